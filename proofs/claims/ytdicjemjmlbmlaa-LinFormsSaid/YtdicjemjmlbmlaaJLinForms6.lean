/- Joined by wip/tools/shake.py for the claim of LinForms: LawF, HLin, LawLinForms. -/
import Derived.Test.YtdicjemjmlbmlaaJLinForms5
import Derived.Shelf.RegionOpenPlain
import Derived.Test.YtdicjemjmlbmlaaJLinForms2
import Derived.Lib.SmallJoins
import Derived.KernelRfl
import Derived.Test.YtdicjemjmlbmlaaRows
import Derived.WalkKit
import Derived.ProofKit
import Derived.OpenShut
import Derived.ShutString
import Derived.ChangeOld
import Derived.Below
import Derived.SizedLaws
import Derived.ChangeSlices
import Derived.Deep.SlicePairs
/- LinForms: the law's walk. -/
namespace Go.Proofs.Ytdicjemjmlbmlaa.H
set_option linter.unusedSimpArgs false
set_option linter.unusedVariables false
open Go.RowKit Go.Proofs.YtdicjemjmlbmlaaW.PrintWords Go.Proofs.YtdicjemjmlbmlaaW.PrintLast Go.Proofs.YtdicjemjmlbmlaaW.PrintMore Go.Proofs.Ytdicjemjmlbmlaa.PA Go.Proofs.Ytdicjemjmlbmlaa.V Go.Proofs.Ytdicjemjmlbmlaa.S
theorem q_PutF {w : World} {b b' : Bool} {A E A' E' : Option Addr} {c d c' d' : Nat} {l l' : List Int} {p p' : List S46} {v : Int} {rb : Bool} {rl : List Int} {rp : List S46} (h1 : RI w A c l) (h2 : RP w E d p) (h3 : RI w A' c' l') (h4 : RP w E' d' p') (hs : Small 20 8 l p) (hs' : Small 20 8 l' p') (hr : putU b b' l l' p p' v = (rb, rl, rp)) :
    Calls Try.prog 26 #[.agg #[.bool b, .slice A l.length c, .slice E p.length d], .int .i64 v, .agg #[.bool b', .slice A' l'.length c', .slice E' p'.length d']] w (AL w rb rl rp) := by
  have h := q_Put (b := b) (b' := b') v h1 h2 h3 h4 hs hs' (by decide) (by decide)
  rw [hr] at h
  exact h.mono (fun _ _ h => h.al)
theorem q_VarF {w : World} {v : Int} {vb : Bool} {vl : List Int} {vp : List S46} (h : vb = (W 0).1 ∧ vl = (W 0).2 ∧ vp = [⟨v, ⟨(W 1).1, (W 1).2⟩⟩]) : Calls Try.prog 31 #[.int .i64 v] w (AL w vb vl vp) := by
  obtain ⟨rfl, rfl, rfl⟩ := h
  exact q_Var v
theorem q_LOfF {w : World} {b : Bool} {A : Option Addr} {c : Nat} {l : List Int} {fb : Bool} {fl : List Int} {fp : List S46} (h1 : RI w A c l) (hl : Lim l ∧ l.length ≤ 1000000) (h : fb = (W (wv b l)).1 ∧ fl = (W (wv b l)).2 ∧ fp = []) :
    Calls Try.prog 30 #[.agg #[.bool b, .slice A l.length c]] w (AL w fb fl fp) := by
  obtain ⟨rfl, rfl, rfl⟩ := h
  exact q_LOf h1 hl.1 hl.2
/-- A sum as it lies. -/
structure RL where
  b : Bool
  A : Option Addr
  c : Nat
  l : List Int
  B : Option Addr
  d : Nat
  p : List S46
def encL (x : RL) : List Value := [.bool x.b, .slice x.A x.l.length x.c, .slice x.B x.p.length x.d]
theorem encL_at : ∀ (ls : List RL) (i : Nat) (x : RL), ls[i]? = some x → (ls.flatMap encL)[i * 3]? = some (.bool x.b) ∧ (ls.flatMap encL)[i * 3 + 1]? = some (.slice x.A x.l.length x.c) ∧ (ls.flatMap encL)[i * 3 + 2]? = some (.slice x.B x.p.length x.d)
  | [], i, x, h => by simp at h
  | y :: r, 0, x, h => by
    rw [List.getElem?_cons_zero] at h
    cases h
    exact ⟨rfl, rfl, rfl⟩
  | y :: r, i + 1, x, h => by
    rw [List.getElem?_cons_succ] at h
    obtain ⟨h1, h2, h3⟩ := encL_at r i x h
    have e : ∀ j, ((y :: r).flatMap encL)[(i + 1) * 3 + j]? = (r.flatMap encL)[i * 3 + j]? := fun j => by
      rw [List.flatMap_cons, List.getElem?_append_right (by show 3 ≤ _; omega)]
      congr 1
      show (i + 1) * 3 + j - 3 = _
      omega
    exact ⟨(e 0).trans h1, (e 1).trans h2, (e 2).trans h3⟩
set_option maxHeartbeats 4000000 in
set_option maxRecDepth 100000 in
theorem law_LinForms (b : Bool) (A1 : Option Addr) (c1 : Nat) (l1 : List Int) (A2 : Option Addr) (c2 : Nat) (p1 : List S46) (b' : Bool) (A3 : Option Addr) (c3 : Nat) (l2 : List Int) (A4 : Option Addr) (c4 : Nat) (p2 : List S46) (v : Int) (w : World) (r1 : RI w A1 c1 l1) (r2 : RP w A2 c2 p1) (r3 : RI w A3 c3 l2) (r4 : RP w A4 c4 p2) (h1 : Lim l1) (h2 : ∀ x ∈ p1, Lim x.f1.f1) (h3 : Lim l2) (h4 : ∀ x ∈ p2, Lim x.f1.f1) :
    Calls Try.prog 7 #[.agg #[.bool b, .slice A1 l1.length c1, .slice A2 p1.length c2], .agg #[.bool b', .slice A3 l2.length c3, .slice A4 p2.length c4], .int .i64 v] w fun e w' => e = .returned (.bool true) ∧ Below w.heap.size w w' := by
  have mixed : Try.prog.follows Departure.mixedOrders = true := by kernel_rfl
  have hu27 := Try.underlying27
  have hu24 := Try.underlying24
  have hu46 := Try.underlying46
  obtain ⟨kk, hkl⟩ := (light_ev b b' l1 l2 p1 p2).rounds
  generalize hlt : (lightB l1 p1 && lightB l2 p2) = lt at hkl
  have HLT := Aside0.mk hlt
  have HLM := Aside0.mk (And.intro (And.intro h1 h2) (And.intro h3 h4))
  have HKL := Aside0.mk hkl
  have R1 := Aside0.mk r1
  have R2 := Aside0.mk r2
  have R3 := Aside0.mk r3
  have R4 := Aside0.mk r4
  have HB := Aside0.mk (Below.refl w.heap.size w)
  clear hlt h1 h2 h3 h4 hkl r1 r2 r3 r4
  go_enter Try.func7, Try.ntmps7
  go_upto_region 3 with (first
    | ((with_reducible refine gate_dst (N := 3) rfl ?_); refine box_event ?hg (N := 3) ?hd (cs := #[.bool b, .slice A1 l1.length c1, .slice A2 p1.length c2]) (t := 27) ?hr ?_; (case hd => rfl); (case hg => rfl); (case hr => first | (go_simp; done) | (go_simp; rfl)); intro gA hg w1 hbox hb; have R1 := Aside0.mk (R1.out.b hb); have R2 := Aside0.mk (R2.out.b hb); have R3 := Aside0.mk (R3.out.b hb); have R4 := Aside0.mk (R4.out.b hb); have HB := Aside0.mk (below_step HB.out hb); have KA := Aside0.mk hbox; clear hg hbox hb)
    | ((with_reducible refine gate_dst (N := 4) rfl ?_); refine box_event ?hg (N := 4) ?hd (cs := #[.bool b', .slice A3 l2.length c3, .slice A4 p2.length c4]) (t := 27) ?hr ?_; (case hd => rfl); (case hg => rfl); (case hr => first | (go_simp; done) | (go_simp; rfl)); intro gB hg w2 hbox hb; have KA := Aside0.mk (blk_below KA.out hb); have R1 := Aside0.mk (R1.out.b hb); have R2 := Aside0.mk (R2.out.b hb); have R3 := Aside0.mk (R3.out.b hb); have R4 := Aside0.mk (R4.out.b hb); have HB := Aside0.mk (below_step HB.out hb); have KB := Aside0.mk hbox; clear hg hbox hb)
    | (go_at_call 9; (with_reducible refine (q_awake _).mono ?_); rintro e w3 ⟨rfl, hb⟩; have KA := Aside0.mk (blk_below KA.out hb); have KB := Aside0.mk (blk_below KB.out hb); have R1 := Aside0.mk (R1.out.b hb); have R2 := Aside0.mk (R2.out.b hb); have R3 := Aside0.mk (R3.out.b hb); have R4 := Aside0.mk (R4.out.b hb); have HB := Aside0.mk (below_step HB.out hb); clear hb; have cKA := blk_all KA.out; have cKB := blk_all KB.out)
    | (go_at_call 10; (with_reducible refine (q_light R1.out R2.out R3.out R4.out HKL.out).mono ?_); rintro e w4 ⟨rfl, hb⟩; have KA := Aside0.mk (blk_below KA.out hb); have KB := Aside0.mk (blk_below KB.out hb); have R1 := Aside0.mk (R1.out.b hb); have R2 := Aside0.mk (R2.out.b hb); have R3 := Aside0.mk (R3.out.b hb); have R4 := Aside0.mk (R4.out.b hb); have HB := Aside0.mk (below_step HB.out hb); clear hb; have cKA := blk_all KA.out; have cKB := blk_all KB.out))
  cases lt with
  | false =>
    go_wp2
    go_ret
    exact ⟨rfl, HB.out⟩
  | true =>
    have hlb := HLT.out
    rw [Bool.and_eq_true] at hlb
    have hs := small_of hlb.1 HLM.out.1.1 HLM.out.1.2
    have hs' := small_of hlb.2 HLM.out.2.1 HLM.out.2.2
    have hvf := fm_var v
    obtain ⟨tb, tl, tp, tn, eb, el, ep, en, nb, nl, np, kb, kl, ks, cb, cl, cp, hT, fT, hE, fE, hN, fN, hk, hsc, fC, fA, fP, fF⟩ := forms (b := b) (b' := b') (v := v) hs hs'
    generalize hae : addU b b' l1 l2 p1 p2 = rA at fA
    obtain ⟨ab, al, ap⟩ := rA
    generalize hpe : putU b b' l1 l2 p1 p2 v = rP at fP
    obtain ⟨ub, ul, up⟩ := rP
    dsimp only at fA fP
    obtain ⟨vb, vl, vp, hve⟩ : ∃ vb vl vp, vb = (W 0).1 ∧ vl = (W 0).2 ∧ vp = [(⟨v, ⟨(W 1).1, (W 1).2⟩⟩ : S46)] := ⟨_, _, _, rfl, rfl, rfl⟩
    have fV : Fm vb vl vp := by
      obtain ⟨rfl, rfl, rfl⟩ := hve
      rw [show (W 0) = (false, []) by unfold W az; simp [dig, digN]]
      exact hvf
    obtain ⟨fb, fl, fp, hfe⟩ : ∃ fb fl fp, fb = (W (wv b l1)).1 ∧ fl = (W (wv b l1)).2 ∧ fp = ([] : List S46) := ⟨_, _, _, rfl, rfl, rfl⟩
    have fF : Fm fb fl fp := by
      obtain ⟨rfl, rfl, rfl⟩ := hfe
      exact fF
    have HT := Aside0.mk hT
    have HE := Aside0.mk hE
    have HNO := Aside0.mk hN
    have HK := Aside0.mk hk
    have HSC := Aside0.mk hsc
    have HAE := Aside0.mk hae
    have HPE := Aside0.mk hpe
    have HVE := Aside0.mk hve
    have HFE := Aside0.mk hfe
    have HS1 := Aside0.mk hs
    have HS2 := Aside0.mk hs'
    have HL1 := Aside0.mk (show Lim l1 ∧ l1.length ≤ 1000000 from ⟨hs.lim, by have := hs.len; omega⟩)
    have HFM := Aside0.mk (show (Fm nb nl np ∧ Fm ab al ap) ∧ (Fm cb cl cp ∧ Fm ub ul up) ∧ (Fm tb tl tp ∧ Fm eb el ep) ∧ (Fm vb vl vp ∧ Fm fb fl fp) from ⟨⟨fN, fA⟩, ⟨fC, fP⟩, ⟨fT, fE⟩, ⟨fV, fF⟩⟩)
    clear hlb hs hs' hvf hT fT hE fE hN fN hk hsc fC fA fP fF hae hpe hve fV hfe HLT HLM
    go_wp2_with (first
      | (go_at_call 11; (with_reducible refine (q_Tight R1.out R2.out HT.out).mono ?_); rintro e w5 ⟨AT, cT, BT, dT, rfl, rT, sT, hb⟩; have KA := Aside0.mk (blk_below KA.out hb); have KB := Aside0.mk (blk_below KB.out hb); have R1 := Aside0.mk (R1.out.b hb); have R2 := Aside0.mk (R2.out.b hb); have R3 := Aside0.mk (R3.out.b hb); have R4 := Aside0.mk (R4.out.b hb); have HB := Aside0.mk (below_step HB.out hb); have RT := Aside0.mk rT; have ST := Aside0.mk sT; clear hb rT sT; have cKA := blk_all KA.out; have cKB := blk_all KB.out)
      | ((with_reducible refine gate_dst (N := 9) rfl ?_); refine box_event ?hg (N := 9) ?hd (cs := #[.bool false, .slice none 0 0, .slice none 0 0]) (t := 27) ?hr ?_; (case hd => rfl); (case hg => rfl); (case hr => first | (go_simp; done) | (go_simp; rfl)); intro gT hg w6 hbox hb; have KT := Aside0.mk hbox; have HN := Aside0.mk hb; have GN := Aside0.mk (show w5.heap.size ≤ gT by rw [hg]; exact Nat.le_refl _); have cKA := blk_all (blk_below KA.out hb); have ngAgT : gA ≠ gT := Nat.ne_of_lt (hg ▸ blk_lt KA.out); have ngTgA : gT ≠ gA := fun e => ngAgT e.symm; have cKB := blk_all (blk_below KB.out hb); have ngBgT : gB ≠ gT := Nat.ne_of_lt (hg ▸ blk_lt KB.out); have ngTgB : gT ≠ gB := fun e => ngBgT e.symm; have cggT := blk_all hbox; have fggT := frz_all hbox; clear hg hbox hb)
      | (go_at_call 13; (with_reducible refine (q_Even (R1.out.b (below_set3 HN.out GN.out _ _ _)) (R2.out.b (below_set3 HN.out GN.out _ _ _)) HE.out).mono ?_); rintro e w7 ⟨AE, cE, BE, dE, rfl, rE, sE, hb⟩; have hx := below_step (below_set3 HN.out GN.out _ _ _) hb; have KT := Aside0.mk (blk_below (blk_put3 KT.out _ _ _) hb); have KA := Aside0.mk (blk_below KA.out hx); have KB := Aside0.mk (blk_below KB.out hx); have R1 := Aside0.mk (R1.out.b hx); have R2 := Aside0.mk (R2.out.b hx); have R3 := Aside0.mk (R3.out.b hx); have R4 := Aside0.mk (R4.out.b hx); have RT := Aside0.mk (RT.out.b hx); have ST := Aside0.mk (ST.out.b hx); have HB := Aside0.mk (below_step HB.out hx); have RE := Aside0.mk rE; have SE := Aside0.mk sE; clear hb hx rE sE HN GN cggT fggT; have cKA := blk_all KA.out; have cKB := blk_all KB.out)
      | ((with_reducible refine gate_dst (N := 11) rfl ?_); refine box_event ?hg (N := 11) ?hd (cs := #[.bool false, .slice none 0 0, .slice none 0 0]) (t := 27) ?hr ?_; (case hd => rfl); (case hg => rfl); (case hr => first | (go_simp; done) | (go_simp; rfl)); intro gE hg w8 hbox hb; have KE := Aside0.mk hbox; have HN := Aside0.mk hb; have GN := Aside0.mk (show w7.heap.size ≤ gE by rw [hg]; exact Nat.le_refl _); have cggE := blk_all hbox; have fggE := frz_all hbox; clear hg hbox hb))
    have hd := below_set3 HN.out GN.out (.bool eb) (.slice AE el.length cE) (.slice BE ep.length dE)
    have KA := Aside0.mk (blk_below KA.out hd); have KB := Aside0.mk (blk_below KB.out hd); have KT := Aside0.mk (blk_below KT.out hd); have R1 := Aside0.mk (R1.out.b hd); have R2 := Aside0.mk (R2.out.b hd); have R3 := Aside0.mk (R3.out.b hd); have R4 := Aside0.mk (R4.out.b hd); have RT := Aside0.mk (RT.out.b hd); have ST := Aside0.mk (ST.out.b hd); have RE := Aside0.mk (RE.out.b hd); have SE := Aside0.mk (SE.out.b hd); have HB := Aside0.mk (below_step HB.out hd); have KE := Aside0.mk (blk_put3 KE.out (.bool eb) (.slice AE el.length cE) (.slice BE ep.length dE))
    clear hd HN GN cggE fggE
    generalize (((w8.setCell ⟨gE, 0, none⟩ (.bool eb)).setCell ⟨gE, 1, none⟩ (.slice AE el.length cE)).setCell ⟨gE, 2, none⟩ (.slice BE ep.length dE)) = w9 at *
    refine start_ (n := 21) (S := fun w' => (∀ i : Nat, w'.cell? ⟨gA, i, none⟩ = (#[.bool b, .slice A1 l1.length c1, .slice A2 p1.length c2] : Array Value)[i]?) ∧ (∀ i : Nat, w'.cell? ⟨gB, i, none⟩ = (#[.bool b', .slice A3 l2.length c3, .slice A4 p2.length c4] : Array Value)[i]?) ∧ (∀ i : Nat, w'.cell? ⟨gT, i, none⟩ = (#[.bool tb, .slice AT tl.length cT, .slice BT tp.length dT] : Array Value)[i]?) ∧ (∀ i : Nat, w'.cell? ⟨gE, i, none⟩ = (#[.bool eb, .slice AE el.length cE, .slice BE ep.length dE] : Array Value)[i]?)) (ds := []) #[false, false, false, false, false, false, false, false, false, false, false, false, false, false, false, false, false, false, false, false, false] (by kernel_rfl) rfl rfl ⟨blk_all KA.out, blk_all KB.out, blk_all KT.out, blk_all KE.out⟩ (fun hHeld => ?_)
    refine pure_ (i := 9) (N := some 47) (v := ?_) (a' := ?_) #[false, false, false, false, false, false, false, false, false, true, false, false, false, false, false, false, false, false, false, false, false] rfl rfl (by kernel_rfl) (fun _ _ _ h => h) (Or.inl ⟨by rfl, ?_⟩) ?_ ?_
    rotate_left
    · intro w'
      go_simp
      with_reducible rfl
    rotate_left
    · simp only [Act.put, List.setIfInBounds_toArray, List.set_cons_zero, List.set_cons_succ, i64_w, i32_w]
      rfl
    refine pure_ (i := 14) (N := some 52) (v := ?_) (a' := ?_) #[false, false, false, false, false, false, false, false, false, true, false, false, false, false, true, false, false, false, false, false, false] rfl rfl (by kernel_rfl) (fun _ _ _ h => h) (Or.inl ⟨by rfl, ?_⟩) ?_ ?_
    rotate_left
    · intro w'
      go_simp
      with_reducible rfl
    rotate_left
    · simp only [Act.put, List.setIfInBounds_toArray, List.set_cons_zero, List.set_cons_succ, i64_w, i32_w]
      rfl
    refine pure_ (i := 16) (N := some 54) (v := ?_) (a' := ?_) #[false, false, false, false, false, false, false, false, false, true, false, false, false, false, true, false, true, false, false, false, false] rfl rfl (by kernel_rfl) (fun _ _ _ h => h) (Or.inl ⟨by rfl, ?_⟩) ?_ ?_
    rotate_left
    · intro w'
      go_simp
      with_reducible rfl
    rotate_left
    · simp only [Act.put, List.setIfInBounds_toArray, List.set_cons_zero, List.set_cons_succ, i64_w, i32_w]
      rfl
    refine take_ (i := 0) (N := some 38) (v := ?_) (a' := ?_) #[true, false, false, false, false, false, false, false, false, true, false, false, false, false, true, false, true, false, false, false, false] rfl rfl (by kernel_rfl) (fun _ _ _ h => h) (Or.inl ⟨by rfl, ?_⟩) hHeld ?_ ?_
    rotate_left
    · rintro w' ⟨s0, s1, s2, s3⟩
      go_simp
      with_reducible rfl
    rotate_left
    · simp only [Act.put, List.setIfInBounds_toArray, List.set_cons_zero, List.set_cons_succ, i64_w, i32_w]
      rfl
    refine take_ (i := 2) (N := some 40) (v := ?_) (a' := ?_) #[true, false, true, false, false, false, false, false, false, true, false, false, false, false, true, false, true, false, false, false, false] rfl rfl (by kernel_rfl) (fun _ _ _ h => h) (Or.inl ⟨by rfl, ?_⟩) hHeld ?_ ?_
    rotate_left
    · rintro w' ⟨s0, s1, s2, s3⟩
      go_simp
      with_reducible rfl
    rotate_left
    · simp only [Act.put, List.setIfInBounds_toArray, List.set_cons_zero, List.set_cons_succ, i64_w, i32_w]
      rfl
    refine take_ (i := 3) (N := some 41) (v := ?_) (a' := ?_) #[true, false, true, true, false, false, false, false, false, true, false, false, false, false, true, false, true, false, false, false, false] rfl rfl (by kernel_rfl) (fun _ _ _ h => h) (Or.inl ⟨by rfl, ?_⟩) hHeld ?_ ?_
    rotate_left
    · rintro w' ⟨s0, s1, s2, s3⟩
      go_simp
      with_reducible rfl
    rotate_left
    · simp only [Act.put, List.setIfInBounds_toArray, List.set_cons_zero, List.set_cons_succ, i64_w, i32_w]
      rfl
    refine take_ (i := 5) (N := some 43) (v := ?_) (a' := ?_) #[true, false, true, true, false, true, false, false, false, true, false, false, false, false, true, false, true, false, false, false, false] rfl rfl (by kernel_rfl) (fun _ _ _ h => h) (Or.inl ⟨by rfl, ?_⟩) hHeld ?_ ?_
    rotate_left
    · rintro w' ⟨s0, s1, s2, s3⟩
      go_simp
      with_reducible rfl
    rotate_left
    · simp only [Act.put, List.setIfInBounds_toArray, List.set_cons_zero, List.set_cons_succ, i64_w, i32_w]
      rfl
    refine take_ (i := 8) (N := some 46) (v := ?_) (a' := ?_) #[true, false, true, true, false, true, false, false, true, true, false, false, false, false, true, false, true, false, false, false, false] rfl rfl (by kernel_rfl) (fun _ _ _ h => h) (Or.inl ⟨by rfl, ?_⟩) hHeld ?_ ?_
    rotate_left
    · rintro w' ⟨s0, s1, s2, s3⟩
      go_simp
      with_reducible rfl
    rotate_left
    · simp only [Act.put, List.setIfInBounds_toArray, List.set_cons_zero, List.set_cons_succ, i64_w, i32_w]
      rfl
    refine take_ (i := 10) (N := some 48) (v := ?_) (a' := ?_) #[true, false, true, true, false, true, false, false, true, true, true, false, false, false, true, false, true, false, false, false, false] rfl rfl (by kernel_rfl) (fun _ _ _ h => h) (Or.inl ⟨by rfl, ?_⟩) hHeld ?_ ?_
    rotate_left
    · rintro w' ⟨s0, s1, s2, s3⟩
      go_simp
      with_reducible rfl
    rotate_left
    · simp only [Act.put, List.setIfInBounds_toArray, List.set_cons_zero, List.set_cons_succ, i64_w, i32_w]
      rfl
    refine take_ (i := 12) (N := some 50) (v := ?_) (a' := ?_) #[true, false, true, true, false, true, false, false, true, true, true, false, true, false, true, false, true, false, false, false, false] rfl rfl (by kernel_rfl) (fun _ _ _ h => h) (Or.inl ⟨by rfl, ?_⟩) hHeld ?_ ?_
    rotate_left
    · rintro w' ⟨s0, s1, s2, s3⟩
      go_simp
      with_reducible rfl
    rotate_left
    · simp only [Act.put, List.setIfInBounds_toArray, List.set_cons_zero, List.set_cons_succ, i64_w, i32_w]
      rfl
    refine take_ (i := 13) (N := some 51) (v := ?_) (a' := ?_) #[true, false, true, true, false, true, false, false, true, true, true, false, true, true, true, false, true, false, false, false, false] rfl rfl (by kernel_rfl) (fun _ _ _ h => h) (Or.inl ⟨by rfl, ?_⟩) hHeld ?_ ?_
    rotate_left
    · rintro w' ⟨s0, s1, s2, s3⟩
      go_simp
      with_reducible rfl
    rotate_left
    · simp only [Act.put, List.setIfInBounds_toArray, List.set_cons_zero, List.set_cons_succ, i64_w, i32_w]
      rfl
    refine take_ (i := 17) (N := some 55) (v := ?_) (a' := ?_) #[true, false, true, true, false, true, false, false, true, true, true, false, true, true, true, false, true, true, false, false, false] rfl rfl (by kernel_rfl) (fun _ _ _ h => h) (Or.inl ⟨by rfl, ?_⟩) hHeld ?_ ?_
    rotate_left
    · rintro w' ⟨s0, s1, s2, s3⟩
      go_simp
      with_reducible rfl
    rotate_left
    · simp only [Act.put, List.setIfInBounds_toArray, List.set_cons_zero, List.set_cons_succ, i64_w, i32_w]
      rfl
    refine one_ (i := 1) (N := some 39) #[true, true, true, true, false, true, false, false, true, true, true, false, true, true, true, false, true, true, false, false, false] rfl rfl (by kernel_rfl) (by decide) (fun K hK => ?_)
    refine goes_ Try.func20 (by kernel_rfl) rfl #[.agg #[.bool b, .slice A1 l1.length c1, .slice A2 p1.length c2]] (by rfl) rfl rfl (by simp only [List.map_toArray, List.map_cons, List.map_nil]; rfl) ?_
    refine (q_Norm (R1.out.b (below_drew1 (Below.refl w9.heap.size w9))) (R2.out.b (below_drew1 (Below.refl w9.heap.size w9))) HNO.out).mono ?_
    rintro e w301 ⟨AN, cN, BN, dN, rfl, rN, sN, hb⟩
    have hb := below_step (below_drew1 (Below.refl w9.heap.size w9)) hb
    have KA := Aside0.mk (blk_below KA.out hb); have KB := Aside0.mk (blk_below KB.out hb); have KT := Aside0.mk (blk_below KT.out hb); have KE := Aside0.mk (blk_below KE.out hb); have R1 := Aside0.mk (R1.out.b hb); have R2 := Aside0.mk (R2.out.b hb); have R3 := Aside0.mk (R3.out.b hb); have R4 := Aside0.mk (R4.out.b hb); have RT := Aside0.mk (RT.out.b hb); have ST := Aside0.mk (ST.out.b hb); have RE := Aside0.mk (RE.out.b hb); have SE := Aside0.mk (SE.out.b hb); have HB := Aside0.mk (below_step HB.out hb)
    have RN := Aside0.mk rN
    have SN := Aside0.mk sN
    clear hb rN sN
    refine ⟨_, rfl, ?_⟩
    refine hK.out _ _ ⟨blk_all KA.out, blk_all KB.out, blk_all KT.out, blk_all KE.out⟩ (fun hHeld => ?_)
    clear hK K
    refine norm_ (a' := ?_) ?_ ?_
    rotate_left
    · show Act.put _ (some 39) _ = _
      simp only [Act.put, List.setIfInBounds_toArray, List.set_cons_zero, List.set_cons_succ, i64_w, i32_w]
      rfl
    refine one_ (i := 4) (N := some 42) #[true, true, true, true, true, true, false, false, true, true, true, false, true, true, true, false, true, true, false, false, false] rfl rfl (by kernel_rfl) (by decide) (fun K hK => ?_)
    refine goes_ Try.func22 (by kernel_rfl) rfl #[.agg #[.bool b, .slice A1 l1.length c1, .slice A2 p1.length c2], .agg #[.bool b', .slice A3 l2.length c3, .slice A4 p2.length c4]] (by rfl) rfl rfl (by simp only [List.map_toArray, List.map_cons, List.map_nil]; rfl) ?_
    refine ((q_LAddO R1.out R2.out R3.out R4.out HS1.out HS2.out HAE.out (by decide) (by decide)).mono (fun _ _ h => h.al)).mono ?_
    rintro e w302 ⟨AD, cD, BD, dD, rfl, rD, sD, hb⟩
    have KA := Aside0.mk (blk_below KA.out hb); have KB := Aside0.mk (blk_below KB.out hb); have KT := Aside0.mk (blk_below KT.out hb); have KE := Aside0.mk (blk_below KE.out hb); have R1 := Aside0.mk (R1.out.b hb); have R2 := Aside0.mk (R2.out.b hb); have R3 := Aside0.mk (R3.out.b hb); have R4 := Aside0.mk (R4.out.b hb); have RT := Aside0.mk (RT.out.b hb); have ST := Aside0.mk (ST.out.b hb); have RE := Aside0.mk (RE.out.b hb); have SE := Aside0.mk (SE.out.b hb); have RN := Aside0.mk (RN.out.b hb); have SN := Aside0.mk (SN.out.b hb); have HB := Aside0.mk (below_step HB.out hb)
    have RD := Aside0.mk rD
    have SD := Aside0.mk sD
    clear hb rD sD
    refine ⟨_, rfl, ?_⟩
    refine hK.out _ _ ⟨blk_all KA.out, blk_all KB.out, blk_all KT.out, blk_all KE.out⟩ (fun hHeld => ?_)
    clear hK K
    refine norm_ (a' := ?_) ?_ ?_
    rotate_left
    · show Act.put _ (some 42) _ = _
      simp only [Act.put, List.setIfInBounds_toArray, List.set_cons_zero, List.set_cons_succ, i64_w, i32_w]
      rfl
    refine one_ (i := 6) (N := some 44) #[true, true, true, true, true, true, true, false, true, true, true, false, true, true, true, false, true, true, false, false, false] rfl rfl (by kernel_rfl) (by decide) (fun K hK => ?_)
    refine goes_ Try.func33 (by kernel_rfl) rfl #[.int .i64 (-3)] (by rfl) rfl rfl (by simp only [List.map_toArray, List.map_cons, List.map_nil]; rfl) ?_
    refine (q_Of HK.out).mono ?_
    rintro e w303 ⟨AK, cK, rfl, oK, hb⟩
    have KA := Aside0.mk (blk_below KA.out hb); have KB := Aside0.mk (blk_below KB.out hb); have KT := Aside0.mk (blk_below KT.out hb); have KE := Aside0.mk (blk_below KE.out hb); have R1 := Aside0.mk (R1.out.b hb); have R2 := Aside0.mk (R2.out.b hb); have R3 := Aside0.mk (R3.out.b hb); have R4 := Aside0.mk (R4.out.b hb); have RT := Aside0.mk (RT.out.b hb); have ST := Aside0.mk (ST.out.b hb); have RE := Aside0.mk (RE.out.b hb); have SE := Aside0.mk (SE.out.b hb); have RN := Aside0.mk (RN.out.b hb); have SN := Aside0.mk (SN.out.b hb); have RD := Aside0.mk (RD.out.b hb); have SD := Aside0.mk (SD.out.b hb); have HB := Aside0.mk (below_step HB.out hb)
    have RK := Aside0.mk oK.r
    clear hb 
    refine ⟨_, rfl, ?_⟩
    refine hK.out _ _ ⟨blk_all KA.out, blk_all KB.out, blk_all KT.out, blk_all KE.out⟩ (fun hHeld => ?_)
    clear hK K
    refine norm_ (a' := ?_) ?_ ?_
    rotate_left
    · show Act.put _ (some 44) _ = _
      simp only [Act.put, List.setIfInBounds_toArray, List.set_cons_zero, List.set_cons_succ, i64_w, i32_w]
      rfl
    refine one_ (i := 7) (N := some 45) #[true, true, true, true, true, true, true, true, true, true, true, false, true, true, true, false, true, true, false, false, false] rfl rfl (by kernel_rfl) (by decide) (fun K hK => ?_)
    refine goes_ Try.func24 (by kernel_rfl) rfl #[.agg #[.bool b, .slice A1 l1.length c1, .slice A2 p1.length c2], .agg #[.bool kb, .slice AK kl.length cK]] (by rfl) rfl rfl (by simp only [List.map_toArray, List.map_cons, List.map_nil]; rfl) ?_
    refine ((q_ScaleO R1.out R2.out RK.out HSC.out).mono (fun _ _ h => h.al)).mono ?_
    rintro e w304 ⟨AC, cC, BC, dC, rfl, rC, sC, hb⟩
    have KA := Aside0.mk (blk_below KA.out hb); have KB := Aside0.mk (blk_below KB.out hb); have KT := Aside0.mk (blk_below KT.out hb); have KE := Aside0.mk (blk_below KE.out hb); have R1 := Aside0.mk (R1.out.b hb); have R2 := Aside0.mk (R2.out.b hb); have R3 := Aside0.mk (R3.out.b hb); have R4 := Aside0.mk (R4.out.b hb); have RT := Aside0.mk (RT.out.b hb); have ST := Aside0.mk (ST.out.b hb); have RE := Aside0.mk (RE.out.b hb); have SE := Aside0.mk (SE.out.b hb); have RN := Aside0.mk (RN.out.b hb); have SN := Aside0.mk (SN.out.b hb); have RD := Aside0.mk (RD.out.b hb); have SD := Aside0.mk (SD.out.b hb); have RK := Aside0.mk (RK.out.b hb); have HB := Aside0.mk (below_step HB.out hb)
    have RC := Aside0.mk rC
    have SC := Aside0.mk sC
    clear hb rC sC
    refine ⟨_, rfl, ?_⟩
    refine hK.out _ _ ⟨blk_all KA.out, blk_all KB.out, blk_all KT.out, blk_all KE.out⟩ (fun hHeld => ?_)
    clear hK K
    refine norm_ (a' := ?_) ?_ ?_
    rotate_left
    · show Act.put _ (some 45) _ = _
      simp only [Act.put, List.setIfInBounds_toArray, List.set_cons_zero, List.set_cons_succ, i64_w, i32_w]
      rfl
    refine one_ (i := 11) (N := some 49) #[true, true, true, true, true, true, true, true, true, true, true, true, true, true, true, false, true, true, false, false, false] rfl rfl (by kernel_rfl) (by decide) (fun K hK => ?_)
    refine goes_ Try.func26 (by kernel_rfl) rfl #[.agg #[.bool b, .slice A1 l1.length c1, .slice A2 p1.length c2], .int .i64 v, .agg #[.bool b', .slice A3 l2.length c3, .slice A4 p2.length c4]] (by rfl) rfl rfl (by simp only [List.map_toArray, List.map_cons, List.map_nil]; rfl) ?_
    refine (q_PutF R1.out R2.out R3.out R4.out HS1.out HS2.out HPE.out).mono ?_
    rintro e w305 ⟨AU, cU, BU, dU, rfl, rU, sU, hb⟩
    have KA := Aside0.mk (blk_below KA.out hb); have KB := Aside0.mk (blk_below KB.out hb); have KT := Aside0.mk (blk_below KT.out hb); have KE := Aside0.mk (blk_below KE.out hb); have R1 := Aside0.mk (R1.out.b hb); have R2 := Aside0.mk (R2.out.b hb); have R3 := Aside0.mk (R3.out.b hb); have R4 := Aside0.mk (R4.out.b hb); have RT := Aside0.mk (RT.out.b hb); have ST := Aside0.mk (ST.out.b hb); have RE := Aside0.mk (RE.out.b hb); have SE := Aside0.mk (SE.out.b hb); have RN := Aside0.mk (RN.out.b hb); have SN := Aside0.mk (SN.out.b hb); have RD := Aside0.mk (RD.out.b hb); have SD := Aside0.mk (SD.out.b hb); have RC := Aside0.mk (RC.out.b hb); have SC := Aside0.mk (SC.out.b hb); have HB := Aside0.mk (below_step HB.out hb)
    have RU := Aside0.mk rU
    have SU := Aside0.mk sU
    clear hb rU sU
    refine ⟨_, rfl, ?_⟩
    refine hK.out _ _ ⟨blk_all KA.out, blk_all KB.out, blk_all KT.out, blk_all KE.out⟩ (fun hHeld => ?_)
    clear hK K
    refine norm_ (a' := ?_) ?_ ?_
    rotate_left
    · show Act.put _ (some 49) _ = _
      simp only [Act.put, List.setIfInBounds_toArray, List.set_cons_zero, List.set_cons_succ, i64_w, i32_w]
      rfl
    refine one_ (i := 15) (N := some 53) #[true, true, true, true, true, true, true, true, true, true, true, true, true, true, true, true, true, true, false, false, false] rfl rfl (by kernel_rfl) (by decide) (fun K hK => ?_)
    refine goes_ Try.func31 (by kernel_rfl) rfl #[.int .i64 v] (by rfl) rfl rfl (by simp only [List.map_toArray, List.map_cons, List.map_nil]; rfl) ?_
    refine (q_VarF HVE.out).mono ?_
    rintro e w306 ⟨AV, cV, BV, dV, rfl, rV, sV, hb⟩
    have KA := Aside0.mk (blk_below KA.out hb); have KB := Aside0.mk (blk_below KB.out hb); have KT := Aside0.mk (blk_below KT.out hb); have KE := Aside0.mk (blk_below KE.out hb); have R1 := Aside0.mk (R1.out.b hb); have R2 := Aside0.mk (R2.out.b hb); have R3 := Aside0.mk (R3.out.b hb); have R4 := Aside0.mk (R4.out.b hb); have RT := Aside0.mk (RT.out.b hb); have ST := Aside0.mk (ST.out.b hb); have RE := Aside0.mk (RE.out.b hb); have SE := Aside0.mk (SE.out.b hb); have RN := Aside0.mk (RN.out.b hb); have SN := Aside0.mk (SN.out.b hb); have RD := Aside0.mk (RD.out.b hb); have SD := Aside0.mk (SD.out.b hb); have RC := Aside0.mk (RC.out.b hb); have SC := Aside0.mk (SC.out.b hb); have RU := Aside0.mk (RU.out.b hb); have SU := Aside0.mk (SU.out.b hb); have HB := Aside0.mk (below_step HB.out hb)
    have RV := Aside0.mk rV
    have SV := Aside0.mk sV
    clear hb rV sV
    refine ⟨_, rfl, ?_⟩
    refine hK.out _ _ ⟨blk_all KA.out, blk_all KB.out, blk_all KT.out, blk_all KE.out⟩ (fun hHeld => ?_)
    clear hK K
    refine norm_ (a' := ?_) ?_ ?_
    rotate_left
    · show Act.put _ (some 53) _ = _
      simp only [Act.put, List.setIfInBounds_toArray, List.set_cons_zero, List.set_cons_succ, i64_w, i32_w]
      rfl
    refine one_ (i := 18) (N := some 56) #[true, true, true, true, true, true, true, true, true, true, true, true, true, true, true, true, true, true, true, false, false] rfl rfl (by kernel_rfl) (by decide) (fun K hK => ?_)
    refine goes_ Try.func30 (by kernel_rfl) rfl #[.agg #[.bool b, .slice A1 l1.length c1]] (by rfl) rfl rfl (by simp only [List.map_toArray, List.map_cons, List.map_nil]; rfl) ?_
    refine (q_LOfF R1.out HL1.out HFE.out).mono ?_
    rintro e w307 ⟨AF, cF, BF, dF, rfl, rF, sF, hb⟩
    have KA := Aside0.mk (blk_below KA.out hb); have KB := Aside0.mk (blk_below KB.out hb); have KT := Aside0.mk (blk_below KT.out hb); have KE := Aside0.mk (blk_below KE.out hb); have R1 := Aside0.mk (R1.out.b hb); have R2 := Aside0.mk (R2.out.b hb); have R3 := Aside0.mk (R3.out.b hb); have R4 := Aside0.mk (R4.out.b hb); have RT := Aside0.mk (RT.out.b hb); have ST := Aside0.mk (ST.out.b hb); have RE := Aside0.mk (RE.out.b hb); have SE := Aside0.mk (SE.out.b hb); have RN := Aside0.mk (RN.out.b hb); have SN := Aside0.mk (SN.out.b hb); have RD := Aside0.mk (RD.out.b hb); have SD := Aside0.mk (SD.out.b hb); have RC := Aside0.mk (RC.out.b hb); have SC := Aside0.mk (SC.out.b hb); have RU := Aside0.mk (RU.out.b hb); have SU := Aside0.mk (SU.out.b hb); have RV := Aside0.mk (RV.out.b hb); have SV := Aside0.mk (SV.out.b hb); have HB := Aside0.mk (below_step HB.out hb)
    have RF := Aside0.mk rF
    have SF := Aside0.mk sF
    clear hb rF sF
    refine ⟨_, rfl, ?_⟩
    refine hK.out _ _ ⟨blk_all KA.out, blk_all KB.out, blk_all KT.out, blk_all KE.out⟩ (fun hHeld => ?_)
    clear hK K
    refine norm_ (a' := ?_) ?_ ?_
    rotate_left
    · show Act.put _ (some 56) _ = _
      simp only [Act.put, List.setIfInBounds_toArray, List.set_cons_zero, List.set_cons_succ, i64_w, i32_w]
      rfl
    refine one_ (i := 19) (N := some 57) #[true, true, true, true, true, true, true, true, true, true, true, true, true, true, true, true, true, true, true, true, false] rfl rfl (by kernel_rfl) (by decide) (fun K hK => ?_)
    refine value_ (w1 := ?_) (v := ?_) (by rfl) rfl ?_ ?_
    rotate_left 2
    · go_simp
      constructor
      · rfl
      · rfl
    refine hK.out _ _ ⟨blk_all (blk_below KA.out (below_alloc (Below.refl _ _) _)), blk_all (blk_below KB.out (below_alloc (Below.refl _ _) _)), blk_all (blk_below KT.out (below_alloc (Below.refl _ _) _)), blk_all (blk_below KE.out (below_alloc (Below.refl _ _) _))⟩ (fun hHeld => ?_)
    clear hK K
    refine norm_ (a' := ?_) ?_ ?_
    rotate_left
    · show Act.put _ (some 57) _ = _
      simp only [Act.put, List.setIfInBounds_toArray, List.set_cons_zero, List.set_cons_succ, i64_w, i32_w]
      rfl
    refine pure_ (i := 20) (N := some 13) (v := ?_) (a' := ?_) #[true, true, true, true, true, true, true, true, true, true, true, true, true, true, true, true, true, true, true, true, true] rfl rfl (by kernel_rfl) (fun _ _ _ h => h) (Or.inl ⟨by rfl, ?_⟩) ?_ ?_
    rotate_left
    · intro w'
      go_simp
      with_reducible rfl
    rotate_left
    · simp only [Act.put, List.setIfInBounds_toArray, List.set_cons_zero, List.set_cons_succ, i64_w, i32_w]
      rfl
    refine done_ (by kernel_rfl) ?_

    go_wp2_with fail
    obtain ⟨ls, hls⟩ : ∃ ls : List RL, ls = [⟨nb, AN, cN, nl, BN, dN, np⟩, ⟨ab, AD, cD, al, BD, dD, ap⟩, ⟨cb, AC, cC, cl, BC, dC, cp⟩, ⟨ub, AU, cU, ul, BU, dU, up⟩, ⟨tb, AT, cT, tl, BT, dT, tp⟩, ⟨eb, AE, cE, el, BE, dE, ep⟩, ⟨vb, AV, cV, vl, BV, dV, vp⟩, ⟨fb, AF, cF, fl, BF, dF, fp⟩] := ⟨_, rfl⟩
    have hlen : ls.length = 8 := by rw [hls]; rfl
    have hlf : ∀ x ∈ ls, Fm x.b x.l x.p := by
      rw [hls]
      have h := HFM.out
      intro x hx
      simp only [List.mem_cons, List.not_mem_nil, or_false] at hx
      rcases hx with rfl | rfl | rfl | rfl | rfl | rfl | rfl | rfl
      · exact h.1.1
      · exact h.1.2
      · exact h.2.1.1
      · exact h.2.1.2
      · exact h.2.2.1.1
      · exact h.2.2.1.2
      · exact h.2.2.2.1
      · exact h.2.2.2.2
    have hlr : ∀ x ∈ ls, RI w307 x.A x.c x.l ∧ RP w307 x.B x.d x.p := by
      rw [hls]
      intro x hx
      simp only [List.mem_cons, List.not_mem_nil, or_false] at hx
      rcases hx with rfl | rfl | rfl | rfl | rfl | rfl | rfl | rfl
      · exact ⟨RN.out, SN.out⟩
      · exact ⟨RD.out, SD.out⟩
      · exact ⟨RC.out, SC.out⟩
      · exact ⟨RU.out, SU.out⟩
      · exact ⟨RT.out, ST.out⟩
      · exact ⟨RE.out, SE.out⟩
      · exact ⟨RV.out, SV.out⟩
      · exact ⟨RF.out, SF.out⟩
    have hcell : ∀ W1 : World, W1.heap[w307.heap.size]? = some (.cells #[.bool nb, .slice AN nl.length cN, .slice BN np.length dN, .bool ab, .slice AD al.length cD, .slice BD ap.length dD, .bool cb, .slice AC cl.length cC, .slice BC cp.length dC, .bool ub, .slice AU ul.length cU, .slice BU up.length dU, .bool tb, .slice AT tl.length cT, .slice BT tp.length dT, .bool eb, .slice AE el.length cE, .slice BE ep.length dE, .bool vb, .slice AV vl.length cV, .slice BV vp.length dV, .bool fb, .slice AF fl.length cF, .slice BF fp.length dF] 27 (0, 0)) → W1.heap[w307.heap.size]? = some (.cells (ls.flatMap encL).toArray 27 (0, 0)) := fun W1 h => by rw [h, hls]; rfl
    have HLEN := Aside0.mk hlen
    have HLF := Aside0.mk hlf
    have HLR := Aside0.mk hlr
    have HCE := Aside0.mk hcell
    clear hls hlen hlf hlr hcell
    go_loopg [14] 9 (fun kq v14 wr => ∃ i : Int, v14 = .int .i64 i ∧ Aside0 (0 ≤ i ∧ i ≤ 8) ∧ Aside0 (8 - i < (kq : Int)) ∧ Aside0 (wr.heap[w307.heap.size]? = some (.cells (ls.flatMap encL).toArray 27 (0, 0))) ∧ Aside0 (Below w307.heap.size w307 wr))
    case atStart => exact ⟨0, rfl, ⟨by omega⟩, ⟨by omega⟩, ⟨HCE.out _ (blk_new _ _)⟩, ⟨below_alloc (Below.refl _ _) _⟩⟩
    case round =>
      obtain ⟨i, rfl, HI, HQ, BL, HBr⟩ := hrel
      obtain ⟨wo, rfl⟩ : ∃ wo : World, wo = wr := ⟨_, rfl⟩
      cases gk with
      | zero => exact absurd HQ.out (by have := HI.out; omega)
      | succ k1 =>
      by_cases hc : i < 8
      · obtain ⟨x, hx⟩ : ∃ x, ls[i.toNat]? = some x := ⟨_, List.getElem?_eq_getElem (by have := HLEN.out; have := HI.out; omega)⟩
        have hmem := List.mem_of_getElem? hx
        have hfm := HLF.out x hmem
        have hri := HLR.out x hmem
        obtain ⟨e0, e1, e2⟩ := encL_at ls i.toNat x hx
        obtain ⟨xb, XA, xc, xl, XB, xd, xp⟩ := x
        dsimp only at hfm hri e0 e1 e2
        obtain ⟨rs, hp, hr, hd⟩ := raws hri.2.r
        have X0 : wo.cell? ⟨w307.heap.size, i.toNat * 3, none⟩ = some (.bool xb) := (blk_cell BL.out _).trans (by rw [List.getElem?_toArray]; exact e0)
        have X1 : wo.cell? ⟨w307.heap.size, i.toNat * 3 + 1, none⟩ = some (.slice XA xl.length xc) := (blk_cell BL.out _).trans (by rw [List.getElem?_toArray]; exact e1)
        have X2 : wo.cell? ⟨w307.heap.size, i.toNat * 3 + 2, none⟩ = some (.slice XB xp.length xd) := (blk_cell BL.out _).trans (by rw [List.getElem?_toArray]; exact e2)
        have RX := Aside0.mk (hri.1.b HBr.out)
        have SX := Aside0.mk (hri.2.b HBr.out)
        have HFX := Aside0.mk hfm
        have HPX := Aside0.mk hp
        have HRX := Aside0.mk hr
        have HDX := Aside0.mk hd
        have HX0 := Aside0.mk X0
        have HX1 := Aside0.mk X1
        have HX2 := Aside0.mk X2
        have HWI := Aside0.mk (show wrap64 (i + 1) = i + 1 by have := HI.out; unfold wrap64; omega)
        have HI1 := Aside0.mk (show 0 ≤ i + 1 ∧ i + 1 ≤ 8 by have := HI.out; omega)
        have HQ1 := Aside0.mk (show 8 - (i + 1) < (k1 : Int) by have := HQ.out; omega)
        have HPL := Aside0.mk (show xp.length ≤ 1000000 from hfm.len)
        have d1 : decide (i < 8) = true := decide_eq_true hc
        have d2 : decide (0 ≤ i) = true := decide_eq_true HI.out.1
        have p1 : (0 ≤ i) = True := eq_true HI.out.1
        have p2 : (i < 8) = True := eq_true hc
        have p3 : (i < (8 : Nat)) = True := eq_true hc
        clear hmem hfm hri e0 e1 e2 hp hr hd hx hc X0 X1 X2
        go_wp2
        go_loopg [15] (xp.length + 1) (fun kq v15 wi => ∃ k : Int, v15 = .int .i64 k ∧ Aside0 (0 ≤ k ∧ k ≤ (xp.length : Int)) ∧ Aside0 ((xp.length : Int) - k < (kq : Int)) ∧ Aside0 (Below wo.heap.size wo wi))
        case atStart => exact ⟨0, rfl, ⟨by omega⟩, ⟨by omega⟩, ⟨Below.refl _ _⟩⟩
        case round =>
          obtain ⟨k, rfl, HK, HKQ, HBi⟩ := hrel
          have L0 := pw_cell_below HBi.out HX0.out
          have L1 := pw_cell_below HBi.out HX1.out
          have L2 := pw_cell_below HBi.out HX2.out
          cases gk with
          | zero => exact absurd HKQ.out (by have := HK.out; omega)
          | succ k2 =>
          by_cases hk : k < (xp.length : Int)
          · obtain ⟨ad, m, eA, hm, hm0, hm1, hm2⟩ := cM_at HRX.out k HK.out.1 hk
            cases eA
            have hw := below_step HBr.out HBi.out
            have M0 := pw_cell_below hw hm0
            have M1 := pw_cell_below hw hm1
            have M2 := pw_cell_below hw hm2
            have hmm := List.mem_of_getElem? hm
            have hxk : xp[k.toNat]? = some (toM m) := by rw [← HPX.out, List.getElem?_map, hm]; rfl
            have hlx := (HDX.out _ hmm).below hw
            obtain ⟨s, hs, hs0⟩ := HFX.out.sign (List.mem_of_getElem? hxk)
            obtain ⟨mv, mb, MA, mc, ml⟩ := m
            have LX := Aside0.mk (show RI wr MA mc ml from ⟨hlx.2, hlx.1⟩)
            have HSG := Aside0.mk (show whole_Sign.f mb ml = some s from hs)
            dsimp only at M0 M1 M2
            have d3 : decide (k < (xp.length : Int)) = true := decide_eq_true hk
            have d4 : decide (0 ≤ k) = true := decide_eq_true HK.out.1
            have p3 : (0 ≤ k) = True := eq_true HK.out.1
            have p4 : (k < (xp.length : Int)) = True := eq_true hk
            have HWK := Aside0.mk (show wrap64 (k + 1) = k + 1 by have h1 := HK.out; have h2 := HPL.out; unfold wrap64; omega)
            have HK1 := Aside0.mk (show 0 ≤ k + 1 ∧ k + 1 ≤ (xp.length : Int) by have h1 := HK.out; omega)
            have HKQ1 := Aside0.mk (show (xp.length : Int) - (k + 1) < (k2 : Int) by have h1 := HKQ.out; omega)
            by_cases hz : 0 < k
            · obtain ⟨ad', m', eA, hm', hp0, _, _⟩ := cM_at HRX.out (k - 1) (by omega) (by omega)
              cases eA
              have P0 := pw_cell_below hw hp0
              rw [show (k - 1).toNat = k.toNat - 1 by omega] at P0
              have hxk' : xp[(k - 1).toNat]? = some (toM m') := by rw [← HPX.out, List.getElem?_map, hm']; rfl
              have hlt : m'.v < mv := HFX.out.lt (x := toM m') (y := toM ⟨mv, mb, MA, mc, ml⟩) hxk' (by rw [show (k - 1).toNat + 1 = k.toNat by omega]; exact hxk)
              obtain ⟨pv, pb, PA, pc, pl⟩ := m'
              dsimp only at P0 hlt
              have d5 : decide (mv ≤ pv) = false := decide_eq_false (by omega)
              have d6 : decide (k > 0) = true := decide_eq_true hz
              have d7 : decide (0 < k) = true := d6
              have p5 : (0 ≤ k - 1) = True := eq_true (by omega)
              have p6 : (k - 1 < (xp.length : Int)) = True := eq_true (by omega)
              have w1 : IntKind.i64.wrap (k - 1) = k - 1 := IntWalk.i64_in _ (by have h2 := HPL.out; omega)
              have w2 : wrap64 (k - 1) = k - 1 := by have h2 := HPL.out; unfold wrap64; omega
              have p7 : (1 ≤ k) = True := eq_true (by omega)
              clear hm hm0 hm1 hm2 hw hmm hxk hlx hs hk hm' hp0 hxk' hlt hz
              go_wp2_with fail
              refine start_ (n := 37) (S := fun w' => w'.cell? ⟨w307.heap.size, i.toNat * 3 + 2, none⟩ = some (.slice (some ad) xp.length xd) ∧ w'.cell? (ad.add (k.toNat * 3)) = some (.int .i64 mv) ∧ w'.cell? ⟨(ad.add (k.toNat * 3)).block, (ad.add (k.toNat * 3)).off + 1, none⟩ = some (.bool mb) ∧ w'.cell? ⟨(ad.add (k.toNat * 3)).block, (ad.add (k.toNat * 3)).off + 2, none⟩ = some (.slice MA ml.length mc) ∧ w'.cell? (ad.add ((k.toNat - 1) * 3)) = some (.int .i64 pv)) (ds := []) #[false, false, false, false, false, false, false, false, false, false, false, false, false, false, false, false, false, false, false, false, false, false, false, false, false, false, false, false, false, false, false, false, false, false, false, false, false] (by kernel_rfl) rfl rfl ⟨L2, M0, M1, M2, P0⟩ (fun hHeld => ?_)
              refine pure_ (i := 0) (N := some 74) (v := ?_) (a' := ?_) #[true, false, false, false, false, false, false, false, false, false, false, false, false, false, false, false, false, false, false, false, false, false, false, false, false, false, false, false, false, false, false, false, false, false, false, false, false] rfl rfl (by kernel_rfl) (fun _ _ _ h => h) (Or.inl ⟨by rfl, ?_⟩) ?_ ?_
              rotate_left
              · intro w'
                go_simp
                with_reducible rfl
              rotate_left
              · simp only [Act.put, List.setIfInBounds_toArray, List.set_cons_zero, List.set_cons_succ, i64_w, i32_w]
                rfl
              refine pure_ (i := 1) (N := some 75) (v := ?_) (a' := ?_) #[true, true, false, false, false, false, false, false, false, false, false, false, false, false, false, false, false, false, false, false, false, false, false, false, false, false, false, false, false, false, false, false, false, false, false, false, false] rfl rfl (by kernel_rfl) (fun _ _ _ h => h) (Or.inl ⟨by rfl, ?_⟩) ?_ ?_
              rotate_left
              · intro w'
                go_simp
                with_reducible rfl
              rotate_left
              · simp only [Act.put, List.setIfInBounds_toArray, List.set_cons_zero, List.set_cons_succ, i64_w, i32_w]
                rfl
              refine pure_ (i := 2) (N := some 76) (v := ?_) (a' := ?_) #[true, true, true, false, false, false, false, false, false, false, false, false, false, false, false, false, false, false, false, false, false, false, false, false, false, false, false, false, false, false, false, false, false, false, false, false, false] rfl rfl (by kernel_rfl) (fun _ _ _ h => h) (Or.inl ⟨by rfl, ?_⟩) ?_ ?_
              rotate_left
              · intro w'
                go_simp
                with_reducible rfl
              rotate_left
              · simp only [Act.put, List.setIfInBounds_toArray, List.set_cons_zero, List.set_cons_succ, i64_w, i32_w]
                rfl
              refine pure_ (i := 3) (N := some 77) (v := ?_) (a' := ?_) #[true, true, true, true, false, false, false, false, false, false, false, false, false, false, false, false, false, false, false, false, false, false, false, false, false, false, false, false, false, false, false, false, false, false, false, false, false] rfl rfl (by kernel_rfl) (fun _ _ _ h => h) (Or.inl ⟨by rfl, ?_⟩) ?_ ?_
              rotate_left
              · intro w'
                go_simp
                with_reducible rfl
              rotate_left
              · simp only [Act.put, List.setIfInBounds_toArray, List.set_cons_zero, List.set_cons_succ, i64_w, i32_w]
                rfl
              refine pure_ (i := 5) (N := some 79) (v := ?_) (a' := ?_) #[true, true, true, true, false, true, false, false, false, false, false, false, false, false, false, false, false, false, false, false, false, false, false, false, false, false, false, false, false, false, false, false, false, false, false, false, false] rfl rfl (by kernel_rfl) (fun _ _ _ h => h) (Or.inl ⟨by rfl, ?_⟩) ?_ ?_
              rotate_left
              · intro w'
                go_simp
                with_reducible rfl
              rotate_left
              · simp only [Act.put, List.setIfInBounds_toArray, List.set_cons_zero, List.set_cons_succ, i64_w, i32_w]
                rfl
              refine take_ (i := 4) (N := some 78) (v := ?_) (a' := ?_) #[true, true, true, true, true, true, false, false, false, false, false, false, false, false, false, false, false, false, false, false, false, false, false, false, false, false, false, false, false, false, false, false, false, false, false, false, false] rfl rfl (by kernel_rfl) (fun _ _ _ h => h) (Or.inl ⟨by rfl, ?_⟩) hHeld ?_ ?_
              rotate_left
              · rintro w' ⟨s0, s1, s2, s3, s4⟩
                go_simp
                with_reducible rfl
              rotate_left
              · simp only [Act.put, List.setIfInBounds_toArray, List.set_cons_zero, List.set_cons_succ, i64_w, i32_w]
                rfl
              refine pure_ (i := 6) (N := some 80) (v := ?_) (a' := ?_) #[true, true, true, true, true, true, true, false, false, false, false, false, false, false, false, false, false, false, false, false, false, false, false, false, false, false, false, false, false, false, false, false, false, false, false, false, false] rfl rfl (by kernel_rfl) (fun _ _ _ h => h) (Or.inl ⟨by rfl, ?_⟩) ?_ ?_
              rotate_left
              · intro w'
                go_simp
                with_reducible rfl
              rotate_left
              · simp only [Act.put, List.setIfInBounds_toArray, List.set_cons_zero, List.set_cons_succ, i64_w, i32_w]
                rfl
              refine pure_ (i := 7) (N := some 81) (v := ?_) (a' := ?_) #[true, true, true, true, true, true, true, true, false, false, false, false, false, false, false, false, false, false, false, false, false, false, false, false, false, false, false, false, false, false, false, false, false, false, false, false, false] rfl rfl (by kernel_rfl) (fun _ _ _ h => h) (Or.inl ⟨by rfl, ?_⟩) ?_ ?_
              rotate_left
              · intro w'
                go_simp
                with_reducible rfl
              rotate_left
              · simp only [Act.put, List.setIfInBounds_toArray, List.set_cons_zero, List.set_cons_succ, i64_w, i32_w]
                rfl
              refine take_ (i := 8) (N := some 82) (v := ?_) (a' := ?_) #[true, true, true, true, true, true, true, true, true, false, false, false, false, false, false, false, false, false, false, false, false, false, false, false, false, false, false, false, false, false, false, false, false, false, false, false, false] rfl rfl (by kernel_rfl) (fun _ _ _ h => h) (Or.inl ⟨by rfl, ?_⟩) hHeld ?_ ?_
              rotate_left
              · rintro w' ⟨s0, s1, s2, s3, s4⟩
                go_simp
                with_reducible rfl
              rotate_left
              · simp only [Act.put, List.setIfInBounds_toArray, List.set_cons_zero, List.set_cons_succ, i64_w, i32_w]
                rfl
              refine one_ (i := 9) (N := some 83) #[true, true, true, true, true, true, true, true, true, true, false, false, false, false, false, false, false, false, false, false, false, false, false, false, false, false, false, false, false, false, false, false, false, false, false, false, false] rfl rfl (by kernel_rfl) (by decide) (fun K hK => ?_)
              refine goes_ Try.func19 (by kernel_rfl) rfl #[.agg #[.bool mb, .slice MA ml.length mc]] (by rfl) rfl rfl (by simp only [List.map_toArray, List.map_cons, List.map_nil]; rfl) ?_
              with_reducible refine (q_Sign (LX.out.b (below_drew1 (Below.refl wr.heap.size wr))) HSG.out).mono ?_
              rintro e wS ⟨rfl, hb⟩
              have hb := below_step (below_drew1 (Below.refl wr.heap.size wr)) hb
              have L2' := pw_cell_below hb L2
              have M0' := pw_cell_below hb M0
              have M1' := pw_cell_below hb M1
              have M2' := pw_cell_below hb M2
              have P0' := pw_cell_below hb P0
              have HBi := Aside0.mk (below_step HBi.out hb)
              clear hb L2 M0 M1 M2 P0
              refine ⟨_, rfl, ?_⟩
              refine hK.out _ _ ⟨L2', M0', M1', M2', P0'⟩ (fun hHeld => ?_)
              clear hK K
              refine norm_ (a' := ?_) ?_ ?_
              rotate_left
              · show Act.put _ (some 83) _ = _
                simp only [Act.put, List.setIfInBounds_toArray, List.set_cons_zero, List.set_cons_succ, i64_w, i32_w]
                rfl
              refine pure_ (i := 10) (N := some 84) (v := ?_) (a' := ?_) #[true, true, true, true, true, true, true, true, true, true, true, false, false, false, false, false, false, false, false, false, false, false, false, false, false, false, false, false, false, false, false, false, false, false, false, false, false] rfl rfl (by kernel_rfl) (fun _ _ _ h => h) (Or.inl ⟨by rfl, ?_⟩) ?_ ?_
              rotate_left
              · intro w'
                go_simp
                with_reducible rfl
              rotate_left
              · simp only [Act.put, List.setIfInBounds_toArray, List.set_cons_zero, List.set_cons_succ, i64_w, i32_w]
                rfl
              refine pure_ (i := 11) (N := some 85) (v := ?_) (a' := ?_) #[true, true, true, true, true, true, true, true, true, true, true, true, false, false, false, false, false, false, false, false, false, false, false, false, false, false, false, false, false, false, false, false, false, false, false, false, false] rfl rfl (by kernel_rfl) (fun _ _ _ h => h) (Or.inl ⟨by rfl, ?_⟩) ?_ ?_
              rotate_left
              · intro w'
                go_simp
                with_reducible rfl
              rotate_left
              · simp only [Act.put, List.setIfInBounds_toArray, List.set_cons_zero, List.set_cons_succ, i64_w, i32_w]
                rfl
              refine pure_ (i := 12) (N := some 86) (v := ?_) (a' := ?_) #[true, true, true, true, true, true, true, true, true, true, true, true, true, false, false, false, false, false, false, false, false, false, false, false, false, false, false, false, false, false, false, false, false, false, false, false, false] rfl rfl (by kernel_rfl) (fun _ _ _ h => h) (Or.inl ⟨by rfl, ?_⟩) ?_ ?_
              rotate_left
              · intro w'
                go_simp
                with_reducible rfl
              rotate_left
              · simp only [Act.put, List.setIfInBounds_toArray, List.set_cons_zero, List.set_cons_succ, i64_w, i32_w]
                rfl
              refine pure_ (i := 13) (N := some 87) (v := ?_) (a' := ?_) #[true, true, true, true, true, true, true, true, true, true, true, true, true, true, false, false, false, false, false, false, false, false, false, false, false, false, false, false, false, false, false, false, false, false, false, false, false] rfl rfl (by kernel_rfl) (fun _ _ _ h => h) (Or.inl ⟨by rfl, ?_⟩) ?_ ?_
              rotate_left
              · intro w'
                go_simp
                with_reducible rfl
              rotate_left
              · simp only [Act.put, List.setIfInBounds_toArray, List.set_cons_zero, List.set_cons_succ, i64_w, i32_w]
                rfl
              refine pure_ (i := 14) (N := some 88) (v := ?_) (a' := ?_) #[true, true, true, true, true, true, true, true, true, true, true, true, true, true, true, false, false, false, false, false, false, false, false, false, false, false, false, false, false, false, false, false, false, false, false, false, false] rfl rfl (by kernel_rfl) (fun _ _ _ h => h) (Or.inl ⟨by rfl, ?_⟩) ?_ ?_
              rotate_left
              · intro w'
                go_simp
                with_reducible rfl
              rotate_left
              · simp only [Act.put, List.setIfInBounds_toArray, List.set_cons_zero, List.set_cons_succ, i64_w, i32_w]
                rfl
              refine pure_ (i := 15) (N := some 89) (v := ?_) (a' := ?_) #[true, true, true, true, true, true, true, true, true, true, true, true, true, true, true, true, false, false, false, false, false, false, false, false, false, false, false, false, false, false, false, false, false, false, false, false, false] rfl rfl (by kernel_rfl) (fun _ _ _ h => h) (Or.inl ⟨by rfl, ?_⟩) ?_ ?_
              rotate_left
              · intro w'
                go_simp
                with_reducible rfl
              rotate_left
              · simp only [Act.put, List.setIfInBounds_toArray, List.set_cons_zero, List.set_cons_succ, i64_w, i32_w]
                rfl
              refine pure_ (i := 16) (N := some 90) (v := ?_) (a' := ?_) #[true, true, true, true, true, true, true, true, true, true, true, true, true, true, true, true, true, false, false, false, false, false, false, false, false, false, false, false, false, false, false, false, false, false, false, false, false] rfl rfl (by kernel_rfl) (fun _ _ _ h => h) (Or.inl ⟨by rfl, ?_⟩) ?_ ?_
              rotate_left
              · intro w'
                go_simp
                with_reducible rfl
              rotate_left
              · simp only [Act.put, List.setIfInBounds_toArray, List.set_cons_zero, List.set_cons_succ, i64_w, i32_w]
                rfl
              refine pure_ (i := 17) (N := some 91) (v := ?_) (a' := ?_) #[true, true, true, true, true, true, true, true, true, true, true, true, true, true, true, true, true, true, false, false, false, false, false, false, false, false, false, false, false, false, false, false, false, false, false, false, false] rfl rfl (by kernel_rfl) (fun _ _ _ h => h) (Or.inl ⟨by rfl, ?_⟩) ?_ ?_
              rotate_left
              · intro w'
                go_simp
                with_reducible rfl
              rotate_left
              · simp only [Act.put, List.setIfInBounds_toArray, List.set_cons_zero, List.set_cons_succ, i64_w, i32_w]
                rfl
              refine pure_ (i := 18) (N := some 92) (v := ?_) (a' := ?_) #[true, true, true, true, true, true, true, true, true, true, true, true, true, true, true, true, true, true, true, false, false, false, false, false, false, false, false, false, false, false, false, false, false, false, false, false, false] rfl rfl (by kernel_rfl) (fun _ _ _ h => h) (Or.inl ⟨by rfl, ?_⟩) ?_ ?_
              rotate_left
              · intro w'
                go_simp
                with_reducible rfl
              rotate_left
              · simp only [Act.put, List.setIfInBounds_toArray, List.set_cons_zero, List.set_cons_succ, i64_w, i32_w]
                rfl
              refine pure_ (i := 20) (N := some 94) (v := ?_) (a' := ?_) #[true, true, true, true, true, true, true, true, true, true, true, true, true, true, true, true, true, true, true, false, true, false, false, false, false, false, false, false, false, false, false, false, false, false, false, false, false] rfl rfl (by kernel_rfl) (fun _ _ _ h => h) (Or.inl ⟨by rfl, ?_⟩) ?_ ?_
              rotate_left
              · intro w'
                go_simp
                with_reducible rfl
              rotate_left
              · simp only [Act.put, List.setIfInBounds_toArray, List.set_cons_zero, List.set_cons_succ, i64_w, i32_w]
                rfl
              refine pure_ (i := 24) (N := some 98) (v := ?_) (a' := ?_) #[true, true, true, true, true, true, true, true, true, true, true, true, true, true, true, true, true, true, true, false, true, false, false, false, true, false, false, false, false, false, false, false, false, false, false, false, false] rfl rfl (by kernel_rfl) (fun _ _ _ h => h) (Or.inl ⟨by rfl, ?_⟩) ?_ ?_
              rotate_left
              · intro w'
                go_simp
                with_reducible rfl
              rotate_left
              · simp only [Act.put, List.setIfInBounds_toArray, List.set_cons_zero, List.set_cons_succ, i64_w, i32_w]
                rfl
              refine pure_ (i := 25) (N := some 99) (v := ?_) (a' := ?_) #[true, true, true, true, true, true, true, true, true, true, true, true, true, true, true, true, true, true, true, false, true, false, false, false, true, true, false, false, false, false, false, false, false, false, false, false, false] rfl rfl (by kernel_rfl) (fun _ _ _ h => h) (Or.inl ⟨by rfl, ?_⟩) ?_ ?_
              rotate_left
              · intro w'
                go_simp
                with_reducible rfl
              rotate_left
              · simp only [Act.put, List.setIfInBounds_toArray, List.set_cons_zero, List.set_cons_succ, i64_w, i32_w]
                rfl
              refine pure_ (i := 26) (N := some 100) (v := ?_) (a' := ?_) #[true, true, true, true, true, true, true, true, true, true, true, true, true, true, true, true, true, true, true, false, true, false, false, false, true, true, true, false, false, false, false, false, false, false, false, false, false] rfl rfl (by kernel_rfl) (fun _ _ _ h => h) (Or.inl ⟨by rfl, ?_⟩) ?_ ?_
              rotate_left
              · intro w'
                go_simp
                with_reducible rfl
              rotate_left
              · simp only [Act.put, List.setIfInBounds_toArray, List.set_cons_zero, List.set_cons_succ, i64_w, i32_w]
                rfl
              refine pure_ (i := 27) (N := some 101) (v := ?_) (a' := ?_) #[true, true, true, true, true, true, true, true, true, true, true, true, true, true, true, true, true, true, true, false, true, false, false, false, true, true, true, true, false, false, false, false, false, false, false, false, false] rfl rfl (by kernel_rfl) (fun _ _ _ h => h) (Or.inl ⟨by rfl, ?_⟩) ?_ ?_
              rotate_left
              · intro w'
                go_simp
                with_reducible rfl
              rotate_left
              · simp only [Act.put, List.setIfInBounds_toArray, List.set_cons_zero, List.set_cons_succ, i64_w, i32_w]
                rfl
              refine pure_ (i := 29) (N := some 103) (v := ?_) (a' := ?_) #[true, true, true, true, true, true, true, true, true, true, true, true, true, true, true, true, true, true, true, false, true, false, false, false, true, true, true, true, false, true, false, false, false, false, false, false, false] rfl rfl (by kernel_rfl) (fun _ _ _ h => h) (Or.inl ⟨by rfl, ?_⟩) ?_ ?_
              rotate_left
              · intro w'
                go_simp
                with_reducible rfl
              rotate_left
              · simp only [Act.put, List.setIfInBounds_toArray, List.set_cons_zero, List.set_cons_succ, i64_w, i32_w]
                rfl
              refine pure_ (i := 30) (N := some 104) (v := ?_) (a' := ?_) #[true, true, true, true, true, true, true, true, true, true, true, true, true, true, true, true, true, true, true, false, true, false, false, false, true, true, true, true, false, true, true, false, false, false, false, false, false] rfl rfl (by kernel_rfl) (fun _ _ _ h => h) (Or.inl ⟨by rfl, ?_⟩) ?_ ?_
              rotate_left
              · intro w'
                go_simp
                with_reducible rfl
              rotate_left
              · simp only [Act.put, List.setIfInBounds_toArray, List.set_cons_zero, List.set_cons_succ, i64_w, i32_w]
                rfl
              refine take_ (i := 19) (N := some 93) (v := ?_) (a' := ?_) #[true, true, true, true, true, true, true, true, true, true, true, true, true, true, true, true, true, true, true, true, true, false, false, false, true, true, true, true, false, true, true, false, false, false, false, false, false] rfl rfl (by kernel_rfl) (fun _ _ _ h => h) (Or.inl ⟨by rfl, ?_⟩) hHeld ?_ ?_
              rotate_left
              · rintro w' ⟨s0, s1, s2, s3, s4⟩
                go_simp
                with_reducible rfl
              rotate_left
              · simp only [Act.put, List.setIfInBounds_toArray, List.set_cons_zero, List.set_cons_succ, i64_w, i32_w]
                rfl
              refine pure_ (i := 21) (N := some 95) (v := ?_) (a' := ?_) #[true, true, true, true, true, true, true, true, true, true, true, true, true, true, true, true, true, true, true, true, true, true, false, false, true, true, true, true, false, true, true, false, false, false, false, false, false] rfl rfl (by kernel_rfl) (fun _ _ _ h => h) (Or.inl ⟨by rfl, ?_⟩) ?_ ?_
              rotate_left
              · intro w'
                go_simp
                with_reducible rfl
              rotate_left
              · simp only [Act.put, List.setIfInBounds_toArray, List.set_cons_zero, List.set_cons_succ, i64_w, i32_w]
                rfl
              refine pure_ (i := 22) (N := some 96) (v := ?_) (a' := ?_) #[true, true, true, true, true, true, true, true, true, true, true, true, true, true, true, true, true, true, true, true, true, true, true, false, true, true, true, true, false, true, true, false, false, false, false, false, false] rfl rfl (by kernel_rfl) (fun _ _ _ h => h) (Or.inl ⟨by rfl, ?_⟩) ?_ ?_
              rotate_left
              · intro w'
                go_simp
                with_reducible rfl
              rotate_left
              · simp only [Act.put, List.setIfInBounds_toArray, List.set_cons_zero, List.set_cons_succ, i64_w, i32_w]
                rfl
              refine take_ (i := 23) (N := some 97) (v := ?_) (a' := ?_) #[true, true, true, true, true, true, true, true, true, true, true, true, true, true, true, true, true, true, true, true, true, true, true, true, true, true, true, true, false, true, true, false, false, false, false, false, false] rfl rfl (by kernel_rfl) (fun _ _ _ h => h) (Or.inl ⟨by rfl, ?_⟩) hHeld ?_ ?_
              rotate_left
              · rintro w' ⟨s0, s1, s2, s3, s4⟩
                go_simp
                with_reducible rfl
              rotate_left
              · simp only [Act.put, List.setIfInBounds_toArray, List.set_cons_zero, List.set_cons_succ, i64_w, i32_w]
                rfl
              refine take_ (i := 28) (N := some 102) (v := ?_) (a' := ?_) #[true, true, true, true, true, true, true, true, true, true, true, true, true, true, true, true, true, true, true, true, true, true, true, true, true, true, true, true, true, true, true, false, false, false, false, false, false] rfl rfl (by kernel_rfl) (fun _ _ _ h => h) (Or.inl ⟨by rfl, ?_⟩) hHeld ?_ ?_
              rotate_left
              · rintro w' ⟨s0, s1, s2, s3, s4⟩
                go_simp
                with_reducible rfl
              rotate_left
              · simp only [Act.put, List.setIfInBounds_toArray, List.set_cons_zero, List.set_cons_succ, i64_w, i32_w]
                rfl
              refine pure_ (i := 31) (N := some 105) (v := ?_) (a' := ?_) #[true, true, true, true, true, true, true, true, true, true, true, true, true, true, true, true, true, true, true, true, true, true, true, true, true, true, true, true, true, true, true, true, false, false, false, false, false] rfl rfl (by kernel_rfl) (fun _ _ _ h => h) (Or.inl ⟨by rfl, ?_⟩) ?_ ?_
              rotate_left
              · intro w'
                go_simp
                with_reducible rfl
              rotate_left
              · simp only [Act.put, List.setIfInBounds_toArray, List.set_cons_zero, List.set_cons_succ, i64_w, i32_w]
                rfl
              refine pure_ (i := 32) (N := some 106) (v := ?_) (a' := ?_) #[true, true, true, true, true, true, true, true, true, true, true, true, true, true, true, true, true, true, true, true, true, true, true, true, true, true, true, true, true, true, true, true, true, false, false, false, false] rfl rfl (by kernel_rfl) (fun _ _ _ h => h) (Or.inl ⟨by rfl, ?_⟩) ?_ ?_
              rotate_left
              · intro w'
                go_simp
                with_reducible rfl
              rotate_left
              · simp only [Act.put, List.setIfInBounds_toArray, List.set_cons_zero, List.set_cons_succ, i64_w, i32_w]
                rfl
              refine take_ (i := 33) (N := some 107) (v := ?_) (a' := ?_) #[true, true, true, true, true, true, true, true, true, true, true, true, true, true, true, true, true, true, true, true, true, true, true, true, true, true, true, true, true, true, true, true, true, true, false, false, false] rfl rfl (by kernel_rfl) (fun _ _ _ h => h) (Or.inl ⟨by rfl, ?_⟩) hHeld ?_ ?_
              rotate_left
              · rintro w' ⟨s0, s1, s2, s3, s4⟩
                go_simp
                with_reducible rfl
              rotate_left
              · simp only [Act.put, List.setIfInBounds_toArray, List.set_cons_zero, List.set_cons_succ, i64_w, i32_w]
                rfl
              refine pure_ (i := 34) (N := some 108) (v := ?_) (a' := ?_) #[true, true, true, true, true, true, true, true, true, true, true, true, true, true, true, true, true, true, true, true, true, true, true, true, true, true, true, true, true, true, true, true, true, true, true, false, false] rfl rfl (by kernel_rfl) (fun _ _ _ h => h) (Or.inl ⟨by rfl, ?_⟩) ?_ ?_
              rotate_left
              · intro w'
                go_simp
                with_reducible rfl
              rotate_left
              · simp only [Act.put, List.setIfInBounds_toArray, List.set_cons_zero, List.set_cons_succ, i64_w, i32_w]
                rfl
              refine pure_ (i := 35) (N := some 109) (v := ?_) (a' := ?_) #[true, true, true, true, true, true, true, true, true, true, true, true, true, true, true, true, true, true, true, true, true, true, true, true, true, true, true, true, true, true, true, true, true, true, true, true, false] rfl rfl (by kernel_rfl) (fun _ _ _ h => h) (Or.inl ⟨by rfl, ?_⟩) ?_ ?_
              rotate_left
              · intro w'
                go_simp
                with_reducible rfl
              rotate_left
              · simp only [Act.put, List.setIfInBounds_toArray, List.set_cons_zero, List.set_cons_succ, i64_w, i32_w]
                rfl
              refine pure_ (i := 36) (N := some 110) (v := ?_) (a' := ?_) #[true, true, true, true, true, true, true, true, true, true, true, true, true, true, true, true, true, true, true, true, true, true, true, true, true, true, true, true, true, true, true, true, true, true, true, true, true] rfl rfl (by kernel_rfl) (fun _ _ _ h => h) (Or.inl ⟨by rfl, ?_⟩) ?_ ?_
              rotate_left
              · intro w'
                go_simp
                with_reducible rfl
              rotate_left
              · simp only [Act.put, List.setIfInBounds_toArray, List.set_cons_zero, List.set_cons_succ, i64_w, i32_w]
                rfl
              refine done_ (by kernel_rfl) ?_

              go_wp2_with fail
              rw [HWK.out]
              go_roundg k2
              case measure => omega
              case rel => exact ⟨k + 1, rfl, HK1, HKQ1, HBi⟩
            · have d6 : decide (k > 0) = false := decide_eq_false hz
              have d7 : decide (0 < k) = false := d6
              clear hm hm0 hm1 hm2 hw hmm hxk hlx hs hk hz
              go_wp2_with fail
              refine start_ (n := 37) (S := fun w' => w'.cell? ⟨w307.heap.size, i.toNat * 3 + 2, none⟩ = some (.slice (some ad) xp.length xd) ∧ w'.cell? (ad.add (k.toNat * 3)) = some (.int .i64 mv) ∧ w'.cell? ⟨(ad.add (k.toNat * 3)).block, (ad.add (k.toNat * 3)).off + 1, none⟩ = some (.bool mb) ∧ w'.cell? ⟨(ad.add (k.toNat * 3)).block, (ad.add (k.toNat * 3)).off + 2, none⟩ = some (.slice MA ml.length mc)) (ds := []) #[false, false, false, false, false, false, false, false, false, false, false, false, false, false, false, false, false, false, false, false, false, false, false, false, false, false, false, false, false, false, false, false, false, false, false, false, false] (by kernel_rfl) rfl rfl ⟨L2, M0, M1, M2⟩ (fun hHeld => ?_)
              refine pure_ (i := 0) (N := some 74) (v := ?_) (a' := ?_) #[true, false, false, false, false, false, false, false, false, false, false, false, false, false, false, false, false, false, false, false, false, false, false, false, false, false, false, false, false, false, false, false, false, false, false, false, false] rfl rfl (by kernel_rfl) (fun _ _ _ h => h) (Or.inl ⟨by rfl, ?_⟩) ?_ ?_
              rotate_left
              · intro w'
                go_simp
                with_reducible rfl
              rotate_left
              · simp only [Act.put, List.setIfInBounds_toArray, List.set_cons_zero, List.set_cons_succ, i64_w, i32_w]
                rfl
              refine pure_ (i := 1) (N := some 75) (v := ?_) (a' := ?_) #[true, true, false, false, false, false, false, false, false, false, false, false, false, false, false, false, false, false, false, false, false, false, false, false, false, false, false, false, false, false, false, false, false, false, false, false, false] rfl rfl (by kernel_rfl) (fun _ _ _ h => h) (Or.inl ⟨by rfl, ?_⟩) ?_ ?_
              rotate_left
              · intro w'
                go_simp
                with_reducible rfl
              rotate_left
              · simp only [Act.put, List.setIfInBounds_toArray, List.set_cons_zero, List.set_cons_succ, i64_w, i32_w]
                rfl
              refine pure_ (i := 2) (N := some 76) (v := ?_) (a' := ?_) #[true, true, true, false, false, false, false, false, false, false, false, false, false, false, false, false, false, false, false, false, false, false, false, false, false, false, false, false, false, false, false, false, false, false, false, false, false] rfl rfl (by kernel_rfl) (fun _ _ _ h => h) (Or.inl ⟨by rfl, ?_⟩) ?_ ?_
              rotate_left
              · intro w'
                go_simp
                with_reducible rfl
              rotate_left
              · simp only [Act.put, List.setIfInBounds_toArray, List.set_cons_zero, List.set_cons_succ, i64_w, i32_w]
                rfl
              refine pure_ (i := 3) (N := some 77) (v := ?_) (a' := ?_) #[true, true, true, true, false, false, false, false, false, false, false, false, false, false, false, false, false, false, false, false, false, false, false, false, false, false, false, false, false, false, false, false, false, false, false, false, false] rfl rfl (by kernel_rfl) (fun _ _ _ h => h) (Or.inl ⟨by rfl, ?_⟩) ?_ ?_
              rotate_left
              · intro w'
                go_simp
                with_reducible rfl
              rotate_left
              · simp only [Act.put, List.setIfInBounds_toArray, List.set_cons_zero, List.set_cons_succ, i64_w, i32_w]
                rfl
              refine pure_ (i := 5) (N := some 79) (v := ?_) (a' := ?_) #[true, true, true, true, false, true, false, false, false, false, false, false, false, false, false, false, false, false, false, false, false, false, false, false, false, false, false, false, false, false, false, false, false, false, false, false, false] rfl rfl (by kernel_rfl) (fun _ _ _ h => h) (Or.inl ⟨by rfl, ?_⟩) ?_ ?_
              rotate_left
              · intro w'
                go_simp
                with_reducible rfl
              rotate_left
              · simp only [Act.put, List.setIfInBounds_toArray, List.set_cons_zero, List.set_cons_succ, i64_w, i32_w]
                rfl
              refine take_ (i := 4) (N := some 78) (v := ?_) (a' := ?_) #[true, true, true, true, true, true, false, false, false, false, false, false, false, false, false, false, false, false, false, false, false, false, false, false, false, false, false, false, false, false, false, false, false, false, false, false, false] rfl rfl (by kernel_rfl) (fun _ _ _ h => h) (Or.inl ⟨by rfl, ?_⟩) hHeld ?_ ?_
              rotate_left
              · rintro w' ⟨s0, s1, s2, s3⟩
                go_simp
                with_reducible rfl
              rotate_left
              · simp only [Act.put, List.setIfInBounds_toArray, List.set_cons_zero, List.set_cons_succ, i64_w, i32_w]
                rfl
              refine pure_ (i := 6) (N := some 80) (v := ?_) (a' := ?_) #[true, true, true, true, true, true, true, false, false, false, false, false, false, false, false, false, false, false, false, false, false, false, false, false, false, false, false, false, false, false, false, false, false, false, false, false, false] rfl rfl (by kernel_rfl) (fun _ _ _ h => h) (Or.inl ⟨by rfl, ?_⟩) ?_ ?_
              rotate_left
              · intro w'
                go_simp
                with_reducible rfl
              rotate_left
              · simp only [Act.put, List.setIfInBounds_toArray, List.set_cons_zero, List.set_cons_succ, i64_w, i32_w]
                rfl
              refine pure_ (i := 7) (N := some 81) (v := ?_) (a' := ?_) #[true, true, true, true, true, true, true, true, false, false, false, false, false, false, false, false, false, false, false, false, false, false, false, false, false, false, false, false, false, false, false, false, false, false, false, false, false] rfl rfl (by kernel_rfl) (fun _ _ _ h => h) (Or.inl ⟨by rfl, ?_⟩) ?_ ?_
              rotate_left
              · intro w'
                go_simp
                with_reducible rfl
              rotate_left
              · simp only [Act.put, List.setIfInBounds_toArray, List.set_cons_zero, List.set_cons_succ, i64_w, i32_w]
                rfl
              refine take_ (i := 8) (N := some 82) (v := ?_) (a' := ?_) #[true, true, true, true, true, true, true, true, true, false, false, false, false, false, false, false, false, false, false, false, false, false, false, false, false, false, false, false, false, false, false, false, false, false, false, false, false] rfl rfl (by kernel_rfl) (fun _ _ _ h => h) (Or.inl ⟨by rfl, ?_⟩) hHeld ?_ ?_
              rotate_left
              · rintro w' ⟨s0, s1, s2, s3⟩
                go_simp
                with_reducible rfl
              rotate_left
              · simp only [Act.put, List.setIfInBounds_toArray, List.set_cons_zero, List.set_cons_succ, i64_w, i32_w]
                rfl
              refine one_ (i := 9) (N := some 83) #[true, true, true, true, true, true, true, true, true, true, false, false, false, false, false, false, false, false, false, false, false, false, false, false, false, false, false, false, false, false, false, false, false, false, false, false, false] rfl rfl (by kernel_rfl) (by decide) (fun K hK => ?_)
              refine goes_ Try.func19 (by kernel_rfl) rfl #[.agg #[.bool mb, .slice MA ml.length mc]] (by rfl) rfl rfl (by simp only [List.map_toArray, List.map_cons, List.map_nil]; rfl) ?_
              with_reducible refine (q_Sign (LX.out.b (below_drew1 (Below.refl wr.heap.size wr))) HSG.out).mono ?_
              rintro e wS ⟨rfl, hb⟩
              have hb := below_step (below_drew1 (Below.refl wr.heap.size wr)) hb
              have L2' := pw_cell_below hb L2
              have M0' := pw_cell_below hb M0
              have M1' := pw_cell_below hb M1
              have M2' := pw_cell_below hb M2
              have HBi := Aside0.mk (below_step HBi.out hb)
              clear hb L2 M0 M1 M2
              refine ⟨_, rfl, ?_⟩
              refine hK.out _ _ ⟨L2', M0', M1', M2'⟩ (fun hHeld => ?_)
              clear hK K
              refine norm_ (a' := ?_) ?_ ?_
              rotate_left
              · show Act.put _ (some 83) _ = _
                simp only [Act.put, List.setIfInBounds_toArray, List.set_cons_zero, List.set_cons_succ, i64_w, i32_w]
                rfl
              refine pure_ (i := 10) (N := some 84) (v := ?_) (a' := ?_) #[true, true, true, true, true, true, true, true, true, true, true, false, false, false, false, false, false, false, false, false, false, false, false, false, false, false, false, false, false, false, false, false, false, false, false, false, false] rfl rfl (by kernel_rfl) (fun _ _ _ h => h) (Or.inl ⟨by rfl, ?_⟩) ?_ ?_
              rotate_left
              · intro w'
                go_simp
                with_reducible rfl
              rotate_left
              · simp only [Act.put, List.setIfInBounds_toArray, List.set_cons_zero, List.set_cons_succ, i64_w, i32_w]
                rfl
              refine pure_ (i := 11) (N := some 85) (v := ?_) (a' := ?_) #[true, true, true, true, true, true, true, true, true, true, true, true, false, false, false, false, false, false, false, false, false, false, false, false, false, false, false, false, false, false, false, false, false, false, false, false, false] rfl rfl (by kernel_rfl) (fun _ _ _ h => h) (Or.inl ⟨by rfl, ?_⟩) ?_ ?_
              rotate_left
              · intro w'
                go_simp
                with_reducible rfl
              rotate_left
              · simp only [Act.put, List.setIfInBounds_toArray, List.set_cons_zero, List.set_cons_succ, i64_w, i32_w]
                rfl
              refine pure_ (i := 12) (N := some 86) (v := ?_) (a' := ?_) #[true, true, true, true, true, true, true, true, true, true, true, true, true, false, false, false, false, false, false, false, false, false, false, false, false, false, false, false, false, false, false, false, false, false, false, false, false] rfl rfl (by kernel_rfl) (fun _ _ _ h => h) (Or.inl ⟨by rfl, ?_⟩) ?_ ?_
              rotate_left
              · intro w'
                go_simp
                with_reducible rfl
              rotate_left
              · simp only [Act.put, List.setIfInBounds_toArray, List.set_cons_zero, List.set_cons_succ, i64_w, i32_w]
                rfl
              refine pure_ (i := 13) (N := some 87) (v := ?_) (a' := ?_) #[true, true, true, true, true, true, true, true, true, true, true, true, true, true, false, false, false, false, false, false, false, false, false, false, false, false, false, false, false, false, false, false, false, false, false, false, false] rfl rfl (by kernel_rfl) (fun _ _ _ h => h) (Or.inl ⟨by rfl, ?_⟩) ?_ ?_
              rotate_left
              · intro w'
                go_simp
                with_reducible rfl
              rotate_left
              · simp only [Act.put, List.setIfInBounds_toArray, List.set_cons_zero, List.set_cons_succ, i64_w, i32_w]
                rfl
              refine pure_ (i := 14) (N := some 88) (v := ?_) (a' := ?_) #[true, true, true, true, true, true, true, true, true, true, true, true, true, true, true, false, false, false, false, false, false, false, false, false, false, false, false, false, false, false, false, false, false, false, false, false, false] rfl rfl (by kernel_rfl) (fun _ _ _ h => h) (Or.inl ⟨by rfl, ?_⟩) ?_ ?_
              rotate_left
              · intro w'
                go_simp
                with_reducible rfl
              rotate_left
              · simp only [Act.put, List.setIfInBounds_toArray, List.set_cons_zero, List.set_cons_succ, i64_w, i32_w]
                rfl
              refine pure_ (i := 15) (N := some 89) (v := undef) (a' := ?_) #[true, true, true, true, true, true, true, true, true, true, true, true, true, true, true, true, false, false, false, false, false, false, false, false, false, false, false, false, false, false, false, false, false, false, false, false, false] rfl rfl (by kernel_rfl) (fun _ _ _ h => h) (Or.inr ⟨by rfl, rfl⟩) ?_ ?_
              rotate_left
              · simp only [Act.put, List.setIfInBounds_toArray, List.set_cons_zero, List.set_cons_succ, i64_w, i32_w]
                rfl
              refine pure_ (i := 16) (N := some 90) (v := undef) (a' := ?_) #[true, true, true, true, true, true, true, true, true, true, true, true, true, true, true, true, true, false, false, false, false, false, false, false, false, false, false, false, false, false, false, false, false, false, false, false, false] rfl rfl (by kernel_rfl) (fun _ _ _ h => h) (Or.inr ⟨by rfl, rfl⟩) ?_ ?_
              rotate_left
              · simp only [Act.put, List.setIfInBounds_toArray, List.set_cons_zero, List.set_cons_succ, i64_w, i32_w]
                rfl
              refine pure_ (i := 17) (N := some 91) (v := undef) (a' := ?_) #[true, true, true, true, true, true, true, true, true, true, true, true, true, true, true, true, true, true, false, false, false, false, false, false, false, false, false, false, false, false, false, false, false, false, false, false, false] rfl rfl (by kernel_rfl) (fun _ _ _ h => h) (Or.inr ⟨by rfl, rfl⟩) ?_ ?_
              rotate_left
              · simp only [Act.put, List.setIfInBounds_toArray, List.set_cons_zero, List.set_cons_succ, i64_w, i32_w]
                rfl
              refine pure_ (i := 18) (N := some 92) (v := undef) (a' := ?_) #[true, true, true, true, true, true, true, true, true, true, true, true, true, true, true, true, true, true, true, false, false, false, false, false, false, false, false, false, false, false, false, false, false, false, false, false, false] rfl rfl (by kernel_rfl) (fun _ _ _ h => h) (Or.inr ⟨by rfl, rfl⟩) ?_ ?_
              rotate_left
              · simp only [Act.put, List.setIfInBounds_toArray, List.set_cons_zero, List.set_cons_succ, i64_w, i32_w]
                rfl
              refine pure_ (i := 19) (N := some 93) (v := undef) (a' := ?_) #[true, true, true, true, true, true, true, true, true, true, true, true, true, true, true, true, true, true, true, true, false, false, false, false, false, false, false, false, false, false, false, false, false, false, false, false, false] rfl rfl (by kernel_rfl) (fun _ _ _ h => h) (Or.inr ⟨by rfl, rfl⟩) ?_ ?_
              rotate_left
              · simp only [Act.put, List.setIfInBounds_toArray, List.set_cons_zero, List.set_cons_succ, i64_w, i32_w]
                rfl
              refine pure_ (i := 20) (N := some 94) (v := undef) (a' := ?_) #[true, true, true, true, true, true, true, true, true, true, true, true, true, true, true, true, true, true, true, true, true, false, false, false, false, false, false, false, false, false, false, false, false, false, false, false, false] rfl rfl (by kernel_rfl) (fun _ _ _ h => h) (Or.inr ⟨by rfl, rfl⟩) ?_ ?_
              rotate_left
              · simp only [Act.put, List.setIfInBounds_toArray, List.set_cons_zero, List.set_cons_succ, i64_w, i32_w]
                rfl
              refine pure_ (i := 21) (N := some 95) (v := undef) (a' := ?_) #[true, true, true, true, true, true, true, true, true, true, true, true, true, true, true, true, true, true, true, true, true, true, false, false, false, false, false, false, false, false, false, false, false, false, false, false, false] rfl rfl (by kernel_rfl) (fun _ _ _ h => h) (Or.inr ⟨by rfl, rfl⟩) ?_ ?_
              rotate_left
              · simp only [Act.put, List.setIfInBounds_toArray, List.set_cons_zero, List.set_cons_succ, i64_w, i32_w]
                rfl
              refine pure_ (i := 22) (N := some 96) (v := undef) (a' := ?_) #[true, true, true, true, true, true, true, true, true, true, true, true, true, true, true, true, true, true, true, true, true, true, true, false, false, false, false, false, false, false, false, false, false, false, false, false, false] rfl rfl (by kernel_rfl) (fun _ _ _ h => h) (Or.inr ⟨by rfl, rfl⟩) ?_ ?_
              rotate_left
              · simp only [Act.put, List.setIfInBounds_toArray, List.set_cons_zero, List.set_cons_succ, i64_w, i32_w]
                rfl
              refine pure_ (i := 23) (N := some 97) (v := undef) (a' := ?_) #[true, true, true, true, true, true, true, true, true, true, true, true, true, true, true, true, true, true, true, true, true, true, true, true, false, false, false, false, false, false, false, false, false, false, false, false, false] rfl rfl (by kernel_rfl) (fun _ _ _ h => h) (Or.inr ⟨by rfl, rfl⟩) ?_ ?_
              rotate_left
              · simp only [Act.put, List.setIfInBounds_toArray, List.set_cons_zero, List.set_cons_succ, i64_w, i32_w]
                rfl
              refine pure_ (i := 24) (N := some 98) (v := undef) (a' := ?_) #[true, true, true, true, true, true, true, true, true, true, true, true, true, true, true, true, true, true, true, true, true, true, true, true, true, false, false, false, false, false, false, false, false, false, false, false, false] rfl rfl (by kernel_rfl) (fun _ _ _ h => h) (Or.inr ⟨by rfl, rfl⟩) ?_ ?_
              rotate_left
              · simp only [Act.put, List.setIfInBounds_toArray, List.set_cons_zero, List.set_cons_succ, i64_w, i32_w]
                rfl
              refine pure_ (i := 25) (N := some 99) (v := undef) (a' := ?_) #[true, true, true, true, true, true, true, true, true, true, true, true, true, true, true, true, true, true, true, true, true, true, true, true, true, true, false, false, false, false, false, false, false, false, false, false, false] rfl rfl (by kernel_rfl) (fun _ _ _ h => h) (Or.inr ⟨by rfl, rfl⟩) ?_ ?_
              rotate_left
              · simp only [Act.put, List.setIfInBounds_toArray, List.set_cons_zero, List.set_cons_succ, i64_w, i32_w]
                rfl
              refine pure_ (i := 26) (N := some 100) (v := undef) (a' := ?_) #[true, true, true, true, true, true, true, true, true, true, true, true, true, true, true, true, true, true, true, true, true, true, true, true, true, true, true, false, false, false, false, false, false, false, false, false, false] rfl rfl (by kernel_rfl) (fun _ _ _ h => h) (Or.inr ⟨by rfl, rfl⟩) ?_ ?_
              rotate_left
              · simp only [Act.put, List.setIfInBounds_toArray, List.set_cons_zero, List.set_cons_succ, i64_w, i32_w]
                rfl
              refine pure_ (i := 27) (N := some 101) (v := undef) (a' := ?_) #[true, true, true, true, true, true, true, true, true, true, true, true, true, true, true, true, true, true, true, true, true, true, true, true, true, true, true, true, false, false, false, false, false, false, false, false, false] rfl rfl (by kernel_rfl) (fun _ _ _ h => h) (Or.inr ⟨by rfl, rfl⟩) ?_ ?_
              rotate_left
              · simp only [Act.put, List.setIfInBounds_toArray, List.set_cons_zero, List.set_cons_succ, i64_w, i32_w]
                rfl
              refine pure_ (i := 28) (N := some 102) (v := undef) (a' := ?_) #[true, true, true, true, true, true, true, true, true, true, true, true, true, true, true, true, true, true, true, true, true, true, true, true, true, true, true, true, true, false, false, false, false, false, false, false, false] rfl rfl (by kernel_rfl) (fun _ _ _ h => h) (Or.inr ⟨by rfl, rfl⟩) ?_ ?_
              rotate_left
              · simp only [Act.put, List.setIfInBounds_toArray, List.set_cons_zero, List.set_cons_succ, i64_w, i32_w]
                rfl
              refine pure_ (i := 29) (N := some 103) (v := undef) (a' := ?_) #[true, true, true, true, true, true, true, true, true, true, true, true, true, true, true, true, true, true, true, true, true, true, true, true, true, true, true, true, true, true, false, false, false, false, false, false, false] rfl rfl (by kernel_rfl) (fun _ _ _ h => h) (Or.inr ⟨by rfl, rfl⟩) ?_ ?_
              rotate_left
              · simp only [Act.put, List.setIfInBounds_toArray, List.set_cons_zero, List.set_cons_succ, i64_w, i32_w]
                rfl
              refine pure_ (i := 30) (N := some 104) (v := undef) (a' := ?_) #[true, true, true, true, true, true, true, true, true, true, true, true, true, true, true, true, true, true, true, true, true, true, true, true, true, true, true, true, true, true, true, false, false, false, false, false, false] rfl rfl (by kernel_rfl) (fun _ _ _ h => h) (Or.inr ⟨by rfl, rfl⟩) ?_ ?_
              rotate_left
              · simp only [Act.put, List.setIfInBounds_toArray, List.set_cons_zero, List.set_cons_succ, i64_w, i32_w]
                rfl
              refine pure_ (i := 31) (N := some 105) (v := undef) (a' := ?_) #[true, true, true, true, true, true, true, true, true, true, true, true, true, true, true, true, true, true, true, true, true, true, true, true, true, true, true, true, true, true, true, true, false, false, false, false, false] rfl rfl (by kernel_rfl) (fun _ _ _ h => h) (Or.inr ⟨by rfl, rfl⟩) ?_ ?_
              rotate_left
              · simp only [Act.put, List.setIfInBounds_toArray, List.set_cons_zero, List.set_cons_succ, i64_w, i32_w]
                rfl
              refine pure_ (i := 32) (N := some 106) (v := undef) (a' := ?_) #[true, true, true, true, true, true, true, true, true, true, true, true, true, true, true, true, true, true, true, true, true, true, true, true, true, true, true, true, true, true, true, true, true, false, false, false, false] rfl rfl (by kernel_rfl) (fun _ _ _ h => h) (Or.inr ⟨by rfl, rfl⟩) ?_ ?_
              rotate_left
              · simp only [Act.put, List.setIfInBounds_toArray, List.set_cons_zero, List.set_cons_succ, i64_w, i32_w]
                rfl
              refine pure_ (i := 33) (N := some 107) (v := undef) (a' := ?_) #[true, true, true, true, true, true, true, true, true, true, true, true, true, true, true, true, true, true, true, true, true, true, true, true, true, true, true, true, true, true, true, true, true, true, false, false, false] rfl rfl (by kernel_rfl) (fun _ _ _ h => h) (Or.inr ⟨by rfl, rfl⟩) ?_ ?_
              rotate_left
              · simp only [Act.put, List.setIfInBounds_toArray, List.set_cons_zero, List.set_cons_succ, i64_w, i32_w]
                rfl
              refine pure_ (i := 34) (N := some 108) (v := undef) (a' := ?_) #[true, true, true, true, true, true, true, true, true, true, true, true, true, true, true, true, true, true, true, true, true, true, true, true, true, true, true, true, true, true, true, true, true, true, true, false, false] rfl rfl (by kernel_rfl) (fun _ _ _ h => h) (Or.inr ⟨by rfl, rfl⟩) ?_ ?_
              rotate_left
              · simp only [Act.put, List.setIfInBounds_toArray, List.set_cons_zero, List.set_cons_succ, i64_w, i32_w]
                rfl
              refine pure_ (i := 35) (N := some 109) (v := ?_) (a' := ?_) #[true, true, true, true, true, true, true, true, true, true, true, true, true, true, true, true, true, true, true, true, true, true, true, true, true, true, true, true, true, true, true, true, true, true, true, true, false] rfl rfl (by kernel_rfl) (fun _ _ _ h => h) (Or.inl ⟨by rfl, ?_⟩) ?_ ?_
              rotate_left
              · intro w'
                go_simp
                with_reducible rfl
              rotate_left
              · simp only [Act.put, List.setIfInBounds_toArray, List.set_cons_zero, List.set_cons_succ, i64_w, i32_w]
                rfl
              refine pure_ (i := 36) (N := some 110) (v := ?_) (a' := ?_) #[true, true, true, true, true, true, true, true, true, true, true, true, true, true, true, true, true, true, true, true, true, true, true, true, true, true, true, true, true, true, true, true, true, true, true, true, true] rfl rfl (by kernel_rfl) (fun _ _ _ h => h) (Or.inl ⟨by rfl, ?_⟩) ?_ ?_
              rotate_left
              · intro w'
                go_simp
                with_reducible rfl
              rotate_left
              · simp only [Act.put, List.setIfInBounds_toArray, List.set_cons_zero, List.set_cons_succ, i64_w, i32_w]
                rfl
              refine done_ (by kernel_rfl) ?_

              go_wp2_with fail
              rw [HWK.out]
              go_roundg k2
              case measure => omega
              case rel => exact ⟨k + 1, rfl, HK1, HKQ1, HBi⟩
          · have d3 : decide (k < (xp.length : Int)) = false := decide_eq_false hk
            have RX := Aside0.mk (RX.out.b HBi.out)
            have SX := Aside0.mk (SX.out.b HBi.out)
            clear hk
            go_wp2_with fail
            refine start_ (n := 11) (S := fun w' => w'.cell? ⟨w307.heap.size, i.toNat * 3, none⟩ = some (.bool xb) ∧ w'.cell? ⟨w307.heap.size, i.toNat * 3 + 1, none⟩ = some (.slice XA xl.length xc) ∧ w'.cell? ⟨w307.heap.size, i.toNat * 3 + 2, none⟩ = some (.slice XB xp.length xd)) (ds := []) #[false, false, false, false, false, false, false, false, false, false, false] (by kernel_rfl) rfl rfl ⟨L0, L1, L2⟩ (fun hHeld => ?_)
            refine pure_ (i := 0) (N := some 111) (v := ?_) (a' := ?_) #[true, false, false, false, false, false, false, false, false, false, false] rfl rfl (by kernel_rfl) (fun _ _ _ h => h) (Or.inl ⟨by rfl, ?_⟩) ?_ ?_
            rotate_left
            · intro w'
              go_simp
              with_reducible rfl
            rotate_left
            · simp only [Act.put, List.setIfInBounds_toArray, List.set_cons_zero, List.set_cons_succ, i64_w, i32_w]
              rfl
            refine pure_ (i := 1) (N := some 112) (v := ?_) (a' := ?_) #[true, true, false, false, false, false, false, false, false, false, false] rfl rfl (by kernel_rfl) (fun _ _ _ h => h) (Or.inl ⟨by rfl, ?_⟩) ?_ ?_
            rotate_left
            · intro w'
              go_simp
              with_reducible rfl
            rotate_left
            · simp only [Act.put, List.setIfInBounds_toArray, List.set_cons_zero, List.set_cons_succ, i64_w, i32_w]
              rfl
            refine pure_ (i := 2) (N := some 113) (v := ?_) (a' := ?_) #[true, true, true, false, false, false, false, false, false, false, false] rfl rfl (by kernel_rfl) (fun _ _ _ h => h) (Or.inl ⟨by rfl, ?_⟩) ?_ ?_
            rotate_left
            · intro w'
              go_simp
              with_reducible rfl
            rotate_left
            · simp only [Act.put, List.setIfInBounds_toArray, List.set_cons_zero, List.set_cons_succ, i64_w, i32_w]
              rfl
            refine pure_ (i := 4) (N := some 115) (v := ?_) (a' := ?_) #[true, true, true, false, true, false, false, false, false, false, false] rfl rfl (by kernel_rfl) (fun _ _ _ h => h) (Or.inl ⟨by rfl, ?_⟩) ?_ ?_
            rotate_left
            · intro w'
              go_simp
              with_reducible rfl
            rotate_left
            · simp only [Act.put, List.setIfInBounds_toArray, List.set_cons_zero, List.set_cons_succ, i64_w, i32_w]
              rfl
            refine pure_ (i := 5) (N := some 116) (v := ?_) (a' := ?_) #[true, true, true, false, true, true, false, false, false, false, false] rfl rfl (by kernel_rfl) (fun _ _ _ h => h) (Or.inl ⟨by rfl, ?_⟩) ?_ ?_
            rotate_left
            · intro w'
              go_simp
              with_reducible rfl
            rotate_left
            · simp only [Act.put, List.setIfInBounds_toArray, List.set_cons_zero, List.set_cons_succ, i64_w, i32_w]
              rfl
            refine pure_ (i := 6) (N := some 117) (v := ?_) (a' := ?_) #[true, true, true, false, true, true, true, false, false, false, false] rfl rfl (by kernel_rfl) (fun _ _ _ h => h) (Or.inl ⟨by rfl, ?_⟩) ?_ ?_
            rotate_left
            · intro w'
              go_simp
              with_reducible rfl
            rotate_left
            · simp only [Act.put, List.setIfInBounds_toArray, List.set_cons_zero, List.set_cons_succ, i64_w, i32_w]
              rfl
            refine take_ (i := 3) (N := some 114) (v := ?_) (a' := ?_) #[true, true, true, true, true, true, true, false, false, false, false] rfl rfl (by kernel_rfl) (fun _ _ _ h => h) (Or.inl ⟨by rfl, ?_⟩) hHeld ?_ ?_
            rotate_left
            · rintro w' ⟨s0, s1, s2⟩
              go_simp
              with_reducible rfl
            rotate_left
            · simp only [Act.put, List.setIfInBounds_toArray, List.set_cons_zero, List.set_cons_succ, i64_w, i32_w]
              rfl
            refine take_ (i := 7) (N := some 118) (v := ?_) (a' := ?_) #[true, true, true, true, true, true, true, true, false, false, false] rfl rfl (by kernel_rfl) (fun _ _ _ h => h) (Or.inl ⟨by rfl, ?_⟩) hHeld ?_ ?_
            rotate_left
            · rintro w' ⟨s0, s1, s2⟩
              go_simp
              with_reducible rfl
            rotate_left
            · simp only [Act.put, List.setIfInBounds_toArray, List.set_cons_zero, List.set_cons_succ, i64_w, i32_w]
              rfl
            refine one_ (i := 8) (N := some 119) #[true, true, true, true, true, true, true, true, true, false, false] rfl rfl (by kernel_rfl) (by decide) (fun K hK => ?_)
            refine goes_ Try.func20 (by kernel_rfl) rfl #[.agg #[.bool xb, .slice XA xl.length xc, .slice XB xp.length xd]] (by rfl) rfl rfl (by simp only [List.map_toArray, List.map_cons, List.map_nil]; rfl) ?_
            refine (q_Norm (RX.out.b (below_drew1 (Below.refl wr.heap.size wr))) (SX.out.b (below_drew1 (Below.refl wr.heap.size wr))) HFX.out.norm).mono ?_
            rintro e wN ⟨YA, yc, YB, yd, rfl, rY, sY, hb⟩
            have RY := Aside0.mk rY
            have SY := Aside0.mk sY
            have hb := below_step (below_drew1 (Below.refl wr.heap.size wr)) hb
            have RX := Aside0.mk (RX.out.b hb)
            have SX := Aside0.mk (SX.out.b hb)
            have L0' := pw_cell_below hb L0
            have L1' := pw_cell_below hb L1
            have L2' := pw_cell_below hb L2
            have HBi := Aside0.mk (below_step HBi.out hb)
            clear rY sY hb L0 L1 L2
            refine ⟨_, rfl, ?_⟩
            refine hK.out _ _ ⟨L0', L1', L2'⟩ (fun hHeld => ?_)
            clear hK K
            refine norm_ (a' := ?_) ?_ ?_
            rotate_left
            · show Act.put _ (some 119) _ = _
              simp only [Act.put, List.setIfInBounds_toArray, List.set_cons_zero, List.set_cons_succ, i64_w, i32_w]
              rfl
            refine one_ (i := 9) (N := some 120) #[true, true, true, true, true, true, true, true, true, true, false] rfl rfl (by kernel_rfl) (by decide) (fun K hK => ?_)
            refine goes_ Try.func15 (by kernel_rfl) rfl #[.agg #[.bool xb, .slice XA xl.length xc, .slice XB xp.length xd], .agg #[.bool xb, .slice YA xl.length yc, .slice YB xp.length yd]] (by rfl) rfl rfl (by simp only [List.map_toArray, List.map_cons, List.map_nil]; rfl) ?_
            refine (q_Same RX.out SX.out RY.out SY.out HFX.out.ok).mono ?_
            rintro e wS ⟨rfl, hb⟩
            have L0 := pw_cell_below hb L0'
            have L1 := pw_cell_below hb L1'
            have L2 := pw_cell_below hb L2'
            have HBi := Aside0.mk (below_step HBi.out hb)
            clear hb L0' L1' L2'
            refine ⟨_, rfl, ?_⟩
            refine hK.out _ _ ⟨L0, L1, L2⟩ (fun hHeld => ?_)
            clear hK K
            refine norm_ (a' := ?_) ?_ ?_
            rotate_left
            · show Act.put _ (some 120) _ = _
              simp only [Act.put, List.setIfInBounds_toArray, List.set_cons_zero, List.set_cons_succ, i64_w, i32_w]
              rfl
            refine pure_ (i := 10) (N := some 16) (v := ?_) (a' := ?_) #[true, true, true, true, true, true, true, true, true, true, true] rfl rfl (by kernel_rfl) (fun _ _ _ h => h) (Or.inl ⟨by rfl, ?_⟩) ?_ ?_
            rotate_left
            · intro w'
              go_simp
              with_reducible rfl
            rotate_left
            · simp only [Act.put, List.setIfInBounds_toArray, List.set_cons_zero, List.set_cons_succ, i64_w, i32_w]
              rfl
            refine done_ (by kernel_rfl) ?_

            go_wp2_with fail
            rw [HWI.out]
            go_roundg k1
            case measure => omega
            case rel => exact ⟨i + 1, rfl, HI1, HQ1, ⟨blk_below BL.out HBi.out⟩, ⟨below_step HBr.out HBi.out⟩⟩
      · have d1 : decide (i < 8) = false := decide_eq_false hc
        clear hc
        go_wp2
        go_ret
        exact ⟨rfl, below_step HB.out HBr.out⟩
end Go.Proofs.Ytdicjemjmlbmlaa.H
/- An argument that is a sum. -/
namespace Go.Proofs.Ytdicjemjmlbmlaa.H
open Go.RowKit Go.WideShapes Go.Proofs.YtdicjemjmlbmlaaW.PrintWords Go.Proofs.Ytdicjemjmlbmlaa.PA
theorem Opens.arg_struct {α : Type} {P : Program} {d : Kd α} {t : TypeId} {fs : Array Field} {g : α → Prop} {H : Type} {enc : TypeId × Value → H} {w : World} {r : Reach} {b0 base : Nat} {spare : Nat → Bool} {held : Bool} {v : Value} {D : DataW H} {pl : List MemPlace}
    (ht : P.underlying t = some (.struct fs)) (he : Opens P d t g) (hv : Value.okWide P w r b0 t v) (h : DataW.Trod enc P w base spare held t v D pl) : ∃ (x : α) (cs : List Value), v = .agg cs.toArray ∧ d.K w x cs ∧ g x := by
  obtain ⟨cs, rfl, hsz⟩ := okWide_struct ht hv
  obtain ⟨fuel, hf⟩ := h
  obtain ⟨x, h1, h2⟩ := he.2 _ _ _ _ _ _ _ _ _ hf
  exact ⟨x, cs.toList, rfl, h1, h2⟩
set_option maxRecDepth 100000 in
theorem opens_whole : Opens Try.prog k24 24 (fun x => True ∧ ∀ y ∈ x.f1, (Lit.int .u32 y).wf = true) := (Opens.iso (Opens.struct Try.underlying24 (by kernel_rfl) (OpensAt.cons rfl (Opens.bool (by kernel_rfl) (by kernel_rfl)) (OpensAt.last rfl (Opens.slice (by kernel_rfl) (by kernel_rfl) (Opens.int (by kernel_rfl) (by kernel_rfl))) rfl))) _ (fun a => ⟨⟨a.1, a.2⟩, rfl⟩))
set_option maxRecDepth 100000 in
theorem opens_mono : Opens Try.prog k46 46 (fun x => (Lit.int .i64 x.f0).wf = true ∧ (True ∧ ∀ y ∈ x.f1.f1, (Lit.int .u32 y).wf = true)) := (Opens.iso (Opens.struct Try.underlying46 (by kernel_rfl) (OpensAt.cons rfl (Opens.int (by kernel_rfl) (by kernel_rfl)) (OpensAt.last rfl opens_whole rfl))) _ (fun a => ⟨⟨a.1, a.2⟩, rfl⟩))
set_option maxRecDepth 100000 in
set_option linter.constructorNameAsVariable false in
theorem arg_lin {H : Type} {enc : TypeId × Value → H} {w : World} {r : Reach} {b0 base : Nat} {spare : Nat → Bool} {held : Bool} {v : Value} {D : DataW H} {pl : List MemPlace}
    (hv : Value.okWide Try.prog w r b0 27 v) (h : DataW.Trod enc Try.prog w base spare held 27 v D pl) :
    ∃ (b : Bool) (A1 : Option Addr) (c1 : Nat) (l1 : List Int) (A2 : Option Addr) (c2 : Nat) (l2 : List S46), v = .agg #[.bool b, .slice A1 l1.length c1, .slice A2 l2.length c2] ∧ Kd.C (Kd.int .u32) w A1 l1.length l1 ∧ l1.length ≤ c1 ∧ Kd.C k46 w A2 l2.length l2 ∧ l2.length ≤ c2 ∧ (∀ x ∈ l1, (Lit.int .u32 x).wf = true) ∧ ∀ x ∈ l2, (Lit.int .i64 x.f0).wf = true ∧ ∀ y ∈ x.f1.f1, (Lit.int .u32 y).wf = true := by
  obtain ⟨⟨⟨b, l1⟩, l2⟩, cs, rfl, ⟨c0, c1, rfl, ⟨cb, cl, rfl, eb, ⟨A1, n1, rfl, h1, h2⟩⟩, ⟨A2, n2, rfl, h3, h4⟩⟩, g1, g2⟩ := Opens.arg_struct (d := Kd.pair k24 (Kd.slice 46 k46)) Try.underlying27 (Opens.struct Try.underlying27 (by kernel_rfl) (OpensAt.cons rfl opens_whole (OpensAt.last rfl (Opens.slice (by kernel_rfl) (by kernel_rfl) opens_mono) rfl))) hv h
  have eb : cb = [.bool b] := eb
  subst eb
  exact ⟨b, A1, n1, l1, A2, n2, l2, rfl, h2, h1, h4, h3, g1.2, fun x hx => ⟨(g2 x hx).1, (g2 x hx).2.2⟩⟩
end Go.Proofs.Ytdicjemjmlbmlaa.H
/- Written by wip/tools/rows.py. -/
namespace Go.Proofs.Ytdicjemjmlbmlaa.linForms
open Go.ChangeShapes Go.WideShapes Go.ChangeAt Go.RowKit
open Go.ChangeMaps (open_string shut_string)
set_option linter.unusedVariables false
theorem own : ownKnob Try.prog.godebug = none := by kernel_rfl
theorem laidOut : laidOutB Try.prog = true := by kernel_rfl
def IsRow (k : IntKind) (w : World) (a : Option Addr) (len cap : Nat) (zs : List Int) : Prop :=
  (a = none ∧ len = 0 ∧ cap = 0 ∧ zs = []) ∨
  ∃ x, a = some x ∧ len ≤ cap ∧ cap ≤ maxLen ∧ zs.length = cap ∧ (∀ i, i < zs.length → w.cell? (x.add i) = some (.int k (zs.getD i 0))) ∧ ∀ n ∈ zs, (Lit.int k n).wf = true
set_option maxRecDepth 100000 in
theorem lifted (os : Os) (started : os.Started) (H : Type) (enc : TypeId × Value → H) :
    ReturnsInHanded {} Try.checked os 7 .any (Rows.linFormsSpec.pre6 enc Try.prog Try.f7 Rows.linFormsRow.domain false) (Rows.linFormsSpec.post enc Try.prog Try.f7 false true false false) := by
  refine returnsInHanded_of_change_sized (C := Try.checked) own started (by kernel_rfl) Try.func7
    (ChangeSpec.witness6 (enc := enc) (C := Try.checked) false ⟨#[], #[.agg #[.bool false, .slice none 0 0, .slice none 0 0], .agg #[.bool false, .slice none 0 0, .slice none 0 0], .int .i64 0], []⟩ 8 (by kernel_rfl) (by kernel_rfl) (by kernel_rfl) (by kernel_rfl)) ?_
  intro W base args ds gs before hval0 hW hcnd hsz0 _
  have hsz : (DataW.weightsEach Try.prog (Try.f7.params.toList ++ Rows.linFormsSpec.plain.varTypes Try.prog) (ds ++ gs)).all (· ≤ reachBytes) = true := hsz0
  have hval : ∀ (j : Nat) t v, Try.f7.params[j]? = some t → args[j]? = some v → Value.okWide Try.prog W .any base t v := hval0
  have hW' := hW
  obtain ⟨p, q, hA0, hV, rfl, hfz, hnd⟩ := hW
  have hA : DataW.TrodAll enc Try.prog W 0 (fun _ => true) true Try.f7.params.toList args.toList ds p := hA0
  rw [Try.params7] at hA hval hsz
  obtain ⟨v0, vs0, d0, ds0, p0, q0, hargs, rfl, rfl, h0, r0⟩ := trodAll_cons hA
  obtain ⟨v1, vs1, d1, ds1, p1, q1, rfl, rfl, rfl, h1, r1⟩ := trodAll_cons r0
  obtain ⟨v2, vs2, d2, ds2, p2, q2, rfl, rfl, rfl, h2, r2⟩ := trodAll_cons r1
  obtain ⟨rfl, rfl, rfl⟩ := trodAll_nil r2
  obtain rfl : args = #[v0, v1, v2] := by cases args; simp_all
  obtain ⟨rfl, rfl⟩ := trodVars_none hV
  have k0 := h0
  have lt0 : ∀ x ∈ p0, x.block < W.heap.size := by obtain ⟨m, hm⟩ := k0; exact DataW.trod_lt m _ _ _ hm
  obtain ⟨b0, A0, c0, l0, B0, e0, r0_, rfl, hr0, hc0, hs0, hd0, hw0, hx0⟩ := Go.Proofs.Ytdicjemjmlbmlaa.H.arg_lin (hval 0 27 v0 rfl rfl) h0
  have k1 := h1
  have lt1 : ∀ x ∈ p1, x.block < W.heap.size := by obtain ⟨m, hm⟩ := k1; exact DataW.trod_lt m _ _ _ hm
  obtain ⟨b1, A1, c1, l1, B1, e1, r1_, rfl, hr1, hc1, hs1, hd1, hw1, hx1⟩ := Go.Proofs.Ytdicjemjmlbmlaa.H.arg_lin (hval 1 27 v1 rfl rfl) h1
  obtain ⟨a2, rfl, rfl, rfl, w2⟩ := open_int Try.underlying3 (hval 2 3 v2 rfl rfl) h2
  have hb2 := (bounds_i64 w2)
  clear hA0 hval0 hsz0 hsz
  refine (Go.Proofs.Ytdicjemjmlbmlaa.H.law_LinForms b0 _ _ l0 _ _ r0_ b1 _ _ l1 _ _ r1_ a2 W ⟨hr0, hc0⟩ ⟨hs0, hd0⟩ ⟨hr1, hc1⟩ ⟨hs1, hd1⟩ (Go.Proofs.Ytdicjemjmlbmlaa.S.lim_wf hw0) (fun x hx => Go.Proofs.Ytdicjemjmlbmlaa.S.lim_wf (hx0 x hx).2) (Go.Proofs.Ytdicjemjmlbmlaa.S.lim_wf hw1) (fun x hx => Go.Proofs.Ytdicjemjmlbmlaa.S.lim_wf (hx1 x hx).2)).mono fun e W' ⟨he, bel⟩ => ?_
  subst he
  exact ⟨_, rfl, _, _, _, [], _, [], hW', trodAll_mk1 (shut_bool Try.underlying4 _), (trodAll_cons_mk (Below.trod laidOut (by kernel_rfl) (of_decide_eq_true (by kernel_rfl)) k0 bel lt0) (trodAll_cons_mk (Below.trod laidOut (by kernel_rfl) (of_decide_eq_true (by kernel_rfl)) k1 bel lt1) (trodAll_cons_mk (shut_int Try.underlying3 w2) trodAll_mk0))), rfl, bel.frame _, fun h => by cases h⟩
theorem over : Rows.linFormsRow.holds Try.pinned (OpenSpec.ofChange Rows.linFormsSpec) :=
  OpenClaim.holds_of_wide 7 Try.f7 rfl rfl rfl rfl rfl rfl rfl ⟨rfl, rfl, rfl, rfl, rfl⟩ rfl rfl rfl rfl rfl (by kernel_rfl) Try.func7 (by kernel_rfl)
    (of_decide_eq_true (by kernel_rfl)) (by unfold Func.isWrapper; first | (rw [if_pos (by decide +kernel)]; kernel_rfl) | (rw [if_neg (by decide +kernel)]; exact ⟨rfl, rfl⟩))
    (fun os started H enc _ => lifted os started H enc)
theorem proved : Rows.LinFormsSaid := over
end Go.Proofs.Ytdicjemjmlbmlaa.linForms
namespace Go.Proofs.Ytdicjemjmlbmlaa
/-- The row, under a short name, for the claim. -/
theorem linForms_holds : Rows.LinFormsSaid := linForms.proved
end Go.Proofs.Ytdicjemjmlbmlaa
