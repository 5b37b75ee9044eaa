/- Joined by wip/tools/shake.py for the claim of LinReckons: HLAdd, HLPut, HLOfV, LinC, LinD, LinE, LinR, HAwk, LawR, HLin, LawLinReckons. -/
import Derived.Test.YtdicjemjmlbmlaaJLinReckons4
import Derived.Shelf.RegionOpenPlain
import Derived.Test.YtdicjemjmlbmlaaJLinReckons2
import Derived.WalkKit
import Derived.KernelRfl
import Derived.Lib.SmallJoins
import Derived.Test.YtdicjemjmlbmlaaRows
import Derived.ProofKit
import Derived.OpenShut
import Derived.ShutString
import Derived.ChangeOld
import Derived.Below
import Derived.SizedLaws
import Derived.ChangeSlices
import Derived.Deep.SlicePairs
/- lin.Add: two sums together. -/
namespace Go.Proofs.Ytdicjemjmlbmlaa.H
set_option linter.unusedSimpArgs false
set_option linter.unusedVariables false
open Go.RowKit Go.Proofs.YtdicjemjmlbmlaaW.PrintWords Go.Proofs.YtdicjemjmlbmlaaW.PrintLast Go.Proofs.YtdicjemjmlbmlaaW.PrintMore Go.Proofs.Ytdicjemjmlbmlaa.PA Go.Proofs.Ytdicjemjmlbmlaa.V Go.Proofs.Ytdicjemjmlbmlaa.S
theorem RP.ofraw {w : World} {A : Option Addr} {c : Nat} {rs : List RM} (h : Kd.C kM w A rs.length rs) (hc : rs.length ≤ c) (hl : ∀ x ∈ rs, Leads w x) : RP w A c (rs.map toM) := by
  obtain ⟨e, hn, hcs⟩ := h
  refine ⟨?_, by rw [List.length_map]; exact hc⟩
  rw [List.length_map]
  refine ⟨by rw [List.length_map], hn, fun h0 => ?_⟩
  obtain ⟨ad, rfl, hq⟩ := hcs h0
  refine ⟨ad, rfl, fun j p hj => ?_⟩
  rw [List.getElem?_map] at hj
  obtain ⟨x, hx, rfl⟩ := Option.map_eq_some_iff.1 hj
  obtain ⟨cs, hl2, hk, hcc⟩ := hq j x hx
  have hk : cs = encM x := hk
  subst hk
  have hlx := hl x (List.mem_of_getElem? hx)
  exact ⟨_, hl2, k46_mk w (toM x) hlx.1 hlx.2, hcc⟩
theorem q_Norm {w : World} {b : Bool} {A B : Option Addr} {c d : Nat} {l : List Int} {p : List S46} {rb : Bool} {rl : List Int} {rp : List S46} (h1 : RI w A c l) (h2 : RP w B d p) (h : lin_Norm.f b l p = some (rb, rl, rp)) :
    Calls Try.prog 20 #[.agg #[.bool b, .slice A l.length c, .slice B p.length d]] w (AL w rb rl rp) := by
  refine (lin_Norm.calls b _ _ l _ _ p rb rl rp w h1.r h1.s h2.r h2.s h).mono ?_
  rintro e w' ⟨v1, v2, rfl, ho, hs, hb⟩
  obtain ⟨A, c, rfl, hr⟩ := RI.of ho
  obtain ⟨B, d, rfl, hr2⟩ := RP.of hs
  exact ⟨A, c, B, d, rfl, hr, hr2, hb⟩
/-- A sum in rows of its own, and the same behind a store into a box. -/
structure OL (w : World) (A : Option Addr) (c : Nat) (l : List Int) (B : Option Addr) (d : Nat) (p : List S46) : Prop where
  o : ∃ base, Kd.R (Kd.int .u32) 81 w base (fun _ => True) (.slice A l.length c) l ∧ Kd.S k46 46 w base (fun _ => True) (.slice B p.length d) p
theorem OL.keep {w w1 : World} {A B : Option Addr} {c d : Nat} {l : List Int} {p : List S46} (h : OL w A c l B d p) (hm : ∀ (k : Nat) (cells : Array Value) (t : Nat), t = 81 ∨ t = 46 → w.heap[k]? = some (Obj.cells cells t (0, 0)) → w1.heap[k]? = w.heap[k]?) : OL w1 A c l B d p := by
  obtain ⟨base, hr, hs⟩ := h.o
  refine ⟨base, ?_, ?_⟩
  · refine Kd.R_mono (Kd.R_move (Kd.R_bound hr) (fun k hk => ?_)) (fun _ _ => trivial)
    obtain ⟨_, _, _, q, hq, cells, hc⟩ := hk
    rcases List.mem_cons.1 hq with rfl | hq
    · exact hm k cells _ (.inl rfl) hc
    · cases hq
  · refine Kd.S_mono (Kd.S_move (Kd.S_bound hs) (fun k hk => ?_)) (fun _ _ => trivial)
    obtain ⟨_, _, _, q, hq, cells, hc⟩ := hk
    have hq : q ∈ [46, 81] := hq
    rcases List.mem_cons.1 hq with rfl | hq
    · exact hm k cells _ (.inr rfl) hc
    · rw [List.mem_singleton.1 hq] at hc
      exact hm k cells _ (.inl rfl) hc
theorem OL.set3 {w : World} {A B : Option Addr} {c d : Nat} {l : List Int} {p : List S46} (h : OL w A c l B d p) {g : Nat} {cs : Array Value} (hg : w.heap[g]? = some (.cells cs 27 (0, 0))) (x y z : Value) : OL (((w.setCell ⟨g, 0, none⟩ x).setCell ⟨g, 1, none⟩ y).setCell ⟨g, 2, none⟩ z) A c l B d p :=
  h.keep (fun k cells t ht hk => set3_other w g 0 1 2 x y z k (box_ne hg hk (fun e => by rcases ht with rfl | rfl <;> exact absurd e (by decide))))
theorem OL.b {w w1 : World} {A B : Option Addr} {c d : Nat} {l : List Int} {p : List S46} (h : OL w A c l B d p) (hb : Below w.heap.size w w1) : OL w1 A c l B d p := h.keep (fun k cells t ht hk => hb.block k (Array.getElem?_eq_some_iff.1 hk).1)
theorem OL.i {w : World} {A B : Option Addr} {c d : Nat} {l : List Int} {p : List S46} (h : OL w A c l B d p) : RI w A c l := by
  obtain ⟨base, hr, hs⟩ := h.o
  exact ⟨(Kd.R_reads' hr).2.2, (Kd.R_reads' hr).2.1⟩
theorem OL.p {w : World} {A B : Option Addr} {c d : Nat} {l : List Int} {p : List S46} (h : OL w A c l B d p) : RP w B d p := by
  obtain ⟨base, hr, hs⟩ := h.o
  exact ⟨(Kd.S_reads' hs).2.2, (Kd.S_reads' hs).2.1⟩
def ALo (w : World) (b : Bool) (l : List Int) (p : List S46) (e : Ending) (w' : World) : Prop := ∃ A c B d, e = .returned (.agg #[.bool b, .slice A l.length c, .slice B p.length d]) ∧ OL w' A c l B d p ∧ Below w.heap.size w w'
theorem q_NormO {w : World} {b : Bool} {A B : Option Addr} {c d : Nat} {l : List Int} {p : List S46} {rb : Bool} {rl : List Int} {rp : List S46} (h1 : RI w A c l) (h2 : RP w B d p) (h : lin_Norm.f b l p = some (rb, rl, rp)) :
    Calls Try.prog 20 #[.agg #[.bool b, .slice A l.length c, .slice B p.length d]] w (ALo w rb rl rp) := by
  refine (lin_Norm.calls b _ _ l _ _ p rb rl rp w h1.r h1.s h2.r h2.s h).mono ?_
  rintro e w' ⟨v1, v2, rfl, ho, hs, hb⟩
  obtain ⟨A, c, rfl⟩ := Kd.R_slice ho
  obtain ⟨B, d, rfl⟩ := Kd.S_slice hs
  exact ⟨A, c, B, d, rfl, ⟨_, ho, Kd.S_mono hs (fun _ _ => trivial)⟩, hb⟩
theorem ALo.al {w : World} {b : Bool} {l : List Int} {p : List S46} {e : Ending} {w' : World} (h : ALo w b l p e w') : AL w b l p e w' := by
  obtain ⟨A, c, B, d, rfl, ho, hb⟩ := h
  exact ⟨A, c, B, d, rfl, ho.i, ho.p, hb⟩
/-- The sum of two sums. -/
def addU (b b' : Bool) (l l' : List Int) (p p' : List S46) : Bool × List Int × List S46 := SU (wv b l + wv b' l') (normP (p.map prM ++ p'.map prM))
set_option maxHeartbeats 8000000 in
set_option maxRecDepth 100000 in
theorem q_LAdd {w : World} {b b' : Bool} {A E A' E' : Option Addr} {c d c' d' : Nat} {l l' : List Int} {p p' : List S46} {m n : Nat} (h1 : RI w A c l) (h2 : RP w E d p) (h3 : RI w A' c' l') (h4 : RP w E' d' p') (hs : Small m n l p) (hs' : Small m n l' p') (hm : m ≤ 100000) (hn : n ≤ 100000) :
    Calls Try.prog 22 #[.agg #[.bool b, .slice A l.length c, .slice E p.length d], .agg #[.bool b', .slice A' l'.length c', .slice E' p'.length d']] w (ALo w (addU b b' l l' p p').1 (addU b b' l l' p p').2.1 (addU b b' l l' p p').2.2) := by
  have mixed : Try.prog.follows Departure.mixedOrders = true := by kernel_rfl
  have hu27 := Try.underlying27
  have hu24 := Try.underlying24
  have hu46 := Try.underlying46
  obtain ⟨rs, hp, hr, hd⟩ := raws h2.r
  obtain ⟨ts, hp', hr', hd'⟩ := raws h4.r
  have hl := hs.len
  have hl' := hs'.len
  have hnu := hs.num
  have hnu' := hs'.num
  obtain ⟨ka, hka⟩ := (wAdd_ev b b' l l' hs.lim hs'.lim (by omega) (by omega)).rounds
  have hB : B (n + 1) (wv b l + wv b' l') := ((hs.b b).add (hs'.b b')).mono (by omega)
  have hsm : Small 200000 100001 (W (wv b l + wv b' l')).2 (p ++ p') := ⟨W_lim _, by have := hB.len; omega, by rw [List.length_append]; omega, fun x hx => (List.mem_append.1 hx).elim (fun h => ⟨(hs.each x h).1, by have := (hs.each x h).2; omega⟩) (fun h => ⟨(hs'.each x h).1, by have := (hs'.each x h).2; omega⟩)⟩
  have hnr := lnorm_ev hsm (by omega) (by omega) (W (wv b l + wv b' l')).1
  rw [wv_W, List.map_append] at hnr
  have hnr : lin_Norm.f (W (wv b l + wv b' l')).1 (W (wv b l + wv b' l')).2 (p ++ p') = some ((addU b b' l l' p p').1, (addU b b' l l' p p').2.1, (addU b b' l l' p p').2.2) := hnr
  generalize (addU b b' l l' p p').1 = rb at *
  generalize (addU b b' l l' p p').2.1 = rl at *
  generalize (addU b b' l l' p p').2.2 = rp at *
  generalize hW : W (wv b l + wv b' l') = Ws at *
  obtain ⟨sb, sl⟩ := Ws
  have hln : rs.length = p.length := by rw [← hp, List.length_map]
  have hln' : ts.length = p'.length := by rw [← hp', List.length_map]
  rw [← hp, ← hp', ← List.map_append] at hnr
  obtain ⟨qs, hqs⟩ : ∃ qs, qs = rs ++ ts := ⟨_, rfl⟩
  rw [← hqs] at hnr
  have HQ := Aside0.mk hqs
  have HNR := Aside0.mk hnr
  have HS := Aside0.mk hka
  have HR := Aside0.mk hr
  have HT := Aside0.mk hr'
  have HD := Aside0.mk (And.intro hd hd')
  generalize hN : p.length = N at *
  generalize hN' : p'.length = N' at *
  have HN := Aside0.mk (And.intro hln hln')
  have HNM := Aside0.mk (show N ≤ 100000 ∧ N' ≤ 100000 by omega)
  have R1 := Aside0.mk h1
  have R2 := Aside0.mk h3
  have HB := Aside0.mk (Below.refl w.heap.size w)
  clear h1 h2 h3 h4 hr hr' hd hd' hp hp' hl hl' hnu hnu' hka hB hsm hnr hW hln hln' hN hN' hs hs' hm hn hqs
  go_enter Try.func22, Try.ntmps22
  go_wp2_with (first
    | ((with_reducible refine gate_dst (N := 2) rfl ?_); refine box_event ?hg (N := 2) ?hd (cs := #[.bool b, .slice A l.length c, .slice E N d]) (t := 27) ?hr ?_; (case hd => rfl); (case hg => rfl); (case hr => first | (go_simp; done) | (go_simp; rfl)); intro gA hg w1 hbox hb; have R1 := Aside0.mk (R1.out.b hb); have R2 := Aside0.mk (R2.out.b hb); have HB := Aside0.mk (below_step HB.out hb); have KA := Aside0.mk hbox; clear hg hbox hb)
    | ((with_reducible refine gate_dst (N := 3) rfl ?_); refine box_event ?hg (N := 3) ?hd (cs := #[.bool b', .slice A' l'.length c', .slice E' N' d']) (t := 27) ?hr ?_; (case hd => rfl); (case hg => rfl); (case hr => first | (go_simp; done) | (go_simp; rfl)); intro gB hg w2 hbox hb; have KA := Aside0.mk (blk_below KA.out hb); have R1 := Aside0.mk (R1.out.b hb); have R2 := Aside0.mk (R2.out.b hb); have HB := Aside0.mk (below_step HB.out hb); have KB := Aside0.mk hbox; clear hg hbox hb; have HB2 := HB)
    | ((with_reducible refine gate_dst (N := 4) rfl ?_); refine box_event ?hg (N := 4) ?hd (cs := #[.bool false, .slice none 0 0, .slice none 0 0]) (t := 27) ?hr ?_; (case hd => rfl); (case hg => rfl); (case hr => first | (go_simp; done) | (go_simp; rfl)); intro gR hg w3 hbox hb; have KA := Aside0.mk (blk_below KA.out hb); have KB := Aside0.mk (blk_below KB.out hb); have R1 := Aside0.mk (R1.out.b hb); have R2 := Aside0.mk (R2.out.b hb); have HB := Aside0.mk (below_step HB.out hb); have KR := Aside0.mk hbox; have GR := Aside0.mk (show w.heap.size ≤ gR by rw [hg]; exact (below_size HB2.out)); clear hg hbox hb; have cA := blk_all KA.out; have cB := blk_all KB.out))
  have HC := HB
  refine start_ (n := 14) (S := fun w' => (∀ i : Nat, w'.cell? ⟨gA, i, none⟩ = (#[.bool b, .slice A l.length c, .slice E N d] : Array Value)[i]?) ∧ (∀ i : Nat, w'.cell? ⟨gB, i, none⟩ = (#[.bool b', .slice A' l'.length c', .slice E' N' d'] : Array Value)[i]?)) (ds := [13]) #[false, false, false, false, false, false, false, false, false, false, false, false, false, false] (by kernel_rfl) rfl rfl ⟨cA, cB⟩ (fun hHeld => ?_)
  refine pure_ (i := 0) (N := some 5) (v := ?_) (a' := ?_) #[true, false, false, false, false, false, false, false, false, false, false, false, false, false] rfl rfl (by kernel_rfl) (fun _ _ _ h => h) (Or.inl ⟨by rfl, ?_⟩) ?_ ?_
  rotate_left
  · intro w'
    go_simp
    with_reducible rfl
  rotate_left
  · simp only [Act.put, List.setIfInBounds_toArray, List.set_cons_zero, List.set_cons_succ, i64_w, i32_w]
    rfl
  refine pure_ (i := 2) (N := some 7) (v := ?_) (a' := ?_) #[true, false, true, false, false, false, false, false, false, false, false, false, false, false] rfl rfl (by kernel_rfl) (fun _ _ _ h => h) (Or.inl ⟨by rfl, ?_⟩) ?_ ?_
  rotate_left
  · intro w'
    go_simp
    with_reducible rfl
  rotate_left
  · simp only [Act.put, List.setIfInBounds_toArray, List.set_cons_zero, List.set_cons_succ, i64_w, i32_w]
    rfl
  refine pure_ (i := 5) (N := some 10) (v := ?_) (a' := ?_) #[true, false, true, false, false, true, false, false, false, false, false, false, false, false] rfl rfl (by kernel_rfl) (fun _ _ _ h => h) (Or.inl ⟨by rfl, ?_⟩) ?_ ?_
  rotate_left
  · intro w'
    go_simp
    with_reducible rfl
  rotate_left
  · simp only [Act.put, List.setIfInBounds_toArray, List.set_cons_zero, List.set_cons_succ, i64_w, i32_w]
    rfl
  refine pure_ (i := 7) (N := some 12) (v := ?_) (a' := ?_) #[true, false, true, false, false, true, false, true, false, false, false, false, false, false] rfl rfl (by kernel_rfl) (fun _ _ _ h => h) (Or.inl ⟨by rfl, ?_⟩) ?_ ?_
  rotate_left
  · intro w'
    go_simp
    with_reducible rfl
  rotate_left
  · simp only [Act.put, List.setIfInBounds_toArray, List.set_cons_zero, List.set_cons_succ, i64_w, i32_w]
    rfl
  refine take_ (i := 1) (N := some 6) (v := ?_) (a' := ?_) #[true, true, true, false, false, true, false, true, false, false, false, false, false, false] rfl rfl (by kernel_rfl) (fun _ _ _ h => h) (Or.inl ⟨by rfl, ?_⟩) hHeld ?_ ?_
  rotate_left
  · rintro w' ⟨s0, s1⟩
    go_simp
    with_reducible rfl
  rotate_left
  · simp only [Act.put, List.setIfInBounds_toArray, List.set_cons_zero, List.set_cons_succ, i64_w, i32_w]
    rfl
  refine take_ (i := 3) (N := some 8) (v := ?_) (a' := ?_) #[true, true, true, true, false, true, false, true, false, false, false, false, false, false] rfl rfl (by kernel_rfl) (fun _ _ _ h => h) (Or.inl ⟨by rfl, ?_⟩) hHeld ?_ ?_
  rotate_left
  · rintro w' ⟨s0, s1⟩
    go_simp
    with_reducible rfl
  rotate_left
  · simp only [Act.put, List.setIfInBounds_toArray, List.set_cons_zero, List.set_cons_succ, i64_w, i32_w]
    rfl
  refine take_ (i := 6) (N := some 11) (v := ?_) (a' := ?_) #[true, true, true, true, false, true, true, true, false, false, false, false, false, false] rfl rfl (by kernel_rfl) (fun _ _ _ h => h) (Or.inl ⟨by rfl, ?_⟩) hHeld ?_ ?_
  rotate_left
  · rintro w' ⟨s0, s1⟩
    go_simp
    with_reducible rfl
  rotate_left
  · simp only [Act.put, List.setIfInBounds_toArray, List.set_cons_zero, List.set_cons_succ, i64_w, i32_w]
    rfl
  refine take_ (i := 8) (N := some 13) (v := ?_) (a' := ?_) #[true, true, true, true, false, true, true, true, true, false, false, false, false, false] rfl rfl (by kernel_rfl) (fun _ _ _ h => h) (Or.inl ⟨by rfl, ?_⟩) hHeld ?_ ?_
  rotate_left
  · rintro w' ⟨s0, s1⟩
    go_simp
    with_reducible rfl
  rotate_left
  · simp only [Act.put, List.setIfInBounds_toArray, List.set_cons_zero, List.set_cons_succ, i64_w, i32_w]
    rfl
  refine join_ (σ := (Option Addr × Nat) × Nat) 4 #[true, true, true, true, true, true, true, true, true, true, false, false, false, false] (fun s => [(9, .agg #[.bool sb, .slice s.1.1 sl.length s.1.2]), (14, .slice (some ⟨s.2, 0, none⟩) 2 2)]) (fun s w' => Aside0 (RI w' s.1.1 s.1.2 sl) ∧ Aside0 (w'.heap[s.2]? = some (.cells #[.slice E N d, .slice E' N' d'] 25 (0, 0))) ∧ Aside0 (Below w3.heap.size w3 w')) ?_ ?_
  rotate_left
  · intro hCont
    refine two_ (i := 4) (j := 9) (Ni := some 9) (Nj := some 14) #[true, true, true, true, true, true, true, true, true, false, false, false, false, false] #[true, true, true, true, false, true, true, true, true, true, false, false, false, false] rfl rfl rfl rfl (by kernel_rfl) (by decide) (by decide) (fun K hK => ?_) (fun K hK => ?_)
    · skip
      refine goes_ Try.func36 (by kernel_rfl) rfl #[.agg #[.bool b, .slice A l.length c], .agg #[.bool b', .slice A' l'.length c']] (by rfl) rfl rfl (by simp only [List.map_toArray, List.map_cons, List.map_nil]; rfl) ?_
      with_reducible refine (q_Add (R1.out.b (below_drew1 (Below.refl w3.heap.size w3))) (R2.out.b (below_drew1 (Below.refl w3.heap.size w3))) HS.out).mono ?_
      rintro e wa ⟨A9, c9, rfl, o9, hb⟩
      have HU := Aside0.mk (below_step (below_drew1 (Below.refl w3.heap.size w3)) hb)
      have R9 := Aside0.mk o9.r
      clear o9 hb
      refine ⟨_, rfl, ?_⟩
      refine hK.out _ _ ⟨blk_all (blk_below KA.out HU.out), blk_all (blk_below KB.out HU.out)⟩ (fun hHeld => ?_)
      clear hK K
      refine norm_ (a' := ?_) ?_ ?_
      rotate_left
      · show Act.put _ (some 9) _ = _
        simp only [Act.put, List.setIfInBounds_toArray, List.set_cons_zero, List.set_cons_succ, i64_w, i32_w]
        rfl
      refine one_ (i := 9) (N := some 14) #[true, true, true, true, true, true, true, true, true, true, false, false, false, false] rfl rfl (by kernel_rfl) (by decide) (fun K hK => ?_)
      have KG := Aside0.mk (blk_new wa (.cells #[.slice E N d, .slice E' N' d'] 25 (0, 0)))
      have HV := Aside0.mk (below_alloc HU.out (.cells #[.slice E N d, .slice E' N' d'] 25 (0, 0)))
      have R9 := Aside0.mk (R9.out.b (below_alloc (Below.refl wa.heap.size wa) (.cells #[.slice E N d, .slice E' N' d'] 25 (0, 0))))
      refine value_ (w1 := ?_) (v := ?_) (by rfl) rfl ?_ ?_
      rotate_left 2
      · go_simp
        constructor
        · rfl
        · rfl
      refine hK.out _ _ ⟨blk_all (blk_below KA.out HV.out), blk_all (blk_below KB.out HV.out)⟩ (fun hHeld => ?_)
      clear hK K
      refine norm_ (a' := ?_) ?_ ?_
      rotate_left
      · show Act.put _ (some 14) _ = _
        simp only [Act.put, List.setIfInBounds_toArray, List.set_cons_zero, List.set_cons_succ, i64_w, i32_w]
        rfl
      exact norm_ (by simp only [putAll, Act.put, List.setIfInBounds_toArray, List.set_cons_zero, List.set_cons_succ]) (hCont ((A9, c9), wa.heap.size) _ ⟨R9, KG, HV⟩)
    · skip
      have KG := Aside0.mk (blk_drew (blk_new w3 (.cells #[.slice E N d, .slice E' N' d'] 25 (0, 0))))
      have HV := Aside0.mk (below_drew1 (below_alloc (Below.refl w3.heap.size w3) (.cells #[.slice E N d, .slice E' N' d'] 25 (0, 0))))
      refine value_ (w1 := ?_) (v := ?_) (by rfl) rfl ?_ ?_
      rotate_left 2
      · go_simp
        constructor
        · rfl
        · rfl
      refine hK.out _ _ ⟨blk_all (blk_below KA.out HV.out), blk_all (blk_below KB.out HV.out)⟩ (fun hHeld => ?_)
      clear hK K
      refine norm_ (a' := ?_) ?_ ?_
      rotate_left
      · show Act.put _ (some 14) _ = _
        simp only [Act.put, List.setIfInBounds_toArray, List.set_cons_zero, List.set_cons_succ, i64_w, i32_w]
        rfl
      refine one_ (i := 4) (N := some 9) #[true, true, true, true, true, true, true, true, true, true, false, false, false, false] rfl rfl (by kernel_rfl) (by decide) (fun K hK => ?_)
      refine goes_ Try.func36 (by kernel_rfl) rfl #[.agg #[.bool b, .slice A l.length c], .agg #[.bool b', .slice A' l'.length c']] (by rfl) rfl rfl (by simp only [List.map_toArray, List.map_cons, List.map_nil]; rfl) ?_
      with_reducible refine (q_Add (R1.out.b HV.out) (R2.out.b HV.out) HS.out).mono ?_
      rintro e wa ⟨A9, c9, rfl, o9, hb⟩
      have HU := Aside0.mk (below_step HV.out hb)
      have R9 := Aside0.mk o9.r
      have KG := Aside0.mk (blk_below KG.out hb)
      clear o9 hb
      refine ⟨_, rfl, ?_⟩
      refine hK.out _ _ ⟨blk_all (blk_below KA.out HU.out), blk_all (blk_below KB.out HU.out)⟩ (fun hHeld => ?_)
      clear hK K
      refine norm_ (a' := ?_) ?_ ?_
      rotate_left
      · show Act.put _ (some 9) _ = _
        simp only [Act.put, List.setIfInBounds_toArray, List.set_cons_zero, List.set_cons_succ, i64_w, i32_w]
        rfl
      exact norm_ (by simp only [putAll, Act.put, List.setIfInBounds_toArray, List.set_cons_zero, List.set_cons_succ]) (hCont ((A9, c9), w3.heap.size) _ ⟨R9, KG, HU⟩)
  rintro ⟨⟨A9, c9⟩, g⟩ wb ⟨R9, KG, HV⟩
  have hHeld : (∀ i : Nat, wb.cell? ⟨gA, i, none⟩ = (#[.bool b, .slice A l.length c, .slice E N d] : Array Value)[i]?) ∧ (∀ i : Nat, wb.cell? ⟨gB, i, none⟩ = (#[.bool b', .slice A' l'.length c', .slice E' N' d'] : Array Value)[i]?) := ⟨blk_all (blk_below KA.out HV.out), blk_all (blk_below KB.out HV.out)⟩
  dsimp only at R9 KG
  have HC := Aside0.mk (below_step HC.out HV.out)
  refine norm_ (a' := ?_) ?_ ?_
  rotate_left
  · simp only [putAll, Act.put, List.setIfInBounds_toArray, List.set_cons_zero, List.set_cons_succ]
    rfl
  refine one_ (i := 10) (N := some 15) #[true, true, true, true, true, true, true, true, true, true, true, false, false, false] rfl rfl (by kernel_rfl) (by decide) (fun K hK => ?_)
  refine goes_ Try.func60 (by kernel_rfl) rfl #[.slice (some ⟨g, 0, none⟩) 2 2] (by rfl) rfl rfl (by simp only [List.map_toArray, List.map_cons, List.map_nil]; rfl) ?_
  with_reducible refine (concat_twoM g E d rs E' d' ts wb ?c1 ?c2 ?c3 ?c4 ?c5).mono ?_
  case c1 => rw [HN.out.1]; exact Kd.C_below HR.out HC.out
  case c2 => rw [HN.out.2]; exact Kd.C_below HT.out HC.out
  case c3 => have := HN.out; have := HNM.out; omega
  case c4 => rw [HN.out.1]; exact blk_cell KG.out 0
  case c5 => rw [HN.out.2]; exact blk_cell KG.out 1
  rintro e wc ⟨v, rfl, ho, hb⟩
  rw [← HQ.out] at ho
  obtain ⟨AC, cC, rfl, hsC, hrC⟩ := Kd.R_reads ho
  have HV := Aside0.mk (below_step HV.out hb)
  have HC := Aside0.mk (below_step HC.out hb)
  have R9 := Aside0.mk (R9.out.b hb)
  have RC := Aside0.mk (RP.ofraw hrC hsC (fun x hx => (List.mem_append.1 (show x ∈ rs ++ ts by rw [← HQ.out]; exact hx)).elim (fun h => (HD.out.1 x h).below HC.out) (fun h => (HD.out.2 x h).below HC.out)))
  clear ho hb hsC hrC
  refine ⟨_, rfl, ?_⟩
  refine hK.out _ _ ⟨blk_all (blk_below KA.out HV.out), blk_all (blk_below KB.out HV.out)⟩ (fun hHeld => ?_)
  clear hK K
  refine norm_ (a' := ?_) ?_ ?_
  rotate_left
  · show Act.put _ (some 15) _ = _
    simp only [Act.put, List.setIfInBounds_toArray, List.set_cons_zero, List.set_cons_succ, i64_w, i32_w]
    rfl
  refine pure_ (i := 11) (N := some 16) (v := ?_) (a' := ?_) #[true, true, true, true, true, true, true, true, true, true, true, true, false, false] rfl rfl (by kernel_rfl) (fun _ _ _ h => h) (Or.inl ⟨by rfl, ?_⟩) ?_ ?_
  rotate_left
  · intro w'
    go_simp
    with_reducible rfl
  rotate_left
  · simp only [Act.put, List.setIfInBounds_toArray, List.set_cons_zero, List.set_cons_succ, i64_w, i32_w]
    rfl
  refine one_ (i := 12) (N := some 17) #[true, true, true, true, true, true, true, true, true, true, true, true, true, false] rfl rfl (by kernel_rfl) (by decide) (fun K hK => ?_)
  refine goes_ Try.func20 (by kernel_rfl) rfl #[.agg #[.bool sb, .slice A9 sl.length c9, .slice AC qs.length cC]] (by rfl) rfl rfl (by simp only [List.map_toArray, List.map_cons, List.map_nil]; rfl) ?_
  have hN := q_NormO R9.out RC.out HNR.out
  rw [List.length_map] at hN
  refine hN.mono ?_
  clear hN
  rintro e wd ⟨AD, cD, BD, dD, rfl, oD, hb⟩
  have HV := Aside0.mk (below_step HV.out hb)
  have HC := Aside0.mk (below_step HC.out hb)
  have OD := Aside0.mk oD
  clear oD hb
  have KR := Aside0.mk (blk_below KR.out HV.out)
  have cR := blk_all KR.out
  have fR := frz_all KR.out
  refine ⟨_, rfl, ?_⟩
  refine hK.out _ _ ⟨blk_all (blk_below KA.out HV.out), blk_all (blk_below KB.out HV.out)⟩ (fun hHeld => ?_)
  clear hK K
  refine norm_ (a' := ?_) ?_ ?_
  rotate_left
  · show Act.put _ (some 17) _ = _
    simp only [Act.put, List.setIfInBounds_toArray, List.set_cons_zero, List.set_cons_succ, i64_w, i32_w]
    rfl
  refine last_ (i := 13) (N := none) #[true, true, true, true, true, true, true, true, true, true, true, true, true, true] rfl rfl (by kernel_rfl) (by decide) (fun K hK => ?_)
  refine skip_ (w1 := ?_) (by rfl) rfl ?_ ?_
  rotate_left
  · go_simp
    rfl
  refine hK.out _ _ ?_
  clear hK K
  refine done_ (by kernel_rfl) ?_

  go_wp2_with fail
  refine bodyPost_ret (results_cell_row rfl _ _ gR 27 #[.bool rb, .slice AD rl.length cD, .slice BD rp.length dD] (0, 0) _ rfl (blk_put3 KR.out _ _ _) Try.underlying27 rfl (by kernel_rfl)) rfl ?_
  exact ⟨AD, cD, BD, dD, rfl, OD.out.set3 KR.out _ _ _, below_set3 HC.out GR.out _ _ _⟩
end Go.Proofs.Ytdicjemjmlbmlaa.H
/- lin.Put: a sum with another one in a variable's place. -/
namespace Go.Proofs.Ytdicjemjmlbmlaa.H
set_option linter.unusedSimpArgs false
set_option linter.unusedVariables false
open Go.RowKit Go.Proofs.YtdicjemjmlbmlaaW.PrintWords Go.Proofs.YtdicjemjmlbmlaaW.PrintLast Go.Proofs.YtdicjemjmlbmlaaW.PrintMore Go.Proofs.Ytdicjemjmlbmlaa.PA Go.Proofs.Ytdicjemjmlbmlaa.V Go.Proofs.Ytdicjemjmlbmlaa.S
theorem q_ScaleO {w : World} {k : Nat} {b b' : Bool} {A B A' : Option Addr} {c d c' : Nat} {l l' : List Int} {p : List S46} {rb : Bool} {rl : List Int} {rp : List S46} (h1 : RI w A c l) (h2 : RP w B d p) (h3 : RI w A' c' l') (h : lin_Scale.f k b l p b' l' = some (rb, rl, rp)) :
    Calls Try.prog 24 #[.agg #[.bool b, .slice A l.length c, .slice B p.length d], .agg #[.bool b', .slice A' l'.length c']] w (ALo w rb rl rp) := by
  refine (lin_Scale.calls k b _ _ l _ _ p b' _ _ l' rb rl rp w h1.r h1.s h2.r h2.s h3.r h3.s h).mono ?_
  rintro e w' ⟨v1, v2, rfl, ho, hs, hb⟩
  obtain ⟨A, c, rfl⟩ := Kd.R_slice ho
  obtain ⟨B, d, rfl⟩ := Kd.S_slice hs
  exact ⟨A, c, B, d, rfl, ⟨_, Kd.R_mono ho (fun _ _ => trivial), Kd.S_mono hs (fun _ _ => trivial)⟩, hb⟩
theorem q_LAddO {w : World} {b b' : Bool} {A E A' E' : Option Addr} {c d c' d' : Nat} {l l' : List Int} {p p' : List S46} {m n : Nat} {rb : Bool} {rl : List Int} {rp : List S46} (h1 : RI w A c l) (h2 : RP w E d p) (h3 : RI w A' c' l') (h4 : RP w E' d' p') (hs : Small m n l p) (hs' : Small m n l' p') (hr : addU b b' l l' p p' = (rb, rl, rp)) (hm : m ≤ 100000) (hn : n ≤ 100000) :
    Calls Try.prog 22 #[.agg #[.bool b, .slice A l.length c, .slice E p.length d], .agg #[.bool b', .slice A' l'.length c', .slice E' p'.length d']] w (ALo w rb rl rp) := by
  have h := q_LAdd (b := b) (b' := b') h1 h2 h3 h4 hs hs' hm hn
  rw [hr] at h
  exact h
def dropV (v : Int) (p : List S46) : List S46 := p.filter (fun x => x.f0 != v)
/-- What is put together: the sum without the variable, and the other one, so many times as it has it. -/
def putU (b b' : Bool) (l l' : List Int) (p p' : List S46) (v : Int) : Bool × List Int × List S46 :=
  SU (wv b l + wv b' l' * coef (p.map prM) v) (normP ((dropV v p).map prM ++ normP (scP (coef (p.map prM) v) (p'.map prM))))
theorem filter_snoc (v : Int) (rs : List RM) (i : Int) (h0 : 0 ≤ i) (x : RM) (hx : rs[i.toNat]? = some x) : (rs.take (i + 1).toNat).filter (fun x => x.v != v) = (rs.take i.toNat).filter (fun x => x.v != v) ++ (if x.v != v then [x] else []) := by
  have := drop_at (fun x : RM => x) rs i h0 x hx
  rw [List.map_id', List.map_id'] at this
  rw [this, List.filter_append, List.filter_cons, List.filter_nil]
theorem filter_toM (v : Int) (rs : List RM) : (rs.filter (fun x => x.v != v)).map toM = dropV v (rs.map toM) := by
  unfold dropV
  rw [List.filter_map]; rfl
set_option maxHeartbeats 8000000 in
set_option maxRecDepth 100000 in
theorem q_Put {w : World} {b b' : Bool} {A E A' E' : Option Addr} {c d c' d' : Nat} {l l' : List Int} {p p' : List S46} (v : Int) {m n : Nat} (h1 : RI w A c l) (h2 : RP w E d p) (h3 : RI w A' c' l') (h4 : RP w E' d' p') (hs : Small m n l p) (hs' : Small m n l' p') (hm : m ≤ 10000) (hn : n ≤ 10000) :
    Calls Try.prog 26 #[.agg #[.bool b, .slice A l.length c, .slice E p.length d], .int .i64 v, .agg #[.bool b', .slice A' l'.length c', .slice E' p'.length d']] w (ALo w (putU b b' l l' p p' v).1 (putU b b' l l' p p' v).2.1 (putU b b' l l' p p' v).2.2) := by
  have mixed : Try.prog.follows Departure.mixedOrders = true := by kernel_rfl
  have hu27 := Try.underlying27
  have hu24 := Try.underlying24
  have hu46 := Try.underlying46
  obtain ⟨rs, hp, hr, hd⟩ := raws h2.r
  have hnu := hs.num
  have hcB : B (n + m) (coef (p.map prM) v) := (coef_B _ v hs.bq).mono (by rw [List.length_map]; omega)
  obtain ⟨ks, hks⟩ := (scale_ev (hs'.mono hm hn) (by omega) (by omega) b' (W (coef (p.map prM) v)).1 (W (coef (p.map prM) v)).2 (W_lim _) (by have := hcB.len; omega)).rounds
  rw [wv_W] at hks
  have hsB : B (n + (n + m)) (wv b' l' * coef (p.map prM) v) := (hs'.b b').mul hcB
  have hnm : BQ (n + (n + m) + m) (normP (scP (coef (p.map prM) v) (p'.map prM))) := (norm_B (scP_B hs'.bq hcB)).mono (by unfold scP; rw [List.length_map, List.length_map]; have := hs'.num; omega)
  have hs3 : Small 100000 100000 (W (wv b' l' * coef (p.map prM) v)).2 ((normP (scP (coef (p.map prM) v) (p'.map prM))).map enP) := small_SU (hsB.mono (by omega)) (Nat.le_trans (norm_len _) (by unfold scP; rw [List.length_map, List.length_map]; have := hs'.num; omega)) (hnm.mono (by omega))
  have hs2 : Small 100000 100000 l (dropV v p) := ⟨hs.lim, by have := hs.len; omega, Nat.le_trans (List.length_filter_le _ _) (by omega), fun x hx => ⟨(hs.each x (List.mem_filter.1 hx).1).1, by have := (hs.each x (List.mem_filter.1 hx).1).2; omega⟩⟩
  have had : addU b (W (wv b' l' * coef (p.map prM) v)).1 l (W (wv b' l' * coef (p.map prM) v)).2 (dropV v p) ((normP (scP (coef (p.map prM) v) (p'.map prM))).map enP) = ((putU b b' l l' p p' v).1, (putU b b' l l' p p' v).2.1, (putU b b' l l' p p' v).2.2) := by
    unfold addU putU
    rw [wv_W, map_enP]
  have hks : lin_Scale.f ks b' l' p' (W (coef (p.map prM) v)).1 (W (coef (p.map prM) v)).2 = some ((W (wv b' l' * coef (p.map prM) v)).1, (W (wv b' l' * coef (p.map prM) v)).2, (normP (scP (coef (p.map prM) v) (p'.map prM))).map enP) := hks
  generalize (putU b b' l l' p p' v).1 = rb at *
  generalize (putU b b' l l' p p' v).2.1 = rl at *
  generalize (putU b b' l l' p p' v).2.2 = rp at *
  generalize hKW : W (coef (p.map prM) v) = Kw at *
  obtain ⟨kb, kl⟩ := Kw
  generalize (normP (scP (coef (p.map prM) v) (p'.map prM))).map enP = sp at *
  generalize W (wv b' l' * coef (p.map prM) v) = Ws at *
  obtain ⟨sb, sl⟩ := Ws
  dsimp only at hks had hs3
  have hln : rs.length = p.length := by rw [← hp, List.length_map]
  have HP := Aside0.mk hp
  have HK := Aside0.mk hKW
  have HSC := Aside0.mk hks
  have HAD := Aside0.mk had
  have HS1 := Aside0.mk (hs.mono (Nat.le_refl m) (Nat.le_refl n))
  have HS2 := Aside0.mk hs2
  have HS3 := Aside0.mk hs3
  have HMN := Aside0.mk (show m ≤ 100000 ∧ n ≤ 100000 by omega)
  have HR := Aside0.mk hr
  have HD := Aside0.mk hd
  have R1 := Aside0.mk h1
  have R2 := Aside0.mk h2
  have R3 := Aside0.mk h3
  have R4 := Aside0.mk h4
  generalize hN : p.length = N at *
  have HLN := Aside0.mk (And.intro hln hnu)
  have HPN := Aside0.mk hN
  have HB := Aside0.mk (Below.refl w.heap.size w)
  clear h1 h2 h3 h4 hr hd hp hnu hcB hks hsB hnm hs3 hs2 had hKW hln hN hs hs' hm hn
  go_enter Try.func26, Try.ntmps26
  go_wp2_with (first
    | ((with_reducible refine gate_dst (N := 3) rfl ?_); refine box_event ?hg (N := 3) ?hd (cs := #[.bool b, .slice A l.length c, .slice E N d]) (t := 27) ?hr ?_; (case hd => rfl); (case hg => rfl); (case hr => first | (go_simp; done) | (go_simp; rfl)); intro gA hg w1 hbox hb; have HB := Aside0.mk (below_step HB.out hb); have KA := Aside0.mk hbox; clear hg hbox hb)
    | ((with_reducible refine gate_dst (N := 5) rfl ?_); refine box_event ?hg (N := 5) ?hd (cs := #[.bool b', .slice A' l'.length c', .slice E' p'.length d']) (t := 27) ?hr ?_; (case hd => rfl); (case hg => rfl); (case hr => first | (go_simp; done) | (go_simp; rfl)); intro gB hg w2 hbox hb; have KA := Aside0.mk (blk_below KA.out hb); have HB := Aside0.mk (below_step HB.out hb); have KB := Aside0.mk hbox; clear hg hbox hb; have HB2 := HB)
    | ((with_reducible refine gate_dst (N := 6) rfl ?_); refine box_event ?hg (N := 6) ?hd (cs := #[.bool false, .slice none 0 0, .slice none 0 0]) (t := 27) ?hr ?_; (case hd => rfl); (case hg => rfl); (case hr => first | (go_simp; done) | (go_simp; rfl)); intro gR hg w3 hbox hb; have KA := Aside0.mk (blk_below KA.out hb); have KB := Aside0.mk (blk_below KB.out hb); have HB := Aside0.mk (below_step HB.out hb); have KR := Aside0.mk hbox; have GR := Aside0.mk (show w.heap.size ≤ gR by rw [hg]; exact (below_size HB2.out)); clear hg hbox hb; have cA := blk_all KA.out)
    | ((with_reducible refine gate_dst (N := 7) rfl ?_); refine box_event ?hg (N := 7) ?hd (cs := #[.bool false, .slice none 0 0, .slice none 0 0]) (t := 27) ?hr ?_; (case hd => rfl); (case hg => rfl); (case hr => first | (go_simp; done) | (go_simp; rfl)); intro gO hg w4 hbox hb; have KO := Aside0.mk hbox; have HN := Aside0.mk hb; have GN := Aside0.mk (show w3.heap.size ≤ gO by rw [hg]; exact Nat.le_refl _); have cKA := blk_all (blk_below KA.out hb); have ngAgO : gA ≠ gO := Nat.ne_of_lt (hg ▸ blk_lt KA.out); have ngOgA : gO ≠ gA := fun e => ngAgO e.symm; have cggO := blk_all hbox; have fggO := frz_all hbox; clear hg hbox hb))
  go_loopg [16] (N + 1) (fun kq v16 wr => ∃ (i : Int) (u : Value) (os : List RM), v16 = .int .i64 i ∧ Aside0 (0 ≤ i ∧ i ≤ (N : Int)) ∧ Aside0 ((N : Int) - i < (kq : Int)) ∧ Aside0 (os = (rs.take i.toNat).filter (fun x => x.v != v)) ∧ Aside0 (wr.heap[gO]? = some (.cells #[.bool b, .slice A l.length c, u] 27 (0, 0))) ∧ Aside0 (Kd.R kM 46 wr w3.heap.size (fun _ => True) u os) ∧ Aside0 (Below w3.heap.size w3 wr))
  case atStart => exact ⟨0, _, [], rfl, ⟨Int.le_refl 0, by omega⟩, ⟨by omega⟩, ⟨rfl⟩, ⟨blk_put3 KO.out _ _ _⟩, ⟨Kd.R_nil _ _ _ _ _⟩, ⟨below_set3 HN.out GN.out _ _ _⟩⟩
  case round =>
    clear cA cKA cggO fggO ngAgO ngOgA
    obtain ⟨i, u, os, rfl, HI, HQ, HO, BO, HU, HBr⟩ := hrel
    obtain ⟨Ao, co, eu⟩ := Kd.R_slice HU.out
    subst eu
    have cO := blk_all BO.out
    cases gk with
    | zero => exact absurd HQ.out (by have := HI.out; omega)
    | succ k1 =>
    by_cases hc : i < (N : Int)
    · obtain ⟨ad, x, eA, hx, hx0, hx1, hx2⟩ := cM_at HR.out i HI.out.1 hc
      cases eA
      have hw := below_step HB.out HBr.out
      have X0 := pw_cell_below hw hx0
      have X1 := pw_cell_below hw hx1
      have X2 := pw_cell_below hw hx2
      obtain ⟨xv, xb, XA, xc, xl⟩ := x
      dsimp only at X0 X1 X2
      have hsn := filter_snoc v rs i HI.out.1 _ hx
      dsimp only at hsn
      have hwi : wrap64 (i + 1) = i + 1 := by
        have h1 := HI.out
        have h2 := HLN.out
        have h3 := HMN.out
        unfold wrap64; omega
      have HWI := Aside0.mk hwi
      have HSN := Aside0.mk hsn
      have HI1 := Aside0.mk (show 0 ≤ i + 1 ∧ i + 1 ≤ (N : Int) by have h1 := HI.out; omega)
      have HQ1 := Aside0.mk (show (N : Int) - (i + 1) < (k1 : Int) by have h1 := HQ.out; omega)
      have HOL := Aside0.mk (show os.length ≤ 1000000 by
        have h1 := List.length_filter_le (fun x : RM => x.v != v) (rs.take i.toNat)
        rw [← HO.out, List.length_take] at h1
        have h2 := HLN.out
        have h3 := HMN.out
        omega)
      have d1 : decide (i < (N : Int)) = true := decide_eq_true hc
      have d2 : decide (0 ≤ i) = true := decide_eq_true HI.out.1
      have p1 : (0 ≤ i) = True := eq_true HI.out.1
      have p2 : (i < (N : Int)) = True := eq_true hc
      clear hx0 hx1 hx2 hw hx hc hsn hwi
      by_cases hv : xv = v
      · have d3 : (xv != v) = false := bne_eq_false_iff_eq.2 hv
        have HV := Aside0.mk d3
        clear hv
        go_wp2_with (first
          | ((with_reducible refine gate_dst (N := 9) rfl ?_); refine box_event ?hg (N := 9) ?hd (cs := #[.int .i64 0, .bool false, .slice none 0 0]) (t := 46) ?hr ?_; (case hd => rfl); (case hg => rfl); (case hr => first | (go_simp; done) | (go_simp; rfl)); intro gX hg w5 hbox hb; have KX := Aside0.mk hbox; have HX := Aside0.mk hb; have GX := Aside0.mk (show wr.heap.size ≤ gX by rw [hg]; exact Nat.le_refl _); have cX := blk_all hbox; have fX := frz_all hbox; have nOX : gO ≠ gX := (by rw [hg]; exact Nat.ne_of_lt (blk_lt BO.out)); have nXO : gX ≠ gO := (fun e => nOX e.symm); have cO := blk_all (blk_below BO.out hb); clear hg hbox hb))
        rw [HWI.out]
        go_roundg k1
        case measure => omega
        case rel => exact ⟨i + 1, _, os, rfl, HI1, HQ1, ⟨by rw [HSN.out, if_neg (by rw [HV.out]; decide), List.append_nil, HO.out]⟩, ⟨blk_below BO.out (below_set3 HX.out GX.out _ _ _)⟩, ⟨Kd.R_below HU.out (below_set3 HX.out GX.out _ _ _)⟩, ⟨below_step HBr.out (below_set3 HX.out GX.out _ _ _)⟩⟩
      · have d3 : (xv != v) = true := bne_iff_ne.2 hv
        have HV := Aside0.mk d3
        clear hv
        go_wp2_with (first
          | ((with_reducible refine gate_dst (N := 9) rfl ?_); refine box_event ?hg (N := 9) ?hd (cs := #[.int .i64 0, .bool false, .slice none 0 0]) (t := 46) ?hr ?_; (case hd => rfl); (case hg => rfl); (case hr => first | (go_simp; done) | (go_simp; rfl)); intro gX hg w5 hbox hb; have KX := Aside0.mk hbox; have HX := Aside0.mk hb; have GX := Aside0.mk (show wr.heap.size ≤ gX by rw [hg]; exact Nat.le_refl _); have cX := blk_all hbox; have fX := frz_all hbox; have nOX : gO ≠ gX := (by rw [hg]; exact Nat.ne_of_lt (blk_lt BO.out)); have nXO : gX ≠ gO := (fun e => nOX e.symm); have cO := blk_all (blk_below BO.out hb); clear hg hbox hb)
          | ((with_reducible refine gate_builtin (b := .append) (xs := #[.tmp 25, .tmp 27]) rfl ?_); at_builtin; refine Kd.R_append kM (w0 := w3) w3.heap.size rfl (.tmp 25) (.tmp 27) 25 46 (.agg #[.int .i64 0, .bool false, .slice none 0 0]) 40 rfl Try.underlying25 infoM rfl (by decide) (by decide) (.slice Ao os.length co) os ⟨xv, xb, XA, xc, xl⟩ (encM ⟨xv, xb, XA, xc, xl⟩) (fun _ => True) (fun _ => False) rfl ?aX rfl (fun _ h => h.elim) (fun _ _ => trivial) ?aO ?aB ?aS ?aL ?_; (case aX => simp only [World.alloc, Array.size_push, World.size_setCell]; rfl); (case aO => exact Kd.R_below HU.out (by repeat first | exact HX.out | apply below_alloc | refine below_set ?_ GX.out)); (case aB => exact below_step HBr.out (by repeat first | exact HX.out | apply below_alloc | refine below_set ?_ GX.out)); (case aS => exact (below_step HBr.out (by repeat first | exact HX.out | apply below_alloc | refine below_set ?_ GX.out)).size); (case aL => have := HOL.out; omega); intro v10 w10 ho hb hg hat; obtain ⟨A10, c10, e10⟩ := Kd.R_slice ho; subst e10; rw [List.length_append, List.length_singleton] at ho; have HO10 := Aside0.mk ho; have HB10 := Aside0.mk hb; have BO10 := Aside0.mk ((hg.block gO (Array.getElem?_eq_some_iff.1 (blk_below BO.out (by repeat first | exact HX.out | apply below_alloc | refine below_set ?_ GX.out))).1 (fun e => by obtain ⟨cs, hc⟩ := Kd.R_typed (Kd.R_below HU.out (by repeat first | exact HX.out | apply below_alloc | refine below_set ?_ GX.out)) gO e.symm; exact absurd rfl (box_ne (blk_below BO.out (by repeat first | exact HX.out | apply below_alloc | refine below_set ?_ GX.out)) hc (by decide)))).trans (blk_below BO.out (by repeat first | exact HX.out | apply below_alloc | refine below_set ?_ GX.out))); clear ho hb hg hat cO; have cO := blk_all BO10.out; have fO := frz_all BO10.out))
        rw [HWI.out]
        go_roundg k1
        case measure => omega
        case rel => exact ⟨i + 1, _, os ++ [⟨xv, xb, XA, xc, xl⟩], rfl, HI1, HQ1, ⟨by rw [HSN.out, if_pos HV.out, HO.out]⟩, ⟨blk_put (cs := #[.bool b, .slice A l.length c, .slice Ao os.length co]) BO10.out 2 _ rfl⟩, ⟨kM_move HO10.out (fun k cells hk => Below.heap_setCell w10 ⟨gO, 2, none⟩ _ k (box_ne BO10.out hk (by decide)))⟩, ⟨below_set HB10.out GN.out⟩⟩
    · have hi : i.toNat = rs.length := by have h1 := HI.out; have h2 := HLN.out.1; omega
      have d1 : decide (i < (N : Int)) = false := decide_eq_false hc
      have hos : os = rs.filter (fun x => x.v != v) := by rw [HO.out, hi, List.take_length]
      have HOS := Aside0.mk hos
      have HW := Aside0.mk (below_step HB.out HBr.out)
      have HWR := Aside0.mk (Below.refl wr.heap.size wr)
      have KB := Aside0.mk (blk_below KB.out HBr.out)
      have KA := Aside0.mk (blk_below KA.out HBr.out)
      have KR := Aside0.mk (blk_below KR.out HBr.out)
      have cB := blk_all KB.out
      have cA := blk_all KA.out
      clear hc hi hos
      go_wp2_with fail
      refine start_ (n := 8) (S := fun w' => (∀ i : Nat, w'.cell? ⟨gO, i, none⟩ = (#[.bool b, .slice A l.length c, .slice Ao os.length co] : Array Value)[i]?) ∧ (∀ i : Nat, w'.cell? ⟨gB, i, none⟩ = (#[.bool b', .slice A' l'.length c', .slice E' p'.length d'] : Array Value)[i]?) ∧ (∀ i : Nat, w'.cell? ⟨gA, i, none⟩ = (#[.bool b, .slice A l.length c, .slice E N d] : Array Value)[i]?)) (ds := [7]) #[false, false, false, false, false, false, false, false] (by kernel_rfl) rfl rfl ⟨blk_all BO.out, blk_all KB.out, blk_all KA.out⟩ (fun hHeld => ?_)
      refine pure_ (i := 3) (N := some 34) (v := ?_) (a' := ?_) #[false, false, false, true, false, false, false, false] rfl rfl (by kernel_rfl) (fun _ _ _ h => h) (Or.inl ⟨by rfl, ?_⟩) ?_ ?_
      rotate_left
      · intro w'
        go_simp
        with_reducible rfl
      rotate_left
      · simp only [Act.put, List.setIfInBounds_toArray, List.set_cons_zero, List.set_cons_succ, i64_w, i32_w]
        rfl
      refine take_ (i := 0) (N := some 31) (v := ?_) (a' := ?_) #[true, false, false, true, false, false, false, false] rfl rfl (by kernel_rfl) (fun _ _ _ h => h) (Or.inl ⟨by rfl, ?_⟩) hHeld ?_ ?_
      rotate_left
      · rintro w' ⟨s0, s1, s2⟩
        go_simp
        with_reducible rfl
      rotate_left
      · simp only [Act.put, List.setIfInBounds_toArray, List.set_cons_zero, List.set_cons_succ, i64_w, i32_w]
        rfl
      refine take_ (i := 1) (N := some 32) (v := ?_) (a' := ?_) #[true, true, false, true, false, false, false, false] rfl rfl (by kernel_rfl) (fun _ _ _ h => h) (Or.inl ⟨by rfl, ?_⟩) hHeld ?_ ?_
      rotate_left
      · rintro w' ⟨s0, s1, s2⟩
        go_simp
        with_reducible rfl
      rotate_left
      · simp only [Act.put, List.setIfInBounds_toArray, List.set_cons_zero, List.set_cons_succ, i64_w, i32_w]
        rfl
      refine take_ (i := 2) (N := some 33) (v := ?_) (a' := ?_) #[true, true, true, true, false, false, false, false] rfl rfl (by kernel_rfl) (fun _ _ _ h => h) (Or.inl ⟨by rfl, ?_⟩) hHeld ?_ ?_
      rotate_left
      · rintro w' ⟨s0, s1, s2⟩
        go_simp
        with_reducible rfl
      rotate_left
      · simp only [Act.put, List.setIfInBounds_toArray, List.set_cons_zero, List.set_cons_succ, i64_w, i32_w]
        rfl
      refine one_ (i := 4) (N := some 35) #[true, true, true, true, true, false, false, false] rfl rfl (by kernel_rfl) (by decide) (fun K hK => ?_)
      refine goes_ Try.func28 (by kernel_rfl) rfl #[.agg #[.bool b, .slice A l.length c, .slice E N d], .int .i64 v] (by rfl) rfl rfl (by simp only [List.map_toArray, List.map_cons, List.map_nil]; rfl) ?_
      have hN := q_At (b := b) v (R1.out.b (below_drew1 HW.out)) (R2.out.b (below_drew1 HW.out)) HS1.out HMN.out.1 HMN.out.2
      rw [HK.out, HPN.out] at hN
      dsimp only at hN
      refine hN.mono ?_
      clear hN
      rintro e wa ⟨Ak, ck, rfl, rk, hb⟩
      have hy := below_step (below_drew1 (Below.refl wr.heap.size wr)) hb
      have BO := Aside0.mk (blk_below BO.out hy); have KB := Aside0.mk (blk_below KB.out hy); have KA := Aside0.mk (blk_below KA.out hy); have KR := Aside0.mk (blk_below KR.out hy); have HW := Aside0.mk (below_step HW.out hy); have HWR := Aside0.mk (below_step HWR.out hy)
      have RK := Aside0.mk rk
      clear rk hb hy
      refine ⟨_, rfl, ?_⟩
      refine hK.out _ _ ⟨blk_all BO.out, blk_all KB.out, blk_all KA.out⟩ (fun hHeld => ?_)
      clear hK K
      refine norm_ (a' := ?_) ?_ ?_
      rotate_left
      · show Act.put _ (some 35) _ = _
        simp only [Act.put, List.setIfInBounds_toArray, List.set_cons_zero, List.set_cons_succ, i64_w, i32_w]
        rfl
      refine one_ (i := 5) (N := some 36) #[true, true, true, true, true, true, false, false] rfl rfl (by kernel_rfl) (by decide) (fun K hK => ?_)
      refine goes_ Try.func24 (by kernel_rfl) rfl #[.agg #[.bool b', .slice A' l'.length c', .slice E' p'.length d'], .agg #[.bool kb, .slice Ak kl.length ck]] (by rfl) rfl rfl (by simp only [List.map_toArray, List.map_cons, List.map_nil]; rfl) ?_
      with_reducible refine (q_ScaleO (R3.out.b HW.out) (R4.out.b HW.out) RK.out HSC.out).mono ?_
      rintro e wb ⟨As, cs, Bs, ds, rfl, os_, hb⟩
      have BO := Aside0.mk (blk_below BO.out hb); have KB := Aside0.mk (blk_below KB.out hb); have KA := Aside0.mk (blk_below KA.out hb); have KR := Aside0.mk (blk_below KR.out hb); have HW := Aside0.mk (below_step HW.out hb); have HWR := Aside0.mk (below_step HWR.out hb)
      have RS := Aside0.mk os_.i
      have PS := Aside0.mk os_.p
      clear os_ hb RK
      refine ⟨_, rfl, ?_⟩
      refine hK.out _ _ ⟨blk_all BO.out, blk_all KB.out, blk_all KA.out⟩ (fun hHeld => ?_)
      clear hK K
      refine norm_ (a' := ?_) ?_ ?_
      rotate_left
      · show Act.put _ (some 36) _ = _
        simp only [Act.put, List.setIfInBounds_toArray, List.set_cons_zero, List.set_cons_succ, i64_w, i32_w]
        rfl
      refine one_ (i := 6) (N := some 37) #[true, true, true, true, true, true, true, false] rfl rfl (by kernel_rfl) (by decide) (fun K hK => ?_)
      refine goes_ Try.func22 (by kernel_rfl) rfl #[.agg #[.bool b, .slice A l.length c, .slice Ao os.length co], .agg #[.bool sb, .slice As sl.length cs, .slice Bs sp.length ds]] (by rfl) rfl rfl (by simp only [List.map_toArray, List.map_cons, List.map_nil]; rfl) ?_
      have he : os.map toM = dropV v p := by rw [HOS.out, filter_toM, HP.out]
      have hP := RP.ofraw (Kd.C_below (Kd.R_reads' HU.out).2.2 HWR.out) (Kd.R_reads' HU.out).2.1 (fun x hx => (HD.out x ((List.mem_filter.1 (show x ∈ rs.filter (fun x => x.v != v) from HOS.out ▸ hx)).1)).below HW.out)
      rw [he] at hP
      have hN := q_LAddO (R1.out.b HW.out) hP RS.out PS.out HS2.out HS3.out HAD.out (by decide) (by decide)
      rw [← he, List.length_map] at hN
      refine hN.mono ?_
      clear hN he hP
      rintro e wc ⟨AD, cD, BD, dD, rfl, oD, hb⟩
      have BO := Aside0.mk (blk_below BO.out hb); have KB := Aside0.mk (blk_below KB.out hb); have KA := Aside0.mk (blk_below KA.out hb); have KR := Aside0.mk (blk_below KR.out hb); have HW := Aside0.mk (below_step HW.out hb); have HWR := Aside0.mk (below_step HWR.out hb)
      have OD := Aside0.mk oD
      clear oD hb
      have cR := blk_all KR.out
      have fR := frz_all KR.out
      refine ⟨_, rfl, ?_⟩
      refine hK.out _ _ ⟨blk_all BO.out, blk_all KB.out, blk_all KA.out⟩ (fun hHeld => ?_)
      clear hK K
      refine norm_ (a' := ?_) ?_ ?_
      rotate_left
      · show Act.put _ (some 37) _ = _
        simp only [Act.put, List.setIfInBounds_toArray, List.set_cons_zero, List.set_cons_succ, i64_w, i32_w]
        rfl
      refine last_ (i := 7) (N := none) #[true, true, true, true, true, true, true, true] rfl rfl (by kernel_rfl) (by decide) (fun K hK => ?_)
      refine skip_ (w1 := ?_) (by rfl) rfl ?_ ?_
      rotate_left
      · go_simp
        rfl
      refine hK.out _ _ ?_
      clear hK K
      refine done_ (by kernel_rfl) ?_

      go_wp2_with fail
      refine bodyPost_ret (results_cell_row rfl _ _ gR 27 #[.bool rb, .slice AD rl.length cD, .slice BD rp.length dD] (0, 0) _ rfl (blk_put3 KR.out _ _ _) Try.underlying27 rfl (by kernel_rfl)) rfl ?_
      exact ⟨AD, cD, BD, dD, rfl, OD.out.set3 KR.out _ _ _, below_set3 HW.out GR.out _ _ _⟩
end Go.Proofs.Ytdicjemjmlbmlaa.H
/- lin.Of, lin.Var: a number, a variable as a sum. -/
namespace Go.Proofs.Ytdicjemjmlbmlaa.H
set_option linter.unusedSimpArgs false
set_option linter.unusedVariables false
open Go.RowKit Go.Proofs.YtdicjemjmlbmlaaW.PrintWords Go.Proofs.YtdicjemjmlbmlaaW.PrintLast Go.Proofs.YtdicjemjmlbmlaaW.PrintMore Go.Proofs.Ytdicjemjmlbmlaa.PA Go.Proofs.Ytdicjemjmlbmlaa.V Go.Proofs.Ytdicjemjmlbmlaa.S
theorem OI.set3 {w : World} {base : Nat} {A : Option Addr} {c : Nat} {l : List Int} (h : OI w base A c l) {g t : Nat} {cs : Array Value} (hg : w.heap[g]? = some (.cells cs t (0, 0))) (ht : t ≠ 81) (x y z : Value) : OI (((w.setCell ⟨g, 0, none⟩ x).setCell ⟨g, 1, none⟩ y).setCell ⟨g, 2, none⟩ z) base A c l :=
  ⟨h.o.move (fun k cells hk => set3_other w g 0 1 2 x y z k (box_ne hg hk ht))⟩
/-- A row of one part, where it lies. -/
theorem RP.ones {w : World} {g : Nat} {A : Option Addr} {c : Nat} {l : List Int} {v : Int} {b : Bool} (hb : w.heap[g]? = some (.cells #[.int .i64 v, .bool b, .slice A l.length c] 46 (0, 0))) (h : RI w A c l) : RP w (some ⟨g, 0, Option.none⟩) 1 [⟨v, ⟨b, l⟩⟩] := by
  refine ⟨⟨rfl, by show 1 ≤ _; decide, fun _ => ⟨_, rfl, fun j p hj => ?_⟩⟩, Nat.le_refl _⟩
  match j, hj with
  | 0, hj =>
    obtain rfl := Option.some.inj hj
    refine ⟨[.int .i64 v, .bool b, .slice A l.length c], rfl, k46_mk _ ⟨v, ⟨b, l⟩⟩ h.s h.r, fun i u hu => ?_⟩
    rw [show (0 * k46.sz + i) = i by omega, add_plain, blk_cell hb]
    match i, hu with
    | 0, hu => exact hu
    | 1, hu => exact hu
    | 2, hu => exact hu
set_option maxHeartbeats 8000000 in
set_option maxRecDepth 100000 in
theorem q_Var {w : World} (v : Int) : Calls Try.prog 31 #[.int .i64 v] w (AL w (W 0).1 (W 0).2 [⟨v, ⟨(W 1).1, (W 1).2⟩⟩]) := by
  have mixed : Try.prog.follows Departure.mixedOrders = true := by kernel_rfl
  have hu27 := Try.underlying27
  have hu24 := Try.underlying24
  have hu46 := Try.underlying46
  have HF := Aside0.mk (show whole_Of.f 0 = some ((W 0).1, (W 0).2) from wOf_ev 0 (by decide) (by decide))
  have HG := Aside0.mk (show whole_Of.f 1 = some ((W 1).1, (W 1).2) from wOf_ev 1 (by decide) (by decide))
  generalize (W 0).1 = zb at *
  generalize (W 0).2 = zl at *
  generalize (W 1).1 = ob at *
  generalize (W 1).2 = ol at *
  go_enter Try.func31, Try.ntmps31
  go_wp2_with (first
    | ((with_reducible refine gate_dst (N := 2) rfl ?_); refine box_event ?hg (N := 2) ?hd (cs := #[.bool false, .slice none 0 0, .slice none 0 0]) (t := 27) ?hr ?_; (case hd => rfl); (case hg => rfl); (case hr => first | (go_simp; done) | (go_simp; rfl)); intro gR hg w2 hbox hb; have KR := Aside0.mk hbox; have GR := Aside0.mk (show w.heap.size ≤ gR by rw [hg]; exact Nat.le_refl _); have HB := Aside0.mk hb; clear hg hbox hb)
    | (go_at_call 33; (with_reducible refine (q_Of HF.out).mono ?_); rintro e w3 ⟨A3, c3, rfl, o3, hb⟩; have KR := Aside0.mk (blk_below KR.out hb); have HB := Aside0.mk (below_step HB.out hb); have O3 := Aside0.mk o3; clear o3 hb)
    | (go_at_call 33; (with_reducible refine (q_Of HG.out).mono ?_); rintro e w4 ⟨A4, c4, rfl, o4, hb⟩; have O4 := Aside0.mk (o4.b (below_alloc (Below.refl w4.heap.size w4) (.cells #[.int .i64 v, .bool ob, .slice A4 ol.length c4] 46 (0, 0)))); have hx := below_alloc hb (.cells #[.int .i64 v, .bool ob, .slice A4 ol.length c4] 46 (0, 0)); have KR := Aside0.mk (blk_below KR.out hx); have KX := Aside0.mk (blk_new w4 (.cells #[.int .i64 v, .bool ob, .slice A4 ol.length c4] 46 (0, 0))); have NX := Aside0.mk (show w4.heap.size ≠ gR from box_ne KR.out KX.out (by decide)); have HB := Aside0.mk (below_step HB.out hx); have O3 := Aside0.mk (O3.out.b hx); clear o4 hb hx; have cR := blk_all KR.out; have fR := frz_all KR.out))
  refine bodyPost_ret (results_cell_row rfl _ _ gR 27 #[.bool zb, .slice A3 zl.length c3, .slice (some ⟨w4.heap.size, 0, none⟩) 1 1] (0, 0) _ rfl (blk_put3 KR.out _ _ _) Try.underlying27 rfl (by kernel_rfl)) rfl ?_
  exact ⟨A3, c3, some ⟨w4.heap.size, 0, none⟩, 1, rfl, (O3.out.set3 KR.out (by decide) _ _ _).r, RP.ones (blk_far3 KX.out NX.out _ _ _) (O4.out.set3 KR.out (by decide) _ _ _).r, below_set3 HB.out GR.out _ _ _⟩
end Go.Proofs.Ytdicjemjmlbmlaa.H
/- What comes in: small enough. -/
namespace Go.Proofs.Ytdicjemjmlbmlaa.S
set_option linter.unusedVariables false
set_option linter.unusedSimpArgs false
open Go.RowKit Go.Proofs.Ytdicjemjmlbmlaa.V Go.Proofs.Ytdicjemjmlbmlaa.PA Go.Proofs.Ytdicjemjmlbmlaa.H Go.Proofs.YtdicjemjmlbmlaaW.PrintWords Go.Proofs.YtdicjemjmlbmlaaW.PrintLast Go.Proofs.YtdicjemjmlbmlaaW.PrintMore

theorem limT_mk {n : Nat} {l : List Int} (h : Lim l) (hl : l.length ≤ n) (hn : n ≤ 10000) : limT l = true := by
  unfold limT
  rw [limB_mk h (by omega), decide_eq_true (show l.length ≤ 10000 by omega)]; rfl
theorem Small.guardT {m n : Nat} {l1 : List Int} {l2 : List S46} (h : Small m n l1 l2) (hm : m ≤ 10000) (hn : n ≤ 10000) (h1x : (normP (l2.map prM)).all (fun x => decide (az x.2 < 4294967296)) = true) : guardT l1 l2 = true := by
  have h2 := h.num
  unfold H.guardT
  rw [h1x, Bool.and_true]
  rw [limT_mk h.lim h.len hn, decide_eq_true (show l2.length ≤ 10000 by omega), Bool.true_and, Bool.true_and, List.all_eq_true]
  exact fun x hx => limT_mk (h.each x hx).1 (h.each x hx).2 hn
theorem tight_ev {m n : Nat} {l1 : List Int} {l2 : List S46} (h : Small m n l1 l2) (hm : m ≤ 10000) (hn : n ≤ 10000) (h1x : (normP (l2.map prM)).all (fun x => decide (az x.2 < 4294967296)) = true) (b : Bool) : lin_Tight.f b l1 l2 = some (OU (tightP (wv b l1) (normP (l2.map prM)))) := if_pos (h.guardT hm hn h1x)
theorem even_ev {m n : Nat} {l1 : List Int} {l2 : List S46} (h : Small m n l1 l2) (hm : m ≤ 10000) (hn : n ≤ 10000) (h1x : (normP (l2.map prM)).all (fun x => decide (az x.2 < 4294967296)) = true) (b : Bool) : lin_Even.f b l1 l2 = some (OU (evenP (wv b l1) (normP (l2.map prM)))) := if_pos (h.guardT hm hn h1x)
/-! ### small enough -/
def lightB (l1 : List Int) (l2 : List S46) : Bool := decide (l2.length ≤ 20) && decide (l1.length ≤ 8) && l2.all (fun x => decide (x.f1.f1.length ≤ 8))
theorem light_l0 (b : Bool) (l1 : List Int) (l2 : List S46) (hl : l2.length ≤ 20) : ∀ d i, i + d = l2.length → Ev (fun k => gudgeonref13_Light.l0 k 8 (i : Int) b l1 l2) ((l2.drop i).all (fun x => decide (x.f1.f1.length ≤ 8))) := by
  intro d
  induction d with
  | zero =>
    intro i hi
    refine Ev.step (fun k => by rw [gudgeonref13_Light.l0]) (evN (by omega) (evR ?_))
    rw [List.drop_eq_nil_of_le (by omega)]; rfl
  | succ d ih =>
    intro i hi
    have hi' : i < l2.length := by omega
    refine Ev.step (fun k => by rw [gudgeonref13_Light.l0]) (evP (by omega) (evP (by omega) ?_))
    rw [rdM l2 i hi', List.drop_eq_getElem_cons hi', List.all_cons]
    by_cases h : (l2[i].f1.f1.length : Int) > 8
    · refine evP h (evR ?_)
      rw [decide_eq_false (by omega), Bool.false_and]
    · refine evN h ?_
      rw [wnext (by omega), decide_eq_true (by omega), Bool.true_and]
      exact ih (i + 1) (by omega)
theorem rlight_ev (b : Bool) (l1 : List Int) (l2 : List S46) : Ev (fun k => gudgeonref13_Light.f k b l1 l2 20 8) (lightB l1 l2) := by
  unfold lightB
  refine Ev.congr (fun k => rfl) ?_
  by_cases h1 : (l2.length : Int) > 20
  · refine evP h1 (Ev.step (fun k => by rw [gudgeonref13_Light.j0]) (evP rfl (evR ?_)))
    rw [decide_eq_false (show ¬l2.length ≤ 20 by omega), Bool.false_and, Bool.false_and]
  · refine evN h1 ?_
    rw [decide_eq_true (show l2.length ≤ 20 by omega), Bool.true_and]
    by_cases h2 : (l1.length : Int) > 8
    · rw [decide_eq_true h2, decide_eq_false (show ¬l1.length ≤ 8 by omega), Bool.false_and]
      exact Ev.step (fun k => by rw [gudgeonref13_Light.j0]) (evP rfl (evR rfl))
    · rw [decide_eq_false h2, decide_eq_true (show l1.length ≤ 8 by omega), Bool.true_and]
      refine Ev.step (fun k => by rw [gudgeonref13_Light.j0]) (evN Bool.false_ne_true ?_)
      exact light_l0 b l1 l2 (by omega) l2.length 0 (by omega)
theorem light_ev (b b2 : Bool) (l1 l3 : List Int) (l2 l4 : List S46) : Ev (fun k => gudgeonlaw13_light.f k b l1 l2 b2 l3 l4) (lightB l1 l2 && lightB l3 l4) := by
  refine Ev.congr (fun k => rfl) (Ev.bind (rlight_ev b l1 l2) (Ev.bind (rlight_ev b2 l3 l4) ?_))
  cases lightB l1 l2 with
  | true => exact evP rfl (evR rfl)
  | false => exact evN Bool.false_ne_true (evR rfl)
theorem small_of {l1 : List Int} {l2 : List S46} (h : lightB l1 l2 = true) (h1 : Lim l1) (h2 : ∀ x ∈ l2, Lim x.f1.f1) : Small 20 8 l1 l2 := by
  unfold lightB at h
  rw [Bool.and_eq_true, Bool.and_eq_true, decide_eq_true_eq, decide_eq_true_eq, List.all_eq_true] at h
  obtain ⟨⟨h3, h4⟩, h5⟩ := h
  exact ⟨h1, h4, h3, fun x hx => ⟨h2 x hx, of_decide_eq_true (h5 x hx)⟩⟩
theorem lookV_B {n : Nat} (v : Int) : ∀ L : List (Int × Int), BQ n L → B n (lookV v L)
  | [], _ => B0.mono (by omega)
  | q :: r, h => by
    unfold lookV
    split
    · exact h q List.mem_cons_self
    · exact lookV_B v r (fun x hx => h x (List.mem_cons_of_mem _ hx))
theorem dot_B {n n' : Nat} {L : List (Int × Int)} (hL : BQ n' L) : ∀ p : List (Int × Int), BQ n p → B (n + n' + p.length) (dot L p)
  | [], _ => B0.mono (by omega)
  | q :: r, h => by
    have h1 := dot_B hL r (fun x hx => h x (List.mem_cons_of_mem _ hx))
    have h2 := (h q List.mem_cons_self).mul (lookV_B q.1 L hL)
    unfold dot
    exact ((h2.mono (by omega)).add h1).mono (by simp only [List.length_cons]; omega)
theorem B_dot {m n n' : Nat} {c : Int} {p L : List (Int × Int)} (hc : B n c) (hp : p.length ≤ m) (hq : BQ n p) (hm : m ≤ 100000) (hn : n ≤ 100000) (hL : BQ n' L) (hn' : n' ≤ 100000) : B 2000000 (c + dot L p) := by
  have h := dot_B hL p hq
  exact ((hc.mono (n := 1000000) (by omega)).add (h.mono (by omega))).mono (by omega)
end Go.Proofs.Ytdicjemjmlbmlaa.S
/- The examples. -/
namespace Go.Proofs.Ytdicjemjmlbmlaa.S
set_option linter.unusedVariables false
set_option linter.unusedSimpArgs false
open Go.RowKit Go.Proofs.Ytdicjemjmlbmlaa.V Go.Proofs.Ytdicjemjmlbmlaa.PA Go.Proofs.Ytdicjemjmlbmlaa.H Go.Proofs.YtdicjemjmlbmlaaW.PrintWords Go.Proofs.YtdicjemjmlbmlaaW.PrintLast Go.Proofs.YtdicjemjmlbmlaaW.PrintMore

theorem small_dec {l1 : List Int} {l2 : List S46} (h : (lightB l1 l2 && limB l1 && l2.all (fun x => limB x.f1.f1)) = true) : Small 20 8 l1 l2 := by
  rw [Bool.and_eq_true, Bool.and_eq_true, List.all_eq_true] at h
  exact small_of h.1.1 (limB_of h.1.2).2 (fun x hx => (limB_of (h.2 x hx)).2)
theorem dig_lit {x : Int} (h0 : 0 < x) (h1 : x < 4294967296) : dig x = [x] := by
  have h : Lim [x] := fun y hy => by rw [List.mem_singleton.1 hy]; omega
  have := dig_val_of_last h (by intro _; simp; omega)
  rwa [show val [x] = x by simp [val]] at this
theorem W_pos {x : Int} (h0 : 0 < x) (h1 : x < 4294967296) : W x = (false, [x]) := by
  unfold W az
  rw [if_neg (by omega), decide_eq_false (by omega), dig_lit h0 h1]
theorem W_neg {x : Int} (h0 : 0 < x) (h1 : x < 4294967296) : W (-x) = (true, [x]) := by
  unfold W az
  rw [if_pos (by omega), decide_eq_true (by omega), Int.neg_neg, dig_lit h0 h1]
theorem sum1 : Ev (fun k => gudgeonlaw13_sum.f k 7 4 6) (false, [7], [⟨0, ⟨false, [4]⟩⟩, ⟨1, ⟨false, [6]⟩⟩]) := Ev.of (fun k => gudgeonlaw13_sum.mono _ _ _ k) (k := 300) (by kernel_rfl)
theorem sum2 : Ev (fun k => gudgeonlaw13_sum.f k 6 (-2) 4) (false, [6], [⟨0, ⟨true, [2]⟩⟩, ⟨1, ⟨false, [4]⟩⟩]) := Ev.of (fun k => gudgeonlaw13_sum.mono _ _ _ k) (k := 300) (by kernel_rfl)
theorem sum3 : Ev (fun k => gudgeonlaw13_sum.f k 3 2 3) (false, [3], [⟨0, ⟨false, [2]⟩⟩, ⟨1, ⟨false, [3]⟩⟩]) := Ev.of (fun k => gudgeonlaw13_sum.mono _ _ _ k) (k := 300) (by kernel_rfl)
theorem sum4 : Ev (fun k => gudgeonlaw13_sum.f k (-3) 1 (-2)) (true, [3], [⟨0, ⟨false, [1]⟩⟩, ⟨1, ⟨true, [2]⟩⟩]) := Ev.of (fun k => gudgeonlaw13_sum.mono _ _ _ k) (k := 300) (by kernel_rfl)
theorem of1 : Ev (fun k => gudgeonref02_Of.f k 1) (false, [1]) := Ev.of (fun k => gudgeonref02_Of.mono _ k) (k := 300) (by kernel_rfl)
theorem of2 : Ev (fun k => gudgeonref02_Of.f k 2) (false, [2]) := Ev.of (fun k => gudgeonref02_Of.mono _ k) (k := 300) (by kernel_rfl)
theorem tight1 : lin_Tight.f false [7] [⟨0, ⟨false, [4]⟩⟩, ⟨1, ⟨false, [6]⟩⟩] = some (false, [3], [⟨0, ⟨false, [2]⟩⟩, ⟨1, ⟨false, [3]⟩⟩], 0) := by
  have h := tight_ev (m := 20) (n := 8) (l1 := [7]) (l2 := [⟨0, ⟨false, [4]⟩⟩, ⟨1, ⟨false, [6]⟩⟩]) (small_dec (by decide +kernel)) (by omega) (by omega) (by decide +kernel) false
  have e : tightP (wv false [7]) (normP ([(⟨0, ⟨false, [4]⟩⟩ : S46), ⟨1, ⟨false, [6]⟩⟩].map prM)) = (3, [(0, 2), (1, 3)], 0) := by decide +kernel
  rw [e] at h
  have e2 : OU (3, [(0, 2), (1, 3)], 0) = (false, [3], [⟨0, ⟨false, [2]⟩⟩, ⟨1, ⟨false, [3]⟩⟩], 0) := by
    simp only [OU, enP, List.map_cons, List.map_nil, W_pos (x := 3) (by omega) (by omega), W_pos (x := 2) (by omega) (by omega)]
  rw [e2] at h
  exact h
theorem even1 : lin_Even.f false [6] [⟨0, ⟨true, [2]⟩⟩, ⟨1, ⟨false, [4]⟩⟩] = some (true, [3], [⟨0, ⟨false, [1]⟩⟩, ⟨1, ⟨true, [2]⟩⟩], 0) := by
  have h := even_ev (m := 20) (n := 8) (l1 := [6]) (l2 := [⟨0, ⟨true, [2]⟩⟩, ⟨1, ⟨false, [4]⟩⟩]) (small_dec (by decide +kernel)) (by omega) (by omega) (by decide +kernel) false
  have e : evenP (wv false [6]) (normP ([(⟨0, ⟨true, [2]⟩⟩ : S46), ⟨1, ⟨false, [4]⟩⟩].map prM)) = (-3, [(0, 1), (1, -2)], 0) := by decide +kernel
  rw [e] at h
  have e2 : OU (-3, [(0, 1), (1, -2)], 0) = (true, [3], [⟨0, ⟨false, [1]⟩⟩, ⟨1, ⟨true, [2]⟩⟩], 0) := by
    simp only [OU, enP, List.map_cons, List.map_nil, W_neg (x := 3) (by omega) (by omega), W_pos (x := 1) (by omega) (by omega), W_neg (x := 2) (by omega) (by omega)]
  rw [e2] at h
  exact h
theorem even2 : lin_Even.f false [1] [⟨0, ⟨false, [2]⟩⟩] = some (OU (1, [(0, 2)], -1)) := by
  have h := even_ev (m := 20) (n := 8) (l1 := [1]) (l2 := [⟨0, ⟨false, [2]⟩⟩]) (small_dec (by decide +kernel)) (by omega) (by omega) (by decide +kernel) false
  have e : evenP (wv false [1]) (normP ([(⟨0, ⟨false, [2]⟩⟩ : S46)].map prM)) = (1, [(0, 2)], -1) := by decide +kernel
  rw [e] at h
  exact h
/-- What the examples' calls answer. -/
theorem awake_facts : ∃ k1 k2 k3 k4 k5 k6 b1 l1 p1 b2 l2 p2 b3 l3 b4 l4 b5 l5 p5 b6 l6 p6 zb zl zp,
    gudgeonlaw13_sum.f k1 7 4 6 = some (b1, l1, p1) ∧ gudgeonlaw13_sum.f k2 6 (-2) 4 = some (b2, l2, p2) ∧ gudgeonref02_Of.f k3 1 = some (b3, l3) ∧ gudgeonref02_Of.f k4 2 = some (b4, l4) ∧
    gudgeonlaw13_sum.f k5 3 2 3 = some (b5, l5, p5) ∧ gudgeonlaw13_sum.f k6 (-3) 1 (-2) = some (b6, l6, p6) ∧
    lin_Tight.f b1 l1 p1 = some (b5, l5, p5, 0) ∧ lin_Even.f b2 l2 p2 = some (b6, l6, p6, 0) ∧ lin_Even.f b3 l3 [⟨0, ⟨b4, l4⟩⟩] = some (zb, zl, zp, -1) ∧ OkS l5 p5 ∧ OkS l6 p6 := by
  obtain ⟨k1, h1⟩ := sum1.rounds
  obtain ⟨k2, h2⟩ := sum2.rounds
  obtain ⟨k3, h3⟩ := of1.rounds
  obtain ⟨k4, h4⟩ := of2.rounds
  obtain ⟨k5, h5⟩ := sum3.rounds
  obtain ⟨k6, h6⟩ := sum4.rounds
  exact ⟨k1, k2, k3, k4, k5, k6, _, _, _, _, _, _, _, _, _, _, _, _, _, _, _, _, _, _, _, h1, h2, h3, h4, h5, h6, tight1, even1, even2, ⟨by decide, by decide, by decide⟩, ⟨by decide, by decide, by decide⟩⟩
end Go.Proofs.Ytdicjemjmlbmlaa.S
/- LinTight, by values: what the law's calls answer. -/
namespace Go.Proofs.Ytdicjemjmlbmlaa.S
set_option linter.unusedVariables false
set_option linter.unusedSimpArgs false
open Go.RowKit Go.Proofs.Ytdicjemjmlbmlaa.V Go.Proofs.Ytdicjemjmlbmlaa.PA Go.Proofs.Ytdicjemjmlbmlaa.H Go.Proofs.YtdicjemjmlbmlaaW.PrintWords Go.Proofs.YtdicjemjmlbmlaaW.PrintLast Go.Proofs.YtdicjemjmlbmlaaW.PrintMore

theorem value_sg {m n m' n' : Nat} {c : Int} {p : List (Int × Int)} {l1' : List Int} {l : List S46} (hc : B n c) (hp : p.length ≤ m) (hq : BQ n p) (hm : m ≤ 100000) (hn : n ≤ 100000) (h' : Small m' n' l1' l) (hm' : m' ≤ 100000) (hn' : n' ≤ 100000) :
    lin_Value.f (W c).1 (W c).2 (p.map enP) l = some (W (c + dot (l.map prM) p)) ∧ B 2000000 (c + dot (l.map prM) p) := by
  have h := small_SU (m := m) hc hp hq
  refine ⟨?_, ?_⟩
  · have := lvalue_ev h (by omega) (by omega) h' (by omega) (by omega) (W c).1
    rw [wv_W, map_enP] at this
    exact this
  · exact B_dot hc hp hq hm hn h'.bq hn'
end Go.Proofs.Ytdicjemjmlbmlaa.S
/- LinReckons, by values: what the law's calls answer. -/
namespace Go.Proofs.Ytdicjemjmlbmlaa.H
set_option linter.unusedSimpArgs false
set_option linter.unusedVariables false
open Go.RowKit Go.Proofs.YtdicjemjmlbmlaaW.PrintWords Go.Proofs.YtdicjemjmlbmlaaW.PrintLast Go.Proofs.YtdicjemjmlbmlaaW.PrintMore Go.Proofs.Ytdicjemjmlbmlaa.PA Go.Proofs.Ytdicjemjmlbmlaa.V Go.Proofs.Ytdicjemjmlbmlaa.S
theorem W0e : W 0 = (false, []) := by unfold W az; simp [dig, digN]
theorem q_VarL {w : World} (v : Int) : Calls Try.prog 31 #[.int .i64 v] w fun e w' => ∃ A c B d, e = .returned (.agg #[.bool false, .slice A 0 c, .slice B 1 d]) ∧ RI w' A c [] ∧ RP w' B d [⟨v, ⟨(W 1).1, (W 1).2⟩⟩] ∧ Below w.heap.size w w' := by
  refine (q_Var v).mono ?_
  rw [W0e]
  rintro e w' ⟨A, c, B, d, rfl, h1, h2, hb⟩
  exact ⟨A, c, B, d, rfl, h1, h2, hb⟩
theorem q_Mul {w : World} {k : Nat} {b b' : Bool} {A A' : Option Addr} {c c' : Nat} {l l' : List Int} {rb : Bool} {rl : List Int} (h1 : RI w A c l) (h2 : RI w A' c' l') (h : whole_Mul.f k b l b' l' = some (rb, rl)) :
    Calls Try.prog 35 #[.agg #[.bool b, .slice A l.length c], .agg #[.bool b', .slice A' l'.length c']] w (AO w rb rl) := by
  refine (whole_Mul.calls k b A c l b' A' c' l' rb rl w h1.r h1.s h2.r h2.s h).mono ?_
  rintro e w' ⟨v, rfl, ho, hb⟩
  obtain ⟨A, c, rfl, hr⟩ := OI.of ho (Nat.le_refl _)
  exact ⟨A, c, rfl, hr, hb⟩
theorem q_Sub {w : World} {k : Nat} {b b' : Bool} {A A' : Option Addr} {c c' : Nat} {l l' : List Int} {rb : Bool} {rl : List Int} (h1 : RI w A c l) (h2 : RI w A' c' l') (h : whole_Sub.f k b l b' l' = some (rb, rl)) :
    Calls Try.prog 37 #[.agg #[.bool b, .slice A l.length c], .agg #[.bool b', .slice A' l'.length c']] w (AO w rb rl) := by
  refine (whole_Sub.calls k b A c l b' A' c' l' rb rl w h1.r h1.s h2.r h2.s h).mono ?_
  rintro e w' ⟨v, rfl, ho, hb⟩
  obtain ⟨A, c, rfl, hr⟩ := OI.of ho (Nat.le_refl _)
  exact ⟨A, c, rfl, hr, hb⟩
theorem q_Cmp {w : World} {k : Nat} {b b' : Bool} {A A' : Option Addr} {c c' : Nat} {l l' : List Int} {r : Int} (h1 : RI w A c l) (h2 : RI w A' c' l') (h : whole_Cmp.f k b l b' l' = some r) :
    Calls Try.prog 38 #[.agg #[.bool b, .slice A l.length c], .agg #[.bool b', .slice A' l'.length c']] w fun e w' => e = .returned (.int .i64 r) ∧ Below w.heap.size w w' := whole_Cmp.calls k b A c l b' A' c' l' r w h1.r h1.s h2.r h2.s h
set_option maxRecDepth 100000 in
theorem light0 {w : World} {B : Option Addr} {d : Nat} {q : List S46} {k : Nat} {r : Bool} (h2 : RP w B d q) (h : gudgeonref13_Light.f k false [] q 20 8 = some r) :
    Calls Try.prog 40 #[.agg #[.bool false, .slice none 0 0, .slice B q.length d], .int .i64 20, .int .i64 8] w fun e w' => e = .returned (.bool r) ∧ Below w.heap.size w w' := gudgeonref13_Light.calls k false none 0 [] B d q 20 8 r w (RI.nil w).r (Nat.le_refl _) h2.r h2.s h
set_option maxHeartbeats 1000000 in
theorem q_lights {w : World} {B : Option Addr} {d : Nat} {q : List S46} {k : Nat} {r : Bool} (h2 : RP w B d q) (h : gudgeonref13_Light.f k false [] q 20 8 = some r) :
    Calls Try.prog 34 #[.slice B q.length d, .int .i64 20, .int .i64 8] w fun e w' => e = .returned (.bool r) ∧ Below w.heap.size w w' := by
  have hu27 := Try.underlying27
  have R := Aside0.mk h2
  have H := Aside0.mk h
  clear h2 h
  go_enter Try.func34, Try.ntmps34
  go_wp2_with (go_at_call 40; (with_reducible refine (light0 R.out H.out).mono ?_); rintro e w1 ⟨rfl, hb⟩; have HB := Aside0.mk hb; clear hb)
  go_ret
  exact ⟨rfl, HB.out⟩
theorem dot_app (L : List (Int × Int)) : ∀ p q : List (Int × Int), dot L (p ++ q) = dot L p + dot L q
  | [], q => by simp [dot]
  | x :: r, q => by rw [List.cons_append]; simp only [dot]; rw [dot_app L r q]; omega
theorem dot_drop (L : List (Int × Int)) (v : Int) : ∀ p : List S46, dot L ((dropV v p).map prM) = dot L (p.map prM) - coef (p.map prM) v * lookV v L
  | [] => by simp [dropV, dot, coef]
  | x :: r => by
    have ih := dot_drop L v r
    unfold dropV at ih ⊢
    rw [List.filter_cons, List.map_cons, show coef (prM x :: r.map prM) v = (if x.f0 = v then (prM x).2 else 0) + coef (r.map prM) v from rfl, show dot L (prM x :: r.map prM) = (prM x).2 * lookV x.f0 L + dot L (r.map prM) from rfl, Int.add_mul]
    by_cases hx : x.f0 = v
    · rw [if_neg (by simp [hx]), ih, if_pos hx, hx]; omega
    · rw [if_pos (by simp [hx]), List.map_cons, show ∀ t, dot L (prM x :: t) = (prM x).2 * lookV x.f0 L + dot L t from fun _ => rfl, ih, if_neg hx]; omega
theorem cmp_self {z : Int} (h : B 10000000 z) : ∃ k, whole_Cmp.f k (W z).1 (W z).2 (W z).1 (W z).2 = some 0 := by
  have := wCmp_ev (W z).1 (W z).1 (W z).2 (W z).2 (W_lim _) (W_lim _) (by have := h.len; omega) (by have := h.len; omega)
  rw [Int.sub_self] at this
  exact this.rounds
theorem val_of {m n : Nat} {c : Int} {p : List (Int × Int)} {q : List S46} (hc : B n c) (hp : p.length ≤ m) (hb : BQ n p) (hm : m ≤ 100000) (hn : n ≤ 100000) (hq : Small 20 8 [] q) : lin_Value.f (W c).1 (W c).2 (p.map enP) q = some ((W (c + dot (q.map prM) p)).1, (W (c + dot (q.map prM) p)).2) := (value_sg hc hp hb hm hn hq (by decide) (by decide)).1
set_option maxRecDepth 100000 in
set_option maxHeartbeats 1000000 in
theorem reckons {b b' : Bool} {l1 l2 : List Int} {p1 p2 q : List S46} {kb : Bool} {kl : List Int} {v : Int} (hs : Small 20 8 l1 p1) (hs' : Small 20 8 l2 p2) (hq : Small 20 8 [] q) (hk : Lim kl) (hn : kl.length ≤ 8) :
    ∃ k1 k2 k3 k4 k5 k6 k7 k8 k9 k10 xb xl yb yl pb pl zb zl gb gl ob ol sb sl mb ml eb el fb fl tb tl tp nb nl np ab al ap cb cl cp,
    lin_Value.f b l1 p1 q = some (xb, xl) ∧ lin_Value.f b' l2 p2 q = some (yb, yl) ∧ (∀ (W0 : World) (A0_ : Option Addr) (c0_ : Nat) (A1_ : Option Addr) (c1_ : Nat) (A2_ : Option Addr) (c2_ : Nat) (A3_ : Option Addr) (c3_ : Nat), RI W0 A0_ c0_ l1 → RP W0 A1_ c1_ p1 → RI W0 A2_ c2_ l2 → RP W0 A3_ c3_ p2 → Calls Try.prog 26 #[.agg #[.bool b, .slice A0_ l1.length c0_, .slice A1_ p1.length c1_], .int .i64 v, .agg #[.bool b', .slice A2_ l2.length c2_, .slice A3_ p2.length c3_]] W0 (AL W0 tb tl tp)) ∧ lin_Value.f tb tl tp q = some (pb, pl) ∧ (∀ (W0 : World) (A0_ : Option Addr) (c0_ : Nat) (A1_ : Option Addr) (c1_ : Nat), RI W0 A0_ c0_ l1 → RP W0 A1_ c1_ p1 → Calls Try.prog 28 #[.agg #[.bool b, .slice A0_ l1.length c0_, .slice A1_ p1.length c1_], .int .i64 v] W0 (AW W0 zb zl)) ∧ (∀ (W0 : World) (A B D : Option Addr) (c d f : Nat), RI W0 A c [] → RP W0 B d [(⟨v, ⟨(W 1).1, (W 1).2⟩⟩ : S46)] → RP W0 D f q → Calls Try.prog 17 #[.agg #[.bool false, .slice A 0 c, .slice B 1 d], .slice D q.length f] W0 (AW W0 gb gl)) ∧ whole_Mul.f k1 zb zl gb gl = some (ob, ol) ∧ whole_Sub.f k2 xb xl ob ol = some (sb, sl) ∧ whole_Mul.f k3 zb zl yb yl = some (mb, ml) ∧ whole_Add.f k4 sb sl mb ml = some (pb, pl) ∧ lin_Norm.f b l1 p1 = some (nb, nl, np) ∧ lin_Value.f nb nl np q = some (xb, xl) ∧ whole_Cmp.f k5 xb xl xb xl = some 0 ∧ (∀ (W0 : World) (A0_ : Option Addr) (c0_ : Nat) (A1_ : Option Addr) (c1_ : Nat) (A2_ : Option Addr) (c2_ : Nat) (A3_ : Option Addr) (c3_ : Nat), RI W0 A0_ c0_ l1 → RP W0 A1_ c1_ p1 → RI W0 A2_ c2_ l2 → RP W0 A3_ c3_ p2 → Calls Try.prog 22 #[.agg #[.bool b, .slice A0_ l1.length c0_, .slice A1_ p1.length c1_], .agg #[.bool b', .slice A2_ l2.length c2_, .slice A3_ p2.length c3_]] W0 (AL W0 ab al ap)) ∧ lin_Value.f ab al ap q = some (eb, el) ∧ whole_Add.f k6 xb xl yb yl = some (eb, el) ∧ whole_Cmp.f k7 eb el eb el = some 0 ∧ (∀ (W0 : World) (A0_ : Option Addr) (c0_ : Nat) (A1_ : Option Addr) (c1_ : Nat) (A2_ : Option Addr) (c2_ : Nat), RI W0 A0_ c0_ l1 → RP W0 A1_ c1_ p1 → RI W0 A2_ c2_ kl → Calls Try.prog 24 #[.agg #[.bool b, .slice A0_ l1.length c0_, .slice A1_ p1.length c1_], .agg #[.bool kb, .slice A2_ kl.length c2_]] W0 (AL W0 cb cl cp)) ∧ lin_Value.f cb cl cp q = some (fb, fl) ∧ whole_Mul.f k8 xb xl kb kl = some (fb, fl) ∧ whole_Cmp.f k9 fb fl fb fl = some 0 ∧ whole_Cmp.f k10 pb pl pb pl = some 0 := by
  have h1 := hs.num
  have h2 := hs'.num
  have hzk := (B_in kb hk).mono hn
  have hnm := norm_small hs
  have hz : B 28 (coef (p1.map prM) v) := (coef_B _ v hs.bq).mono (by rw [List.length_map]; omega)
  have hX : B 1000000 (wv b l1 + dot (q.map prM) (p1.map prM)) := ((hs.b b).mono (show 8 ≤ 999 by decide)).add ((dot_B hq.bq _ hs.bq).mono (by rw [List.length_map]; omega)) |>.mono (by decide)
  have hY : B 1000000 (wv b' l2 + dot (q.map prM) (p2.map prM)) := ((hs'.b b').mono (show 8 ≤ 999 by decide)).add ((dot_B hq.bq _ hs'.bq).mono (by rw [List.length_map]; omega)) |>.mono (by decide)
  have hg : B 9 (lookV v (q.map prM)) := (lookV_B v _ hq.bq).mono (by decide)
  have e1 := lvalue_ev hs (by decide) (by decide) hq (by decide) (by decide) b
  have e2 := lvalue_ev hs' (by decide) (by decide) hq (by decide) (by decide) b'
  -- put
  have hsl : (normP (scP (coef (p1.map prM) v) (p2.map prM))).length ≤ 20 := Nat.le_trans (norm_len _) (by unfold scP; rw [List.length_map, List.length_map]; omega)
  have hdl : (dropV v p1).length ≤ 20 := Nat.le_trans (List.length_filter_le _ _) (by omega)
  have hsB : BQ 56 (normP (scP (coef (p1.map prM) v) (p2.map prM))) := (norm_B (scP_B hs'.bq hz)).mono (by unfold scP; rw [List.length_map, List.length_map]; omega)
  have hdB : BQ 56 ((dropV v p1).map prM) := fun x hx => by
    obtain ⟨y, hy, rfl⟩ := List.mem_map.1 hx
    exact (hs.bq _ (List.mem_map_of_mem (List.mem_filter.1 hy).1)).mono (by decide)
  have hpl : ((dropV v p1).map prM ++ normP (scP (coef (p1.map prM) v) (p2.map prM))).length ≤ 40 := by rw [List.length_append, List.length_map]; omega
  have hpB : BQ 100 (normP ((dropV v p1).map prM ++ normP (scP (coef (p1.map prM) v) (p2.map prM)))) := (norm_B (n := 56) (fun x hx => (List.mem_append.1 hx).elim (fun h => hdB x h) (fun h => hsB x h))).mono (by omega)
  have hpc : B 100 (wv b l1 + wv b' l2 * coef (p1.map prM) v) := (((hs.b b).mono (show 8 ≤ 99 by decide)).add (((hs'.b b').mul hz).mono (show 36 ≤ 99 by decide))).mono (by decide)
  have e3 := val_of hpc (Nat.le_trans (norm_len _) hpl) hpB (by decide) (by decide) hq
  have hPv : (wv b l1 + wv b' l2 * coef (p1.map prM) v) + dot (q.map prM) (normP ((dropV v p1).map prM ++ normP (scP (coef (p1.map prM) v) (p2.map prM)))) = ((wv b l1 + dot (q.map prM) (p1.map prM)) - coef (p1.map prM) v * lookV v (q.map prM)) + coef (p1.map prM) v * (wv b' l2 + dot (q.map prM) (p2.map prM)) := by
    rw [dot_norm, dot_app, dot_norm, dot_drop]
    unfold scP
    rw [dot_scale, Int.mul_add, Int.mul_comm (wv b' l2), Int.mul_comm (dot (q.map prM) (p2.map prM))]
    omega
  rw [hPv] at e3
  have hO : B 37 (coef (p1.map prM) v * lookV v (q.map prM)) := hz.mul hg
  have hS : B 1000001 ((wv b l1 + dot (q.map prM) (p1.map prM)) - coef (p1.map prM) v * lookV v (q.map prM)) := by
    have := hX.add (hO.neg.mono (show 37 ≤ 1000000 by decide))
    rwa [← Int.sub_eq_add_neg] at this
  have hM : B 1000028 (coef (p1.map prM) v * (wv b' l2 + dot (q.map prM) (p2.map prM))) := (hz.mul hY).mono (by decide)
  have hPB : B 1000029 (((wv b l1 + dot (q.map prM) (p1.map prM)) - coef (p1.map prM) v * lookV v (q.map prM)) + coef (p1.map prM) v * (wv b' l2 + dot (q.map prM) (p2.map prM))) := (hS.mono (show 1000001 ≤ 1000028 by decide)).add hM
  obtain ⟨k1, f1⟩ := (wMul_ev (W (coef (p1.map prM) v)).1 (W (lookV v (q.map prM))).1 (W (coef (p1.map prM) v)).2 (W (lookV v (q.map prM))).2 (W_lim _) (W_lim _) (by have := hz.len; omega) (by have := hg.len; omega)).rounds
  rw [wv_W, wv_W] at f1
  obtain ⟨k2, f2⟩ := (wSub_ev (W (wv b l1 + dot (q.map prM) (p1.map prM))).1 (W (coef (p1.map prM) v * lookV v (q.map prM))).1 (W (wv b l1 + dot (q.map prM) (p1.map prM))).2 (W (coef (p1.map prM) v * lookV v (q.map prM))).2 (W_lim _) (W_lim _) (by have := hX.len; omega) (by have := hO.len; omega)).rounds
  rw [wv_W, wv_W] at f2
  obtain ⟨k3, f3⟩ := (wMul_ev (W (coef (p1.map prM) v)).1 (W (wv b' l2 + dot (q.map prM) (p2.map prM))).1 (W (coef (p1.map prM) v)).2 (W (wv b' l2 + dot (q.map prM) (p2.map prM))).2 (W_lim _) (W_lim _) (by have := hz.len; omega) (by have := hY.len; omega)).rounds
  rw [wv_W, wv_W] at f3
  obtain ⟨k4, f4⟩ := (wAdd_ev (W ((wv b l1 + dot (q.map prM) (p1.map prM)) - coef (p1.map prM) v * lookV v (q.map prM))).1 (W (coef (p1.map prM) v * (wv b' l2 + dot (q.map prM) (p2.map prM)))).1 (W ((wv b l1 + dot (q.map prM) (p1.map prM)) - coef (p1.map prM) v * lookV v (q.map prM))).2 (W (coef (p1.map prM) v * (wv b' l2 + dot (q.map prM) (p2.map prM)))).2 (W_lim _) (W_lim _) (by have := hS.len; omega) (by have := hM.len; omega)).rounds
  rw [wv_W, wv_W] at f4
  obtain ⟨k5, f5⟩ := cmp_self (hX.mono (by decide))
  -- norm
  have e4 := val_of (hs.b b |>.mono (show 8 ≤ 28 by decide)) hnm.1 hnm.2 (by decide) (by decide) hq
  rw [dot_norm] at e4
  -- add
  have hal : (p1.map prM ++ p2.map prM).length ≤ 40 := by rw [List.length_append, List.length_map, List.length_map]; omega
  have haB : BQ 48 (normP (p1.map prM ++ p2.map prM)) := (norm_B (n := 8) (fun x hx => (List.mem_append.1 hx).elim (fun h => hs.bq x h) (fun h => hs'.bq x h))).mono (by omega)
  have e5 := val_of (((hs.b b).add (hs'.b b')).mono (show 9 ≤ 48 by decide)) (Nat.le_trans (norm_len _) hal) haB (by decide) (by decide) hq
  have hAv : (wv b l1 + wv b' l2) + dot (q.map prM) (normP (p1.map prM ++ p2.map prM)) = (wv b l1 + dot (q.map prM) (p1.map prM)) + (wv b' l2 + dot (q.map prM) (p2.map prM)) := by rw [dot_norm, dot_app]; omega
  rw [hAv] at e5
  obtain ⟨k6, f6⟩ := (wAdd_ev (W (wv b l1 + dot (q.map prM) (p1.map prM))).1 (W (wv b' l2 + dot (q.map prM) (p2.map prM))).1 (W (wv b l1 + dot (q.map prM) (p1.map prM))).2 (W (wv b' l2 + dot (q.map prM) (p2.map prM))).2 (W_lim _) (W_lim _) (by have := hX.len; omega) (by have := hY.len; omega)).rounds
  rw [wv_W, wv_W] at f6
  obtain ⟨k7, f7⟩ := cmp_self ((hX.add hY).mono (by decide))
  -- scale
  have hcl : (normP (scP (wv kb kl) (p1.map prM))).length ≤ 20 := Nat.le_trans (norm_len _) (by unfold scP; rw [List.length_map, List.length_map]; exact h1)
  have hcB : BQ 36 (normP (scP (wv kb kl) (p1.map prM))) := (norm_B (scP_B hs.bq hzk)).mono (by unfold scP; rw [List.length_map, List.length_map]; omega)
  have e6 := val_of (((hs.b b).mul hzk).mono (show 16 ≤ 36 by decide)) hcl hcB (by decide) (by decide) hq
  have hCv : wv b l1 * wv kb kl + dot (q.map prM) (normP (scP (wv kb kl) (p1.map prM))) = (wv b l1 + dot (q.map prM) (p1.map prM)) * wv kb kl := by
    rw [dot_norm]
    unfold scP
    rw [dot_scale, Int.add_mul]
  rw [hCv] at e6
  obtain ⟨k8, f8⟩ := (wMul_ev (W (wv b l1 + dot (q.map prM) (p1.map prM))).1 kb (W (wv b l1 + dot (q.map prM) (p1.map prM))).2 kl (W_lim _) hk (by have := hX.len; omega) (by omega)).rounds
  rw [wv_W] at f8
  obtain ⟨k9, f9⟩ := cmp_self ((hX.mul hzk).mono (by decide))
  obtain ⟨k10, f10⟩ := cmp_self (hPB.mono (by decide))
  obtain ⟨ks, hks⟩ := (scale_ev hs (by decide) (by decide) b kb kl hk (by omega)).rounds
  have hks : lin_Scale.f ks b l1 p1 kb kl = some ((W (wv b l1 * wv kb kl)).1, (W (wv b l1 * wv kb kl)).2, (normP (scP (wv kb kl) (p1.map prM))).map enP) := hks
  -- a variable's value
  have e7 : lin_Value.f false [] [(⟨v, ⟨(W 1).1, (W 1).2⟩⟩ : S46)] q = some ((W (lookV v (q.map prM))).1, (W (lookV v (q.map prM))).2) := by
    have := val_of (n := 1) (m := 1) (c := 0) (p := [(v, 1)]) (B0.mono (by decide)) (Nat.le_refl 1) (fun x hx => by rw [List.mem_singleton.1 hx]; unfold B; exact dig_length_le (az_nonneg _) (show az 1 < pw 1 by decide)) (by decide) (by decide) hq
    rw [W0e, show (0 : Int) + dot (q.map prM) [(v, 1)] = lookV v (q.map prM) by simp [dot]] at this
    exact this
  have e7 : lin_Value.f false [] [(⟨v, ⟨(W 1).1, (W 1).2⟩⟩ : S46)] q = some ((W (lookV v (q.map prM))).1, (W (lookV v (q.map prM))).2) := e7
  have hVV : (∀ (W0 : World) (A B D : Option Addr) (c d f : Nat), RI W0 A c [] → RP W0 B d [(⟨v, ⟨(W 1).1, (W 1).2⟩⟩ : S46)] → RP W0 D f q → Calls Try.prog 17 #[.agg #[.bool false, .slice A 0 c, .slice B 1 d], .slice D q.length f] W0 (AW W0 (W (lookV v (q.map prM))).1 (W (lookV v (q.map prM))).2)) := fun W0 A B D c d f r1 r2 r3 => q_Value (b := false) (l := []) (p := [(⟨v, ⟨(W 1).1, (W 1).2⟩⟩ : S46)]) r1 r2 r3 e7
  have hn0 := lnorm_ev hs (by decide) (by decide) b
  have g1 : ∀ {o : Option (Bool × List Int)} {z : Int}, o = some (W z) → o = some ((W z).1, (W z).2) := fun h => h
  have e1 := g1 e1
  have e2 := g1 e2
  have f1 := g1 f1
  have f2 := g1 f2
  have f3 := g1 f3
  have f4 := g1 f4
  have f6 := g1 f6
  have f8 := g1 f8
  have hPt := fun (W0 : World) (A : Option Addr) (c : Nat) (B : Option Addr) (d : Nat) (A' : Option Addr) (c' : Nat) (B' : Option Addr) (d' : Nat) (r1 : RI W0 A c l1) (r2 : RP W0 B d p1) (r3 : RI W0 A' c' l2) (r4 : RP W0 B' d' p2) => (q_Put (b := b) (b' := b') v r1 r2 r3 r4 hs hs' (by decide) (by decide)).mono (fun _ _ h => h.al)
  have hAt := fun (W0 : World) (A : Option Addr) (c : Nat) (B : Option Addr) (d : Nat) (r1 : RI W0 A c l1) (r2 : RP W0 B d p1) => q_At (b := b) v r1 r2 hs (by decide) (by decide)
  have hAd := fun (W0 : World) (A : Option Addr) (c : Nat) (B : Option Addr) (d : Nat) (A' : Option Addr) (c' : Nat) (B' : Option Addr) (d' : Nat) (r1 : RI W0 A c l1) (r2 : RP W0 B d p1) (r3 : RI W0 A' c' l2) (r4 : RP W0 B' d' p2) => (q_LAdd (b := b) (b' := b') r1 r2 r3 r4 hs hs' (by decide) (by decide)).mono (fun _ _ h => h.al)
  have hSc := fun (W0 : World) (A : Option Addr) (c : Nat) (B : Option Addr) (d : Nat) (A' : Option Addr) (c' : Nat) (r1 : RI W0 A c l1) (r2 : RP W0 B d p1) (r3 : RI W0 A' c' kl) => (q_ScaleO r1 r2 r3 hks).mono (fun _ _ h => h.al)
  unfold putU at hPt
  unfold addU at hAd
  unfold SU at hPt hAd hn0
  clear hs hs' hq hk hn h1 h2 hzk hnm hz hX hY hg hsl hdl hsB hdB hpl hpB hpc hO hS hM hPB hal haB hcl hcB hks e7 hPv hAv hCv
  generalize dot (q.map prM) (p1.map prM) = d1 at *
  generalize dot (q.map prM) (p2.map prM) = d2 at *
  generalize lookV v (q.map prM) = g at *
  generalize normP ((dropV v p1).map prM ++ normP (scP (coef (p1.map prM) v) (p2.map prM))) = tp at *
  generalize normP (p1.map prM ++ p2.map prM) = ap at *
  generalize normP (scP (wv kb kl) (p1.map prM)) = cp at *
  generalize normP (p1.map prM) = np at *
  generalize coef (p1.map prM) v = z at *
  generalize W (wv b l1 + d1) = Xx at *
  obtain ⟨xb, xl⟩ := Xx
  generalize W (wv b' l2 + d2) = Xy at *
  obtain ⟨yb, yl⟩ := Xy
  generalize W (wv b l1 + d1 - z * g + z * (wv b' l2 + d2)) = Xp at *
  obtain ⟨pb, pl⟩ := Xp
  generalize W z = Xz at *
  obtain ⟨zb, zl⟩ := Xz
  generalize W g = Xg at *
  obtain ⟨gb, gl⟩ := Xg
  generalize W (z * g) = Xo at *
  obtain ⟨ob, ol⟩ := Xo
  generalize W (wv b l1 + d1 - z * g) = Xs at *
  obtain ⟨sb, sl⟩ := Xs
  generalize W (z * (wv b' l2 + d2)) = Xm at *
  obtain ⟨mb, ml⟩ := Xm
  generalize W (wv b l1 + d1 + (wv b' l2 + d2)) = Xe at *
  obtain ⟨eb, el⟩ := Xe
  generalize W ((wv b l1 + d1) * wv kb kl) = Xf at *
  obtain ⟨fb, fl⟩ := Xf
  generalize W (wv b l1 + wv b' l2 * z) = Xt at *
  obtain ⟨tb, tl⟩ := Xt
  generalize W (wv b l1) = Xn at *
  obtain ⟨nb, nl⟩ := Xn
  generalize W (wv b l1 + wv b' l2) = Xa at *
  obtain ⟨ab, al⟩ := Xa
  generalize W (wv b l1 * wv kb kl) = Xc at *
  obtain ⟨cb, cl⟩ := Xc
  dsimp only at e1 e2 hPt e3 hAt hVV f1 f2 f3 f4 hn0 e4 f5 hAd e5 f6 f7 hSc e6 f8 f9 f10
  exact ⟨k1, k2, k3, k4, k5, k6, k7, k8, k9, k10, xb, xl, yb, yl, pb, pl, zb, zl, gb, gl, ob, ol, sb, sl, mb, ml, eb, el, fb, fl, tb, tl, tp.map enP, nb, nl, np.map enP, ab, al, ap.map enP, cb, cl, cp.map enP, e1, e2, hPt, e3, hAt, hVV, f1, f2, f3, f4, hn0, e4, f5, hAd, e5, f6, f7, hSc, e6, f8, f9, f10⟩
end Go.Proofs.Ytdicjemjmlbmlaa.H
/- The chapter's examples: the walk. -/
namespace Go.Proofs.Ytdicjemjmlbmlaa.H
set_option linter.unusedSimpArgs false
set_option linter.unusedVariables false
open Go.RowKit Go.Proofs.YtdicjemjmlbmlaaW.PrintWords Go.Proofs.YtdicjemjmlbmlaaW.PrintLast Go.Proofs.YtdicjemjmlbmlaaW.PrintMore Go.Proofs.Ytdicjemjmlbmlaa.PA Go.Proofs.Ytdicjemjmlbmlaa.V Go.Proofs.Ytdicjemjmlbmlaa.S
set_option maxHeartbeats 8000000 in
set_option maxRecDepth 100000 in
theorem q_awake (w : World) : Calls Try.prog 9 #[] w fun e w' => e = .returned (.bool true) ∧ Below w.heap.size w w' := by
  have mixed : Try.prog.follows Departure.mixedOrders = true := by kernel_rfl
  have hu27 := Try.underlying27
  have hu24 := Try.underlying24
  have hu46 := Try.underlying46
  obtain ⟨k1, k2, k3, k4, k5, k6, b1, l1, p1, b2, l2, p2, b3, l3, b4, l4, b5, l5, p5, b6, l6, p6, zb, zl, zp, h1, h2, h3, h4, h5, h6, hT, hE, hF, h7, h8⟩ := awake_facts
  have H1 := Aside0.mk h1; have H2 := Aside0.mk h2; have H3 := Aside0.mk h3; have H4 := Aside0.mk h4; have H5 := Aside0.mk h5; have H6 := Aside0.mk h6; have H7 := Aside0.mk h7; have H8 := Aside0.mk h8; have HT := Aside0.mk hT; have HE := Aside0.mk hE; have HF := Aside0.mk hF
  clear h1 h2 h3 h4 h5 h6 h7 h8 hT hE hF
  go_enter Try.func9, Try.ntmps9
  go_upto_region 4 with (first
    | (go_at_call 39; (with_reducible refine (q_sum H1.out).mono ?_); rintro e w1 ⟨A1, c1, B1, d1, rfl, r1, s1, hb⟩; have R1 := Aside0.mk r1; have S1 := Aside0.mk s1; have HB := Aside0.mk hb; clear r1 s1 hb)
    | (go_at_call 11; (with_reducible refine (q_Tight R1.out S1.out HT.out).mono ?_); rintro e w2 ⟨AX, cX, BX, dX, rfl, rX, sX, hb⟩; have RX := Aside0.mk rX; have SX := Aside0.mk sX; have HB := Aside0.mk (below_step HB.out hb); clear rX sX hb R1 S1)
    | ((with_reducible refine gate_dst (N := 1) rfl ?_); refine box_event ?hg (N := 1) ?hd (cs := #[.bool false, .slice none 0 0, .slice none 0 0]) (t := 27) ?hr ?_; (case hd => rfl); (case hg => rfl); (case hr => first | (go_simp; done) | (go_simp; rfl)); intro gX hg w3 hbox hb; have KX := Aside0.mk hbox; have HN := Aside0.mk hb; have GN := Aside0.mk (show w2.heap.size ≤ gX by rw [hg]; exact Nat.le_refl _); have cgX := blk_all hbox; have fgX := frz_all hbox; clear hg hbox hb)
    | (go_at_call 39; (with_reducible refine (q_sum H2.out).mono ?_); rintro e w4 ⟨A3, c3, B3, d3, rfl, r3, s3, hb⟩; have hx := below_step (below_set3 HN.out GN.out _ _ _) hb; have KX := Aside0.mk (blk_below (blk_put3 KX.out _ _ _) hb); have R3 := Aside0.mk r3; have S3 := Aside0.mk s3; have RX := Aside0.mk (RX.out.b hx); have SX := Aside0.mk (SX.out.b hx); have HB := Aside0.mk (below_step HB.out hx); clear r3 s3 hb hx HN GN cgX fgX)
    | (go_at_call 13; (with_reducible refine (q_Even R3.out S3.out HE.out).mono ?_); rintro e w5 ⟨AY, cY, BY, dY, rfl, rY, sY, hb⟩; have RY := Aside0.mk rY; have SY := Aside0.mk sY; have KX := Aside0.mk (blk_below KX.out hb); have RX := Aside0.mk (RX.out.b hb); have SX := Aside0.mk (SX.out.b hb); have HB := Aside0.mk (below_step HB.out hb); clear rY sY hb R3 S3)
    | ((with_reducible refine gate_dst (N := 3) rfl ?_); refine box_event ?hg (N := 3) ?hd (cs := #[.bool false, .slice none 0 0, .slice none 0 0]) (t := 27) ?hr ?_; (case hd => rfl); (case hg => rfl); (case hr => first | (go_simp; done) | (go_simp; rfl)); intro gY hg w6 hbox hb; have KY := Aside0.mk hbox; have HN := Aside0.mk hb; have GN := Aside0.mk (show w5.heap.size ≤ gY by rw [hg]; exact Nat.le_refl _); have cgY := blk_all hbox; have fgY := frz_all hbox; clear hg hbox hb)
    | (go_at_call 32; (with_reducible refine (q_rOf H3.out).mono ?_); rintro e w7 ⟨A7, c7, rfl, r7, hb⟩; have hx := below_step (below_set3 HN.out GN.out _ _ _) hb; have KY := Aside0.mk (blk_below (blk_put3 KY.out _ _ _) hb); have R7 := Aside0.mk r7; have KX := Aside0.mk (blk_below KX.out hx); have RX := Aside0.mk (RX.out.b hx); have SX := Aside0.mk (SX.out.b hx); have RY := Aside0.mk (RY.out.b hx); have SY := Aside0.mk (SY.out.b hx); have HB := Aside0.mk (below_step HB.out hx); clear r7 hb hx HN GN cgY fgY)
    | (go_at_call 32; (with_reducible refine (q_rOf H4.out).mono ?_); rintro e w8 ⟨A8, c8, rfl, r8, hb⟩; have R8 := Aside0.mk r8; have KX := Aside0.mk (blk_below KX.out hb); have KY := Aside0.mk (blk_below KY.out hb); have RX := Aside0.mk (RX.out.b hb); have SX := Aside0.mk (SX.out.b hb); have RY := Aside0.mk (RY.out.b hb); have SY := Aside0.mk (SY.out.b hb); have R7 := Aside0.mk (R7.out.b hb); have HB := Aside0.mk (below_step HB.out hb); clear r8 hb)
    | (go_at_call 13; (refine (q_Even (R7.out.b (below_alloc (Below.refl _ _) _)) (RP.one 0 b4 R8.out) HF.out).mono ?_); rintro e w9 ⟨AZ, cZ, BZ, dZ, rfl, rZ, sZ, hb⟩; have hx := below_step (below_alloc (Below.refl _ _) _) hb; have KX := Aside0.mk (blk_below KX.out hx); have KY := Aside0.mk (blk_below KY.out hx); have RX := Aside0.mk (RX.out.b hx); have SX := Aside0.mk (SX.out.b hx); have RY := Aside0.mk (RY.out.b hx); have SY := Aside0.mk (SY.out.b hx); have HB := Aside0.mk (below_step HB.out hx); clear rZ sZ hb hx R7 R8)
    | ((with_reducible refine gate_dst (N := 5) rfl ?_); refine box_event ?hg (N := 5) ?hd (cs := #[.bool false, .slice none 0 0, .slice none 0 0]) (t := 27) ?hr ?_; (case hd => rfl); (case hg => rfl); (case hr => first | (go_simp; done) | (go_simp; rfl)); intro gZ hg w10 hbox hb; have KZ := Aside0.mk hbox; have HN := Aside0.mk hb; have GN := Aside0.mk (show w9.heap.size ≤ gZ by rw [hg]; exact Nat.le_refl _); have cgZ := blk_all hbox; have fgZ := frz_all hbox; clear hg hbox hb))
  have hx := below_drew1 (below_set3 HN.out GN.out (.bool zb) (.slice AZ zl.length cZ) (.slice BZ zp.length dZ))
  clear cgZ fgZ
  refine start_ (n := 4) (S := fun w' => ∀ i : Nat, w'.cell? ⟨gX, i, none⟩ = (#[.bool b5, .slice AX l5.length cX, .slice BX p5.length dX] : Array Value)[i]?) (ds := []) #[false, false, false, false] (by kernel_rfl) rfl rfl (blk_all (blk_below KX.out hx)) (fun hHeld => ?_)
  refine take_ (i := 0) (N := some 28) (v := ?_) (a' := ?_) #[true, false, false, false] rfl rfl (by kernel_rfl) (fun _ _ _ h => h) (Or.inl ⟨by rfl, ?_⟩) hHeld ?_ ?_
  rotate_left
  · intro w' s0
    go_simp
    with_reducible rfl
  rotate_left
  · simp only [Act.put, List.setIfInBounds_toArray, List.set_cons_zero, List.set_cons_succ, i64_w, i32_w]
    rfl
  refine one_ (i := 1) (N := some 29) #[true, true, false, false] rfl rfl (by kernel_rfl) (by decide) (fun K hK => ?_)
  refine goes_ Try.func39 (by kernel_rfl) rfl #[.int .i64 3, .int .i64 2, .int .i64 3] (by rfl) rfl rfl (by simp only [List.map_toArray, List.map_cons, List.map_nil]; rfl) ?_
  with_reducible refine (q_sum H5.out).mono ?_
  rintro e w11 ⟨A5, c5, B5, d5, rfl, r5, s5, hb⟩
  have hy := below_step hx hb
  have R5 := Aside0.mk r5; have S5 := Aside0.mk s5; have KX := Aside0.mk (blk_below KX.out hy); have KY := Aside0.mk (blk_below KY.out hy); have RX := Aside0.mk (RX.out.b hy); have SX := Aside0.mk (SX.out.b hy); have RY := Aside0.mk (RY.out.b hy); have SY := Aside0.mk (SY.out.b hy); have HB := Aside0.mk (below_step HB.out hy)
  clear r5 s5 hb hy hx
  refine ⟨_, rfl, ?_⟩
  refine hK.out _ _ (blk_all KX.out) (fun hHeld => ?_)
  clear hK K
  refine norm_ (a' := ?_) ?_ ?_
  rotate_left
  · show Act.put _ (some 29) _ = _
    simp only [Act.put, List.setIfInBounds_toArray, List.set_cons_zero, List.set_cons_succ, i64_w, i32_w]
    rfl
  refine one_ (i := 2) (N := some 30) #[true, true, true, false] rfl rfl (by kernel_rfl) (by decide) (fun K hK => ?_)
  refine goes_ Try.func15 (by kernel_rfl) rfl #[.agg #[.bool b5, .slice AX l5.length cX, .slice BX p5.length dX], .agg #[.bool b5, .slice A5 l5.length c5, .slice B5 p5.length d5]] (by rfl) rfl rfl (by simp only [List.map_toArray, List.map_cons, List.map_nil]; rfl) ?_
  with_reducible refine (q_Same RX.out SX.out R5.out S5.out H7.out).mono ?_
  rintro e w12 ⟨rfl, hb⟩
  have KX := Aside0.mk (blk_below KX.out hb); have KY := Aside0.mk (blk_below KY.out hb); have RX := Aside0.mk (RX.out.b hb); have SX := Aside0.mk (SX.out.b hb); have RY := Aside0.mk (RY.out.b hb); have SY := Aside0.mk (SY.out.b hb); have HB := Aside0.mk (below_step HB.out hb)
  clear hb
  refine ⟨_, rfl, ?_⟩
  refine hK.out _ _ (blk_all KX.out) (fun hHeld => ?_)
  clear hK K
  refine norm_ (a' := ?_) ?_ ?_
  rotate_left
  · show Act.put _ (some 30) _ = _
    simp only [Act.put, List.setIfInBounds_toArray, List.set_cons_zero, List.set_cons_succ, i64_w, i32_w]
    rfl
  refine pure_ (i := 3) (N := some 7) (v := ?_) (a' := ?_) #[true, true, true, true] rfl rfl (by kernel_rfl) (fun _ _ _ h => h) (Or.inl ⟨by rfl, ?_⟩) ?_ ?_
  rotate_left
  · intro w'
    go_simp
    with_reducible rfl
  rotate_left
  · simp only [Act.put, List.setIfInBounds_toArray, List.set_cons_zero, List.set_cons_succ, i64_w, i32_w]
    rfl
  refine done_ (by kernel_rfl) ?_

  go_wp2_with fail
  refine start_ (n := 4) (S := fun w' => ∀ i : Nat, w'.cell? ⟨gY, i, none⟩ = (#[.bool b6, .slice AY l6.length cY, .slice BY p6.length dY] : Array Value)[i]?) (ds := []) #[false, false, false, false] (by kernel_rfl) rfl rfl (blk_all KY.out) (fun hHeld => ?_)
  refine take_ (i := 0) (N := some 31) (v := ?_) (a' := ?_) #[true, false, false, false] rfl rfl (by kernel_rfl) (fun _ _ _ h => h) (Or.inl ⟨by rfl, ?_⟩) hHeld ?_ ?_
  rotate_left
  · intro w' s0
    go_simp
    with_reducible rfl
  rotate_left
  · simp only [Act.put, List.setIfInBounds_toArray, List.set_cons_zero, List.set_cons_succ, i64_w, i32_w]
    rfl
  refine one_ (i := 1) (N := some 32) #[true, true, false, false] rfl rfl (by kernel_rfl) (by decide) (fun K hK => ?_)
  refine goes_ Try.func39 (by kernel_rfl) rfl #[.int .i64 (-3), .int .i64 1, .int .i64 (-2)] (by rfl) rfl rfl (by simp only [List.map_toArray, List.map_cons, List.map_nil]; rfl) ?_
  with_reducible refine (q_sum H6.out).mono ?_
  rintro e w13 ⟨A6, c6, B6, d6, rfl, r6, s6, hb⟩
  have hy := below_step (below_drew1 (Below.refl w12.heap.size w12)) hb
  have R6 := Aside0.mk r6; have S6 := Aside0.mk s6; have KY := Aside0.mk (blk_below KY.out hy); have RY := Aside0.mk (RY.out.b hy); have SY := Aside0.mk (SY.out.b hy); have HB := Aside0.mk (below_step HB.out hy)
  clear r6 s6 hb hy
  refine ⟨_, rfl, ?_⟩
  refine hK.out _ _ (blk_all KY.out) (fun hHeld => ?_)
  clear hK K
  refine norm_ (a' := ?_) ?_ ?_
  rotate_left
  · show Act.put _ (some 32) _ = _
    simp only [Act.put, List.setIfInBounds_toArray, List.set_cons_zero, List.set_cons_succ, i64_w, i32_w]
    rfl
  refine one_ (i := 2) (N := some 33) #[true, true, true, false] rfl rfl (by kernel_rfl) (by decide) (fun K hK => ?_)
  refine goes_ Try.func15 (by kernel_rfl) rfl #[.agg #[.bool b6, .slice AY l6.length cY, .slice BY p6.length dY], .agg #[.bool b6, .slice A6 l6.length c6, .slice B6 p6.length d6]] (by rfl) rfl rfl (by simp only [List.map_toArray, List.map_cons, List.map_nil]; rfl) ?_
  with_reducible refine (q_Same RY.out SY.out R6.out S6.out H8.out).mono ?_
  rintro e w14 ⟨rfl, hb⟩
  have KY := Aside0.mk (blk_below KY.out hb); have HB := Aside0.mk (below_step HB.out hb)
  clear hb
  refine ⟨_, rfl, ?_⟩
  refine hK.out _ _ (blk_all KY.out) (fun hHeld => ?_)
  clear hK K
  refine norm_ (a' := ?_) ?_ ?_
  rotate_left
  · show Act.put _ (some 33) _ = _
    simp only [Act.put, List.setIfInBounds_toArray, List.set_cons_zero, List.set_cons_succ, i64_w, i32_w]
    rfl
  refine pure_ (i := 3) (N := some 8) (v := ?_) (a' := ?_) #[true, true, true, true] rfl rfl (by kernel_rfl) (fun _ _ _ h => h) (Or.inl ⟨by rfl, ?_⟩) ?_ ?_
  rotate_left
  · intro w'
    go_simp
    with_reducible rfl
  rotate_left
  · simp only [Act.put, List.setIfInBounds_toArray, List.set_cons_zero, List.set_cons_succ, i64_w, i32_w]
    rfl
  refine done_ (by kernel_rfl) ?_

  go_wp2
  go_ret
  exact ⟨rfl, by repeat first | exact HB.out | apply below_drew1⟩
end Go.Proofs.Ytdicjemjmlbmlaa.H
/- LinReckons: the law's walk. -/
namespace Go.Proofs.Ytdicjemjmlbmlaa.H
set_option linter.unusedSimpArgs false
set_option linter.unusedVariables false
open Go.RowKit Go.Proofs.YtdicjemjmlbmlaaW.PrintWords Go.Proofs.YtdicjemjmlbmlaaW.PrintLast Go.Proofs.YtdicjemjmlbmlaaW.PrintMore Go.Proofs.Ytdicjemjmlbmlaa.PA Go.Proofs.Ytdicjemjmlbmlaa.V Go.Proofs.Ytdicjemjmlbmlaa.S
set_option maxHeartbeats 4000000 in
set_option maxRecDepth 100000 in
theorem law_LinReckons (b : Bool) (A1 : Option Addr) (c1 : Nat) (l1 : List Int) (A2 : Option Addr) (c2 : Nat) (p1 : List S46) (b' : Bool) (A3 : Option Addr) (c3 : Nat) (l2 : List Int) (A4 : Option Addr) (c4 : Nat) (p2 : List S46) (v : Int) (kb : Bool) (A5 : Option Addr) (c5 : Nat) (kl : List Int) (A6 : Option Addr) (c6 : Nat) (q : List S46) (w : World) (r1 : RI w A1 c1 l1) (r2 : RP w A2 c2 p1) (r3 : RI w A3 c3 l2) (r4 : RP w A4 c4 p2) (r5 : RI w A5 c5 kl) (r6 : RP w A6 c6 q) (h1 : Lim l1) (h2 : ∀ x ∈ p1, Lim x.f1.f1) (h3 : Lim l2) (h4 : ∀ x ∈ p2, Lim x.f1.f1) (h5 : Lim kl) (h6 : ∀ x ∈ q, Lim x.f1.f1) :
    Calls Try.prog 8 #[.agg #[.bool b, .slice A1 l1.length c1, .slice A2 p1.length c2], .agg #[.bool b', .slice A3 l2.length c3, .slice A4 p2.length c4], .int .i64 v, .agg #[.bool kb, .slice A5 kl.length c5], .slice A6 q.length c6] w fun e w' => e = .returned (.bool true) ∧ Below w.heap.size w w' := by
  have mixed : Try.prog.follows Departure.mixedOrders = true := by kernel_rfl
  have hu27 := Try.underlying27
  have hu24 := Try.underlying24
  have hu46 := Try.underlying46
  obtain ⟨kk, hkl⟩ := (light_ev b b' l1 l2 p1 p2).rounds
  generalize hlt : (lightB l1 p1 && lightB l2 p2) = lt at hkl
  obtain ⟨kf, hkf⟩ := (rlight_ev false [] q).rounds
  generalize hlf : lightB [] q = lf at hkf
  have HLT := Aside0.mk (And.intro hlt hlf)
  have HLM := Aside0.mk (And.intro (And.intro h1 h2) (And.intro (And.intro h3 h4) (And.intro h5 h6)))
  have HKL := Aside0.mk hkl
  have HKF := Aside0.mk hkf
  have R1 := Aside0.mk r1
  have R2 := Aside0.mk r2
  have R3 := Aside0.mk r3
  have R4 := Aside0.mk r4
  have R5 := Aside0.mk r5
  have R6 := Aside0.mk r6
  have HB := Aside0.mk (Below.refl w.heap.size w)
  clear hlt hlf h1 h2 h3 h4 h5 h6 hkl hkf r1 r2 r3 r4 r5 r6
  go_enter Try.func8, Try.ntmps8
  go_upto_region 4 with (first
    | ((with_reducible refine gate_dst (N := 5) rfl ?_); refine box_event ?hg (N := 5) ?hd (cs := #[.bool b, .slice A1 l1.length c1, .slice A2 p1.length c2]) (t := 27) ?hr ?_; (case hd => rfl); (case hg => rfl); (case hr => first | (go_simp; done) | (go_simp; rfl)); intro gA hg w1 hbox hb; have R1 := Aside0.mk (R1.out.b hb); have R2 := Aside0.mk (R2.out.b hb); have R3 := Aside0.mk (R3.out.b hb); have R4 := Aside0.mk (R4.out.b hb); have R5 := Aside0.mk (R5.out.b hb); have R6 := Aside0.mk (R6.out.b hb); have HB := Aside0.mk (below_step HB.out hb); have KA := Aside0.mk hbox; clear hg hbox hb)
    | ((with_reducible refine gate_dst (N := 6) rfl ?_); refine box_event ?hg (N := 6) ?hd (cs := #[.bool b', .slice A3 l2.length c3, .slice A4 p2.length c4]) (t := 27) ?hr ?_; (case hd => rfl); (case hg => rfl); (case hr => first | (go_simp; done) | (go_simp; rfl)); intro gB hg w2 hbox hb; have KA := Aside0.mk (blk_below KA.out hb); have R1 := Aside0.mk (R1.out.b hb); have R2 := Aside0.mk (R2.out.b hb); have R3 := Aside0.mk (R3.out.b hb); have R4 := Aside0.mk (R4.out.b hb); have R5 := Aside0.mk (R5.out.b hb); have R6 := Aside0.mk (R6.out.b hb); have HB := Aside0.mk (below_step HB.out hb); have KB := Aside0.mk hbox; clear hg hbox hb)
    | ((with_reducible refine gate_dst (N := 8) rfl ?_); refine box_event ?hg (N := 8) ?hd (cs := #[.bool kb, .slice A5 kl.length c5]) (t := 24) ?hr ?_; (case hd => rfl); (case hg => rfl); (case hr => first | (go_simp; done) | (go_simp; rfl)); intro gC hg w3 hbox hb; have KA := Aside0.mk (blk_below KA.out hb); have KB := Aside0.mk (blk_below KB.out hb); have R1 := Aside0.mk (R1.out.b hb); have R2 := Aside0.mk (R2.out.b hb); have R3 := Aside0.mk (R3.out.b hb); have R4 := Aside0.mk (R4.out.b hb); have R5 := Aside0.mk (R5.out.b hb); have R6 := Aside0.mk (R6.out.b hb); have HB := Aside0.mk (below_step HB.out hb); have KC := Aside0.mk hbox; clear hg hbox hb)
    | (go_at_call 9; (with_reducible refine (q_awake _).mono ?_); rintro e w4 ⟨rfl, hb⟩; have KA := Aside0.mk (blk_below KA.out hb); have KB := Aside0.mk (blk_below KB.out hb); have KC := Aside0.mk (blk_below KC.out hb); have R1 := Aside0.mk (R1.out.b hb); have R2 := Aside0.mk (R2.out.b hb); have R3 := Aside0.mk (R3.out.b hb); have R4 := Aside0.mk (R4.out.b hb); have R5 := Aside0.mk (R5.out.b hb); have R6 := Aside0.mk (R6.out.b hb); have HB := Aside0.mk (below_step HB.out hb); clear hb; have cKA := blk_all KA.out; have cKB := blk_all KB.out; have cKC := blk_all KC.out)
    | (go_at_call 10; (with_reducible refine (q_light R1.out R2.out R3.out R4.out HKL.out).mono ?_); rintro e w5 ⟨rfl, hb⟩; have KA := Aside0.mk (blk_below KA.out hb); have KB := Aside0.mk (blk_below KB.out hb); have KC := Aside0.mk (blk_below KC.out hb); have R1 := Aside0.mk (R1.out.b hb); have R2 := Aside0.mk (R2.out.b hb); have R3 := Aside0.mk (R3.out.b hb); have R4 := Aside0.mk (R4.out.b hb); have R5 := Aside0.mk (R5.out.b hb); have R6 := Aside0.mk (R6.out.b hb); have HB := Aside0.mk (below_step HB.out hb); clear hb; have cKA := blk_all KA.out; have cKB := blk_all KB.out; have cKC := blk_all KC.out)
    | (go_at_call 34; (with_reducible refine (q_lights R6.out HKF.out).mono ?_); rintro e w6 ⟨rfl, hb⟩; have KA := Aside0.mk (blk_below KA.out hb); have KB := Aside0.mk (blk_below KB.out hb); have KC := Aside0.mk (blk_below KC.out hb); have R1 := Aside0.mk (R1.out.b hb); have R2 := Aside0.mk (R2.out.b hb); have R3 := Aside0.mk (R3.out.b hb); have R4 := Aside0.mk (R4.out.b hb); have R5 := Aside0.mk (R5.out.b hb); have R6 := Aside0.mk (R6.out.b hb); have HB := Aside0.mk (below_step HB.out hb); clear hb; have cKA := blk_all KA.out; have cKB := blk_all KB.out; have cKC := blk_all KC.out))
  by_cases hall : lt = true ∧ lf = true ∧ kl.length ≤ 8
  rotate_left
  · have hd : lt = false ∨ lf = false ∨ (lt = true ∧ lf = true ∧ 8 < kl.length) := by
      cases lt with
      | false => exact .inl rfl
      | true =>
        cases lf with
        | false => exact .inr (.inl rfl)
        | true => exact .inr (.inr ⟨rfl, rfl, by have : ¬kl.length ≤ 8 := fun e => hall ⟨rfl, rfl, e⟩; omega⟩)
    clear hall
    rcases hd with rfl | rfl | ⟨rfl, rfl, h8⟩
    · go_wp2
      go_ret
      exact ⟨rfl, HB.out⟩
    · cases lt
      all_goals go_wp2
      all_goals go_ret
      all_goals exact ⟨rfl, HB.out⟩
    · have d1 : decide ((kl.length : Int) > 8) = true := decide_eq_true (by omega)
      have d2 : decide (8 < (kl.length : Int)) = true := d1
      have d3 : decide (8 < kl.length) = true := decide_eq_true h8
      clear h8
      go_wp2
      go_ret
      exact ⟨rfl, HB.out⟩
  · obtain ⟨rfl, rfl, hk8⟩ := hall
    have d1 : decide ((kl.length : Int) > 8) = false := decide_eq_false (by omega)
    have d2 : decide (8 < (kl.length : Int)) = false := d1
    have d3 : decide (8 < kl.length) = false := decide_eq_false (by omega)
    have hlb := HLT.out.1
    rw [Bool.and_eq_true] at hlb
    obtain ⟨k1, k2, k3, k4, k5, k6, k7, k8, k9, k10, xb, xl, yb, yl, pb, pl, zb, zl, gb, gl, ob, ol, sb, sl, mb, ml, eb, el, fb, fl, tb, tl, tp, nb, nl, np, ab, al, ap, cb, cl, cp, hHV1, hHV2, hHP, hHV3, hHAT, hHVV, hHM1, hHS, hHM2, hHA1, hHN, hHV4, hHC1, hHAD, hHV5, hHA2, hHC2, hHSC, hHV6, hHM3, hHC3, hHC4⟩ := reckons (b := b) (b' := b') (kb := kb) (v := v) (small_of hlb.1 HLM.out.1.1 HLM.out.1.2) (small_of hlb.2 HLM.out.2.1.1 HLM.out.2.1.2) (small_of HLT.out.2 Lim.nil HLM.out.2.2.2) HLM.out.2.2.1 hk8
    have HV1 := Aside0.mk hHV1
    have HV2 := Aside0.mk hHV2
    have HP := Aside0.mk hHP
    have HV3 := Aside0.mk hHV3
    have HAT := Aside0.mk hHAT
    have HVV := Aside0.mk hHVV
    have HM1 := Aside0.mk hHM1
    have HS := Aside0.mk hHS
    have HM2 := Aside0.mk hHM2
    have HA1 := Aside0.mk hHA1
    have HNO_ := Aside0.mk hHN
    have HV4 := Aside0.mk hHV4
    have HC1 := Aside0.mk hHC1
    have HAD := Aside0.mk hHAD
    have HV5 := Aside0.mk hHV5
    have HA2 := Aside0.mk hHA2
    have HC2 := Aside0.mk hHC2
    have HSC := Aside0.mk hHSC
    have HV6 := Aside0.mk hHV6
    have HM3 := Aside0.mk hHM3
    have HC3 := Aside0.mk hHC3
    have HC4 := Aside0.mk hHC4
    clear hHV1 hHV2 hHP hHV3 hHAT hHVV hHM1 hHS hHM2 hHA1 hHN hHV4 hHC1 hHAD hHV5 hHA2 hHC2 hHSC hHV6 hHM3 hHC3 hHC4 hlb hk8 HLT HLM
    go_wp2_with (first
      | (go_at_call 17; (with_reducible refine (q_Value R1.out R2.out R6.out HV1.out).mono ?_); rintro e w7 ⟨AX, cX, rfl, rX, hb⟩; have KA := Aside0.mk (blk_below KA.out hb); have KB := Aside0.mk (blk_below KB.out hb); have KC := Aside0.mk (blk_below KC.out hb); have R1 := Aside0.mk (R1.out.b hb); have R2 := Aside0.mk (R2.out.b hb); have R3 := Aside0.mk (R3.out.b hb); have R4 := Aside0.mk (R4.out.b hb); have R5 := Aside0.mk (R5.out.b hb); have R6 := Aside0.mk (R6.out.b hb); have HB := Aside0.mk (below_step HB.out hb); have RX := Aside0.mk rX; clear hb rX; have cKA := blk_all KA.out; have cKB := blk_all KB.out; have cKC := blk_all KC.out)
      | ((with_reducible refine gate_dst (N := 14) rfl ?_); refine box_event ?hg (N := 14) ?hd (cs := #[.bool false, .slice none 0 0]) (t := 24) ?hr ?_; (case hd => rfl); (case hg => rfl); (case hr => first | (go_simp; done) | (go_simp; rfl)); intro gX hg w8 hbox hb; have KX := Aside0.mk hbox; have HN := Aside0.mk hb; have GN := Aside0.mk (show w7.heap.size ≤ gX by rw [hg]; exact Nat.le_refl _); have cKA := blk_all (blk_below KA.out hb); have ngAgX : gA ≠ gX := Nat.ne_of_lt (hg ▸ blk_lt KA.out); have ngXgA : gX ≠ gA := fun e => ngAgX e.symm; have cKB := blk_all (blk_below KB.out hb); have ngBgX : gB ≠ gX := Nat.ne_of_lt (hg ▸ blk_lt KB.out); have ngXgB : gX ≠ gB := fun e => ngBgX e.symm; have cKC := blk_all (blk_below KC.out hb); have ngCgX : gC ≠ gX := Nat.ne_of_lt (hg ▸ blk_lt KC.out); have ngXgC : gX ≠ gC := fun e => ngCgX e.symm; have cggX := blk_all hbox; have fggX := frz_all hbox; clear hg hbox hb)
      | (go_at_call 17; (with_reducible refine (q_Value (R3.out.b (below_set2 HN.out GN.out _ _)) (R4.out.b (below_set2 HN.out GN.out _ _)) (R6.out.b (below_set2 HN.out GN.out _ _)) HV2.out).mono ?_); rintro e w9 ⟨AY, cY, rfl, rY, hb⟩; have hx := below_step (below_set2 HN.out GN.out _ _) hb; have KX := Aside0.mk (blk_below (blk_put2 KX.out _ _) hb); have KA := Aside0.mk (blk_below KA.out hx); have KB := Aside0.mk (blk_below KB.out hx); have KC := Aside0.mk (blk_below KC.out hx); have R1 := Aside0.mk (R1.out.b hx); have R2 := Aside0.mk (R2.out.b hx); have R3 := Aside0.mk (R3.out.b hx); have R4 := Aside0.mk (R4.out.b hx); have R5 := Aside0.mk (R5.out.b hx); have R6 := Aside0.mk (R6.out.b hx); have RX := Aside0.mk (RX.out.b hx); have HB := Aside0.mk (below_step HB.out hx); have RY := Aside0.mk rY; clear hb hx rY HN GN cggX fggX; have cKA := blk_all KA.out; have cKB := blk_all KB.out; have cKC := blk_all KC.out)
      | ((with_reducible refine gate_dst (N := 15) rfl ?_); refine box_event ?hg (N := 15) ?hd (cs := #[.bool false, .slice none 0 0]) (t := 24) ?hr ?_; (case hd => rfl); (case hg => rfl); (case hr => first | (go_simp; done) | (go_simp; rfl)); intro gY hg w10 hbox hb; have KY := Aside0.mk hbox; have HN := Aside0.mk hb; have GN := Aside0.mk (show w9.heap.size ≤ gY by rw [hg]; exact Nat.le_refl _); have cKA := blk_all (blk_below KA.out hb); have ngAgY : gA ≠ gY := Nat.ne_of_lt (hg ▸ blk_lt KA.out); have ngYgA : gY ≠ gA := fun e => ngAgY e.symm; have cKB := blk_all (blk_below KB.out hb); have ngBgY : gB ≠ gY := Nat.ne_of_lt (hg ▸ blk_lt KB.out); have ngYgB : gY ≠ gB := fun e => ngBgY e.symm; have cKC := blk_all (blk_below KC.out hb); have ngCgY : gC ≠ gY := Nat.ne_of_lt (hg ▸ blk_lt KC.out); have ngYgC : gY ≠ gC := fun e => ngCgY e.symm; have cKX := blk_all (blk_below KX.out hb); have ngXgY : gX ≠ gY := Nat.ne_of_lt (hg ▸ blk_lt KX.out); have ngYgX : gY ≠ gX := fun e => ngXgY e.symm; have cggY := blk_all hbox; have fggY := frz_all hbox; clear hg hbox hb)
      | (go_at_call 26; (with_reducible refine (HP.out _ _ _ _ _ _ _ _ _ (R1.out.b (below_set2 HN.out GN.out _ _)) (R2.out.b (below_set2 HN.out GN.out _ _)) (R3.out.b (below_set2 HN.out GN.out _ _)) (R4.out.b (below_set2 HN.out GN.out _ _))).mono ?_); rintro e w11 ⟨AT, cT, BT, dT, rfl, rT, sT, hb⟩; have hx := below_step (below_set2 HN.out GN.out _ _) hb; have KY := Aside0.mk (blk_below (blk_put2 KY.out _ _) hb); have KA := Aside0.mk (blk_below KA.out hx); have KB := Aside0.mk (blk_below KB.out hx); have KC := Aside0.mk (blk_below KC.out hx); have KX := Aside0.mk (blk_below KX.out hx); have R1 := Aside0.mk (R1.out.b hx); have R2 := Aside0.mk (R2.out.b hx); have R3 := Aside0.mk (R3.out.b hx); have R4 := Aside0.mk (R4.out.b hx); have R5 := Aside0.mk (R5.out.b hx); have R6 := Aside0.mk (R6.out.b hx); have RX := Aside0.mk (RX.out.b hx); have RY := Aside0.mk (RY.out.b hx); have HB := Aside0.mk (below_step HB.out hx); have RT := Aside0.mk rT; have ST := Aside0.mk sT; clear hb hx rT sT HN GN cggY fggY; have cKA := blk_all KA.out; have cKB := blk_all KB.out; have cKC := blk_all KC.out; have cKX := blk_all KX.out)
      | (go_at_call 17; (with_reducible refine (q_Value RT.out ST.out R6.out HV3.out).mono ?_); rintro e w12 ⟨AP, cP, rfl, rP, hb⟩; have KA := Aside0.mk (blk_below KA.out hb); have KB := Aside0.mk (blk_below KB.out hb); have KC := Aside0.mk (blk_below KC.out hb); have KX := Aside0.mk (blk_below KX.out hb); have KY := Aside0.mk (blk_below KY.out hb); have R1 := Aside0.mk (R1.out.b hb); have R2 := Aside0.mk (R2.out.b hb); have R3 := Aside0.mk (R3.out.b hb); have R4 := Aside0.mk (R4.out.b hb); have R5 := Aside0.mk (R5.out.b hb); have R6 := Aside0.mk (R6.out.b hb); have RX := Aside0.mk (RX.out.b hb); have RY := Aside0.mk (RY.out.b hb); have HB := Aside0.mk (below_step HB.out hb); have RP := Aside0.mk rP; clear hb rP; have cKA := blk_all KA.out; have cKB := blk_all KB.out; have cKC := blk_all KC.out; have cKX := blk_all KX.out)
      | ((with_reducible refine gate_dst (N := 16) rfl ?_); refine box_event ?hg (N := 16) ?hd (cs := #[.bool false, .slice none 0 0]) (t := 24) ?hr ?_; (case hd => rfl); (case hg => rfl); (case hr => first | (go_simp; done) | (go_simp; rfl)); intro gP hg w13 hbox hb; have KP := Aside0.mk hbox; have HN := Aside0.mk hb; have GN := Aside0.mk (show w12.heap.size ≤ gP by rw [hg]; exact Nat.le_refl _); have cKA := blk_all (blk_below KA.out hb); have ngAgP : gA ≠ gP := Nat.ne_of_lt (hg ▸ blk_lt KA.out); have ngPgA : gP ≠ gA := fun e => ngAgP e.symm; have cKB := blk_all (blk_below KB.out hb); have ngBgP : gB ≠ gP := Nat.ne_of_lt (hg ▸ blk_lt KB.out); have ngPgB : gP ≠ gB := fun e => ngBgP e.symm; have cKC := blk_all (blk_below KC.out hb); have ngCgP : gC ≠ gP := Nat.ne_of_lt (hg ▸ blk_lt KC.out); have ngPgC : gP ≠ gC := fun e => ngCgP e.symm; have cKX := blk_all (blk_below KX.out hb); have ngXgP : gX ≠ gP := Nat.ne_of_lt (hg ▸ blk_lt KX.out); have ngPgX : gP ≠ gX := fun e => ngXgP e.symm; have cggP := blk_all hbox; have fggP := frz_all hbox; clear hg hbox hb)
      | (go_at_call 28; (with_reducible refine (HAT.out _ _ _ _ _ (R1.out.b (below_set2 HN.out GN.out _ _)) (R2.out.b (below_set2 HN.out GN.out _ _))).mono ?_); rintro e w14 ⟨AZ, cZ, rfl, rZ, hb⟩; have hx := below_step (below_set2 HN.out GN.out _ _) hb; have KP := Aside0.mk (blk_below (blk_put2 KP.out _ _) hb); have KA := Aside0.mk (blk_below KA.out hx); have KB := Aside0.mk (blk_below KB.out hx); have KC := Aside0.mk (blk_below KC.out hx); have KX := Aside0.mk (blk_below KX.out hx); have KY := Aside0.mk (blk_below KY.out hx); have R1 := Aside0.mk (R1.out.b hx); have R2 := Aside0.mk (R2.out.b hx); have R3 := Aside0.mk (R3.out.b hx); have R4 := Aside0.mk (R4.out.b hx); have R5 := Aside0.mk (R5.out.b hx); have R6 := Aside0.mk (R6.out.b hx); have RX := Aside0.mk (RX.out.b hx); have RY := Aside0.mk (RY.out.b hx); have RP := Aside0.mk (RP.out.b hx); have HB := Aside0.mk (below_step HB.out hx); have RZ := Aside0.mk rZ; clear hb hx rZ HN GN cggP fggP; have cKA := blk_all KA.out; have cKB := blk_all KB.out; have cKC := blk_all KC.out; have cKX := blk_all KX.out)
      | (go_at_call 31; (with_reducible refine (q_VarL v).mono ?_); rintro e w15 ⟨AV, cV, BV, dV, rfl, rV, sV, hb⟩; have KA := Aside0.mk (blk_below KA.out hb); have KB := Aside0.mk (blk_below KB.out hb); have KC := Aside0.mk (blk_below KC.out hb); have KX := Aside0.mk (blk_below KX.out hb); have KY := Aside0.mk (blk_below KY.out hb); have KP := Aside0.mk (blk_below KP.out hb); have R1 := Aside0.mk (R1.out.b hb); have R2 := Aside0.mk (R2.out.b hb); have R3 := Aside0.mk (R3.out.b hb); have R4 := Aside0.mk (R4.out.b hb); have R5 := Aside0.mk (R5.out.b hb); have R6 := Aside0.mk (R6.out.b hb); have RX := Aside0.mk (RX.out.b hb); have RY := Aside0.mk (RY.out.b hb); have RP := Aside0.mk (RP.out.b hb); have RZ := Aside0.mk (RZ.out.b hb); have HB := Aside0.mk (below_step HB.out hb); have RV := Aside0.mk rV; have SV := Aside0.mk sV; clear hb rV sV; have cKA := blk_all KA.out; have cKB := blk_all KB.out; have cKC := blk_all KC.out; have cKX := blk_all KX.out)
      | (go_at_call 17; (with_reducible refine (HVV.out _ _ _ _ _ _ _ RV.out SV.out R6.out).mono ?_); rintro e w16 ⟨AG, cG, rfl, rG, hb⟩; have KA := Aside0.mk (blk_below KA.out hb); have KB := Aside0.mk (blk_below KB.out hb); have KC := Aside0.mk (blk_below KC.out hb); have KX := Aside0.mk (blk_below KX.out hb); have KY := Aside0.mk (blk_below KY.out hb); have KP := Aside0.mk (blk_below KP.out hb); have R1 := Aside0.mk (R1.out.b hb); have R2 := Aside0.mk (R2.out.b hb); have R3 := Aside0.mk (R3.out.b hb); have R4 := Aside0.mk (R4.out.b hb); have R5 := Aside0.mk (R5.out.b hb); have R6 := Aside0.mk (R6.out.b hb); have RX := Aside0.mk (RX.out.b hb); have RY := Aside0.mk (RY.out.b hb); have RP := Aside0.mk (RP.out.b hb); have RZ := Aside0.mk (RZ.out.b hb); have HB := Aside0.mk (below_step HB.out hb); have RG := Aside0.mk rG; clear hb rG; have cKA := blk_all KA.out; have cKB := blk_all KB.out; have cKC := blk_all KC.out; have cKX := blk_all KX.out)
      | (go_at_call 35; (with_reducible refine (q_Mul RZ.out RG.out HM1.out).mono ?_); rintro e w17 ⟨AO, cO, rfl, oO, hb⟩; have KA := Aside0.mk (blk_below KA.out hb); have KB := Aside0.mk (blk_below KB.out hb); have KC := Aside0.mk (blk_below KC.out hb); have KX := Aside0.mk (blk_below KX.out hb); have KY := Aside0.mk (blk_below KY.out hb); have KP := Aside0.mk (blk_below KP.out hb); have R1 := Aside0.mk (R1.out.b hb); have R2 := Aside0.mk (R2.out.b hb); have R3 := Aside0.mk (R3.out.b hb); have R4 := Aside0.mk (R4.out.b hb); have R5 := Aside0.mk (R5.out.b hb); have R6 := Aside0.mk (R6.out.b hb); have RX := Aside0.mk (RX.out.b hb); have RY := Aside0.mk (RY.out.b hb); have RP := Aside0.mk (RP.out.b hb); have HB := Aside0.mk (below_step HB.out hb); have RO := Aside0.mk oO.r; clear hb; have cKA := blk_all KA.out; have cKB := blk_all KB.out; have cKC := blk_all KC.out; have cKX := blk_all KX.out; clear oO)
      | ((with_reducible refine gate_dst (N := 17) rfl ?_); refine box_event ?hg (N := 17) ?hd (cs := #[.bool false, .slice none 0 0]) (t := 24) ?hr ?_; (case hd => rfl); (case hg => rfl); (case hr => first | (go_simp; done) | (go_simp; rfl)); intro gO hg w18 hbox hb; have KO := Aside0.mk hbox; have HN := Aside0.mk hb; have GN := Aside0.mk (show w17.heap.size ≤ gO by rw [hg]; exact Nat.le_refl _); have cggO := blk_all hbox; have fggO := frz_all hbox; clear hg hbox hb))
    have hd := below_set2 HN.out GN.out (.bool ob) (.slice AO ol.length cO)
    have KA := Aside0.mk (blk_below KA.out hd); have KB := Aside0.mk (blk_below KB.out hd); have KC := Aside0.mk (blk_below KC.out hd); have KX := Aside0.mk (blk_below KX.out hd); have KY := Aside0.mk (blk_below KY.out hd); have KP := Aside0.mk (blk_below KP.out hd); have KO := Aside0.mk (blk_put2 KO.out (.bool ob) (.slice AO ol.length cO)); have R1 := Aside0.mk (R1.out.b hd); have R2 := Aside0.mk (R2.out.b hd); have R3 := Aside0.mk (R3.out.b hd); have R4 := Aside0.mk (R4.out.b hd); have R5 := Aside0.mk (R5.out.b hd); have R6 := Aside0.mk (R6.out.b hd); have RX := Aside0.mk (RX.out.b hd); have RY := Aside0.mk (RY.out.b hd); have RP := Aside0.mk (RP.out.b hd); have RO := Aside0.mk (RO.out.b hd); have HB := Aside0.mk (below_step HB.out hd)
    clear hd HN GN cggO fggO
    generalize ((w18.setCell ⟨gO, 0, none⟩ (.bool ob)).setCell ⟨gO, 1, none⟩ (.slice AO ol.length cO)) = w9 at *
    refine start_ (n := 11) (S := fun w' => (∀ i : Nat, w'.cell? ⟨gA, i, none⟩ = (#[.bool b, .slice A1 l1.length c1, .slice A2 p1.length c2] : Array Value)[i]?) ∧ (∀ i : Nat, w'.cell? ⟨gX, i, none⟩ = (#[.bool xb, .slice AX xl.length cX] : Array Value)[i]?) ∧ (∀ i : Nat, w'.cell? ⟨gY, i, none⟩ = (#[.bool yb, .slice AY yl.length cY] : Array Value)[i]?) ∧ (∀ i : Nat, w'.cell? ⟨gO, i, none⟩ = (#[.bool ob, .slice AO ol.length cO] : Array Value)[i]?)) (ds := [10]) #[false, false, false, false, false, false, false, false, false, false, false] (by kernel_rfl) rfl rfl ⟨blk_all KA.out, blk_all KX.out, blk_all KY.out, blk_all KO.out⟩ (fun hHeld => ?_)
    refine pure_ (i := 4) (N := some 66) (v := ?_) (a' := ?_) #[false, false, false, false, true, false, false, false, false, false, false] rfl rfl (by kernel_rfl) (fun _ _ _ h => h) (Or.inl ⟨by rfl, ?_⟩) ?_ ?_
    rotate_left
    · intro w'
      go_simp
      with_reducible rfl
    rotate_left
    · simp only [Act.put, List.setIfInBounds_toArray, List.set_cons_zero, List.set_cons_succ, i64_w, i32_w]
      rfl
    refine take_ (i := 0) (N := some 62) (v := ?_) (a' := ?_) #[true, false, false, false, true, false, false, false, false, false, false] rfl rfl (by kernel_rfl) (fun _ _ _ h => h) (Or.inl ⟨by rfl, ?_⟩) hHeld ?_ ?_
    rotate_left
    · rintro w' ⟨s0, s1, s2, s3⟩
      go_simp
      with_reducible rfl
    rotate_left
    · simp only [Act.put, List.setIfInBounds_toArray, List.set_cons_zero, List.set_cons_succ, i64_w, i32_w]
      rfl
    refine take_ (i := 1) (N := some 63) (v := ?_) (a' := ?_) #[true, true, false, false, true, false, false, false, false, false, false] rfl rfl (by kernel_rfl) (fun _ _ _ h => h) (Or.inl ⟨by rfl, ?_⟩) hHeld ?_ ?_
    rotate_left
    · rintro w' ⟨s0, s1, s2, s3⟩
      go_simp
      with_reducible rfl
    rotate_left
    · simp only [Act.put, List.setIfInBounds_toArray, List.set_cons_zero, List.set_cons_succ, i64_w, i32_w]
      rfl
    refine take_ (i := 3) (N := some 65) (v := ?_) (a' := ?_) #[true, true, false, true, true, false, false, false, false, false, false] rfl rfl (by kernel_rfl) (fun _ _ _ h => h) (Or.inl ⟨by rfl, ?_⟩) hHeld ?_ ?_
    rotate_left
    · rintro w' ⟨s0, s1, s2, s3⟩
      go_simp
      with_reducible rfl
    rotate_left
    · simp only [Act.put, List.setIfInBounds_toArray, List.set_cons_zero, List.set_cons_succ, i64_w, i32_w]
      rfl
    refine take_ (i := 6) (N := some 68) (v := ?_) (a' := ?_) #[true, true, false, true, true, false, true, false, false, false, false] rfl rfl (by kernel_rfl) (fun _ _ _ h => h) (Or.inl ⟨by rfl, ?_⟩) hHeld ?_ ?_
    rotate_left
    · rintro w' ⟨s0, s1, s2, s3⟩
      go_simp
      with_reducible rfl
    rotate_left
    · simp only [Act.put, List.setIfInBounds_toArray, List.set_cons_zero, List.set_cons_succ, i64_w, i32_w]
      rfl
    refine join_ (σ := (((Option Addr × Nat) × (Option Addr × Nat)) × ((Option Addr × Nat) × (Option Addr × Nat))) × Nat) 1 #[true, true, true, true, true, true, true, true, true, true, false] (fun s => [(64, .agg #[.bool sb, .slice s.1.1.1.1 sl.length s.1.1.1.2]), (67, .agg #[.bool zb, .slice s.1.1.2.1 zl.length s.1.1.2.2]), (69, .agg #[.bool mb, .slice s.1.2.1.1 ml.length s.1.2.1.2]), (70, .agg #[.bool pb, .slice s.1.2.2.1 pl.length s.1.2.2.2]), (18, .pointer (some ⟨s.2, 0, none⟩)), (62, .agg #[.bool xb, .slice AX xl.length cX]), (63, .agg #[.bool ob, .slice AO ol.length cO]), (65, .agg #[.bool b, .slice A1 l1.length c1, .slice A2 p1.length c2]), (66, .int .i64 v), (68, .agg #[.bool yb, .slice AY yl.length cY])]) (fun s w' => Aside0 (OI w' 0 s.1.2.2.1 s.1.2.2.2 pl) ∧ Aside0 (w'.heap[s.2]? = some (.cells #[.bool false, .slice none 0 0] 24 (0, 0))) ∧ Aside0 (Below w9.heap.size w9 w') ∧ Aside0 (w9.heap.size ≤ s.2)) ?_ ?_
    rotate_left
    · intro hCont
      refine two_ (i := 2) (j := 9) (Ni := some 64) (Nj := some 18) #[true, true, true, true, true, false, true, false, false, false, false] #[true, true, false, true, true, false, true, false, false, true, false] rfl rfl rfl rfl (by kernel_rfl) (by decide) (by decide) (fun K hK => ?_) (fun K hK => ?_)
      · skip
        refine goes_ Try.func37 (by kernel_rfl) rfl #[.agg #[.bool xb, .slice AX xl.length cX], .agg #[.bool ob, .slice AO ol.length cO]] (by rfl) rfl rfl (by simp only [List.map_toArray, List.map_cons, List.map_nil]; rfl) ?_
        with_reducible refine (q_Sub (RX.out.b (below_drew1 (Below.refl w9.heap.size w9))) (RO.out.b (below_drew1 (Below.refl w9.heap.size w9))) HS.out).mono ?_
        rintro e wS ⟨AU, cU, rfl, oU, hb⟩
        have HD := Aside0.mk (below_step (below_drew1 (Below.refl w9.heap.size w9)) hb)
        have RU := Aside0.mk oU.r
        clear hb
        refine ⟨_, rfl, ?_⟩
        refine hK.out _ _ ⟨blk_all (blk_below KA.out HD.out), blk_all (blk_below KX.out HD.out), blk_all (blk_below KY.out HD.out), blk_all (blk_below KO.out HD.out)⟩ (fun hHeld => ?_)
        clear hK K
        refine norm_ (a' := ?_) ?_ ?_
        rotate_left
        · show Act.put _ (some 64) _ = _
          simp only [Act.put, List.setIfInBounds_toArray, List.set_cons_zero, List.set_cons_succ, i64_w, i32_w]
          rfl
        refine two_ (i := 5) (j := 9) (Ni := some 67) (Nj := some 18) #[true, true, true, true, true, true, true, false, false, false, false] #[true, true, true, true, true, false, true, false, false, true, false] rfl rfl rfl rfl (by kernel_rfl) (by decide) (by decide) (fun K hK => ?_) (fun K hK => ?_)
        · skip
          refine goes_ Try.func28 (by kernel_rfl) rfl #[.agg #[.bool b, .slice A1 l1.length c1, .slice A2 p1.length c2], .int .i64 v] (by rfl) rfl rfl (by simp only [List.map_toArray, List.map_cons, List.map_nil]; rfl) ?_
          with_reducible refine (HAT.out _ _ _ _ _ (R1.out.b HD.out) (R2.out.b HD.out)).mono ?_
          rintro e wZ ⟨AZ2, cZ2, rfl, rZ2, hb⟩
          have RU := Aside0.mk (RU.out.b hb)
          have HD := Aside0.mk (below_step HD.out hb)
          have RZ2 := Aside0.mk rZ2
          clear hb
          refine ⟨_, rfl, ?_⟩
          refine hK.out _ _ ⟨blk_all (blk_below KA.out HD.out), blk_all (blk_below KX.out HD.out), blk_all (blk_below KY.out HD.out), blk_all (blk_below KO.out HD.out)⟩ (fun hHeld => ?_)
          clear hK K
          refine norm_ (a' := ?_) ?_ ?_
          rotate_left
          · show Act.put _ (some 67) _ = _
            simp only [Act.put, List.setIfInBounds_toArray, List.set_cons_zero, List.set_cons_succ, i64_w, i32_w]
            rfl
          refine two_ (i := 7) (j := 9) (Ni := some 69) (Nj := some 18) #[true, true, true, true, true, true, true, true, false, false, false] #[true, true, true, true, true, true, true, false, false, true, false] rfl rfl rfl rfl (by kernel_rfl) (by decide) (by decide) (fun K hK => ?_) (fun K hK => ?_)
          · skip
            refine goes_ Try.func35 (by kernel_rfl) rfl #[.agg #[.bool zb, .slice AZ2 zl.length cZ2], .agg #[.bool yb, .slice AY yl.length cY]] (by rfl) rfl rfl (by simp only [List.map_toArray, List.map_cons, List.map_nil]; rfl) ?_
            with_reducible refine (q_Mul RZ2.out (RY.out.b HD.out) HM2.out).mono ?_
            rintro e wM ⟨AM, cM, rfl, oM, hb⟩
            have RU := Aside0.mk (RU.out.b hb); have RZ2 := Aside0.mk (RZ2.out.b hb)
            have HD := Aside0.mk (below_step HD.out hb)
            have RM := Aside0.mk oM.r
            clear hb
            refine ⟨_, rfl, ?_⟩
            refine hK.out _ _ ⟨blk_all (blk_below KA.out HD.out), blk_all (blk_below KX.out HD.out), blk_all (blk_below KY.out HD.out), blk_all (blk_below KO.out HD.out)⟩ (fun hHeld => ?_)
            clear hK K
            refine norm_ (a' := ?_) ?_ ?_
            rotate_left
            · show Act.put _ (some 69) _ = _
              simp only [Act.put, List.setIfInBounds_toArray, List.set_cons_zero, List.set_cons_succ, i64_w, i32_w]
              rfl
            refine two_ (i := 8) (j := 9) (Ni := some 70) (Nj := some 18) #[true, true, true, true, true, true, true, true, true, false, false] #[true, true, true, true, true, true, true, true, false, true, false] rfl rfl rfl rfl (by kernel_rfl) (by decide) (by decide) (fun K hK => ?_) (fun K hK => ?_)
            · skip
              refine goes_ Try.func36 (by kernel_rfl) rfl #[.agg #[.bool sb, .slice AU sl.length cU], .agg #[.bool mb, .slice AM ml.length cM]] (by rfl) rfl rfl (by simp only [List.map_toArray, List.map_cons, List.map_nil]; rfl) ?_
              with_reducible refine (q_Add RU.out RM.out HA1.out).mono ?_
              rintro e wA ⟨AW2, cW2, rfl, oW2, hb⟩
              have RU := Aside0.mk (RU.out.b hb); have RZ2 := Aside0.mk (RZ2.out.b hb); have RM := Aside0.mk (RM.out.b hb)
              have HD := Aside0.mk (below_step HD.out hb)
              have RW2 := Aside0.mk (OI.mk (Kd.R_lower oW2.o (Nat.zero_le _)) : OI wA 0 AW2 cW2 pl)
              clear hb
              refine ⟨_, rfl, ?_⟩
              refine hK.out _ _ ⟨blk_all (blk_below KA.out HD.out), blk_all (blk_below KX.out HD.out), blk_all (blk_below KY.out HD.out), blk_all (blk_below KO.out HD.out)⟩ (fun hHeld => ?_)
              clear hK K
              refine norm_ (a' := ?_) ?_ ?_
              rotate_left
              · show Act.put _ (some 70) _ = _
                simp only [Act.put, List.setIfInBounds_toArray, List.set_cons_zero, List.set_cons_succ, i64_w, i32_w]
                rfl
              refine one_ (i := 9) (N := some 18) #[true, true, true, true, true, true, true, true, true, true, false] rfl rfl (by kernel_rfl) (by decide) (fun K hK => ?_)
              have GW := Aside0.mk HD.out.size
              have hz := below_alloc (Below.refl wA.heap.size wA) (.cells #[.bool false, .slice none 0 0] 24 (0, 0))
              have KW := Aside0.mk (blk_new wA (.cells #[.bool false, .slice none 0 0] 24 (0, 0)))
              have HD := Aside0.mk (below_step HD.out hz)
              have RU := Aside0.mk (RU.out.b hz); have RZ2 := Aside0.mk (RZ2.out.b hz); have RM := Aside0.mk (RM.out.b hz); have RW2 := Aside0.mk (RW2.out.b hz)
              clear hz
              refine value_ (w1 := ?_) (v := ?_) (by rfl) rfl ?_ ?_
              rotate_left 2
              · go_simp
                constructor
                · rfl
                · rfl
              refine hK.out _ _ ⟨blk_all (blk_below KA.out HD.out), blk_all (blk_below KX.out HD.out), blk_all (blk_below KY.out HD.out), blk_all (blk_below KO.out HD.out)⟩ (fun hHeld => ?_)
              clear hK K
              refine norm_ (a' := ?_) ?_ ?_
              rotate_left
              · show Act.put _ (some 18) _ = _
                simp only [Act.put, List.setIfInBounds_toArray, List.set_cons_zero, List.set_cons_succ, i64_w, i32_w]
                rfl
              exact norm_ (by simp only [putAll, Act.put, List.setIfInBounds_toArray, List.set_cons_zero, List.set_cons_succ]) (hCont ((((AU, cU), (AZ2, cZ2)), ((AM, cM), (AW2, cW2))), wA.heap.size) _ ⟨RW2, KW, HD, GW⟩)
            · skip
              have GW := Aside0.mk HD.out.size
              have hz := below_alloc (Below.refl wM.heap.size wM) (.cells #[.bool false, .slice none 0 0] 24 (0, 0))
              have KW := Aside0.mk (blk_new wM (.cells #[.bool false, .slice none 0 0] 24 (0, 0)))
              have HD := Aside0.mk (below_step HD.out hz)
              have RU := Aside0.mk (RU.out.b hz); have RZ2 := Aside0.mk (RZ2.out.b hz); have RM := Aside0.mk (RM.out.b hz)
              clear hz
              refine value_ (w1 := ?_) (v := ?_) (by rfl) rfl ?_ ?_
              rotate_left 2
              · go_simp
                constructor
                · rfl
                · rfl
              refine hK.out _ _ ⟨blk_all (blk_below KA.out HD.out), blk_all (blk_below KX.out HD.out), blk_all (blk_below KY.out HD.out), blk_all (blk_below KO.out HD.out)⟩ (fun hHeld => ?_)
              clear hK K
              refine norm_ (a' := ?_) ?_ ?_
              rotate_left
              · show Act.put _ (some 18) _ = _
                simp only [Act.put, List.setIfInBounds_toArray, List.set_cons_zero, List.set_cons_succ, i64_w, i32_w]
                rfl
              refine one_ (i := 8) (N := some 70) #[true, true, true, true, true, true, true, true, true, true, false] rfl rfl (by kernel_rfl) (by decide) (fun K hK => ?_)
              refine goes_ Try.func36 (by kernel_rfl) rfl #[.agg #[.bool sb, .slice AU sl.length cU], .agg #[.bool mb, .slice AM ml.length cM]] (by rfl) rfl rfl (by simp only [List.map_toArray, List.map_cons, List.map_nil]; rfl) ?_
              with_reducible refine (q_Add RU.out RM.out HA1.out).mono ?_
              rintro e wA ⟨AW2, cW2, rfl, oW2, hb⟩
              have RU := Aside0.mk (RU.out.b hb); have RZ2 := Aside0.mk (RZ2.out.b hb); have RM := Aside0.mk (RM.out.b hb)
              have KW := Aside0.mk (blk_below KW.out hb)
              have HD := Aside0.mk (below_step HD.out hb)
              have RW2 := Aside0.mk (OI.mk (Kd.R_lower oW2.o (Nat.zero_le _)) : OI wA 0 AW2 cW2 pl)
              clear hb
              refine ⟨_, rfl, ?_⟩
              refine hK.out _ _ ⟨blk_all (blk_below KA.out HD.out), blk_all (blk_below KX.out HD.out), blk_all (blk_below KY.out HD.out), blk_all (blk_below KO.out HD.out)⟩ (fun hHeld => ?_)
              clear hK K
              refine norm_ (a' := ?_) ?_ ?_
              rotate_left
              · show Act.put _ (some 70) _ = _
                simp only [Act.put, List.setIfInBounds_toArray, List.set_cons_zero, List.set_cons_succ, i64_w, i32_w]
                rfl
              exact norm_ (by simp only [putAll, Act.put, List.setIfInBounds_toArray, List.set_cons_zero, List.set_cons_succ]) (hCont ((((AU, cU), (AZ2, cZ2)), ((AM, cM), (AW2, cW2))), wM.heap.size) _ ⟨RW2, KW, HD, GW⟩)
          · skip
            have GW := Aside0.mk HD.out.size
            have hz := below_alloc (Below.refl wZ.heap.size wZ) (.cells #[.bool false, .slice none 0 0] 24 (0, 0))
            have KW := Aside0.mk (blk_new wZ (.cells #[.bool false, .slice none 0 0] 24 (0, 0)))
            have HD := Aside0.mk (below_step HD.out hz)
            have RU := Aside0.mk (RU.out.b hz); have RZ2 := Aside0.mk (RZ2.out.b hz)
            clear hz
            refine value_ (w1 := ?_) (v := ?_) (by rfl) rfl ?_ ?_
            rotate_left 2
            · go_simp
              constructor
              · rfl
              · rfl
            refine hK.out _ _ ⟨blk_all (blk_below KA.out HD.out), blk_all (blk_below KX.out HD.out), blk_all (blk_below KY.out HD.out), blk_all (blk_below KO.out HD.out)⟩ (fun hHeld => ?_)
            clear hK K
            refine norm_ (a' := ?_) ?_ ?_
            rotate_left
            · show Act.put _ (some 18) _ = _
              simp only [Act.put, List.setIfInBounds_toArray, List.set_cons_zero, List.set_cons_succ, i64_w, i32_w]
              rfl
            refine one_ (i := 7) (N := some 69) #[true, true, true, true, true, true, true, true, false, true, false] rfl rfl (by kernel_rfl) (by decide) (fun K hK => ?_)
            refine goes_ Try.func35 (by kernel_rfl) rfl #[.agg #[.bool zb, .slice AZ2 zl.length cZ2], .agg #[.bool yb, .slice AY yl.length cY]] (by rfl) rfl rfl (by simp only [List.map_toArray, List.map_cons, List.map_nil]; rfl) ?_
            with_reducible refine (q_Mul RZ2.out (RY.out.b HD.out) HM2.out).mono ?_
            rintro e wM ⟨AM, cM, rfl, oM, hb⟩
            have RU := Aside0.mk (RU.out.b hb); have RZ2 := Aside0.mk (RZ2.out.b hb)
            have KW := Aside0.mk (blk_below KW.out hb)
            have HD := Aside0.mk (below_step HD.out hb)
            have RM := Aside0.mk oM.r
            clear hb
            refine ⟨_, rfl, ?_⟩
            refine hK.out _ _ ⟨blk_all (blk_below KA.out HD.out), blk_all (blk_below KX.out HD.out), blk_all (blk_below KY.out HD.out), blk_all (blk_below KO.out HD.out)⟩ (fun hHeld => ?_)
            clear hK K
            refine norm_ (a' := ?_) ?_ ?_
            rotate_left
            · show Act.put _ (some 69) _ = _
              simp only [Act.put, List.setIfInBounds_toArray, List.set_cons_zero, List.set_cons_succ, i64_w, i32_w]
              rfl
            refine one_ (i := 8) (N := some 70) #[true, true, true, true, true, true, true, true, true, true, false] rfl rfl (by kernel_rfl) (by decide) (fun K hK => ?_)
            refine goes_ Try.func36 (by kernel_rfl) rfl #[.agg #[.bool sb, .slice AU sl.length cU], .agg #[.bool mb, .slice AM ml.length cM]] (by rfl) rfl rfl (by simp only [List.map_toArray, List.map_cons, List.map_nil]; rfl) ?_
            with_reducible refine (q_Add RU.out RM.out HA1.out).mono ?_
            rintro e wA ⟨AW2, cW2, rfl, oW2, hb⟩
            have RU := Aside0.mk (RU.out.b hb); have RZ2 := Aside0.mk (RZ2.out.b hb); have RM := Aside0.mk (RM.out.b hb)
            have KW := Aside0.mk (blk_below KW.out hb)
            have HD := Aside0.mk (below_step HD.out hb)
            have RW2 := Aside0.mk (OI.mk (Kd.R_lower oW2.o (Nat.zero_le _)) : OI wA 0 AW2 cW2 pl)
            clear hb
            refine ⟨_, rfl, ?_⟩
            refine hK.out _ _ ⟨blk_all (blk_below KA.out HD.out), blk_all (blk_below KX.out HD.out), blk_all (blk_below KY.out HD.out), blk_all (blk_below KO.out HD.out)⟩ (fun hHeld => ?_)
            clear hK K
            refine norm_ (a' := ?_) ?_ ?_
            rotate_left
            · show Act.put _ (some 70) _ = _
              simp only [Act.put, List.setIfInBounds_toArray, List.set_cons_zero, List.set_cons_succ, i64_w, i32_w]
              rfl
            exact norm_ (by simp only [putAll, Act.put, List.setIfInBounds_toArray, List.set_cons_zero, List.set_cons_succ]) (hCont ((((AU, cU), (AZ2, cZ2)), ((AM, cM), (AW2, cW2))), wZ.heap.size) _ ⟨RW2, KW, HD, GW⟩)
        · skip
          have GW := Aside0.mk HD.out.size
          have hz := below_alloc (Below.refl wS.heap.size wS) (.cells #[.bool false, .slice none 0 0] 24 (0, 0))
          have KW := Aside0.mk (blk_new wS (.cells #[.bool false, .slice none 0 0] 24 (0, 0)))
          have HD := Aside0.mk (below_step HD.out hz)
          have RU := Aside0.mk (RU.out.b hz)
          clear hz
          refine value_ (w1 := ?_) (v := ?_) (by rfl) rfl ?_ ?_
          rotate_left 2
          · go_simp
            constructor
            · rfl
            · rfl
          refine hK.out _ _ ⟨blk_all (blk_below KA.out HD.out), blk_all (blk_below KX.out HD.out), blk_all (blk_below KY.out HD.out), blk_all (blk_below KO.out HD.out)⟩ (fun hHeld => ?_)
          clear hK K
          refine norm_ (a' := ?_) ?_ ?_
          rotate_left
          · show Act.put _ (some 18) _ = _
            simp only [Act.put, List.setIfInBounds_toArray, List.set_cons_zero, List.set_cons_succ, i64_w, i32_w]
            rfl
          refine one_ (i := 5) (N := some 67) #[true, true, true, true, true, true, true, false, false, true, false] rfl rfl (by kernel_rfl) (by decide) (fun K hK => ?_)
          refine goes_ Try.func28 (by kernel_rfl) rfl #[.agg #[.bool b, .slice A1 l1.length c1, .slice A2 p1.length c2], .int .i64 v] (by rfl) rfl rfl (by simp only [List.map_toArray, List.map_cons, List.map_nil]; rfl) ?_
          with_reducible refine (HAT.out _ _ _ _ _ (R1.out.b HD.out) (R2.out.b HD.out)).mono ?_
          rintro e wZ ⟨AZ2, cZ2, rfl, rZ2, hb⟩
          have RU := Aside0.mk (RU.out.b hb)
          have KW := Aside0.mk (blk_below KW.out hb)
          have HD := Aside0.mk (below_step HD.out hb)
          have RZ2 := Aside0.mk rZ2
          clear hb
          refine ⟨_, rfl, ?_⟩
          refine hK.out _ _ ⟨blk_all (blk_below KA.out HD.out), blk_all (blk_below KX.out HD.out), blk_all (blk_below KY.out HD.out), blk_all (blk_below KO.out HD.out)⟩ (fun hHeld => ?_)
          clear hK K
          refine norm_ (a' := ?_) ?_ ?_
          rotate_left
          · show Act.put _ (some 67) _ = _
            simp only [Act.put, List.setIfInBounds_toArray, List.set_cons_zero, List.set_cons_succ, i64_w, i32_w]
            rfl
          refine one_ (i := 7) (N := some 69) #[true, true, true, true, true, true, true, true, false, true, false] rfl rfl (by kernel_rfl) (by decide) (fun K hK => ?_)
          refine goes_ Try.func35 (by kernel_rfl) rfl #[.agg #[.bool zb, .slice AZ2 zl.length cZ2], .agg #[.bool yb, .slice AY yl.length cY]] (by rfl) rfl rfl (by simp only [List.map_toArray, List.map_cons, List.map_nil]; rfl) ?_
          with_reducible refine (q_Mul RZ2.out (RY.out.b HD.out) HM2.out).mono ?_
          rintro e wM ⟨AM, cM, rfl, oM, hb⟩
          have RU := Aside0.mk (RU.out.b hb); have RZ2 := Aside0.mk (RZ2.out.b hb)
          have KW := Aside0.mk (blk_below KW.out hb)
          have HD := Aside0.mk (below_step HD.out hb)
          have RM := Aside0.mk oM.r
          clear hb
          refine ⟨_, rfl, ?_⟩
          refine hK.out _ _ ⟨blk_all (blk_below KA.out HD.out), blk_all (blk_below KX.out HD.out), blk_all (blk_below KY.out HD.out), blk_all (blk_below KO.out HD.out)⟩ (fun hHeld => ?_)
          clear hK K
          refine norm_ (a' := ?_) ?_ ?_
          rotate_left
          · show Act.put _ (some 69) _ = _
            simp only [Act.put, List.setIfInBounds_toArray, List.set_cons_zero, List.set_cons_succ, i64_w, i32_w]
            rfl
          refine one_ (i := 8) (N := some 70) #[true, true, true, true, true, true, true, true, true, true, false] rfl rfl (by kernel_rfl) (by decide) (fun K hK => ?_)
          refine goes_ Try.func36 (by kernel_rfl) rfl #[.agg #[.bool sb, .slice AU sl.length cU], .agg #[.bool mb, .slice AM ml.length cM]] (by rfl) rfl rfl (by simp only [List.map_toArray, List.map_cons, List.map_nil]; rfl) ?_
          with_reducible refine (q_Add RU.out RM.out HA1.out).mono ?_
          rintro e wA ⟨AW2, cW2, rfl, oW2, hb⟩
          have RU := Aside0.mk (RU.out.b hb); have RZ2 := Aside0.mk (RZ2.out.b hb); have RM := Aside0.mk (RM.out.b hb)
          have KW := Aside0.mk (blk_below KW.out hb)
          have HD := Aside0.mk (below_step HD.out hb)
          have RW2 := Aside0.mk (OI.mk (Kd.R_lower oW2.o (Nat.zero_le _)) : OI wA 0 AW2 cW2 pl)
          clear hb
          refine ⟨_, rfl, ?_⟩
          refine hK.out _ _ ⟨blk_all (blk_below KA.out HD.out), blk_all (blk_below KX.out HD.out), blk_all (blk_below KY.out HD.out), blk_all (blk_below KO.out HD.out)⟩ (fun hHeld => ?_)
          clear hK K
          refine norm_ (a' := ?_) ?_ ?_
          rotate_left
          · show Act.put _ (some 70) _ = _
            simp only [Act.put, List.setIfInBounds_toArray, List.set_cons_zero, List.set_cons_succ, i64_w, i32_w]
            rfl
          exact norm_ (by simp only [putAll, Act.put, List.setIfInBounds_toArray, List.set_cons_zero, List.set_cons_succ]) (hCont ((((AU, cU), (AZ2, cZ2)), ((AM, cM), (AW2, cW2))), wS.heap.size) _ ⟨RW2, KW, HD, GW⟩)
      · skip
        have GW := Aside0.mk (Nat.le_refl w9.heap.size)
        have KW := Aside0.mk (blk_drew (blk_new w9 (.cells #[.bool false, .slice none 0 0] 24 (0, 0))))
        have HD := Aside0.mk (below_drew1 (below_alloc (Below.refl w9.heap.size w9) (.cells #[.bool false, .slice none 0 0] 24 (0, 0))))
        refine value_ (w1 := ?_) (v := ?_) (by rfl) rfl ?_ ?_
        rotate_left 2
        · go_simp
          constructor
          · rfl
          · rfl
        refine hK.out _ _ ⟨blk_all (blk_below KA.out HD.out), blk_all (blk_below KX.out HD.out), blk_all (blk_below KY.out HD.out), blk_all (blk_below KO.out HD.out)⟩ (fun hHeld => ?_)
        clear hK K
        refine norm_ (a' := ?_) ?_ ?_
        rotate_left
        · show Act.put _ (some 18) _ = _
          simp only [Act.put, List.setIfInBounds_toArray, List.set_cons_zero, List.set_cons_succ, i64_w, i32_w]
          rfl
        refine one_ (i := 2) (N := some 64) #[true, true, true, true, true, false, true, false, false, true, false] rfl rfl (by kernel_rfl) (by decide) (fun K hK => ?_)
        refine goes_ Try.func37 (by kernel_rfl) rfl #[.agg #[.bool xb, .slice AX xl.length cX], .agg #[.bool ob, .slice AO ol.length cO]] (by rfl) rfl rfl (by simp only [List.map_toArray, List.map_cons, List.map_nil]; rfl) ?_
        with_reducible refine (q_Sub (RX.out.b HD.out) (RO.out.b HD.out) HS.out).mono ?_
        rintro e wS ⟨AU, cU, rfl, oU, hb⟩
        have KW := Aside0.mk (blk_below KW.out hb)
        have HD := Aside0.mk (below_step HD.out hb)
        have RU := Aside0.mk oU.r
        clear hb
        refine ⟨_, rfl, ?_⟩
        refine hK.out _ _ ⟨blk_all (blk_below KA.out HD.out), blk_all (blk_below KX.out HD.out), blk_all (blk_below KY.out HD.out), blk_all (blk_below KO.out HD.out)⟩ (fun hHeld => ?_)
        clear hK K
        refine norm_ (a' := ?_) ?_ ?_
        rotate_left
        · show Act.put _ (some 64) _ = _
          simp only [Act.put, List.setIfInBounds_toArray, List.set_cons_zero, List.set_cons_succ, i64_w, i32_w]
          rfl
        refine one_ (i := 5) (N := some 67) #[true, true, true, true, true, true, true, false, false, true, false] rfl rfl (by kernel_rfl) (by decide) (fun K hK => ?_)
        refine goes_ Try.func28 (by kernel_rfl) rfl #[.agg #[.bool b, .slice A1 l1.length c1, .slice A2 p1.length c2], .int .i64 v] (by rfl) rfl rfl (by simp only [List.map_toArray, List.map_cons, List.map_nil]; rfl) ?_
        with_reducible refine (HAT.out _ _ _ _ _ (R1.out.b HD.out) (R2.out.b HD.out)).mono ?_
        rintro e wZ ⟨AZ2, cZ2, rfl, rZ2, hb⟩
        have RU := Aside0.mk (RU.out.b hb)
        have KW := Aside0.mk (blk_below KW.out hb)
        have HD := Aside0.mk (below_step HD.out hb)
        have RZ2 := Aside0.mk rZ2
        clear hb
        refine ⟨_, rfl, ?_⟩
        refine hK.out _ _ ⟨blk_all (blk_below KA.out HD.out), blk_all (blk_below KX.out HD.out), blk_all (blk_below KY.out HD.out), blk_all (blk_below KO.out HD.out)⟩ (fun hHeld => ?_)
        clear hK K
        refine norm_ (a' := ?_) ?_ ?_
        rotate_left
        · show Act.put _ (some 67) _ = _
          simp only [Act.put, List.setIfInBounds_toArray, List.set_cons_zero, List.set_cons_succ, i64_w, i32_w]
          rfl
        refine one_ (i := 7) (N := some 69) #[true, true, true, true, true, true, true, true, false, true, false] rfl rfl (by kernel_rfl) (by decide) (fun K hK => ?_)
        refine goes_ Try.func35 (by kernel_rfl) rfl #[.agg #[.bool zb, .slice AZ2 zl.length cZ2], .agg #[.bool yb, .slice AY yl.length cY]] (by rfl) rfl rfl (by simp only [List.map_toArray, List.map_cons, List.map_nil]; rfl) ?_
        with_reducible refine (q_Mul RZ2.out (RY.out.b HD.out) HM2.out).mono ?_
        rintro e wM ⟨AM, cM, rfl, oM, hb⟩
        have RU := Aside0.mk (RU.out.b hb); have RZ2 := Aside0.mk (RZ2.out.b hb)
        have KW := Aside0.mk (blk_below KW.out hb)
        have HD := Aside0.mk (below_step HD.out hb)
        have RM := Aside0.mk oM.r
        clear hb
        refine ⟨_, rfl, ?_⟩
        refine hK.out _ _ ⟨blk_all (blk_below KA.out HD.out), blk_all (blk_below KX.out HD.out), blk_all (blk_below KY.out HD.out), blk_all (blk_below KO.out HD.out)⟩ (fun hHeld => ?_)
        clear hK K
        refine norm_ (a' := ?_) ?_ ?_
        rotate_left
        · show Act.put _ (some 69) _ = _
          simp only [Act.put, List.setIfInBounds_toArray, List.set_cons_zero, List.set_cons_succ, i64_w, i32_w]
          rfl
        refine one_ (i := 8) (N := some 70) #[true, true, true, true, true, true, true, true, true, true, false] rfl rfl (by kernel_rfl) (by decide) (fun K hK => ?_)
        refine goes_ Try.func36 (by kernel_rfl) rfl #[.agg #[.bool sb, .slice AU sl.length cU], .agg #[.bool mb, .slice AM ml.length cM]] (by rfl) rfl rfl (by simp only [List.map_toArray, List.map_cons, List.map_nil]; rfl) ?_
        with_reducible refine (q_Add RU.out RM.out HA1.out).mono ?_
        rintro e wA ⟨AW2, cW2, rfl, oW2, hb⟩
        have RU := Aside0.mk (RU.out.b hb); have RZ2 := Aside0.mk (RZ2.out.b hb); have RM := Aside0.mk (RM.out.b hb)
        have KW := Aside0.mk (blk_below KW.out hb)
        have HD := Aside0.mk (below_step HD.out hb)
        have RW2 := Aside0.mk (OI.mk (Kd.R_lower oW2.o (Nat.zero_le _)) : OI wA 0 AW2 cW2 pl)
        clear hb
        refine ⟨_, rfl, ?_⟩
        refine hK.out _ _ ⟨blk_all (blk_below KA.out HD.out), blk_all (blk_below KX.out HD.out), blk_all (blk_below KY.out HD.out), blk_all (blk_below KO.out HD.out)⟩ (fun hHeld => ?_)
        clear hK K
        refine norm_ (a' := ?_) ?_ ?_
        rotate_left
        · show Act.put _ (some 70) _ = _
          simp only [Act.put, List.setIfInBounds_toArray, List.set_cons_zero, List.set_cons_succ, i64_w, i32_w]
          rfl
        exact norm_ (by simp only [putAll, Act.put, List.setIfInBounds_toArray, List.set_cons_zero, List.set_cons_succ]) (hCont ((((AU, cU), (AZ2, cZ2)), ((AM, cM), (AW2, cW2))), w9.heap.size) _ ⟨RW2, KW, HD, GW⟩)
    rintro ⟨⟨⟨⟨AU, cU⟩, ⟨AZ2, cZ2⟩⟩, ⟨⟨AM, cM⟩, ⟨AW2, cW2⟩⟩⟩, gW⟩ wb ⟨RW2, KW, HD, GW⟩
    have hHeld : (∀ i : Nat, wb.cell? ⟨gA, i, none⟩ = (#[.bool b, .slice A1 l1.length c1, .slice A2 p1.length c2] : Array Value)[i]?) ∧ (∀ i : Nat, wb.cell? ⟨gX, i, none⟩ = (#[.bool xb, .slice AX xl.length cX] : Array Value)[i]?) ∧ (∀ i : Nat, wb.cell? ⟨gY, i, none⟩ = (#[.bool yb, .slice AY yl.length cY] : Array Value)[i]?) ∧ (∀ i : Nat, wb.cell? ⟨gO, i, none⟩ = (#[.bool ob, .slice AO ol.length cO] : Array Value)[i]?) := ⟨blk_all (blk_below KA.out HD.out), blk_all (blk_below KX.out HD.out), blk_all (blk_below KY.out HD.out), blk_all (blk_below KO.out HD.out)⟩
    dsimp only at RW2 KW GW
    have cW := blk_all KW.out
    have fW := frz_all KW.out
    refine norm_ (a' := ?_) ?_ ?_
    rotate_left
    · simp only [putAll, Act.put, List.setIfInBounds_toArray, List.set_cons_zero, List.set_cons_succ]
      rfl
    refine last_ (i := 10) (N := none) #[true, true, true, true, true, true, true, true, true, true, true] rfl rfl (by kernel_rfl) (by decide) (fun K hK => ?_)
    refine skip_ (w1 := ?_) (by rfl) rfl ?_ ?_
    rotate_left
    · go_simp
      rfl
    refine hK.out _ _ ?_
    clear hK K
    refine done_ (by kernel_rfl) ?_

    go_wp2_with fail
    have hd := below_drew1 (below_set2 HD.out GW.out (.bool pb) (.slice AW2 pl.length cW2))
    have RW2 := Aside0.mk ((RW2.out.set2 KW.out (by decide) (.bool pb) (.slice AW2 pl.length cW2)).r.b (below_drew1 (Below.refl _ _)))
    have KW := Aside0.mk (blk_drew (blk_put2 KW.out (.bool pb) (.slice AW2 pl.length cW2)))
    have KA := Aside0.mk (blk_below KA.out hd); have KB := Aside0.mk (blk_below KB.out hd); have KC := Aside0.mk (blk_below KC.out hd); have KX := Aside0.mk (blk_below KX.out hd); have KY := Aside0.mk (blk_below KY.out hd); have KP := Aside0.mk (blk_below KP.out hd)
    refine start_ (n := 38) (S := fun w' => (∀ i : Nat, w'.cell? ⟨gA, i, none⟩ = (#[.bool b, .slice A1 l1.length c1, .slice A2 p1.length c2] : Array Value)[i]?) ∧ (∀ i : Nat, w'.cell? ⟨gB, i, none⟩ = (#[.bool b', .slice A3 l2.length c3, .slice A4 p2.length c4] : Array Value)[i]?) ∧ (∀ i : Nat, w'.cell? ⟨gC, i, none⟩ = (#[.bool kb, .slice A5 kl.length c5] : Array Value)[i]?) ∧ (∀ i : Nat, w'.cell? ⟨gX, i, none⟩ = (#[.bool xb, .slice AX xl.length cX] : Array Value)[i]?) ∧ (∀ i : Nat, w'.cell? ⟨gY, i, none⟩ = (#[.bool yb, .slice AY yl.length cY] : Array Value)[i]?) ∧ (∀ i : Nat, w'.cell? ⟨gP, i, none⟩ = (#[.bool pb, .slice AP pl.length cP] : Array Value)[i]?) ∧ (∀ i : Nat, w'.cell? ⟨gW, i, none⟩ = (#[.bool pb, .slice AW2 pl.length cW2] : Array Value)[i]?)) (ds := []) #[false, false, false, false, false, false, false, false, false, false, false, false, false, false, false, false, false, false, false, false, false, false, false, false, false, false, false, false, false, false, false, false, false, false, false, false, false, false] (by kernel_rfl) rfl rfl ⟨blk_all KA.out, blk_all KB.out, blk_all KC.out, blk_all KX.out, blk_all KY.out, blk_all KP.out, blk_all KW.out⟩ (fun hHeld => ?_)
    refine pure_ (i := 2) (N := some 73) (v := ?_) (a' := ?_) #[false, false, true, false, false, false, false, false, false, false, false, false, false, false, false, false, false, false, false, false, false, false, false, false, false, false, false, false, false, false, false, false, false, false, false, false, false, false] rfl rfl (by kernel_rfl) (fun _ _ _ h => h) (Or.inl ⟨by rfl, ?_⟩) ?_ ?_
    rotate_left
    · intro w'
      go_simp
      with_reducible rfl
    rotate_left
    · simp only [Act.put, List.setIfInBounds_toArray, List.set_cons_zero, List.set_cons_succ, i64_w, i32_w]
      rfl
    refine take_ (i := 0) (N := some 71) (v := ?_) (a' := ?_) #[true, false, true, false, false, false, false, false, false, false, false, false, false, false, false, false, false, false, false, false, false, false, false, false, false, false, false, false, false, false, false, false, false, false, false, false, false, false] rfl rfl (by kernel_rfl) (fun _ _ _ h => h) (Or.inl ⟨by rfl, ?_⟩) hHeld ?_ ?_
    rotate_left
    · rintro w' ⟨s0, s1, s2, s3, s4, s5, s6⟩
      go_simp
      with_reducible rfl
    rotate_left
    · simp only [Act.put, List.setIfInBounds_toArray, List.set_cons_zero, List.set_cons_succ, i64_w, i32_w]
      rfl
    refine take_ (i := 4) (N := some 75) (v := ?_) (a' := ?_) #[true, false, true, false, true, false, false, false, false, false, false, false, false, false, false, false, false, false, false, false, false, false, false, false, false, false, false, false, false, false, false, false, false, false, false, false, false, false] rfl rfl (by kernel_rfl) (fun _ _ _ h => h) (Or.inl ⟨by rfl, ?_⟩) hHeld ?_ ?_
    rotate_left
    · rintro w' ⟨s0, s1, s2, s3, s4, s5, s6⟩
      go_simp
      with_reducible rfl
    rotate_left
    · simp only [Act.put, List.setIfInBounds_toArray, List.set_cons_zero, List.set_cons_succ, i64_w, i32_w]
      rfl
    refine one_ (i := 1) (N := some 72) #[true, true, true, false, true, false, false, false, false, false, false, false, false, false, false, false, false, false, false, false, false, false, false, false, false, false, false, false, false, false, false, false, false, false, false, false, false, false] rfl rfl (by kernel_rfl) (by decide) (fun K hK => ?_)
    refine goes_ Try.func20 (by kernel_rfl) rfl #[.agg #[.bool b, .slice A1 l1.length c1, .slice A2 p1.length c2]] (by rfl) rfl rfl (by simp only [List.map_toArray, List.map_cons, List.map_nil]; rfl) ?_
    with_reducible refine (q_Norm (R1.out.b hd) (R2.out.b hd) HNO_.out).mono ?_
    rintro e w301 ⟨AN, cN, BN, dN, rfl, rN, sN, hb⟩
    have hy := below_step hd hb
    have KA := Aside0.mk (blk_below KA.out hb); have KB := Aside0.mk (blk_below KB.out hb); have KC := Aside0.mk (blk_below KC.out hb); have KX := Aside0.mk (blk_below KX.out hb); have KY := Aside0.mk (blk_below KY.out hb); have KP := Aside0.mk (blk_below KP.out hb); have KW := Aside0.mk (blk_below KW.out hb); have R1 := Aside0.mk (R1.out.b hy); have R2 := Aside0.mk (R2.out.b hy); have R3 := Aside0.mk (R3.out.b hy); have R4 := Aside0.mk (R4.out.b hy); have R5 := Aside0.mk (R5.out.b hy); have R6 := Aside0.mk (R6.out.b hy); have RX := Aside0.mk (RX.out.b hy); have RY := Aside0.mk (RY.out.b hy); have RP := Aside0.mk (RP.out.b hy); have RO := Aside0.mk (RO.out.b hy); have RW2 := Aside0.mk (RW2.out.b hb); have HB := Aside0.mk (below_step HB.out hy)
    have RN := Aside0.mk rN
    have SN := Aside0.mk sN
    clear hb hy
    refine ⟨_, rfl, ?_⟩
    refine hK.out _ _ ⟨blk_all KA.out, blk_all KB.out, blk_all KC.out, blk_all KX.out, blk_all KY.out, blk_all KP.out, blk_all KW.out⟩ (fun hHeld => ?_)
    clear hK K
    refine norm_ (a' := ?_) ?_ ?_
    rotate_left
    · show Act.put _ (some 72) _ = _
      simp only [Act.put, List.setIfInBounds_toArray, List.set_cons_zero, List.set_cons_succ, i64_w, i32_w]
      rfl
    refine one_ (i := 3) (N := some 74) #[true, true, true, true, true, false, false, false, false, false, false, false, false, false, false, false, false, false, false, false, false, false, false, false, false, false, false, false, false, false, false, false, false, false, false, false, false, false] rfl rfl (by kernel_rfl) (by decide) (fun K hK => ?_)
    refine goes_ Try.func17 (by kernel_rfl) rfl #[.agg #[.bool nb, .slice AN nl.length cN, .slice BN np.length dN], .slice A6 q.length c6] (by rfl) rfl rfl (by simp only [List.map_toArray, List.map_cons, List.map_nil]; rfl) ?_
    with_reducible refine (q_Value RN.out SN.out R6.out HV4.out).mono ?_
    rintro e w302 ⟨AQ1, cQ1, rfl, rQ1, hb⟩
    have KA := Aside0.mk (blk_below KA.out hb); have KB := Aside0.mk (blk_below KB.out hb); have KC := Aside0.mk (blk_below KC.out hb); have KX := Aside0.mk (blk_below KX.out hb); have KY := Aside0.mk (blk_below KY.out hb); have KP := Aside0.mk (blk_below KP.out hb); have KW := Aside0.mk (blk_below KW.out hb); have R1 := Aside0.mk (R1.out.b hb); have R2 := Aside0.mk (R2.out.b hb); have R3 := Aside0.mk (R3.out.b hb); have R4 := Aside0.mk (R4.out.b hb); have R5 := Aside0.mk (R5.out.b hb); have R6 := Aside0.mk (R6.out.b hb); have RX := Aside0.mk (RX.out.b hb); have RY := Aside0.mk (RY.out.b hb); have RP := Aside0.mk (RP.out.b hb); have RO := Aside0.mk (RO.out.b hb); have RW2 := Aside0.mk (RW2.out.b hb); have HB := Aside0.mk (below_step HB.out hb)
    have RQ1 := Aside0.mk rQ1
    clear hb
    refine ⟨_, rfl, ?_⟩
    refine hK.out _ _ ⟨blk_all KA.out, blk_all KB.out, blk_all KC.out, blk_all KX.out, blk_all KY.out, blk_all KP.out, blk_all KW.out⟩ (fun hHeld => ?_)
    clear hK K
    refine norm_ (a' := ?_) ?_ ?_
    rotate_left
    · show Act.put _ (some 74) _ = _
      simp only [Act.put, List.setIfInBounds_toArray, List.set_cons_zero, List.set_cons_succ, i64_w, i32_w]
      rfl
    refine one_ (i := 5) (N := some 76) #[true, true, true, true, true, true, false, false, false, false, false, false, false, false, false, false, false, false, false, false, false, false, false, false, false, false, false, false, false, false, false, false, false, false, false, false, false, false] rfl rfl (by kernel_rfl) (by decide) (fun K hK => ?_)
    refine goes_ Try.func38 (by kernel_rfl) rfl #[.agg #[.bool xb, .slice AQ1 xl.length cQ1], .agg #[.bool xb, .slice AX xl.length cX]] (by rfl) rfl rfl (by simp only [List.map_toArray, List.map_cons, List.map_nil]; rfl) ?_
    with_reducible refine (q_Cmp RQ1.out RX.out HC1.out).mono ?_
    rintro e w303 ⟨rfl, hb⟩
    have KA := Aside0.mk (blk_below KA.out hb); have KB := Aside0.mk (blk_below KB.out hb); have KC := Aside0.mk (blk_below KC.out hb); have KX := Aside0.mk (blk_below KX.out hb); have KY := Aside0.mk (blk_below KY.out hb); have KP := Aside0.mk (blk_below KP.out hb); have KW := Aside0.mk (blk_below KW.out hb); have R1 := Aside0.mk (R1.out.b hb); have R2 := Aside0.mk (R2.out.b hb); have R3 := Aside0.mk (R3.out.b hb); have R4 := Aside0.mk (R4.out.b hb); have R5 := Aside0.mk (R5.out.b hb); have R6 := Aside0.mk (R6.out.b hb); have RX := Aside0.mk (RX.out.b hb); have RY := Aside0.mk (RY.out.b hb); have RP := Aside0.mk (RP.out.b hb); have RO := Aside0.mk (RO.out.b hb); have RW2 := Aside0.mk (RW2.out.b hb); have HB := Aside0.mk (below_step HB.out hb)
    clear hb
    refine ⟨_, rfl, ?_⟩
    refine hK.out _ _ ⟨blk_all KA.out, blk_all KB.out, blk_all KC.out, blk_all KX.out, blk_all KY.out, blk_all KP.out, blk_all KW.out⟩ (fun hHeld => ?_)
    clear hK K
    refine norm_ (a' := ?_) ?_ ?_
    rotate_left
    · show Act.put _ (some 76) _ = _
      simp only [Act.put, List.setIfInBounds_toArray, List.set_cons_zero, List.set_cons_succ, i64_w, i32_w]
      rfl
    refine pure_ (i := 6) (N := some 77) (v := ?_) (a' := ?_) #[true, true, true, true, true, true, true, false, false, false, false, false, false, false, false, false, false, false, false, false, false, false, false, false, false, false, false, false, false, false, false, false, false, false, false, false, false, false] rfl rfl (by kernel_rfl) (fun _ _ _ h => h) (Or.inl ⟨by rfl, ?_⟩) ?_ ?_
    rotate_left
    · intro w'
      go_simp
      with_reducible rfl
    rotate_left
    · simp only [Act.put, List.setIfInBounds_toArray, List.set_cons_zero, List.set_cons_succ, i64_w, i32_w]
      rfl
    refine pure_ (i := 7) (N := some 78) (v := ?_) (a' := ?_) #[true, true, true, true, true, true, true, true, false, false, false, false, false, false, false, false, false, false, false, false, false, false, false, false, false, false, false, false, false, false, false, false, false, false, false, false, false, false] rfl rfl (by kernel_rfl) (fun _ _ _ h => h) (Or.inl ⟨by rfl, ?_⟩) ?_ ?_
    rotate_left
    · intro w'
      go_simp
      with_reducible rfl
    rotate_left
    · simp only [Act.put, List.setIfInBounds_toArray, List.set_cons_zero, List.set_cons_succ, i64_w, i32_w]
      rfl
    refine pure_ (i := 11) (N := some 82) (v := ?_) (a' := ?_) #[true, true, true, true, true, true, true, true, false, false, false, true, false, false, false, false, false, false, false, false, false, false, false, false, false, false, false, false, false, false, false, false, false, false, false, false, false, false] rfl rfl (by kernel_rfl) (fun _ _ _ h => h) (Or.inl ⟨by rfl, ?_⟩) ?_ ?_
    rotate_left
    · intro w'
      go_simp
      with_reducible rfl
    rotate_left
    · simp only [Act.put, List.setIfInBounds_toArray, List.set_cons_zero, List.set_cons_succ, i64_w, i32_w]
      rfl
    refine take_ (i := 8) (N := some 79) (v := ?_) (a' := ?_) #[true, true, true, true, true, true, true, true, true, false, false, true, false, false, false, false, false, false, false, false, false, false, false, false, false, false, false, false, false, false, false, false, false, false, false, false, false, false] rfl rfl (by kernel_rfl) (fun _ _ _ h => h) (Or.inl ⟨by rfl, ?_⟩) hHeld ?_ ?_
    rotate_left
    · rintro w' ⟨s0, s1, s2, s3, s4, s5, s6⟩
      go_simp
      with_reducible rfl
    rotate_left
    · simp only [Act.put, List.setIfInBounds_toArray, List.set_cons_zero, List.set_cons_succ, i64_w, i32_w]
      rfl
    refine take_ (i := 9) (N := some 80) (v := ?_) (a' := ?_) #[true, true, true, true, true, true, true, true, true, true, false, true, false, false, false, false, false, false, false, false, false, false, false, false, false, false, false, false, false, false, false, false, false, false, false, false, false, false] rfl rfl (by kernel_rfl) (fun _ _ _ h => h) (Or.inl ⟨by rfl, ?_⟩) hHeld ?_ ?_
    rotate_left
    · rintro w' ⟨s0, s1, s2, s3, s4, s5, s6⟩
      go_simp
      with_reducible rfl
    rotate_left
    · simp only [Act.put, List.setIfInBounds_toArray, List.set_cons_zero, List.set_cons_succ, i64_w, i32_w]
      rfl
    refine take_ (i := 13) (N := some 84) (v := ?_) (a' := ?_) #[true, true, true, true, true, true, true, true, true, true, false, true, false, true, false, false, false, false, false, false, false, false, false, false, false, false, false, false, false, false, false, false, false, false, false, false, false, false] rfl rfl (by kernel_rfl) (fun _ _ _ h => h) (Or.inl ⟨by rfl, ?_⟩) hHeld ?_ ?_
    rotate_left
    · rintro w' ⟨s0, s1, s2, s3, s4, s5, s6⟩
      go_simp
      with_reducible rfl
    rotate_left
    · simp only [Act.put, List.setIfInBounds_toArray, List.set_cons_zero, List.set_cons_succ, i64_w, i32_w]
      rfl
    refine take_ (i := 14) (N := some 85) (v := ?_) (a' := ?_) #[true, true, true, true, true, true, true, true, true, true, false, true, false, true, true, false, false, false, false, false, false, false, false, false, false, false, false, false, false, false, false, false, false, false, false, false, false, false] rfl rfl (by kernel_rfl) (fun _ _ _ h => h) (Or.inl ⟨by rfl, ?_⟩) hHeld ?_ ?_
    rotate_left
    · rintro w' ⟨s0, s1, s2, s3, s4, s5, s6⟩
      go_simp
      with_reducible rfl
    rotate_left
    · simp only [Act.put, List.setIfInBounds_toArray, List.set_cons_zero, List.set_cons_succ, i64_w, i32_w]
      rfl
    refine one_ (i := 10) (N := some 81) #[true, true, true, true, true, true, true, true, true, true, true, true, false, true, true, false, false, false, false, false, false, false, false, false, false, false, false, false, false, false, false, false, false, false, false, false, false, false] rfl rfl (by kernel_rfl) (by decide) (fun K hK => ?_)
    refine goes_ Try.func22 (by kernel_rfl) rfl #[.agg #[.bool b, .slice A1 l1.length c1, .slice A2 p1.length c2], .agg #[.bool b', .slice A3 l2.length c3, .slice A4 p2.length c4]] (by rfl) rfl rfl (by simp only [List.map_toArray, List.map_cons, List.map_nil]; rfl) ?_
    with_reducible refine (HAD.out _ _ _ _ _ _ _ _ _ R1.out R2.out R3.out R4.out).mono ?_
    rintro e w304 ⟨AD, cD, BD, dD, rfl, rD, sD, hb⟩
    have KA := Aside0.mk (blk_below KA.out hb); have KB := Aside0.mk (blk_below KB.out hb); have KC := Aside0.mk (blk_below KC.out hb); have KX := Aside0.mk (blk_below KX.out hb); have KY := Aside0.mk (blk_below KY.out hb); have KP := Aside0.mk (blk_below KP.out hb); have KW := Aside0.mk (blk_below KW.out hb); have R1 := Aside0.mk (R1.out.b hb); have R2 := Aside0.mk (R2.out.b hb); have R3 := Aside0.mk (R3.out.b hb); have R4 := Aside0.mk (R4.out.b hb); have R5 := Aside0.mk (R5.out.b hb); have R6 := Aside0.mk (R6.out.b hb); have RX := Aside0.mk (RX.out.b hb); have RY := Aside0.mk (RY.out.b hb); have RP := Aside0.mk (RP.out.b hb); have RO := Aside0.mk (RO.out.b hb); have RW2 := Aside0.mk (RW2.out.b hb); have HB := Aside0.mk (below_step HB.out hb)
    have RD := Aside0.mk rD
    have SD := Aside0.mk sD
    clear hb
    refine ⟨_, rfl, ?_⟩
    refine hK.out _ _ ⟨blk_all KA.out, blk_all KB.out, blk_all KC.out, blk_all KX.out, blk_all KY.out, blk_all KP.out, blk_all KW.out⟩ (fun hHeld => ?_)
    clear hK K
    refine norm_ (a' := ?_) ?_ ?_
    rotate_left
    · show Act.put _ (some 81) _ = _
      simp only [Act.put, List.setIfInBounds_toArray, List.set_cons_zero, List.set_cons_succ, i64_w, i32_w]
      rfl
    refine one_ (i := 12) (N := some 83) #[true, true, true, true, true, true, true, true, true, true, true, true, true, true, true, false, false, false, false, false, false, false, false, false, false, false, false, false, false, false, false, false, false, false, false, false, false, false] rfl rfl (by kernel_rfl) (by decide) (fun K hK => ?_)
    refine goes_ Try.func17 (by kernel_rfl) rfl #[.agg #[.bool ab, .slice AD al.length cD, .slice BD ap.length dD], .slice A6 q.length c6] (by rfl) rfl rfl (by simp only [List.map_toArray, List.map_cons, List.map_nil]; rfl) ?_
    with_reducible refine (q_Value RD.out SD.out R6.out HV5.out).mono ?_
    rintro e w305 ⟨AQ2, cQ2, rfl, rQ2, hb⟩
    have KA := Aside0.mk (blk_below KA.out hb); have KB := Aside0.mk (blk_below KB.out hb); have KC := Aside0.mk (blk_below KC.out hb); have KX := Aside0.mk (blk_below KX.out hb); have KY := Aside0.mk (blk_below KY.out hb); have KP := Aside0.mk (blk_below KP.out hb); have KW := Aside0.mk (blk_below KW.out hb); have R1 := Aside0.mk (R1.out.b hb); have R2 := Aside0.mk (R2.out.b hb); have R3 := Aside0.mk (R3.out.b hb); have R4 := Aside0.mk (R4.out.b hb); have R5 := Aside0.mk (R5.out.b hb); have R6 := Aside0.mk (R6.out.b hb); have RX := Aside0.mk (RX.out.b hb); have RY := Aside0.mk (RY.out.b hb); have RP := Aside0.mk (RP.out.b hb); have RO := Aside0.mk (RO.out.b hb); have RW2 := Aside0.mk (RW2.out.b hb); have HB := Aside0.mk (below_step HB.out hb)
    have RQ2 := Aside0.mk rQ2
    clear hb
    refine ⟨_, rfl, ?_⟩
    refine hK.out _ _ ⟨blk_all KA.out, blk_all KB.out, blk_all KC.out, blk_all KX.out, blk_all KY.out, blk_all KP.out, blk_all KW.out⟩ (fun hHeld => ?_)
    clear hK K
    refine norm_ (a' := ?_) ?_ ?_
    rotate_left
    · show Act.put _ (some 83) _ = _
      simp only [Act.put, List.setIfInBounds_toArray, List.set_cons_zero, List.set_cons_succ, i64_w, i32_w]
      rfl
    refine one_ (i := 15) (N := some 86) #[true, true, true, true, true, true, true, true, true, true, true, true, true, true, true, true, false, false, false, false, false, false, false, false, false, false, false, false, false, false, false, false, false, false, false, false, false, false] rfl rfl (by kernel_rfl) (by decide) (fun K hK => ?_)
    refine goes_ Try.func36 (by kernel_rfl) rfl #[.agg #[.bool xb, .slice AX xl.length cX], .agg #[.bool yb, .slice AY yl.length cY]] (by rfl) rfl rfl (by simp only [List.map_toArray, List.map_cons, List.map_nil]; rfl) ?_
    with_reducible refine (q_Add RX.out RY.out HA2.out).mono ?_
    rintro e w306 ⟨AQ3, cQ3, rfl, oQ3, hb⟩
    have KA := Aside0.mk (blk_below KA.out hb); have KB := Aside0.mk (blk_below KB.out hb); have KC := Aside0.mk (blk_below KC.out hb); have KX := Aside0.mk (blk_below KX.out hb); have KY := Aside0.mk (blk_below KY.out hb); have KP := Aside0.mk (blk_below KP.out hb); have KW := Aside0.mk (blk_below KW.out hb); have R1 := Aside0.mk (R1.out.b hb); have R2 := Aside0.mk (R2.out.b hb); have R3 := Aside0.mk (R3.out.b hb); have R4 := Aside0.mk (R4.out.b hb); have R5 := Aside0.mk (R5.out.b hb); have R6 := Aside0.mk (R6.out.b hb); have RX := Aside0.mk (RX.out.b hb); have RY := Aside0.mk (RY.out.b hb); have RP := Aside0.mk (RP.out.b hb); have RO := Aside0.mk (RO.out.b hb); have RW2 := Aside0.mk (RW2.out.b hb); have RQ2 := Aside0.mk (RQ2.out.b hb); have HB := Aside0.mk (below_step HB.out hb)
    have RQ3 := Aside0.mk oQ3.r
    clear hb
    refine ⟨_, rfl, ?_⟩
    refine hK.out _ _ ⟨blk_all KA.out, blk_all KB.out, blk_all KC.out, blk_all KX.out, blk_all KY.out, blk_all KP.out, blk_all KW.out⟩ (fun hHeld => ?_)
    clear hK K
    refine norm_ (a' := ?_) ?_ ?_
    rotate_left
    · show Act.put _ (some 86) _ = _
      simp only [Act.put, List.setIfInBounds_toArray, List.set_cons_zero, List.set_cons_succ, i64_w, i32_w]
      rfl
    refine one_ (i := 16) (N := some 87) #[true, true, true, true, true, true, true, true, true, true, true, true, true, true, true, true, true, false, false, false, false, false, false, false, false, false, false, false, false, false, false, false, false, false, false, false, false, false] rfl rfl (by kernel_rfl) (by decide) (fun K hK => ?_)
    refine goes_ Try.func38 (by kernel_rfl) rfl #[.agg #[.bool eb, .slice AQ2 el.length cQ2], .agg #[.bool eb, .slice AQ3 el.length cQ3]] (by rfl) rfl rfl (by simp only [List.map_toArray, List.map_cons, List.map_nil]; rfl) ?_
    with_reducible refine (q_Cmp RQ2.out RQ3.out HC2.out).mono ?_
    rintro e w307 ⟨rfl, hb⟩
    have KA := Aside0.mk (blk_below KA.out hb); have KB := Aside0.mk (blk_below KB.out hb); have KC := Aside0.mk (blk_below KC.out hb); have KX := Aside0.mk (blk_below KX.out hb); have KY := Aside0.mk (blk_below KY.out hb); have KP := Aside0.mk (blk_below KP.out hb); have KW := Aside0.mk (blk_below KW.out hb); have R1 := Aside0.mk (R1.out.b hb); have R2 := Aside0.mk (R2.out.b hb); have R3 := Aside0.mk (R3.out.b hb); have R4 := Aside0.mk (R4.out.b hb); have R5 := Aside0.mk (R5.out.b hb); have R6 := Aside0.mk (R6.out.b hb); have RX := Aside0.mk (RX.out.b hb); have RY := Aside0.mk (RY.out.b hb); have RP := Aside0.mk (RP.out.b hb); have RO := Aside0.mk (RO.out.b hb); have RW2 := Aside0.mk (RW2.out.b hb); have HB := Aside0.mk (below_step HB.out hb)
    clear hb
    refine ⟨_, rfl, ?_⟩
    refine hK.out _ _ ⟨blk_all KA.out, blk_all KB.out, blk_all KC.out, blk_all KX.out, blk_all KY.out, blk_all KP.out, blk_all KW.out⟩ (fun hHeld => ?_)
    clear hK K
    refine norm_ (a' := ?_) ?_ ?_
    rotate_left
    · show Act.put _ (some 87) _ = _
      simp only [Act.put, List.setIfInBounds_toArray, List.set_cons_zero, List.set_cons_succ, i64_w, i32_w]
      rfl
    refine pure_ (i := 17) (N := some 88) (v := ?_) (a' := ?_) #[true, true, true, true, true, true, true, true, true, true, true, true, true, true, true, true, true, true, false, false, false, false, false, false, false, false, false, false, false, false, false, false, false, false, false, false, false, false] rfl rfl (by kernel_rfl) (fun _ _ _ h => h) (Or.inl ⟨by rfl, ?_⟩) ?_ ?_
    rotate_left
    · intro w'
      go_simp
      with_reducible rfl
    rotate_left
    · simp only [Act.put, List.setIfInBounds_toArray, List.set_cons_zero, List.set_cons_succ, i64_w, i32_w]
      rfl
    refine pure_ (i := 18) (N := some 89) (v := ?_) (a' := ?_) #[true, true, true, true, true, true, true, true, true, true, true, true, true, true, true, true, true, true, true, false, false, false, false, false, false, false, false, false, false, false, false, false, false, false, false, false, false, false] rfl rfl (by kernel_rfl) (fun _ _ _ h => h) (Or.inl ⟨by rfl, ?_⟩) ?_ ?_
    rotate_left
    · intro w'
      go_simp
      with_reducible rfl
    rotate_left
    · simp only [Act.put, List.setIfInBounds_toArray, List.set_cons_zero, List.set_cons_succ, i64_w, i32_w]
      rfl
    refine pure_ (i := 19) (N := some 90) (v := ?_) (a' := ?_) #[true, true, true, true, true, true, true, true, true, true, true, true, true, true, true, true, true, true, true, true, false, false, false, false, false, false, false, false, false, false, false, false, false, false, false, false, false, false] rfl rfl (by kernel_rfl) (fun _ _ _ h => h) (Or.inl ⟨by rfl, ?_⟩) ?_ ?_
    rotate_left
    · intro w'
      go_simp
      with_reducible rfl
    rotate_left
    · simp only [Act.put, List.setIfInBounds_toArray, List.set_cons_zero, List.set_cons_succ, i64_w, i32_w]
      rfl
    refine pure_ (i := 23) (N := some 94) (v := ?_) (a' := ?_) #[true, true, true, true, true, true, true, true, true, true, true, true, true, true, true, true, true, true, true, true, false, false, false, true, false, false, false, false, false, false, false, false, false, false, false, false, false, false] rfl rfl (by kernel_rfl) (fun _ _ _ h => h) (Or.inl ⟨by rfl, ?_⟩) ?_ ?_
    rotate_left
    · intro w'
      go_simp
      with_reducible rfl
    rotate_left
    · simp only [Act.put, List.setIfInBounds_toArray, List.set_cons_zero, List.set_cons_succ, i64_w, i32_w]
      rfl
    refine take_ (i := 20) (N := some 91) (v := ?_) (a' := ?_) #[true, true, true, true, true, true, true, true, true, true, true, true, true, true, true, true, true, true, true, true, true, false, false, true, false, false, false, false, false, false, false, false, false, false, false, false, false, false] rfl rfl (by kernel_rfl) (fun _ _ _ h => h) (Or.inl ⟨by rfl, ?_⟩) hHeld ?_ ?_
    rotate_left
    · rintro w' ⟨s0, s1, s2, s3, s4, s5, s6⟩
      go_simp
      with_reducible rfl
    rotate_left
    · simp only [Act.put, List.setIfInBounds_toArray, List.set_cons_zero, List.set_cons_succ, i64_w, i32_w]
      rfl
    refine take_ (i := 21) (N := some 92) (v := ?_) (a' := ?_) #[true, true, true, true, true, true, true, true, true, true, true, true, true, true, true, true, true, true, true, true, true, true, false, true, false, false, false, false, false, false, false, false, false, false, false, false, false, false] rfl rfl (by kernel_rfl) (fun _ _ _ h => h) (Or.inl ⟨by rfl, ?_⟩) hHeld ?_ ?_
    rotate_left
    · rintro w' ⟨s0, s1, s2, s3, s4, s5, s6⟩
      go_simp
      with_reducible rfl
    rotate_left
    · simp only [Act.put, List.setIfInBounds_toArray, List.set_cons_zero, List.set_cons_succ, i64_w, i32_w]
      rfl
    refine take_ (i := 25) (N := some 96) (v := ?_) (a' := ?_) #[true, true, true, true, true, true, true, true, true, true, true, true, true, true, true, true, true, true, true, true, true, true, false, true, false, true, false, false, false, false, false, false, false, false, false, false, false, false] rfl rfl (by kernel_rfl) (fun _ _ _ h => h) (Or.inl ⟨by rfl, ?_⟩) hHeld ?_ ?_
    rotate_left
    · rintro w' ⟨s0, s1, s2, s3, s4, s5, s6⟩
      go_simp
      with_reducible rfl
    rotate_left
    · simp only [Act.put, List.setIfInBounds_toArray, List.set_cons_zero, List.set_cons_succ, i64_w, i32_w]
      rfl
    refine take_ (i := 26) (N := some 97) (v := ?_) (a' := ?_) #[true, true, true, true, true, true, true, true, true, true, true, true, true, true, true, true, true, true, true, true, true, true, false, true, false, true, true, false, false, false, false, false, false, false, false, false, false, false] rfl rfl (by kernel_rfl) (fun _ _ _ h => h) (Or.inl ⟨by rfl, ?_⟩) hHeld ?_ ?_
    rotate_left
    · rintro w' ⟨s0, s1, s2, s3, s4, s5, s6⟩
      go_simp
      with_reducible rfl
    rotate_left
    · simp only [Act.put, List.setIfInBounds_toArray, List.set_cons_zero, List.set_cons_succ, i64_w, i32_w]
      rfl
    refine one_ (i := 22) (N := some 93) #[true, true, true, true, true, true, true, true, true, true, true, true, true, true, true, true, true, true, true, true, true, true, true, true, false, true, true, false, false, false, false, false, false, false, false, false, false, false] rfl rfl (by kernel_rfl) (by decide) (fun K hK => ?_)
    refine goes_ Try.func24 (by kernel_rfl) rfl #[.agg #[.bool b, .slice A1 l1.length c1, .slice A2 p1.length c2], .agg #[.bool kb, .slice A5 kl.length c5]] (by rfl) rfl rfl (by simp only [List.map_toArray, List.map_cons, List.map_nil]; rfl) ?_
    with_reducible refine (HSC.out _ _ _ _ _ _ _ R1.out R2.out R5.out).mono ?_
    rintro e w308 ⟨AE, cE, BE, dE, rfl, rE, sE, hb⟩
    have KA := Aside0.mk (blk_below KA.out hb); have KB := Aside0.mk (blk_below KB.out hb); have KC := Aside0.mk (blk_below KC.out hb); have KX := Aside0.mk (blk_below KX.out hb); have KY := Aside0.mk (blk_below KY.out hb); have KP := Aside0.mk (blk_below KP.out hb); have KW := Aside0.mk (blk_below KW.out hb); have R1 := Aside0.mk (R1.out.b hb); have R2 := Aside0.mk (R2.out.b hb); have R3 := Aside0.mk (R3.out.b hb); have R4 := Aside0.mk (R4.out.b hb); have R5 := Aside0.mk (R5.out.b hb); have R6 := Aside0.mk (R6.out.b hb); have RX := Aside0.mk (RX.out.b hb); have RY := Aside0.mk (RY.out.b hb); have RP := Aside0.mk (RP.out.b hb); have RO := Aside0.mk (RO.out.b hb); have RW2 := Aside0.mk (RW2.out.b hb); have HB := Aside0.mk (below_step HB.out hb)
    have RE := Aside0.mk rE
    have SE := Aside0.mk sE
    clear hb
    refine ⟨_, rfl, ?_⟩
    refine hK.out _ _ ⟨blk_all KA.out, blk_all KB.out, blk_all KC.out, blk_all KX.out, blk_all KY.out, blk_all KP.out, blk_all KW.out⟩ (fun hHeld => ?_)
    clear hK K
    refine norm_ (a' := ?_) ?_ ?_
    rotate_left
    · show Act.put _ (some 93) _ = _
      simp only [Act.put, List.setIfInBounds_toArray, List.set_cons_zero, List.set_cons_succ, i64_w, i32_w]
      rfl
    refine one_ (i := 24) (N := some 95) #[true, true, true, true, true, true, true, true, true, true, true, true, true, true, true, true, true, true, true, true, true, true, true, true, true, true, true, false, false, false, false, false, false, false, false, false, false, false] rfl rfl (by kernel_rfl) (by decide) (fun K hK => ?_)
    refine goes_ Try.func17 (by kernel_rfl) rfl #[.agg #[.bool cb, .slice AE cl.length cE, .slice BE cp.length dE], .slice A6 q.length c6] (by rfl) rfl rfl (by simp only [List.map_toArray, List.map_cons, List.map_nil]; rfl) ?_
    with_reducible refine (q_Value RE.out SE.out R6.out HV6.out).mono ?_
    rintro e w309 ⟨AQ4, cQ4, rfl, rQ4, hb⟩
    have KA := Aside0.mk (blk_below KA.out hb); have KB := Aside0.mk (blk_below KB.out hb); have KC := Aside0.mk (blk_below KC.out hb); have KX := Aside0.mk (blk_below KX.out hb); have KY := Aside0.mk (blk_below KY.out hb); have KP := Aside0.mk (blk_below KP.out hb); have KW := Aside0.mk (blk_below KW.out hb); have R1 := Aside0.mk (R1.out.b hb); have R2 := Aside0.mk (R2.out.b hb); have R3 := Aside0.mk (R3.out.b hb); have R4 := Aside0.mk (R4.out.b hb); have R5 := Aside0.mk (R5.out.b hb); have R6 := Aside0.mk (R6.out.b hb); have RX := Aside0.mk (RX.out.b hb); have RY := Aside0.mk (RY.out.b hb); have RP := Aside0.mk (RP.out.b hb); have RO := Aside0.mk (RO.out.b hb); have RW2 := Aside0.mk (RW2.out.b hb); have HB := Aside0.mk (below_step HB.out hb)
    have RQ4 := Aside0.mk rQ4
    clear hb
    refine ⟨_, rfl, ?_⟩
    refine hK.out _ _ ⟨blk_all KA.out, blk_all KB.out, blk_all KC.out, blk_all KX.out, blk_all KY.out, blk_all KP.out, blk_all KW.out⟩ (fun hHeld => ?_)
    clear hK K
    refine norm_ (a' := ?_) ?_ ?_
    rotate_left
    · show Act.put _ (some 95) _ = _
      simp only [Act.put, List.setIfInBounds_toArray, List.set_cons_zero, List.set_cons_succ, i64_w, i32_w]
      rfl
    refine one_ (i := 27) (N := some 98) #[true, true, true, true, true, true, true, true, true, true, true, true, true, true, true, true, true, true, true, true, true, true, true, true, true, true, true, true, false, false, false, false, false, false, false, false, false, false] rfl rfl (by kernel_rfl) (by decide) (fun K hK => ?_)
    refine goes_ Try.func35 (by kernel_rfl) rfl #[.agg #[.bool xb, .slice AX xl.length cX], .agg #[.bool kb, .slice A5 kl.length c5]] (by rfl) rfl rfl (by simp only [List.map_toArray, List.map_cons, List.map_nil]; rfl) ?_
    with_reducible refine (q_Mul RX.out R5.out HM3.out).mono ?_
    rintro e w310 ⟨AQ5, cQ5, rfl, oQ5, hb⟩
    have KA := Aside0.mk (blk_below KA.out hb); have KB := Aside0.mk (blk_below KB.out hb); have KC := Aside0.mk (blk_below KC.out hb); have KX := Aside0.mk (blk_below KX.out hb); have KY := Aside0.mk (blk_below KY.out hb); have KP := Aside0.mk (blk_below KP.out hb); have KW := Aside0.mk (blk_below KW.out hb); have R1 := Aside0.mk (R1.out.b hb); have R2 := Aside0.mk (R2.out.b hb); have R3 := Aside0.mk (R3.out.b hb); have R4 := Aside0.mk (R4.out.b hb); have R5 := Aside0.mk (R5.out.b hb); have R6 := Aside0.mk (R6.out.b hb); have RX := Aside0.mk (RX.out.b hb); have RY := Aside0.mk (RY.out.b hb); have RP := Aside0.mk (RP.out.b hb); have RO := Aside0.mk (RO.out.b hb); have RW2 := Aside0.mk (RW2.out.b hb); have RQ4 := Aside0.mk (RQ4.out.b hb); have HB := Aside0.mk (below_step HB.out hb)
    have RQ5 := Aside0.mk oQ5.r
    clear hb
    refine ⟨_, rfl, ?_⟩
    refine hK.out _ _ ⟨blk_all KA.out, blk_all KB.out, blk_all KC.out, blk_all KX.out, blk_all KY.out, blk_all KP.out, blk_all KW.out⟩ (fun hHeld => ?_)
    clear hK K
    refine norm_ (a' := ?_) ?_ ?_
    rotate_left
    · show Act.put _ (some 98) _ = _
      simp only [Act.put, List.setIfInBounds_toArray, List.set_cons_zero, List.set_cons_succ, i64_w, i32_w]
      rfl
    refine one_ (i := 28) (N := some 99) #[true, true, true, true, true, true, true, true, true, true, true, true, true, true, true, true, true, true, true, true, true, true, true, true, true, true, true, true, true, false, false, false, false, false, false, false, false, false] rfl rfl (by kernel_rfl) (by decide) (fun K hK => ?_)
    refine goes_ Try.func38 (by kernel_rfl) rfl #[.agg #[.bool fb, .slice AQ4 fl.length cQ4], .agg #[.bool fb, .slice AQ5 fl.length cQ5]] (by rfl) rfl rfl (by simp only [List.map_toArray, List.map_cons, List.map_nil]; rfl) ?_
    with_reducible refine (q_Cmp RQ4.out RQ5.out HC3.out).mono ?_
    rintro e w311 ⟨rfl, hb⟩
    have KA := Aside0.mk (blk_below KA.out hb); have KB := Aside0.mk (blk_below KB.out hb); have KC := Aside0.mk (blk_below KC.out hb); have KX := Aside0.mk (blk_below KX.out hb); have KY := Aside0.mk (blk_below KY.out hb); have KP := Aside0.mk (blk_below KP.out hb); have KW := Aside0.mk (blk_below KW.out hb); have R1 := Aside0.mk (R1.out.b hb); have R2 := Aside0.mk (R2.out.b hb); have R3 := Aside0.mk (R3.out.b hb); have R4 := Aside0.mk (R4.out.b hb); have R5 := Aside0.mk (R5.out.b hb); have R6 := Aside0.mk (R6.out.b hb); have RX := Aside0.mk (RX.out.b hb); have RY := Aside0.mk (RY.out.b hb); have RP := Aside0.mk (RP.out.b hb); have RO := Aside0.mk (RO.out.b hb); have RW2 := Aside0.mk (RW2.out.b hb); have HB := Aside0.mk (below_step HB.out hb)
    clear hb
    refine ⟨_, rfl, ?_⟩
    refine hK.out _ _ ⟨blk_all KA.out, blk_all KB.out, blk_all KC.out, blk_all KX.out, blk_all KY.out, blk_all KP.out, blk_all KW.out⟩ (fun hHeld => ?_)
    clear hK K
    refine norm_ (a' := ?_) ?_ ?_
    rotate_left
    · show Act.put _ (some 99) _ = _
      simp only [Act.put, List.setIfInBounds_toArray, List.set_cons_zero, List.set_cons_succ, i64_w, i32_w]
      rfl
    refine pure_ (i := 29) (N := some 100) (v := ?_) (a' := ?_) #[true, true, true, true, true, true, true, true, true, true, true, true, true, true, true, true, true, true, true, true, true, true, true, true, true, true, true, true, true, true, false, false, false, false, false, false, false, false] rfl rfl (by kernel_rfl) (fun _ _ _ h => h) (Or.inl ⟨by rfl, ?_⟩) ?_ ?_
    rotate_left
    · intro w'
      go_simp
      with_reducible rfl
    rotate_left
    · simp only [Act.put, List.setIfInBounds_toArray, List.set_cons_zero, List.set_cons_succ, i64_w, i32_w]
      rfl
    refine pure_ (i := 30) (N := some 101) (v := ?_) (a' := ?_) #[true, true, true, true, true, true, true, true, true, true, true, true, true, true, true, true, true, true, true, true, true, true, true, true, true, true, true, true, true, true, true, false, false, false, false, false, false, false] rfl rfl (by kernel_rfl) (fun _ _ _ h => h) (Or.inl ⟨by rfl, ?_⟩) ?_ ?_
    rotate_left
    · intro w'
      go_simp
      with_reducible rfl
    rotate_left
    · simp only [Act.put, List.setIfInBounds_toArray, List.set_cons_zero, List.set_cons_succ, i64_w, i32_w]
      rfl
    refine pure_ (i := 31) (N := some 102) (v := ?_) (a' := ?_) #[true, true, true, true, true, true, true, true, true, true, true, true, true, true, true, true, true, true, true, true, true, true, true, true, true, true, true, true, true, true, true, true, false, false, false, false, false, false] rfl rfl (by kernel_rfl) (fun _ _ _ h => h) (Or.inl ⟨by rfl, ?_⟩) ?_ ?_
    rotate_left
    · intro w'
      go_simp
      with_reducible rfl
    rotate_left
    · simp only [Act.put, List.setIfInBounds_toArray, List.set_cons_zero, List.set_cons_succ, i64_w, i32_w]
      rfl
    refine take_ (i := 32) (N := some 103) (v := ?_) (a' := ?_) #[true, true, true, true, true, true, true, true, true, true, true, true, true, true, true, true, true, true, true, true, true, true, true, true, true, true, true, true, true, true, true, true, true, false, false, false, false, false] rfl rfl (by kernel_rfl) (fun _ _ _ h => h) (Or.inl ⟨by rfl, ?_⟩) hHeld ?_ ?_
    rotate_left
    · rintro w' ⟨s0, s1, s2, s3, s4, s5, s6⟩
      go_simp
      with_reducible rfl
    rotate_left
    · simp only [Act.put, List.setIfInBounds_toArray, List.set_cons_zero, List.set_cons_succ, i64_w, i32_w]
      rfl
    refine take_ (i := 33) (N := some 104) (v := ?_) (a' := ?_) #[true, true, true, true, true, true, true, true, true, true, true, true, true, true, true, true, true, true, true, true, true, true, true, true, true, true, true, true, true, true, true, true, true, true, false, false, false, false] rfl rfl (by kernel_rfl) (fun _ _ _ h => h) (Or.inl ⟨by rfl, ?_⟩) hHeld ?_ ?_
    rotate_left
    · rintro w' ⟨s0, s1, s2, s3, s4, s5, s6⟩
      go_simp
      with_reducible rfl
    rotate_left
    · simp only [Act.put, List.setIfInBounds_toArray, List.set_cons_zero, List.set_cons_succ, i64_w, i32_w]
      rfl
    refine one_ (i := 34) (N := some 105) #[true, true, true, true, true, true, true, true, true, true, true, true, true, true, true, true, true, true, true, true, true, true, true, true, true, true, true, true, true, true, true, true, true, true, true, false, false, false] rfl rfl (by kernel_rfl) (by decide) (fun K hK => ?_)
    refine goes_ Try.func38 (by kernel_rfl) rfl #[.agg #[.bool pb, .slice AP pl.length cP], .agg #[.bool pb, .slice AW2 pl.length cW2]] (by rfl) rfl rfl (by simp only [List.map_toArray, List.map_cons, List.map_nil]; rfl) ?_
    with_reducible refine (q_Cmp RP.out RW2.out HC4.out).mono ?_
    rintro e w312 ⟨rfl, hb⟩
    have KA := Aside0.mk (blk_below KA.out hb); have KB := Aside0.mk (blk_below KB.out hb); have KC := Aside0.mk (blk_below KC.out hb); have KX := Aside0.mk (blk_below KX.out hb); have KY := Aside0.mk (blk_below KY.out hb); have KP := Aside0.mk (blk_below KP.out hb); have KW := Aside0.mk (blk_below KW.out hb); have R1 := Aside0.mk (R1.out.b hb); have R2 := Aside0.mk (R2.out.b hb); have R3 := Aside0.mk (R3.out.b hb); have R4 := Aside0.mk (R4.out.b hb); have R5 := Aside0.mk (R5.out.b hb); have R6 := Aside0.mk (R6.out.b hb); have RX := Aside0.mk (RX.out.b hb); have RY := Aside0.mk (RY.out.b hb); have RP := Aside0.mk (RP.out.b hb); have RO := Aside0.mk (RO.out.b hb); have RW2 := Aside0.mk (RW2.out.b hb); have HB := Aside0.mk (below_step HB.out hb)
    clear hb
    refine ⟨_, rfl, ?_⟩
    refine hK.out _ _ ⟨blk_all KA.out, blk_all KB.out, blk_all KC.out, blk_all KX.out, blk_all KY.out, blk_all KP.out, blk_all KW.out⟩ (fun hHeld => ?_)
    clear hK K
    refine norm_ (a' := ?_) ?_ ?_
    rotate_left
    · show Act.put _ (some 105) _ = _
      simp only [Act.put, List.setIfInBounds_toArray, List.set_cons_zero, List.set_cons_succ, i64_w, i32_w]
      rfl
    refine pure_ (i := 35) (N := some 106) (v := ?_) (a' := ?_) #[true, true, true, true, true, true, true, true, true, true, true, true, true, true, true, true, true, true, true, true, true, true, true, true, true, true, true, true, true, true, true, true, true, true, true, true, false, false] rfl rfl (by kernel_rfl) (fun _ _ _ h => h) (Or.inl ⟨by rfl, ?_⟩) ?_ ?_
    rotate_left
    · intro w'
      go_simp
      with_reducible rfl
    rotate_left
    · simp only [Act.put, List.setIfInBounds_toArray, List.set_cons_zero, List.set_cons_succ, i64_w, i32_w]
      rfl
    refine pure_ (i := 36) (N := some 107) (v := ?_) (a' := ?_) #[true, true, true, true, true, true, true, true, true, true, true, true, true, true, true, true, true, true, true, true, true, true, true, true, true, true, true, true, true, true, true, true, true, true, true, true, true, false] rfl rfl (by kernel_rfl) (fun _ _ _ h => h) (Or.inl ⟨by rfl, ?_⟩) ?_ ?_
    rotate_left
    · intro w'
      go_simp
      with_reducible rfl
    rotate_left
    · simp only [Act.put, List.setIfInBounds_toArray, List.set_cons_zero, List.set_cons_succ, i64_w, i32_w]
      rfl
    refine pure_ (i := 37) (N := some 10) (v := ?_) (a' := ?_) #[true, true, true, true, true, true, true, true, true, true, true, true, true, true, true, true, true, true, true, true, true, true, true, true, true, true, true, true, true, true, true, true, true, true, true, true, true, true] rfl rfl (by kernel_rfl) (fun _ _ _ h => h) (Or.inl ⟨by rfl, ?_⟩) ?_ ?_
    rotate_left
    · intro w'
      go_simp
      with_reducible rfl
    rotate_left
    · simp only [Act.put, List.setIfInBounds_toArray, List.set_cons_zero, List.set_cons_succ, i64_w, i32_w]
      rfl
    refine done_ (by kernel_rfl) ?_

    go_wp2
    go_ret
    exact ⟨rfl, by repeat first | exact HB.out | apply below_drew1⟩
end Go.Proofs.Ytdicjemjmlbmlaa.H
/- An argument that is a sum. -/
namespace Go.Proofs.Ytdicjemjmlbmlaa.H
open Go.RowKit Go.WideShapes Go.Proofs.YtdicjemjmlbmlaaW.PrintWords Go.Proofs.Ytdicjemjmlbmlaa.PA
theorem Opens.arg_struct {α : Type} {P : Program} {d : Kd α} {t : TypeId} {fs : Array Field} {g : α → Prop} {H : Type} {enc : TypeId × Value → H} {w : World} {r : Reach} {b0 base : Nat} {spare : Nat → Bool} {held : Bool} {v : Value} {D : DataW H} {pl : List MemPlace}
    (ht : P.underlying t = some (.struct fs)) (he : Opens P d t g) (hv : Value.okWide P w r b0 t v) (h : DataW.Trod enc P w base spare held t v D pl) : ∃ (x : α) (cs : List Value), v = .agg cs.toArray ∧ d.K w x cs ∧ g x := by
  obtain ⟨cs, rfl, hsz⟩ := okWide_struct ht hv
  obtain ⟨fuel, hf⟩ := h
  obtain ⟨x, h1, h2⟩ := he.2 _ _ _ _ _ _ _ _ _ hf
  exact ⟨x, cs.toList, rfl, h1, h2⟩
set_option maxRecDepth 100000 in
theorem opens_whole : Opens Try.prog k24 24 (fun x => True ∧ ∀ y ∈ x.f1, (Lit.int .u32 y).wf = true) := (Opens.iso (Opens.struct Try.underlying24 (by kernel_rfl) (OpensAt.cons rfl (Opens.bool (by kernel_rfl) (by kernel_rfl)) (OpensAt.last rfl (Opens.slice (by kernel_rfl) (by kernel_rfl) (Opens.int (by kernel_rfl) (by kernel_rfl))) rfl))) _ (fun a => ⟨⟨a.1, a.2⟩, rfl⟩))
set_option maxRecDepth 100000 in
theorem opens_mono : Opens Try.prog k46 46 (fun x => (Lit.int .i64 x.f0).wf = true ∧ (True ∧ ∀ y ∈ x.f1.f1, (Lit.int .u32 y).wf = true)) := (Opens.iso (Opens.struct Try.underlying46 (by kernel_rfl) (OpensAt.cons rfl (Opens.int (by kernel_rfl) (by kernel_rfl)) (OpensAt.last rfl opens_whole rfl))) _ (fun a => ⟨⟨a.1, a.2⟩, rfl⟩))
set_option maxRecDepth 100000 in
set_option linter.constructorNameAsVariable false in
theorem arg_lin {H : Type} {enc : TypeId × Value → H} {w : World} {r : Reach} {b0 base : Nat} {spare : Nat → Bool} {held : Bool} {v : Value} {D : DataW H} {pl : List MemPlace}
    (hv : Value.okWide Try.prog w r b0 27 v) (h : DataW.Trod enc Try.prog w base spare held 27 v D pl) :
    ∃ (b : Bool) (A1 : Option Addr) (c1 : Nat) (l1 : List Int) (A2 : Option Addr) (c2 : Nat) (l2 : List S46), v = .agg #[.bool b, .slice A1 l1.length c1, .slice A2 l2.length c2] ∧ Kd.C (Kd.int .u32) w A1 l1.length l1 ∧ l1.length ≤ c1 ∧ Kd.C k46 w A2 l2.length l2 ∧ l2.length ≤ c2 ∧ (∀ x ∈ l1, (Lit.int .u32 x).wf = true) ∧ ∀ x ∈ l2, (Lit.int .i64 x.f0).wf = true ∧ ∀ y ∈ x.f1.f1, (Lit.int .u32 y).wf = true := by
  obtain ⟨⟨⟨b, l1⟩, l2⟩, cs, rfl, ⟨c0, c1, rfl, ⟨cb, cl, rfl, eb, ⟨A1, n1, rfl, h1, h2⟩⟩, ⟨A2, n2, rfl, h3, h4⟩⟩, g1, g2⟩ := Opens.arg_struct (d := Kd.pair k24 (Kd.slice 46 k46)) Try.underlying27 (Opens.struct Try.underlying27 (by kernel_rfl) (OpensAt.cons rfl opens_whole (OpensAt.last rfl (Opens.slice (by kernel_rfl) (by kernel_rfl) opens_mono) rfl))) hv h
  have eb : cb = [.bool b] := eb
  subst eb
  exact ⟨b, A1, n1, l1, A2, n2, l2, rfl, h2, h1, h4, h3, g1.2, fun x hx => ⟨(g2 x hx).1, (g2 x hx).2.2⟩⟩
end Go.Proofs.Ytdicjemjmlbmlaa.H
/- Written by wip/tools/rows.py. -/
namespace Go.Proofs.Ytdicjemjmlbmlaa.linReckons
open Go.ChangeShapes Go.WideShapes Go.ChangeAt Go.RowKit
open Go.ChangeMaps (open_string shut_string)
set_option linter.unusedVariables false
theorem own : ownKnob Try.prog.godebug = none := by kernel_rfl
theorem laidOut : laidOutB Try.prog = true := by kernel_rfl
def IsRow (k : IntKind) (w : World) (a : Option Addr) (len cap : Nat) (zs : List Int) : Prop :=
  (a = none ∧ len = 0 ∧ cap = 0 ∧ zs = []) ∨
  ∃ x, a = some x ∧ len ≤ cap ∧ cap ≤ maxLen ∧ zs.length = cap ∧ (∀ i, i < zs.length → w.cell? (x.add i) = some (.int k (zs.getD i 0))) ∧ ∀ n ∈ zs, (Lit.int k n).wf = true
set_option maxRecDepth 100000 in
theorem lifted (os : Os) (started : os.Started) (H : Type) (enc : TypeId × Value → H) :
    ReturnsInHanded {} Try.checked os 8 .any (Rows.linReckonsSpec.pre6 enc Try.prog Try.f8 Rows.linReckonsRow.domain false) (Rows.linReckonsSpec.post enc Try.prog Try.f8 false true false false) := by
  refine returnsInHanded_of_change_sized (C := Try.checked) own started (by kernel_rfl) Try.func8
    (ChangeSpec.witness6 (enc := enc) (C := Try.checked) false ⟨#[], #[.agg #[.bool false, .slice none 0 0, .slice none 0 0], .agg #[.bool false, .slice none 0 0, .slice none 0 0], .int .i64 0, .agg #[.bool false, .slice none 0 0], .slice none 0 0], []⟩ 8 (by kernel_rfl) (by kernel_rfl) (by kernel_rfl) (by kernel_rfl)) ?_
  intro W base args ds gs before hval0 hW hcnd hsz0 _
  have hsz : (DataW.weightsEach Try.prog (Try.f8.params.toList ++ Rows.linReckonsSpec.plain.varTypes Try.prog) (ds ++ gs)).all (· ≤ reachBytes) = true := hsz0
  have hval : ∀ (j : Nat) t v, Try.f8.params[j]? = some t → args[j]? = some v → Value.okWide Try.prog W .any base t v := hval0
  have hW' := hW
  obtain ⟨p, q, hA0, hV, rfl, hfz, hnd⟩ := hW
  have hA : DataW.TrodAll enc Try.prog W 0 (fun _ => true) true Try.f8.params.toList args.toList ds p := hA0
  rw [Try.params8] at hA hval hsz
  obtain ⟨v0, vs0, d0, ds0, p0, q0, hargs, rfl, rfl, h0, r0⟩ := trodAll_cons hA
  obtain ⟨v1, vs1, d1, ds1, p1, q1, rfl, rfl, rfl, h1, r1⟩ := trodAll_cons r0
  obtain ⟨v2, vs2, d2, ds2, p2, q2, rfl, rfl, rfl, h2, r2⟩ := trodAll_cons r1
  obtain ⟨v3, vs3, d3, ds3, p3, q3, rfl, rfl, rfl, h3, r3⟩ := trodAll_cons r2
  obtain ⟨v4, vs4, d4, ds4, p4, q4, rfl, rfl, rfl, h4, r4⟩ := trodAll_cons r3
  obtain ⟨rfl, rfl, rfl⟩ := trodAll_nil r4
  obtain rfl : args = #[v0, v1, v2, v3, v4] := by cases args; simp_all
  obtain ⟨rfl, rfl⟩ := trodVars_none hV
  have k0 := h0
  have lt0 : ∀ x ∈ p0, x.block < W.heap.size := by obtain ⟨m, hm⟩ := k0; exact DataW.trod_lt m _ _ _ hm
  obtain ⟨b0, A0, c0, l0, B0, e0, r0_, rfl, hr0, hc0, hs0, hd0, hw0, hx0⟩ := Go.Proofs.Ytdicjemjmlbmlaa.H.arg_lin (hval 0 27 v0 rfl rfl) h0
  have k1 := h1
  have lt1 : ∀ x ∈ p1, x.block < W.heap.size := by obtain ⟨m, hm⟩ := k1; exact DataW.trod_lt m _ _ _ hm
  obtain ⟨b1, A1, c1, l1, B1, e1, r1_, rfl, hr1, hc1, hs1, hd1, hw1, hx1⟩ := Go.Proofs.Ytdicjemjmlbmlaa.H.arg_lin (hval 1 27 v1 rfl rfl) h1
  obtain ⟨a2, rfl, rfl, rfl, w2⟩ := open_int Try.underlying3 (hval 2 3 v2 rfl rfl) h2
  have hb2 := (bounds_i64 w2)
  have k3 := h3
  have lt3 : ∀ x ∈ p3, x.block < W.heap.size := by obtain ⟨m, hm⟩ := k3; exact DataW.trod_lt m _ _ _ hm
  obtain ⟨u3a, u3b, y3a, y3b, n3, rfl, rfl, rfl, ga3, gb3⟩ := Go.Joins.open_agg2 Try.underlying24 (by kernel_rfl) (by kernel_rfl) (hval 3 24 v3 rfl rfl) h3
  obtain ⟨b3, e3, _⟩ := DataW.trod_bool Try.underlying4 ga3
  simp only [List.cons.injEq, and_true] at e3
  subst e3
  obtain ⟨A3, len3, cap3, zs3, rfl, w3⟩ : ∃ A n c zs, u3b = .slice A n c ∧ IsRow .u32 W A n c zs := by
    rcases open_ints Try.underlying22 Try.underlying81 (by kernel_rfl) gb3 with ⟨hcs, _⟩ | ⟨x, l, c, zs, hcs, _, hl, hm, hz, _, hcell, hwz⟩
    · simp at hcs; exact ⟨none, 0, 0, [], hcs, .inl ⟨rfl, rfl, rfl, rfl⟩⟩
    · simp at hcs; exact ⟨some x, l, c, zs, hcs, .inr ⟨_, rfl, hl, hm, by simpa using hz, hcell, hwz⟩⟩
  obtain ⟨l3, rfl, hr3, hm3, hw3, hc3⟩ := Go.Proofs.YtdicjemjmlbmlaaW.PrintWords.ReadsInt.ofRowC w3
  obtain ⟨A4, len4, cap4, rfl⟩ := okWide_slice Try.underlying25 (hval 4 25 v4 rfl rfl)
  have k4 := h4
  have lt4 : ∀ x ∈ p4, x.block < W.heap.size := by obtain ⟨m, hm⟩ := k4; exact DataW.trod_lt m _ _ _ hm
  obtain ⟨l4, hll4, hlc4, hr4, hm4⟩ := Go.Proofs.Ytdicjemjmlbmlaa.H.Opens.arg_slice (d := PA.k46) Try.underlying25 (Go.Proofs.Ytdicjemjmlbmlaa.H.Opens.iso (Go.Proofs.Ytdicjemjmlbmlaa.H.Opens.struct Try.underlying46 (by kernel_rfl) (Go.Proofs.Ytdicjemjmlbmlaa.H.OpensAt.cons rfl (Go.Proofs.Ytdicjemjmlbmlaa.H.Opens.int (by kernel_rfl) (by kernel_rfl)) (Go.Proofs.Ytdicjemjmlbmlaa.H.OpensAt.last rfl (Go.Proofs.Ytdicjemjmlbmlaa.H.Opens.iso (Go.Proofs.Ytdicjemjmlbmlaa.H.Opens.struct Try.underlying24 (by kernel_rfl) (Go.Proofs.Ytdicjemjmlbmlaa.H.OpensAt.cons rfl (Go.Proofs.Ytdicjemjmlbmlaa.H.Opens.bool (by kernel_rfl) (by kernel_rfl)) (Go.Proofs.Ytdicjemjmlbmlaa.H.OpensAt.last rfl (Go.Proofs.Ytdicjemjmlbmlaa.H.Opens.slice (by kernel_rfl) (by kernel_rfl) (Go.Proofs.Ytdicjemjmlbmlaa.H.Opens.int (by kernel_rfl) (by kernel_rfl))) rfl))) _ (fun a => ⟨⟨a.1, a.2⟩, rfl⟩)) rfl))) _ (fun a => ⟨⟨a.1, a.2⟩, rfl⟩)) h4
  subst hll4
  clear hA0 hval0 hsz0 hsz
  refine (Go.Proofs.Ytdicjemjmlbmlaa.H.law_LinReckons b0 _ _ l0 _ _ r0_ b1 _ _ l1 _ _ r1_ a2 b3 _ _ l3 _ _ l4 W ⟨hr0, hc0⟩ ⟨hs0, hd0⟩ ⟨hr1, hc1⟩ ⟨hs1, hd1⟩ ⟨Go.Proofs.YtdicjemjmlbmlaaW.PrintWords.Kd.C_of_reads (d := (0 : Int)) (h1 := fun _ => rfl) hr3, hc3⟩ ⟨hr4, hlc4⟩ (Go.Proofs.Ytdicjemjmlbmlaa.S.lim_wf hw0) (fun x hx => Go.Proofs.Ytdicjemjmlbmlaa.S.lim_wf (hx0 x hx).2) (Go.Proofs.Ytdicjemjmlbmlaa.S.lim_wf hw1) (fun x hx => Go.Proofs.Ytdicjemjmlbmlaa.S.lim_wf (hx1 x hx).2) (Go.Proofs.Ytdicjemjmlbmlaa.S.lim_wf hw3) (fun x hx => Go.Proofs.Ytdicjemjmlbmlaa.S.lim_wf (hm4 x hx).2.2)).mono fun e W' ⟨he, bel⟩ => ?_
  subst he
  exact ⟨_, rfl, _, _, _, [], _, [], hW', trodAll_mk1 (shut_bool Try.underlying4 _), (trodAll_cons_mk (Below.trod laidOut (by kernel_rfl) (of_decide_eq_true (by kernel_rfl)) k0 bel lt0) (trodAll_cons_mk (Below.trod laidOut (by kernel_rfl) (of_decide_eq_true (by kernel_rfl)) k1 bel lt1) (trodAll_cons_mk (shut_int Try.underlying3 w2) (trodAll_cons_mk (Below.trod laidOut (by kernel_rfl) (of_decide_eq_true (by kernel_rfl)) k3 bel lt3) (trodAll_cons_mk (Below.trod laidOut (by kernel_rfl) (of_decide_eq_true (by kernel_rfl)) k4 bel lt4) trodAll_mk0))))), rfl, bel.frame _, fun h => by cases h⟩
theorem over : Rows.linReckonsRow.holds Try.pinned (OpenSpec.ofChange Rows.linReckonsSpec) :=
  OpenClaim.holds_of_wide 8 Try.f8 rfl rfl rfl rfl rfl rfl rfl ⟨rfl, rfl, rfl, rfl, rfl⟩ rfl rfl rfl rfl rfl (by kernel_rfl) Try.func8 (by kernel_rfl)
    (of_decide_eq_true (by kernel_rfl)) (by unfold Func.isWrapper; first | (rw [if_pos (by decide +kernel)]; kernel_rfl) | (rw [if_neg (by decide +kernel)]; exact ⟨rfl, rfl⟩))
    (fun os started H enc _ => lifted os started H enc)
theorem proved : Rows.LinReckonsSaid := over
end Go.Proofs.Ytdicjemjmlbmlaa.linReckons
namespace Go.Proofs.Ytdicjemjmlbmlaa
/-- The row, under a short name, for the claim. -/
theorem linReckons_holds : Rows.LinReckonsSaid := linReckons.proved
end Go.Proofs.Ytdicjemjmlbmlaa
