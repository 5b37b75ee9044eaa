/- Joined by wip/tools/shake.py for the claim of LinSums: HRScale, HRAdd, HLPut, LinC, LinD, HRPut, HAwk, LawS, HLin, LawLinSums. -/
import Derived.Test.YtdicjemjmlbmlaaJLinSums5
import Derived.Test.YtdicjemjmlbmlaaJLinSums4
import Derived.Shelf.RegionOpenPlain
import Derived.KernelRfl
import Derived.WalkKit
import Derived.Test.YtdicjemjmlbmlaaJLinSums2
import Derived.Lib.SmallJoins
import Derived.Test.YtdicjemjmlbmlaaRows
import Derived.ProofKit
import Derived.OpenShut
import Derived.ShutString
import Derived.ChangeOld
import Derived.Below
import Derived.SizedLaws
import Derived.ChangeSlices
import Derived.Deep.SlicePairs
/- The reference's Scale. -/
namespace Go.Proofs.Ytdicjemjmlbmlaa.H
set_option linter.unusedSimpArgs false
set_option linter.unusedVariables false
open Go.RowKit Go.Proofs.YtdicjemjmlbmlaaW.PrintWords Go.Proofs.YtdicjemjmlbmlaaW.PrintLast Go.Proofs.YtdicjemjmlbmlaaW.PrintMore Go.Proofs.Ytdicjemjmlbmlaa.PA Go.Proofs.Ytdicjemjmlbmlaa.V Go.Proofs.Ytdicjemjmlbmlaa.S
theorem q_rMul {w : World} {k : Nat} {b b' : Bool} {A A' : Option Addr} {c c' : Nat} {l l' : List Int} {rb : Bool} {rl : List Int} (h1 : RI w A c l) (h2 : RI w A' c' l') (h : gudgeonref02_Mul.f k b l b' l' = some (rb, rl)) :
    Calls Try.prog 56 #[.agg #[.bool b, .slice A l.length c], .agg #[.bool b', .slice A' l'.length c']] w (AO w rb rl) := (gudgeonref02_Mul.calls k b A c l b' A' c' l' rb rl w h1.r h1.s h2.r h2.s h).mono (fun _ _ h => AO.of h)
set_option maxHeartbeats 2000000 in
set_option maxRecDepth 100000 in
theorem q_rScale {w : World} {b b' : Bool} {A E A' : Option Addr} {c d c' : Nat} {l l' : List Int} {p : List S46} {m n : Nat} (h1 : RI w A c l) (h2 : RP w E d p) (h3 : RI w A' c' l') (hs : Small m n l p) (hl' : Lim l') (hn' : l'.length ≤ n) (hm : m ≤ 400) (hn : n ≤ 400) :
    Calls Try.prog 25 #[.agg #[.bool b, .slice A l.length c, .slice E p.length d], .agg #[.bool b', .slice A' l'.length c']] w (AK w (W (wv b l * wv b' l')).1 (W (wv b l * wv b' l')).2 ((normP (scP (wv b' l') (p.map prM))).map enP)) := by
  have mixed : Try.prog.follows Departure.mixedOrders = true := by kernel_rfl
  have hu27 := Try.underlying27
  have hu24 := Try.underlying24
  have hu46 := Try.underlying46
  obtain ⟨rs, hp, hr, hd⟩ := raws h2.r
  have hnum := hs.num
  have hlen := hs.len
  have hlm : ∀ x ∈ rs, Lim x.xs ∧ x.xs.length ≤ n := fun x hx => hs.each (toM x) (by rw [← hp]; exact List.mem_map_of_mem hx)
  have hln : rs.length = p.length := by rw [← hp, List.length_map]
  obtain ⟨kn, hkn⟩ := (rMul_ev b b' l l' hs.lim hl' (by omega) (by omega)).rounds
  have hkm : ∀ x ∈ rs, ∃ k, gudgeonref02_Mul.f k x.ng x.xs b' l' = some ((W (wv x.ng x.xs * wv b' l')).1, (W (wv x.ng x.xs * wv b' l')).2) := fun x hx => (rMul_ev x.ng b' x.xs l' (hlm x hx).1 hl' (by have := (hlm x hx).2; omega) (by omega)).rounds
  have hpe : (scP (wv b' l') (p.map prM)).map enP = rs.map (fun x => enP (x.v, wv x.ng x.xs * wv b' l')) := by
    rw [← hp, pr_toM]
    unfold scP
    rw [List.map_map, List.map_map]; rfl
  have hsB : B (n + n) (wv b l * wv b' l') := (hs.b b).mul ((B_in b' hl').mono hn')
  have hqB : BQ (n + n) (scP (wv b' l') (p.map prM)) := scP_B hs.bq ((B_in b' hl').mono hn')
  have hss : Small m (n + n) (W (wv b l * wv b' l')).2 ((scP (wv b' l') (p.map prM)).map enP) := small_SU hsB (by unfold scP; rw [List.length_map, List.length_map]; omega) hqB
  have hno : ∀ (W0 : World) (A0 B0 : Option Addr) (c0 d0 : Nat), RI W0 A0 c0 (W (wv b l * wv b' l')).2 → RP W0 B0 d0 ((scP (wv b' l') (p.map prM)).map enP) → Calls Try.prog 21 #[.agg #[.bool (W (wv b l * wv b' l')).1, .slice A0 (W (wv b l * wv b' l')).2.length c0, .slice B0 rs.length d0]] W0 (AK W0 (W (wv b l * wv b' l')).1 (W (wv b l * wv b' l')).2 ((normP (scP (wv b' l') (p.map prM))).map enP)) := by
    intro W0 A0 B0 c0 d0 r1 r2
    have := q_rLNorm (b := (W (wv b l * wv b' l')).1) r1 r2 hss (by omega) (by omega)
    rw [map_enP, wv_W, hpe, List.length_map] at this
    exact this
  rw [hpe] at hno
  generalize (normP (scP (wv b' l') (p.map prM))).map enP = rp at *
  have hkn : gudgeonref02_Mul.f kn b l b' l' = some ((W (wv b l * wv b' l')).1, (W (wv b l * wv b' l')).2) := hkn
  generalize (W (wv b l * wv b' l')).1 = nb at *
  generalize (W (wv b l * wv b' l')).2 = nl at *
  have HKN := Aside0.mk hkn
  have HNO := Aside0.mk hno
  have HMU := Aside0.mk hkm
  have R1 := Aside0.mk h1
  have RK := Aside0.mk h3
  generalize hN : p.length = N at *
  have HR := Aside0.mk hr
  have HD := Aside0.mk hd
  have HLN := Aside0.mk (show rs.length = N ∧ N ≤ 400 by omega)
  clear h1 h2 h3 hr hd hp hln hnum hlen hlm hkn hkm hpe hsB hqB hss hno hN hs hl' hn' hm hn
  go_enter Try.func25, Try.ntmps25
  go_wp2_with (first
    | ((with_reducible refine gate_dst (N := 2) rfl ?_); refine box_event ?hg (N := 2) ?hd (cs := #[.bool b, .slice A l.length c, .slice E N d]) (t := 27) ?hr ?_; (case hd => rfl); (case hg => rfl); (case hr => first | (go_simp; done) | (go_simp; rfl)); intro gA hg w1 hbox hb; have KA := Aside0.mk hbox; have HB := Aside0.mk hb; clear hg hbox hb)
    | ((with_reducible refine gate_dst (N := 3) rfl ?_); refine box_event ?hg (N := 3) ?hd (cs := #[.bool b', .slice A' l'.length c']) (t := 24) ?hr ?_; (case hd => rfl); (case hg => rfl); (case hr => first | (go_simp; done) | (go_simp; rfl)); intro gK hg w2 hbox hb; have KA := Aside0.mk (blk_below KA.out hb); have KK := Aside0.mk hbox; have HB := Aside0.mk (below_step HB.out hb); clear hg hbox hb)
    | ((with_reducible refine gate_dst (N := 4) rfl ?_); refine box_event ?hg (N := 4) ?hd (cs := #[.bool false, .slice none 0 0, .slice none 0 0]) (t := 27) ?hr ?_; (case hd => rfl); (case hg => rfl); (case hr => first | (go_simp; done) | (go_simp; rfl)); intro gR hg w25 hbox hb; have KA := Aside0.mk (blk_below KA.out hb); have KK := Aside0.mk (blk_below KK.out hb); have cA := blk_all KA.out; have cK := blk_all KK.out; have GR := Aside0.mk (show w.heap.size ≤ gR by rw [hg]; exact HB.out.size); have HB := Aside0.mk (below_step HB.out hb); have KR := Aside0.mk hbox; clear hg hbox hb)
    | (go_at_call 56; (with_reducible refine (q_rMul (R1.out.b HB.out) (RK.out.b HB.out) HKN.out).mono ?_); rintro e w3 ⟨A3, c3, rfl, o3, hb⟩; have KA := Aside0.mk (blk_below KA.out hb); have KK := Aside0.mk (blk_below KK.out hb); have KR := Aside0.mk (blk_below KR.out hb); have O3 := Aside0.mk (OI.mk (Kd.R_lower o3.o HB.out.size) : OI w3 w.heap.size A3 c3 _); have HB := Aside0.mk (below_step HB.out hb); clear o3 hb cA cK)
    | ((with_reducible refine gate_dst (N := 5) rfl ?_); refine box_event ?hg (N := 5) ?hd (cs := #[.bool false, .slice none 0 0, .slice none 0 0]) (t := 27) ?hr ?_; (case hd => rfl); (case hg => rfl); (case hr => first | (go_simp; done) | (go_simp; rfl)); intro gO hg w4 hbox hb; have KO := Aside0.mk hbox; have HN := Aside0.mk hb; have cO := blk_all hbox; have fO := frz_all hbox; have GO := Aside0.mk (show w3.heap.size ≤ gO by rw [hg]; exact Nat.le_refl _); clear hg hbox hb))
  go_loopg [6] (N + 1) (fun kq v6 wr => ∃ (i : Int) (u : Value) (os : List RM), v6 = .int .i64 i ∧ Aside0 (0 ≤ i ∧ i ≤ (N : Int)) ∧ Aside0 ((N : Int) - i < (kq : Int)) ∧ Aside0 (os.map toM = (rs.take i.toNat).map (fun x => enP (x.v, wv x.ng x.xs * wv b' l'))) ∧ Aside0 (wr.heap[gO]? = some (.cells #[.bool nb, .slice A3 nl.length c3, u] 27 (0, 0))) ∧ Aside0 (Kd.R kM 46 wr w3.heap.size (fun _ => True) u os) ∧ Aside0 (∀ x ∈ os, OwnK wr w3.heap.size x) ∧ Aside0 (Below w3.heap.size w3 wr))
  case atStart => exact ⟨0, _, [], rfl, ⟨Int.le_refl 0, by omega⟩, ⟨by omega⟩, ⟨rfl⟩, ⟨blk_put3 KO.out _ _ _⟩, ⟨Kd.R_nil _ _ _ _ _⟩, ⟨by simp⟩, ⟨below_set3 HN.out GO.out _ _ _⟩⟩
  case round =>
    clear cO fO
    obtain ⟨i, u, os, rfl, HI, HQ, HO, BO, HU, HK, HBr⟩ := hrel
    obtain ⟨Ao, co, eu⟩ := Kd.R_slice HU.out
    subst eu
    cases gk with
    | zero => exact absurd HQ.out (by have := HI.out; omega)
    | succ k1 =>
    have KAr := Aside0.mk (blk_below KA.out HBr.out)
    have KKr := Aside0.mk (blk_below KK.out HBr.out)
    have cA := blk_all KAr.out
    have cO := blk_all BO.out
    by_cases hc : i < (N : Int)
    · obtain ⟨ad, x, eA, hx, hx0, hx1, hx2⟩ := cM_at HR.out i HI.out.1 hc
      cases eA
      have hw := below_step HB.out HBr.out
      have X0 := Aside0.mk (pw_cell_below hw hx0)
      have X1 := Aside0.mk (pw_cell_below hw hx1)
      have X2 := Aside0.mk (pw_cell_below hw hx2)
      have hmem := List.mem_of_getElem? hx
      have hsn := drop_at (fun x => enP (x.v, wv x.ng x.xs * wv b' l')) rs i HI.out.1 _ hx
      obtain ⟨km, hkm⟩ := HMU.out x hmem
      obtain ⟨xv, xb, XA, xc, xl⟩ := x
      have X0 := Aside0.mk (show wr.cell? (ad.add (i.toNat * 3)) = some (.int .i64 xv) from X0.out)
      have X1 := Aside0.mk (show wr.cell? ⟨(ad.add (i.toNat * 3)).block, (ad.add (i.toNat * 3)).off + 1, none⟩ = some (.bool xb) from X1.out)
      have X2 := Aside0.mk (show wr.cell? ⟨(ad.add (i.toNat * 3)).block, (ad.add (i.toNat * 3)).off + 2, none⟩ = some (.slice XA xl.length xc) from X2.out)
      have LX := Aside0.mk (show RI wr XA xc xl from ⟨((HD.out _ hmem).below hw).2, ((HD.out _ hmem).below hw).1⟩)
      dsimp only at hsn hkm
      have hen : enP (xv, wv xb xl * wv b' l') = ⟨xv, ⟨(W (wv xb xl * wv b' l')).1, (W (wv xb xl * wv b' l')).2⟩⟩ := rfl
      rw [hen] at hsn
      generalize (W (wv xb xl * wv b' l')).1 = sb at *
      generalize (W (wv xb xl * wv b' l')).2 = sl at *
      have HKM := Aside0.mk hkm
      have HSN := Aside0.mk hsn
      have hwi : wrap64 (i + 1) = i + 1 := by
        have h1 := HI.out
        have h2 := HLN.out
        unfold wrap64; omega
      have HWI := Aside0.mk hwi
      have HI1 := Aside0.mk (show 0 ≤ i + 1 ∧ i + 1 ≤ (N : Int) by have h1 := HI.out; omega)
      have HQ1 := Aside0.mk (show (N : Int) - (i + 1) < (k1 : Int) by have h1 := HQ.out; omega)
      have HOL := Aside0.mk (show os.length ≤ 1000000 by
        have h1 := congrArg List.length HO.out
        rw [List.length_map, List.length_map, List.length_take] at h1
        have h2 := HLN.out
        omega)
      have d1 : decide (i < (N : Int)) = true := decide_eq_true hc
      have d2 : decide (0 ≤ i) = true := decide_eq_true HI.out.1
      have p1 : (0 ≤ i) = True := eq_true HI.out.1
      have p2 : (i < (N : Int)) = True := eq_true hc
      clear hx0 hx1 hx2 hw hx hc hmem hsn hkm hwi hen
      go_wp2_with fail
      clear cA cO
      refine start_ (n := 21) (S := fun w' => (∀ i : Nat, w'.cell? ⟨gA, i, none⟩ = (#[.bool b, .slice A l.length c, .slice (some ad) N d] : Array Value)[i]?) ∧ (∀ i : Nat, w'.cell? ⟨gK, i, none⟩ = (#[.bool b', .slice A' l'.length c'] : Array Value)[i]?) ∧ (∀ i : Nat, w'.cell? ⟨gO, i, none⟩ = (#[.bool nb, .slice A3 nl.length c3, .slice Ao os.length co] : Array Value)[i]?) ∧ w'.cell? (ad.add (i.toNat * 3)) = some (.int .i64 xv) ∧ w'.cell? ⟨(ad.add (i.toNat * 3)).block, (ad.add (i.toNat * 3)).off + 1, none⟩ = some (.bool xb) ∧ w'.cell? ⟨(ad.add (i.toNat * 3)).block, (ad.add (i.toNat * 3)).off + 2, none⟩ = some (.slice XA xl.length xc)) (ds := [18, 20]) #[false, false, false, false, false, false, false, false, false, false, false, false, false, false, false, false, false, false, false, false, false] (by kernel_rfl) rfl rfl ⟨blk_all KAr.out, blk_all KKr.out, blk_all BO.out, X0.out, X1.out, X2.out⟩ (fun hHeld => ?_)
      refine pure_ (i := 0) (N := some 19) (v := ?_) (a' := ?_) #[true, false, false, false, false, false, false, false, false, false, false, false, false, false, false, false, false, false, false, false, false] rfl rfl (by kernel_rfl) (fun _ _ _ h => h) (Or.inl ⟨by rfl, ?_⟩) ?_ ?_
      rotate_left
      · intro w'
        go_simp
        with_reducible rfl
      rotate_left
      · simp only [Act.put, List.setIfInBounds_toArray, List.set_cons_zero, List.set_cons_succ, i64_w, i32_w]
        rfl
      refine pure_ (i := 2) (N := some 21) (v := ?_) (a' := ?_) #[true, false, true, false, false, false, false, false, false, false, false, false, false, false, false, false, false, false, false, false, false] rfl rfl (by kernel_rfl) (fun _ _ _ h => h) (Or.inl ⟨by rfl, ?_⟩) ?_ ?_
      rotate_left
      · intro w'
        go_simp
        with_reducible rfl
      rotate_left
      · simp only [Act.put, List.setIfInBounds_toArray, List.set_cons_zero, List.set_cons_succ, i64_w, i32_w]
        rfl
      refine pure_ (i := 4) (N := some 23) (v := ?_) (a' := ?_) #[true, false, true, false, true, false, false, false, false, false, false, false, false, false, false, false, false, false, false, false, false] rfl rfl (by kernel_rfl) (fun _ _ _ h => h) (Or.inl ⟨by rfl, ?_⟩) ?_ ?_
      rotate_left
      · intro w'
        go_simp
        with_reducible rfl
      rotate_left
      · simp only [Act.put, List.setIfInBounds_toArray, List.set_cons_zero, List.set_cons_succ, i64_w, i32_w]
        rfl
      refine pure_ (i := 8) (N := some 27) (v := ?_) (a' := ?_) #[true, false, true, false, true, false, false, false, true, false, false, false, false, false, false, false, false, false, false, false, false] rfl rfl (by kernel_rfl) (fun _ _ _ h => h) (Or.inl ⟨by rfl, ?_⟩) ?_ ?_
      rotate_left
      · intro w'
        go_simp
        with_reducible rfl
      rotate_left
      · simp only [Act.put, List.setIfInBounds_toArray, List.set_cons_zero, List.set_cons_succ, i64_w, i32_w]
        rfl
      refine pure_ (i := 10) (N := some 29) (v := ?_) (a' := ?_) #[true, false, true, false, true, false, false, false, true, false, true, false, false, false, false, false, false, false, false, false, false] rfl rfl (by kernel_rfl) (fun _ _ _ h => h) (Or.inl ⟨by rfl, ?_⟩) ?_ ?_
      rotate_left
      · intro w'
        go_simp
        with_reducible rfl
      rotate_left
      · simp only [Act.put, List.setIfInBounds_toArray, List.set_cons_zero, List.set_cons_succ, i64_w, i32_w]
        rfl
      refine take_ (i := 1) (N := some 20) (v := ?_) (a' := ?_) #[true, true, true, false, true, false, false, false, true, false, true, false, false, false, false, false, false, false, false, false, false] rfl rfl (by kernel_rfl) (fun _ _ _ h => h) (Or.inl ⟨by rfl, ?_⟩) hHeld ?_ ?_
      rotate_left
      · rintro w' ⟨s0, s1, s2, s3, s4, s5⟩
        go_simp
        with_reducible rfl
      rotate_left
      · simp only [Act.put, List.setIfInBounds_toArray, List.set_cons_zero, List.set_cons_succ, i64_w, i32_w]
        rfl
      refine take_ (i := 3) (N := some 22) (v := ?_) (a' := ?_) #[true, true, true, true, true, false, false, false, true, false, true, false, false, false, false, false, false, false, false, false, false] rfl rfl (by kernel_rfl) (fun _ _ _ h => h) (Or.inl ⟨by rfl, ?_⟩) hHeld ?_ ?_
      rotate_left
      · rintro w' ⟨s0, s1, s2, s3, s4, s5⟩
        go_simp
        with_reducible rfl
      rotate_left
      · simp only [Act.put, List.setIfInBounds_toArray, List.set_cons_zero, List.set_cons_succ, i64_w, i32_w]
        rfl
      refine pure_ (i := 5) (N := some 24) (v := ?_) (a' := ?_) #[true, true, true, true, true, true, false, false, true, false, true, false, false, false, false, false, false, false, false, false, false] rfl rfl (by kernel_rfl) (fun _ _ _ h => h) (Or.inl ⟨by rfl, ?_⟩) ?_ ?_
      rotate_left
      · intro w'
        go_simp
        with_reducible rfl
      rotate_left
      · simp only [Act.put, List.setIfInBounds_toArray, List.set_cons_zero, List.set_cons_succ, i64_w, i32_w]
        rfl
      refine pure_ (i := 6) (N := some 25) (v := ?_) (a' := ?_) #[true, true, true, true, true, true, true, false, true, false, true, false, false, false, false, false, false, false, false, false, false] rfl rfl (by kernel_rfl) (fun _ _ _ h => h) (Or.inl ⟨by rfl, ?_⟩) ?_ ?_
      rotate_left
      · intro w'
        go_simp
        with_reducible rfl
      rotate_left
      · simp only [Act.put, List.setIfInBounds_toArray, List.set_cons_zero, List.set_cons_succ, i64_w, i32_w]
        rfl
      refine take_ (i := 7) (N := some 26) (v := ?_) (a' := ?_) #[true, true, true, true, true, true, true, true, true, false, true, false, false, false, false, false, false, false, false, false, false] rfl rfl (by kernel_rfl) (fun _ _ _ h => h) (Or.inl ⟨by rfl, ?_⟩) hHeld ?_ ?_
      rotate_left
      · rintro w' ⟨s0, s1, s2, s3, s4, s5⟩
        go_simp
        with_reducible rfl
      rotate_left
      · simp only [Act.put, List.setIfInBounds_toArray, List.set_cons_zero, List.set_cons_succ, i64_w, i32_w]
        rfl
      refine take_ (i := 9) (N := some 28) (v := ?_) (a' := ?_) #[true, true, true, true, true, true, true, true, true, true, true, false, false, false, false, false, false, false, false, false, false] rfl rfl (by kernel_rfl) (fun _ _ _ h => h) (Or.inl ⟨by rfl, ?_⟩) hHeld ?_ ?_
      rotate_left
      · rintro w' ⟨s0, s1, s2, s3, s4, s5⟩
        go_simp
        with_reducible rfl
      rotate_left
      · simp only [Act.put, List.setIfInBounds_toArray, List.set_cons_zero, List.set_cons_succ, i64_w, i32_w]
        rfl
      refine pure_ (i := 11) (N := some 30) (v := ?_) (a' := ?_) #[true, true, true, true, true, true, true, true, true, true, true, true, false, false, false, false, false, false, false, false, false] rfl rfl (by kernel_rfl) (fun _ _ _ h => h) (Or.inl ⟨by rfl, ?_⟩) ?_ ?_
      rotate_left
      · intro w'
        go_simp
        with_reducible rfl
      rotate_left
      · simp only [Act.put, List.setIfInBounds_toArray, List.set_cons_zero, List.set_cons_succ, i64_w, i32_w]
        rfl
      refine pure_ (i := 12) (N := some 31) (v := ?_) (a' := ?_) #[true, true, true, true, true, true, true, true, true, true, true, true, true, false, false, false, false, false, false, false, false] rfl rfl (by kernel_rfl) (fun _ _ _ h => h) (Or.inl ⟨by rfl, ?_⟩) ?_ ?_
      rotate_left
      · intro w'
        go_simp
        with_reducible rfl
      rotate_left
      · simp only [Act.put, List.setIfInBounds_toArray, List.set_cons_zero, List.set_cons_succ, i64_w, i32_w]
        rfl
      refine take_ (i := 13) (N := some 32) (v := ?_) (a' := ?_) #[true, true, true, true, true, true, true, true, true, true, true, true, true, true, false, false, false, false, false, false, false] rfl rfl (by kernel_rfl) (fun _ _ _ h => h) (Or.inl ⟨by rfl, ?_⟩) hHeld ?_ ?_
      rotate_left
      · rintro w' ⟨s0, s1, s2, s3, s4, s5⟩
        go_simp
        with_reducible rfl
      rotate_left
      · simp only [Act.put, List.setIfInBounds_toArray, List.set_cons_zero, List.set_cons_succ, i64_w, i32_w]
        rfl
      refine take_ (i := 14) (N := some 33) (v := ?_) (a' := ?_) #[true, true, true, true, true, true, true, true, true, true, true, true, true, true, true, false, false, false, false, false, false] rfl rfl (by kernel_rfl) (fun _ _ _ h => h) (Or.inl ⟨by rfl, ?_⟩) hHeld ?_ ?_
      rotate_left
      · rintro w' ⟨s0, s1, s2, s3, s4, s5⟩
        go_simp
        with_reducible rfl
      rotate_left
      · simp only [Act.put, List.setIfInBounds_toArray, List.set_cons_zero, List.set_cons_succ, i64_w, i32_w]
        rfl
      refine one_ (i := 15) (N := some 34) #[true, true, true, true, true, true, true, true, true, true, true, true, true, true, true, true, false, false, false, false, false] rfl rfl (by kernel_rfl) (by decide) (fun K hK => ?_)
      refine goes_ Try.func56 (by kernel_rfl) rfl #[.agg #[.bool xb, .slice XA xl.length xc], .agg #[.bool b', .slice A' l'.length c']] (by rfl) rfl rfl (by simp only [List.map_toArray, List.map_cons, List.map_nil]; rfl) ?_
      with_reducible refine (q_rMul (LX.out.b (below_drew1 (Below.refl _ _))) (RK.out.b (below_drew1 (below_step HB.out HBr.out))) HKM.out).mono ?_
      rintro e w6 ⟨A6, c6, rfl, o6, hb⟩
      have hy := below_step (below_drew1 (Below.refl wr.heap.size wr)) hb
      have O6 := Aside0.mk (OI.mk (Kd.R_lower o6.o (below_drew1 HBr.out).size) : OI w6 w3.heap.size A6 c6 sl)
      have KAr := Aside0.mk (blk_below KAr.out hy); have KKr := Aside0.mk (blk_below KKr.out hy); have BO := Aside0.mk (blk_below BO.out hy); have X0 := Aside0.mk (pw_cell_below hy X0.out); have X1 := Aside0.mk (pw_cell_below hy X1.out); have X2 := Aside0.mk (pw_cell_below hy X2.out); have HU := Aside0.mk (Kd.R_below HU.out hy); have HK := Aside0.mk (fun x hx => (HK.out x hx).below hy); have HBr := Aside0.mk (below_step HBr.out hy)
      clear o6 hb hy
      refine ⟨_, rfl, ?_⟩
      refine hK.out _ _ ⟨blk_all KAr.out, blk_all KKr.out, blk_all BO.out, X0.out, X1.out, X2.out⟩ (fun hHeld => ?_)
      clear hK K
      refine norm_ (a' := ?_) ?_ ?_
      rotate_left
      · show Act.put _ (some 34) _ = _
        simp only [Act.put, List.setIfInBounds_toArray, List.set_cons_zero, List.set_cons_succ, i64_w, i32_w]
        rfl
      refine pure_ (i := 16) (N := some 35) (v := ?_) (a' := ?_) #[true, true, true, true, true, true, true, true, true, true, true, true, true, true, true, true, true, false, false, false, false] rfl rfl (by kernel_rfl) (fun _ _ _ h => h) (Or.inl ⟨by rfl, ?_⟩) ?_ ?_
      rotate_left
      · intro w'
        go_simp
        with_reducible rfl
      rotate_left
      · simp only [Act.put, List.setIfInBounds_toArray, List.set_cons_zero, List.set_cons_succ, i64_w, i32_w]
        rfl
      refine one_ (i := 17) (N := some 36) #[true, true, true, true, true, true, true, true, true, true, true, true, true, true, true, true, true, true, false, false, false] rfl rfl (by kernel_rfl) (by decide) (fun K hK => ?_)
      have hy := below_alloc (Below.refl w6.heap.size w6) (.cells #[.int .i64 xv, .bool sb, .slice A6 sl.length c6] 46 (0, 0))
      refine value_ (w1 := ?_) (v := ?_) (by rfl) rfl ?_ ?_
      rotate_left 2
      · go_simp
        constructor
        · rfl
        · rfl
      refine hK.out _ _ ⟨blk_all (blk_below KAr.out hy), blk_all (blk_below KKr.out hy), blk_all (blk_below BO.out hy), pw_cell_below hy X0.out, pw_cell_below hy X1.out, pw_cell_below hy X2.out⟩ (fun hHeld => ?_)
      clear hK K
      refine norm_ (a' := ?_) ?_ ?_
      rotate_left
      · show Act.put _ (some 36) _ = _
        simp only [Act.put, List.setIfInBounds_toArray, List.set_cons_zero, List.set_cons_succ, i64_w, i32_w]
        rfl
      refine last_ (i := 18) (N := some 37) #[true, true, true, true, true, true, true, true, true, true, true, true, true, true, true, true, true, true, true, false, false] rfl rfl (by kernel_rfl) (by decide) (fun K hK => ?_)
      refine Kd.R_append_step kM (w0 := w3) w3.heap.size (by rfl) (.tmp 20) (.tmp 36) 25 46 (.agg #[.int .i64 0, .bool false, .slice none 0 0]) 40 rfl Try.underlying25 infoM rfl (by decide) (by decide) (.slice Ao os.length co) os ⟨xv, sb, A6, c6, sl⟩ (encM ⟨xv, sb, A6, c6, sl⟩) (fun _ => True) (fun _ => False) rfl rfl rfl (fun _ h => h.elim) (fun _ _ => trivial) HU.out HBr.out HBr.out.size (by have := HOL.out; omega) ?_
      intro v10 w10 ho hb hg hat
      obtain ⟨A10, c10, e10⟩ := Kd.R_slice ho
      subst e10
      rw [List.length_append, List.length_singleton] at ho
      have HO10 := Aside0.mk ho
      have HB10 := Aside0.mk hb
      have HG10 := Aside0.mk hg
      have BO10 := Aside0.mk ((hg.block gO (Array.getElem?_eq_some_iff.1 BO.out).1 (fun e => by obtain ⟨cs, hc⟩ := Kd.R_typed HU.out gO e.symm; exact absurd rfl (box_ne BO.out hc (by decide)))).trans BO.out)
      clear ho hb hg hat hy
      have cO := blk_all BO10.out
      have fO := frz_all BO10.out
      refine hK.out _ _ ?_
      clear hK K
      refine norm_ (a' := ?_) ?_ ?_
      rotate_left
      · show Act.put _ (some 37) _ = _
        simp only [Act.put, List.setIfInBounds_toArray, List.set_cons_zero, List.set_cons_succ, i64_w, i32_w]
        rfl
      refine pure_ (i := 19) (N := some 38) (v := ?_) (a' := ?_) #[true, true, true, true, true, true, true, true, true, true, true, true, true, true, true, true, true, true, true, true, false] rfl rfl (by kernel_rfl) (fun _ _ _ h => h) (Or.inl ⟨by rfl, ?_⟩) ?_ ?_
      rotate_left
      · intro w'
        go_simp
        with_reducible rfl
      rotate_left
      · simp only [Act.put, List.setIfInBounds_toArray, List.set_cons_zero, List.set_cons_succ, i64_w, i32_w]
        rfl
      refine last_ (i := 20) (N := none) #[true, true, true, true, true, true, true, true, true, true, true, true, true, true, true, true, true, true, true, true, true] rfl rfl (by kernel_rfl) (by decide) (fun K hK => ?_)
      refine skip_ (w1 := ?_) (by rfl) rfl ?_ ?_
      rotate_left
      · go_simp
        rfl
      refine hK.out _ _ ?_
      clear hK K
      refine done_ (by kernel_rfl) ?_

      go_wp2_with fail
      have hkg := keeps_grown HG10.out (Kd.R_typed HU.out) (by decide)
      have hks := fun (k : Nat) (cells : Array Value) (t : Nat) (ht : t ≠ 27) (hk : w10.heap[k]? = some (Obj.cells cells t (0, 0))) => Below.heap_setCell w10 ⟨gO, 2, none⟩ (.slice A10 (os.length + 1) c10) k (box_ne BO10.out hk (fun e => ht e.symm))
      have hkk : ∀ y ∈ os ++ [(⟨xv, sb, A6, c6, sl⟩ : RM)], OwnK (w10.setCell ⟨gO, 2, none⟩ (.slice A10 (os.length + 1) c10)) w3.heap.size y := fun y hy => by
        have h8 : OwnK w6 w3.heap.size y := (List.mem_append.1 hy).elim (fun h => HK.out y h) (fun h => by rw [List.mem_singleton.1 h]; exact O6.out.o)
        exact (h8.move hkg).move (fun k cells hk => hks k cells _ (by decide) hk)
      rw [HWI.out]
      go_roundg k1
      case measure => omega
      case rel => exact ⟨i + 1, _, os ++ [⟨xv, sb, A6, c6, sl⟩], rfl, HI1, HQ1, ⟨by rw [HSN.out, List.map_append, HO.out]; rfl⟩, ⟨blk_put (cs := #[.bool nb, .slice A3 nl.length c3, .slice Ao os.length co]) BO10.out 2 _ rfl⟩, ⟨kM_move HO10.out (fun k cells hk => hks k cells _ (by decide) hk)⟩, ⟨hkk⟩, ⟨below_set HB10.out GO.out⟩⟩
    · have hi : i.toNat = rs.length := by have h1 := HI.out; have h2 := HLN.out.1; omega
      have d1 : decide (i < (N : Int)) = false := decide_eq_false hc
      have hos := HO.out
      rw [hi, List.take_length] at hos
      have hol : os.length = rs.length := by have := congrArg List.length hos; rwa [List.length_map, List.length_map] at this
      have HRP := Aside0.mk (RP.ofraw (Kd.R_reads' HU.out).2.2 (Kd.R_reads' HU.out).2.1 (fun x hx => (HK.out x hx).leads))
      rw [hos] at HRP
      have hn0 := HNO.out wr A3 Ao c3 co (O3.out.b HBr.out).r HRP.out
      rw [← hol] at hn0
      have HN0 := Aside0.mk hn0
      have BR := Aside0.mk (blk_below KR.out HBr.out)
      clear hc hi hos hol hn0
      go_wp2_with (first
        | (go_at_call 21; (with_reducible refine HN0.out.mono ?_); rintro e w6 ⟨A6, c6, B6, d6, rfl, k6, hb⟩; have BR6 := Aside0.mk (blk_below BR.out hb); have K6 := Aside0.mk k6; have HBr := Aside0.mk (below_step HBr.out hb); clear k6 hb cA cO; have cR := blk_all BR6.out; have fR := frz_all BR6.out))
      refine bodyPost_ret (results_cell_row rfl _ _ gR 27 #[.bool nb, .slice A6 nl.length c6, .slice B6 rp.length d6] (0, 0) _ rfl (blk_put3 BR6.out _ _ _) Try.underlying27 rfl (by kernel_rfl)) rfl ?_
      exact ⟨A6, c6, B6, d6, rfl, K6.out.set3 BR6.out _ _ _, below_set3 (below_step HB.out HBr.out) GR.out _ _ _⟩
end Go.Proofs.Ytdicjemjmlbmlaa.H
/- The reference's Add. -/
namespace Go.Proofs.Ytdicjemjmlbmlaa.H
set_option linter.unusedSimpArgs false
set_option linter.unusedVariables false
open Go.RowKit Go.Proofs.YtdicjemjmlbmlaaW.PrintWords Go.Proofs.YtdicjemjmlbmlaaW.PrintLast Go.Proofs.YtdicjemjmlbmlaaW.PrintMore Go.Proofs.Ytdicjemjmlbmlaa.PA Go.Proofs.Ytdicjemjmlbmlaa.V Go.Proofs.Ytdicjemjmlbmlaa.S
set_option maxHeartbeats 2000000 in
set_option maxRecDepth 100000 in
theorem q_rLAdd {w : World} {b b' : Bool} {A E A' E' : Option Addr} {c d c' d' : Nat} {l l' : List Int} {p p' : List S46} {m n : Nat} (h1 : RI w A c l) (h2 : RP w E d p) (h3 : RI w A' c' l') (h4 : RP w E' d' p') (hs : Small m n l p) (hs' : Small m n l' p') (hm : m ≤ 500) (hn : n ≤ 900) :
    Calls Try.prog 23 #[.agg #[.bool b, .slice A l.length c, .slice E p.length d], .agg #[.bool b', .slice A' l'.length c', .slice E' p'.length d']] w (AK w (addU b b' l l' p p').1 (addU b b' l l' p p').2.1 (addU b b' l l' p p').2.2) := by
  have mixed : Try.prog.follows Departure.mixedOrders = true := by kernel_rfl
  have hu27 := Try.underlying27
  have hu24 := Try.underlying24
  have hu46 := Try.underlying46
  obtain ⟨rs, hp, hr, hd⟩ := raws h2.r
  obtain ⟨ts, hp', hr', hd'⟩ := raws h4.r
  have hl := hs.len
  have hl' := hs'.len
  have hnu := hs.num
  have hnu' := hs'.num
  obtain ⟨ka, hka⟩ := (rAdd_ev b b' l l' hs.lim hs'.lim (by omega) (by omega)).rounds
  have hB : B (n + 1) (wv b l + wv b' l') := ((hs.b b).add (hs'.b b')).mono (by omega)
  have hsm : Small (m + m) (n + 1) (W (wv b l + wv b' l')).2 (p ++ p') := ⟨W_lim _, hB.len, by rw [List.length_append]; omega, fun x hx => (List.mem_append.1 hx).elim (fun h => ⟨(hs.each x h).1, by have := (hs.each x h).2; omega⟩) (fun h => ⟨(hs'.each x h).1, by have := (hs'.each x h).2; omega⟩)⟩
  have hln : rs.length = p.length := by rw [← hp, List.length_map]
  have hln' : ts.length = p'.length := by rw [← hp', List.length_map]
  have hno : ∀ (W0 : World) (A0 B0 : Option Addr) (c0 d0 : Nat), RI W0 A0 c0 (W (wv b l + wv b' l')).2 → RP W0 B0 d0 ((rs ++ ts).map toM) → Calls Try.prog 21 #[.agg #[.bool (W (wv b l + wv b' l')).1, .slice A0 (W (wv b l + wv b' l')).2.length c0, .slice B0 (rs.length + ts.length) d0]] W0 (AK W0 (addU b b' l l' p p').1 (addU b b' l l' p p').2.1 (addU b b' l l' p p').2.2) := by
    intro W0 A0 B0 c0 d0 r1 r2
    rw [List.map_append, hp, hp'] at r2
    have := q_rLNorm (b := (W (wv b l + wv b' l')).1) r1 r2 hsm (by omega) (by omega)
    rw [wv_W, List.map_append, List.length_append, ← hln, ← hln'] at this
    exact this
  have hka : gudgeonref02_Add.f ka b l b' l' = some ((W (wv b l + wv b' l')).1, (W (wv b l + wv b' l')).2) := hka
  generalize (addU b b' l l' p p').1 = rb at *
  generalize (addU b b' l l' p p').2.1 = rl at *
  generalize (addU b b' l l' p p').2.2 = rp at *
  generalize (W (wv b l + wv b' l')).1 = sb at *
  generalize (W (wv b l + wv b' l')).2 = sl at *
  have HNO := Aside0.mk hno
  have HKN := Aside0.mk hka
  have HR := Aside0.mk hr
  have HT := Aside0.mk hr'
  have HD := Aside0.mk (And.intro hd hd')
  have R1 := Aside0.mk h1
  have R2 := Aside0.mk h3
  generalize hN : p.length = N at *
  generalize hN' : p'.length = N' at *
  have HLN := Aside0.mk (show rs.length = N ∧ ts.length = N' ∧ N ≤ 500 ∧ N' ≤ 500 by omega)
  clear h1 h2 h3 h4 hr hr' hd hd' hp hp' hl hl' hnu hnu' hka hB hsm hno hln hln' hN hN' hs hs' hm hn
  go_enter Try.func23, Try.ntmps23
  go_wp2_with (first
    | ((with_reducible refine gate_dst (N := 2) rfl ?_); refine box_event ?hg (N := 2) ?hd (cs := #[.bool b, .slice A l.length c, .slice E N d]) (t := 27) ?hr ?_; (case hd => rfl); (case hg => rfl); (case hr => first | (go_simp; done) | (go_simp; rfl)); intro gA hg w1 hbox hb; have KA := Aside0.mk hbox; have HB := Aside0.mk hb; clear hg hbox hb)
    | ((with_reducible refine gate_dst (N := 3) rfl ?_); refine box_event ?hg (N := 3) ?hd (cs := #[.bool b', .slice A' l'.length c', .slice E' N' d']) (t := 27) ?hr ?_; (case hd => rfl); (case hg => rfl); (case hr => first | (go_simp; done) | (go_simp; rfl)); intro gB hg w2 hbox hb; have KA := Aside0.mk (blk_below KA.out hb); have KB := Aside0.mk hbox; have HB := Aside0.mk (below_step HB.out hb); clear hg hbox hb)
    | ((with_reducible refine gate_dst (N := 4) rfl ?_); refine box_event ?hg (N := 4) ?hd (cs := #[.bool false, .slice none 0 0, .slice none 0 0]) (t := 27) ?hr ?_; (case hd => rfl); (case hg => rfl); (case hr => first | (go_simp; done) | (go_simp; rfl)); intro gR hg w3 hbox hb; have KA := Aside0.mk (blk_below KA.out hb); have KB := Aside0.mk (blk_below KB.out hb); have cA := blk_all KA.out; have GR := Aside0.mk (show w.heap.size ≤ gR by rw [hg]; exact HB.out.size); have HB := Aside0.mk (below_step HB.out hb); have KR := Aside0.mk hbox; clear hg hbox hb)
    | ((with_reducible refine gate_builtin (b := .append) (xs := #[.const (.slice none 0 0), .tmp 7]) rfl ?_); at_builtin; refine Kd.R_append_rows kM (w0 := w) w.heap.size rfl (.const (.slice none 0 0)) (.tmp 7) 25 46 (.agg #[.int .i64 0, .bool false, .slice none 0 0]) 40 rfl Try.underlying25 infoM rfl (by decide) (by decide) (.slice none 0 0) [] rs E N d (fun _ => True) (fun _ => False) rfl rfl (Kd.R_nil _ _ _ _ _) (Kd.C_below HR.out HB.out) (fun _ _ h => h) (fun _ h => h.elim) (fun _ _ => trivial) HB.out HB.out.size (by have := HLN.out; simp only [List.length_nil]; omega) ?_; intro v4 w4 ho hb hg hat; rw [List.nil_append] at ho; obtain ⟨A4, c4, e4⟩ := Kd.R_slice ho; subst e4; have HU := Aside0.mk ho; have KA := Aside0.mk ((hg.block gA (Array.getElem?_eq_some_iff.1 KA.out).1 (fun e => by cases e)).trans KA.out); have KB := Aside0.mk ((hg.block gB (Array.getElem?_eq_some_iff.1 KB.out).1 (fun e => by cases e)).trans KB.out); have KR := Aside0.mk ((hg.block gR (Array.getElem?_eq_some_iff.1 KR.out).1 (fun e => by cases e)).trans KR.out); have HB := Aside0.mk hb; clear ho hb hg hat cA; have cA := blk_all KA.out; have cB := blk_all KB.out))
  refine start_ (n := 12) (S := fun w' => (∀ i : Nat, w'.cell? ⟨gA, i, none⟩ = (#[.bool b, .slice A l.length c, .slice E N d] : Array Value)[i]?) ∧ (∀ i : Nat, w'.cell? ⟨gB, i, none⟩ = (#[.bool b', .slice A' l'.length c', .slice E' N' d'] : Array Value)[i]?)) (ds := [11]) #[false, false, false, false, false, false, false, false, false, false, false, false] (by kernel_rfl) rfl rfl ⟨blk_all KA.out, blk_all KB.out⟩ (fun hHeld => ?_)
  refine pure_ (i := 0) (N := some 9) (v := ?_) (a' := ?_) #[true, false, false, false, false, false, false, false, false, false, false, false] rfl rfl (by kernel_rfl) (fun _ _ _ h => h) (Or.inl ⟨by rfl, ?_⟩) ?_ ?_
  rotate_left
  · intro w'
    go_simp
    with_reducible rfl
  rotate_left
  · simp only [Act.put, List.setIfInBounds_toArray, List.set_cons_zero, List.set_cons_succ, i64_w, i32_w]
    rfl
  refine pure_ (i := 2) (N := some 11) (v := ?_) (a' := ?_) #[true, false, true, false, false, false, false, false, false, false, false, false] rfl rfl (by kernel_rfl) (fun _ _ _ h => h) (Or.inl ⟨by rfl, ?_⟩) ?_ ?_
  rotate_left
  · intro w'
    go_simp
    with_reducible rfl
  rotate_left
  · simp only [Act.put, List.setIfInBounds_toArray, List.set_cons_zero, List.set_cons_succ, i64_w, i32_w]
    rfl
  refine pure_ (i := 5) (N := some 14) (v := ?_) (a' := ?_) #[true, false, true, false, false, true, false, false, false, false, false, false] rfl rfl (by kernel_rfl) (fun _ _ _ h => h) (Or.inl ⟨by rfl, ?_⟩) ?_ ?_
  rotate_left
  · intro w'
    go_simp
    with_reducible rfl
  rotate_left
  · simp only [Act.put, List.setIfInBounds_toArray, List.set_cons_zero, List.set_cons_succ, i64_w, i32_w]
    rfl
  refine pure_ (i := 6) (N := some 15) (v := ?_) (a' := ?_) #[true, false, true, false, false, true, true, false, false, false, false, false] rfl rfl (by kernel_rfl) (fun _ _ _ h => h) (Or.inl ⟨by rfl, ?_⟩) ?_ ?_
  rotate_left
  · intro w'
    go_simp
    with_reducible rfl
  rotate_left
  · simp only [Act.put, List.setIfInBounds_toArray, List.set_cons_zero, List.set_cons_succ, i64_w, i32_w]
    rfl
  refine take_ (i := 1) (N := some 10) (v := ?_) (a' := ?_) #[true, true, true, false, false, true, true, false, false, false, false, false] rfl rfl (by kernel_rfl) (fun _ _ _ h => h) (Or.inl ⟨by rfl, ?_⟩) hHeld ?_ ?_
  rotate_left
  · rintro w' ⟨s0, s1⟩
    go_simp
    with_reducible rfl
  rotate_left
  · simp only [Act.put, List.setIfInBounds_toArray, List.set_cons_zero, List.set_cons_succ, i64_w, i32_w]
    rfl
  refine take_ (i := 3) (N := some 12) (v := ?_) (a' := ?_) #[true, true, true, true, false, true, true, false, false, false, false, false] rfl rfl (by kernel_rfl) (fun _ _ _ h => h) (Or.inl ⟨by rfl, ?_⟩) hHeld ?_ ?_
  rotate_left
  · rintro w' ⟨s0, s1⟩
    go_simp
    with_reducible rfl
  rotate_left
  · simp only [Act.put, List.setIfInBounds_toArray, List.set_cons_zero, List.set_cons_succ, i64_w, i32_w]
    rfl
  refine take_ (i := 7) (N := some 16) (v := ?_) (a' := ?_) #[true, true, true, true, false, true, true, true, false, false, false, false] rfl rfl (by kernel_rfl) (fun _ _ _ h => h) (Or.inl ⟨by rfl, ?_⟩) hHeld ?_ ?_
  rotate_left
  · rintro w' ⟨s0, s1⟩
    go_simp
    with_reducible rfl
  rotate_left
  · simp only [Act.put, List.setIfInBounds_toArray, List.set_cons_zero, List.set_cons_succ, i64_w, i32_w]
    rfl
  refine one_ (i := 4) (N := some 13) #[true, true, true, true, true, true, true, true, false, false, false, false] rfl rfl (by kernel_rfl) (by decide) (fun K hK => ?_)
  refine goes_ Try.func55 (by kernel_rfl) rfl #[.agg #[.bool b, .slice A l.length c], .agg #[.bool b', .slice A' l'.length c']] (by rfl) rfl rfl (by simp only [List.map_toArray, List.map_cons, List.map_nil]; rfl) ?_
  with_reducible refine (q_rAdd (R1.out.b (below_drew1 HB.out)) (R2.out.b (below_drew1 HB.out)) HKN.out).mono ?_
  rintro e w6 ⟨A6, c6, rfl, o6, hb⟩
  have hy := below_step (below_drew1 (Below.refl w4.heap.size w4)) hb
  have O6 := Aside0.mk (OI.mk (Kd.R_lower o6.o (below_drew1 HB.out).size) : OI w6 w.heap.size A6 c6 sl)
  have KA := Aside0.mk (blk_below KA.out hy); have KB := Aside0.mk (blk_below KB.out hy); have KR := Aside0.mk (blk_below KR.out hy); have HU := Aside0.mk (Kd.R_below HU.out hy); have HB := Aside0.mk (below_step HB.out hy)
  clear o6 hb hy
  refine ⟨_, rfl, ?_⟩
  refine hK.out _ _ ⟨blk_all KA.out, blk_all KB.out⟩ (fun hHeld => ?_)
  clear hK K
  refine norm_ (a' := ?_) ?_ ?_
  rotate_left
  · show Act.put _ (some 13) _ = _
    simp only [Act.put, List.setIfInBounds_toArray, List.set_cons_zero, List.set_cons_succ, i64_w, i32_w]
    rfl
  refine one_ (i := 8) (N := some 17) #[true, true, true, true, true, true, true, true, true, false, false, false] rfl rfl (by kernel_rfl) (by decide) (fun K hK => ?_)
  have HU4 := HU
  refine Kd.R_append_rows_step kM (w0 := w) w.heap.size (by rfl) (.tmp 14) (.tmp 16) 25 46 (.agg #[.int .i64 0, .bool false, .slice none 0 0]) 40 rfl Try.underlying25 infoM rfl (by decide) (by decide) (.slice A4 rs.length c4) rs ts E' N' d' (fun _ => True) (fun _ => False) rfl rfl HU.out (Kd.C_below HT.out HB.out) (fun _ _ h => h) (fun _ h => h.elim) (fun _ _ => trivial) HB.out HB.out.size (by have := HLN.out; omega) ?_
  intro v10 w10 ho hb hg hat
  obtain ⟨A10, c10, e10⟩ := Kd.R_slice ho
  subst e10
  rw [List.length_append] at ho
  have hkg := keeps_grown hg (Kd.R_typed HU.out) (by decide)
  have O6 := Aside0.mk (OI.mk (O6.out.o.move hkg) : OI w10 w.heap.size A6 c6 sl)
  have HU := Aside0.mk ho
  have HB := Aside0.mk hb
  have KA := Aside0.mk ((hg.block gA (Array.getElem?_eq_some_iff.1 KA.out).1 (fun e => by obtain ⟨cs, hc⟩ := Kd.R_typed HU4.out gA e.symm; exact absurd rfl (box_ne KA.out hc (by decide)))).trans KA.out)
  have KB := Aside0.mk ((hg.block gB (Array.getElem?_eq_some_iff.1 KB.out).1 (fun e => by obtain ⟨cs, hc⟩ := Kd.R_typed HU4.out gB e.symm; exact absurd rfl (box_ne KB.out hc (by decide)))).trans KB.out)
  have KR := Aside0.mk ((hg.block gR (Array.getElem?_eq_some_iff.1 KR.out).1 (fun e => by obtain ⟨cs, hc⟩ := Kd.R_typed HU4.out gR e.symm; exact absurd rfl (box_ne KR.out hc (by decide)))).trans KR.out)
  clear ho hb hg hat hkg
  refine hK.out _ _ ⟨blk_all KA.out, blk_all KB.out⟩ (fun hHeld => ?_)
  clear hK K
  refine norm_ (a' := ?_) ?_ ?_
  rotate_left
  · show Act.put _ (some 17) _ = _
    simp only [Act.put, List.setIfInBounds_toArray, List.set_cons_zero, List.set_cons_succ, i64_w, i32_w]
    rfl
  refine pure_ (i := 9) (N := some 18) (v := ?_) (a' := ?_) #[true, true, true, true, true, true, true, true, true, true, false, false] rfl rfl (by kernel_rfl) (fun _ _ _ h => h) (Or.inl ⟨by rfl, ?_⟩) ?_ ?_
  rotate_left
  · intro w'
    go_simp
    with_reducible rfl
  rotate_left
  · simp only [Act.put, List.setIfInBounds_toArray, List.set_cons_zero, List.set_cons_succ, i64_w, i32_w]
    rfl
  refine one_ (i := 10) (N := some 19) #[true, true, true, true, true, true, true, true, true, true, true, false] rfl rfl (by kernel_rfl) (by decide) (fun K hK => ?_)
  refine goes_ Try.func21 (by kernel_rfl) rfl #[.agg #[.bool sb, .slice A6 sl.length c6, .slice A10 (rs.length + ts.length) c10]] (by rfl) rfl rfl (by simp only [List.map_toArray, List.map_cons, List.map_nil]; rfl) ?_
  with_reducible refine (HNO.out _ _ _ _ _ O6.out.r (RP.ofraw (Kd.R_reads' HU.out).2.2 (by rw [List.length_append]; exact (Kd.R_reads' HU.out).2.1) (fun x hx => (List.mem_append.1 hx).elim (fun h => (HD.out.1 x h).below HB.out) (fun h => (HD.out.2 x h).below HB.out)))).mono ?_
  rintro e w11 ⟨A7, c7, B7, d7, rfl, k7, hb⟩
  have KA := Aside0.mk (blk_below KA.out hb); have KB := Aside0.mk (blk_below KB.out hb); have KR := Aside0.mk (blk_below KR.out hb); have HU := Aside0.mk (Kd.R_below HU.out hb); have HB := Aside0.mk (below_step HB.out hb)
  have K7 := Aside0.mk k7
  clear k7 hb
  have cR := blk_all KR.out
  have fR := frz_all KR.out
  refine ⟨_, rfl, ?_⟩
  refine hK.out _ _ ⟨blk_all KA.out, blk_all KB.out⟩ (fun hHeld => ?_)
  clear hK K
  refine norm_ (a' := ?_) ?_ ?_
  rotate_left
  · show Act.put _ (some 19) _ = _
    simp only [Act.put, List.setIfInBounds_toArray, List.set_cons_zero, List.set_cons_succ, i64_w, i32_w]
    rfl
  refine last_ (i := 11) (N := none) #[true, true, true, true, true, true, true, true, true, true, true, true] rfl rfl (by kernel_rfl) (by decide) (fun K hK => ?_)
  refine skip_ (w1 := ?_) (by rfl) rfl ?_ ?_
  rotate_left
  · go_simp
    rfl
  refine hK.out _ _ ?_
  clear hK K
  refine done_ (by kernel_rfl) ?_

  go_wp2_with fail
  refine bodyPost_ret (results_cell_row rfl _ _ gR 27 #[.bool rb, .slice A7 rl.length c7, .slice B7 rp.length d7] (0, 0) _ rfl (blk_put3 KR.out _ _ _) Try.underlying27 rfl (by kernel_rfl)) rfl ?_
  exact ⟨A7, c7, B7, d7, rfl, K7.out.set3 KR.out _ _ _, below_set3 HB.out GR.out _ _ _⟩
end Go.Proofs.Ytdicjemjmlbmlaa.H
/- lin.Put: a sum with another one in a variable's place. -/
namespace Go.Proofs.Ytdicjemjmlbmlaa.H
set_option linter.unusedSimpArgs false
set_option linter.unusedVariables false
open Go.RowKit Go.Proofs.YtdicjemjmlbmlaaW.PrintWords Go.Proofs.YtdicjemjmlbmlaaW.PrintLast Go.Proofs.YtdicjemjmlbmlaaW.PrintMore Go.Proofs.Ytdicjemjmlbmlaa.PA Go.Proofs.Ytdicjemjmlbmlaa.V Go.Proofs.Ytdicjemjmlbmlaa.S
theorem q_ScaleO {w : World} {k : Nat} {b b' : Bool} {A B A' : Option Addr} {c d c' : Nat} {l l' : List Int} {p : List S46} {rb : Bool} {rl : List Int} {rp : List S46} (h1 : RI w A c l) (h2 : RP w B d p) (h3 : RI w A' c' l') (h : lin_Scale.f k b l p b' l' = some (rb, rl, rp)) :
    Calls Try.prog 24 #[.agg #[.bool b, .slice A l.length c, .slice B p.length d], .agg #[.bool b', .slice A' l'.length c']] w (ALo w rb rl rp) := by
  refine (lin_Scale.calls k b _ _ l _ _ p b' _ _ l' rb rl rp w h1.r h1.s h2.r h2.s h3.r h3.s h).mono ?_
  rintro e w' ⟨v1, v2, rfl, ho, hs, hb⟩
  obtain ⟨A, c, rfl⟩ := Kd.R_slice ho
  obtain ⟨B, d, rfl⟩ := Kd.S_slice hs
  exact ⟨A, c, B, d, rfl, ⟨_, Kd.R_mono ho (fun _ _ => trivial), Kd.S_mono hs (fun _ _ => trivial)⟩, hb⟩
theorem q_LAddO {w : World} {b b' : Bool} {A E A' E' : Option Addr} {c d c' d' : Nat} {l l' : List Int} {p p' : List S46} {m n : Nat} {rb : Bool} {rl : List Int} {rp : List S46} (h1 : RI w A c l) (h2 : RP w E d p) (h3 : RI w A' c' l') (h4 : RP w E' d' p') (hs : Small m n l p) (hs' : Small m n l' p') (hr : addU b b' l l' p p' = (rb, rl, rp)) (hm : m ≤ 100000) (hn : n ≤ 100000) :
    Calls Try.prog 22 #[.agg #[.bool b, .slice A l.length c, .slice E p.length d], .agg #[.bool b', .slice A' l'.length c', .slice E' p'.length d']] w (ALo w rb rl rp) := by
  have h := q_LAdd (b := b) (b' := b') h1 h2 h3 h4 hs hs' hm hn
  rw [hr] at h
  exact h
def dropV (v : Int) (p : List S46) : List S46 := p.filter (fun x => x.f0 != v)
/-- What is put together: the sum without the variable, and the other one, so many times as it has it. -/
def putU (b b' : Bool) (l l' : List Int) (p p' : List S46) (v : Int) : Bool × List Int × List S46 :=
  SU (wv b l + wv b' l' * coef (p.map prM) v) (normP ((dropV v p).map prM ++ normP (scP (coef (p.map prM) v) (p'.map prM))))
theorem filter_snoc (v : Int) (rs : List RM) (i : Int) (h0 : 0 ≤ i) (x : RM) (hx : rs[i.toNat]? = some x) : (rs.take (i + 1).toNat).filter (fun x => x.v != v) = (rs.take i.toNat).filter (fun x => x.v != v) ++ (if x.v != v then [x] else []) := by
  have := drop_at (fun x : RM => x) rs i h0 x hx
  rw [List.map_id', List.map_id'] at this
  rw [this, List.filter_append, List.filter_cons, List.filter_nil]
theorem filter_toM (v : Int) (rs : List RM) : (rs.filter (fun x => x.v != v)).map toM = dropV v (rs.map toM) := by
  unfold dropV
  rw [List.filter_map]; rfl
set_option maxHeartbeats 8000000 in
set_option maxRecDepth 100000 in
theorem q_Put {w : World} {b b' : Bool} {A E A' E' : Option Addr} {c d c' d' : Nat} {l l' : List Int} {p p' : List S46} (v : Int) {m n : Nat} (h1 : RI w A c l) (h2 : RP w E d p) (h3 : RI w A' c' l') (h4 : RP w E' d' p') (hs : Small m n l p) (hs' : Small m n l' p') (hm : m ≤ 10000) (hn : n ≤ 10000) :
    Calls Try.prog 26 #[.agg #[.bool b, .slice A l.length c, .slice E p.length d], .int .i64 v, .agg #[.bool b', .slice A' l'.length c', .slice E' p'.length d']] w (ALo w (putU b b' l l' p p' v).1 (putU b b' l l' p p' v).2.1 (putU b b' l l' p p' v).2.2) := by
  have mixed : Try.prog.follows Departure.mixedOrders = true := by kernel_rfl
  have hu27 := Try.underlying27
  have hu24 := Try.underlying24
  have hu46 := Try.underlying46
  obtain ⟨rs, hp, hr, hd⟩ := raws h2.r
  have hnu := hs.num
  have hcB : B (n + m) (coef (p.map prM) v) := (coef_B _ v hs.bq).mono (by rw [List.length_map]; omega)
  obtain ⟨ks, hks⟩ := (scale_ev (hs'.mono hm hn) (by omega) (by omega) b' (W (coef (p.map prM) v)).1 (W (coef (p.map prM) v)).2 (W_lim _) (by have := hcB.len; omega)).rounds
  rw [wv_W] at hks
  have hsB : B (n + (n + m)) (wv b' l' * coef (p.map prM) v) := (hs'.b b').mul hcB
  have hnm : BQ (n + (n + m) + m) (normP (scP (coef (p.map prM) v) (p'.map prM))) := (norm_B (scP_B hs'.bq hcB)).mono (by unfold scP; rw [List.length_map, List.length_map]; have := hs'.num; omega)
  have hs3 : Small 100000 100000 (W (wv b' l' * coef (p.map prM) v)).2 ((normP (scP (coef (p.map prM) v) (p'.map prM))).map enP) := small_SU (hsB.mono (by omega)) (Nat.le_trans (norm_len _) (by unfold scP; rw [List.length_map, List.length_map]; have := hs'.num; omega)) (hnm.mono (by omega))
  have hs2 : Small 100000 100000 l (dropV v p) := ⟨hs.lim, by have := hs.len; omega, Nat.le_trans (List.length_filter_le _ _) (by omega), fun x hx => ⟨(hs.each x (List.mem_filter.1 hx).1).1, by have := (hs.each x (List.mem_filter.1 hx).1).2; omega⟩⟩
  have had : addU b (W (wv b' l' * coef (p.map prM) v)).1 l (W (wv b' l' * coef (p.map prM) v)).2 (dropV v p) ((normP (scP (coef (p.map prM) v) (p'.map prM))).map enP) = ((putU b b' l l' p p' v).1, (putU b b' l l' p p' v).2.1, (putU b b' l l' p p' v).2.2) := by
    unfold addU putU
    rw [wv_W, map_enP]
  have hks : lin_Scale.f ks b' l' p' (W (coef (p.map prM) v)).1 (W (coef (p.map prM) v)).2 = some ((W (wv b' l' * coef (p.map prM) v)).1, (W (wv b' l' * coef (p.map prM) v)).2, (normP (scP (coef (p.map prM) v) (p'.map prM))).map enP) := hks
  generalize (putU b b' l l' p p' v).1 = rb at *
  generalize (putU b b' l l' p p' v).2.1 = rl at *
  generalize (putU b b' l l' p p' v).2.2 = rp at *
  generalize hKW : W (coef (p.map prM) v) = Kw at *
  obtain ⟨kb, kl⟩ := Kw
  generalize (normP (scP (coef (p.map prM) v) (p'.map prM))).map enP = sp at *
  generalize W (wv b' l' * coef (p.map prM) v) = Ws at *
  obtain ⟨sb, sl⟩ := Ws
  dsimp only at hks had hs3
  have hln : rs.length = p.length := by rw [← hp, List.length_map]
  have HP := Aside0.mk hp
  have HK := Aside0.mk hKW
  have HSC := Aside0.mk hks
  have HAD := Aside0.mk had
  have HS1 := Aside0.mk (hs.mono (Nat.le_refl m) (Nat.le_refl n))
  have HS2 := Aside0.mk hs2
  have HS3 := Aside0.mk hs3
  have HMN := Aside0.mk (show m ≤ 100000 ∧ n ≤ 100000 by omega)
  have HR := Aside0.mk hr
  have HD := Aside0.mk hd
  have R1 := Aside0.mk h1
  have R2 := Aside0.mk h2
  have R3 := Aside0.mk h3
  have R4 := Aside0.mk h4
  generalize hN : p.length = N at *
  have HLN := Aside0.mk (And.intro hln hnu)
  have HPN := Aside0.mk hN
  have HB := Aside0.mk (Below.refl w.heap.size w)
  clear h1 h2 h3 h4 hr hd hp hnu hcB hks hsB hnm hs3 hs2 had hKW hln hN hs hs' hm hn
  go_enter Try.func26, Try.ntmps26
  go_wp2_with (first
    | ((with_reducible refine gate_dst (N := 3) rfl ?_); refine box_event ?hg (N := 3) ?hd (cs := #[.bool b, .slice A l.length c, .slice E N d]) (t := 27) ?hr ?_; (case hd => rfl); (case hg => rfl); (case hr => first | (go_simp; done) | (go_simp; rfl)); intro gA hg w1 hbox hb; have HB := Aside0.mk (below_step HB.out hb); have KA := Aside0.mk hbox; clear hg hbox hb)
    | ((with_reducible refine gate_dst (N := 5) rfl ?_); refine box_event ?hg (N := 5) ?hd (cs := #[.bool b', .slice A' l'.length c', .slice E' p'.length d']) (t := 27) ?hr ?_; (case hd => rfl); (case hg => rfl); (case hr => first | (go_simp; done) | (go_simp; rfl)); intro gB hg w2 hbox hb; have KA := Aside0.mk (blk_below KA.out hb); have HB := Aside0.mk (below_step HB.out hb); have KB := Aside0.mk hbox; clear hg hbox hb; have HB2 := HB)
    | ((with_reducible refine gate_dst (N := 6) rfl ?_); refine box_event ?hg (N := 6) ?hd (cs := #[.bool false, .slice none 0 0, .slice none 0 0]) (t := 27) ?hr ?_; (case hd => rfl); (case hg => rfl); (case hr => first | (go_simp; done) | (go_simp; rfl)); intro gR hg w3 hbox hb; have KA := Aside0.mk (blk_below KA.out hb); have KB := Aside0.mk (blk_below KB.out hb); have HB := Aside0.mk (below_step HB.out hb); have KR := Aside0.mk hbox; have GR := Aside0.mk (show w.heap.size ≤ gR by rw [hg]; exact (below_size HB2.out)); clear hg hbox hb; have cA := blk_all KA.out)
    | ((with_reducible refine gate_dst (N := 7) rfl ?_); refine box_event ?hg (N := 7) ?hd (cs := #[.bool false, .slice none 0 0, .slice none 0 0]) (t := 27) ?hr ?_; (case hd => rfl); (case hg => rfl); (case hr => first | (go_simp; done) | (go_simp; rfl)); intro gO hg w4 hbox hb; have KO := Aside0.mk hbox; have HN := Aside0.mk hb; have GN := Aside0.mk (show w3.heap.size ≤ gO by rw [hg]; exact Nat.le_refl _); have cKA := blk_all (blk_below KA.out hb); have ngAgO : gA ≠ gO := Nat.ne_of_lt (hg ▸ blk_lt KA.out); have ngOgA : gO ≠ gA := fun e => ngAgO e.symm; have cggO := blk_all hbox; have fggO := frz_all hbox; clear hg hbox hb))
  go_loopg [16] (N + 1) (fun kq v16 wr => ∃ (i : Int) (u : Value) (os : List RM), v16 = .int .i64 i ∧ Aside0 (0 ≤ i ∧ i ≤ (N : Int)) ∧ Aside0 ((N : Int) - i < (kq : Int)) ∧ Aside0 (os = (rs.take i.toNat).filter (fun x => x.v != v)) ∧ Aside0 (wr.heap[gO]? = some (.cells #[.bool b, .slice A l.length c, u] 27 (0, 0))) ∧ Aside0 (Kd.R kM 46 wr w3.heap.size (fun _ => True) u os) ∧ Aside0 (Below w3.heap.size w3 wr))
  case atStart => exact ⟨0, _, [], rfl, ⟨Int.le_refl 0, by omega⟩, ⟨by omega⟩, ⟨rfl⟩, ⟨blk_put3 KO.out _ _ _⟩, ⟨Kd.R_nil _ _ _ _ _⟩, ⟨below_set3 HN.out GN.out _ _ _⟩⟩
  case round =>
    clear cA cKA cggO fggO ngAgO ngOgA
    obtain ⟨i, u, os, rfl, HI, HQ, HO, BO, HU, HBr⟩ := hrel
    obtain ⟨Ao, co, eu⟩ := Kd.R_slice HU.out
    subst eu
    have cO := blk_all BO.out
    cases gk with
    | zero => exact absurd HQ.out (by have := HI.out; omega)
    | succ k1 =>
    by_cases hc : i < (N : Int)
    · obtain ⟨ad, x, eA, hx, hx0, hx1, hx2⟩ := cM_at HR.out i HI.out.1 hc
      cases eA
      have hw := below_step HB.out HBr.out
      have X0 := pw_cell_below hw hx0
      have X1 := pw_cell_below hw hx1
      have X2 := pw_cell_below hw hx2
      obtain ⟨xv, xb, XA, xc, xl⟩ := x
      dsimp only at X0 X1 X2
      have hsn := filter_snoc v rs i HI.out.1 _ hx
      dsimp only at hsn
      have hwi : wrap64 (i + 1) = i + 1 := by
        have h1 := HI.out
        have h2 := HLN.out
        have h3 := HMN.out
        unfold wrap64; omega
      have HWI := Aside0.mk hwi
      have HSN := Aside0.mk hsn
      have HI1 := Aside0.mk (show 0 ≤ i + 1 ∧ i + 1 ≤ (N : Int) by have h1 := HI.out; omega)
      have HQ1 := Aside0.mk (show (N : Int) - (i + 1) < (k1 : Int) by have h1 := HQ.out; omega)
      have HOL := Aside0.mk (show os.length ≤ 1000000 by
        have h1 := List.length_filter_le (fun x : RM => x.v != v) (rs.take i.toNat)
        rw [← HO.out, List.length_take] at h1
        have h2 := HLN.out
        have h3 := HMN.out
        omega)
      have d1 : decide (i < (N : Int)) = true := decide_eq_true hc
      have d2 : decide (0 ≤ i) = true := decide_eq_true HI.out.1
      have p1 : (0 ≤ i) = True := eq_true HI.out.1
      have p2 : (i < (N : Int)) = True := eq_true hc
      clear hx0 hx1 hx2 hw hx hc hsn hwi
      by_cases hv : xv = v
      · have d3 : (xv != v) = false := bne_eq_false_iff_eq.2 hv
        have HV := Aside0.mk d3
        clear hv
        go_wp2_with (first
          | ((with_reducible refine gate_dst (N := 9) rfl ?_); refine box_event ?hg (N := 9) ?hd (cs := #[.int .i64 0, .bool false, .slice none 0 0]) (t := 46) ?hr ?_; (case hd => rfl); (case hg => rfl); (case hr => first | (go_simp; done) | (go_simp; rfl)); intro gX hg w5 hbox hb; have KX := Aside0.mk hbox; have HX := Aside0.mk hb; have GX := Aside0.mk (show wr.heap.size ≤ gX by rw [hg]; exact Nat.le_refl _); have cX := blk_all hbox; have fX := frz_all hbox; have nOX : gO ≠ gX := (by rw [hg]; exact Nat.ne_of_lt (blk_lt BO.out)); have nXO : gX ≠ gO := (fun e => nOX e.symm); have cO := blk_all (blk_below BO.out hb); clear hg hbox hb))
        rw [HWI.out]
        go_roundg k1
        case measure => omega
        case rel => exact ⟨i + 1, _, os, rfl, HI1, HQ1, ⟨by rw [HSN.out, if_neg (by rw [HV.out]; decide), List.append_nil, HO.out]⟩, ⟨blk_below BO.out (below_set3 HX.out GX.out _ _ _)⟩, ⟨Kd.R_below HU.out (below_set3 HX.out GX.out _ _ _)⟩, ⟨below_step HBr.out (below_set3 HX.out GX.out _ _ _)⟩⟩
      · have d3 : (xv != v) = true := bne_iff_ne.2 hv
        have HV := Aside0.mk d3
        clear hv
        go_wp2_with (first
          | ((with_reducible refine gate_dst (N := 9) rfl ?_); refine box_event ?hg (N := 9) ?hd (cs := #[.int .i64 0, .bool false, .slice none 0 0]) (t := 46) ?hr ?_; (case hd => rfl); (case hg => rfl); (case hr => first | (go_simp; done) | (go_simp; rfl)); intro gX hg w5 hbox hb; have KX := Aside0.mk hbox; have HX := Aside0.mk hb; have GX := Aside0.mk (show wr.heap.size ≤ gX by rw [hg]; exact Nat.le_refl _); have cX := blk_all hbox; have fX := frz_all hbox; have nOX : gO ≠ gX := (by rw [hg]; exact Nat.ne_of_lt (blk_lt BO.out)); have nXO : gX ≠ gO := (fun e => nOX e.symm); have cO := blk_all (blk_below BO.out hb); clear hg hbox hb)
          | ((with_reducible refine gate_builtin (b := .append) (xs := #[.tmp 25, .tmp 27]) rfl ?_); at_builtin; refine Kd.R_append kM (w0 := w3) w3.heap.size rfl (.tmp 25) (.tmp 27) 25 46 (.agg #[.int .i64 0, .bool false, .slice none 0 0]) 40 rfl Try.underlying25 infoM rfl (by decide) (by decide) (.slice Ao os.length co) os ⟨xv, xb, XA, xc, xl⟩ (encM ⟨xv, xb, XA, xc, xl⟩) (fun _ => True) (fun _ => False) rfl ?aX rfl (fun _ h => h.elim) (fun _ _ => trivial) ?aO ?aB ?aS ?aL ?_; (case aX => simp only [World.alloc, Array.size_push, World.size_setCell]; rfl); (case aO => exact Kd.R_below HU.out (by repeat first | exact HX.out | apply below_alloc | refine below_set ?_ GX.out)); (case aB => exact below_step HBr.out (by repeat first | exact HX.out | apply below_alloc | refine below_set ?_ GX.out)); (case aS => exact (below_step HBr.out (by repeat first | exact HX.out | apply below_alloc | refine below_set ?_ GX.out)).size); (case aL => have := HOL.out; omega); intro v10 w10 ho hb hg hat; obtain ⟨A10, c10, e10⟩ := Kd.R_slice ho; subst e10; rw [List.length_append, List.length_singleton] at ho; have HO10 := Aside0.mk ho; have HB10 := Aside0.mk hb; have BO10 := Aside0.mk ((hg.block gO (Array.getElem?_eq_some_iff.1 (blk_below BO.out (by repeat first | exact HX.out | apply below_alloc | refine below_set ?_ GX.out))).1 (fun e => by obtain ⟨cs, hc⟩ := Kd.R_typed (Kd.R_below HU.out (by repeat first | exact HX.out | apply below_alloc | refine below_set ?_ GX.out)) gO e.symm; exact absurd rfl (box_ne (blk_below BO.out (by repeat first | exact HX.out | apply below_alloc | refine below_set ?_ GX.out)) hc (by decide)))).trans (blk_below BO.out (by repeat first | exact HX.out | apply below_alloc | refine below_set ?_ GX.out))); clear ho hb hg hat cO; have cO := blk_all BO10.out; have fO := frz_all BO10.out))
        rw [HWI.out]
        go_roundg k1
        case measure => omega
        case rel => exact ⟨i + 1, _, os ++ [⟨xv, xb, XA, xc, xl⟩], rfl, HI1, HQ1, ⟨by rw [HSN.out, if_pos HV.out, HO.out]⟩, ⟨blk_put (cs := #[.bool b, .slice A l.length c, .slice Ao os.length co]) BO10.out 2 _ rfl⟩, ⟨kM_move HO10.out (fun k cells hk => Below.heap_setCell w10 ⟨gO, 2, none⟩ _ k (box_ne BO10.out hk (by decide)))⟩, ⟨below_set HB10.out GN.out⟩⟩
    · have hi : i.toNat = rs.length := by have h1 := HI.out; have h2 := HLN.out.1; omega
      have d1 : decide (i < (N : Int)) = false := decide_eq_false hc
      have hos : os = rs.filter (fun x => x.v != v) := by rw [HO.out, hi, List.take_length]
      have HOS := Aside0.mk hos
      have HW := Aside0.mk (below_step HB.out HBr.out)
      have HWR := Aside0.mk (Below.refl wr.heap.size wr)
      have KB := Aside0.mk (blk_below KB.out HBr.out)
      have KA := Aside0.mk (blk_below KA.out HBr.out)
      have KR := Aside0.mk (blk_below KR.out HBr.out)
      have cB := blk_all KB.out
      have cA := blk_all KA.out
      clear hc hi hos
      go_wp2_with fail
      refine start_ (n := 8) (S := fun w' => (∀ i : Nat, w'.cell? ⟨gO, i, none⟩ = (#[.bool b, .slice A l.length c, .slice Ao os.length co] : Array Value)[i]?) ∧ (∀ i : Nat, w'.cell? ⟨gB, i, none⟩ = (#[.bool b', .slice A' l'.length c', .slice E' p'.length d'] : Array Value)[i]?) ∧ (∀ i : Nat, w'.cell? ⟨gA, i, none⟩ = (#[.bool b, .slice A l.length c, .slice E N d] : Array Value)[i]?)) (ds := [7]) #[false, false, false, false, false, false, false, false] (by kernel_rfl) rfl rfl ⟨blk_all BO.out, blk_all KB.out, blk_all KA.out⟩ (fun hHeld => ?_)
      refine pure_ (i := 3) (N := some 34) (v := ?_) (a' := ?_) #[false, false, false, true, false, false, false, false] rfl rfl (by kernel_rfl) (fun _ _ _ h => h) (Or.inl ⟨by rfl, ?_⟩) ?_ ?_
      rotate_left
      · intro w'
        go_simp
        with_reducible rfl
      rotate_left
      · simp only [Act.put, List.setIfInBounds_toArray, List.set_cons_zero, List.set_cons_succ, i64_w, i32_w]
        rfl
      refine take_ (i := 0) (N := some 31) (v := ?_) (a' := ?_) #[true, false, false, true, false, false, false, false] rfl rfl (by kernel_rfl) (fun _ _ _ h => h) (Or.inl ⟨by rfl, ?_⟩) hHeld ?_ ?_
      rotate_left
      · rintro w' ⟨s0, s1, s2⟩
        go_simp
        with_reducible rfl
      rotate_left
      · simp only [Act.put, List.setIfInBounds_toArray, List.set_cons_zero, List.set_cons_succ, i64_w, i32_w]
        rfl
      refine take_ (i := 1) (N := some 32) (v := ?_) (a' := ?_) #[true, true, false, true, false, false, false, false] rfl rfl (by kernel_rfl) (fun _ _ _ h => h) (Or.inl ⟨by rfl, ?_⟩) hHeld ?_ ?_
      rotate_left
      · rintro w' ⟨s0, s1, s2⟩
        go_simp
        with_reducible rfl
      rotate_left
      · simp only [Act.put, List.setIfInBounds_toArray, List.set_cons_zero, List.set_cons_succ, i64_w, i32_w]
        rfl
      refine take_ (i := 2) (N := some 33) (v := ?_) (a' := ?_) #[true, true, true, true, false, false, false, false] rfl rfl (by kernel_rfl) (fun _ _ _ h => h) (Or.inl ⟨by rfl, ?_⟩) hHeld ?_ ?_
      rotate_left
      · rintro w' ⟨s0, s1, s2⟩
        go_simp
        with_reducible rfl
      rotate_left
      · simp only [Act.put, List.setIfInBounds_toArray, List.set_cons_zero, List.set_cons_succ, i64_w, i32_w]
        rfl
      refine one_ (i := 4) (N := some 35) #[true, true, true, true, true, false, false, false] rfl rfl (by kernel_rfl) (by decide) (fun K hK => ?_)
      refine goes_ Try.func28 (by kernel_rfl) rfl #[.agg #[.bool b, .slice A l.length c, .slice E N d], .int .i64 v] (by rfl) rfl rfl (by simp only [List.map_toArray, List.map_cons, List.map_nil]; rfl) ?_
      have hN := q_At (b := b) v (R1.out.b (below_drew1 HW.out)) (R2.out.b (below_drew1 HW.out)) HS1.out HMN.out.1 HMN.out.2
      rw [HK.out, HPN.out] at hN
      dsimp only at hN
      refine hN.mono ?_
      clear hN
      rintro e wa ⟨Ak, ck, rfl, rk, hb⟩
      have hy := below_step (below_drew1 (Below.refl wr.heap.size wr)) hb
      have BO := Aside0.mk (blk_below BO.out hy); have KB := Aside0.mk (blk_below KB.out hy); have KA := Aside0.mk (blk_below KA.out hy); have KR := Aside0.mk (blk_below KR.out hy); have HW := Aside0.mk (below_step HW.out hy); have HWR := Aside0.mk (below_step HWR.out hy)
      have RK := Aside0.mk rk
      clear rk hb hy
      refine ⟨_, rfl, ?_⟩
      refine hK.out _ _ ⟨blk_all BO.out, blk_all KB.out, blk_all KA.out⟩ (fun hHeld => ?_)
      clear hK K
      refine norm_ (a' := ?_) ?_ ?_
      rotate_left
      · show Act.put _ (some 35) _ = _
        simp only [Act.put, List.setIfInBounds_toArray, List.set_cons_zero, List.set_cons_succ, i64_w, i32_w]
        rfl
      refine one_ (i := 5) (N := some 36) #[true, true, true, true, true, true, false, false] rfl rfl (by kernel_rfl) (by decide) (fun K hK => ?_)
      refine goes_ Try.func24 (by kernel_rfl) rfl #[.agg #[.bool b', .slice A' l'.length c', .slice E' p'.length d'], .agg #[.bool kb, .slice Ak kl.length ck]] (by rfl) rfl rfl (by simp only [List.map_toArray, List.map_cons, List.map_nil]; rfl) ?_
      with_reducible refine (q_ScaleO (R3.out.b HW.out) (R4.out.b HW.out) RK.out HSC.out).mono ?_
      rintro e wb ⟨As, cs, Bs, ds, rfl, os_, hb⟩
      have BO := Aside0.mk (blk_below BO.out hb); have KB := Aside0.mk (blk_below KB.out hb); have KA := Aside0.mk (blk_below KA.out hb); have KR := Aside0.mk (blk_below KR.out hb); have HW := Aside0.mk (below_step HW.out hb); have HWR := Aside0.mk (below_step HWR.out hb)
      have RS := Aside0.mk os_.i
      have PS := Aside0.mk os_.p
      clear os_ hb RK
      refine ⟨_, rfl, ?_⟩
      refine hK.out _ _ ⟨blk_all BO.out, blk_all KB.out, blk_all KA.out⟩ (fun hHeld => ?_)
      clear hK K
      refine norm_ (a' := ?_) ?_ ?_
      rotate_left
      · show Act.put _ (some 36) _ = _
        simp only [Act.put, List.setIfInBounds_toArray, List.set_cons_zero, List.set_cons_succ, i64_w, i32_w]
        rfl
      refine one_ (i := 6) (N := some 37) #[true, true, true, true, true, true, true, false] rfl rfl (by kernel_rfl) (by decide) (fun K hK => ?_)
      refine goes_ Try.func22 (by kernel_rfl) rfl #[.agg #[.bool b, .slice A l.length c, .slice Ao os.length co], .agg #[.bool sb, .slice As sl.length cs, .slice Bs sp.length ds]] (by rfl) rfl rfl (by simp only [List.map_toArray, List.map_cons, List.map_nil]; rfl) ?_
      have he : os.map toM = dropV v p := by rw [HOS.out, filter_toM, HP.out]
      have hP := RP.ofraw (Kd.C_below (Kd.R_reads' HU.out).2.2 HWR.out) (Kd.R_reads' HU.out).2.1 (fun x hx => (HD.out x ((List.mem_filter.1 (show x ∈ rs.filter (fun x => x.v != v) from HOS.out ▸ hx)).1)).below HW.out)
      rw [he] at hP
      have hN := q_LAddO (R1.out.b HW.out) hP RS.out PS.out HS2.out HS3.out HAD.out (by decide) (by decide)
      rw [← he, List.length_map] at hN
      refine hN.mono ?_
      clear hN he hP
      rintro e wc ⟨AD, cD, BD, dD, rfl, oD, hb⟩
      have BO := Aside0.mk (blk_below BO.out hb); have KB := Aside0.mk (blk_below KB.out hb); have KA := Aside0.mk (blk_below KA.out hb); have KR := Aside0.mk (blk_below KR.out hb); have HW := Aside0.mk (below_step HW.out hb); have HWR := Aside0.mk (below_step HWR.out hb)
      have OD := Aside0.mk oD
      clear oD hb
      have cR := blk_all KR.out
      have fR := frz_all KR.out
      refine ⟨_, rfl, ?_⟩
      refine hK.out _ _ ⟨blk_all BO.out, blk_all KB.out, blk_all KA.out⟩ (fun hHeld => ?_)
      clear hK K
      refine norm_ (a' := ?_) ?_ ?_
      rotate_left
      · show Act.put _ (some 37) _ = _
        simp only [Act.put, List.setIfInBounds_toArray, List.set_cons_zero, List.set_cons_succ, i64_w, i32_w]
        rfl
      refine last_ (i := 7) (N := none) #[true, true, true, true, true, true, true, true] rfl rfl (by kernel_rfl) (by decide) (fun K hK => ?_)
      refine skip_ (w1 := ?_) (by rfl) rfl ?_ ?_
      rotate_left
      · go_simp
        rfl
      refine hK.out _ _ ?_
      clear hK K
      refine done_ (by kernel_rfl) ?_

      go_wp2_with fail
      refine bodyPost_ret (results_cell_row rfl _ _ gR 27 #[.bool rb, .slice AD rl.length cD, .slice BD rp.length dD] (0, 0) _ rfl (blk_put3 KR.out _ _ _) Try.underlying27 rfl (by kernel_rfl)) rfl ?_
      exact ⟨AD, cD, BD, dD, rfl, OD.out.set3 KR.out _ _ _, below_set3 HW.out GR.out _ _ _⟩
end Go.Proofs.Ytdicjemjmlbmlaa.H
/- What comes in: small enough. -/
namespace Go.Proofs.Ytdicjemjmlbmlaa.S
set_option linter.unusedVariables false
set_option linter.unusedSimpArgs false
open Go.RowKit Go.Proofs.Ytdicjemjmlbmlaa.V Go.Proofs.Ytdicjemjmlbmlaa.PA Go.Proofs.Ytdicjemjmlbmlaa.H Go.Proofs.YtdicjemjmlbmlaaW.PrintWords Go.Proofs.YtdicjemjmlbmlaaW.PrintLast Go.Proofs.YtdicjemjmlbmlaaW.PrintMore

theorem limT_mk {n : Nat} {l : List Int} (h : Lim l) (hl : l.length ≤ n) (hn : n ≤ 10000) : limT l = true := by
  unfold limT
  rw [limB_mk h (by omega), decide_eq_true (show l.length ≤ 10000 by omega)]; rfl
theorem Small.guardT {m n : Nat} {l1 : List Int} {l2 : List S46} (h : Small m n l1 l2) (hm : m ≤ 10000) (hn : n ≤ 10000) (h1x : (normP (l2.map prM)).all (fun x => decide (az x.2 < 4294967296)) = true) : guardT l1 l2 = true := by
  have h2 := h.num
  unfold H.guardT
  rw [h1x, Bool.and_true]
  rw [limT_mk h.lim h.len hn, decide_eq_true (show l2.length ≤ 10000 by omega), Bool.true_and, Bool.true_and, List.all_eq_true]
  exact fun x hx => limT_mk (h.each x hx).1 (h.each x hx).2 hn
theorem tight_ev {m n : Nat} {l1 : List Int} {l2 : List S46} (h : Small m n l1 l2) (hm : m ≤ 10000) (hn : n ≤ 10000) (h1x : (normP (l2.map prM)).all (fun x => decide (az x.2 < 4294967296)) = true) (b : Bool) : lin_Tight.f b l1 l2 = some (OU (tightP (wv b l1) (normP (l2.map prM)))) := if_pos (h.guardT hm hn h1x)
theorem even_ev {m n : Nat} {l1 : List Int} {l2 : List S46} (h : Small m n l1 l2) (hm : m ≤ 10000) (hn : n ≤ 10000) (h1x : (normP (l2.map prM)).all (fun x => decide (az x.2 < 4294967296)) = true) (b : Bool) : lin_Even.f b l1 l2 = some (OU (evenP (wv b l1) (normP (l2.map prM)))) := if_pos (h.guardT hm hn h1x)
/-! ### small enough -/
def lightB (l1 : List Int) (l2 : List S46) : Bool := decide (l2.length ≤ 20) && decide (l1.length ≤ 8) && l2.all (fun x => decide (x.f1.f1.length ≤ 8))
theorem light_l0 (b : Bool) (l1 : List Int) (l2 : List S46) (hl : l2.length ≤ 20) : ∀ d i, i + d = l2.length → Ev (fun k => gudgeonref13_Light.l0 k 8 (i : Int) b l1 l2) ((l2.drop i).all (fun x => decide (x.f1.f1.length ≤ 8))) := by
  intro d
  induction d with
  | zero =>
    intro i hi
    refine Ev.step (fun k => by rw [gudgeonref13_Light.l0]) (evN (by omega) (evR ?_))
    rw [List.drop_eq_nil_of_le (by omega)]; rfl
  | succ d ih =>
    intro i hi
    have hi' : i < l2.length := by omega
    refine Ev.step (fun k => by rw [gudgeonref13_Light.l0]) (evP (by omega) (evP (by omega) ?_))
    rw [rdM l2 i hi', List.drop_eq_getElem_cons hi', List.all_cons]
    by_cases h : (l2[i].f1.f1.length : Int) > 8
    · refine evP h (evR ?_)
      rw [decide_eq_false (by omega), Bool.false_and]
    · refine evN h ?_
      rw [wnext (by omega), decide_eq_true (by omega), Bool.true_and]
      exact ih (i + 1) (by omega)
theorem rlight_ev (b : Bool) (l1 : List Int) (l2 : List S46) : Ev (fun k => gudgeonref13_Light.f k b l1 l2 20 8) (lightB l1 l2) := by
  unfold lightB
  refine Ev.congr (fun k => rfl) ?_
  by_cases h1 : (l2.length : Int) > 20
  · refine evP h1 (Ev.step (fun k => by rw [gudgeonref13_Light.j0]) (evP rfl (evR ?_)))
    rw [decide_eq_false (show ¬l2.length ≤ 20 by omega), Bool.false_and, Bool.false_and]
  · refine evN h1 ?_
    rw [decide_eq_true (show l2.length ≤ 20 by omega), Bool.true_and]
    by_cases h2 : (l1.length : Int) > 8
    · rw [decide_eq_true h2, decide_eq_false (show ¬l1.length ≤ 8 by omega), Bool.false_and]
      exact Ev.step (fun k => by rw [gudgeonref13_Light.j0]) (evP rfl (evR rfl))
    · rw [decide_eq_false h2, decide_eq_true (show l1.length ≤ 8 by omega), Bool.true_and]
      refine Ev.step (fun k => by rw [gudgeonref13_Light.j0]) (evN Bool.false_ne_true ?_)
      exact light_l0 b l1 l2 (by omega) l2.length 0 (by omega)
theorem light_ev (b b2 : Bool) (l1 l3 : List Int) (l2 l4 : List S46) : Ev (fun k => gudgeonlaw13_light.f k b l1 l2 b2 l3 l4) (lightB l1 l2 && lightB l3 l4) := by
  refine Ev.congr (fun k => rfl) (Ev.bind (rlight_ev b l1 l2) (Ev.bind (rlight_ev b2 l3 l4) ?_))
  cases lightB l1 l2 with
  | true => exact evP rfl (evR rfl)
  | false => exact evN Bool.false_ne_true (evR rfl)
theorem small_of {l1 : List Int} {l2 : List S46} (h : lightB l1 l2 = true) (h1 : Lim l1) (h2 : ∀ x ∈ l2, Lim x.f1.f1) : Small 20 8 l1 l2 := by
  unfold lightB at h
  rw [Bool.and_eq_true, Bool.and_eq_true, decide_eq_true_eq, decide_eq_true_eq, List.all_eq_true] at h
  obtain ⟨⟨h3, h4⟩, h5⟩ := h
  exact ⟨h1, h4, h3, fun x hx => ⟨h2 x hx, of_decide_eq_true (h5 x hx)⟩⟩
end Go.Proofs.Ytdicjemjmlbmlaa.S
/- The examples. -/
namespace Go.Proofs.Ytdicjemjmlbmlaa.S
set_option linter.unusedVariables false
set_option linter.unusedSimpArgs false
open Go.RowKit Go.Proofs.Ytdicjemjmlbmlaa.V Go.Proofs.Ytdicjemjmlbmlaa.PA Go.Proofs.Ytdicjemjmlbmlaa.H Go.Proofs.YtdicjemjmlbmlaaW.PrintWords Go.Proofs.YtdicjemjmlbmlaaW.PrintLast Go.Proofs.YtdicjemjmlbmlaaW.PrintMore

theorem small_dec {l1 : List Int} {l2 : List S46} (h : (lightB l1 l2 && limB l1 && l2.all (fun x => limB x.f1.f1)) = true) : Small 20 8 l1 l2 := by
  rw [Bool.and_eq_true, Bool.and_eq_true, List.all_eq_true] at h
  exact small_of h.1.1 (limB_of h.1.2).2 (fun x hx => (limB_of (h.2 x hx)).2)
theorem dig_lit {x : Int} (h0 : 0 < x) (h1 : x < 4294967296) : dig x = [x] := by
  have h : Lim [x] := fun y hy => by rw [List.mem_singleton.1 hy]; omega
  have := dig_val_of_last h (by intro _; simp; omega)
  rwa [show val [x] = x by simp [val]] at this
theorem W_pos {x : Int} (h0 : 0 < x) (h1 : x < 4294967296) : W x = (false, [x]) := by
  unfold W az
  rw [if_neg (by omega), decide_eq_false (by omega), dig_lit h0 h1]
theorem W_neg {x : Int} (h0 : 0 < x) (h1 : x < 4294967296) : W (-x) = (true, [x]) := by
  unfold W az
  rw [if_pos (by omega), decide_eq_true (by omega), Int.neg_neg, dig_lit h0 h1]
theorem sum1 : Ev (fun k => gudgeonlaw13_sum.f k 7 4 6) (false, [7], [⟨0, ⟨false, [4]⟩⟩, ⟨1, ⟨false, [6]⟩⟩]) := Ev.of (fun k => gudgeonlaw13_sum.mono _ _ _ k) (k := 300) (by kernel_rfl)
theorem sum2 : Ev (fun k => gudgeonlaw13_sum.f k 6 (-2) 4) (false, [6], [⟨0, ⟨true, [2]⟩⟩, ⟨1, ⟨false, [4]⟩⟩]) := Ev.of (fun k => gudgeonlaw13_sum.mono _ _ _ k) (k := 300) (by kernel_rfl)
theorem sum3 : Ev (fun k => gudgeonlaw13_sum.f k 3 2 3) (false, [3], [⟨0, ⟨false, [2]⟩⟩, ⟨1, ⟨false, [3]⟩⟩]) := Ev.of (fun k => gudgeonlaw13_sum.mono _ _ _ k) (k := 300) (by kernel_rfl)
theorem sum4 : Ev (fun k => gudgeonlaw13_sum.f k (-3) 1 (-2)) (true, [3], [⟨0, ⟨false, [1]⟩⟩, ⟨1, ⟨true, [2]⟩⟩]) := Ev.of (fun k => gudgeonlaw13_sum.mono _ _ _ k) (k := 300) (by kernel_rfl)
theorem of1 : Ev (fun k => gudgeonref02_Of.f k 1) (false, [1]) := Ev.of (fun k => gudgeonref02_Of.mono _ k) (k := 300) (by kernel_rfl)
theorem of2 : Ev (fun k => gudgeonref02_Of.f k 2) (false, [2]) := Ev.of (fun k => gudgeonref02_Of.mono _ k) (k := 300) (by kernel_rfl)
theorem tight1 : lin_Tight.f false [7] [⟨0, ⟨false, [4]⟩⟩, ⟨1, ⟨false, [6]⟩⟩] = some (false, [3], [⟨0, ⟨false, [2]⟩⟩, ⟨1, ⟨false, [3]⟩⟩], 0) := by
  have h := tight_ev (m := 20) (n := 8) (l1 := [7]) (l2 := [⟨0, ⟨false, [4]⟩⟩, ⟨1, ⟨false, [6]⟩⟩]) (small_dec (by decide +kernel)) (by omega) (by omega) (by decide +kernel) false
  have e : tightP (wv false [7]) (normP ([(⟨0, ⟨false, [4]⟩⟩ : S46), ⟨1, ⟨false, [6]⟩⟩].map prM)) = (3, [(0, 2), (1, 3)], 0) := by decide +kernel
  rw [e] at h
  have e2 : OU (3, [(0, 2), (1, 3)], 0) = (false, [3], [⟨0, ⟨false, [2]⟩⟩, ⟨1, ⟨false, [3]⟩⟩], 0) := by
    simp only [OU, enP, List.map_cons, List.map_nil, W_pos (x := 3) (by omega) (by omega), W_pos (x := 2) (by omega) (by omega)]
  rw [e2] at h
  exact h
theorem even1 : lin_Even.f false [6] [⟨0, ⟨true, [2]⟩⟩, ⟨1, ⟨false, [4]⟩⟩] = some (true, [3], [⟨0, ⟨false, [1]⟩⟩, ⟨1, ⟨true, [2]⟩⟩], 0) := by
  have h := even_ev (m := 20) (n := 8) (l1 := [6]) (l2 := [⟨0, ⟨true, [2]⟩⟩, ⟨1, ⟨false, [4]⟩⟩]) (small_dec (by decide +kernel)) (by omega) (by omega) (by decide +kernel) false
  have e : evenP (wv false [6]) (normP ([(⟨0, ⟨true, [2]⟩⟩ : S46), ⟨1, ⟨false, [4]⟩⟩].map prM)) = (-3, [(0, 1), (1, -2)], 0) := by decide +kernel
  rw [e] at h
  have e2 : OU (-3, [(0, 1), (1, -2)], 0) = (true, [3], [⟨0, ⟨false, [1]⟩⟩, ⟨1, ⟨true, [2]⟩⟩], 0) := by
    simp only [OU, enP, List.map_cons, List.map_nil, W_neg (x := 3) (by omega) (by omega), W_pos (x := 1) (by omega) (by omega), W_neg (x := 2) (by omega) (by omega)]
  rw [e2] at h
  exact h
theorem even2 : lin_Even.f false [1] [⟨0, ⟨false, [2]⟩⟩] = some (OU (1, [(0, 2)], -1)) := by
  have h := even_ev (m := 20) (n := 8) (l1 := [1]) (l2 := [⟨0, ⟨false, [2]⟩⟩]) (small_dec (by decide +kernel)) (by omega) (by omega) (by decide +kernel) false
  have e : evenP (wv false [1]) (normP ([(⟨0, ⟨false, [2]⟩⟩ : S46)].map prM)) = (1, [(0, 2)], -1) := by decide +kernel
  rw [e] at h
  exact h
/-- What the examples' calls answer. -/
theorem awake_facts : ∃ k1 k2 k3 k4 k5 k6 b1 l1 p1 b2 l2 p2 b3 l3 b4 l4 b5 l5 p5 b6 l6 p6 zb zl zp,
    gudgeonlaw13_sum.f k1 7 4 6 = some (b1, l1, p1) ∧ gudgeonlaw13_sum.f k2 6 (-2) 4 = some (b2, l2, p2) ∧ gudgeonref02_Of.f k3 1 = some (b3, l3) ∧ gudgeonref02_Of.f k4 2 = some (b4, l4) ∧
    gudgeonlaw13_sum.f k5 3 2 3 = some (b5, l5, p5) ∧ gudgeonlaw13_sum.f k6 (-3) 1 (-2) = some (b6, l6, p6) ∧
    lin_Tight.f b1 l1 p1 = some (b5, l5, p5, 0) ∧ lin_Even.f b2 l2 p2 = some (b6, l6, p6, 0) ∧ lin_Even.f b3 l3 [⟨0, ⟨b4, l4⟩⟩] = some (zb, zl, zp, -1) ∧ OkS l5 p5 ∧ OkS l6 p6 := by
  obtain ⟨k1, h1⟩ := sum1.rounds
  obtain ⟨k2, h2⟩ := sum2.rounds
  obtain ⟨k3, h3⟩ := of1.rounds
  obtain ⟨k4, h4⟩ := of2.rounds
  obtain ⟨k5, h5⟩ := sum3.rounds
  obtain ⟨k6, h6⟩ := sum4.rounds
  exact ⟨k1, k2, k3, k4, k5, k6, _, _, _, _, _, _, _, _, _, _, _, _, _, _, _, _, _, _, _, h1, h2, h3, h4, h5, h6, tight1, even1, even2, ⟨by decide, by decide, by decide⟩, ⟨by decide, by decide, by decide⟩⟩
end Go.Proofs.Ytdicjemjmlbmlaa.S
/- The reference's Put. -/
namespace Go.Proofs.Ytdicjemjmlbmlaa.H
set_option linter.unusedSimpArgs false
set_option linter.unusedVariables false
open Go.RowKit Go.Proofs.YtdicjemjmlbmlaaW.PrintWords Go.Proofs.YtdicjemjmlbmlaaW.PrintLast Go.Proofs.YtdicjemjmlbmlaaW.PrintMore Go.Proofs.Ytdicjemjmlbmlaa.PA Go.Proofs.Ytdicjemjmlbmlaa.V Go.Proofs.Ytdicjemjmlbmlaa.S
theorem q_rNeg {w : World} {k : Nat} {b : Bool} {A : Option Addr} {c : Nat} {l : List Int} {rb : Bool} {rl : List Int} (h1 : RI w A c l) (h : gudgeonref02_Neg.f k b l = some (rb, rl)) : Calls Try.prog 61 #[.agg #[.bool b, .slice A l.length c]] w (AO w rb rl) := (gudgeonref02_Neg.calls k b A c l rb rl w h1.r h1.s h).mono (fun _ _ h => AO.of h)
theorem q_rAtz {w : World} {b : Bool} {A B0 : Option Addr} {c d : Nat} {l : List Int} {p : List S46} {v : Int} {kb : Bool} {kl : List Int} (h1 : RI w A c l) (h2 : RP w B0 d p) (h : Small 20 8 l p ∧ W (coef (p.map prM) v) = (kb, kl)) :
    Calls Try.prog 29 #[.agg #[.bool b, .slice A l.length c, .slice B0 p.length d], .int .i64 v] w (AO w kb kl) := by
  have := q_rAt (b := b) v h1 h2 h.1 (by decide) (by decide)
  rw [h.2] at this
  exact this
theorem rOf1 : ∃ k, gudgeonref02_Of.f k 1 = some ((W 1).1, (W 1).2) := by
  have h : Ev (fun k => gudgeonref02_Of.f k 1) (false, [1]) := Ev.of (fun k => gudgeonref02_Of.mono _ k) (k := 300) (by kernel_rfl)
  rw [W_pos (by decide) (by decide)]
  exact h.rounds
theorem coef_scP (z : Int) : ∀ (p : List (Int × Int)) (u : Int), coef (scP z p) u = coef p u * z
  | [], u => by simp [scP, coef]
  | q :: r, u => by
    have ih := coef_scP z r u
    unfold scP at ih ⊢
    rw [List.map_cons]
    show (if q.1 = u then q.2 * z else 0) + _ = ((if q.1 = u then q.2 else 0) + coef r u) * z
    rw [ih, Int.add_mul]
    split <;> simp
theorem coef_drop (v : Int) : ∀ (p : List S46) (u : Int), coef ((dropV v p).map prM) u = if u = v then 0 else coef (p.map prM) u
  | [], u => by simp [dropV, coef]
  | q :: r, u => by
    have ih := coef_drop v r u
    unfold dropV at ih ⊢
    rw [List.filter_cons, List.map_cons, show coef (prM q :: r.map prM) u = (if q.f0 = u then (prM q).2 else 0) + coef (r.map prM) u from rfl]
    by_cases hq : q.f0 = v
    · rw [if_neg (by simp [hq]), ih]
      by_cases hu : u = v
      · rw [if_pos hu, if_pos hu]
      · rw [if_neg hu, if_neg hu, if_neg (fun e => hu (e.symm.trans hq))]; omega
    · rw [if_pos (by simp [hq]), List.map_cons, show ∀ t, coef (prM q :: t) u = (if q.f0 = u then (prM q).2 else 0) + coef t u from fun _ => rfl, ih]
      by_cases hu : u = v
      · rw [if_pos hu, if_pos hu, if_neg (fun e => hq (e.trans hu))]; rfl
      · rw [if_neg hu, if_neg hu]
def offP (v z : Int) : List (Int × Int) := normP (scP 1 [(v, -z)])
/-- The two ways come to the same. -/
theorem put_same (v : Int) (p p' : List S46) : normP ((normP (p.map prM ++ offP v (coef (p.map prM) v))) ++ normP (scP (coef (p.map prM) v) (p'.map prM))) = normP ((dropV v p).map prM ++ normP (scP (coef (p.map prM) v) (p'.map prM))) := by
  refine norm_of (fun u => ?_)
  rw [coef_append, coef_append, coef_norm, coef_append, coef_drop]
  unfold offP
  rw [coef_norm, coef_scP]
  show _ + ((if v = u then -coef (p.map prM) v else 0) + 0) * 1 + _ = _
  by_cases hu : u = v
  · subst hu; rw [if_pos rfl, if_pos rfl]; omega
  · rw [if_neg hu, if_neg (fun e => hu e.symm)]; omega
set_option maxHeartbeats 2000000 in
set_option maxRecDepth 100000 in
theorem q_rPut {w : World} {b b' : Bool} {A E A' E' : Option Addr} {c d c' d' : Nat} {l l' : List Int} {p p' : List S46} (v : Int) (h1 : RI w A c l) (h2 : RP w E d p) (h3 : RI w A' c' l') (h4 : RP w E' d' p') (hs : Small 20 8 l p) (hs' : Small 20 8 l' p') :
    Calls Try.prog 27 #[.agg #[.bool b, .slice A l.length c, .slice E p.length d], .int .i64 v, .agg #[.bool b', .slice A' l'.length c', .slice E' p'.length d']] w (AK w (putU b b' l l' p p' v).1 (putU b b' l l' p p' v).2.1 (putU b b' l l' p p' v).2.2) := by
  have mixed : Try.prog.follows Departure.mixedOrders = true := by kernel_rfl
  have hu27 := Try.underlying27
  have hu24 := Try.underlying24
  have hu46 := Try.underlying46
  have hnu := hs.num
  have hnu' := hs'.num
  have hz : B 28 (coef (p.map prM) v) := (coef_B _ v hs.bq).mono (by rw [List.length_map]; omega)
  have hputs : putU b b' l l' p p' v = SU (wv b l + wv b' l' * coef (p.map prM) v) (normP ((normP (p.map prM ++ offP v (coef (p.map prM) v))) ++ normP (scP (coef (p.map prM) v) (p'.map prM)))) := by rw [put_same]; rfl
  rw [hputs]
  clear hputs
  have hoB : BQ 30 (offP v (coef (p.map prM) v)) := (norm_B (scP_B (m := 28) (n := 1) (fun x hx => by rw [List.mem_singleton.1 hx]; exact hz.neg) (by unfold B; exact dig_length_le (az_nonneg _) (by decide)))).mono (by simp [scP])
  have hol : (offP v (coef (p.map prM) v)).length ≤ 1 := Nat.le_trans (norm_len _) (by simp [scP])
  have hqB : BQ 51 (normP (p.map prM ++ offP v (coef (p.map prM) v))) := (norm_B (n := 30) (fun x hx => (List.mem_append.1 hx).elim (fun h => (hs.bq x h).mono (by decide)) (fun h => hoB x h))).mono (by rw [List.length_append, List.length_map]; omega)
  have hql : (normP (p.map prM ++ offP v (coef (p.map prM) v))).length ≤ 21 := Nat.le_trans (norm_len _) (by rw [List.length_append, List.length_map]; omega)
  have hsB : BQ 56 (normP (scP (coef (p.map prM) v) (p'.map prM))) := (norm_B (scP_B hs'.bq hz)).mono (by unfold scP; rw [List.length_map, List.length_map]; omega)
  have hsl : (normP (scP (coef (p.map prM) v) (p'.map prM))).length ≤ 20 := Nat.le_trans (norm_len _) (by unfold scP; rw [List.length_map, List.length_map]; omega)
  have hcB : B 36 (wv b' l' * coef (p.map prM) v) := (hs'.b b').mul hz
  obtain ⟨kn, hkn⟩ := (rNeg_ev (W (coef (p.map prM) v)).1 (W (coef (p.map prM) v)).2 (W_lim _) (Nat.le_trans hz.len (by decide))).rounds
  rw [wv_W] at hkn
  obtain ⟨ko, hko⟩ := rOf1
  -- what the calls answer
  have hSF : ∀ (W0 : World) (B0 A1 : Option Addr) (d0 c1 : Nat), RP W0 B0 d0 [(⟨v, ⟨(W (-coef (p.map prM) v)).1, (W (-coef (p.map prM) v)).2⟩⟩ : S46)] → RI W0 A1 c1 (W 1).2 → Calls Try.prog 25 #[.agg #[.bool false, .slice none 0 0, .slice B0 1 d0], .agg #[.bool (W 1).1, .slice A1 (W 1).2.length c1]] W0 (AK W0 (W 0).1 (W 0).2 ((offP v (coef (p.map prM) v)).map enP)) := by
    intro W0 B0 A1 d0 c1 r1 r2
    have hsm : Small 1 28 [] [(⟨v, ⟨(W (-coef (p.map prM) v)).1, (W (-coef (p.map prM) v)).2⟩⟩ : S46)] := ⟨Lim.nil, Nat.zero_le _, Nat.le_refl _, fun x hx => by rw [List.mem_singleton.1 hx]; exact ⟨W_lim _, hz.neg.len⟩⟩
    have := q_rScale (b := false) (b' := (W 1).1) (RI.nil W0) r1 r2 hsm (W_lim 1) (by rw [W_pos (by decide) (by decide)]; decide) (by decide) (by decide)
    rw [wv_W, show wv false [] * 1 = 0 from rfl, show ([(⟨v, ⟨(W (-coef (p.map prM) v)).1, (W (-coef (p.map prM) v)).2⟩⟩ : S46)].map prM) = [(v, -coef (p.map prM) v)] from congrArg (fun z => [z]) (prM_enP (v, -coef (p.map prM) v))] at this
    exact this
  have hSB : ∀ (W0 : World) (A0 B0 A1 : Option Addr) (c0 d0 c1 : Nat), RI W0 A0 c0 l' → RP W0 B0 d0 p' → RI W0 A1 c1 (W (coef (p.map prM) v)).2 → Calls Try.prog 25 #[.agg #[.bool b', .slice A0 l'.length c0, .slice B0 p'.length d0], .agg #[.bool (W (coef (p.map prM) v)).1, .slice A1 (W (coef (p.map prM) v)).2.length c1]] W0 (AK W0 (W (wv b' l' * coef (p.map prM) v)).1 (W (wv b' l' * coef (p.map prM) v)).2 ((normP (scP (coef (p.map prM) v) (p'.map prM))).map enP)) := by
    intro W0 A0 B0 A1 c0 d0 c1 r1 r2 r3
    have := q_rScale (b := b') (b' := (W (coef (p.map prM) v)).1) r1 r2 r3 (hs'.mono (Nat.le_refl 20) (show 8 ≤ 28 by decide)) (W_lim _) hz.len (by decide) (by decide)
    rw [wv_W] at this
    exact this
  have hof : Small 500 900 (W 0).2 ((offP v (coef (p.map prM) v)).map enP) := small_SU (B0.mono (by decide)) (by omega) (hoB.mono (by decide))
  have hA1 : ∀ (W0 : World) (A0 B0 A1 B1 : Option Addr) (c0 d0 c1 d1 : Nat), RI W0 A0 c0 l → RP W0 B0 d0 p → RI W0 A1 c1 (W 0).2 → RP W0 B1 d1 ((offP v (coef (p.map prM) v)).map enP) → Calls Try.prog 23 #[.agg #[.bool b, .slice A0 l.length c0, .slice B0 p.length d0], .agg #[.bool (W 0).1, .slice A1 (W 0).2.length c1, .slice B1 ((offP v (coef (p.map prM) v)).map enP).length d1]] W0 (AK W0 (W (wv b l)).1 (W (wv b l)).2 ((normP (p.map prM ++ offP v (coef (p.map prM) v))).map enP)) := by
    intro W0 A0 B0 A1 B1 c0 d0 c1 d1 r1 r2 r3 r4
    have := q_rLAdd (b := b) (b' := (W 0).1) r1 r2 r3 r4 (hs.mono (show 20 ≤ 500 by decide) (show 8 ≤ 900 by decide)) hof (by decide) (by decide)
    unfold addU SU at this
    rw [wv_W, map_enP, Int.add_zero] at this
    exact this
  have hA2 : ∀ (W0 : World) (A0 B0 A1 B1 : Option Addr) (c0 d0 c1 d1 : Nat), RI W0 A0 c0 (W (wv b l)).2 → RP W0 B0 d0 ((normP (p.map prM ++ offP v (coef (p.map prM) v))).map enP) → RI W0 A1 c1 (W (wv b' l' * coef (p.map prM) v)).2 → RP W0 B1 d1 ((normP (scP (coef (p.map prM) v) (p'.map prM))).map enP) → Calls Try.prog 23 #[.agg #[.bool (W (wv b l)).1, .slice A0 (W (wv b l)).2.length c0, .slice B0 ((normP (p.map prM ++ offP v (coef (p.map prM) v))).map enP).length d0], .agg #[.bool (W (wv b' l' * coef (p.map prM) v)).1, .slice A1 (W (wv b' l' * coef (p.map prM) v)).2.length c1, .slice B1 ((normP (scP (coef (p.map prM) v) (p'.map prM))).map enP).length d1]] W0 (AK W0 (SU (wv b l + wv b' l' * coef (p.map prM) v) (normP ((normP (p.map prM ++ offP v (coef (p.map prM) v))) ++ normP (scP (coef (p.map prM) v) (p'.map prM))))).1 (SU (wv b l + wv b' l' * coef (p.map prM) v) (normP ((normP (p.map prM ++ offP v (coef (p.map prM) v))) ++ normP (scP (coef (p.map prM) v) (p'.map prM))))).2.1 (SU (wv b l + wv b' l' * coef (p.map prM) v) (normP ((normP (p.map prM ++ offP v (coef (p.map prM) v))) ++ normP (scP (coef (p.map prM) v) (p'.map prM))))).2.2) := by
    intro W0 A0 B0 A1 B1 c0 d0 c1 d1 r1 r2 r3 r4
    have := q_rLAdd (b := (W (wv b l)).1) (b' := (W (wv b' l' * coef (p.map prM) v)).1) r1 r2 r3 r4 (small_SU (m := 500) (n := 900) ((hs.b b).mono (by decide)) (by omega) (hqB.mono (by decide))) (small_SU (m := 500) (n := 900) (hcB.mono (by decide)) (by omega) (hsB.mono (by decide))) (by decide) (by decide)
    unfold addU at this
    rw [wv_W, wv_W, map_enP, map_enP] at this
    exact this
  have HAT := Aside0.mk (show Small 20 8 l p ∧ W (coef (p.map prM) v) = ((W (coef (p.map prM) v)).1, (W (coef (p.map prM) v)).2) from ⟨hs, rfl⟩)
  have hkn : gudgeonref02_Neg.f kn (W (coef (p.map prM) v)).1 (W (coef (p.map prM) v)).2 = some ((W (-coef (p.map prM) v)).1, (W (-coef (p.map prM) v)).2) := hkn
  have HNE := Aside0.mk hkn
  have HOF := Aside0.mk hko
  have HSF := Aside0.mk hSF
  have HSB := Aside0.mk hSB
  have HA1 := Aside0.mk hA1
  have HA2 := Aside0.mk hA2
  clear hkn hko hSF hSB hA1 hA2 hof hz hoB hol hqB hql hsB hsl hcB hnu hnu' hs hs'
  generalize (SU (wv b l + wv b' l' * coef (p.map prM) v) (normP ((normP (p.map prM ++ offP v (coef (p.map prM) v))) ++ normP (scP (coef (p.map prM) v) (p'.map prM))))).1 = rb at *
  generalize (SU (wv b l + wv b' l' * coef (p.map prM) v) (normP ((normP (p.map prM ++ offP v (coef (p.map prM) v))) ++ normP (scP (coef (p.map prM) v) (p'.map prM))))).2.1 = rl at *
  generalize (SU (wv b l + wv b' l' * coef (p.map prM) v) (normP ((normP (p.map prM ++ offP v (coef (p.map prM) v))) ++ normP (scP (coef (p.map prM) v) (p'.map prM))))).2.2 = rp at *
  generalize (normP (scP (coef (p.map prM) v) (p'.map prM))).map enP = bp at *
  generalize (W (wv b' l' * coef (p.map prM) v)).1 = bb at *
  generalize (W (wv b' l' * coef (p.map prM) v)).2 = bl at *
  generalize (normP (p.map prM ++ offP v (coef (p.map prM) v))).map enP = ap at *
  generalize (W (wv b l)).1 = ab at *
  generalize (W (wv b l)).2 = al at *
  generalize (offP v (coef (p.map prM) v)).map enP = fp at *
  generalize (W 0).1 = fb at *
  generalize (W 0).2 = fl at *
  generalize (W 1).1 = ob at *
  generalize (W 1).2 = ol at *
  generalize (W (-coef (p.map prM) v)).1 = ngb at *
  generalize (W (-coef (p.map prM) v)).2 = ngl at *
  have HAT : Aside0 (Small 20 8 l p ∧ W (coef (p.map prM) v) = ((W (coef (p.map prM) v)).1, (W (coef (p.map prM) v)).2)) := HAT
  generalize hkb : (W (coef (p.map prM) v)).1 = kb at *
  generalize hkl : (W (coef (p.map prM) v)).2 = kl at *
  clear hkb hkl
  have R1 := Aside0.mk h1
  have R2 := Aside0.mk h2
  have R3 := Aside0.mk h3
  have R4 := Aside0.mk h4
  have HB := Aside0.mk (Below.refl w.heap.size w)
  clear h1 h2 h3 h4
  go_enter Try.func27, Try.ntmps27
  go_wp2_with (first
    | ((with_reducible refine gate_dst (N := 3) rfl ?_); refine box_event ?hg (N := 3) ?hd (cs := #[.bool b, .slice A l.length c, .slice E p.length d]) (t := 27) ?hr ?_; (case hd => rfl); (case hg => rfl); (case hr => first | (go_simp; done) | (go_simp; rfl)); intro gA hg w1 hbox hb; have R1 := Aside0.mk (R1.out.b hb); have R2 := Aside0.mk (R2.out.b hb); have R3 := Aside0.mk (R3.out.b hb); have R4 := Aside0.mk (R4.out.b hb); have HB := Aside0.mk (below_step HB.out hb); have KA := Aside0.mk hbox; clear hg hbox hb)
    | ((with_reducible refine gate_dst (N := 5) rfl ?_); refine box_event ?hg (N := 5) ?hd (cs := #[.bool b', .slice A' l'.length c', .slice E' p'.length d']) (t := 27) ?hr ?_; (case hd => rfl); (case hg => rfl); (case hr => first | (go_simp; done) | (go_simp; rfl)); intro gB hg w2 hbox hb; have KA := Aside0.mk (blk_below KA.out hb); have R1 := Aside0.mk (R1.out.b hb); have R2 := Aside0.mk (R2.out.b hb); have R3 := Aside0.mk (R3.out.b hb); have R4 := Aside0.mk (R4.out.b hb); have HB := Aside0.mk (below_step HB.out hb); have KB := Aside0.mk hbox; clear hg hbox hb; have HB2 := HB)
    | ((with_reducible refine gate_dst (N := 6) rfl ?_); refine box_event ?hg (N := 6) ?hd (cs := #[.bool false, .slice none 0 0, .slice none 0 0]) (t := 27) ?hr ?_; (case hd => rfl); (case hg => rfl); (case hr => first | (go_simp; done) | (go_simp; rfl)); intro gR hg w3 hbox hb; have KA := Aside0.mk (blk_below KA.out hb); have KB := Aside0.mk (blk_below KB.out hb); have R1 := Aside0.mk (R1.out.b hb); have R2 := Aside0.mk (R2.out.b hb); have R3 := Aside0.mk (R3.out.b hb); have R4 := Aside0.mk (R4.out.b hb); have HB := Aside0.mk (below_step HB.out hb); have KR := Aside0.mk hbox; have GR := Aside0.mk (show w.heap.size ≤ gR by rw [hg]; exact (below_size HB2.out)); clear hg hbox hb; have cKA := blk_all KA.out)
    | (go_at_call 29; (with_reducible refine (q_rAtz R1.out R2.out HAT.out).mono ?_); rintro e w4 ⟨Ak, ck, rfl, ok, hb⟩; have KA := Aside0.mk (blk_below KA.out hb); have KB := Aside0.mk (blk_below KB.out hb); have KR := Aside0.mk (blk_below KR.out hb); have R1 := Aside0.mk (R1.out.b hb); have R2 := Aside0.mk (R2.out.b hb); have R3 := Aside0.mk (R3.out.b hb); have R4 := Aside0.mk (R4.out.b hb); have HB := Aside0.mk (below_step HB.out hb); have RK := Aside0.mk ok.r; clear hb; clear ok)
    | ((with_reducible refine gate_dst (N := 7) rfl ?_); refine box_event ?hg (N := 7) ?hd (cs := #[.bool false, .slice none 0 0]) (t := 24) ?hr ?_; (case hd => rfl); (case hg => rfl); (case hr => first | (go_simp; done) | (go_simp; rfl)); intro gK hg w5 hbox hb; have KK := Aside0.mk hbox; have HN := Aside0.mk hb; have GN := Aside0.mk (show w4.heap.size ≤ gK by rw [hg]; exact Nat.le_refl _); have cggK := blk_all hbox; have fggK := frz_all hbox; clear hg hbox hb)
    | (go_at_call 61; (with_reducible refine (q_rNeg (RK.out.b (below_set2 HN.out GN.out _ _)) HNE.out).mono ?_); rintro e w6 ⟨An, cn, rfl, on, hb⟩; have hx := below_step (below_set2 HN.out GN.out _ _) hb; have KK := Aside0.mk (blk_below (blk_put2 KK.out _ _) hb); have KA := Aside0.mk (blk_below KA.out hx); have KB := Aside0.mk (blk_below KB.out hx); have KR := Aside0.mk (blk_below KR.out hx); have R1 := Aside0.mk (R1.out.b hx); have R2 := Aside0.mk (R2.out.b hx); have R3 := Aside0.mk (R3.out.b hx); have R4 := Aside0.mk (R4.out.b hx); have RK := Aside0.mk (RK.out.b hx); have HB := Aside0.mk (below_step HB.out hx); have RN := Aside0.mk on.r; clear hb hx HN GN cggK fggK; clear on)
    | (go_at_call 32; (with_reducible refine (q_rOf HOF.out).mono ?_); rintro e w7 ⟨Ao, co, rfl, ro, hb⟩; have RN0 := RN; have hx := below_step (below_alloc (Below.refl w6.heap.size w6) (.cells #[.int .i64 v, .bool ngb, .slice An ngl.length cn] 46 (0, 0))) hb; have KA := Aside0.mk (blk_below KA.out hx); have KB := Aside0.mk (blk_below KB.out hx); have KR := Aside0.mk (blk_below KR.out hx); have KK := Aside0.mk (blk_below KK.out hx); have R1 := Aside0.mk (R1.out.b hx); have R2 := Aside0.mk (R2.out.b hx); have R3 := Aside0.mk (R3.out.b hx); have R4 := Aside0.mk (R4.out.b hx); have RK := Aside0.mk (RK.out.b hx); have RN := Aside0.mk (RN.out.b hx); have HB := Aside0.mk (below_step HB.out hx); have RO := Aside0.mk ro; have PX := Aside0.mk (RP.b (RP.one v ngb RN0.out) hb); clear hb hx ro)
    | (go_at_call 25; (with_reducible refine (HSF.out _ _ _ _ _ PX.out RO.out).mono ?_); rintro e w8 ⟨AF, cF, BF, dF, rfl, kf, hb⟩; have KA := Aside0.mk (blk_below KA.out hb); have KB := Aside0.mk (blk_below KB.out hb); have KR := Aside0.mk (blk_below KR.out hb); have KK := Aside0.mk (blk_below KK.out hb); have R1 := Aside0.mk (R1.out.b hb); have R2 := Aside0.mk (R2.out.b hb); have R3 := Aside0.mk (R3.out.b hb); have R4 := Aside0.mk (R4.out.b hb); have RK := Aside0.mk (RK.out.b hb); have HB := Aside0.mk (below_step HB.out hb); have RF := Aside0.mk kf.i; have PF := Aside0.mk kf.p; clear hb; clear kf)
    | ((with_reducible refine gate_dst (N := 8) rfl ?_); refine box_event ?hg (N := 8) ?hd (cs := #[.bool false, .slice none 0 0, .slice none 0 0]) (t := 27) ?hr ?_; (case hd => rfl); (case hg => rfl); (case hr => first | (go_simp; done) | (go_simp; rfl)); intro gF hg w9 hbox hb; have KF := Aside0.mk hbox; have HN := Aside0.mk hb; have GN := Aside0.mk (show w8.heap.size ≤ gF by rw [hg]; exact Nat.le_refl _); have cKA := blk_all (blk_below KA.out hb); have ngAgF : gA ≠ gF := Nat.ne_of_lt (hg ▸ blk_lt KA.out); have ngFgA : gF ≠ gA := fun e => ngAgF e.symm; have cKB := blk_all (blk_below KB.out hb); have ngBgF : gB ≠ gF := Nat.ne_of_lt (hg ▸ blk_lt KB.out); have ngFgB : gF ≠ gB := fun e => ngBgF e.symm; have cKK := blk_all (blk_below KK.out hb); have ngKgF : gK ≠ gF := Nat.ne_of_lt (hg ▸ blk_lt KK.out); have ngFgK : gF ≠ gK := fun e => ngKgF e.symm; have cggF := blk_all hbox; have fggF := frz_all hbox; clear hg hbox hb))
  have hd := below_drew1 (below_set3 HN.out GN.out (.bool fb) (.slice AF fl.length cF) (.slice BF fp.length dF))
  have KA := Aside0.mk (blk_below KA.out hd); have KB := Aside0.mk (blk_below KB.out hd); have KK := Aside0.mk (blk_below KK.out hd); have KR := Aside0.mk (blk_below KR.out hd); have KF := Aside0.mk (blk_drew (blk_put3 KF.out (.bool fb) (.slice AF fl.length cF) (.slice BF fp.length dF)))
  trace_state
  refine start_ (n := 8) (S := fun w' => (∀ i : Nat, w'.cell? ⟨gA, i, none⟩ = (#[.bool b, .slice A l.length c, .slice E p.length d] : Array Value)[i]?) ∧ (∀ i : Nat, w'.cell? ⟨gF, i, none⟩ = (#[.bool fb, .slice AF fl.length cF, .slice BF fp.length dF] : Array Value)[i]?) ∧ (∀ i : Nat, w'.cell? ⟨gB, i, none⟩ = (#[.bool b', .slice A' l'.length c', .slice E' p'.length d'] : Array Value)[i]?) ∧ (∀ i : Nat, w'.cell? ⟨gK, i, none⟩ = (#[.bool kb, .slice Ak kl.length ck] : Array Value)[i]?)) (ds := [7]) #[false, false, false, false, false, false, false, false] (by kernel_rfl) rfl rfl ⟨blk_all KA.out, blk_all KF.out, blk_all KB.out, blk_all KK.out⟩ (fun hHeld => ?_)
  refine take_ (i := 0) (N := some 20) (v := ?_) (a' := ?_) #[true, false, false, false, false, false, false, false] rfl rfl (by kernel_rfl) (fun _ _ _ h => h) (Or.inl ⟨by rfl, ?_⟩) hHeld ?_ ?_
  rotate_left
  · rintro w' ⟨s0, s1, s2, s3⟩
    go_simp
    with_reducible rfl
  rotate_left
  · simp only [Act.put, List.setIfInBounds_toArray, List.set_cons_zero, List.set_cons_succ, i64_w, i32_w]
    rfl
  refine take_ (i := 1) (N := some 21) (v := ?_) (a' := ?_) #[true, true, false, false, false, false, false, false] rfl rfl (by kernel_rfl) (fun _ _ _ h => h) (Or.inl ⟨by rfl, ?_⟩) hHeld ?_ ?_
  rotate_left
  · rintro w' ⟨s0, s1, s2, s3⟩
    go_simp
    with_reducible rfl
  rotate_left
  · simp only [Act.put, List.setIfInBounds_toArray, List.set_cons_zero, List.set_cons_succ, i64_w, i32_w]
    rfl
  refine take_ (i := 3) (N := some 23) (v := ?_) (a' := ?_) #[true, true, false, true, false, false, false, false] rfl rfl (by kernel_rfl) (fun _ _ _ h => h) (Or.inl ⟨by rfl, ?_⟩) hHeld ?_ ?_
  rotate_left
  · rintro w' ⟨s0, s1, s2, s3⟩
    go_simp
    with_reducible rfl
  rotate_left
  · simp only [Act.put, List.setIfInBounds_toArray, List.set_cons_zero, List.set_cons_succ, i64_w, i32_w]
    rfl
  refine take_ (i := 4) (N := some 24) (v := ?_) (a' := ?_) #[true, true, false, true, true, false, false, false] rfl rfl (by kernel_rfl) (fun _ _ _ h => h) (Or.inl ⟨by rfl, ?_⟩) hHeld ?_ ?_
  rotate_left
  · rintro w' ⟨s0, s1, s2, s3⟩
    go_simp
    with_reducible rfl
  rotate_left
  · simp only [Act.put, List.setIfInBounds_toArray, List.set_cons_zero, List.set_cons_succ, i64_w, i32_w]
    rfl
  refine one_ (i := 2) (N := some 22) #[true, true, true, true, true, false, false, false] rfl rfl (by kernel_rfl) (by decide) (fun K hK => ?_)
  refine goes_ Try.func23 (by kernel_rfl) rfl #[.agg #[.bool b, .slice A l.length c, .slice E p.length d], .agg #[.bool fb, .slice AF fl.length cF, .slice BF fp.length dF]] (by rfl) rfl rfl (by simp only [List.map_toArray, List.map_cons, List.map_nil]; rfl) ?_
  with_reducible refine (HA1.out _ _ _ _ _ _ _ _ _ (R1.out.b hd) (R2.out.b hd) (RF.out.b hd) (PF.out.b hd)).mono ?_
  rintro e wa ⟨A1, c1, B1, d1, rfl, k1, hb⟩
  have hy := below_step hd hb
  have KA := Aside0.mk (blk_below KA.out hb); have KB := Aside0.mk (blk_below KB.out hb); have KK := Aside0.mk (blk_below KK.out hb); have KF := Aside0.mk (blk_below KF.out hb); have KR := Aside0.mk (blk_below KR.out hb); have R3 := Aside0.mk (R3.out.b hy); have R4 := Aside0.mk (R4.out.b hy); have RK := Aside0.mk (RK.out.b hy); have HB := Aside0.mk (below_step HB.out hy)
  have RA := Aside0.mk k1.i
  have PA := Aside0.mk k1.p
  clear k1 hb hy hd
  refine ⟨_, rfl, ?_⟩
  refine hK.out _ _ ⟨blk_all KA.out, blk_all KF.out, blk_all KB.out, blk_all KK.out⟩ (fun hHeld => ?_)
  clear hK K
  refine norm_ (a' := ?_) ?_ ?_
  rotate_left
  · show Act.put _ (some 22) _ = _
    simp only [Act.put, List.setIfInBounds_toArray, List.set_cons_zero, List.set_cons_succ, i64_w, i32_w]
    rfl
  refine one_ (i := 5) (N := some 25) #[true, true, true, true, true, true, false, false] rfl rfl (by kernel_rfl) (by decide) (fun K hK => ?_)
  refine goes_ Try.func25 (by kernel_rfl) rfl #[.agg #[.bool b', .slice A' l'.length c', .slice E' p'.length d'], .agg #[.bool kb, .slice Ak kl.length ck]] (by rfl) rfl rfl (by simp only [List.map_toArray, List.map_cons, List.map_nil]; rfl) ?_
  with_reducible refine (HSB.out _ _ _ _ _ _ _ R3.out R4.out RK.out).mono ?_
  rintro e wb ⟨A2, c2, B2, d2, rfl, k2, hb⟩
  have KA := Aside0.mk (blk_below KA.out hb); have KB := Aside0.mk (blk_below KB.out hb); have KK := Aside0.mk (blk_below KK.out hb); have KF := Aside0.mk (blk_below KF.out hb); have KR := Aside0.mk (blk_below KR.out hb); have RA := Aside0.mk (RA.out.b hb); have PA := Aside0.mk (PA.out.b hb); have HB := Aside0.mk (below_step HB.out hb)
  have RB := Aside0.mk k2.i
  have PB := Aside0.mk k2.p
  clear k2 hb
  refine ⟨_, rfl, ?_⟩
  refine hK.out _ _ ⟨blk_all KA.out, blk_all KF.out, blk_all KB.out, blk_all KK.out⟩ (fun hHeld => ?_)
  clear hK K
  refine norm_ (a' := ?_) ?_ ?_
  rotate_left
  · show Act.put _ (some 25) _ = _
    simp only [Act.put, List.setIfInBounds_toArray, List.set_cons_zero, List.set_cons_succ, i64_w, i32_w]
    rfl
  refine one_ (i := 6) (N := some 26) #[true, true, true, true, true, true, true, false] rfl rfl (by kernel_rfl) (by decide) (fun K hK => ?_)
  refine goes_ Try.func23 (by kernel_rfl) rfl #[.agg #[.bool ab, .slice A1 al.length c1, .slice B1 ap.length d1], .agg #[.bool bb, .slice A2 bl.length c2, .slice B2 bp.length d2]] (by rfl) rfl rfl (by simp only [List.map_toArray, List.map_cons, List.map_nil]; rfl) ?_
  with_reducible refine (HA2.out _ _ _ _ _ _ _ _ _ RA.out PA.out RB.out PB.out).mono ?_
  rintro e wc ⟨A7, c7, B7, d7, rfl, k7, hb⟩
  have KA := Aside0.mk (blk_below KA.out hb); have KB := Aside0.mk (blk_below KB.out hb); have KK := Aside0.mk (blk_below KK.out hb); have KF := Aside0.mk (blk_below KF.out hb); have KR := Aside0.mk (blk_below KR.out hb); have HB := Aside0.mk (below_step HB.out hb)
  have K7 := Aside0.mk k7
  clear k7 hb
  have cR := blk_all KR.out
  have fR := frz_all KR.out
  refine ⟨_, rfl, ?_⟩
  refine hK.out _ _ ⟨blk_all KA.out, blk_all KF.out, blk_all KB.out, blk_all KK.out⟩ (fun hHeld => ?_)
  clear hK K
  refine norm_ (a' := ?_) ?_ ?_
  rotate_left
  · show Act.put _ (some 26) _ = _
    simp only [Act.put, List.setIfInBounds_toArray, List.set_cons_zero, List.set_cons_succ, i64_w, i32_w]
    rfl
  refine last_ (i := 7) (N := none) #[true, true, true, true, true, true, true, true] rfl rfl (by kernel_rfl) (by decide) (fun K hK => ?_)
  refine skip_ (w1 := ?_) (by rfl) rfl ?_ ?_
  rotate_left
  · go_simp
    rfl
  refine hK.out _ _ ?_
  clear hK K
  refine done_ (by kernel_rfl) ?_

  go_wp2_with fail
  refine bodyPost_ret (results_cell_row rfl _ _ gR 27 #[.bool rb, .slice A7 rl.length c7, .slice B7 rp.length d7] (0, 0) _ rfl (blk_put3 KR.out _ _ _) Try.underlying27 rfl (by kernel_rfl)) rfl ?_
  exact ⟨A7, c7, B7, d7, rfl, K7.out.set3 KR.out _ _ _, below_set3 HB.out GR.out _ _ _⟩
end Go.Proofs.Ytdicjemjmlbmlaa.H
/- The chapter's examples: the walk. -/
namespace Go.Proofs.Ytdicjemjmlbmlaa.H
set_option linter.unusedSimpArgs false
set_option linter.unusedVariables false
open Go.RowKit Go.Proofs.YtdicjemjmlbmlaaW.PrintWords Go.Proofs.YtdicjemjmlbmlaaW.PrintLast Go.Proofs.YtdicjemjmlbmlaaW.PrintMore Go.Proofs.Ytdicjemjmlbmlaa.PA Go.Proofs.Ytdicjemjmlbmlaa.V Go.Proofs.Ytdicjemjmlbmlaa.S
set_option maxHeartbeats 8000000 in
set_option maxRecDepth 100000 in
theorem q_awake (w : World) : Calls Try.prog 9 #[] w fun e w' => e = .returned (.bool true) ∧ Below w.heap.size w w' := by
  have mixed : Try.prog.follows Departure.mixedOrders = true := by kernel_rfl
  have hu27 := Try.underlying27
  have hu24 := Try.underlying24
  have hu46 := Try.underlying46
  obtain ⟨k1, k2, k3, k4, k5, k6, b1, l1, p1, b2, l2, p2, b3, l3, b4, l4, b5, l5, p5, b6, l6, p6, zb, zl, zp, h1, h2, h3, h4, h5, h6, hT, hE, hF, h7, h8⟩ := awake_facts
  have H1 := Aside0.mk h1; have H2 := Aside0.mk h2; have H3 := Aside0.mk h3; have H4 := Aside0.mk h4; have H5 := Aside0.mk h5; have H6 := Aside0.mk h6; have H7 := Aside0.mk h7; have H8 := Aside0.mk h8; have HT := Aside0.mk hT; have HE := Aside0.mk hE; have HF := Aside0.mk hF
  clear h1 h2 h3 h4 h5 h6 h7 h8 hT hE hF
  go_enter Try.func9, Try.ntmps9
  go_upto_region 4 with (first
    | (go_at_call 39; (with_reducible refine (q_sum H1.out).mono ?_); rintro e w1 ⟨A1, c1, B1, d1, rfl, r1, s1, hb⟩; have R1 := Aside0.mk r1; have S1 := Aside0.mk s1; have HB := Aside0.mk hb; clear r1 s1 hb)
    | (go_at_call 11; (with_reducible refine (q_Tight R1.out S1.out HT.out).mono ?_); rintro e w2 ⟨AX, cX, BX, dX, rfl, rX, sX, hb⟩; have RX := Aside0.mk rX; have SX := Aside0.mk sX; have HB := Aside0.mk (below_step HB.out hb); clear rX sX hb R1 S1)
    | ((with_reducible refine gate_dst (N := 1) rfl ?_); refine box_event ?hg (N := 1) ?hd (cs := #[.bool false, .slice none 0 0, .slice none 0 0]) (t := 27) ?hr ?_; (case hd => rfl); (case hg => rfl); (case hr => first | (go_simp; done) | (go_simp; rfl)); intro gX hg w3 hbox hb; have KX := Aside0.mk hbox; have HN := Aside0.mk hb; have GN := Aside0.mk (show w2.heap.size ≤ gX by rw [hg]; exact Nat.le_refl _); have cgX := blk_all hbox; have fgX := frz_all hbox; clear hg hbox hb)
    | (go_at_call 39; (with_reducible refine (q_sum H2.out).mono ?_); rintro e w4 ⟨A3, c3, B3, d3, rfl, r3, s3, hb⟩; have hx := below_step (below_set3 HN.out GN.out _ _ _) hb; have KX := Aside0.mk (blk_below (blk_put3 KX.out _ _ _) hb); have R3 := Aside0.mk r3; have S3 := Aside0.mk s3; have RX := Aside0.mk (RX.out.b hx); have SX := Aside0.mk (SX.out.b hx); have HB := Aside0.mk (below_step HB.out hx); clear r3 s3 hb hx HN GN cgX fgX)
    | (go_at_call 13; (with_reducible refine (q_Even R3.out S3.out HE.out).mono ?_); rintro e w5 ⟨AY, cY, BY, dY, rfl, rY, sY, hb⟩; have RY := Aside0.mk rY; have SY := Aside0.mk sY; have KX := Aside0.mk (blk_below KX.out hb); have RX := Aside0.mk (RX.out.b hb); have SX := Aside0.mk (SX.out.b hb); have HB := Aside0.mk (below_step HB.out hb); clear rY sY hb R3 S3)
    | ((with_reducible refine gate_dst (N := 3) rfl ?_); refine box_event ?hg (N := 3) ?hd (cs := #[.bool false, .slice none 0 0, .slice none 0 0]) (t := 27) ?hr ?_; (case hd => rfl); (case hg => rfl); (case hr => first | (go_simp; done) | (go_simp; rfl)); intro gY hg w6 hbox hb; have KY := Aside0.mk hbox; have HN := Aside0.mk hb; have GN := Aside0.mk (show w5.heap.size ≤ gY by rw [hg]; exact Nat.le_refl _); have cgY := blk_all hbox; have fgY := frz_all hbox; clear hg hbox hb)
    | (go_at_call 32; (with_reducible refine (q_rOf H3.out).mono ?_); rintro e w7 ⟨A7, c7, rfl, r7, hb⟩; have hx := below_step (below_set3 HN.out GN.out _ _ _) hb; have KY := Aside0.mk (blk_below (blk_put3 KY.out _ _ _) hb); have R7 := Aside0.mk r7; have KX := Aside0.mk (blk_below KX.out hx); have RX := Aside0.mk (RX.out.b hx); have SX := Aside0.mk (SX.out.b hx); have RY := Aside0.mk (RY.out.b hx); have SY := Aside0.mk (SY.out.b hx); have HB := Aside0.mk (below_step HB.out hx); clear r7 hb hx HN GN cgY fgY)
    | (go_at_call 32; (with_reducible refine (q_rOf H4.out).mono ?_); rintro e w8 ⟨A8, c8, rfl, r8, hb⟩; have R8 := Aside0.mk r8; have KX := Aside0.mk (blk_below KX.out hb); have KY := Aside0.mk (blk_below KY.out hb); have RX := Aside0.mk (RX.out.b hb); have SX := Aside0.mk (SX.out.b hb); have RY := Aside0.mk (RY.out.b hb); have SY := Aside0.mk (SY.out.b hb); have R7 := Aside0.mk (R7.out.b hb); have HB := Aside0.mk (below_step HB.out hb); clear r8 hb)
    | (go_at_call 13; (refine (q_Even (R7.out.b (below_alloc (Below.refl _ _) _)) (RP.one 0 b4 R8.out) HF.out).mono ?_); rintro e w9 ⟨AZ, cZ, BZ, dZ, rfl, rZ, sZ, hb⟩; have hx := below_step (below_alloc (Below.refl _ _) _) hb; have KX := Aside0.mk (blk_below KX.out hx); have KY := Aside0.mk (blk_below KY.out hx); have RX := Aside0.mk (RX.out.b hx); have SX := Aside0.mk (SX.out.b hx); have RY := Aside0.mk (RY.out.b hx); have SY := Aside0.mk (SY.out.b hx); have HB := Aside0.mk (below_step HB.out hx); clear rZ sZ hb hx R7 R8)
    | ((with_reducible refine gate_dst (N := 5) rfl ?_); refine box_event ?hg (N := 5) ?hd (cs := #[.bool false, .slice none 0 0, .slice none 0 0]) (t := 27) ?hr ?_; (case hd => rfl); (case hg => rfl); (case hr => first | (go_simp; done) | (go_simp; rfl)); intro gZ hg w10 hbox hb; have KZ := Aside0.mk hbox; have HN := Aside0.mk hb; have GN := Aside0.mk (show w9.heap.size ≤ gZ by rw [hg]; exact Nat.le_refl _); have cgZ := blk_all hbox; have fgZ := frz_all hbox; clear hg hbox hb))
  have hx := below_drew1 (below_set3 HN.out GN.out (.bool zb) (.slice AZ zl.length cZ) (.slice BZ zp.length dZ))
  clear cgZ fgZ
  refine start_ (n := 4) (S := fun w' => ∀ i : Nat, w'.cell? ⟨gX, i, none⟩ = (#[.bool b5, .slice AX l5.length cX, .slice BX p5.length dX] : Array Value)[i]?) (ds := []) #[false, false, false, false] (by kernel_rfl) rfl rfl (blk_all (blk_below KX.out hx)) (fun hHeld => ?_)
  refine take_ (i := 0) (N := some 28) (v := ?_) (a' := ?_) #[true, false, false, false] rfl rfl (by kernel_rfl) (fun _ _ _ h => h) (Or.inl ⟨by rfl, ?_⟩) hHeld ?_ ?_
  rotate_left
  · intro w' s0
    go_simp
    with_reducible rfl
  rotate_left
  · simp only [Act.put, List.setIfInBounds_toArray, List.set_cons_zero, List.set_cons_succ, i64_w, i32_w]
    rfl
  refine one_ (i := 1) (N := some 29) #[true, true, false, false] rfl rfl (by kernel_rfl) (by decide) (fun K hK => ?_)
  refine goes_ Try.func39 (by kernel_rfl) rfl #[.int .i64 3, .int .i64 2, .int .i64 3] (by rfl) rfl rfl (by simp only [List.map_toArray, List.map_cons, List.map_nil]; rfl) ?_
  with_reducible refine (q_sum H5.out).mono ?_
  rintro e w11 ⟨A5, c5, B5, d5, rfl, r5, s5, hb⟩
  have hy := below_step hx hb
  have R5 := Aside0.mk r5; have S5 := Aside0.mk s5; have KX := Aside0.mk (blk_below KX.out hy); have KY := Aside0.mk (blk_below KY.out hy); have RX := Aside0.mk (RX.out.b hy); have SX := Aside0.mk (SX.out.b hy); have RY := Aside0.mk (RY.out.b hy); have SY := Aside0.mk (SY.out.b hy); have HB := Aside0.mk (below_step HB.out hy)
  clear r5 s5 hb hy hx
  refine ⟨_, rfl, ?_⟩
  refine hK.out _ _ (blk_all KX.out) (fun hHeld => ?_)
  clear hK K
  refine norm_ (a' := ?_) ?_ ?_
  rotate_left
  · show Act.put _ (some 29) _ = _
    simp only [Act.put, List.setIfInBounds_toArray, List.set_cons_zero, List.set_cons_succ, i64_w, i32_w]
    rfl
  refine one_ (i := 2) (N := some 30) #[true, true, true, false] rfl rfl (by kernel_rfl) (by decide) (fun K hK => ?_)
  refine goes_ Try.func15 (by kernel_rfl) rfl #[.agg #[.bool b5, .slice AX l5.length cX, .slice BX p5.length dX], .agg #[.bool b5, .slice A5 l5.length c5, .slice B5 p5.length d5]] (by rfl) rfl rfl (by simp only [List.map_toArray, List.map_cons, List.map_nil]; rfl) ?_
  with_reducible refine (q_Same RX.out SX.out R5.out S5.out H7.out).mono ?_
  rintro e w12 ⟨rfl, hb⟩
  have KX := Aside0.mk (blk_below KX.out hb); have KY := Aside0.mk (blk_below KY.out hb); have RX := Aside0.mk (RX.out.b hb); have SX := Aside0.mk (SX.out.b hb); have RY := Aside0.mk (RY.out.b hb); have SY := Aside0.mk (SY.out.b hb); have HB := Aside0.mk (below_step HB.out hb)
  clear hb
  refine ⟨_, rfl, ?_⟩
  refine hK.out _ _ (blk_all KX.out) (fun hHeld => ?_)
  clear hK K
  refine norm_ (a' := ?_) ?_ ?_
  rotate_left
  · show Act.put _ (some 30) _ = _
    simp only [Act.put, List.setIfInBounds_toArray, List.set_cons_zero, List.set_cons_succ, i64_w, i32_w]
    rfl
  refine pure_ (i := 3) (N := some 7) (v := ?_) (a' := ?_) #[true, true, true, true] rfl rfl (by kernel_rfl) (fun _ _ _ h => h) (Or.inl ⟨by rfl, ?_⟩) ?_ ?_
  rotate_left
  · intro w'
    go_simp
    with_reducible rfl
  rotate_left
  · simp only [Act.put, List.setIfInBounds_toArray, List.set_cons_zero, List.set_cons_succ, i64_w, i32_w]
    rfl
  refine done_ (by kernel_rfl) ?_

  go_wp2_with fail
  refine start_ (n := 4) (S := fun w' => ∀ i : Nat, w'.cell? ⟨gY, i, none⟩ = (#[.bool b6, .slice AY l6.length cY, .slice BY p6.length dY] : Array Value)[i]?) (ds := []) #[false, false, false, false] (by kernel_rfl) rfl rfl (blk_all KY.out) (fun hHeld => ?_)
  refine take_ (i := 0) (N := some 31) (v := ?_) (a' := ?_) #[true, false, false, false] rfl rfl (by kernel_rfl) (fun _ _ _ h => h) (Or.inl ⟨by rfl, ?_⟩) hHeld ?_ ?_
  rotate_left
  · intro w' s0
    go_simp
    with_reducible rfl
  rotate_left
  · simp only [Act.put, List.setIfInBounds_toArray, List.set_cons_zero, List.set_cons_succ, i64_w, i32_w]
    rfl
  refine one_ (i := 1) (N := some 32) #[true, true, false, false] rfl rfl (by kernel_rfl) (by decide) (fun K hK => ?_)
  refine goes_ Try.func39 (by kernel_rfl) rfl #[.int .i64 (-3), .int .i64 1, .int .i64 (-2)] (by rfl) rfl rfl (by simp only [List.map_toArray, List.map_cons, List.map_nil]; rfl) ?_
  with_reducible refine (q_sum H6.out).mono ?_
  rintro e w13 ⟨A6, c6, B6, d6, rfl, r6, s6, hb⟩
  have hy := below_step (below_drew1 (Below.refl w12.heap.size w12)) hb
  have R6 := Aside0.mk r6; have S6 := Aside0.mk s6; have KY := Aside0.mk (blk_below KY.out hy); have RY := Aside0.mk (RY.out.b hy); have SY := Aside0.mk (SY.out.b hy); have HB := Aside0.mk (below_step HB.out hy)
  clear r6 s6 hb hy
  refine ⟨_, rfl, ?_⟩
  refine hK.out _ _ (blk_all KY.out) (fun hHeld => ?_)
  clear hK K
  refine norm_ (a' := ?_) ?_ ?_
  rotate_left
  · show Act.put _ (some 32) _ = _
    simp only [Act.put, List.setIfInBounds_toArray, List.set_cons_zero, List.set_cons_succ, i64_w, i32_w]
    rfl
  refine one_ (i := 2) (N := some 33) #[true, true, true, false] rfl rfl (by kernel_rfl) (by decide) (fun K hK => ?_)
  refine goes_ Try.func15 (by kernel_rfl) rfl #[.agg #[.bool b6, .slice AY l6.length cY, .slice BY p6.length dY], .agg #[.bool b6, .slice A6 l6.length c6, .slice B6 p6.length d6]] (by rfl) rfl rfl (by simp only [List.map_toArray, List.map_cons, List.map_nil]; rfl) ?_
  with_reducible refine (q_Same RY.out SY.out R6.out S6.out H8.out).mono ?_
  rintro e w14 ⟨rfl, hb⟩
  have KY := Aside0.mk (blk_below KY.out hb); have HB := Aside0.mk (below_step HB.out hb)
  clear hb
  refine ⟨_, rfl, ?_⟩
  refine hK.out _ _ (blk_all KY.out) (fun hHeld => ?_)
  clear hK K
  refine norm_ (a' := ?_) ?_ ?_
  rotate_left
  · show Act.put _ (some 33) _ = _
    simp only [Act.put, List.setIfInBounds_toArray, List.set_cons_zero, List.set_cons_succ, i64_w, i32_w]
    rfl
  refine pure_ (i := 3) (N := some 8) (v := ?_) (a' := ?_) #[true, true, true, true] rfl rfl (by kernel_rfl) (fun _ _ _ h => h) (Or.inl ⟨by rfl, ?_⟩) ?_ ?_
  rotate_left
  · intro w'
    go_simp
    with_reducible rfl
  rotate_left
  · simp only [Act.put, List.setIfInBounds_toArray, List.set_cons_zero, List.set_cons_succ, i64_w, i32_w]
    rfl
  refine done_ (by kernel_rfl) ?_

  go_wp2
  go_ret
  exact ⟨rfl, by repeat first | exact HB.out | apply below_drew1⟩
end Go.Proofs.Ytdicjemjmlbmlaa.H
/- LinSums: the law's walk. -/
namespace Go.Proofs.Ytdicjemjmlbmlaa.H
set_option linter.unusedSimpArgs false
set_option linter.unusedVariables false
open Go.RowKit Go.Proofs.YtdicjemjmlbmlaaW.PrintWords Go.Proofs.YtdicjemjmlbmlaaW.PrintLast Go.Proofs.YtdicjemjmlbmlaaW.PrintMore Go.Proofs.Ytdicjemjmlbmlaa.PA Go.Proofs.Ytdicjemjmlbmlaa.V Go.Proofs.Ytdicjemjmlbmlaa.S
theorem AK.al {w : World} {b : Bool} {l : List Int} {p : List S46} {e : Ending} {w' : World} (h : AK w b l p e w') : AL w b l p e w' := by
  obtain ⟨A, c, B, d, rfl, hk, hb⟩ := h
  exact ⟨A, c, B, d, rfl, hk.i, hk.p, hb⟩
theorem AO.aw {w : World} {b : Bool} {l : List Int} {e : Ending} {w' : World} (h : AO w b l e w') : AW w b l e w' := by
  obtain ⟨A, c, rfl, ho, hb⟩ := h
  exact ⟨A, c, rfl, ho.r, hb⟩
theorem okS_SU {c : Int} {q : List (Int × Int)} (hc : B 1000000 c) (hl : q.length ≤ 1000000) (hq : BQ 1000000 q) : OkS (W c).2 (q.map enP) := ⟨hc.len, by rw [List.length_map]; exact hl, fun x hx => by
  obtain ⟨y, hy, rfl⟩ := List.mem_map.1 hx
  exact (hq y hy).len⟩
theorem W0e : W 0 = (false, []) := by unfold W az; simp [dig, digN]
theorem q_VarL {w : World} (v : Int) : Calls Try.prog 31 #[.int .i64 v] w fun e w' => ∃ A c B d, e = .returned (.agg #[.bool false, .slice A 0 c, .slice B 1 d]) ∧ RI w' A c [] ∧ RP w' B d [⟨v, ⟨(W 1).1, (W 1).2⟩⟩] ∧ Below w.heap.size w w' := by
  refine (q_Var v).mono ?_
  rw [W0e]
  rintro e w' ⟨A, c, B, d, rfl, h1, h2, hb⟩
  exact ⟨A, c, B, d, rfl, h1, h2, hb⟩
set_option maxRecDepth 100000 in
theorem q_SameV {w : World} {A B B' : Option Addr} {c d : Nat} {x : S46} (h1 : RI w A c []) (h2 : RP w B d [x]) (h4 : RP w B' 1 [x]) (h : x.f1.f1.length ≤ 1000000) :
    Calls Try.prog 15 #[.agg #[.bool false, .slice A 0 c, .slice B 1 d], .agg #[.bool false, .slice none 0 0, .slice B' 1 1]] w fun e w' => e = .returned (.bool true) ∧ Below w.heap.size w w' :=
  q_Same (A' := none) (c' := 0) (l := []) (p := [x]) h1 h2 (RI.nil w) h4 ⟨Nat.zero_le _, (show 1 ≤ 1000000 by decide), fun y hy => by rw [List.mem_singleton.1 hy]; exact h⟩
theorem sums5 {b b' : Bool} {l1 l2 : List Int} {p1 p2 : List S46} {kb : Bool} {kl : List Int} {v : Int} (hs : Small 20 8 l1 p1) (hs' : Small 20 8 l2 p2) (hk : Lim kl) (hn : kl.length ≤ 8) : ∃ o5b o5l o5p, (∀ (W0 : World) (A0_ : Option Addr) (c0_ : Nat) (A1_ : Option Addr) (c1_ : Nat), RI W0 A0_ c0_ l1 → RP W0 A1_ c1_ p1 → Calls Try.prog 20 #[.agg #[.bool b, .slice A0_ l1.length c0_, .slice A1_ p1.length c1_]] W0 (AL W0 o5b o5l o5p)) ∧ (∀ (W0 : World) (A0_ : Option Addr) (c0_ : Nat) (A1_ : Option Addr) (c1_ : Nat), RI W0 A0_ c0_ l1 → RP W0 A1_ c1_ p1 → Calls Try.prog 21 #[.agg #[.bool b, .slice A0_ l1.length c0_, .slice A1_ p1.length c1_]] W0 (AL W0 o5b o5l o5p)) ∧ OkS o5l o5p := by
  have hq := norm_small hs
  refine ⟨(W (wv b l1)).1, (W (wv b l1)).2, (normP (p1.map prM)).map enP, fun W0 A c B d r1 r2 => q_Norm r1 r2 (lnorm_ev hs (by decide) (by decide) b), fun W0 A c B d r1 r2 => (q_rLNorm r1 r2 hs (by decide) (by decide)).mono (fun _ _ h => AK.al h), okS_SU ((hs.b b).mono (by decide)) (by omega) (hq.2.mono (by decide))⟩
theorem sums6 {b b' : Bool} {l1 l2 : List Int} {p1 p2 : List S46} {kb : Bool} {kl : List Int} {v : Int} (hs : Small 20 8 l1 p1) (hs' : Small 20 8 l2 p2) (hk : Lim kl) (hn : kl.length ≤ 8) : ∃ o6b o6l o6p, (∀ (W0 : World) (A0_ : Option Addr) (c0_ : Nat) (A1_ : Option Addr) (c1_ : Nat) (A2_ : Option Addr) (c2_ : Nat) (A3_ : Option Addr) (c3_ : Nat), RI W0 A0_ c0_ l1 → RP W0 A1_ c1_ p1 → RI W0 A2_ c2_ l2 → RP W0 A3_ c3_ p2 → Calls Try.prog 22 #[.agg #[.bool b, .slice A0_ l1.length c0_, .slice A1_ p1.length c1_], .agg #[.bool b', .slice A2_ l2.length c2_, .slice A3_ p2.length c3_]] W0 (AL W0 o6b o6l o6p)) ∧ (∀ (W0 : World) (A0_ : Option Addr) (c0_ : Nat) (A1_ : Option Addr) (c1_ : Nat) (A2_ : Option Addr) (c2_ : Nat) (A3_ : Option Addr) (c3_ : Nat), RI W0 A0_ c0_ l1 → RP W0 A1_ c1_ p1 → RI W0 A2_ c2_ l2 → RP W0 A3_ c3_ p2 → Calls Try.prog 23 #[.agg #[.bool b, .slice A0_ l1.length c0_, .slice A1_ p1.length c1_], .agg #[.bool b', .slice A2_ l2.length c2_, .slice A3_ p2.length c3_]] W0 (AL W0 o6b o6l o6p)) ∧ OkS o6l o6p := by
  have hc : B 9 (wv b l1 + wv b' l2) := (hs.b b).add (hs'.b b')
  have h1 := hs.num
  have h2 := hs'.num
  have hl : (p1.map prM ++ p2.map prM).length ≤ 40 := by rw [List.length_append, List.length_map, List.length_map]; omega
  have hq : BQ 48 (normP (p1.map prM ++ p2.map prM)) := (norm_B (n := 8) (fun x hx => (List.mem_append.1 hx).elim (fun h => hs.bq x h) (fun h => hs'.bq x h))).mono (by omega)
  refine ⟨_, _, _, fun W0 A c B d A' c' B' d' r1 r2 r3 r4 => (q_LAdd (b := b) (b' := b') r1 r2 r3 r4 hs hs' (by decide) (by decide)).mono (fun _ _ h => h.al), fun W0 A c B d A' c' B' d' r1 r2 r3 r4 => (q_rLAdd (b := b) (b' := b') r1 r2 r3 r4 hs hs' (by decide) (by decide)).mono (fun _ _ h => AK.al h), okS_SU (hc.mono (by decide)) (Nat.le_trans (norm_len _) (by omega)) (hq.mono (by decide))⟩
theorem sums7 {b b' : Bool} {l1 l2 : List Int} {p1 p2 : List S46} {kb : Bool} {kl : List Int} {v : Int} (hs : Small 20 8 l1 p1) (hs' : Small 20 8 l2 p2) (hk : Lim kl) (hn : kl.length ≤ 8) : ∃ o7b o7l o7p, (∀ (W0 : World) (A0_ : Option Addr) (c0_ : Nat) (A1_ : Option Addr) (c1_ : Nat) (A2_ : Option Addr) (c2_ : Nat), RI W0 A0_ c0_ l1 → RP W0 A1_ c1_ p1 → RI W0 A2_ c2_ kl → Calls Try.prog 24 #[.agg #[.bool b, .slice A0_ l1.length c0_, .slice A1_ p1.length c1_], .agg #[.bool kb, .slice A2_ kl.length c2_]] W0 (AL W0 o7b o7l o7p)) ∧ (∀ (W0 : World) (A0_ : Option Addr) (c0_ : Nat) (A1_ : Option Addr) (c1_ : Nat) (A2_ : Option Addr) (c2_ : Nat), RI W0 A0_ c0_ l1 → RP W0 A1_ c1_ p1 → RI W0 A2_ c2_ kl → Calls Try.prog 25 #[.agg #[.bool b, .slice A0_ l1.length c0_, .slice A1_ p1.length c1_], .agg #[.bool kb, .slice A2_ kl.length c2_]] W0 (AL W0 o7b o7l o7p)) ∧ OkS o7l o7p := by
  have hz := (B_in kb hk).mono hn
  have h1 := hs.num
  have hc : B 16 (wv b l1 * wv kb kl) := (hs.b b).mul hz
  have hl : (scP (wv kb kl) (p1.map prM)).length ≤ 20 := by unfold scP; rw [List.length_map, List.length_map]; exact h1
  have hq : BQ 36 (normP (scP (wv kb kl) (p1.map prM))) := (norm_B (scP_B hs.bq hz)).mono (by omega)
  obtain ⟨ks, hks⟩ := (scale_ev hs (by decide) (by decide) b kb kl hk (by omega)).rounds
  have hks : lin_Scale.f ks b l1 p1 kb kl = some ((W (wv b l1 * wv kb kl)).1, (W (wv b l1 * wv kb kl)).2, (normP (scP (wv kb kl) (p1.map prM))).map enP) := hks
  refine ⟨_, _, _, fun W0 A c B d A' c' r1 r2 r3 => (q_ScaleO r1 r2 r3 hks).mono (fun _ _ h => h.al), fun W0 A c B d A' c' r1 r2 r3 => (q_rScale (b := b) (b' := kb) r1 r2 r3 hs hk hn (by decide) (by decide)).mono (fun _ _ h => AK.al h), okS_SU (hc.mono (by decide)) (Nat.le_trans (norm_len _) (by omega)) (hq.mono (by decide))⟩
theorem sums8 {b b' : Bool} {l1 l2 : List Int} {p1 p2 : List S46} {kb : Bool} {kl : List Int} {v : Int} (hs : Small 20 8 l1 p1) (hs' : Small 20 8 l2 p2) (hk : Lim kl) (hn : kl.length ≤ 8) : ∃ o8b o8l o8p, (∀ (W0 : World) (A0_ : Option Addr) (c0_ : Nat) (A1_ : Option Addr) (c1_ : Nat) (A2_ : Option Addr) (c2_ : Nat) (A3_ : Option Addr) (c3_ : Nat), RI W0 A0_ c0_ l1 → RP W0 A1_ c1_ p1 → RI W0 A2_ c2_ l2 → RP W0 A3_ c3_ p2 → Calls Try.prog 26 #[.agg #[.bool b, .slice A0_ l1.length c0_, .slice A1_ p1.length c1_], .int .i64 v, .agg #[.bool b', .slice A2_ l2.length c2_, .slice A3_ p2.length c3_]] W0 (AL W0 o8b o8l o8p)) ∧ (∀ (W0 : World) (A0_ : Option Addr) (c0_ : Nat) (A1_ : Option Addr) (c1_ : Nat) (A2_ : Option Addr) (c2_ : Nat) (A3_ : Option Addr) (c3_ : Nat), RI W0 A0_ c0_ l1 → RP W0 A1_ c1_ p1 → RI W0 A2_ c2_ l2 → RP W0 A3_ c3_ p2 → Calls Try.prog 27 #[.agg #[.bool b, .slice A0_ l1.length c0_, .slice A1_ p1.length c1_], .int .i64 v, .agg #[.bool b', .slice A2_ l2.length c2_, .slice A3_ p2.length c3_]] W0 (AL W0 o8b o8l o8p)) ∧ OkS o8l o8p := by
  have h1 := hs.num
  have h2 := hs'.num
  have hz : B 28 (coef (p1.map prM) v) := (coef_B _ v hs.bq).mono (by rw [List.length_map]; omega)
  have hc : B 100 (wv b l1 + wv b' l2 * coef (p1.map prM) v) := (((hs.b b).mono (show 8 ≤ 99 by decide)).add (((hs'.b b').mul hz).mono (show 36 ≤ 99 by decide))).mono (by decide)
  have hsl : (normP (scP (coef (p1.map prM) v) (p2.map prM))).length ≤ 20 := Nat.le_trans (norm_len _) (by unfold scP; rw [List.length_map, List.length_map]; omega)
  have hdl : (dropV v p1).length ≤ 20 := Nat.le_trans (List.length_filter_le _ _) (by omega)
  have hsB : BQ 56 (normP (scP (coef (p1.map prM) v) (p2.map prM))) := (norm_B (scP_B hs'.bq hz)).mono (by unfold scP; rw [List.length_map, List.length_map]; omega)
  have hdB : BQ 56 ((dropV v p1).map prM) := fun x hx => by
    obtain ⟨y, hy, rfl⟩ := List.mem_map.1 hx
    exact (hs.bq _ (List.mem_map_of_mem (List.mem_filter.1 hy).1)).mono (by decide)
  have hl : ((dropV v p1).map prM ++ normP (scP (coef (p1.map prM) v) (p2.map prM))).length ≤ 40 := by rw [List.length_append, List.length_map]; omega
  have hq : BQ 100 (normP ((dropV v p1).map prM ++ normP (scP (coef (p1.map prM) v) (p2.map prM)))) := (norm_B (n := 56) (fun x hx => (List.mem_append.1 hx).elim (fun h => hdB x h) (fun h => hsB x h))).mono (by omega)
  refine ⟨_, _, _, fun W0 A c B d A' c' B' d' r1 r2 r3 r4 => (q_Put (b := b) (b' := b') v r1 r2 r3 r4 hs hs' (by decide) (by decide)).mono (fun _ _ h => h.al), fun W0 A c B d A' c' B' d' r1 r2 r3 r4 => (q_rPut (b := b) (b' := b') v r1 r2 r3 r4 hs hs').mono (fun _ _ h => AK.al h), okS_SU (hc.mono (by decide)) (Nat.le_trans (norm_len _) (by omega)) (hq.mono (by decide))⟩
theorem sums9 {b b' : Bool} {l1 l2 : List Int} {p1 p2 : List S46} {kb : Bool} {kl : List Int} {v : Int} (hs : Small 20 8 l1 p1) (hs' : Small 20 8 l2 p2) (hk : Lim kl) (hn : kl.length ≤ 8) : ∃ o9b o9l, (∀ (W0 : World) (A0_ : Option Addr) (c0_ : Nat) (A1_ : Option Addr) (c1_ : Nat), RI W0 A0_ c0_ l1 → RP W0 A1_ c1_ p1 → Calls Try.prog 28 #[.agg #[.bool b, .slice A0_ l1.length c0_, .slice A1_ p1.length c1_], .int .i64 v] W0 (AW W0 o9b o9l)) ∧ (∀ (W0 : World) (A0_ : Option Addr) (c0_ : Nat) (A1_ : Option Addr) (c1_ : Nat), RI W0 A0_ c0_ l1 → RP W0 A1_ c1_ p1 → Calls Try.prog 29 #[.agg #[.bool b, .slice A0_ l1.length c0_, .slice A1_ p1.length c1_], .int .i64 v] W0 (AW W0 o9b o9l)) ∧ o9l.length ≤ 1000000 := by
  have hz : B 28 (coef (p1.map prM) v) := (coef_B _ v hs.bq).mono (by rw [List.length_map]; have := hs.num; omega)
  exact ⟨_, _, fun W0 A c B d r1 r2 => q_At v r1 r2 hs (by decide) (by decide), fun W0 A c B d r1 r2 => (q_rAt (b := b) v r1 r2 hs (by decide) (by decide)).mono (fun _ _ h => AO.aw h), Nat.le_trans hz.len (by decide)⟩
theorem sums10 {b b' : Bool} {l1 l2 : List Int} {p1 p2 : List S46} {kb : Bool} {kl : List Int} {v : Int} (hs : Small 20 8 l1 p1) (hs' : Small 20 8 l2 p2) (hk : Lim kl) (hn : kl.length ≤ 8) : ∃ o10b o10l o10p, (∀ (W0 : World) (A0_ : Option Addr) (c0_ : Nat), RI W0 A0_ c0_ kl → Calls Try.prog 30 #[.agg #[.bool kb, .slice A0_ kl.length c0_]] W0 (AL W0 o10b o10l o10p)) ∧ (∀ (W0 : World) (A0_ : Option Addr) (c0_ : Nat), RI W0 A0_ c0_ kl → Calls Try.prog 21 #[.agg #[.bool kb, .slice A0_ kl.length c0_, .slice none 0 0]] W0 (AL W0 o10b o10l o10p)) ∧ OkS o10l o10p := by
  refine ⟨_, _, _, fun W0 A c r1 => q_LOf r1 hk (by omega), fun W0 A c r1 => ?_, ⟨Nat.le_trans ((B_in kb hk).mono hn).len (by decide), Nat.zero_le _, by simp⟩⟩
  have hsm : Small 20 8 kl [] := ⟨hk, hn, Nat.zero_le _, by simp⟩
  exact (q_rLNorm (b := kb) r1 (RP.nil W0) hsm (by decide) (by decide)).mono (fun _ _ h => AK.al h)
set_option maxHeartbeats 4000000 in
set_option maxRecDepth 100000 in
theorem law_LinSums (b : Bool) (A1 : Option Addr) (c1 : Nat) (l1 : List Int) (A2 : Option Addr) (c2 : Nat) (p1 : List S46) (b' : Bool) (A3 : Option Addr) (c3 : Nat) (l2 : List Int) (A4 : Option Addr) (c4 : Nat) (p2 : List S46) (v : Int) (kb : Bool) (A5 : Option Addr) (c5 : Nat) (kl : List Int) (w : World) (r1 : RI w A1 c1 l1) (r2 : RP w A2 c2 p1) (r3 : RI w A3 c3 l2) (r4 : RP w A4 c4 p2) (r5 : RI w A5 c5 kl) (h1 : Lim l1) (h2 : ∀ x ∈ p1, Lim x.f1.f1) (h3 : Lim l2) (h4 : ∀ x ∈ p2, Lim x.f1.f1) (h5 : Lim kl) :
    Calls Try.prog 6 #[.agg #[.bool b, .slice A1 l1.length c1, .slice A2 p1.length c2], .agg #[.bool b', .slice A3 l2.length c3, .slice A4 p2.length c4], .int .i64 v, .agg #[.bool kb, .slice A5 kl.length c5]] w fun e w' => e = .returned (.bool true) ∧ Below w.heap.size w w' := by
  have mixed : Try.prog.follows Departure.mixedOrders = true := by kernel_rfl
  have hu27 := Try.underlying27
  have hu24 := Try.underlying24
  have hu46 := Try.underlying46
  obtain ⟨kk, hkl⟩ := (light_ev b b' l1 l2 p1 p2).rounds
  generalize hlt : (lightB l1 p1 && lightB l2 p2) = lt at hkl
  have HLT := Aside0.mk hlt
  have HLM := Aside0.mk (And.intro (And.intro h1 h2) (And.intro (And.intro h3 h4) h5))
  have HKL := Aside0.mk hkl
  have R1 := Aside0.mk r1
  have R2 := Aside0.mk r2
  have R3 := Aside0.mk r3
  have R4 := Aside0.mk r4
  have R5 := Aside0.mk r5
  have HB := Aside0.mk (Below.refl w.heap.size w)
  clear hlt h1 h2 h3 h4 h5 hkl r1 r2 r3 r4 r5
  go_enter Try.func6, Try.ntmps6
  go_upto_region 3 with (first
    | ((with_reducible refine gate_dst (N := 4) rfl ?_); refine box_event ?hg (N := 4) ?hd (cs := #[.bool b, .slice A1 l1.length c1, .slice A2 p1.length c2]) (t := 27) ?hr ?_; (case hd => rfl); (case hg => rfl); (case hr => first | (go_simp; done) | (go_simp; rfl)); intro gA hg w1 hbox hb; have R1 := Aside0.mk (R1.out.b hb); have R2 := Aside0.mk (R2.out.b hb); have R3 := Aside0.mk (R3.out.b hb); have R4 := Aside0.mk (R4.out.b hb); have R5 := Aside0.mk (R5.out.b hb); have HB := Aside0.mk (below_step HB.out hb); have KA := Aside0.mk hbox; clear hg hbox hb)
    | ((with_reducible refine gate_dst (N := 5) rfl ?_); refine box_event ?hg (N := 5) ?hd (cs := #[.bool b', .slice A3 l2.length c3, .slice A4 p2.length c4]) (t := 27) ?hr ?_; (case hd => rfl); (case hg => rfl); (case hr => first | (go_simp; done) | (go_simp; rfl)); intro gB hg w2 hbox hb; have KA := Aside0.mk (blk_below KA.out hb); have R1 := Aside0.mk (R1.out.b hb); have R2 := Aside0.mk (R2.out.b hb); have R3 := Aside0.mk (R3.out.b hb); have R4 := Aside0.mk (R4.out.b hb); have R5 := Aside0.mk (R5.out.b hb); have HB := Aside0.mk (below_step HB.out hb); have KB := Aside0.mk hbox; clear hg hbox hb)
    | ((with_reducible refine gate_dst (N := 7) rfl ?_); refine box_event ?hg (N := 7) ?hd (cs := #[.bool kb, .slice A5 kl.length c5]) (t := 24) ?hr ?_; (case hd => rfl); (case hg => rfl); (case hr => first | (go_simp; done) | (go_simp; rfl)); intro gC hg w3 hbox hb; have KA := Aside0.mk (blk_below KA.out hb); have KB := Aside0.mk (blk_below KB.out hb); have R1 := Aside0.mk (R1.out.b hb); have R2 := Aside0.mk (R2.out.b hb); have R3 := Aside0.mk (R3.out.b hb); have R4 := Aside0.mk (R4.out.b hb); have R5 := Aside0.mk (R5.out.b hb); have HB := Aside0.mk (below_step HB.out hb); have KC := Aside0.mk hbox; clear hg hbox hb)
    | (go_at_call 9; (with_reducible refine (q_awake _).mono ?_); rintro e w4 ⟨rfl, hb⟩; have KA := Aside0.mk (blk_below KA.out hb); have KB := Aside0.mk (blk_below KB.out hb); have KC := Aside0.mk (blk_below KC.out hb); have R1 := Aside0.mk (R1.out.b hb); have R2 := Aside0.mk (R2.out.b hb); have R3 := Aside0.mk (R3.out.b hb); have R4 := Aside0.mk (R4.out.b hb); have R5 := Aside0.mk (R5.out.b hb); have HB := Aside0.mk (below_step HB.out hb); clear hb; have cKA := blk_all KA.out; have cKB := blk_all KB.out; have cKC := blk_all KC.out)
    | (go_at_call 10; (with_reducible refine (q_light R1.out R2.out R3.out R4.out HKL.out).mono ?_); rintro e w5 ⟨rfl, hb⟩; have KA := Aside0.mk (blk_below KA.out hb); have KB := Aside0.mk (blk_below KB.out hb); have KC := Aside0.mk (blk_below KC.out hb); have R1 := Aside0.mk (R1.out.b hb); have R2 := Aside0.mk (R2.out.b hb); have R3 := Aside0.mk (R3.out.b hb); have R4 := Aside0.mk (R4.out.b hb); have R5 := Aside0.mk (R5.out.b hb); have HB := Aside0.mk (below_step HB.out hb); clear hb; have cKA := blk_all KA.out; have cKB := blk_all KB.out; have cKC := blk_all KC.out))
  by_cases hall : lt = true ∧ kl.length ≤ 8
  rotate_left
  · cases lt with
    | false =>
      go_wp2
      go_ret
      exact ⟨rfl, HB.out⟩
    | true =>
      have d1 : decide ((kl.length : Int) > 8) = true := decide_eq_true (by have : ¬kl.length ≤ 8 := fun e => hall ⟨rfl, e⟩; omega)
      have d2 : decide (8 < (kl.length : Int)) = true := d1
      have d3 : decide (8 < kl.length) = true := decide_eq_true (by have : ¬kl.length ≤ 8 := fun e => hall ⟨rfl, e⟩; omega)
      clear hall
      go_wp2
      go_ret
      exact ⟨rfl, HB.out⟩
  · obtain ⟨rfl, hk8⟩ := hall
    have d1 : decide ((kl.length : Int) > 8) = false := decide_eq_false (by omega)
    have d2 : decide (8 < (kl.length : Int)) = false := d1
    have d3 : decide (8 < kl.length) = false := decide_eq_false (by omega)
    have hlb := HLT.out
    rw [Bool.and_eq_true] at hlb
    have hs := small_of hlb.1 HLM.out.1.1 HLM.out.1.2
    have hs' := small_of hlb.2 HLM.out.2.1.1 HLM.out.2.1.2
    have hk := HLM.out.2.2
    obtain ⟨o5b, o5l, o5p, h5⟩ := sums5 (b := b) (b' := b') (kb := kb) (v := v) hs hs' hk hk8
    have H5 := Aside0.mk h5
    obtain ⟨o6b, o6l, o6p, h6⟩ := sums6 (b := b) (b' := b') (kb := kb) (v := v) hs hs' hk hk8
    have H6 := Aside0.mk h6
    obtain ⟨o7b, o7l, o7p, h7⟩ := sums7 (b := b) (b' := b') (kb := kb) (v := v) hs hs' hk hk8
    have H7 := Aside0.mk h7
    obtain ⟨o8b, o8l, o8p, h8⟩ := sums8 (b := b) (b' := b') (kb := kb) (v := v) hs hs' hk hk8
    have H8 := Aside0.mk h8
    obtain ⟨o9b, o9l, h9⟩ := sums9 (b := b) (b' := b') (kb := kb) (v := v) hs hs' hk hk8
    have H9 := Aside0.mk h9
    obtain ⟨o10b, o10l, o10p, h10⟩ := sums10 (b := b) (b' := b') (kb := kb) (v := v) hs hs' hk hk8
    have H10 := Aside0.mk h10
    obtain ⟨ko, hko⟩ := rOf1
    have HOF := Aside0.mk hko
    have HOL := Aside0.mk (show (W 1).2.length ≤ 1000000 by rw [W_pos (by decide) (by decide)]; decide)
    clear hlb hs hs' hk hk8 hko h5 h6 h7 h8 h9 h10 HLT HLM
    go_wp2_with fail
    have cA := blk_all KA.out; have cB := blk_all KB.out; have cC := blk_all KC.out
    refine start_ (n := 6) (S := fun w' => (∀ i : Nat, w'.cell? ⟨gA, i, none⟩ = (#[.bool b, .slice A1 l1.length c1, .slice A2 p1.length c2] : Array Value)[i]?) ∧ (∀ i : Nat, w'.cell? ⟨gB, i, none⟩ = (#[.bool b', .slice A3 l2.length c3, .slice A4 p2.length c4] : Array Value)[i]?) ∧ (∀ i : Nat, w'.cell? ⟨gC, i, none⟩ = (#[.bool kb, .slice A5 kl.length c5] : Array Value)[i]?)) (ds := []) #[false, false, false, false, false, false] (by kernel_rfl) rfl rfl ⟨blk_all KA.out, blk_all KB.out, blk_all KC.out⟩ (fun hHeld => ?_)
    refine take_ (i := 0) (N := some 35) (v := ?_) (a' := ?_) #[true, false, false, false, false, false] rfl rfl (by kernel_rfl) (fun _ _ _ h => h) (Or.inl ⟨by rfl, ?_⟩) hHeld ?_ ?_
    rotate_left
    · rintro w' ⟨s0, s1, s2⟩
      go_simp
      with_reducible rfl
    rotate_left
    · simp only [Act.put, List.setIfInBounds_toArray, List.set_cons_zero, List.set_cons_succ, i64_w, i32_w]
      rfl
    refine take_ (i := 2) (N := some 37) (v := ?_) (a' := ?_) #[true, false, true, false, false, false] rfl rfl (by kernel_rfl) (fun _ _ _ h => h) (Or.inl ⟨by rfl, ?_⟩) hHeld ?_ ?_
    rotate_left
    · rintro w' ⟨s0, s1, s2⟩
      go_simp
      with_reducible rfl
    rotate_left
    · simp only [Act.put, List.setIfInBounds_toArray, List.set_cons_zero, List.set_cons_succ, i64_w, i32_w]
      rfl
    refine one_ (i := 1) (N := some 36) #[true, true, true, false, false, false] rfl rfl (by kernel_rfl) (by decide) (fun K hK => ?_)
    refine goes_ Try.func20 (by kernel_rfl) rfl #[.agg #[.bool b, .slice A1 l1.length c1, .slice A2 p1.length c2]] (by rfl) rfl rfl (by simp only [List.map_toArray, List.map_cons, List.map_nil]; rfl) ?_
    with_reducible refine (H5.out.1 _ _ _ _ _ (R1.out.b (below_drew1 (Below.refl w5.heap.size w5))) (R2.out.b (below_drew1 (Below.refl w5.heap.size w5)))).mono ?_
    rintro e w101 ⟨Ax5a, cx5a, Bx5a, dx5a, rfl, rx5a, sx5a, hb⟩
    have hb := below_step (below_drew1 (Below.refl w5.heap.size w5)) hb
    have KA := Aside0.mk (blk_below KA.out hb); have KB := Aside0.mk (blk_below KB.out hb); have KC := Aside0.mk (blk_below KC.out hb); have R1 := Aside0.mk (R1.out.b hb); have R2 := Aside0.mk (R2.out.b hb); have R3 := Aside0.mk (R3.out.b hb); have R4 := Aside0.mk (R4.out.b hb); have R5 := Aside0.mk (R5.out.b hb); have HB := Aside0.mk (below_step HB.out hb)
    have Rx5a := Aside0.mk rx5a
    have Sx5a := Aside0.mk sx5a
    clear hb rx5a sx5a
    refine ⟨_, rfl, ?_⟩
    refine hK.out _ _ ⟨blk_all KA.out, blk_all KB.out, blk_all KC.out⟩ (fun hHeld => ?_)
    clear hK K
    refine norm_ (a' := ?_) ?_ ?_
    rotate_left
    · show Act.put _ (some 36) _ = _
      simp only [Act.put, List.setIfInBounds_toArray, List.set_cons_zero, List.set_cons_succ, i64_w, i32_w]
      rfl
    refine one_ (i := 3) (N := some 38) #[true, true, true, true, false, false] rfl rfl (by kernel_rfl) (by decide) (fun K hK => ?_)
    refine goes_ Try.func21 (by kernel_rfl) rfl #[.agg #[.bool b, .slice A1 l1.length c1, .slice A2 p1.length c2]] (by rfl) rfl rfl (by simp only [List.map_toArray, List.map_cons, List.map_nil]; rfl) ?_
    with_reducible refine (H5.out.2.1 _ _ _ _ _ R1.out R2.out).mono ?_
    rintro e w102 ⟨Ax5b, cx5b, Bx5b, dx5b, rfl, rx5b, sx5b, hb⟩
    have KA := Aside0.mk (blk_below KA.out hb); have KB := Aside0.mk (blk_below KB.out hb); have KC := Aside0.mk (blk_below KC.out hb); have R1 := Aside0.mk (R1.out.b hb); have R2 := Aside0.mk (R2.out.b hb); have R3 := Aside0.mk (R3.out.b hb); have R4 := Aside0.mk (R4.out.b hb); have R5 := Aside0.mk (R5.out.b hb); have Rx5a := Aside0.mk (Rx5a.out.b hb); have Sx5a := Aside0.mk (Sx5a.out.b hb); have HB := Aside0.mk (below_step HB.out hb)
    have Rx5b := Aside0.mk rx5b
    have Sx5b := Aside0.mk sx5b
    clear hb rx5b sx5b
    refine ⟨_, rfl, ?_⟩
    refine hK.out _ _ ⟨blk_all KA.out, blk_all KB.out, blk_all KC.out⟩ (fun hHeld => ?_)
    clear hK K
    refine norm_ (a' := ?_) ?_ ?_
    rotate_left
    · show Act.put _ (some 38) _ = _
      simp only [Act.put, List.setIfInBounds_toArray, List.set_cons_zero, List.set_cons_succ, i64_w, i32_w]
      rfl
    refine one_ (i := 4) (N := some 39) #[true, true, true, true, true, false] rfl rfl (by kernel_rfl) (by decide) (fun K hK => ?_)
    refine goes_ Try.func15 (by kernel_rfl) rfl #[.agg #[.bool o5b, .slice Ax5a o5l.length cx5a, .slice Bx5a o5p.length dx5a], .agg #[.bool o5b, .slice Ax5b o5l.length cx5b, .slice Bx5b o5p.length dx5b]] (by rfl) rfl rfl (by simp only [List.map_toArray, List.map_cons, List.map_nil]; rfl) ?_
    with_reducible refine (q_Same Rx5a.out Sx5a.out Rx5b.out Sx5b.out H5.out.2.2).mono ?_
    rintro e w103 ⟨rfl, hb⟩
    have KA := Aside0.mk (blk_below KA.out hb); have KB := Aside0.mk (blk_below KB.out hb); have KC := Aside0.mk (blk_below KC.out hb); have R1 := Aside0.mk (R1.out.b hb); have R2 := Aside0.mk (R2.out.b hb); have R3 := Aside0.mk (R3.out.b hb); have R4 := Aside0.mk (R4.out.b hb); have R5 := Aside0.mk (R5.out.b hb); have HB := Aside0.mk (below_step HB.out hb)
    clear hb Rx5a Sx5a Rx5b Sx5b
    refine ⟨_, rfl, ?_⟩
    refine hK.out _ _ ⟨blk_all KA.out, blk_all KB.out, blk_all KC.out⟩ (fun hHeld => ?_)
    clear hK K
    refine norm_ (a' := ?_) ?_ ?_
    rotate_left
    · show Act.put _ (some 39) _ = _
      simp only [Act.put, List.setIfInBounds_toArray, List.set_cons_zero, List.set_cons_succ, i64_w, i32_w]
      rfl
    refine pure_ (i := 5) (N := some 11) (v := ?_) (a' := ?_) #[true, true, true, true, true, true] rfl rfl (by kernel_rfl) (fun _ _ _ h => h) (Or.inl ⟨by rfl, ?_⟩) ?_ ?_
    rotate_left
    · intro w'
      go_simp
      with_reducible rfl
    rotate_left
    · simp only [Act.put, List.setIfInBounds_toArray, List.set_cons_zero, List.set_cons_succ, i64_w, i32_w]
      rfl
    refine done_ (by kernel_rfl) ?_

    go_wp2_with fail
    have cA := blk_all KA.out; have cB := blk_all KB.out; have cC := blk_all KC.out
    refine start_ (n := 8) (S := fun w' => (∀ i : Nat, w'.cell? ⟨gA, i, none⟩ = (#[.bool b, .slice A1 l1.length c1, .slice A2 p1.length c2] : Array Value)[i]?) ∧ (∀ i : Nat, w'.cell? ⟨gB, i, none⟩ = (#[.bool b', .slice A3 l2.length c3, .slice A4 p2.length c4] : Array Value)[i]?) ∧ (∀ i : Nat, w'.cell? ⟨gC, i, none⟩ = (#[.bool kb, .slice A5 kl.length c5] : Array Value)[i]?)) (ds := []) #[false, false, false, false, false, false, false, false] (by kernel_rfl) rfl rfl ⟨blk_all KA.out, blk_all KB.out, blk_all KC.out⟩ (fun hHeld => ?_)
    refine take_ (i := 0) (N := some 40) (v := ?_) (a' := ?_) #[true, false, false, false, false, false, false, false] rfl rfl (by kernel_rfl) (fun _ _ _ h => h) (Or.inl ⟨by rfl, ?_⟩) hHeld ?_ ?_
    rotate_left
    · rintro w' ⟨s0, s1, s2⟩
      go_simp
      with_reducible rfl
    rotate_left
    · simp only [Act.put, List.setIfInBounds_toArray, List.set_cons_zero, List.set_cons_succ, i64_w, i32_w]
      rfl
    refine take_ (i := 1) (N := some 41) (v := ?_) (a' := ?_) #[true, true, false, false, false, false, false, false] rfl rfl (by kernel_rfl) (fun _ _ _ h => h) (Or.inl ⟨by rfl, ?_⟩) hHeld ?_ ?_
    rotate_left
    · rintro w' ⟨s0, s1, s2⟩
      go_simp
      with_reducible rfl
    rotate_left
    · simp only [Act.put, List.setIfInBounds_toArray, List.set_cons_zero, List.set_cons_succ, i64_w, i32_w]
      rfl
    refine take_ (i := 3) (N := some 43) (v := ?_) (a' := ?_) #[true, true, false, true, false, false, false, false] rfl rfl (by kernel_rfl) (fun _ _ _ h => h) (Or.inl ⟨by rfl, ?_⟩) hHeld ?_ ?_
    rotate_left
    · rintro w' ⟨s0, s1, s2⟩
      go_simp
      with_reducible rfl
    rotate_left
    · simp only [Act.put, List.setIfInBounds_toArray, List.set_cons_zero, List.set_cons_succ, i64_w, i32_w]
      rfl
    refine take_ (i := 4) (N := some 44) (v := ?_) (a' := ?_) #[true, true, false, true, true, false, false, false] rfl rfl (by kernel_rfl) (fun _ _ _ h => h) (Or.inl ⟨by rfl, ?_⟩) hHeld ?_ ?_
    rotate_left
    · rintro w' ⟨s0, s1, s2⟩
      go_simp
      with_reducible rfl
    rotate_left
    · simp only [Act.put, List.setIfInBounds_toArray, List.set_cons_zero, List.set_cons_succ, i64_w, i32_w]
      rfl
    refine one_ (i := 2) (N := some 42) #[true, true, true, true, true, false, false, false] rfl rfl (by kernel_rfl) (by decide) (fun K hK => ?_)
    refine goes_ Try.func22 (by kernel_rfl) rfl #[.agg #[.bool b, .slice A1 l1.length c1, .slice A2 p1.length c2], .agg #[.bool b', .slice A3 l2.length c3, .slice A4 p2.length c4]] (by rfl) rfl rfl (by simp only [List.map_toArray, List.map_cons, List.map_nil]; rfl) ?_
    with_reducible refine (H6.out.1 _ _ _ _ _ _ _ _ _ (R1.out.b (below_drew1 (Below.refl w103.heap.size w103))) (R2.out.b (below_drew1 (Below.refl w103.heap.size w103))) (R3.out.b (below_drew1 (Below.refl w103.heap.size w103))) (R4.out.b (below_drew1 (Below.refl w103.heap.size w103)))).mono ?_
    rintro e w104 ⟨Ax6a, cx6a, Bx6a, dx6a, rfl, rx6a, sx6a, hb⟩
    have hb := below_step (below_drew1 (Below.refl w103.heap.size w103)) hb
    have KA := Aside0.mk (blk_below KA.out hb); have KB := Aside0.mk (blk_below KB.out hb); have KC := Aside0.mk (blk_below KC.out hb); have R1 := Aside0.mk (R1.out.b hb); have R2 := Aside0.mk (R2.out.b hb); have R3 := Aside0.mk (R3.out.b hb); have R4 := Aside0.mk (R4.out.b hb); have R5 := Aside0.mk (R5.out.b hb); have HB := Aside0.mk (below_step HB.out hb)
    have Rx6a := Aside0.mk rx6a
    have Sx6a := Aside0.mk sx6a
    clear hb rx6a sx6a
    refine ⟨_, rfl, ?_⟩
    refine hK.out _ _ ⟨blk_all KA.out, blk_all KB.out, blk_all KC.out⟩ (fun hHeld => ?_)
    clear hK K
    refine norm_ (a' := ?_) ?_ ?_
    rotate_left
    · show Act.put _ (some 42) _ = _
      simp only [Act.put, List.setIfInBounds_toArray, List.set_cons_zero, List.set_cons_succ, i64_w, i32_w]
      rfl
    refine one_ (i := 5) (N := some 45) #[true, true, true, true, true, true, false, false] rfl rfl (by kernel_rfl) (by decide) (fun K hK => ?_)
    refine goes_ Try.func23 (by kernel_rfl) rfl #[.agg #[.bool b, .slice A1 l1.length c1, .slice A2 p1.length c2], .agg #[.bool b', .slice A3 l2.length c3, .slice A4 p2.length c4]] (by rfl) rfl rfl (by simp only [List.map_toArray, List.map_cons, List.map_nil]; rfl) ?_
    with_reducible refine (H6.out.2.1 _ _ _ _ _ _ _ _ _ R1.out R2.out R3.out R4.out).mono ?_
    rintro e w105 ⟨Ax6b, cx6b, Bx6b, dx6b, rfl, rx6b, sx6b, hb⟩
    have KA := Aside0.mk (blk_below KA.out hb); have KB := Aside0.mk (blk_below KB.out hb); have KC := Aside0.mk (blk_below KC.out hb); have R1 := Aside0.mk (R1.out.b hb); have R2 := Aside0.mk (R2.out.b hb); have R3 := Aside0.mk (R3.out.b hb); have R4 := Aside0.mk (R4.out.b hb); have R5 := Aside0.mk (R5.out.b hb); have Rx6a := Aside0.mk (Rx6a.out.b hb); have Sx6a := Aside0.mk (Sx6a.out.b hb); have HB := Aside0.mk (below_step HB.out hb)
    have Rx6b := Aside0.mk rx6b
    have Sx6b := Aside0.mk sx6b
    clear hb rx6b sx6b
    refine ⟨_, rfl, ?_⟩
    refine hK.out _ _ ⟨blk_all KA.out, blk_all KB.out, blk_all KC.out⟩ (fun hHeld => ?_)
    clear hK K
    refine norm_ (a' := ?_) ?_ ?_
    rotate_left
    · show Act.put _ (some 45) _ = _
      simp only [Act.put, List.setIfInBounds_toArray, List.set_cons_zero, List.set_cons_succ, i64_w, i32_w]
      rfl
    refine one_ (i := 6) (N := some 46) #[true, true, true, true, true, true, true, false] rfl rfl (by kernel_rfl) (by decide) (fun K hK => ?_)
    refine goes_ Try.func15 (by kernel_rfl) rfl #[.agg #[.bool o6b, .slice Ax6a o6l.length cx6a, .slice Bx6a o6p.length dx6a], .agg #[.bool o6b, .slice Ax6b o6l.length cx6b, .slice Bx6b o6p.length dx6b]] (by rfl) rfl rfl (by simp only [List.map_toArray, List.map_cons, List.map_nil]; rfl) ?_
    with_reducible refine (q_Same Rx6a.out Sx6a.out Rx6b.out Sx6b.out H6.out.2.2).mono ?_
    rintro e w106 ⟨rfl, hb⟩
    have KA := Aside0.mk (blk_below KA.out hb); have KB := Aside0.mk (blk_below KB.out hb); have KC := Aside0.mk (blk_below KC.out hb); have R1 := Aside0.mk (R1.out.b hb); have R2 := Aside0.mk (R2.out.b hb); have R3 := Aside0.mk (R3.out.b hb); have R4 := Aside0.mk (R4.out.b hb); have R5 := Aside0.mk (R5.out.b hb); have HB := Aside0.mk (below_step HB.out hb)
    clear hb Rx6a Sx6a Rx6b Sx6b
    refine ⟨_, rfl, ?_⟩
    refine hK.out _ _ ⟨blk_all KA.out, blk_all KB.out, blk_all KC.out⟩ (fun hHeld => ?_)
    clear hK K
    refine norm_ (a' := ?_) ?_ ?_
    rotate_left
    · show Act.put _ (some 46) _ = _
      simp only [Act.put, List.setIfInBounds_toArray, List.set_cons_zero, List.set_cons_succ, i64_w, i32_w]
      rfl
    refine pure_ (i := 7) (N := some 12) (v := ?_) (a' := ?_) #[true, true, true, true, true, true, true, true] rfl rfl (by kernel_rfl) (fun _ _ _ h => h) (Or.inl ⟨by rfl, ?_⟩) ?_ ?_
    rotate_left
    · intro w'
      go_simp
      with_reducible rfl
    rotate_left
    · simp only [Act.put, List.setIfInBounds_toArray, List.set_cons_zero, List.set_cons_succ, i64_w, i32_w]
      rfl
    refine done_ (by kernel_rfl) ?_

    go_wp2_with fail
    have cA := blk_all KA.out; have cB := blk_all KB.out; have cC := blk_all KC.out
    refine start_ (n := 8) (S := fun w' => (∀ i : Nat, w'.cell? ⟨gA, i, none⟩ = (#[.bool b, .slice A1 l1.length c1, .slice A2 p1.length c2] : Array Value)[i]?) ∧ (∀ i : Nat, w'.cell? ⟨gB, i, none⟩ = (#[.bool b', .slice A3 l2.length c3, .slice A4 p2.length c4] : Array Value)[i]?) ∧ (∀ i : Nat, w'.cell? ⟨gC, i, none⟩ = (#[.bool kb, .slice A5 kl.length c5] : Array Value)[i]?)) (ds := []) #[false, false, false, false, false, false, false, false] (by kernel_rfl) rfl rfl ⟨blk_all KA.out, blk_all KB.out, blk_all KC.out⟩ (fun hHeld => ?_)
    refine take_ (i := 0) (N := some 47) (v := ?_) (a' := ?_) #[true, false, false, false, false, false, false, false] rfl rfl (by kernel_rfl) (fun _ _ _ h => h) (Or.inl ⟨by rfl, ?_⟩) hHeld ?_ ?_
    rotate_left
    · rintro w' ⟨s0, s1, s2⟩
      go_simp
      with_reducible rfl
    rotate_left
    · simp only [Act.put, List.setIfInBounds_toArray, List.set_cons_zero, List.set_cons_succ, i64_w, i32_w]
      rfl
    refine take_ (i := 1) (N := some 48) (v := ?_) (a' := ?_) #[true, true, false, false, false, false, false, false] rfl rfl (by kernel_rfl) (fun _ _ _ h => h) (Or.inl ⟨by rfl, ?_⟩) hHeld ?_ ?_
    rotate_left
    · rintro w' ⟨s0, s1, s2⟩
      go_simp
      with_reducible rfl
    rotate_left
    · simp only [Act.put, List.setIfInBounds_toArray, List.set_cons_zero, List.set_cons_succ, i64_w, i32_w]
      rfl
    refine take_ (i := 3) (N := some 50) (v := ?_) (a' := ?_) #[true, true, false, true, false, false, false, false] rfl rfl (by kernel_rfl) (fun _ _ _ h => h) (Or.inl ⟨by rfl, ?_⟩) hHeld ?_ ?_
    rotate_left
    · rintro w' ⟨s0, s1, s2⟩
      go_simp
      with_reducible rfl
    rotate_left
    · simp only [Act.put, List.setIfInBounds_toArray, List.set_cons_zero, List.set_cons_succ, i64_w, i32_w]
      rfl
    refine take_ (i := 4) (N := some 51) (v := ?_) (a' := ?_) #[true, true, false, true, true, false, false, false] rfl rfl (by kernel_rfl) (fun _ _ _ h => h) (Or.inl ⟨by rfl, ?_⟩) hHeld ?_ ?_
    rotate_left
    · rintro w' ⟨s0, s1, s2⟩
      go_simp
      with_reducible rfl
    rotate_left
    · simp only [Act.put, List.setIfInBounds_toArray, List.set_cons_zero, List.set_cons_succ, i64_w, i32_w]
      rfl
    refine one_ (i := 2) (N := some 49) #[true, true, true, true, true, false, false, false] rfl rfl (by kernel_rfl) (by decide) (fun K hK => ?_)
    refine goes_ Try.func24 (by kernel_rfl) rfl #[.agg #[.bool b, .slice A1 l1.length c1, .slice A2 p1.length c2], .agg #[.bool kb, .slice A5 kl.length c5]] (by rfl) rfl rfl (by simp only [List.map_toArray, List.map_cons, List.map_nil]; rfl) ?_
    with_reducible refine (H7.out.1 _ _ _ _ _ _ _ (R1.out.b (below_drew1 (Below.refl w106.heap.size w106))) (R2.out.b (below_drew1 (Below.refl w106.heap.size w106))) (R5.out.b (below_drew1 (Below.refl w106.heap.size w106)))).mono ?_
    rintro e w107 ⟨Ax7a, cx7a, Bx7a, dx7a, rfl, rx7a, sx7a, hb⟩
    have hb := below_step (below_drew1 (Below.refl w106.heap.size w106)) hb
    have KA := Aside0.mk (blk_below KA.out hb); have KB := Aside0.mk (blk_below KB.out hb); have KC := Aside0.mk (blk_below KC.out hb); have R1 := Aside0.mk (R1.out.b hb); have R2 := Aside0.mk (R2.out.b hb); have R3 := Aside0.mk (R3.out.b hb); have R4 := Aside0.mk (R4.out.b hb); have R5 := Aside0.mk (R5.out.b hb); have HB := Aside0.mk (below_step HB.out hb)
    have Rx7a := Aside0.mk rx7a
    have Sx7a := Aside0.mk sx7a
    clear hb rx7a sx7a
    refine ⟨_, rfl, ?_⟩
    refine hK.out _ _ ⟨blk_all KA.out, blk_all KB.out, blk_all KC.out⟩ (fun hHeld => ?_)
    clear hK K
    refine norm_ (a' := ?_) ?_ ?_
    rotate_left
    · show Act.put _ (some 49) _ = _
      simp only [Act.put, List.setIfInBounds_toArray, List.set_cons_zero, List.set_cons_succ, i64_w, i32_w]
      rfl
    refine one_ (i := 5) (N := some 52) #[true, true, true, true, true, true, false, false] rfl rfl (by kernel_rfl) (by decide) (fun K hK => ?_)
    refine goes_ Try.func25 (by kernel_rfl) rfl #[.agg #[.bool b, .slice A1 l1.length c1, .slice A2 p1.length c2], .agg #[.bool kb, .slice A5 kl.length c5]] (by rfl) rfl rfl (by simp only [List.map_toArray, List.map_cons, List.map_nil]; rfl) ?_
    with_reducible refine (H7.out.2.1 _ _ _ _ _ _ _ R1.out R2.out R5.out).mono ?_
    rintro e w108 ⟨Ax7b, cx7b, Bx7b, dx7b, rfl, rx7b, sx7b, hb⟩
    have KA := Aside0.mk (blk_below KA.out hb); have KB := Aside0.mk (blk_below KB.out hb); have KC := Aside0.mk (blk_below KC.out hb); have R1 := Aside0.mk (R1.out.b hb); have R2 := Aside0.mk (R2.out.b hb); have R3 := Aside0.mk (R3.out.b hb); have R4 := Aside0.mk (R4.out.b hb); have R5 := Aside0.mk (R5.out.b hb); have Rx7a := Aside0.mk (Rx7a.out.b hb); have Sx7a := Aside0.mk (Sx7a.out.b hb); have HB := Aside0.mk (below_step HB.out hb)
    have Rx7b := Aside0.mk rx7b
    have Sx7b := Aside0.mk sx7b
    clear hb rx7b sx7b
    refine ⟨_, rfl, ?_⟩
    refine hK.out _ _ ⟨blk_all KA.out, blk_all KB.out, blk_all KC.out⟩ (fun hHeld => ?_)
    clear hK K
    refine norm_ (a' := ?_) ?_ ?_
    rotate_left
    · show Act.put _ (some 52) _ = _
      simp only [Act.put, List.setIfInBounds_toArray, List.set_cons_zero, List.set_cons_succ, i64_w, i32_w]
      rfl
    refine one_ (i := 6) (N := some 53) #[true, true, true, true, true, true, true, false] rfl rfl (by kernel_rfl) (by decide) (fun K hK => ?_)
    refine goes_ Try.func15 (by kernel_rfl) rfl #[.agg #[.bool o7b, .slice Ax7a o7l.length cx7a, .slice Bx7a o7p.length dx7a], .agg #[.bool o7b, .slice Ax7b o7l.length cx7b, .slice Bx7b o7p.length dx7b]] (by rfl) rfl rfl (by simp only [List.map_toArray, List.map_cons, List.map_nil]; rfl) ?_
    with_reducible refine (q_Same Rx7a.out Sx7a.out Rx7b.out Sx7b.out H7.out.2.2).mono ?_
    rintro e w109 ⟨rfl, hb⟩
    have KA := Aside0.mk (blk_below KA.out hb); have KB := Aside0.mk (blk_below KB.out hb); have KC := Aside0.mk (blk_below KC.out hb); have R1 := Aside0.mk (R1.out.b hb); have R2 := Aside0.mk (R2.out.b hb); have R3 := Aside0.mk (R3.out.b hb); have R4 := Aside0.mk (R4.out.b hb); have R5 := Aside0.mk (R5.out.b hb); have HB := Aside0.mk (below_step HB.out hb)
    clear hb Rx7a Sx7a Rx7b Sx7b
    refine ⟨_, rfl, ?_⟩
    refine hK.out _ _ ⟨blk_all KA.out, blk_all KB.out, blk_all KC.out⟩ (fun hHeld => ?_)
    clear hK K
    refine norm_ (a' := ?_) ?_ ?_
    rotate_left
    · show Act.put _ (some 53) _ = _
      simp only [Act.put, List.setIfInBounds_toArray, List.set_cons_zero, List.set_cons_succ, i64_w, i32_w]
      rfl
    refine pure_ (i := 7) (N := some 13) (v := ?_) (a' := ?_) #[true, true, true, true, true, true, true, true] rfl rfl (by kernel_rfl) (fun _ _ _ h => h) (Or.inl ⟨by rfl, ?_⟩) ?_ ?_
    rotate_left
    · intro w'
      go_simp
      with_reducible rfl
    rotate_left
    · simp only [Act.put, List.setIfInBounds_toArray, List.set_cons_zero, List.set_cons_succ, i64_w, i32_w]
      rfl
    refine done_ (by kernel_rfl) ?_

    go_wp2_with fail
    have cA := blk_all KA.out; have cB := blk_all KB.out; have cC := blk_all KC.out
    refine start_ (n := 10) (S := fun w' => (∀ i : Nat, w'.cell? ⟨gA, i, none⟩ = (#[.bool b, .slice A1 l1.length c1, .slice A2 p1.length c2] : Array Value)[i]?) ∧ (∀ i : Nat, w'.cell? ⟨gB, i, none⟩ = (#[.bool b', .slice A3 l2.length c3, .slice A4 p2.length c4] : Array Value)[i]?) ∧ (∀ i : Nat, w'.cell? ⟨gC, i, none⟩ = (#[.bool kb, .slice A5 kl.length c5] : Array Value)[i]?)) (ds := []) #[false, false, false, false, false, false, false, false, false, false] (by kernel_rfl) rfl rfl ⟨blk_all KA.out, blk_all KB.out, blk_all KC.out⟩ (fun hHeld => ?_)
    refine pure_ (i := 1) (N := some 55) (v := ?_) (a' := ?_) #[false, true, false, false, false, false, false, false, false, false] rfl rfl (by kernel_rfl) (fun _ _ _ h => h) (Or.inl ⟨by rfl, ?_⟩) ?_ ?_
    rotate_left
    · intro w'
      go_simp
      with_reducible rfl
    rotate_left
    · simp only [Act.put, List.setIfInBounds_toArray, List.set_cons_zero, List.set_cons_succ, i64_w, i32_w]
      rfl
    refine pure_ (i := 5) (N := some 59) (v := ?_) (a' := ?_) #[false, true, false, false, false, true, false, false, false, false] rfl rfl (by kernel_rfl) (fun _ _ _ h => h) (Or.inl ⟨by rfl, ?_⟩) ?_ ?_
    rotate_left
    · intro w'
      go_simp
      with_reducible rfl
    rotate_left
    · simp only [Act.put, List.setIfInBounds_toArray, List.set_cons_zero, List.set_cons_succ, i64_w, i32_w]
      rfl
    refine take_ (i := 0) (N := some 54) (v := ?_) (a' := ?_) #[true, true, false, false, false, true, false, false, false, false] rfl rfl (by kernel_rfl) (fun _ _ _ h => h) (Or.inl ⟨by rfl, ?_⟩) hHeld ?_ ?_
    rotate_left
    · rintro w' ⟨s0, s1, s2⟩
      go_simp
      with_reducible rfl
    rotate_left
    · simp only [Act.put, List.setIfInBounds_toArray, List.set_cons_zero, List.set_cons_succ, i64_w, i32_w]
      rfl
    refine take_ (i := 2) (N := some 56) (v := ?_) (a' := ?_) #[true, true, true, false, false, true, false, false, false, false] rfl rfl (by kernel_rfl) (fun _ _ _ h => h) (Or.inl ⟨by rfl, ?_⟩) hHeld ?_ ?_
    rotate_left
    · rintro w' ⟨s0, s1, s2⟩
      go_simp
      with_reducible rfl
    rotate_left
    · simp only [Act.put, List.setIfInBounds_toArray, List.set_cons_zero, List.set_cons_succ, i64_w, i32_w]
      rfl
    refine take_ (i := 4) (N := some 58) (v := ?_) (a' := ?_) #[true, true, true, false, true, true, false, false, false, false] rfl rfl (by kernel_rfl) (fun _ _ _ h => h) (Or.inl ⟨by rfl, ?_⟩) hHeld ?_ ?_
    rotate_left
    · rintro w' ⟨s0, s1, s2⟩
      go_simp
      with_reducible rfl
    rotate_left
    · simp only [Act.put, List.setIfInBounds_toArray, List.set_cons_zero, List.set_cons_succ, i64_w, i32_w]
      rfl
    refine take_ (i := 6) (N := some 60) (v := ?_) (a' := ?_) #[true, true, true, false, true, true, true, false, false, false] rfl rfl (by kernel_rfl) (fun _ _ _ h => h) (Or.inl ⟨by rfl, ?_⟩) hHeld ?_ ?_
    rotate_left
    · rintro w' ⟨s0, s1, s2⟩
      go_simp
      with_reducible rfl
    rotate_left
    · simp only [Act.put, List.setIfInBounds_toArray, List.set_cons_zero, List.set_cons_succ, i64_w, i32_w]
      rfl
    refine one_ (i := 3) (N := some 57) #[true, true, true, true, true, true, true, false, false, false] rfl rfl (by kernel_rfl) (by decide) (fun K hK => ?_)
    refine goes_ Try.func26 (by kernel_rfl) rfl #[.agg #[.bool b, .slice A1 l1.length c1, .slice A2 p1.length c2], .int .i64 v, .agg #[.bool b', .slice A3 l2.length c3, .slice A4 p2.length c4]] (by rfl) rfl rfl (by simp only [List.map_toArray, List.map_cons, List.map_nil]; rfl) ?_
    with_reducible refine (H8.out.1 _ _ _ _ _ _ _ _ _ (R1.out.b (below_drew1 (Below.refl w109.heap.size w109))) (R2.out.b (below_drew1 (Below.refl w109.heap.size w109))) (R3.out.b (below_drew1 (Below.refl w109.heap.size w109))) (R4.out.b (below_drew1 (Below.refl w109.heap.size w109)))).mono ?_
    rintro e w110 ⟨Ax8a, cx8a, Bx8a, dx8a, rfl, rx8a, sx8a, hb⟩
    have hb := below_step (below_drew1 (Below.refl w109.heap.size w109)) hb
    have KA := Aside0.mk (blk_below KA.out hb); have KB := Aside0.mk (blk_below KB.out hb); have KC := Aside0.mk (blk_below KC.out hb); have R1 := Aside0.mk (R1.out.b hb); have R2 := Aside0.mk (R2.out.b hb); have R3 := Aside0.mk (R3.out.b hb); have R4 := Aside0.mk (R4.out.b hb); have R5 := Aside0.mk (R5.out.b hb); have HB := Aside0.mk (below_step HB.out hb)
    have Rx8a := Aside0.mk rx8a
    have Sx8a := Aside0.mk sx8a
    clear hb rx8a sx8a
    refine ⟨_, rfl, ?_⟩
    refine hK.out _ _ ⟨blk_all KA.out, blk_all KB.out, blk_all KC.out⟩ (fun hHeld => ?_)
    clear hK K
    refine norm_ (a' := ?_) ?_ ?_
    rotate_left
    · show Act.put _ (some 57) _ = _
      simp only [Act.put, List.setIfInBounds_toArray, List.set_cons_zero, List.set_cons_succ, i64_w, i32_w]
      rfl
    refine one_ (i := 7) (N := some 61) #[true, true, true, true, true, true, true, true, false, false] rfl rfl (by kernel_rfl) (by decide) (fun K hK => ?_)
    refine goes_ Try.func27 (by kernel_rfl) rfl #[.agg #[.bool b, .slice A1 l1.length c1, .slice A2 p1.length c2], .int .i64 v, .agg #[.bool b', .slice A3 l2.length c3, .slice A4 p2.length c4]] (by rfl) rfl rfl (by simp only [List.map_toArray, List.map_cons, List.map_nil]; rfl) ?_
    with_reducible refine (H8.out.2.1 _ _ _ _ _ _ _ _ _ R1.out R2.out R3.out R4.out).mono ?_
    rintro e w111 ⟨Ax8b, cx8b, Bx8b, dx8b, rfl, rx8b, sx8b, hb⟩
    have KA := Aside0.mk (blk_below KA.out hb); have KB := Aside0.mk (blk_below KB.out hb); have KC := Aside0.mk (blk_below KC.out hb); have R1 := Aside0.mk (R1.out.b hb); have R2 := Aside0.mk (R2.out.b hb); have R3 := Aside0.mk (R3.out.b hb); have R4 := Aside0.mk (R4.out.b hb); have R5 := Aside0.mk (R5.out.b hb); have Rx8a := Aside0.mk (Rx8a.out.b hb); have Sx8a := Aside0.mk (Sx8a.out.b hb); have HB := Aside0.mk (below_step HB.out hb)
    have Rx8b := Aside0.mk rx8b
    have Sx8b := Aside0.mk sx8b
    clear hb rx8b sx8b
    refine ⟨_, rfl, ?_⟩
    refine hK.out _ _ ⟨blk_all KA.out, blk_all KB.out, blk_all KC.out⟩ (fun hHeld => ?_)
    clear hK K
    refine norm_ (a' := ?_) ?_ ?_
    rotate_left
    · show Act.put _ (some 61) _ = _
      simp only [Act.put, List.setIfInBounds_toArray, List.set_cons_zero, List.set_cons_succ, i64_w, i32_w]
      rfl
    refine one_ (i := 8) (N := some 62) #[true, true, true, true, true, true, true, true, true, false] rfl rfl (by kernel_rfl) (by decide) (fun K hK => ?_)
    refine goes_ Try.func15 (by kernel_rfl) rfl #[.agg #[.bool o8b, .slice Ax8a o8l.length cx8a, .slice Bx8a o8p.length dx8a], .agg #[.bool o8b, .slice Ax8b o8l.length cx8b, .slice Bx8b o8p.length dx8b]] (by rfl) rfl rfl (by simp only [List.map_toArray, List.map_cons, List.map_nil]; rfl) ?_
    with_reducible refine (q_Same Rx8a.out Sx8a.out Rx8b.out Sx8b.out H8.out.2.2).mono ?_
    rintro e w112 ⟨rfl, hb⟩
    have KA := Aside0.mk (blk_below KA.out hb); have KB := Aside0.mk (blk_below KB.out hb); have KC := Aside0.mk (blk_below KC.out hb); have R1 := Aside0.mk (R1.out.b hb); have R2 := Aside0.mk (R2.out.b hb); have R3 := Aside0.mk (R3.out.b hb); have R4 := Aside0.mk (R4.out.b hb); have R5 := Aside0.mk (R5.out.b hb); have HB := Aside0.mk (below_step HB.out hb)
    clear hb Rx8a Sx8a Rx8b Sx8b
    refine ⟨_, rfl, ?_⟩
    refine hK.out _ _ ⟨blk_all KA.out, blk_all KB.out, blk_all KC.out⟩ (fun hHeld => ?_)
    clear hK K
    refine norm_ (a' := ?_) ?_ ?_
    rotate_left
    · show Act.put _ (some 62) _ = _
      simp only [Act.put, List.setIfInBounds_toArray, List.set_cons_zero, List.set_cons_succ, i64_w, i32_w]
      rfl
    refine pure_ (i := 9) (N := some 14) (v := ?_) (a' := ?_) #[true, true, true, true, true, true, true, true, true, true] rfl rfl (by kernel_rfl) (fun _ _ _ h => h) (Or.inl ⟨by rfl, ?_⟩) ?_ ?_
    rotate_left
    · intro w'
      go_simp
      with_reducible rfl
    rotate_left
    · simp only [Act.put, List.setIfInBounds_toArray, List.set_cons_zero, List.set_cons_succ, i64_w, i32_w]
      rfl
    refine done_ (by kernel_rfl) ?_

    go_wp2_with fail
    have cA := blk_all KA.out; have cB := blk_all KB.out; have cC := blk_all KC.out
    refine start_ (n := 8) (S := fun w' => (∀ i : Nat, w'.cell? ⟨gA, i, none⟩ = (#[.bool b, .slice A1 l1.length c1, .slice A2 p1.length c2] : Array Value)[i]?) ∧ (∀ i : Nat, w'.cell? ⟨gB, i, none⟩ = (#[.bool b', .slice A3 l2.length c3, .slice A4 p2.length c4] : Array Value)[i]?) ∧ (∀ i : Nat, w'.cell? ⟨gC, i, none⟩ = (#[.bool kb, .slice A5 kl.length c5] : Array Value)[i]?)) (ds := []) #[false, false, false, false, false, false, false, false] (by kernel_rfl) rfl rfl ⟨blk_all KA.out, blk_all KB.out, blk_all KC.out⟩ (fun hHeld => ?_)
    refine pure_ (i := 1) (N := some 64) (v := ?_) (a' := ?_) #[false, true, false, false, false, false, false, false] rfl rfl (by kernel_rfl) (fun _ _ _ h => h) (Or.inl ⟨by rfl, ?_⟩) ?_ ?_
    rotate_left
    · intro w'
      go_simp
      with_reducible rfl
    rotate_left
    · simp only [Act.put, List.setIfInBounds_toArray, List.set_cons_zero, List.set_cons_succ, i64_w, i32_w]
      rfl
    refine pure_ (i := 4) (N := some 67) (v := ?_) (a' := ?_) #[false, true, false, false, true, false, false, false] rfl rfl (by kernel_rfl) (fun _ _ _ h => h) (Or.inl ⟨by rfl, ?_⟩) ?_ ?_
    rotate_left
    · intro w'
      go_simp
      with_reducible rfl
    rotate_left
    · simp only [Act.put, List.setIfInBounds_toArray, List.set_cons_zero, List.set_cons_succ, i64_w, i32_w]
      rfl
    refine take_ (i := 0) (N := some 63) (v := ?_) (a' := ?_) #[true, true, false, false, true, false, false, false] rfl rfl (by kernel_rfl) (fun _ _ _ h => h) (Or.inl ⟨by rfl, ?_⟩) hHeld ?_ ?_
    rotate_left
    · rintro w' ⟨s0, s1, s2⟩
      go_simp
      with_reducible rfl
    rotate_left
    · simp only [Act.put, List.setIfInBounds_toArray, List.set_cons_zero, List.set_cons_succ, i64_w, i32_w]
      rfl
    refine take_ (i := 3) (N := some 66) (v := ?_) (a' := ?_) #[true, true, false, true, true, false, false, false] rfl rfl (by kernel_rfl) (fun _ _ _ h => h) (Or.inl ⟨by rfl, ?_⟩) hHeld ?_ ?_
    rotate_left
    · rintro w' ⟨s0, s1, s2⟩
      go_simp
      with_reducible rfl
    rotate_left
    · simp only [Act.put, List.setIfInBounds_toArray, List.set_cons_zero, List.set_cons_succ, i64_w, i32_w]
      rfl
    refine one_ (i := 2) (N := some 65) #[true, true, true, true, true, false, false, false] rfl rfl (by kernel_rfl) (by decide) (fun K hK => ?_)
    refine goes_ Try.func28 (by kernel_rfl) rfl #[.agg #[.bool b, .slice A1 l1.length c1, .slice A2 p1.length c2], .int .i64 v] (by rfl) rfl rfl (by simp only [List.map_toArray, List.map_cons, List.map_nil]; rfl) ?_
    with_reducible refine (H9.out.1 _ _ _ _ _ (R1.out.b (below_drew1 (Below.refl w112.heap.size w112))) (R2.out.b (below_drew1 (Below.refl w112.heap.size w112)))).mono ?_
    rintro e w113 ⟨Ax9a, cx9a, rfl, rx9a, hb⟩
    have hb := below_step (below_drew1 (Below.refl w112.heap.size w112)) hb
    have KA := Aside0.mk (blk_below KA.out hb); have KB := Aside0.mk (blk_below KB.out hb); have KC := Aside0.mk (blk_below KC.out hb); have R1 := Aside0.mk (R1.out.b hb); have R2 := Aside0.mk (R2.out.b hb); have R3 := Aside0.mk (R3.out.b hb); have R4 := Aside0.mk (R4.out.b hb); have R5 := Aside0.mk (R5.out.b hb); have HB := Aside0.mk (below_step HB.out hb)
    have Rx9a := Aside0.mk rx9a
    clear hb rx9a
    refine ⟨_, rfl, ?_⟩
    refine hK.out _ _ ⟨blk_all KA.out, blk_all KB.out, blk_all KC.out⟩ (fun hHeld => ?_)
    clear hK K
    refine norm_ (a' := ?_) ?_ ?_
    rotate_left
    · show Act.put _ (some 65) _ = _
      simp only [Act.put, List.setIfInBounds_toArray, List.set_cons_zero, List.set_cons_succ, i64_w, i32_w]
      rfl
    refine one_ (i := 5) (N := some 68) #[true, true, true, true, true, true, false, false] rfl rfl (by kernel_rfl) (by decide) (fun K hK => ?_)
    refine goes_ Try.func29 (by kernel_rfl) rfl #[.agg #[.bool b, .slice A1 l1.length c1, .slice A2 p1.length c2], .int .i64 v] (by rfl) rfl rfl (by simp only [List.map_toArray, List.map_cons, List.map_nil]; rfl) ?_
    with_reducible refine (H9.out.2.1 _ _ _ _ _ R1.out R2.out).mono ?_
    rintro e w114 ⟨Ax9b, cx9b, rfl, rx9b, hb⟩
    have KA := Aside0.mk (blk_below KA.out hb); have KB := Aside0.mk (blk_below KB.out hb); have KC := Aside0.mk (blk_below KC.out hb); have R1 := Aside0.mk (R1.out.b hb); have R2 := Aside0.mk (R2.out.b hb); have R3 := Aside0.mk (R3.out.b hb); have R4 := Aside0.mk (R4.out.b hb); have R5 := Aside0.mk (R5.out.b hb); have Rx9a := Aside0.mk (Rx9a.out.b hb); have HB := Aside0.mk (below_step HB.out hb)
    have Rx9b := Aside0.mk rx9b
    clear hb rx9b
    refine ⟨_, rfl, ?_⟩
    refine hK.out _ _ ⟨blk_all KA.out, blk_all KB.out, blk_all KC.out⟩ (fun hHeld => ?_)
    clear hK K
    refine norm_ (a' := ?_) ?_ ?_
    rotate_left
    · show Act.put _ (some 68) _ = _
      simp only [Act.put, List.setIfInBounds_toArray, List.set_cons_zero, List.set_cons_succ, i64_w, i32_w]
      rfl
    refine one_ (i := 6) (N := some 69) #[true, true, true, true, true, true, true, false] rfl rfl (by kernel_rfl) (by decide) (fun K hK => ?_)
    refine goes_ Try.func16 (by kernel_rfl) rfl #[.agg #[.bool o9b, .slice Ax9a o9l.length cx9a], .agg #[.bool o9b, .slice Ax9b o9l.length cx9b]] (by rfl) rfl rfl (by simp only [List.map_toArray, List.map_cons, List.map_nil]; rfl) ?_
    with_reducible refine (q_rSame Rx9a.out.r Rx9a.out.s Rx9b.out.r Rx9b.out.s H9.out.2.2).mono ?_
    rintro e w115 ⟨rfl, hb⟩
    have KA := Aside0.mk (blk_below KA.out hb); have KB := Aside0.mk (blk_below KB.out hb); have KC := Aside0.mk (blk_below KC.out hb); have R1 := Aside0.mk (R1.out.b hb); have R2 := Aside0.mk (R2.out.b hb); have R3 := Aside0.mk (R3.out.b hb); have R4 := Aside0.mk (R4.out.b hb); have R5 := Aside0.mk (R5.out.b hb); have HB := Aside0.mk (below_step HB.out hb)
    clear hb Rx9a Rx9b
    refine ⟨_, rfl, ?_⟩
    refine hK.out _ _ ⟨blk_all KA.out, blk_all KB.out, blk_all KC.out⟩ (fun hHeld => ?_)
    clear hK K
    refine norm_ (a' := ?_) ?_ ?_
    rotate_left
    · show Act.put _ (some 69) _ = _
      simp only [Act.put, List.setIfInBounds_toArray, List.set_cons_zero, List.set_cons_succ, i64_w, i32_w]
      rfl
    refine pure_ (i := 7) (N := some 15) (v := ?_) (a' := ?_) #[true, true, true, true, true, true, true, true] rfl rfl (by kernel_rfl) (fun _ _ _ h => h) (Or.inl ⟨by rfl, ?_⟩) ?_ ?_
    rotate_left
    · intro w'
      go_simp
      with_reducible rfl
    rotate_left
    · simp only [Act.put, List.setIfInBounds_toArray, List.set_cons_zero, List.set_cons_succ, i64_w, i32_w]
      rfl
    refine done_ (by kernel_rfl) ?_

    go_wp2_with fail
    have cA := blk_all KA.out; have cB := blk_all KB.out; have cC := blk_all KC.out
    refine start_ (n := 7) (S := fun w' => (∀ i : Nat, w'.cell? ⟨gA, i, none⟩ = (#[.bool b, .slice A1 l1.length c1, .slice A2 p1.length c2] : Array Value)[i]?) ∧ (∀ i : Nat, w'.cell? ⟨gB, i, none⟩ = (#[.bool b', .slice A3 l2.length c3, .slice A4 p2.length c4] : Array Value)[i]?) ∧ (∀ i : Nat, w'.cell? ⟨gC, i, none⟩ = (#[.bool kb, .slice A5 kl.length c5] : Array Value)[i]?)) (ds := []) #[false, false, false, false, false, false, false] (by kernel_rfl) rfl rfl ⟨blk_all KA.out, blk_all KB.out, blk_all KC.out⟩ (fun hHeld => ?_)
    refine take_ (i := 0) (N := some 70) (v := ?_) (a' := ?_) #[true, false, false, false, false, false, false] rfl rfl (by kernel_rfl) (fun _ _ _ h => h) (Or.inl ⟨by rfl, ?_⟩) hHeld ?_ ?_
    rotate_left
    · rintro w' ⟨s0, s1, s2⟩
      go_simp
      with_reducible rfl
    rotate_left
    · simp only [Act.put, List.setIfInBounds_toArray, List.set_cons_zero, List.set_cons_succ, i64_w, i32_w]
      rfl
    refine take_ (i := 2) (N := some 72) (v := ?_) (a' := ?_) #[true, false, true, false, false, false, false] rfl rfl (by kernel_rfl) (fun _ _ _ h => h) (Or.inl ⟨by rfl, ?_⟩) hHeld ?_ ?_
    rotate_left
    · rintro w' ⟨s0, s1, s2⟩
      go_simp
      with_reducible rfl
    rotate_left
    · simp only [Act.put, List.setIfInBounds_toArray, List.set_cons_zero, List.set_cons_succ, i64_w, i32_w]
      rfl
    refine pure_ (i := 3) (N := some 73) (v := ?_) (a' := ?_) #[true, false, true, true, false, false, false] rfl rfl (by kernel_rfl) (fun _ _ _ h => h) (Or.inl ⟨by rfl, ?_⟩) ?_ ?_
    rotate_left
    · intro w'
      go_simp
      with_reducible rfl
    rotate_left
    · simp only [Act.put, List.setIfInBounds_toArray, List.set_cons_zero, List.set_cons_succ, i64_w, i32_w]
      rfl
    refine one_ (i := 1) (N := some 71) #[true, true, true, true, false, false, false] rfl rfl (by kernel_rfl) (by decide) (fun K hK => ?_)
    refine goes_ Try.func30 (by kernel_rfl) rfl #[.agg #[.bool kb, .slice A5 kl.length c5]] (by rfl) rfl rfl (by simp only [List.map_toArray, List.map_cons, List.map_nil]; rfl) ?_
    with_reducible refine (H10.out.1 _ _ _ (R5.out.b (below_drew1 (Below.refl w115.heap.size w115)))).mono ?_
    rintro e w116 ⟨Ax10a, cx10a, Bx10a, dx10a, rfl, rx10a, sx10a, hb⟩
    have hb := below_step (below_drew1 (Below.refl w115.heap.size w115)) hb
    have KA := Aside0.mk (blk_below KA.out hb); have KB := Aside0.mk (blk_below KB.out hb); have KC := Aside0.mk (blk_below KC.out hb); have R1 := Aside0.mk (R1.out.b hb); have R2 := Aside0.mk (R2.out.b hb); have R3 := Aside0.mk (R3.out.b hb); have R4 := Aside0.mk (R4.out.b hb); have R5 := Aside0.mk (R5.out.b hb); have HB := Aside0.mk (below_step HB.out hb)
    have Rx10a := Aside0.mk rx10a
    have Sx10a := Aside0.mk sx10a
    clear hb rx10a sx10a
    refine ⟨_, rfl, ?_⟩
    refine hK.out _ _ ⟨blk_all KA.out, blk_all KB.out, blk_all KC.out⟩ (fun hHeld => ?_)
    clear hK K
    refine norm_ (a' := ?_) ?_ ?_
    rotate_left
    · show Act.put _ (some 71) _ = _
      simp only [Act.put, List.setIfInBounds_toArray, List.set_cons_zero, List.set_cons_succ, i64_w, i32_w]
      rfl
    refine one_ (i := 4) (N := some 74) #[true, true, true, true, true, false, false] rfl rfl (by kernel_rfl) (by decide) (fun K hK => ?_)
    refine goes_ Try.func21 (by kernel_rfl) rfl #[.agg #[.bool kb, .slice A5 kl.length c5, .slice none 0 0]] (by rfl) rfl rfl (by simp only [List.map_toArray, List.map_cons, List.map_nil]; rfl) ?_
    with_reducible refine (H10.out.2.1 _ _ _ R5.out).mono ?_
    rintro e w117 ⟨Ax10b, cx10b, Bx10b, dx10b, rfl, rx10b, sx10b, hb⟩
    have KA := Aside0.mk (blk_below KA.out hb); have KB := Aside0.mk (blk_below KB.out hb); have KC := Aside0.mk (blk_below KC.out hb); have R1 := Aside0.mk (R1.out.b hb); have R2 := Aside0.mk (R2.out.b hb); have R3 := Aside0.mk (R3.out.b hb); have R4 := Aside0.mk (R4.out.b hb); have R5 := Aside0.mk (R5.out.b hb); have Rx10a := Aside0.mk (Rx10a.out.b hb); have Sx10a := Aside0.mk (Sx10a.out.b hb); have HB := Aside0.mk (below_step HB.out hb)
    have Rx10b := Aside0.mk rx10b
    have Sx10b := Aside0.mk sx10b
    clear hb rx10b sx10b
    refine ⟨_, rfl, ?_⟩
    refine hK.out _ _ ⟨blk_all KA.out, blk_all KB.out, blk_all KC.out⟩ (fun hHeld => ?_)
    clear hK K
    refine norm_ (a' := ?_) ?_ ?_
    rotate_left
    · show Act.put _ (some 74) _ = _
      simp only [Act.put, List.setIfInBounds_toArray, List.set_cons_zero, List.set_cons_succ, i64_w, i32_w]
      rfl
    refine one_ (i := 5) (N := some 75) #[true, true, true, true, true, true, false] rfl rfl (by kernel_rfl) (by decide) (fun K hK => ?_)
    refine goes_ Try.func15 (by kernel_rfl) rfl #[.agg #[.bool o10b, .slice Ax10a o10l.length cx10a, .slice Bx10a o10p.length dx10a], .agg #[.bool o10b, .slice Ax10b o10l.length cx10b, .slice Bx10b o10p.length dx10b]] (by rfl) rfl rfl (by simp only [List.map_toArray, List.map_cons, List.map_nil]; rfl) ?_
    with_reducible refine (q_Same Rx10a.out Sx10a.out Rx10b.out Sx10b.out H10.out.2.2).mono ?_
    rintro e w118 ⟨rfl, hb⟩
    have KA := Aside0.mk (blk_below KA.out hb); have KB := Aside0.mk (blk_below KB.out hb); have KC := Aside0.mk (blk_below KC.out hb); have R1 := Aside0.mk (R1.out.b hb); have R2 := Aside0.mk (R2.out.b hb); have R3 := Aside0.mk (R3.out.b hb); have R4 := Aside0.mk (R4.out.b hb); have R5 := Aside0.mk (R5.out.b hb); have HB := Aside0.mk (below_step HB.out hb)
    clear hb Rx10a Sx10a Rx10b Sx10b
    refine ⟨_, rfl, ?_⟩
    refine hK.out _ _ ⟨blk_all KA.out, blk_all KB.out, blk_all KC.out⟩ (fun hHeld => ?_)
    clear hK K
    refine norm_ (a' := ?_) ?_ ?_
    rotate_left
    · show Act.put _ (some 75) _ = _
      simp only [Act.put, List.setIfInBounds_toArray, List.set_cons_zero, List.set_cons_succ, i64_w, i32_w]
      rfl
    refine pure_ (i := 6) (N := some 16) (v := ?_) (a' := ?_) #[true, true, true, true, true, true, true] rfl rfl (by kernel_rfl) (fun _ _ _ h => h) (Or.inl ⟨by rfl, ?_⟩) ?_ ?_
    rotate_left
    · intro w'
      go_simp
      with_reducible rfl
    rotate_left
    · simp only [Act.put, List.setIfInBounds_toArray, List.set_cons_zero, List.set_cons_succ, i64_w, i32_w]
      rfl
    refine done_ (by kernel_rfl) ?_

    go_wp2_with (first
      | (go_at_call 31; (with_reducible refine (q_VarL v).mono ?_); rintro e w201 ⟨AV, cV, BV, dV, rfl, rV, sV, hb⟩; have RV := Aside0.mk rV; have SV := Aside0.mk sV; have HB := Aside0.mk (below_step HB.out hb); clear rV sV hb)
      | (go_at_call 32; (with_reducible refine (q_rOf HOF.out).mono ?_); rintro e w202 ⟨AO_, cO_, rfl, rO, hb⟩; have RV := Aside0.mk (RV.out.b hb); have SV := Aside0.mk (SV.out.b hb); have RO := Aside0.mk rO; have HB := Aside0.mk (below_step HB.out hb); clear rO hb)
      | (go_at_call 15; (with_reducible refine (q_SameV (RV.out.b (below_alloc (Below.refl w202.heap.size w202) _)) (SV.out.b (below_alloc (Below.refl w202.heap.size w202) _)) (RP.one v _ RO.out) HOL.out).mono ?_); rintro e w203 ⟨rfl, hb⟩; have HB := Aside0.mk (below_step HB.out (below_step (below_alloc (Below.refl w202.heap.size w202) _) hb)); clear hb))
    go_ret
    exact ⟨rfl, by repeat first | exact HB.out | apply below_drew1⟩
end Go.Proofs.Ytdicjemjmlbmlaa.H
/- An argument that is a sum. -/
namespace Go.Proofs.Ytdicjemjmlbmlaa.H
open Go.RowKit Go.WideShapes Go.Proofs.YtdicjemjmlbmlaaW.PrintWords Go.Proofs.Ytdicjemjmlbmlaa.PA
theorem Opens.arg_struct {α : Type} {P : Program} {d : Kd α} {t : TypeId} {fs : Array Field} {g : α → Prop} {H : Type} {enc : TypeId × Value → H} {w : World} {r : Reach} {b0 base : Nat} {spare : Nat → Bool} {held : Bool} {v : Value} {D : DataW H} {pl : List MemPlace}
    (ht : P.underlying t = some (.struct fs)) (he : Opens P d t g) (hv : Value.okWide P w r b0 t v) (h : DataW.Trod enc P w base spare held t v D pl) : ∃ (x : α) (cs : List Value), v = .agg cs.toArray ∧ d.K w x cs ∧ g x := by
  obtain ⟨cs, rfl, hsz⟩ := okWide_struct ht hv
  obtain ⟨fuel, hf⟩ := h
  obtain ⟨x, h1, h2⟩ := he.2 _ _ _ _ _ _ _ _ _ hf
  exact ⟨x, cs.toList, rfl, h1, h2⟩
set_option maxRecDepth 100000 in
theorem opens_whole : Opens Try.prog k24 24 (fun x => True ∧ ∀ y ∈ x.f1, (Lit.int .u32 y).wf = true) := (Opens.iso (Opens.struct Try.underlying24 (by kernel_rfl) (OpensAt.cons rfl (Opens.bool (by kernel_rfl) (by kernel_rfl)) (OpensAt.last rfl (Opens.slice (by kernel_rfl) (by kernel_rfl) (Opens.int (by kernel_rfl) (by kernel_rfl))) rfl))) _ (fun a => ⟨⟨a.1, a.2⟩, rfl⟩))
set_option maxRecDepth 100000 in
theorem opens_mono : Opens Try.prog k46 46 (fun x => (Lit.int .i64 x.f0).wf = true ∧ (True ∧ ∀ y ∈ x.f1.f1, (Lit.int .u32 y).wf = true)) := (Opens.iso (Opens.struct Try.underlying46 (by kernel_rfl) (OpensAt.cons rfl (Opens.int (by kernel_rfl) (by kernel_rfl)) (OpensAt.last rfl opens_whole rfl))) _ (fun a => ⟨⟨a.1, a.2⟩, rfl⟩))
set_option maxRecDepth 100000 in
set_option linter.constructorNameAsVariable false in
theorem arg_lin {H : Type} {enc : TypeId × Value → H} {w : World} {r : Reach} {b0 base : Nat} {spare : Nat → Bool} {held : Bool} {v : Value} {D : DataW H} {pl : List MemPlace}
    (hv : Value.okWide Try.prog w r b0 27 v) (h : DataW.Trod enc Try.prog w base spare held 27 v D pl) :
    ∃ (b : Bool) (A1 : Option Addr) (c1 : Nat) (l1 : List Int) (A2 : Option Addr) (c2 : Nat) (l2 : List S46), v = .agg #[.bool b, .slice A1 l1.length c1, .slice A2 l2.length c2] ∧ Kd.C (Kd.int .u32) w A1 l1.length l1 ∧ l1.length ≤ c1 ∧ Kd.C k46 w A2 l2.length l2 ∧ l2.length ≤ c2 ∧ (∀ x ∈ l1, (Lit.int .u32 x).wf = true) ∧ ∀ x ∈ l2, (Lit.int .i64 x.f0).wf = true ∧ ∀ y ∈ x.f1.f1, (Lit.int .u32 y).wf = true := by
  obtain ⟨⟨⟨b, l1⟩, l2⟩, cs, rfl, ⟨c0, c1, rfl, ⟨cb, cl, rfl, eb, ⟨A1, n1, rfl, h1, h2⟩⟩, ⟨A2, n2, rfl, h3, h4⟩⟩, g1, g2⟩ := Opens.arg_struct (d := Kd.pair k24 (Kd.slice 46 k46)) Try.underlying27 (Opens.struct Try.underlying27 (by kernel_rfl) (OpensAt.cons rfl opens_whole (OpensAt.last rfl (Opens.slice (by kernel_rfl) (by kernel_rfl) opens_mono) rfl))) hv h
  have eb : cb = [.bool b] := eb
  subst eb
  exact ⟨b, A1, n1, l1, A2, n2, l2, rfl, h2, h1, h4, h3, g1.2, fun x hx => ⟨(g2 x hx).1, (g2 x hx).2.2⟩⟩
end Go.Proofs.Ytdicjemjmlbmlaa.H
/- Written by wip/tools/rows.py. -/
namespace Go.Proofs.Ytdicjemjmlbmlaa.linSums
open Go.ChangeShapes Go.WideShapes Go.ChangeAt Go.RowKit
open Go.ChangeMaps (open_string shut_string)
set_option linter.unusedVariables false
theorem own : ownKnob Try.prog.godebug = none := by kernel_rfl
theorem laidOut : laidOutB Try.prog = true := by kernel_rfl
def IsRow (k : IntKind) (w : World) (a : Option Addr) (len cap : Nat) (zs : List Int) : Prop :=
  (a = none ∧ len = 0 ∧ cap = 0 ∧ zs = []) ∨
  ∃ x, a = some x ∧ len ≤ cap ∧ cap ≤ maxLen ∧ zs.length = cap ∧ (∀ i, i < zs.length → w.cell? (x.add i) = some (.int k (zs.getD i 0))) ∧ ∀ n ∈ zs, (Lit.int k n).wf = true
set_option maxRecDepth 100000 in
theorem lifted (os : Os) (started : os.Started) (H : Type) (enc : TypeId × Value → H) :
    ReturnsInHanded {} Try.checked os 6 .any (Rows.linSumsSpec.pre6 enc Try.prog Try.f6 Rows.linSumsRow.domain false) (Rows.linSumsSpec.post enc Try.prog Try.f6 false true false false) := by
  refine returnsInHanded_of_change_sized (C := Try.checked) own started (by kernel_rfl) Try.func6
    (ChangeSpec.witness6 (enc := enc) (C := Try.checked) false ⟨#[], #[.agg #[.bool false, .slice none 0 0, .slice none 0 0], .agg #[.bool false, .slice none 0 0, .slice none 0 0], .int .i64 0, .agg #[.bool false, .slice none 0 0]], []⟩ 8 (by kernel_rfl) (by kernel_rfl) (by kernel_rfl) (by kernel_rfl)) ?_
  intro W base args ds gs before hval0 hW hcnd hsz0 _
  have hsz : (DataW.weightsEach Try.prog (Try.f6.params.toList ++ Rows.linSumsSpec.plain.varTypes Try.prog) (ds ++ gs)).all (· ≤ reachBytes) = true := hsz0
  have hval : ∀ (j : Nat) t v, Try.f6.params[j]? = some t → args[j]? = some v → Value.okWide Try.prog W .any base t v := hval0
  have hW' := hW
  obtain ⟨p, q, hA0, hV, rfl, hfz, hnd⟩ := hW
  have hA : DataW.TrodAll enc Try.prog W 0 (fun _ => true) true Try.f6.params.toList args.toList ds p := hA0
  rw [Try.params6] at hA hval hsz
  obtain ⟨v0, vs0, d0, ds0, p0, q0, hargs, rfl, rfl, h0, r0⟩ := trodAll_cons hA
  obtain ⟨v1, vs1, d1, ds1, p1, q1, rfl, rfl, rfl, h1, r1⟩ := trodAll_cons r0
  obtain ⟨v2, vs2, d2, ds2, p2, q2, rfl, rfl, rfl, h2, r2⟩ := trodAll_cons r1
  obtain ⟨v3, vs3, d3, ds3, p3, q3, rfl, rfl, rfl, h3, r3⟩ := trodAll_cons r2
  obtain ⟨rfl, rfl, rfl⟩ := trodAll_nil r3
  obtain rfl : args = #[v0, v1, v2, v3] := by cases args; simp_all
  obtain ⟨rfl, rfl⟩ := trodVars_none hV
  have k0 := h0
  have lt0 : ∀ x ∈ p0, x.block < W.heap.size := by obtain ⟨m, hm⟩ := k0; exact DataW.trod_lt m _ _ _ hm
  obtain ⟨b0, A0, c0, l0, B0, e0, r0_, rfl, hr0, hc0, hs0, hd0, hw0, hx0⟩ := Go.Proofs.Ytdicjemjmlbmlaa.H.arg_lin (hval 0 27 v0 rfl rfl) h0
  have k1 := h1
  have lt1 : ∀ x ∈ p1, x.block < W.heap.size := by obtain ⟨m, hm⟩ := k1; exact DataW.trod_lt m _ _ _ hm
  obtain ⟨b1, A1, c1, l1, B1, e1, r1_, rfl, hr1, hc1, hs1, hd1, hw1, hx1⟩ := Go.Proofs.Ytdicjemjmlbmlaa.H.arg_lin (hval 1 27 v1 rfl rfl) h1
  obtain ⟨a2, rfl, rfl, rfl, w2⟩ := open_int Try.underlying3 (hval 2 3 v2 rfl rfl) h2
  have hb2 := (bounds_i64 w2)
  have k3 := h3
  have lt3 : ∀ x ∈ p3, x.block < W.heap.size := by obtain ⟨m, hm⟩ := k3; exact DataW.trod_lt m _ _ _ hm
  obtain ⟨u3a, u3b, y3a, y3b, n3, rfl, rfl, rfl, ga3, gb3⟩ := Go.Joins.open_agg2 Try.underlying24 (by kernel_rfl) (by kernel_rfl) (hval 3 24 v3 rfl rfl) h3
  obtain ⟨b3, e3, _⟩ := DataW.trod_bool Try.underlying4 ga3
  simp only [List.cons.injEq, and_true] at e3
  subst e3
  obtain ⟨A3, len3, cap3, zs3, rfl, w3⟩ : ∃ A n c zs, u3b = .slice A n c ∧ IsRow .u32 W A n c zs := by
    rcases open_ints Try.underlying22 Try.underlying81 (by kernel_rfl) gb3 with ⟨hcs, _⟩ | ⟨x, l, c, zs, hcs, _, hl, hm, hz, _, hcell, hwz⟩
    · simp at hcs; exact ⟨none, 0, 0, [], hcs, .inl ⟨rfl, rfl, rfl, rfl⟩⟩
    · simp at hcs; exact ⟨some x, l, c, zs, hcs, .inr ⟨_, rfl, hl, hm, by simpa using hz, hcell, hwz⟩⟩
  obtain ⟨l3, rfl, hr3, hm3, hw3, hc3⟩ := Go.Proofs.YtdicjemjmlbmlaaW.PrintWords.ReadsInt.ofRowC w3
  clear hA0 hval0 hsz0 hsz
  refine (Go.Proofs.Ytdicjemjmlbmlaa.H.law_LinSums b0 _ _ l0 _ _ r0_ b1 _ _ l1 _ _ r1_ a2 b3 _ _ l3 W ⟨hr0, hc0⟩ ⟨hs0, hd0⟩ ⟨hr1, hc1⟩ ⟨hs1, hd1⟩ ⟨Go.Proofs.YtdicjemjmlbmlaaW.PrintWords.Kd.C_of_reads (d := (0 : Int)) (h1 := fun _ => rfl) hr3, hc3⟩ (Go.Proofs.Ytdicjemjmlbmlaa.S.lim_wf hw0) (fun x hx => Go.Proofs.Ytdicjemjmlbmlaa.S.lim_wf (hx0 x hx).2) (Go.Proofs.Ytdicjemjmlbmlaa.S.lim_wf hw1) (fun x hx => Go.Proofs.Ytdicjemjmlbmlaa.S.lim_wf (hx1 x hx).2) (Go.Proofs.Ytdicjemjmlbmlaa.S.lim_wf hw3)).mono fun e W' ⟨he, bel⟩ => ?_
  subst he
  exact ⟨_, rfl, _, _, _, [], _, [], hW', trodAll_mk1 (shut_bool Try.underlying4 _), (trodAll_cons_mk (Below.trod laidOut (by kernel_rfl) (of_decide_eq_true (by kernel_rfl)) k0 bel lt0) (trodAll_cons_mk (Below.trod laidOut (by kernel_rfl) (of_decide_eq_true (by kernel_rfl)) k1 bel lt1) (trodAll_cons_mk (shut_int Try.underlying3 w2) (trodAll_cons_mk (Below.trod laidOut (by kernel_rfl) (of_decide_eq_true (by kernel_rfl)) k3 bel lt3) trodAll_mk0)))), rfl, bel.frame _, fun h => by cases h⟩
theorem over : Rows.linSumsRow.holds Try.pinned (OpenSpec.ofChange Rows.linSumsSpec) :=
  OpenClaim.holds_of_wide 6 Try.f6 rfl rfl rfl rfl rfl rfl rfl ⟨rfl, rfl, rfl, rfl, rfl⟩ rfl rfl rfl rfl rfl (by kernel_rfl) Try.func6 (by kernel_rfl)
    (of_decide_eq_true (by kernel_rfl)) (by unfold Func.isWrapper; first | (rw [if_pos (by decide +kernel)]; kernel_rfl) | (rw [if_neg (by decide +kernel)]; exact ⟨rfl, rfl⟩))
    (fun os started H enc _ => lifted os started H enc)
theorem proved : Rows.LinSumsSaid := over
end Go.Proofs.Ytdicjemjmlbmlaa.linSums
namespace Go.Proofs.Ytdicjemjmlbmlaa
/-- The row, under a short name, for the claim. -/
theorem linSums_holds : Rows.LinSumsSaid := linSums.proved
end Go.Proofs.Ytdicjemjmlbmlaa
