import Derived.Test.YtlfpnohpcemkgaaDoorPAx5
import Derived.Test.YtlfpnohpcemkgaaDoorPAx5
/- nat.Parse, in the printed shape: the number of a text's digits. -/
namespace Go.Proofs.YtlfpnohpcemkgaaDoor.H
open Go.RowKit Go.Proofs.YtlfpnohpcemkgaaDoorW.PrintWords Go.Proofs.YtlfpnohpcemkgaaDoorW.PrintLast Go.Proofs.YtlfpnohpcemkgaaDoor.PA

/-- The loop over the text's bytes. -/
def nat_Parse.l0 : Nat → ByteArray → List Int → Int → Option (List Int × Int)
  | 0, _, _, _ => none
  | k + 1, s, a, i => if i < (s.size : Int) then (if bt s i < 48 then some ([], 8) else if bt s i > 57 then some ([], 8) else (nat_Mul.f k a [10]).bind fun m => (nat_Add.f k m [bt s i - 48]).bind fun t => nat_Parse.l0 k s t (i + 1)) else (nat_Norm.f a).bind fun t => some (t, 0)
def nat_Parse.f (k : Nat) (s : ByteArray) : Option (List Int × Int) := if s.toList = ([] : List UInt8) then some ([], 8) else if (s.size : Int) > 2000 then some ([], 8) else if bt s 0 = 48 ∧ ¬ s.toList = ([48] : List UInt8) then some ([], 8) else nat_Parse.l0 k s [] 0
theorem nat_Parse.mono_l (s : ByteArray) : ∀ k a i, LeO (nat_Parse.l0 k s a i) (nat_Parse.l0 (k + 1) s a i)
  | 0, _, _, r, h => by simp [nat_Parse.l0] at h
  | k + 1, a, i, r, h => by
    unfold nat_Parse.l0 at h ⊢
    split at h
    · rename_i h1
      rw [if_pos h1]
      split at h
      · rename_i h2; rw [if_pos h2]; exact h
      · rename_i h2
        rw [if_neg h2]
        split at h
        · rename_i h3; rw [if_pos h3]; exact h
        · rename_i h3
          rw [if_neg h3]
          obtain ⟨m, hm, h⟩ := Option.bind_eq_some_iff.1 h
          obtain ⟨t, ht, h⟩ := Option.bind_eq_some_iff.1 h
          rw [nat_Mul.mono _ _ k m hm, Option.bind_some, nat_Add.mono _ _ k t ht, Option.bind_some]
          exact nat_Parse.mono_l s k t (i + 1) r h
    · rename_i h1; rw [if_neg h1]; exact h
theorem nat_Parse.mono (s : ByteArray) (k : Nat) : LeO (nat_Parse.f k s) (nat_Parse.f (k + 1) s) := by
  intro r h
  unfold nat_Parse.f at h ⊢
  split at h
  · rename_i h1; rw [if_pos h1]; exact h
  · rename_i h1
    rw [if_neg h1]
    split at h
    · rename_i h2; rw [if_pos h2]; exact h
    · rename_i h2
      rw [if_neg h2]
      split at h
      · rename_i h3; rw [if_pos h3]; exact h
      · rename_i h3; rw [if_neg h3]; exact nat_Parse.mono_l s k [] 0 r h
theorem below_frozen {b : Nat} {W0 W : World} (h : Below b W0 W) {p : Addr} (hp : b ≤ p.block) (n : Nat) : Below b W0 (W.freeze p n) := by
  by_cases hn : n = 0
  · simp only [World.freeze, hn, if_true]; exact h
  · refine ⟨?_, ?_, ?_, ?_, fun i hi => ?_⟩
    · simp only [World.freeze, hn, if_false]; exact h.os
    · simp only [World.freeze, hn, if_false]; exact h.tape
    · simp only [World.freeze, hn, if_false]; exact h.output
    · have := h.size
      simp only [World.freeze, hn, if_false, Array.size_modify]
      exact this
    · have := h.block i hi
      simp only [World.freeze, hn, if_false]
      rw [Array.getElem?_modify, if_neg (by omega)]
      exact this
theorem conv_run (W : World) (s : ByteArray) : (convert 9 54 (.string s)).run Tryd.prog W = .ok (.slice (some ⟨W.heap.size, 0, none⟩) s.size (grownCap W s.size 0 5)) (Lib.bytesWorld W 5 s) :=
  Lib.run_convert_string_bytes W 9 54 5 s Tryd.underlying9 Tryd.underlying54 Tryd.underlying5
theorem bytesWorld_below {W0 W : World} {b : Nat} (h : Below b W0 W) (hb : b ≤ W.heap.size) (e : TypeId) (s : ByteArray) : Below b W0 (Lib.bytesWorld W e s) := by
  unfold Lib.bytesWorld
  exact below_frozen ((below_drew1 h).alloc (by simpa using hb) _) (by simpa using hb) _
theorem bytesWorld_C (W : World) (s : ByteArray) (h : s.size ≤ 2000) : Kd.C (Kd.int .u8) (Lib.bytesWorld W 5 s) (some ⟨W.heap.size, 0, none⟩) (bytesOf s).length (bytesOf s) := by
  refine ⟨rfl, by rw [bytesOf_length]; omega, fun _ => ⟨_, rfl, fun j p hp => ⟨[.int .u8 p], rfl, rfl, fun i u hu => ?_⟩⟩⟩
  have hi0 : i = 0 := by
    rcases i with _ | i
    · rfl
    · simp at hu
  subst hi0
  have hu' : Value.int .u8 p = u := by simpa using hu
  subst hu'
  obtain ⟨hj, rfl⟩ := List.getElem?_eq_some_iff.1 hp
  have hjs : j < s.size := by rw [← bytesOf_length]; exact hj
  have e : (⟨W.heap.size, 0, none⟩ : Addr).add (j * (Kd.int .u8).sz + 0) = ⟨W.heap.size, j, none⟩ := by
    rw [add_plain]; simp [Kd.int, Kd.scalar]
  rw [e, Lib.bytesWorld_cell W _ s j hjs]
  simp [bytesOf, List.getD_eq_getElem?_getD, hjs]
set_option maxHeartbeats 4000000 in
set_option maxRecDepth 100000 in
theorem nat_Parse.calls (k : Nat) (a0 : ByteArray) (r1 : List Int) (r2 : Int) (w : World) (h : nat_Parse.f k a0 = some (r1, r2)) :
    Calls Tryd.prog 18 #[.string a0] w fun e w' => ∃ v0_ : Value, e = .returned (.tuple #[v0_, .int .i64 r2]) ∧ Kd.R (Kd.int .u32) 43 w' w.heap.size (fun _ => True) v0_ r1 ∧ Below w.heap.size w w' := by
  have HB := Aside0.mk (Below.refl w.heap.size w)
  unfold nat_Parse.f at h
  by_cases c3 : a0.toList = ([] : List UInt8)
  · rw [if_pos c3] at h
    obtain ⟨rfl, rfl⟩ := Prod.mk.inj (Option.some.inj h)
    have c3b0 : (a0.toList == ([] : List UInt8)) = true := beq_iff_eq.mpr c3
    clear c3
    go_enter Tryd.func18, Tryd.ntmps18
    go_wp2
    go_ret2
    exact ⟨_, rfl, Kd.R_nil _ _ _ _ _, HB.out⟩
  · rw [if_neg c3] at h
    have hs0 : a0.size ≠ 0 := by
      intro e
      apply c3
      rw [Lib.toList_data]
      exact List.eq_nil_of_length_eq_zero (by rw [data_length]; exact e)
    have c3b0 : (a0.toList == ([] : List UInt8)) = false := beq_eq_false_iff_ne.mpr c3
    clear c3
    by_cases c4 : (a0.size : Int) > 2000
    · rw [if_pos c4] at h
      obtain ⟨rfl, rfl⟩ := Prod.mk.inj (Option.some.inj h)
      have c4b0 : decide (2000 < (a0.size : Int)) = true := decide_eq_true c4
      have c4b1 : decide (2000 < a0.size) = true := decide_eq_true (by omega)
      clear c4 hs0
      go_enter Tryd.func18, Tryd.ntmps18
      go_wp2
      go_ret2
      exact ⟨_, rfl, Kd.R_nil _ _ _ _ _, HB.out⟩
    · rw [if_neg c4] at h
      have hsz : a0.size ≤ 2000 := by omega
      have c4b0 : decide (2000 < (a0.size : Int)) = false := decide_eq_false c4
      have c4b1 : decide (2000 < a0.size) = false := decide_eq_false (by omega)
      clear c4
      have q6 : (0 < a0.size) = True := eq_true (by omega)
      have qi6 : (0 < (a0.size : Int)) = True := eq_true (by omega)
      have hx6 : ∀ h : 0 < a0.size, ((a0[0]'h).toNat : Int) = bt a0 0 := bt_at a0 0
      clear hs0
      by_cases c5 : bt a0 0 = 48 ∧ ¬ a0.toList = ([48] : List UInt8)
      · rw [if_pos c5] at h
        obtain ⟨rfl, rfl⟩ := Prod.mk.inj (Option.some.inj h)
        have c5b0 : ((bt a0 0) == 48) = true := beq_iff_eq.mpr c5.1
        have c5b1 : (a0.toList != ([48] : List UInt8)) = true := bne_iff_ne.mpr c5.2
        have c5b2 : (a0.toList == ([48] : List UInt8)) = false := beq_eq_false_iff_ne.mpr c5.2
        clear c5 hsz
        go_enter Tryd.func18, Tryd.ntmps18
        go_wp2
        go_ret2
        exact ⟨_, rfl, Kd.R_nil _ _ _ _ _, HB.out⟩
      · rw [if_neg c5] at h
        have H' := Aside0.mk h
        have HSZ := Aside0.mk hsz
        clear h hsz
        have c5c : (bt a0 0 == 48) = false ∨ ((bt a0 0 == 48) = true ∧ (a0.toList == ([48] : List UInt8)) = true ∧ (a0.toList != ([48] : List UInt8)) = false) := by
          by_cases z : bt a0 0 = 48
          · right
            have z2 : a0.toList = ([48] : List UInt8) := by
              by_cases z2 : a0.toList = ([48] : List UInt8)
              · exact z2
              · exact absurd ⟨z, z2⟩ c5
            exact ⟨beq_iff_eq.mpr z, beq_iff_eq.mpr z2, bne_eq_false_iff_eq.mpr z2⟩
          · left; exact beq_eq_false_iff_ne.mpr z
        clear c5
        have hcv := conv_run w a0
        rcases c5c with c5b | ⟨c5b, c5d, c5e⟩
        all_goals
          go_enter Tryd.func18, Tryd.ntmps18
          go_wp2
          clear hcv
          have HC := Aside0.mk (bytesWorld_C w a0 HSZ.out)
          have HB1 := Aside0.mk (bytesWorld_below HB.out (Nat.le_refl _) 5 a0)
          generalize Lib.bytesWorld w 5 a0 = wB at HC HB1 ⊢
          generalize grownCap w a0.size 0 5 = cB
          generalize w.heap.size = gB at HC
          clear HB q6 qi6 hx6
          go_loopg [4, 26] k (fun kq v4 v26 w' => ∃ (a : List Int) (i : Nat), v26 = .int .i64 (i : Int) ∧ Aside0 (nat_Parse.l0 kq a0 a (i : Int) = some (r1, r2)) ∧ Aside0 (kq ≤ k) ∧ Aside0 (i ≤ a0.size) ∧ Aside0 (Kd.R (Kd.int .u32) 43 w' w.heap.size (fun _ => True) v4 a) ∧ Aside0 (Kd.C (Kd.int .u8) w' (some ⟨gB, 0, none⟩) (bytesOf a0).length (bytesOf a0)) ∧ Aside0 (Below w.heap.size w w'))
          case atStart => exact ⟨[], 0, rfl, H', ⟨Nat.le_refl _⟩, ⟨Nat.zero_le _⟩, ⟨Kd.R_nil _ _ _ _ _⟩, HC, HB1⟩
          case round =>
            clear H'
            obtain ⟨a, i, rfl, HA, HK, HI, HO, HC, HB⟩ := hrel
            cases gk with
            | zero => exact absurd HA.out (by simp [nat_Parse.l0])
            | succ k1 =>
              have H := HA.out
              clear HA
              simp only [nat_Parse.l0] at H
              by_cases c1 : (i : Int) < (a0.size : Int)
              · rw [if_pos c1] at H
                have hin : i < a0.size := by omega
                obtain ⟨ad, had, hcell⟩ := Kd.at_int HC.out (i : Int) (by omega) (by rw [bytesOf_length]; omega)
                injection had with had
                subst had
                rw [rd_bytesOf, Int.toNat_natCast, add_plain] at hcell
                have c1b : decide ((i : Int) < (a0.size : Int)) = true := decide_eq_true c1
                have c1n : decide (i < a0.size) = true := decide_eq_true hin
                have hbr := bt_range a0 (i : Int)
                have hkl : (i : Int) < (a0.size : Int) := c1
                have hk0 : (0 : Int) ≤ (i : Int) := by omega
                clear c1
                by_cases c2 : bt a0 (i : Int) < 48
                · rw [if_pos c2] at H
                  obtain ⟨rfl, rfl⟩ := Prod.mk.inj (Option.some.inj H)
                  have c2b : decide (bt a0 (i : Int) < 48) = true := decide_eq_true c2
                  clear c2 H hbr hin
                  go_wp2
                  go_ret2
                  exact ⟨_, rfl, Kd.R_nil _ _ _ _ _, HB.out⟩
                · rw [if_neg c2] at H
                  have c2b : decide (bt a0 (i : Int) < 48) = false := decide_eq_false c2
                  by_cases c3 : bt a0 (i : Int) > 57
                  · rw [if_pos c3] at H
                    obtain ⟨rfl, rfl⟩ := Prod.mk.inj (Option.some.inj H)
                    have c3b : decide (57 < bt a0 (i : Int)) = true := decide_eq_true c3
                    clear c2 c3 H hbr hin
                    go_wp2
                    go_ret2
                    exact ⟨_, rfl, Kd.R_nil _ _ _ _ _, HB.out⟩
                  · rw [if_neg c3] at H
                    have c3b : decide (57 < bt a0 (i : Int)) = false := decide_eq_false c3
                    obtain ⟨y1, hy1⟩ : ∃ y_ : List Int, y_ = [10] := ⟨_, rfl⟩
                    obtain ⟨y2, hy2⟩ : ∃ y_ : List Int, y_ = [bt a0 (i : Int) - 48] := ⟨_, rfl⟩
                    rw [← hy1, ← hy2] at H
                    obtain ⟨m, HM, H⟩ := Option.bind_eq_some_iff.1 H
                    obtain ⟨t, HT, H⟩ := Option.bind_eq_some_iff.1 H
                    have NY1 := Aside0.mk hy1
                    have NY2 := Aside0.mk hy2
                    have HM1 := Aside0.mk HM
                    have HT1 := Aside0.mk HT
                    have H1 := Aside0.mk H
                    have hlo : 48 ≤ bt a0 (i : Int) := by omega
                    have hhi : bt a0 (i : Int) ≤ 57 := by omega
                    have hi2 : (i : Int) < 2000 := by have := HSZ.out; omega
                    have HIN := Aside0.mk hin
                    clear hy1 hy2 HM HT H c2 c3 hbr hin
                    obtain ⟨A4, c4, rfl⟩ := Kd.R_slice HO.out
                    go_wp2_with (first | ((with_reducible refine gate_dst (N := 37) rfl ?_); refine Kd.R_lit (Kd.int .u32) _ 43 ?hg (N := 37) ?hd (xs := ([10] : List Int)) (inner := [.int .u32 (10)]) (ok := fun _ => True) (okp := fun _ => True) ?hr ?hp (fun _ hk => hk) trivial (Below.refl _ _) (Nat.le_refl _) (by simp) ?_; (case hd => rfl); (case hg => rfl); (case hr => first | (go_simp; done) | (go_simp; rfl)); (case hp => exact (Reps.one (show Kd.M (Kd.int .u32) _ _ _ (10) [.int .u32 (10)] from rfl) (Reps.none _ _))); intro v1 w1 ho1 hb1 hg_ hnew_; clear hg_ hnew_; rw [← NY1.out] at ho1; have n0 := Aside0.mk (Kd.R_mono (ok' := fun _ => True) (Kd.R_elder' HO.out (Kd.R_base ho1) hb1) (fun _ _ => trivial)); have n1 := Aside0.mk ho1; have n2 := Aside0.mk (Kd.C_below HC.out hb1); have n3 := Aside0.mk (below_step HB.out hb1); clear HO HC HB hb1 ho1; obtain ⟨A1, d1, rfl⟩ := Kd.R_slice n1.out) | ((with_reducible refine gate_callee (f := 25) rfl ?_); refine goesL_ (some 38) rfl rfl Tryd.func25 (by kernel_rfl) rfl #[.slice A4 a.length c4, .slice A1 y1.length d1] rfl (by (try simp only [List.map_toArray, List.map_cons, List.map_nil]); first | done | rfl) ?_; (with_reducible refine (nat_Mul.calls k1 _ _ a _ _ y1 m _ ?s1 ?s2 ?s3 ?s4 HM1.out).mono ?_); (case s1 => exact (Kd.R_reads' n0.out).2.2); (case s2 => exact (Kd.R_reads' n0.out).2.1); (case s3 => exact (Kd.R_reads' n1.out).2.2); (case s4 => exact (Kd.R_reads' n1.out).2.1); rintro e w2 ⟨v2, rfl, ho2, hb2⟩; refine ⟨_, rfl, ?_⟩; have m1 := Aside0.mk ho2; have m2 := Aside0.mk (Kd.C_below n2.out hb2); have m3 := Aside0.mk (below_step n3.out hb2); clear n0 n1 n2 n3 hb2 ho2; obtain ⟨A2, d2, rfl⟩ := Kd.R_slice m1.out) | ((with_reducible refine gate_dst (N := 42) rfl ?_); refine Kd.R_lit (Kd.int .u32) _ 43 ?hg (N := 42) ?hd (xs := ([bt a0 (i : Int) - 48] : List Int)) (inner := [.int .u32 (bt a0 (i : Int) - 48)]) (ok := fun _ => True) (okp := fun _ => True) ?hr ?hp (fun _ hk => hk) trivial (Below.refl _ _) (Nat.le_refl _) (by simp) ?_; (case hd => rfl); (case hg => rfl); (case hr => first | (go_simp; done) | (go_simp; rfl)); (case hp => exact (Reps.one (show Kd.M (Kd.int .u32) _ _ _ (bt a0 (i : Int) - 48) [.int .u32 (bt a0 (i : Int) - 48)] from rfl) (Reps.none _ _))); intro v3 w3 ho3 hb3 hg_ hnew_; clear hg_ hnew_; rw [← NY2.out] at ho3; have p0 := Aside0.mk (Kd.R_mono (ok' := fun _ => True) (Kd.R_elder' m1.out (Kd.R_base ho3) hb3) (fun _ _ => trivial)); have p1 := Aside0.mk ho3; have p2 := Aside0.mk (Kd.C_below m2.out hb3); have p3 := Aside0.mk (below_step m3.out hb3); clear m1 m2 m3 hb3 ho3; obtain ⟨A3, d3, rfl⟩ := Kd.R_slice p1.out) | ((with_reducible refine gate_callee (f := 24) rfl ?_); refine goesL_ (some 43) rfl rfl Tryd.func24 (by kernel_rfl) rfl #[.slice A2 m.length d2, .slice A3 y2.length d3] rfl (by (try simp only [List.map_toArray, List.map_cons, List.map_nil]); first | done | rfl) ?_; (with_reducible refine (nat_Add.calls k1 _ _ m _ _ y2 t _ ?s1 ?s2 ?s3 ?s4 HT1.out).mono ?_); (case s1 => exact (Kd.R_reads' p0.out).2.2); (case s2 => exact (Kd.R_reads' p0.out).2.1); (case s3 => exact (Kd.R_reads' p1.out).2.2); (case s4 => exact (Kd.R_reads' p1.out).2.1); rintro e w4 ⟨v4, rfl, ho4, hb4⟩; refine ⟨_, rfl, ?_⟩; have q1 := Aside0.mk (Kd.R_lower ho4 (below_size p3.out)); have q2 := Aside0.mk (Kd.C_below p2.out hb4); have q3 := Aside0.mk (below_step p3.out hb4); clear p0 p1 p2 p3 hb4 ho4))
                    go_roundg k1
                    case measure => have := HK.out; omega
                    case rel => exact ⟨t, i + 1, by go_num, H1, ⟨by have := HK.out; omega⟩, ⟨HIN.out⟩, q1, q2, q3⟩
              · rw [if_neg c1] at H
                obtain ⟨t, HT, H⟩ := Option.bind_eq_some_iff.1 H
                obtain ⟨rfl, rfl⟩ := Prod.mk.inj (Option.some.inj H)
                have HT1 := Aside0.mk HT
                have c1b : decide ((i : Int) < (a0.size : Int)) = false := decide_eq_false c1
                have c1n : decide (i < a0.size) = false := decide_eq_false (by omega)
                clear c1 H HT
                obtain ⟨A4, c4, rfl⟩ := Kd.R_slice HO.out
                go_wp2_with (first | ((with_reducible refine gate_callee (f := 22) rfl ?_); refine goesL_ (some 46) rfl rfl Tryd.func22 (by kernel_rfl) rfl #[.slice A4 a.length c4] rfl (by (try simp only [List.map_toArray, List.map_cons, List.map_nil]); first | done | rfl) ?_; (with_reducible refine (nat_Norm.calls _ _ a t _ ?s1 ?s2 HT1.out).mono ?_); (case s1 => exact (Kd.R_reads' HO.out).2.2); (case s2 => exact (Kd.R_reads' HO.out).2.1); rintro e w2 ⟨v2, rfl, ho2, hb2⟩; refine ⟨_, rfl, ?_⟩; have q1 := Aside0.mk (Kd.R_lower ho2 (below_size HB.out)); have q3 := Aside0.mk (below_step HB.out hb2); clear hb2 ho2))
                go_ret2
                exact ⟨_, rfl, q1.out, q3.out⟩
end Go.Proofs.YtlfpnohpcemkgaaDoor.H
