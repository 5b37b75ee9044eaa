/- Written by a program of this session, wip/tools/patch_print.py, over the kit's print of the loaded functions. -/
import Derived.Test.YtjpcbflkgldokaaDoorPAx0
import Derived.Test.YtjpcbflkgldokaaDoorPAx7
namespace Go.Proofs.YtjpcbflkgldokaaDoor.H
end Go.Proofs.YtjpcbflkgldokaaDoor.H
namespace Go.Proofs.YtjpcbflkgldokaaDoor.PA
open Go.RowKit Go.Proofs.YtjpcbflkgldokaaDoorW.PrintWords Go.Proofs.YtjpcbflkgldokaaDoorW.PrintLast Go.Proofs.YtjpcbflkgldokaaDoorW.PrintMore Go.Proofs.YtjpcbflkgldokaaDoor.H
attribute [local go_sem] max2_int min2_int max_two min_two max_three min_three max_four min_four   -- for this text's walks alone
set_option linter.unusedVariables false
set_option linter.unusedSimpArgs false

/-! ### gudgeonref07_hex: function 29 -/
def gudgeonref07_hex.f : Nat → Int → Option (ByteArray)
  | 0, _ => none
  | k + 1, a0 => if a0 < 16 then (if 0 ≤ a0 then (if a0 ≤ (wrap64 (a0 + 1)) then (if (wrap64 (a0 + 1)) ≤ 16 then (some ((⟨#[48, 49, 50, 51, 52, 53, 54, 55, 56, 57, 97, 98, 99, 100, 101, 102]⟩ : ByteArray).extract (a0 : Int).toNat ((wrap64 (a0 + 1)) : Int).toNat)) else (none)) else (none)) else (none)) else ((gudgeonref07_hex.f k (wrap64 (Int.tdiv a0 16))).bind fun t205 => (if 0 ≤ (Int.tmod a0 16) then (if (Int.tmod a0 16) ≤ (wrap64 ((Int.tmod a0 16) + 1)) then (if (wrap64 ((Int.tmod a0 16) + 1)) ≤ 16 then (if t205.size + (((wrap64 ((Int.tmod a0 16) + 1)) : Int).toNat - ((Int.tmod a0 16) : Int).toNat) ≤ 9223372036854775807 then (some (t205 ++ ((⟨#[48, 49, 50, 51, 52, 53, 54, 55, 56, 57, 97, 98, 99, 100, 101, 102]⟩ : ByteArray).extract ((Int.tmod a0 16) : Int).toNat ((wrap64 ((Int.tmod a0 16) + 1)) : Int).toNat))) else (none)) else (none)) else (none)) else (none)))
theorem gudgeonref07_hex.mono_l : ∀ k, (∀ y0, LeO (gudgeonref07_hex.f k y0) (gudgeonref07_hex.f (k + 1) y0))
  | 0 => fun _ r h => by simp [gudgeonref07_hex.f] at h
  | k + 1 => by
    have ih0 := gudgeonref07_hex.mono_l k
    · intro y0
      unfold gudgeonref07_hex.f
      repeat' first
      | (with_reducible exact ih0 _)
      | (with_reducible exact LeO.refl _)
      | (with_reducible exact LeO.none _)
      | (with_reducible refine LeO.ite ?_ ?_)
      | (with_reducible refine LeO.bind ?_ (fun _ => ?_))
      | exact ih0 _
      | exact LeO.none _
      | refine LeO.ite ?_ ?_
      | refine LeO.bind ?_ (fun _ => ?_)
theorem gudgeonref07_hex.mono : ∀ a0 k, LeO (gudgeonref07_hex.f k a0) (gudgeonref07_hex.f (k + 1) a0) := by
  intro a0 k
  have ih0 := gudgeonref07_hex.mono_l k
  exact ih0 a0
def gudgeonref07_hex.T4 : Bool × List (List Nat × List Nat) := (true, [([], []), ([0], [0]), ([1], [1]), ([], []), ([], []), ([4], [4]), ([], []), ([6], [6]), ([7], [7]), ([3, 5, 8], [3, 5, 8]), ([2, 9], [2, 9]), ([10, 2, 0, 1, 2, 3, 4, 5, 6, 7, 8, 9, 10], [10])])
def gudgeonref07_hex.B4 : List Nat := [0, 1, 3, 0, 0, 16, 0, 64, 192, 504, 1023, 2047]
theorem gudgeonref07_hex.tab4 : rtab .any (opsOf Tryd.f29 4) = gudgeonref07_hex.T4 := by kernel_rfl
theorem gudgeonref07_hex.bits4 : waitsOk gudgeonref07_hex.T4.2 gudgeonref07_hex.B4 = true := by kernel_rfl
set_option maxHeartbeats 8000000 in
set_option maxRecDepth 100000 in
theorem gudgeonref07_hex.calls (k : Nat) : ∀ (a0 : Int) (r : ByteArray) (w : World) (h : gudgeonref07_hex.f k a0 = some r),
    Calls Tryd.prog 29 #[.int .i64 a0] w fun e w' => e = .returned (.string r) ∧ Below w.heap.size w w' := by
  induction k using Nat.strongRecOn with
  | _ k ih =>
  intro a0 r w h
  cases k with
  | zero => exact absurd h (by simp [gudgeonref07_hex.f])
  | succ k =>
  simp only [gudgeonref07_hex.f] at h
  have HB := Aside0.mk (Below.refl w.heap.size w)
  have H : (if a0 < 16 then (if 0 ≤ a0 then (if a0 ≤ (wrap64 (a0 + 1)) then (if (wrap64 (a0 + 1)) ≤ 16 then (some ((⟨#[48, 49, 50, 51, 52, 53, 54, 55, 56, 57, 97, 98, 99, 100, 101, 102]⟩ : ByteArray).extract (a0 : Int).toNat ((wrap64 (a0 + 1)) : Int).toNat)) else (none)) else (none)) else (none)) else ((gudgeonref07_hex.f k (wrap64 (Int.tdiv a0 16))).bind fun t205 => (if 0 ≤ (Int.tmod a0 16) then (if (Int.tmod a0 16) ≤ (wrap64 ((Int.tmod a0 16) + 1)) then (if (wrap64 ((Int.tmod a0 16) + 1)) ≤ 16 then (if t205.size + (((wrap64 ((Int.tmod a0 16) + 1)) : Int).toNat - ((Int.tmod a0 16) : Int).toNat) ≤ 9223372036854775807 then (some (t205 ++ ((⟨#[48, 49, 50, 51, 52, 53, 54, 55, 56, 57, 97, 98, 99, 100, 101, 102]⟩ : ByteArray).extract ((Int.tmod a0 16) : Int).toNat ((wrap64 ((Int.tmod a0 16) + 1)) : Int).toNat))) else (none)) else (none)) else (none)) else (none)))) = some r := h
  clear h
  by_cases c2 : a0 < 16
  · rw [if_pos c2] at H
    have c2b0 : decide (a0 < 16) = true := decide_eq_true c2
    clear c2
    by_cases c3 : 0 ≤ a0
    · rw [if_pos c3] at H
      have c3b0 := eq_true c3
      have c3b1 : decide (0 ≤ a0) = true := decide_eq_true c3
      clear c3
      by_cases c4 : a0 ≤ (wrap64 (a0 + 1))
      · rw [if_pos c4] at H
        have c4b0 := eq_true c4
        have c4b1 : decide (a0 ≤ (wrap64 (a0 + 1))) = true := decide_eq_true c4
        by_cases c5 : (wrap64 (a0 + 1)) ≤ 16
        · rw [if_pos c5] at H
          have c5b0 := eq_true c5
          have c5b1 : decide ((wrap64 (a0 + 1)) ≤ 16) = true := decide_eq_true c5
          obtain rfl := Option.some.inj H
          go_enter Tryd.func29, Tryd.ntmps29
          go_wp2
          go_ret
          exact ⟨by first | rfl | (simp [errW_none, errW_some] <;> rfl) | (simp [*, errW_none, errW_some] <;> rfl), by repeat (first | (with_reducible first | exact HB.out | apply below_alloc | apply pw_below_drewN | apply below_drew1) | exact HB.out)⟩
        · rw [if_neg c5] at H
          exact absurd H (by simp)
      · rw [if_neg c4] at H
        exact absurd H (by simp)
    · rw [if_neg c3] at H
      exact absurd H (by simp)
  · rw [if_neg c2] at H
    have c2b0 : decide (a0 < 16) = false := decide_eq_false c2
    clear c2
    replace H := Option.bind_eq_some_iff.mp H
    obtain ⟨t205, A60, H⟩ := H
    replace H : (if 0 ≤ (Int.tmod a0 16) then (if (Int.tmod a0 16) ≤ (wrap64 ((Int.tmod a0 16) + 1)) then (if (wrap64 ((Int.tmod a0 16) + 1)) ≤ 16 then (if t205.size + (((wrap64 ((Int.tmod a0 16) + 1)) : Int).toNat - ((Int.tmod a0 16) : Int).toNat) ≤ 9223372036854775807 then (some (t205 ++ ((⟨#[48, 49, 50, 51, 52, 53, 54, 55, 56, 57, 97, 98, 99, 100, 101, 102]⟩ : ByteArray).extract ((Int.tmod a0 16) : Int).toNat ((wrap64 ((Int.tmod a0 16) + 1)) : Int).toNat))) else (none)) else (none)) else (none)) else (none)) = some r := H
    have A6 := Aside0.mk A60
    clear A60
    obtain ⟨ji7, hji7⟩ : ∃ j_ : Int, (Int.tmod a0 16) = j_ := ⟨_, rfl⟩
    replace H : (if 0 ≤ (ji7) then (if (ji7) ≤ (wrap64 ((ji7) + 1)) then (if (wrap64 ((ji7) + 1)) ≤ 16 then (if t205.size + (((wrap64 ((ji7) + 1)) : Int).toNat - ((ji7) : Int).toNat) ≤ 9223372036854775807 then (some (t205 ++ ((⟨#[48, 49, 50, 51, 52, 53, 54, 55, 56, 57, 97, 98, 99, 100, 101, 102]⟩ : ByteArray).extract ((ji7) : Int).toNat ((wrap64 ((ji7) + 1)) : Int).toNat))) else (none)) else (none)) else (none)) else (none)) = some r := by first | (rw [hji7] at H; exact H) | (simp only [hji7] at H ⊢; exact H)
    (try rw [hji7] at A6)
    by_cases c8 : 0 ≤ (ji7)
    · rw [if_pos c8] at H
      have c8b0 := eq_true c8
      have c8b1 : decide (0 ≤ (ji7)) = true := decide_eq_true c8
      clear c8
      by_cases c9 : (ji7) ≤ (wrap64 ((ji7) + 1))
      · rw [if_pos c9] at H
        have c9b0 := eq_true c9
        have c9b1 : decide ((ji7) ≤ (wrap64 ((ji7) + 1))) = true := decide_eq_true c9
        by_cases c10 : (wrap64 ((ji7) + 1)) ≤ 16
        · rw [if_pos c10] at H
          have c10b0 := eq_true c10
          have c10b1 : decide ((wrap64 ((ji7) + 1)) ≤ 16) = true := decide_eq_true c10
          by_cases c11 : t205.size + (((wrap64 ((ji7) + 1)) : Int).toNat - ((ji7) : Int).toNat) ≤ 9223372036854775807
          · rw [if_pos c11] at H
            have c11b0 := eq_true c11
            have c11b1 : decide (t205.size + (((wrap64 ((ji7) + 1)) : Int).toNat - ((ji7) : Int).toNat) ≤ 9223372036854775807) = true := decide_eq_true c11
            try have c11b2 : (9223372036854775807 < t205.size + (((wrap64 ((ji7) + 1)) : Int).toNat - ((ji7) : Int).toNat)) = False := eq_false (Nat.not_lt.2 c11)
            obtain rfl := Option.some.inj H
            go_enter Tryd.func29, Tryd.ntmps29
            try go_wp2
            have n0_ := Aside0.mk (below_drew1 HB.out)
            clear HB
            have HB := n0_
            clear n0_
            refine start_ (n := 12) (S := fun w' => True) (ds := []) #[false, false, false, false, false, false, false, false, false, false, false, false] (by kernel_rfl) rfl rfl trivial (fun hHeld => ?_); refine with_tabW gudgeonref07_hex.tab4 gudgeonref07_hex.bits4 (fun HT_ HW_ => ?_)
            generalize w.drew = w12 at HB hHeld ⊢
            refine pure_ (i := 0) (N := some 11) (v := ?_) (a' := ?_) #[true, false, false, false, false, false, false, false, false, false, false, false] rfl rfl (any_of HT_.out (by kernel_rfl)) (fun _ _ _ h => h) (Or.inl ⟨by rfl, ?_⟩) ?_ ?_
            rotate_left
            · intro w'
              go_simp
              with_reducible rfl
            rotate_left
            · simp only [Act.put, List.setIfInBounds_toArray, List.set_cons_zero, List.set_cons_succ, i64_w, i32_w]
              rfl
            refine pure_ (i := 1) (N := some 12) (v := ?_) (a' := ?_) #[true, true, false, false, false, false, false, false, false, false, false, false] rfl rfl (any_of HT_.out (by kernel_rfl)) (fun _ _ _ h => h) (Or.inl ⟨by rfl, ?_⟩) ?_ ?_
            rotate_left
            · intro w'
              go_simp
              with_reducible rfl
            rotate_left
            · simp only [Act.put, List.setIfInBounds_toArray, List.set_cons_zero, List.set_cons_succ, i64_w, i32_w]
              rfl
            refine pure_ (i := 3) (N := some 14) (v := ?_) (a' := ?_) #[true, true, false, true, false, false, false, false, false, false, false, false] rfl rfl (any_of HT_.out (by kernel_rfl)) (fun _ _ _ h => h) (Or.inl ⟨by rfl, ?_⟩) ?_ ?_
            rotate_left
            · intro w'
              go_simp
              with_reducible rfl
            rotate_left
            · simp only [Act.put, List.setIfInBounds_toArray, List.set_cons_zero, List.set_cons_succ, i64_w, i32_w]
              rfl
            refine pure_ (i := 4) (N := some 15) (v := ?_) (a' := ?_) #[true, true, false, true, true, false, false, false, false, false, false, false] rfl rfl (any_of HT_.out (by kernel_rfl)) (fun _ _ _ h => h) (Or.inl ⟨by rfl, ?_⟩) ?_ ?_
            rotate_left
            · intro w'
              go_simp
              with_reducible rfl
            rotate_left
            · simp only [Act.put, List.setIfInBounds_toArray, List.set_cons_zero, List.set_cons_succ, i64_w, i32_w]
              rfl
            refine pure_ (i := 5) (N := some 16) (v := ?_) (a' := ?_) #[true, true, false, true, true, true, false, false, false, false, false, false] rfl rfl (any_of HT_.out (by kernel_rfl)) (fun _ _ _ h => h) (Or.inl ⟨by rfl, ?_⟩) ?_ ?_
            rotate_left
            · intro w'
              go_simp
              with_reducible rfl
            rotate_left
            · simp only [Act.put, List.setIfInBounds_toArray, List.set_cons_zero, List.set_cons_succ, i64_w, i32_w]
              rfl
            refine pure_ (i := 6) (N := some 17) (v := ?_) (a' := ?_) #[true, true, false, true, true, true, true, false, false, false, false, false] rfl rfl (any_of HT_.out (by kernel_rfl)) (fun _ _ _ h => h) (Or.inl ⟨by rfl, ?_⟩) ?_ ?_
            rotate_left
            · intro w'
              go_simp
              with_reducible rfl
            rotate_left
            · simp only [Act.put, List.setIfInBounds_toArray, List.set_cons_zero, List.set_cons_succ, i64_w, i32_w]
              rfl
            refine pure_ (i := 7) (N := some 18) (v := ?_) (a' := ?_) #[true, true, false, true, true, true, true, true, false, false, false, false] rfl rfl (any_of HT_.out (by kernel_rfl)) (fun _ _ _ h => h) (Or.inl ⟨by rfl, ?_⟩) ?_ ?_
            rotate_left
            · intro w'
              go_simp
              with_reducible rfl
            rotate_left
            · simp only [Act.put, List.setIfInBounds_toArray, List.set_cons_zero, List.set_cons_succ, i64_w, i32_w]
              rfl
            refine pure_ (i := 8) (N := some 19) (v := ?_) (a' := ?_) #[true, true, false, true, true, true, true, true, true, false, false, false] rfl rfl (any_of HT_.out (by kernel_rfl)) (fun _ _ _ h => h) (Or.inl ⟨by rfl, ?_⟩) ?_ ?_
            rotate_left
            · intro w'
              go_simp
              with_reducible rfl
            rotate_left
            · simp only [Act.put, List.setIfInBounds_toArray, List.set_cons_zero, List.set_cons_succ, i64_w, i32_w]
              rfl
            refine pure_ (i := 9) (N := some 20) (v := ?_) (a' := ?_) #[true, true, false, true, true, true, true, true, true, true, false, false] rfl rfl (any_of HT_.out (by kernel_rfl)) (fun _ _ _ h => h) (Or.inl ⟨by rfl, ?_⟩) ?_ ?_
            rotate_left
            · intro w'
              go_simp
              with_reducible rfl
            rotate_left
            · simp only [Act.put, List.setIfInBounds_toArray, List.set_cons_zero, List.set_cons_succ, i64_w, i32_w]
              rfl
            refine one_ (i := 2) (N := some 13) #[true, true, true, true, true, true, true, true, true, true, false, false] rfl rfl (one_of HT_.out (by kernel_rfl)) (by decide) (fun K hK => ?_)
            refine goes_ Tryd.func29 (by kernel_rfl) rfl #[.int .i64 (wrap64 (Int.tdiv a0 16))] (by rfl) rfl rfl (by (try simp only [List.map_toArray, List.map_cons, List.map_nil]); first | done | rfl | (simp only [List.length_drop, List.length_take]; rfl)) ?_
            with_reducible refine (ih k (by omega) (wrap64 (Int.tdiv a0 16)) t205 _ A6.out).mono ?_
            rintro e w13 ⟨rfl, hb⟩
            refine ⟨_, rfl, ?_⟩
            have n0_ := Aside0.mk (below_step (by repeat (first | (with_reducible first | exact HB.out | apply below_alloc | apply pw_below_drewN | apply below_drew1) | exact HB.out)) hb)
            clear HB
            have HB := n0_
            clear n0_
            (try clear hb)
            (try clear hb2)
            (try clear hk)
            (try clear hi)
            refine hK.out _ _ trivial (fun hHeld => ?_)
            clear hK K
            refine norm_ (a' := ?_) ?_ ?_
            rotate_left
            · show Act.put _ (some 13) _ = _
              simp only [Act.put, List.setIfInBounds_toArray, List.set_cons_zero, List.set_cons_succ, i64_w, i32_w]
              rfl
            refine pure_ (i := 10) (N := some 21) (v := ?_) (a' := ?_) #[true, true, true, true, true, true, true, true, true, true, true, false] rfl rfl (any_of HT_.out (by kernel_rfl)) (fun _ _ _ h => h) (Or.inl ⟨by rfl, ?_⟩) ?_ ?_
            rotate_left
            · intro w'
              go_simp
              with_reducible rfl
            rotate_left
            · simp only [Act.put, List.setIfInBounds_toArray, List.set_cons_zero, List.set_cons_succ, i64_w, i32_w]
              rfl
            refine pure_ (i := 11) (N := some 2) (v := ?_) (a' := ?_) #[true, true, true, true, true, true, true, true, true, true, true, true] rfl rfl (any_of HT_.out (by kernel_rfl)) (fun _ _ _ h => h) (Or.inl ⟨by rfl, ?_⟩) ?_ ?_
            rotate_left
            · intro w'
              go_simp
              with_reducible rfl
            rotate_left
            · simp only [Act.put, List.setIfInBounds_toArray, List.set_cons_zero, List.set_cons_succ, i64_w, i32_w]
              rfl
            refine done_ (done_of HT_.out (by kernel_rfl)) ?_
            try go_wp2
            go_ret
            exact ⟨by first | rfl | (simp [errW_none, errW_some] <;> rfl) | (simp only [← hji7]; first | rfl | (simp [errW_none, errW_some] <;> rfl)) | (simp [*, errW_none, errW_some] <;> rfl), by repeat (first | (with_reducible first | exact HB.out | apply below_alloc | apply pw_below_drewN | apply below_drew1) | exact HB.out)⟩
          · rw [if_neg c11] at H
            exact absurd H (by simp)
        · rw [if_neg c10] at H
          exact absurd H (by simp)
      · rw [if_neg c9] at H
        exact absurd H (by simp)
    · rw [if_neg c8] at H
      exact absurd H (by simp)

/-! ### gudgeonref07_Escape: function 15 -/
def gudgeonref07_Escape.l0 : Nat → List Int → ByteArray → Int → Option (ByteArray × Int)
  | 0, _, _, _ => none
  | k + 1, x0, x4, x5 => if x5 < (x0.length : Int) then (if 0 ≤ x5 then ((gudgeonref07_Point.f (rd x0 x5)).bind fun t207 => (if t207 = true then (if (rd x0 x5) ≥ 32 then (if (rd x0 x5) < 127 then (if (rd x0 x5) = 92 then (if x4.size + 3 ≤ 9223372036854775807 then ((gudgeonref07_hex.f k (rd x0 x5)).bind fun t208 => (if x4.size + 3 + t208.size ≤ 9223372036854775807 then (if x4.size + 3 + t208.size + 1 ≤ 9223372036854775807 then (gudgeonref07_Escape.l0 k x0 (((x4 ++ (⟨#[92, 117, 123]⟩ : ByteArray)) ++ t208) ++ (⟨#[125]⟩ : ByteArray)) (wrap64 (x5 + 1))) else (none)) else (none))) else (none)) else ((some (([(rd x0 x5) % 256] : List Int) : List Int)).bind fun y209 => (if x4.size + (strOfNums y209).size ≤ 9223372036854775807 then (gudgeonref07_Escape.l0 k x0 (x4 ++ (strOfNums y209)) (wrap64 (x5 + 1))) else (none)))) else (if x4.size + 3 ≤ 9223372036854775807 then ((gudgeonref07_hex.f k (rd x0 x5)).bind fun t212 => (if x4.size + 3 + t212.size ≤ 9223372036854775807 then (if x4.size + 3 + t212.size + 1 ≤ 9223372036854775807 then (gudgeonref07_Escape.l0 k x0 (((x4 ++ (⟨#[92, 117, 123]⟩ : ByteArray)) ++ t212) ++ (⟨#[125]⟩ : ByteArray)) (wrap64 (x5 + 1))) else (none)) else (none))) else (none))) else (if x4.size + 3 ≤ 9223372036854775807 then ((gudgeonref07_hex.f k (rd x0 x5)).bind fun t213 => (if x4.size + 3 + t213.size ≤ 9223372036854775807 then (if x4.size + 3 + t213.size + 1 ≤ 9223372036854775807 then (gudgeonref07_Escape.l0 k x0 (((x4 ++ (⟨#[92, 117, 123]⟩ : ByteArray)) ++ t213) ++ (⟨#[125]⟩ : ByteArray)) (wrap64 (x5 + 1))) else (none)) else (none))) else (none))) else (some ((⟨#[]⟩ : ByteArray), 1)))) else (none)) else (some (x4, 0))
def gudgeonref07_Escape.f (k : Nat) (l0 : List Int) : Option (ByteArray × Int) := gudgeonref07_Escape.l0 k l0 (⟨#[]⟩ : ByteArray) 0
theorem gudgeonref07_Escape.mono_l : ∀ k, (∀ y0 y1 y2, LeO (gudgeonref07_Escape.l0 k y0 y1 y2) (gudgeonref07_Escape.l0 (k + 1) y0 y1 y2))
  | 0 => fun _ _ _ r h => by simp [gudgeonref07_Escape.l0] at h
  | k + 1 => by
    have ih0 := gudgeonref07_Escape.mono_l k
    · intro y0 y1 y2
      unfold gudgeonref07_Escape.l0
      repeat' first
      | (with_reducible exact ih0 _ _ _)
      | (with_reducible exact gudgeonref07_hex.mono _ _)
      | (with_reducible exact LeO.refl _)
      | (with_reducible exact LeO.none _)
      | (with_reducible refine LeO.ite ?_ ?_)
      | (with_reducible refine LeO.bind ?_ (fun _ => ?_))
      | exact ih0 _ _ _
      | exact gudgeonref07_hex.mono _ _
      | exact LeO.none _
      | refine LeO.ite ?_ ?_
      | refine LeO.bind ?_ (fun _ => ?_)
theorem gudgeonref07_Escape.mono : ∀ a0 k, LeO (gudgeonref07_Escape.f k a0) (gudgeonref07_Escape.f (k + 1) a0) := by
  intro a0 k
  have ih0 := gudgeonref07_Escape.mono_l k
  unfold gudgeonref07_Escape.f
  repeat' first
      | (with_reducible exact ih0 _ _ _)
      | (with_reducible exact gudgeonref07_hex.mono _ _)
      | (with_reducible exact LeO.refl _)
      | (with_reducible exact LeO.none _)
      | (with_reducible refine LeO.ite ?_ ?_)
      | (with_reducible refine LeO.bind ?_ (fun _ => ?_))
      | exact ih0 _ _ _
      | exact gudgeonref07_hex.mono _ _
      | exact LeO.none _
      | refine LeO.ite ?_ ?_
      | refine LeO.bind ?_ (fun _ => ?_)
set_option maxHeartbeats 8000000 in
set_option maxRecDepth 100000 in
theorem gudgeonref07_Escape.calls (k : Nat) (A0 : Option Addr) (c0 : Nat) (l0 : List Int) (r1 : ByteArray) (r2 : Int) (w : World) (hr0 : Kd.C (Kd.int .i64) w A0 l0.length l0) (hc0 : l0.length ≤ c0) (h : gudgeonref07_Escape.f k l0 = some (r1, r2)) :
    Calls Tryd.prog 15 #[.slice A0 l0.length c0] w fun e w' => e = .returned (.tuple #[.string r1, .int .i64 r2]) ∧ Below w.heap.size w w' := by
  have HR0 := Aside0.mk hr0
  have HC0 := Aside0.mk hc0
  clear hr0 hc0
  have HB := Aside0.mk (Below.refl w.heap.size w)
  have H : (gudgeonref07_Escape.l0 k l0 (⟨#[]⟩ : ByteArray) 0) = some (r1, r2) := h
  clear h
  have H' := Aside0.mk H
  clear H
  go_enter Tryd.func15, Tryd.ntmps15
  go_wp2
  go_loopg [4, 5] k (fun kq v4 v5 w' => ∃ (x4_1 : ByteArray) (x5_1 : Int), v4 = .string x4_1 ∧ v5 = .int .i64 x5_1 ∧ Aside0 (gudgeonref07_Escape.l0 kq l0 x4_1 x5_1 = some (r1, r2)) ∧ Aside0 (kq ≤ k) ∧ Aside0 (Below w.heap.size w w'))
  case atStart => exact ⟨((⟨#[]⟩ : ByteArray)), (0), (by first | rfl | (simp; done) | (simp [*]; done) | (refine congrArg Value.bool ?_; generalize ByteArray.toList _ = z_; cases z_ <;> rfl)), (by first | rfl | (simp; done) | (simp [*]; done) | (refine congrArg Value.bool ?_; generalize ByteArray.toList _ = z_; cases z_ <;> rfl)), H', ⟨Nat.le_refl _⟩, ⟨by repeat (first | (with_reducible first | exact HB.out | apply below_alloc | apply pw_below_drewN | apply below_drew1) | exact HB.out)⟩⟩
  case round =>
    clear H'
    try clear c1
    obtain ⟨x4_1, x5_1, rfl, rfl, HA, HK1, HB⟩ := hrel
    cases gk with
    | zero => exact absurd HA.out (by simp [gudgeonref07_Escape.l0])
    | succ k1 =>
      have H := HA.out
      clear HA
      simp only [gudgeonref07_Escape.l0] at H
      by_cases c2 : x5_1 < (l0.length : Int)
      · rw [if_pos c2] at H
        have c2b0 : decide (x5_1 < (l0.length : Int)) = true := decide_eq_true c2
        clear c2
        by_cases c3 : 0 ≤ x5_1
        · rw [if_pos c3] at H
          have c3b0 : decide (0 ≤ x5_1) = true := decide_eq_true c3
          clear c3
          replace H := Option.bind_eq_some_iff.mp H
          obtain ⟨t207, A40, H⟩ := H
          replace H : (if t207 = true then (if (rd l0 x5_1) ≥ 32 then (if (rd l0 x5_1) < 127 then (if (rd l0 x5_1) = 92 then (if x4_1.size + 3 ≤ 9223372036854775807 then ((gudgeonref07_hex.f k1 (rd l0 x5_1)).bind fun t208 => (if x4_1.size + 3 + t208.size ≤ 9223372036854775807 then (if x4_1.size + 3 + t208.size + 1 ≤ 9223372036854775807 then (gudgeonref07_Escape.l0 k1 l0 (((x4_1 ++ (⟨#[92, 117, 123]⟩ : ByteArray)) ++ t208) ++ (⟨#[125]⟩ : ByteArray)) (wrap64 (x5_1 + 1))) else (none)) else (none))) else (none)) else ((some (([(rd l0 x5_1) % 256] : List Int) : List Int)).bind fun y209 => (if x4_1.size + (strOfNums y209).size ≤ 9223372036854775807 then (gudgeonref07_Escape.l0 k1 l0 (x4_1 ++ (strOfNums y209)) (wrap64 (x5_1 + 1))) else (none)))) else (if x4_1.size + 3 ≤ 9223372036854775807 then ((gudgeonref07_hex.f k1 (rd l0 x5_1)).bind fun t212 => (if x4_1.size + 3 + t212.size ≤ 9223372036854775807 then (if x4_1.size + 3 + t212.size + 1 ≤ 9223372036854775807 then (gudgeonref07_Escape.l0 k1 l0 (((x4_1 ++ (⟨#[92, 117, 123]⟩ : ByteArray)) ++ t212) ++ (⟨#[125]⟩ : ByteArray)) (wrap64 (x5_1 + 1))) else (none)) else (none))) else (none))) else (if x4_1.size + 3 ≤ 9223372036854775807 then ((gudgeonref07_hex.f k1 (rd l0 x5_1)).bind fun t213 => (if x4_1.size + 3 + t213.size ≤ 9223372036854775807 then (if x4_1.size + 3 + t213.size + 1 ≤ 9223372036854775807 then (gudgeonref07_Escape.l0 k1 l0 (((x4_1 ++ (⟨#[92, 117, 123]⟩ : ByteArray)) ++ t213) ++ (⟨#[125]⟩ : ByteArray)) (wrap64 (x5_1 + 1))) else (none)) else (none))) else (none))) else (some ((⟨#[]⟩ : ByteArray), 1))) = some (r1, r2) := H
          have A4 := Aside0.mk A40
          clear A40
          by_cases c5 : t207 = true
          · subst c5
            have H1 : (if (rd l0 x5_1) ≥ 32 then (if (rd l0 x5_1) < 127 then (if (rd l0 x5_1) = 92 then (if x4_1.size + 3 ≤ 9223372036854775807 then ((gudgeonref07_hex.f k1 (rd l0 x5_1)).bind fun t208 => (if x4_1.size + 3 + t208.size ≤ 9223372036854775807 then (if x4_1.size + 3 + t208.size + 1 ≤ 9223372036854775807 then (gudgeonref07_Escape.l0 k1 l0 (((x4_1 ++ (⟨#[92, 117, 123]⟩ : ByteArray)) ++ t208) ++ (⟨#[125]⟩ : ByteArray)) (wrap64 (x5_1 + 1))) else (none)) else (none))) else (none)) else ((some (([(rd l0 x5_1) % 256] : List Int) : List Int)).bind fun y209 => (if x4_1.size + (strOfNums y209).size ≤ 9223372036854775807 then (gudgeonref07_Escape.l0 k1 l0 (x4_1 ++ (strOfNums y209)) (wrap64 (x5_1 + 1))) else (none)))) else (if x4_1.size + 3 ≤ 9223372036854775807 then ((gudgeonref07_hex.f k1 (rd l0 x5_1)).bind fun t212 => (if x4_1.size + 3 + t212.size ≤ 9223372036854775807 then (if x4_1.size + 3 + t212.size + 1 ≤ 9223372036854775807 then (gudgeonref07_Escape.l0 k1 l0 (((x4_1 ++ (⟨#[92, 117, 123]⟩ : ByteArray)) ++ t212) ++ (⟨#[125]⟩ : ByteArray)) (wrap64 (x5_1 + 1))) else (none)) else (none))) else (none))) else (if x4_1.size + 3 ≤ 9223372036854775807 then ((gudgeonref07_hex.f k1 (rd l0 x5_1)).bind fun t213 => (if x4_1.size + 3 + t213.size ≤ 9223372036854775807 then (if x4_1.size + 3 + t213.size + 1 ≤ 9223372036854775807 then (gudgeonref07_Escape.l0 k1 l0 (((x4_1 ++ (⟨#[92, 117, 123]⟩ : ByteArray)) ++ t213) ++ (⟨#[125]⟩ : ByteArray)) (wrap64 (x5_1 + 1))) else (none)) else (none))) else (none))) = some (r1, r2) := by rw [if_pos rfl] at H; exact H
            clear H
            have H := H1
            clear H1
            by_cases c6 : (rd l0 x5_1) ≥ 32
            · rw [if_pos c6] at H
              have c6b0 : decide (32 ≤ (rd l0 x5_1)) = true := decide_eq_true c6
              clear c6
              by_cases c7 : (rd l0 x5_1) < 127
              · rw [if_pos c7] at H
                have c7b0 : decide ((rd l0 x5_1) < 127) = true := decide_eq_true c7
                clear c7
                by_cases c8 : (rd l0 x5_1) = 92
                · rw [if_pos c8] at H
                  have c8b0 : ((rd l0 x5_1) == 92) = true := beq_iff_eq.mpr c8
                  have c8b1 : ((rd l0 x5_1) != 92) = false := bne_eq_false_iff_eq.mpr c8
                  clear c8
                  by_cases c9 : x4_1.size + 3 ≤ 9223372036854775807
                  · rw [if_pos c9] at H
                    have c9b0 := eq_true c9
                    have c9b1 : decide (x4_1.size + 3 ≤ 9223372036854775807) = true := decide_eq_true c9
                    try have c9b2 : (9223372036854775807 < x4_1.size + 3) = False := eq_false (Nat.not_lt.2 c9)
                    replace H := Option.bind_eq_some_iff.mp H
                    obtain ⟨t208, A100, H⟩ := H
                    replace H : (if x4_1.size + 3 + t208.size ≤ 9223372036854775807 then (if x4_1.size + 3 + t208.size + 1 ≤ 9223372036854775807 then (gudgeonref07_Escape.l0 k1 l0 (((x4_1 ++ (⟨#[92, 117, 123]⟩ : ByteArray)) ++ t208) ++ (⟨#[125]⟩ : ByteArray)) (wrap64 (x5_1 + 1))) else (none)) else (none)) = some (r1, r2) := H
                    have A10 := Aside0.mk A100
                    clear A100
                    by_cases c11 : x4_1.size + 3 + t208.size ≤ 9223372036854775807
                    · rw [if_pos c11] at H
                      have c11b0 := eq_true c11
                      have c11b1 : decide (x4_1.size + 3 + t208.size ≤ 9223372036854775807) = true := decide_eq_true c11
                      try have c11b2 : (9223372036854775807 < x4_1.size + 3 + t208.size) = False := eq_false (Nat.not_lt.2 c11)
                      by_cases c12 : x4_1.size + 3 + t208.size + 1 ≤ 9223372036854775807
                      · rw [if_pos c12] at H
                        have c12b0 := eq_true c12
                        have c12b1 : decide (x4_1.size + 3 + t208.size + 1 ≤ 9223372036854775807) = true := decide_eq_true c12
                        try have c12b2 : (9223372036854775807 < x4_1.size + 3 + t208.size + 1) = False := eq_false (Nat.not_lt.2 c12)
                        have H' := Aside0.mk H
                        clear H
                        have p206 : 0 ≤ (x5_1 : Int) := of_decide_eq_true (by first | (with_reducible assumption) | assumption)
                        have q206 : x5_1 < (l0.length : Int) := of_decide_eq_true (by first | (with_reducible assumption) | assumption)
                        obtain ⟨ad206, e206, hx206_0⟩ := Kd.at_int HR0.out x5_1 p206 q206
                        cases e206
                        replace hx206_0 := (HB.out.cell (World.block_lt_of_cell? w _ hx206_0)).trans hx206_0
                        replace p206 := eq_true p206
                        replace q206 := eq_true q206
                        go_wp2_with (first | ((with_reducible refine gate_callee (f := 28) rfl ?_); refine goesL_ (some 19) rfl rfl Tryd.func28 (by kernel_rfl) rfl #[.int .i64 (rd l0 x5_1)] rfl (by (try simp only [List.map_toArray, List.map_cons, List.map_nil]); first | done | rfl | (simp only [List.length_drop, List.length_take]; rfl)) ?_; (with_reducible refine (gudgeonref07_Point.calls (rd l0 x5_1) true _ A4.out).mono ?_); rintro e w' ⟨rfl, ⟨nd, rfl⟩⟩; refine ⟨_, rfl, ?_⟩) | ((with_reducible refine gate_callee (f := 29) rfl ?_); refine goesL_ (some 41) rfl rfl Tryd.func29 (by kernel_rfl) rfl #[.int .i64 (rd l0 x5_1)] rfl (by (try simp only [List.map_toArray, List.map_cons, List.map_nil]); first | done | rfl | (simp only [List.length_drop, List.length_take]; rfl)) ?_; (with_reducible refine (gudgeonref07_hex.calls k1 (rd l0 x5_1) t208 _ A10.out).mono ?_); rintro e w13 ⟨rfl, hb⟩; refine ⟨_, rfl, ?_⟩; have n0_ := Aside0.mk (below_step (by repeat (first | (with_reducible first | exact HB.out | apply below_alloc | apply pw_below_drewN | apply below_drew1) | exact HB.out)) hb); clear HB; have HB := n0_; clear n0_; (try clear hb); (try clear hb2); (try clear hk); (try clear hi)))
                        go_roundg k1
                        case measure => have := HK1.out; omega
                        case rel => exact ⟨(((x4_1 ++ (⟨#[92, 117, 123]⟩ : ByteArray)) ++ t208) ++ (⟨#[125]⟩ : ByteArray)), (wrap64 (x5_1 + 1)), (by first | rfl | (simp; done) | (simp [*]; done) | (refine congrArg Value.bool ?_; generalize ByteArray.toList _ = z_; cases z_ <;> rfl)), (by first | rfl | (simp; done) | (simp [*]; done) | (refine congrArg Value.bool ?_; generalize ByteArray.toList _ = z_; cases z_ <;> rfl)), H', ⟨by have := HK1.out; omega⟩, ⟨by repeat (first | (with_reducible first | exact HB.out | apply below_alloc | apply pw_below_drewN | apply below_drew1) | exact HB.out)⟩⟩
                      · rw [if_neg c12] at H
                        exact absurd H (by simp)
                    · rw [if_neg c11] at H
                      exact absurd H (by simp)
                  · rw [if_neg c9] at H
                    exact absurd H (by simp)
                · rw [if_neg c8] at H
                  have c8b0 : ((rd l0 x5_1) == 92) = false := beq_eq_false_iff_ne.mpr c8
                  have c8b1 : ((rd l0 x5_1) != 92) = true := bne_iff_ne.mpr c8
                  obtain ⟨y209, hy209⟩ : ∃ y_ : List Int, y_ = (([(rd l0 x5_1) % 256] : List Int)) := ⟨_, rfl⟩
                  replace H : (if x4_1.size + (strOfNums y209).size ≤ 9223372036854775807 then (gudgeonref07_Escape.l0 k1 l0 (x4_1 ++ (strOfNums y209)) (wrap64 (x5_1 + 1))) else (none)) = some (r1, r2) := by first | (rw [hy209]; with_reducible exact H) | (have H2_ := (Option.bind_some _ _).symm.trans H; rw [hy209]; with_reducible exact H2_) | (have H2_ := (Option.bind_some _ _).symm.trans H; with_reducible exact H2_) | with_reducible exact H | (rw [hy209]; exact H) | exact H
                  have Ny209 := Aside0.mk hy209
                  clear hy209
                  by_cases c14 : x4_1.size + (strOfNums y209).size ≤ 9223372036854775807
                  · rw [if_pos c14] at H
                    have c14b0 := eq_true c14
                    have c14b1 : decide (x4_1.size + (strOfNums y209).size ≤ 9223372036854775807) = true := decide_eq_true c14
                    try have c14b2 : (9223372036854775807 < x4_1.size + (strOfNums y209).size) = False := eq_false (Nat.not_lt.2 c14)
                    have H' := Aside0.mk H
                    clear H
                    have p206 : 0 ≤ (x5_1 : Int) := of_decide_eq_true (by first | (with_reducible assumption) | assumption)
                    have q206 : x5_1 < (l0.length : Int) := of_decide_eq_true (by first | (with_reducible assumption) | assumption)
                    obtain ⟨ad206, e206, hx206_0⟩ := Kd.at_int HR0.out x5_1 p206 q206
                    cases e206
                    replace hx206_0 := (HB.out.cell (World.block_lt_of_cell? w _ hx206_0)).trans hx206_0
                    replace p206 := eq_true p206
                    replace q206 := eq_true q206
                    go_wp2_with (first | ((with_reducible refine gate_callee (f := 28) rfl ?_); refine goesL_ (some 19) rfl rfl Tryd.func28 (by kernel_rfl) rfl #[.int .i64 (rd l0 x5_1)] rfl (by (try simp only [List.map_toArray, List.map_cons, List.map_nil]); first | done | rfl | (simp only [List.length_drop, List.length_take]; rfl)) ?_; (with_reducible refine (gudgeonref07_Point.calls (rd l0 x5_1) true _ A4.out).mono ?_); rintro e w' ⟨rfl, ⟨nd, rfl⟩⟩; refine ⟨_, rfl, ?_⟩) | ((with_reducible refine gate_dst (N := 35) rfl ?_); refine Kd.R_lit (Kd.int .u8) _ 5 ?hg (N := 35) ?hd (xs := ([(rd l0 x5_1) % 256] : List Int)) (inner := [.int .u8 ((rd l0 x5_1) % 256)]) (ok := fun _ => True) (okp := fun _ => True) ?hr ?hp (fun _ hk => hk) trivial (Below.refl _ _) (Nat.le_refl _) (by simp) ?_; (case hd => rfl); (case hg => rfl); (case hr => first | (go_simp; done) | (go_simp; rfl)); (case hp => exact (Reps.one (show Kd.M (Kd.int .u8) _ _ _ ((rd l0 x5_1) % 256) [.int .u8 ((rd l0 x5_1) % 256)] from rfl) (Reps.none _ _))); intro v210 w15 ho16 hb hg_ hnew_; clear hg_ hnew_; (first | rw [← Ny209.out] at ho16 | (simp only [Int.reduceToNat] at ho16; rw [← Ny209.out] at ho16)); have n0_ := Aside0.mk (Kd.R_lower ho16 (below_size (by repeat (first | (with_reducible first | exact HB.out | apply below_alloc | apply pw_below_drewN | apply below_drew1) | exact HB.out)))); have n1_ := Aside0.mk (below_step (by repeat (first | (with_reducible first | exact HB.out | apply below_alloc | apply pw_below_drewN | apply below_drew1) | exact HB.out)) hb); clear HB; have HO211 := n0_; have HB := n1_; clear n0_ n1_; clear hb ho16; have hcv17 := own_string (P := Tryd.prog) Tryd.underlying46 Tryd.underlying5 Tryd.underlying9 (Kd.own_of_R HO211.out)))
                    go_roundg k1
                    case measure => have := HK1.out; omega
                    case rel => exact ⟨(x4_1 ++ (strOfNums y209)), (wrap64 (x5_1 + 1)), (by first | rfl | (simp; done) | (simp [*]; done) | (refine congrArg Value.bool ?_; generalize ByteArray.toList _ = z_; cases z_ <;> rfl)), (by first | rfl | (simp; done) | (simp [*]; done) | (refine congrArg Value.bool ?_; generalize ByteArray.toList _ = z_; cases z_ <;> rfl)), H', ⟨by have := HK1.out; omega⟩, ⟨by repeat (first | (with_reducible first | exact HB.out | apply below_alloc | apply pw_below_drewN | apply below_drew1) | exact HB.out)⟩⟩
                  · rw [if_neg c14] at H
                    exact absurd H (by simp)
              · rw [if_neg c7] at H
                have c7b0 : decide ((rd l0 x5_1) < 127) = false := decide_eq_false c7
                clear c7
                by_cases c18 : x4_1.size + 3 ≤ 9223372036854775807
                · rw [if_pos c18] at H
                  have c18b0 := eq_true c18
                  have c18b1 : decide (x4_1.size + 3 ≤ 9223372036854775807) = true := decide_eq_true c18
                  try have c18b2 : (9223372036854775807 < x4_1.size + 3) = False := eq_false (Nat.not_lt.2 c18)
                  replace H := Option.bind_eq_some_iff.mp H
                  obtain ⟨t212, A190, H⟩ := H
                  replace H : (if x4_1.size + 3 + t212.size ≤ 9223372036854775807 then (if x4_1.size + 3 + t212.size + 1 ≤ 9223372036854775807 then (gudgeonref07_Escape.l0 k1 l0 (((x4_1 ++ (⟨#[92, 117, 123]⟩ : ByteArray)) ++ t212) ++ (⟨#[125]⟩ : ByteArray)) (wrap64 (x5_1 + 1))) else (none)) else (none)) = some (r1, r2) := H
                  have A19 := Aside0.mk A190
                  clear A190
                  by_cases c20 : x4_1.size + 3 + t212.size ≤ 9223372036854775807
                  · rw [if_pos c20] at H
                    have c20b0 := eq_true c20
                    have c20b1 : decide (x4_1.size + 3 + t212.size ≤ 9223372036854775807) = true := decide_eq_true c20
                    try have c20b2 : (9223372036854775807 < x4_1.size + 3 + t212.size) = False := eq_false (Nat.not_lt.2 c20)
                    by_cases c21 : x4_1.size + 3 + t212.size + 1 ≤ 9223372036854775807
                    · rw [if_pos c21] at H
                      have c21b0 := eq_true c21
                      have c21b1 : decide (x4_1.size + 3 + t212.size + 1 ≤ 9223372036854775807) = true := decide_eq_true c21
                      try have c21b2 : (9223372036854775807 < x4_1.size + 3 + t212.size + 1) = False := eq_false (Nat.not_lt.2 c21)
                      have H' := Aside0.mk H
                      clear H
                      have p206 : 0 ≤ (x5_1 : Int) := of_decide_eq_true (by first | (with_reducible assumption) | assumption)
                      have q206 : x5_1 < (l0.length : Int) := of_decide_eq_true (by first | (with_reducible assumption) | assumption)
                      obtain ⟨ad206, e206, hx206_0⟩ := Kd.at_int HR0.out x5_1 p206 q206
                      cases e206
                      replace hx206_0 := (HB.out.cell (World.block_lt_of_cell? w _ hx206_0)).trans hx206_0
                      replace p206 := eq_true p206
                      replace q206 := eq_true q206
                      go_wp2_with (first | ((with_reducible refine gate_callee (f := 28) rfl ?_); refine goesL_ (some 19) rfl rfl Tryd.func28 (by kernel_rfl) rfl #[.int .i64 (rd l0 x5_1)] rfl (by (try simp only [List.map_toArray, List.map_cons, List.map_nil]); first | done | rfl | (simp only [List.length_drop, List.length_take]; rfl)) ?_; (with_reducible refine (gudgeonref07_Point.calls (rd l0 x5_1) true _ A4.out).mono ?_); rintro e w' ⟨rfl, ⟨nd, rfl⟩⟩; refine ⟨_, rfl, ?_⟩) | ((with_reducible refine gate_callee (f := 29) rfl ?_); refine goesL_ (some 41) rfl rfl Tryd.func29 (by kernel_rfl) rfl #[.int .i64 (rd l0 x5_1)] rfl (by (try simp only [List.map_toArray, List.map_cons, List.map_nil]); first | done | rfl | (simp only [List.length_drop, List.length_take]; rfl)) ?_; (with_reducible refine (gudgeonref07_hex.calls k1 (rd l0 x5_1) t212 _ A19.out).mono ?_); rintro e w22 ⟨rfl, hb⟩; refine ⟨_, rfl, ?_⟩; have n0_ := Aside0.mk (below_step (by repeat (first | (with_reducible first | exact HB.out | apply below_alloc | apply pw_below_drewN | apply below_drew1) | exact HB.out)) hb); clear HB; have HB := n0_; clear n0_; (try clear hb); (try clear hb2); (try clear hk); (try clear hi)))
                      go_roundg k1
                      case measure => have := HK1.out; omega
                      case rel => exact ⟨(((x4_1 ++ (⟨#[92, 117, 123]⟩ : ByteArray)) ++ t212) ++ (⟨#[125]⟩ : ByteArray)), (wrap64 (x5_1 + 1)), (by first | rfl | (simp; done) | (simp [*]; done) | (refine congrArg Value.bool ?_; generalize ByteArray.toList _ = z_; cases z_ <;> rfl)), (by first | rfl | (simp; done) | (simp [*]; done) | (refine congrArg Value.bool ?_; generalize ByteArray.toList _ = z_; cases z_ <;> rfl)), H', ⟨by have := HK1.out; omega⟩, ⟨by repeat (first | (with_reducible first | exact HB.out | apply below_alloc | apply pw_below_drewN | apply below_drew1) | exact HB.out)⟩⟩
                    · rw [if_neg c21] at H
                      exact absurd H (by simp)
                  · rw [if_neg c20] at H
                    exact absurd H (by simp)
                · rw [if_neg c18] at H
                  exact absurd H (by simp)
            · rw [if_neg c6] at H
              have c6b0 : decide (32 ≤ (rd l0 x5_1)) = false := decide_eq_false c6
              clear c6
              by_cases c23 : x4_1.size + 3 ≤ 9223372036854775807
              · rw [if_pos c23] at H
                have c23b0 := eq_true c23
                have c23b1 : decide (x4_1.size + 3 ≤ 9223372036854775807) = true := decide_eq_true c23
                try have c23b2 : (9223372036854775807 < x4_1.size + 3) = False := eq_false (Nat.not_lt.2 c23)
                replace H := Option.bind_eq_some_iff.mp H
                obtain ⟨t213, A240, H⟩ := H
                replace H : (if x4_1.size + 3 + t213.size ≤ 9223372036854775807 then (if x4_1.size + 3 + t213.size + 1 ≤ 9223372036854775807 then (gudgeonref07_Escape.l0 k1 l0 (((x4_1 ++ (⟨#[92, 117, 123]⟩ : ByteArray)) ++ t213) ++ (⟨#[125]⟩ : ByteArray)) (wrap64 (x5_1 + 1))) else (none)) else (none)) = some (r1, r2) := H
                have A24 := Aside0.mk A240
                clear A240
                by_cases c25 : x4_1.size + 3 + t213.size ≤ 9223372036854775807
                · rw [if_pos c25] at H
                  have c25b0 := eq_true c25
                  have c25b1 : decide (x4_1.size + 3 + t213.size ≤ 9223372036854775807) = true := decide_eq_true c25
                  try have c25b2 : (9223372036854775807 < x4_1.size + 3 + t213.size) = False := eq_false (Nat.not_lt.2 c25)
                  by_cases c26 : x4_1.size + 3 + t213.size + 1 ≤ 9223372036854775807
                  · rw [if_pos c26] at H
                    have c26b0 := eq_true c26
                    have c26b1 : decide (x4_1.size + 3 + t213.size + 1 ≤ 9223372036854775807) = true := decide_eq_true c26
                    try have c26b2 : (9223372036854775807 < x4_1.size + 3 + t213.size + 1) = False := eq_false (Nat.not_lt.2 c26)
                    have H' := Aside0.mk H
                    clear H
                    have p206 : 0 ≤ (x5_1 : Int) := of_decide_eq_true (by first | (with_reducible assumption) | assumption)
                    have q206 : x5_1 < (l0.length : Int) := of_decide_eq_true (by first | (with_reducible assumption) | assumption)
                    obtain ⟨ad206, e206, hx206_0⟩ := Kd.at_int HR0.out x5_1 p206 q206
                    cases e206
                    replace hx206_0 := (HB.out.cell (World.block_lt_of_cell? w _ hx206_0)).trans hx206_0
                    replace p206 := eq_true p206
                    replace q206 := eq_true q206
                    go_wp2_with (first | ((with_reducible refine gate_callee (f := 28) rfl ?_); refine goesL_ (some 19) rfl rfl Tryd.func28 (by kernel_rfl) rfl #[.int .i64 (rd l0 x5_1)] rfl (by (try simp only [List.map_toArray, List.map_cons, List.map_nil]); first | done | rfl | (simp only [List.length_drop, List.length_take]; rfl)) ?_; (with_reducible refine (gudgeonref07_Point.calls (rd l0 x5_1) true _ A4.out).mono ?_); rintro e w' ⟨rfl, ⟨nd, rfl⟩⟩; refine ⟨_, rfl, ?_⟩) | ((with_reducible refine gate_callee (f := 29) rfl ?_); refine goesL_ (some 41) rfl rfl Tryd.func29 (by kernel_rfl) rfl #[.int .i64 (rd l0 x5_1)] rfl (by (try simp only [List.map_toArray, List.map_cons, List.map_nil]); first | done | rfl | (simp only [List.length_drop, List.length_take]; rfl)) ?_; (with_reducible refine (gudgeonref07_hex.calls k1 (rd l0 x5_1) t213 _ A24.out).mono ?_); rintro e w27 ⟨rfl, hb⟩; refine ⟨_, rfl, ?_⟩; have n0_ := Aside0.mk (below_step (by repeat (first | (with_reducible first | exact HB.out | apply below_alloc | apply pw_below_drewN | apply below_drew1) | exact HB.out)) hb); clear HB; have HB := n0_; clear n0_; (try clear hb); (try clear hb2); (try clear hk); (try clear hi)))
                    go_roundg k1
                    case measure => have := HK1.out; omega
                    case rel => exact ⟨(((x4_1 ++ (⟨#[92, 117, 123]⟩ : ByteArray)) ++ t213) ++ (⟨#[125]⟩ : ByteArray)), (wrap64 (x5_1 + 1)), (by first | rfl | (simp; done) | (simp [*]; done) | (refine congrArg Value.bool ?_; generalize ByteArray.toList _ = z_; cases z_ <;> rfl)), (by first | rfl | (simp; done) | (simp [*]; done) | (refine congrArg Value.bool ?_; generalize ByteArray.toList _ = z_; cases z_ <;> rfl)), H', ⟨by have := HK1.out; omega⟩, ⟨by repeat (first | (with_reducible first | exact HB.out | apply below_alloc | apply pw_below_drewN | apply below_drew1) | exact HB.out)⟩⟩
                  · rw [if_neg c26] at H
                    exact absurd H (by simp)
                · rw [if_neg c25] at H
                  exact absurd H (by simp)
              · rw [if_neg c23] at H
                exact absurd H (by simp)
          · replace c5 := Bool.eq_false_iff.mpr c5
            subst c5
            have H1 : (some ((⟨#[]⟩ : ByteArray), 1)) = some (r1, r2) := by rw [if_neg (show ¬ (false = true) by decide)] at H; exact H
            clear H
            have H := H1
            clear H1
            simp only [Option.some.injEq, Prod.mk.injEq] at H
            obtain ⟨rfl, rfl⟩ := H
            have p206 : 0 ≤ (x5_1 : Int) := of_decide_eq_true (by first | (with_reducible assumption) | assumption)
            have q206 : x5_1 < (l0.length : Int) := of_decide_eq_true (by first | (with_reducible assumption) | assumption)
            obtain ⟨ad206, e206, hx206_0⟩ := Kd.at_int HR0.out x5_1 p206 q206
            cases e206
            replace hx206_0 := (HB.out.cell (World.block_lt_of_cell? w _ hx206_0)).trans hx206_0
            replace p206 := eq_true p206
            replace q206 := eq_true q206
            go_wp2_with (first | ((with_reducible refine gate_callee (f := 28) rfl ?_); refine goesL_ (some 19) rfl rfl Tryd.func28 (by kernel_rfl) rfl #[.int .i64 (rd l0 x5_1)] rfl (by (try simp only [List.map_toArray, List.map_cons, List.map_nil]); first | done | rfl | (simp only [List.length_drop, List.length_take]; rfl)) ?_; (with_reducible refine (gudgeonref07_Point.calls (rd l0 x5_1) false _ A4.out).mono ?_); rintro e w' ⟨rfl, ⟨nd, rfl⟩⟩; refine ⟨_, rfl, ?_⟩))
            go_ret2
            exact ⟨by first | rfl | (simp [errW_none, errW_some] <;> rfl) | (simp [*, errW_none, errW_some] <;> rfl), by repeat (first | (with_reducible first | exact HB.out | apply below_alloc | apply pw_below_drewN | apply below_drew1) | exact HB.out)⟩
        · rw [if_neg c3] at H
          exact absurd H (by simp)
      · rw [if_neg c2] at H
        have c2b0 : decide (x5_1 < (l0.length : Int)) = false := decide_eq_false c2
        clear c2
        simp only [Option.some.injEq, Prod.mk.injEq] at H
        obtain ⟨rfl, rfl⟩ := H
        go_wp2
        go_ret2
        exact ⟨by first | rfl | (simp [errW_none, errW_some] <;> rfl) | (simp [*, errW_none, errW_some] <;> rfl), by repeat (first | (with_reducible first | exact HB.out | apply below_alloc | apply pw_below_drewN | apply below_drew1) | exact HB.out)⟩

/-! ### lit_point: function 23 -/
def lit_point.f (a0 : Int) : Option (Bool) := if a0 ≥ 0 then (some (decide (a0 ≤ 196607))) else (some false)
set_option maxHeartbeats 8000000 in
set_option maxRecDepth 100000 in
theorem lit_point.calls (a0 : Int) (r : Bool) (w : World) (h : lit_point.f a0 = some r) :
    Calls Tryd.prog 23 #[.int .i64 a0] w fun e w' => e = .returned (.bool r) ∧ Drawn0 w w' := by
  have H : (if a0 ≥ 0 then (some (decide (a0 ≤ 196607))) else (some false)) = some r := h
  clear h
  by_cases c2 : a0 ≥ 0
  · rw [if_pos c2] at H
    have c2b0 : decide (0 ≤ a0) = true := decide_eq_true c2
    clear c2
    obtain rfl := Option.some.inj H
    go_enter Tryd.func23, Tryd.ntmps23
    go_wp2
    go_ret
    exact ⟨by first | rfl | (simp; done) | (simp [*]; done) | (refine congrArg Value.bool ?_; generalize ByteArray.toList _ = z_; cases z_ <;> rfl), by repeat (first | exact Drawn0.refl _ | apply Drawn0.step)⟩
  · rw [if_neg c2] at H
    have c2b0 : decide (0 ≤ a0) = false := decide_eq_false c2
    clear c2
    obtain rfl := Option.some.inj H
    go_enter Tryd.func23, Tryd.ntmps23
    go_wp2
    go_ret
    exact ⟨by first | rfl | (simp; done) | (simp [*]; done) | (refine congrArg Value.bool ?_; generalize ByteArray.toList _ = z_; cases z_ <;> rfl), by repeat (first | exact Drawn0.refl _ | apply Drawn0.step)⟩

/-! ### lit_Runs: function 16 -/
def lit_Runs.l0 : Nat → List (S41) → List Int → Int → Int → Option ((List (S41)) × Int)
  | 0, _, _, _, _ => none
  | k + 1, x4, x8, x9, x10 => if x10 < x9 then (if 0 ≤ x10 then (if x10 < (x8.length : Int) then ((lit_point.f (rd x8 x10)).bind fun t215 => (if t215 = true then (if (wrap64 ((x4.length : Int) - 1)) ≥ 0 then (if 0 ≤ (wrap64 ((x4.length : Int) - 1)) then (if (wrap64 ((x4.length : Int) - 1)) < (x4.length : Int) then (if ((rd_T41 x4 (wrap64 ((x4.length : Int) - 1))).f0) = (rd x8 x10) then (lit_Runs.l0 k (x4.set ((wrap64 ((x4.length : Int) - 1)) : Int).toNat (⟨(rd_T41 x4 (wrap64 ((x4.length : Int) - 1))).f0, wrap64 (((rd_T41 x4 (wrap64 ((x4.length : Int) - 1))).f1) + 1)⟩ : S41)) x8 x9 (wrap64 (x10 + 1))) else (if x4.length < 8796093022208 then (lit_Runs.l0 k (x4 ++ [(⟨rd x8 x10, 1⟩ : S41)]) x8 x9 (wrap64 (x10 + 1))) else (none))) else (none)) else (none)) else (if x4.length < 8796093022208 then (lit_Runs.l0 k (x4 ++ [(⟨rd x8 x10, 1⟩ : S41)]) x8 x9 (wrap64 (x10 + 1))) else (none))) else (some (([] : List (S41)), 1)))) else (none)) else (none)) else (if (x4.length : Int) > 65536 then (some (([] : List (S41)), 2)) else (some (x4, 0)))
def lit_Runs.f (k : Nat) (l0 : List Int) : Option ((List (S41)) × Int) := lit_Runs.l0 k ([] : List (S41)) l0 (l0.length : Int) 0
theorem lit_Runs.mono_l : ∀ k, (∀ y0 y1 y2 y3, LeO (lit_Runs.l0 k y0 y1 y2 y3) (lit_Runs.l0 (k + 1) y0 y1 y2 y3))
  | 0 => fun _ _ _ _ r h => by simp [lit_Runs.l0] at h
  | k + 1 => by
    have ih0 := lit_Runs.mono_l k
    · intro y0 y1 y2 y3
      unfold lit_Runs.l0
      repeat' first
      | (with_reducible exact ih0 _ _ _ _)
      | (with_reducible exact LeO.refl _)
      | (with_reducible exact LeO.none _)
      | (with_reducible refine LeO.ite ?_ ?_)
      | (with_reducible refine LeO.bind ?_ (fun _ => ?_))
      | exact ih0 _ _ _ _
      | exact LeO.none _
      | refine LeO.ite ?_ ?_
      | refine LeO.bind ?_ (fun _ => ?_)
theorem lit_Runs.mono : ∀ a0 k, LeO (lit_Runs.f k a0) (lit_Runs.f (k + 1) a0) := by
  intro a0 k
  have ih0 := lit_Runs.mono_l k
  unfold lit_Runs.f
  repeat' first
      | (with_reducible exact ih0 _ _ _ _)
      | (with_reducible exact LeO.refl _)
      | (with_reducible exact LeO.none _)
      | (with_reducible refine LeO.ite ?_ ?_)
      | (with_reducible refine LeO.bind ?_ (fun _ => ?_))
      | exact ih0 _ _ _ _
      | exact LeO.none _
      | refine LeO.ite ?_ ?_
      | refine LeO.bind ?_ (fun _ => ?_)
set_option maxHeartbeats 8000000 in
set_option maxRecDepth 100000 in
theorem lit_Runs.calls (k : Nat) (A0 : Option Addr) (c0 : Nat) (l0 : List Int) (r1 : List (S41)) (r2 : Int) (w : World) (hr0 : Kd.C (Kd.int .i64) w A0 l0.length l0) (hc0 : l0.length ≤ c0) (h : lit_Runs.f k l0 = some (r1, r2)) :
    Calls Tryd.prog 16 #[.slice A0 l0.length c0] w fun e w' => ∃ v0_ : Value, e = .returned (.tuple #[v0_, .int .i64 r2]) ∧ Kd.R k41 41 w' w.heap.size (fun _ => True) v0_ r1 ∧ Below w.heap.size w w' := by
  have hu41 := Tryd.underlying41
  have HR0 := Aside0.mk hr0
  have HC0 := Aside0.mk hc0
  clear hr0 hc0
  have HB := Aside0.mk (Below.refl w.heap.size w)
  have H : (lit_Runs.l0 k ([] : List (S41)) l0 (l0.length : Int) 0) = some (r1, r2) := h
  clear h
  have H' := Aside0.mk H
  clear H
  go_enter Tryd.func16, Tryd.ntmps16
  go_wp2
  go_loopg [4, 10] k (fun kq v4 v10 w' => ∃ (x4_1 : List (S41)) (x10_1 : Int), v10 = .int .i64 x10_1 ∧ Aside0 (lit_Runs.l0 kq x4_1 l0 (l0.length : Int) x10_1 = some (r1, r2)) ∧ Aside0 (kq ≤ k) ∧ Aside0 (Kd.R k41 41 w' w.heap.size (fun _ => True) v4 x4_1) ∧ Aside0 (Below w.heap.size w w'))
  case atStart => exact ⟨(([] : List (S41))), (0), (by first | rfl | (simp; done) | (simp [*]; done) | (refine congrArg Value.bool ?_; generalize ByteArray.toList _ = z_; cases z_ <;> rfl)), H', ⟨Nat.le_refl _⟩, ⟨by first | exact Kd.R_nil _ _ _ _ _ | exact Kd.N_nil _ _ _ _ _ | exact Kd.V_nil _ _ _ _ _ | exact Kd.Q_nil _ _ _ _ _ | exact Kd.S_nil _ _ _ _ _⟩, ⟨by repeat (first | (with_reducible first | exact HB.out | apply below_alloc | apply pw_below_drewN | apply below_drew1) | exact HB.out)⟩⟩
  case round =>
    clear H'
    try clear c1
    obtain ⟨x4_1, x10_1, rfl, HA, HK1, HO_4, HB⟩ := hrel
    cases gk with
    | zero => exact absurd HA.out (by simp [lit_Runs.l0])
    | succ k1 =>
      have H := HA.out
      clear HA
      simp only [lit_Runs.l0] at H
      by_cases c2 : x10_1 < (l0.length : Int)
      · rw [if_pos c2] at H
        have c2b0 : decide (x10_1 < (l0.length : Int)) = true := decide_eq_true c2
        clear c2
        by_cases c3 : 0 ≤ x10_1
        · rw [if_pos c3] at H
          have c3b0 : decide (0 ≤ x10_1) = true := decide_eq_true c3
          clear c3
          by_cases c4 : x10_1 < (l0.length : Int)
          · rw [if_pos c4] at H
            have c4b0 : decide (x10_1 < (l0.length : Int)) = true := decide_eq_true c4
            clear c4
            replace H := Option.bind_eq_some_iff.mp H
            obtain ⟨t215, A50, H⟩ := H
            replace H : (if t215 = true then (if (wrap64 ((x4_1.length : Int) - 1)) ≥ 0 then (if 0 ≤ (wrap64 ((x4_1.length : Int) - 1)) then (if (wrap64 ((x4_1.length : Int) - 1)) < (x4_1.length : Int) then (if ((rd_T41 x4_1 (wrap64 ((x4_1.length : Int) - 1))).f0) = (rd l0 x10_1) then (lit_Runs.l0 k1 (x4_1.set ((wrap64 ((x4_1.length : Int) - 1)) : Int).toNat (⟨(rd_T41 x4_1 (wrap64 ((x4_1.length : Int) - 1))).f0, wrap64 (((rd_T41 x4_1 (wrap64 ((x4_1.length : Int) - 1))).f1) + 1)⟩ : S41)) l0 (l0.length : Int) (wrap64 (x10_1 + 1))) else (if x4_1.length < 8796093022208 then (lit_Runs.l0 k1 (x4_1 ++ [(⟨rd l0 x10_1, 1⟩ : S41)]) l0 (l0.length : Int) (wrap64 (x10_1 + 1))) else (none))) else (none)) else (none)) else (if x4_1.length < 8796093022208 then (lit_Runs.l0 k1 (x4_1 ++ [(⟨rd l0 x10_1, 1⟩ : S41)]) l0 (l0.length : Int) (wrap64 (x10_1 + 1))) else (none))) else (some (([] : List (S41)), 1))) = some (r1, r2) := H
            have A5 := Aside0.mk A50
            clear A50
            by_cases c6 : t215 = true
            · subst c6
              have H1 : (if (wrap64 ((x4_1.length : Int) - 1)) ≥ 0 then (if 0 ≤ (wrap64 ((x4_1.length : Int) - 1)) then (if (wrap64 ((x4_1.length : Int) - 1)) < (x4_1.length : Int) then (if ((rd_T41 x4_1 (wrap64 ((x4_1.length : Int) - 1))).f0) = (rd l0 x10_1) then (lit_Runs.l0 k1 (x4_1.set ((wrap64 ((x4_1.length : Int) - 1)) : Int).toNat (⟨(rd_T41 x4_1 (wrap64 ((x4_1.length : Int) - 1))).f0, wrap64 (((rd_T41 x4_1 (wrap64 ((x4_1.length : Int) - 1))).f1) + 1)⟩ : S41)) l0 (l0.length : Int) (wrap64 (x10_1 + 1))) else (if x4_1.length < 8796093022208 then (lit_Runs.l0 k1 (x4_1 ++ [(⟨rd l0 x10_1, 1⟩ : S41)]) l0 (l0.length : Int) (wrap64 (x10_1 + 1))) else (none))) else (none)) else (none)) else (if x4_1.length < 8796093022208 then (lit_Runs.l0 k1 (x4_1 ++ [(⟨rd l0 x10_1, 1⟩ : S41)]) l0 (l0.length : Int) (wrap64 (x10_1 + 1))) else (none))) = some (r1, r2) := by rw [if_pos rfl] at H; exact H
              clear H
              have H := H1
              clear H1
              by_cases c7 : (wrap64 ((x4_1.length : Int) - 1)) ≥ 0
              · rw [if_pos c7] at H
                have c7b0 : decide (0 ≤ (wrap64 ((x4_1.length : Int) - 1))) = true := decide_eq_true c7
                clear c7
                obtain ⟨ji8, hji8⟩ : ∃ j_ : Int, (wrap64 ((x4_1.length : Int) - 1)) = j_ := ⟨_, rfl⟩
                replace H : (if 0 ≤ (ji8) then (if (ji8) < (x4_1.length : Int) then (if ((rd_T41 x4_1 (ji8)).f0) = (rd l0 x10_1) then (lit_Runs.l0 k1 (x4_1.set ((ji8) : Int).toNat (⟨(rd_T41 x4_1 (ji8)).f0, wrap64 (((rd_T41 x4_1 (ji8)).f1) + 1)⟩ : S41)) l0 (l0.length : Int) (wrap64 (x10_1 + 1))) else (if x4_1.length < 8796093022208 then (lit_Runs.l0 k1 (x4_1 ++ [(⟨rd l0 x10_1, 1⟩ : S41)]) l0 (l0.length : Int) (wrap64 (x10_1 + 1))) else (none))) else (none)) else (none)) = some (r1, r2) := by first | (rw [hji8] at H; exact H) | (simp only [hji8] at H ⊢; exact H)
                (try rw [hji8] at c7b0)
                (try rw [hji8] at A5)
                have hji8w : (IntKind.i64.wrap ((x4_1.length : Int) - 1)) = ji8 := (i64_w _).trans hji8
                by_cases c9 : 0 ≤ (ji8)
                · rw [if_pos c9] at H
                  have c9b0 : decide (0 ≤ (ji8)) = true := decide_eq_true c9
                  clear c9
                  by_cases c10 : (ji8) < (x4_1.length : Int)
                  · rw [if_pos c10] at H
                    have c10b0 : decide ((ji8) < (x4_1.length : Int)) = true := decide_eq_true c10
                    clear c10
                    by_cases c11 : ((rd_T41 x4_1 (ji8)).f0) = (rd l0 x10_1)
                    · rw [if_pos c11] at H
                      have c11b0 : (((rd_T41 x4_1 (ji8)).f0) == (rd l0 x10_1)) = true := beq_iff_eq.mpr c11
                      have c11b1 : (((rd_T41 x4_1 (ji8)).f0) != (rd l0 x10_1)) = false := bne_eq_false_iff_eq.mpr c11
                      clear c11
                      obtain ⟨y218, hy218⟩ : ∃ y_ : List (S41), y_ = (x4_1.set ((ji8) : Int).toNat (⟨(rd_T41 x4_1 (ji8)).f0, wrap64 (((rd_T41 x4_1 (ji8)).f1) + 1)⟩ : S41)) := ⟨_, rfl⟩
                      replace H : (lit_Runs.l0 k1 y218 l0 (l0.length : Int) (wrap64 (x10_1 + 1))) = some (r1, r2) := by first | (rw [hy218]; with_reducible exact H) | (have H2_ := (Option.bind_some _ _).symm.trans H; rw [hy218]; with_reducible exact H2_) | (have H2_ := (Option.bind_some _ _).symm.trans H; with_reducible exact H2_) | with_reducible exact H | (rw [hy218]; exact H) | exact H
                      have Ny218 := Aside0.mk hy218
                      clear hy218
                      have H' := Aside0.mk H
                      clear H
                      have p214 : 0 ≤ (x10_1 : Int) := of_decide_eq_true (by first | (with_reducible assumption) | assumption)
                      have q214 : x10_1 < (l0.length : Int) := of_decide_eq_true (by first | (with_reducible assumption) | assumption)
                      obtain ⟨ad214, e214, hx214_0⟩ := Kd.at_int HR0.out x10_1 p214 q214
                      cases e214
                      replace hx214_0 := (HB.out.cell (World.block_lt_of_cell? w _ hx214_0)).trans hx214_0
                      replace p214 := eq_true p214
                      replace q214 := eq_true q214
                      go_wp2_with (first | ((with_reducible refine gate_callee (f := 23) rfl ?_); refine goesL_ (some 15) rfl rfl Tryd.func23 (by kernel_rfl) rfl #[.int .i64 (rd l0 x10_1)] rfl (by (try simp only [List.map_toArray, List.map_cons, List.map_nil]); first | done | rfl | (simp only [List.length_drop, List.length_take]; rfl)) ?_; (with_reducible refine (lit_point.calls (rd l0 x10_1) true _ A5.out).mono ?_); rintro e w' ⟨rfl, ⟨nd, rfl⟩⟩; refine ⟨_, rfl, ?_⟩; (try (rw [drewN_self wr]; generalize hq_ : World.drewN wr _ = wr; have n0_ : Aside0 (Kd.R k41 41 wr w.heap.size (fun _ => True) u4 x4_1) := ⟨by rw [← hq_]; exact (by (with_reducible repeat (first | apply Kd.R_alloc | apply Kd.R_drewN | apply Kd.R_drew)); exact HO_4.out)⟩; have n1_ : Aside0 (Below w.heap.size w wr) := ⟨by rw [← hq_]; exact (by repeat (first | (with_reducible first | exact HB.out | apply below_alloc | apply pw_below_drewN | apply below_drew1) | exact HB.out))⟩; clear HO_4 HB hq_; have HO_4 := n0_; have HB := n1_; clear n0_ n1_)); obtain ⟨Ao13, co13, eo13⟩ := Kd.R_slice HO_4.out; subst eo13; have p216 : 0 ≤ ((ji8) : Int) := of_decide_eq_true (by first | (with_reducible assumption) | assumption); have q216 : (ji8) < (x4_1.length : Int) := of_decide_eq_true (by first | (with_reducible assumption) | assumption); obtain ⟨ad216, e216, hx216_0, hx216_1⟩ := at_T41 (Kd.R_reads' HO_4.out).2.2 (ji8) p216 q216; cases e216; replace p216 := eq_true p216; replace q216 := eq_true q216; have p217 : 0 ≤ ((ji8) : Int) := of_decide_eq_true (by first | (with_reducible assumption) | assumption); have q217 : (ji8) < (x4_1.length : Int) := of_decide_eq_true (by first | (with_reducible assumption) | assumption); obtain ⟨ad217, e217, hx217_0, hx217_1⟩ := at_T41 (Kd.R_reads' HO_4.out).2.2 (ji8) p217 q217; obtain rfl : ad216 = ad217 := (by injection e217); replace p217 := eq_true p217; replace q217 := eq_true q217; have p12 : 0 ≤ ((ji8) : Int) := of_decide_eq_true (by first | (with_reducible assumption) | assumption); have q12 : ((ji8) : Int) < ((x4_1.length : Int) : Int) := of_decide_eq_true (by first | (with_reducible assumption) | assumption); obtain ⟨go12, co12, eo12, gb12, gl12, cl12, HG12⟩ := Kd.R_form HO_4.out (by omega); (first | cases eo12 | (injection eo12 with ea_ en_ ec_; (first | subst ea_ | (injection ea_ with ea_; subst ea_)); subst ec_; clear en_)); have GB12 := Aside0.mk gb12; have GG12 := Aside0.mk HG12; clear gb12 gl12 HG12; (first | simp only [add_plain] at hx216_0 | skip); (first | simp only [add_plain] at hx216_1 | skip); (first | simp only [add_plain] at hx217_0 | skip); (first | simp only [add_plain] at hx217_1 | skip); obtain ⟨ce12, hcl12, hM12, hcc12, hfr12⟩ := Kd.R_elem HO_4.out z41 ((ji8) : Int) p12 q12; obtain rfl := k41_openM hM12; have hx12_0 : wr.cell? ⟨go12, ((ji8) : Int).toNat * 2, none⟩ = some (.int .i64 ((rd_T41 x4_1 (ji8)).f0)) := hcc12 0 _ rfl; have hx12_1 : wr.cell? ⟨go12, ((ji8) : Int).toNat * 2 + 1, none⟩ = some (.int .i64 ((rd_T41 x4_1 (ji8)).f1)) := hcc12 1 _ rfl; have hf12_0 : wr.frozen? ⟨go12, ((ji8) : Int).toNat * 2, none⟩ = false := hfr12 0; have hf12_1 : wr.frozen? ⟨go12, ((ji8) : Int).toNat * 2 + 1, none⟩ = false := hfr12 1; clear hcl12 hcc12 hfr12 hM12; replace p12 := eq_true p12; replace q12 := eq_true q12; have HX14 := Aside0.mk (show Kd.R k41 41 wr w.heap.size (fun _ => True) (.slice (some ⟨go12, 0, none⟩) x4_1.length co13) x4_1 from (by (with_reducible repeat (first | apply Kd.R_alloc | apply Kd.R_drewN | apply Kd.R_drew)); exact HO_4.out)); obtain ⟨ce14, hcl14, hM14, hcc14, hfr14⟩ := Kd.R_elem HX14.out z41 ((ji8) : Int) (of_decide_eq_true (by first | (with_reducible assumption) | assumption)) (by have h_ : ((ji8) : Int) < ((x4_1.length : Int) : Int) := of_decide_eq_true (by first | (with_reducible assumption) | assumption); first | exact h_ | (have e_ := (Kd.R_reads' HO_4.out).1; omega) | simpa using h_); obtain rfl := k41_openM hM14; have HP14 := Kd.R_seg HX14.out ((ji8) : Int) (of_decide_eq_true (by first | (with_reducible assumption) | assumption)) (by have h_ : ((ji8) : Int) < ((x4_1.length : Int) : Int) := of_decide_eq_true (by first | (with_reducible assumption) | assumption); first | exact h_ | (have e_ := (Kd.R_reads' HO_4.out).1; omega) | simpa using h_) (seg := [.int .i64 (wrap64 (((rd_T41 x4_1 (ji8)).f1) + 1))]) (j := 1) hcl14 hcc14 (show 2 ≤ 2 from by decide) (x' := (⟨(rd_T41 x4_1 (ji8)).f0, wrap64 (((rd_T41 x4_1 (ji8)).f1) + 1)⟩ : S41)) (k41_mkM _ _ _ (⟨(rd_T41 x4_1 (ji8)).f0, wrap64 (((rd_T41 x4_1 (ji8)).f1) + 1)⟩ : S41) ) (fun _ hk => hk); have hx14_1 := hcc14 1 _ rfl; (try simp only [show (k41).sz = 2 from rfl, Nat.mul_one, Nat.add_zero] at hx14_1); have hf14_1 := hfr14 1; (try simp only [show (k41).sz = 2 from rfl, Nat.mul_one, Nat.add_zero] at hf14_1); clear hcl14 hcc14 hfr14 hM14) | ((with_reducible refine gate_store (t := 3) (p := 38) rfl ?_); refine store_event (t := 3) (p := 38) (v := ?vo_w15) (w1 := (wr.setCell ⟨go12, ((ji8) : Int).toNat * 2 + 1, none⟩ (.int .i64 (wrap64 (((rd_T41 x4_1 (ji8)).f1) + 1))))) ?hg ?ho ?hn ?hr ?_; (case ho => rfl); (case hg => rfl); (case hn => rfl); (case hr => first | (go_simp; done) | (go_simp; rfl)); intro w15 hw; have hg : wr.grownBy w15 (some go12) := (by rw [hw]; exact HP14.2); have hp_ : Kd.R k41 41 w15 w.heap.size (fun _ => True) (.slice (some ⟨go12, 0, none⟩) x4_1.length co13) y218 := (by rw [hw, Ny218.out]; exact HP14.1); clear HP14; have n0_ := Aside0.mk (hp_); have n1_ := Aside0.mk ((by rw [hw]; exact below_set (HB.out) GB12.out : Below w.heap.size w w15)); clear HO_4; clear HB; have HO_4 := n0_; have HB := n1_; clear n0_ n1_; clear hg hw hp_))
                      go_roundg k1
                      case measure => have := HK1.out; omega
                      case rel => exact ⟨(y218), (wrap64 (x10_1 + 1)), (by first | rfl | (simp; done) | (simp [*]; done) | (refine congrArg Value.bool ?_; generalize ByteArray.toList _ = z_; cases z_ <;> rfl)), H', ⟨by have := HK1.out; omega⟩, ⟨by (with_reducible repeat (first | apply Kd.R_alloc | apply Kd.R_drewN | apply Kd.R_drew)); exact HO_4.out⟩, ⟨by repeat (first | (with_reducible first | exact HB.out | apply below_alloc | apply pw_below_drewN | apply below_drew1) | exact HB.out)⟩⟩
                    · rw [if_neg c11] at H
                      have c11b0 : (((rd_T41 x4_1 (ji8)).f0) == (rd l0 x10_1)) = false := beq_eq_false_iff_ne.mpr c11
                      have c11b1 : (((rd_T41 x4_1 (ji8)).f0) != (rd l0 x10_1)) = true := bne_iff_ne.mpr c11
                      by_cases c16 : x4_1.length < 8796093022208
                      · rw [if_pos c16] at H
                        have LMc16 := Aside0.mk c16
                        clear c16
                        obtain ⟨y219, hy219⟩ : ∃ y_ : List (S41), y_ = (x4_1 ++ [(⟨rd l0 x10_1, 1⟩ : S41)]) := ⟨_, rfl⟩
                        replace H : (lit_Runs.l0 k1 y219 l0 (l0.length : Int) (wrap64 (x10_1 + 1))) = some (r1, r2) := by first | (rw [hy219]; with_reducible exact H) | (have H2_ := (Option.bind_some _ _).symm.trans H; rw [hy219]; with_reducible exact H2_) | (have H2_ := (Option.bind_some _ _).symm.trans H; with_reducible exact H2_) | with_reducible exact H | (rw [hy219]; exact H) | exact H
                        have Ny219 := Aside0.mk hy219
                        clear hy219
                        have H' := Aside0.mk H
                        clear H
                        have p214 : 0 ≤ (x10_1 : Int) := of_decide_eq_true (by first | (with_reducible assumption) | assumption)
                        have q214 : x10_1 < (l0.length : Int) := of_decide_eq_true (by first | (with_reducible assumption) | assumption)
                        obtain ⟨ad214, e214, hx214_0⟩ := Kd.at_int HR0.out x10_1 p214 q214
                        cases e214
                        replace hx214_0 := (HB.out.cell (World.block_lt_of_cell? w _ hx214_0)).trans hx214_0
                        replace p214 := eq_true p214
                        replace q214 := eq_true q214
                        go_wp2_with (first | ((with_reducible refine gate_callee (f := 23) rfl ?_); refine goesL_ (some 15) rfl rfl Tryd.func23 (by kernel_rfl) rfl #[.int .i64 (rd l0 x10_1)] rfl (by (try simp only [List.map_toArray, List.map_cons, List.map_nil]); first | done | rfl | (simp only [List.length_drop, List.length_take]; rfl)) ?_; (with_reducible refine (lit_point.calls (rd l0 x10_1) true _ A5.out).mono ?_); rintro e w' ⟨rfl, ⟨nd, rfl⟩⟩; refine ⟨_, rfl, ?_⟩; obtain ⟨Ao17, co17, eo17⟩ := Kd.R_slice HO_4.out; subst eo17; have p216 : 0 ≤ ((ji8) : Int) := of_decide_eq_true (by first | (with_reducible assumption) | assumption); have q216 : (ji8) < (x4_1.length : Int) := of_decide_eq_true (by first | (with_reducible assumption) | assumption); obtain ⟨ad216, e216, hx216_0, hx216_1⟩ := at_T41 (Kd.R_reads' HO_4.out).2.2 (ji8) p216 q216; cases e216; replace p216 := eq_true p216; replace q216 := eq_true q216) | ((with_reducible refine gate_builtin (b := .append) (xs := #[.tmp 39, .tmp 42]) rfl ?_); at_builtin; refine Kd.R_append k41 (w0 := w) w.heap.size rfl (.tmp 39) (.tmp 42) 32 41 (.agg #[(.int .i64 0), (.int .i64 0)]) 16 rfl Tryd.underlying32 info41 rfl (by decide) (by omega) (.slice (some ad216) x4_1.length co17) x4_1 (⟨rd l0 x10_1, 1⟩ : S41) [.int .i64 (rd l0 x10_1), .int .i64 1] (fun _ => True) (fun _ => False) rfl rfl ?aP (fun _ hk => hk.elim) ?aF ?aO ?aB ?aS ?aL ?_; (case aP => exact k41_mkM _ _ _ (⟨rd l0 x10_1, 1⟩ : S41)); (case aB => exact (by repeat (first | (with_reducible first | exact HB.out | apply below_alloc | apply pw_below_drewN | apply below_drew1) | exact HB.out))); (case aF => exact (fun _ _ => trivial)); (case aO => exact (by (with_reducible repeat (first | apply Kd.R_alloc | apply Kd.R_drewN | apply Kd.R_drew)); exact HO_4.out)); (case aS => exact (below_size (by repeat (first | (with_reducible first | exact HB.out | apply below_alloc | apply pw_below_drewN | apply below_drew1) | exact HB.out)))); (case aL => have := LMc16.out; omega); intro v220 w18 ho hb hg hat; rw [← Ny219.out] at ho; have n0_ := Aside0.mk (hb); have n1_ := Aside0.mk (ho); clear HB; clear HO_4; have HB := n0_; have HO221 := n1_; clear n0_ n1_; clear ho hb hg hat))
                        go_roundg k1
                        case measure => have := HK1.out; omega
                        case rel => exact ⟨(y219), (wrap64 (x10_1 + 1)), (by first | rfl | (simp; done) | (simp [*]; done) | (refine congrArg Value.bool ?_; generalize ByteArray.toList _ = z_; cases z_ <;> rfl)), H', ⟨by have := HK1.out; omega⟩, ⟨by (with_reducible repeat (first | apply Kd.R_alloc | apply Kd.R_drewN | apply Kd.R_drew)); exact HO221.out⟩, ⟨by repeat (first | (with_reducible first | exact HB.out | apply below_alloc | apply pw_below_drewN | apply below_drew1) | exact HB.out)⟩⟩
                      · rw [if_neg c16] at H
                        exact absurd H (by simp)
                  · rw [if_neg c10] at H
                    exact absurd H (by simp)
                · rw [if_neg c9] at H
                  exact absurd H (by simp)
              · rw [if_neg c7] at H
                have c7b0 : decide (0 ≤ (wrap64 ((x4_1.length : Int) - 1))) = false := decide_eq_false c7
                clear c7
                by_cases c19 : x4_1.length < 8796093022208
                · rw [if_pos c19] at H
                  have LMc19 := Aside0.mk c19
                  clear c19
                  obtain ⟨y222, hy222⟩ : ∃ y_ : List (S41), y_ = (x4_1 ++ [(⟨rd l0 x10_1, 1⟩ : S41)]) := ⟨_, rfl⟩
                  replace H : (lit_Runs.l0 k1 y222 l0 (l0.length : Int) (wrap64 (x10_1 + 1))) = some (r1, r2) := by first | (rw [hy222]; with_reducible exact H) | (have H2_ := (Option.bind_some _ _).symm.trans H; rw [hy222]; with_reducible exact H2_) | (have H2_ := (Option.bind_some _ _).symm.trans H; with_reducible exact H2_) | with_reducible exact H | (rw [hy222]; exact H) | exact H
                  have Ny222 := Aside0.mk hy222
                  clear hy222
                  have H' := Aside0.mk H
                  clear H
                  have p214 : 0 ≤ (x10_1 : Int) := of_decide_eq_true (by first | (with_reducible assumption) | assumption)
                  have q214 : x10_1 < (l0.length : Int) := of_decide_eq_true (by first | (with_reducible assumption) | assumption)
                  obtain ⟨ad214, e214, hx214_0⟩ := Kd.at_int HR0.out x10_1 p214 q214
                  cases e214
                  replace hx214_0 := (HB.out.cell (World.block_lt_of_cell? w _ hx214_0)).trans hx214_0
                  replace p214 := eq_true p214
                  replace q214 := eq_true q214
                  go_wp2_with (first | ((with_reducible refine gate_callee (f := 23) rfl ?_); refine goesL_ (some 15) rfl rfl Tryd.func23 (by kernel_rfl) rfl #[.int .i64 (rd l0 x10_1)] rfl (by (try simp only [List.map_toArray, List.map_cons, List.map_nil]); first | done | rfl | (simp only [List.length_drop, List.length_take]; rfl)) ?_; (with_reducible refine (lit_point.calls (rd l0 x10_1) true _ A5.out).mono ?_); rintro e w' ⟨rfl, ⟨nd, rfl⟩⟩; refine ⟨_, rfl, ?_⟩; obtain ⟨Ao20, co20, eo20⟩ := Kd.R_slice HO_4.out; subst eo20) | ((with_reducible refine gate_builtin (b := .append) (xs := #[.tmp 39, .tmp 42]) rfl ?_); at_builtin; refine Kd.R_append k41 (w0 := w) w.heap.size rfl (.tmp 39) (.tmp 42) 32 41 (.agg #[(.int .i64 0), (.int .i64 0)]) 16 rfl Tryd.underlying32 info41 rfl (by decide) (by omega) (.slice Ao20 x4_1.length co20) x4_1 (⟨rd l0 x10_1, 1⟩ : S41) [.int .i64 (rd l0 x10_1), .int .i64 1] (fun _ => True) (fun _ => False) rfl rfl ?aP (fun _ hk => hk.elim) ?aF ?aO ?aB ?aS ?aL ?_; (case aP => exact k41_mkM _ _ _ (⟨rd l0 x10_1, 1⟩ : S41)); (case aB => exact (by repeat (first | (with_reducible first | exact HB.out | apply below_alloc | apply pw_below_drewN | apply below_drew1) | exact HB.out))); (case aF => exact (fun _ _ => trivial)); (case aO => exact (by (with_reducible repeat (first | apply Kd.R_alloc | apply Kd.R_drewN | apply Kd.R_drew)); exact HO_4.out)); (case aS => exact (below_size (by repeat (first | (with_reducible first | exact HB.out | apply below_alloc | apply pw_below_drewN | apply below_drew1) | exact HB.out)))); (case aL => have := LMc19.out; omega); intro v223 w21 ho hb hg hat; rw [← Ny222.out] at ho; have n0_ := Aside0.mk (hb); have n1_ := Aside0.mk (ho); clear HB; clear HO_4; have HB := n0_; have HO224 := n1_; clear n0_ n1_; clear ho hb hg hat))
                  go_roundg k1
                  case measure => have := HK1.out; omega
                  case rel => exact ⟨(y222), (wrap64 (x10_1 + 1)), (by first | rfl | (simp; done) | (simp [*]; done) | (refine congrArg Value.bool ?_; generalize ByteArray.toList _ = z_; cases z_ <;> rfl)), H', ⟨by have := HK1.out; omega⟩, ⟨by (with_reducible repeat (first | apply Kd.R_alloc | apply Kd.R_drewN | apply Kd.R_drew)); exact HO224.out⟩, ⟨by repeat (first | (with_reducible first | exact HB.out | apply below_alloc | apply pw_below_drewN | apply below_drew1) | exact HB.out)⟩⟩
                · rw [if_neg c19] at H
                  exact absurd H (by simp)
            · replace c6 := Bool.eq_false_iff.mpr c6
              subst c6
              have H1 : (some (([] : List (S41)), 1)) = some (r1, r2) := by rw [if_neg (show ¬ (false = true) by decide)] at H; exact H
              clear H
              have H := H1
              clear H1
              simp only [Option.some.injEq, Prod.mk.injEq] at H
              obtain ⟨rfl, rfl⟩ := H
              have p214 : 0 ≤ (x10_1 : Int) := of_decide_eq_true (by first | (with_reducible assumption) | assumption)
              have q214 : x10_1 < (l0.length : Int) := of_decide_eq_true (by first | (with_reducible assumption) | assumption)
              obtain ⟨ad214, e214, hx214_0⟩ := Kd.at_int HR0.out x10_1 p214 q214
              cases e214
              replace hx214_0 := (HB.out.cell (World.block_lt_of_cell? w _ hx214_0)).trans hx214_0
              replace p214 := eq_true p214
              replace q214 := eq_true q214
              go_wp2_with (first | ((with_reducible refine gate_callee (f := 23) rfl ?_); refine goesL_ (some 15) rfl rfl Tryd.func23 (by kernel_rfl) rfl #[.int .i64 (rd l0 x10_1)] rfl (by (try simp only [List.map_toArray, List.map_cons, List.map_nil]); first | done | rfl | (simp only [List.length_drop, List.length_take]; rfl)) ?_; (with_reducible refine (lit_point.calls (rd l0 x10_1) false _ A5.out).mono ?_); rintro e w' ⟨rfl, ⟨nd, rfl⟩⟩; refine ⟨_, rfl, ?_⟩))
              go_ret2
              exact ⟨_, by first | rfl | (simp [errW_none, errW_some] <;> rfl) | (simp [*, errW_none, errW_some] <;> rfl), by first | exact Kd.R_nil _ _ _ _ _ | exact Kd.N_nil _ _ _ _ _ | exact Kd.V_nil _ _ _ _ _ | exact Kd.Q_nil _ _ _ _ _ | exact Kd.S_nil _ _ _ _ _, by repeat (first | (with_reducible first | exact HB.out | apply below_alloc | apply pw_below_drewN | apply below_drew1) | exact HB.out)⟩
          · rw [if_neg c4] at H
            exact absurd H (by simp)
        · rw [if_neg c3] at H
          exact absurd H (by simp)
      · rw [if_neg c2] at H
        have c2b0 : decide (x10_1 < (l0.length : Int)) = false := decide_eq_false c2
        clear c2
        by_cases c22 : (x4_1.length : Int) > 65536
        · rw [if_pos c22] at H
          have c22b0 : decide (65536 < (x4_1.length : Int)) = true := decide_eq_true c22
          have c22b1 : decide (65536 < x4_1.length) = true := decide_eq_true (by omega)
          clear c22
          simp only [Option.some.injEq, Prod.mk.injEq] at H
          obtain ⟨rfl, rfl⟩ := H
          obtain ⟨Ao23, co23, eo23⟩ := Kd.R_slice HO_4.out
          subst eo23
          go_wp2
          go_ret2
          exact ⟨_, by first | rfl | (simp [errW_none, errW_some] <;> rfl) | (simp [*, errW_none, errW_some] <;> rfl), by first | exact Kd.R_nil _ _ _ _ _ | exact Kd.N_nil _ _ _ _ _ | exact Kd.V_nil _ _ _ _ _ | exact Kd.Q_nil _ _ _ _ _ | exact Kd.S_nil _ _ _ _ _, by repeat (first | (with_reducible first | exact HB.out | apply below_alloc | apply pw_below_drewN | apply below_drew1) | exact HB.out)⟩
        · rw [if_neg c22] at H
          have c22b0 : decide (65536 < (x4_1.length : Int)) = false := decide_eq_false c22
          have c22b1 : decide (65536 < x4_1.length) = false := decide_eq_false (by omega)
          clear c22
          simp only [Option.some.injEq, Prod.mk.injEq] at H
          obtain ⟨rfl, rfl⟩ := H
          obtain ⟨Ao24, co24, eo24⟩ := Kd.R_slice HO_4.out
          subst eo24
          go_wp2
          go_ret2
          exact ⟨_, by first | rfl | (simp [errW_none, errW_some] <;> rfl) | (simp [*, errW_none, errW_some] <;> rfl), by (with_reducible repeat (first | apply Kd.R_alloc | apply Kd.R_drewN | apply Kd.R_drew)); exact HO_4.out, by repeat (first | (with_reducible first | exact HB.out | apply below_alloc | apply pw_below_drewN | apply below_drew1) | exact HB.out)⟩

end Go.Proofs.YtjpcbflkgldokaaDoor.PA
