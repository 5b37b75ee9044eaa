/- Joined by wip/tools/shake.py for the claim of WordAlike: PBx5, Shelf, HVars. -/
import Derived.Test.YtbigeaknbhmniaaJWordAlike2
import Derived.Shelf.Sort.Plain
import Derived.Shelf.Slices.In.SortNone
import Derived.Test.YtbigeaknbhmniaaProg
import Derived.Maps.RangeWalk
import Derived.Maps.AppendAt
import Derived.Maps.OwnSet
import Derived.Lib.SlKeysI
import Derived.Sort.OwnSortedInts
import Derived.WalkKit
import Derived.KernelRfl
/- Written by a program of this session, wip/tools/patch_print.py, over the kit's print of the loaded functions. -/
namespace Go.Proofs.Ytbigeaknbhmniaa.H
end Go.Proofs.Ytbigeaknbhmniaa.H
namespace Go.Proofs.Ytbigeaknbhmniaa.PB
open Go.RowKit Go.Proofs.YtbigeaknbhmniaaW.PrintWords Go.Proofs.YtbigeaknbhmniaaW.PrintLast Go.Proofs.YtbigeaknbhmniaaW.PrintMore Go.Proofs.Ytbigeaknbhmniaa.H
attribute [local go_sem] max2_int min2_int max_two min_two max_three min_three max_four min_four   -- for this text's walks alone
set_option linter.unusedVariables false
set_option linter.unusedSimpArgs false

/-! ### word_Strip: function 21 -/
mutual
def word_Strip.j0 : Nat → List (S69) → List (S69) → Bool → Option ((List (S69)) × (List (S69)) × Int)
 | 0, _, _, _ => none
 | k + 1, x0, x1, x14 => if x14 = true then (some (([] : List (S69)), ([] : List (S69)), (-1))) else (word_Strip.l0 k x0 x1)
def word_Strip.j2 : Nat → List (S69) → List (S69) → Option ((List (S69)) × (List (S69)) × Int)
 | 0, _, _ => none
 | k + 1, x0, x1 => word_Strip.l1 k x0 x1
def word_Strip.j4 : Nat → List (S69) → List (S69) → Option ((List (S69)) × (List (S69)) × Int)
 | 0, _, _ => none
 | k + 1, x0, x1 => if (x0.length : Int) = 0 then (word_Strip.j5 k x0 x1 ((x1.length : Int) == 0)) else (word_Strip.j5 k x0 x1 false)
def word_Strip.j5 : Nat → List (S69) → List (S69) → Bool → Option ((List (S69)) × (List (S69)) × Int)
 | 0, _, _, _ => none
 | k + 1, x0, x1, x69 => if x69 = true then (some (([] : List (S69)), ([] : List (S69)), 1)) else (if (x0.length : Int) = 0 then (word_Strip.j6 k x0 x1 true) else (word_Strip.j6 k x0 x1 ((x1.length : Int) == 0)))
def word_Strip.j6 : Nat → List (S69) → List (S69) → Bool → Option ((List (S69)) × (List (S69)) × Int)
 | 0, _, _, _ => none
 | k + 1, x0, x1, x78 => if x78 = true then ((word_point.f k x0).bind fun t170 => (if t170 = true then (word_Strip.j7 k x0 x1 true) else ((word_point.f k x1).bind fun t171 => (word_Strip.j7 k x0 x1 t171)))) else (if 0 < (x0.length : Int) then (if 0 < (x1.length : Int) then ((word_apart.f ((rd_T69 x0 0).f0) ((rd_T69 x0 0).f1) ((rd_T69 x1 0).f0) ((rd_T69 x1 0).f1)).bind fun t180 => (if t180 = true then (word_Strip.j8 k x0 x1 t180) else (if 0 ≤ (wrap64 ((x0.length : Int) - 1)) then (if (wrap64 ((x0.length : Int) - 1)) < (x0.length : Int) then (if 0 ≤ (wrap64 ((x1.length : Int) - 1)) then (if (wrap64 ((x1.length : Int) - 1)) < (x1.length : Int) then ((word_apart.f ((rd_T69 x0 (wrap64 ((x0.length : Int) - 1))).f0) ((rd_T69 x0 (wrap64 ((x0.length : Int) - 1))).f1) ((rd_T69 x1 (wrap64 ((x1.length : Int) - 1))).f0) ((rd_T69 x1 (wrap64 ((x1.length : Int) - 1))).f1)).bind fun t183 => (word_Strip.j8 k x0 x1 t183)) else (none)) else (none)) else (none)) else (none)))) else (none)) else (none))
def word_Strip.j7 : Nat → List (S69) → List (S69) → Bool → Option ((List (S69)) × (List (S69)) × Int)
 | 0, _, _, _ => none
 | k + 1, x0, x1, x92 => if x92 = true then (some (([] : List (S69)), ([] : List (S69)), (-1))) else ((api_Letter_54.f x0).bind fun t172 => ((api_Letter_54.f x1).bind fun t175 => (some (t172, t175, 0))))
def word_Strip.j8 : Nat → List (S69) → List (S69) → Bool → Option ((List (S69)) × (List (S69)) × Int)
 | 0, _, _, _ => none
 | k + 1, x0, x1, x93 => if x93 = true then (some (([] : List (S69)), ([] : List (S69)), (-1))) else ((api_Letter_54.f x0).bind fun t184 => ((api_Letter_54.f x1).bind fun t187 => (some (t184, t187, 0))))
def word_Strip.l1 : Nat → List (S69) → List (S69) → Option ((List (S69)) × (List (S69)) × Int)
 | 0, _, _ => none
 | k + 1, x0, x1 => if (x0.length : Int) > 0 then (if (x1.length : Int) > 0 then (if 0 ≤ (wrap64 ((x0.length : Int) - 1)) then (if (wrap64 ((x0.length : Int) - 1)) < (x0.length : Int) then (if 0 ≤ (wrap64 ((x1.length : Int) - 1)) then (if (wrap64 ((x1.length : Int) - 1)) < (x1.length : Int) then ((word_same.f ((rd_T69 x0 (wrap64 ((x0.length : Int) - 1))).f0) ((rd_T69 x0 (wrap64 ((x0.length : Int) - 1))).f1) ((rd_T69 x1 (wrap64 ((x1.length : Int) - 1))).f0) ((rd_T69 x1 (wrap64 ((x1.length : Int) - 1))).f1)).bind fun t159 => (if t159 = true then (if (wrap64 ((x0.length : Int) - 1)) ≤ (x0.length : Int) then (if (wrap64 ((x1.length : Int) - 1)) ≤ (x1.length : Int) then (word_Strip.l1 k (x0.take ((wrap64 ((x0.length : Int) - 1)) : Int).toNat) (x1.take ((wrap64 ((x1.length : Int) - 1)) : Int).toNat)) else (none)) else (none)) else (word_Strip.j4 k x0 x1))) else (none)) else (none)) else (none)) else (none)) else (word_Strip.j4 k x0 x1)) else (word_Strip.j4 k x0 x1)
def word_Strip.l0 : Nat → List (S69) → List (S69) → Option ((List (S69)) × (List (S69)) × Int)
 | 0, _, _ => none
 | k + 1, x0, x1 => if (x0.length : Int) > 0 then (if (x1.length : Int) > 0 then (if 0 < (x0.length : Int) then (if 0 < (x1.length : Int) then ((word_same.f ((rd_T69 x0 0).f0) ((rd_T69 x0 0).f1) ((rd_T69 x1 0).f0) ((rd_T69 x1 0).f1)).bind fun t146 => (if t146 = true then (if 1 ≤ (x0.length : Int) then (if 1 ≤ (x1.length : Int) then (word_Strip.l0 k (x0.drop 1) (x1.drop 1)) else (none)) else (none)) else (word_Strip.j2 k x0 x1))) else (none)) else (none)) else (word_Strip.j2 k x0 x1)) else (word_Strip.j2 k x0 x1)
end
def word_Strip.f (k : Nat) (l0 : List (S69)) (l1 : List (S69)) : Option ((List (S69)) × (List (S69)) × Int) := (word_may.f k l0).bind fun t142 => (if t142 = true then ((word_may.f k l1).bind fun t143 => (word_Strip.j0 k l0 l1 (!t143))) else (word_Strip.j0 k l0 l1 true))
theorem word_Strip.mono_l : ∀ k, (∀ y0 y1 y2, LeO (word_Strip.j0 k y0 y1 y2) (word_Strip.j0 (k + 1) y0 y1 y2)) ∧ (∀ y0 y1, LeO (word_Strip.j2 k y0 y1) (word_Strip.j2 (k + 1) y0 y1)) ∧ (∀ y0 y1, LeO (word_Strip.j4 k y0 y1) (word_Strip.j4 (k + 1) y0 y1)) ∧ (∀ y0 y1 y2, LeO (word_Strip.j5 k y0 y1 y2) (word_Strip.j5 (k + 1) y0 y1 y2)) ∧ (∀ y0 y1 y2, LeO (word_Strip.j6 k y0 y1 y2) (word_Strip.j6 (k + 1) y0 y1 y2)) ∧ (∀ y0 y1 y2, LeO (word_Strip.j7 k y0 y1 y2) (word_Strip.j7 (k + 1) y0 y1 y2)) ∧ (∀ y0 y1 y2, LeO (word_Strip.j8 k y0 y1 y2) (word_Strip.j8 (k + 1) y0 y1 y2)) ∧ (∀ y0 y1, LeO (word_Strip.l1 k y0 y1) (word_Strip.l1 (k + 1) y0 y1)) ∧ (∀ y0 y1, LeO (word_Strip.l0 k y0 y1) (word_Strip.l0 (k + 1) y0 y1))
 | 0 => ⟨fun _ _ _ r h => by simp [word_Strip.j0] at h, fun _ _ r h => by simp [word_Strip.j2] at h, fun _ _ r h => by simp [word_Strip.j4] at h, fun _ _ _ r h => by simp [word_Strip.j5] at h, fun _ _ _ r h => by simp [word_Strip.j6] at h, fun _ _ _ r h => by simp [word_Strip.j7] at h, fun _ _ _ r h => by simp [word_Strip.j8] at h, fun _ _ r h => by simp [word_Strip.l1] at h, fun _ _ r h => by simp [word_Strip.l0] at h⟩
 | k + 1 => by
  obtain ⟨ih0, ih1, ih2, ih3, ih4, ih5, ih6, ih7, ih8⟩ := word_Strip.mono_l k
  refine ⟨?_, ?_, ?_, ?_, ?_, ?_, ?_, ?_, ?_⟩
  ·intro y0 y1 y2
   unfold word_Strip.j0
   repeat' first
   | (with_reducible exact ih0 _ _ _)
   | (with_reducible exact ih1 _ _)
   | (with_reducible exact ih2 _ _)
   | (with_reducible exact ih3 _ _ _)
   | (with_reducible exact ih4 _ _ _)
   | (with_reducible exact ih5 _ _ _)
   | (with_reducible exact ih6 _ _ _)
   | (with_reducible exact ih7 _ _)
   | (with_reducible exact ih8 _ _)
   | (with_reducible exact word_may.mono _ _)
   | (with_reducible exact word_point.mono _ _)
   | (with_reducible exact LeO.refl _)
   | (with_reducible exact LeO.none _)
   | (with_reducible refine LeO.ite ?_ ?_)
   | (with_reducible refine LeO.bind ?_ (fun _ => ?_))
   | exact ih0 _ _ _
   | exact ih1 _ _
   | exact ih2 _ _
   | exact ih3 _ _ _
   | exact ih4 _ _ _
   | exact ih5 _ _ _
   | exact ih6 _ _ _
   | exact ih7 _ _
   | exact ih8 _ _
   | exact word_may.mono _ _
   | exact word_point.mono _ _
   | exact LeO.none _
   | refine LeO.ite ?_ ?_
   | refine LeO.bind ?_ (fun _ => ?_)
  ·intro y0 y1
   unfold word_Strip.j2
   repeat' first
   | (with_reducible exact ih0 _ _ _)
   | (with_reducible exact ih1 _ _)
   | (with_reducible exact ih2 _ _)
   | (with_reducible exact ih3 _ _ _)
   | (with_reducible exact ih4 _ _ _)
   | (with_reducible exact ih5 _ _ _)
   | (with_reducible exact ih6 _ _ _)
   | (with_reducible exact ih7 _ _)
   | (with_reducible exact ih8 _ _)
   | (with_reducible exact word_may.mono _ _)
   | (with_reducible exact word_point.mono _ _)
   | (with_reducible exact LeO.refl _)
   | (with_reducible exact LeO.none _)
   | (with_reducible refine LeO.ite ?_ ?_)
   | (with_reducible refine LeO.bind ?_ (fun _ => ?_))
   | exact ih0 _ _ _
   | exact ih1 _ _
   | exact ih2 _ _
   | exact ih3 _ _ _
   | exact ih4 _ _ _
   | exact ih5 _ _ _
   | exact ih6 _ _ _
   | exact ih7 _ _
   | exact ih8 _ _
   | exact word_may.mono _ _
   | exact word_point.mono _ _
   | exact LeO.none _
   | refine LeO.ite ?_ ?_
   | refine LeO.bind ?_ (fun _ => ?_)
  ·intro y0 y1
   unfold word_Strip.j4
   repeat' first
   | (with_reducible exact ih0 _ _ _)
   | (with_reducible exact ih1 _ _)
   | (with_reducible exact ih2 _ _)
   | (with_reducible exact ih3 _ _ _)
   | (with_reducible exact ih4 _ _ _)
   | (with_reducible exact ih5 _ _ _)
   | (with_reducible exact ih6 _ _ _)
   | (with_reducible exact ih7 _ _)
   | (with_reducible exact ih8 _ _)
   | (with_reducible exact word_may.mono _ _)
   | (with_reducible exact word_point.mono _ _)
   | (with_reducible exact LeO.refl _)
   | (with_reducible exact LeO.none _)
   | (with_reducible refine LeO.ite ?_ ?_)
   | (with_reducible refine LeO.bind ?_ (fun _ => ?_))
   | exact ih0 _ _ _
   | exact ih1 _ _
   | exact ih2 _ _
   | exact ih3 _ _ _
   | exact ih4 _ _ _
   | exact ih5 _ _ _
   | exact ih6 _ _ _
   | exact ih7 _ _
   | exact ih8 _ _
   | exact word_may.mono _ _
   | exact word_point.mono _ _
   | exact LeO.none _
   | refine LeO.ite ?_ ?_
   | refine LeO.bind ?_ (fun _ => ?_)
  ·intro y0 y1 y2
   unfold word_Strip.j5
   repeat' first
   | (with_reducible exact ih0 _ _ _)
   | (with_reducible exact ih1 _ _)
   | (with_reducible exact ih2 _ _)
   | (with_reducible exact ih3 _ _ _)
   | (with_reducible exact ih4 _ _ _)
   | (with_reducible exact ih5 _ _ _)
   | (with_reducible exact ih6 _ _ _)
   | (with_reducible exact ih7 _ _)
   | (with_reducible exact ih8 _ _)
   | (with_reducible exact word_may.mono _ _)
   | (with_reducible exact word_point.mono _ _)
   | (with_reducible exact LeO.refl _)
   | (with_reducible exact LeO.none _)
   | (with_reducible refine LeO.ite ?_ ?_)
   | (with_reducible refine LeO.bind ?_ (fun _ => ?_))
   | exact ih0 _ _ _
   | exact ih1 _ _
   | exact ih2 _ _
   | exact ih3 _ _ _
   | exact ih4 _ _ _
   | exact ih5 _ _ _
   | exact ih6 _ _ _
   | exact ih7 _ _
   | exact ih8 _ _
   | exact word_may.mono _ _
   | exact word_point.mono _ _
   | exact LeO.none _
   | refine LeO.ite ?_ ?_
   | refine LeO.bind ?_ (fun _ => ?_)
  ·intro y0 y1 y2
   unfold word_Strip.j6
   repeat' first
   | (with_reducible exact ih0 _ _ _)
   | (with_reducible exact ih1 _ _)
   | (with_reducible exact ih2 _ _)
   | (with_reducible exact ih3 _ _ _)
   | (with_reducible exact ih4 _ _ _)
   | (with_reducible exact ih5 _ _ _)
   | (with_reducible exact ih6 _ _ _)
   | (with_reducible exact ih7 _ _)
   | (with_reducible exact ih8 _ _)
   | (with_reducible exact word_may.mono _ _)
   | (with_reducible exact word_point.mono _ _)
   | (with_reducible exact LeO.refl _)
   | (with_reducible exact LeO.none _)
   | (with_reducible refine LeO.ite ?_ ?_)
   | (with_reducible refine LeO.bind ?_ (fun _ => ?_))
   | exact ih0 _ _ _
   | exact ih1 _ _
   | exact ih2 _ _
   | exact ih3 _ _ _
   | exact ih4 _ _ _
   | exact ih5 _ _ _
   | exact ih6 _ _ _
   | exact ih7 _ _
   | exact ih8 _ _
   | exact word_may.mono _ _
   | exact word_point.mono _ _
   | exact LeO.none _
   | refine LeO.ite ?_ ?_
   | refine LeO.bind ?_ (fun _ => ?_)
  ·intro y0 y1 y2
   unfold word_Strip.j7
   repeat' first
   | (with_reducible exact ih0 _ _ _)
   | (with_reducible exact ih1 _ _)
   | (with_reducible exact ih2 _ _)
   | (with_reducible exact ih3 _ _ _)
   | (with_reducible exact ih4 _ _ _)
   | (with_reducible exact ih5 _ _ _)
   | (with_reducible exact ih6 _ _ _)
   | (with_reducible exact ih7 _ _)
   | (with_reducible exact ih8 _ _)
   | (with_reducible exact word_may.mono _ _)
   | (with_reducible exact word_point.mono _ _)
   | (with_reducible exact LeO.refl _)
   | (with_reducible exact LeO.none _)
   | (with_reducible refine LeO.ite ?_ ?_)
   | (with_reducible refine LeO.bind ?_ (fun _ => ?_))
   | exact ih0 _ _ _
   | exact ih1 _ _
   | exact ih2 _ _
   | exact ih3 _ _ _
   | exact ih4 _ _ _
   | exact ih5 _ _ _
   | exact ih6 _ _ _
   | exact ih7 _ _
   | exact ih8 _ _
   | exact word_may.mono _ _
   | exact word_point.mono _ _
   | exact LeO.none _
   | refine LeO.ite ?_ ?_
   | refine LeO.bind ?_ (fun _ => ?_)
  ·intro y0 y1 y2
   unfold word_Strip.j8
   repeat' first
   | (with_reducible exact ih0 _ _ _)
   | (with_reducible exact ih1 _ _)
   | (with_reducible exact ih2 _ _)
   | (with_reducible exact ih3 _ _ _)
   | (with_reducible exact ih4 _ _ _)
   | (with_reducible exact ih5 _ _ _)
   | (with_reducible exact ih6 _ _ _)
   | (with_reducible exact ih7 _ _)
   | (with_reducible exact ih8 _ _)
   | (with_reducible exact word_may.mono _ _)
   | (with_reducible exact word_point.mono _ _)
   | (with_reducible exact LeO.refl _)
   | (with_reducible exact LeO.none _)
   | (with_reducible refine LeO.ite ?_ ?_)
   | (with_reducible refine LeO.bind ?_ (fun _ => ?_))
   | exact ih0 _ _ _
   | exact ih1 _ _
   | exact ih2 _ _
   | exact ih3 _ _ _
   | exact ih4 _ _ _
   | exact ih5 _ _ _
   | exact ih6 _ _ _
   | exact ih7 _ _
   | exact ih8 _ _
   | exact word_may.mono _ _
   | exact word_point.mono _ _
   | exact LeO.none _
   | refine LeO.ite ?_ ?_
   | refine LeO.bind ?_ (fun _ => ?_)
  ·intro y0 y1
   unfold word_Strip.l1
   repeat' first
   | (with_reducible exact ih0 _ _ _)
   | (with_reducible exact ih1 _ _)
   | (with_reducible exact ih2 _ _)
   | (with_reducible exact ih3 _ _ _)
   | (with_reducible exact ih4 _ _ _)
   | (with_reducible exact ih5 _ _ _)
   | (with_reducible exact ih6 _ _ _)
   | (with_reducible exact ih7 _ _)
   | (with_reducible exact ih8 _ _)
   | (with_reducible exact word_may.mono _ _)
   | (with_reducible exact word_point.mono _ _)
   | (with_reducible exact LeO.refl _)
   | (with_reducible exact LeO.none _)
   | (with_reducible refine LeO.ite ?_ ?_)
   | (with_reducible refine LeO.bind ?_ (fun _ => ?_))
   | exact ih0 _ _ _
   | exact ih1 _ _
   | exact ih2 _ _
   | exact ih3 _ _ _
   | exact ih4 _ _ _
   | exact ih5 _ _ _
   | exact ih6 _ _ _
   | exact ih7 _ _
   | exact ih8 _ _
   | exact word_may.mono _ _
   | exact word_point.mono _ _
   | exact LeO.none _
   | refine LeO.ite ?_ ?_
   | refine LeO.bind ?_ (fun _ => ?_)
  ·intro y0 y1
   unfold word_Strip.l0
   repeat' first
   | (with_reducible exact ih0 _ _ _)
   | (with_reducible exact ih1 _ _)
   | (with_reducible exact ih2 _ _)
   | (with_reducible exact ih3 _ _ _)
   | (with_reducible exact ih4 _ _ _)
   | (with_reducible exact ih5 _ _ _)
   | (with_reducible exact ih6 _ _ _)
   | (with_reducible exact ih7 _ _)
   | (with_reducible exact ih8 _ _)
   | (with_reducible exact word_may.mono _ _)
   | (with_reducible exact word_point.mono _ _)
   | (with_reducible exact LeO.refl _)
   | (with_reducible exact LeO.none _)
   | (with_reducible refine LeO.ite ?_ ?_)
   | (with_reducible refine LeO.bind ?_ (fun _ => ?_))
   | exact ih0 _ _ _
   | exact ih1 _ _
   | exact ih2 _ _
   | exact ih3 _ _ _
   | exact ih4 _ _ _
   | exact ih5 _ _ _
   | exact ih6 _ _ _
   | exact ih7 _ _
   | exact ih8 _ _
   | exact word_may.mono _ _
   | exact word_point.mono _ _
   | exact LeO.none _
   | refine LeO.ite ?_ ?_
   | refine LeO.bind ?_ (fun _ => ?_)
theorem word_Strip.mono : ∀ a0 a1 k, LeO (word_Strip.f k a0 a1) (word_Strip.f (k + 1) a0 a1) := by
 intro a0 a1 k
 obtain ⟨ih0, ih1, ih2, ih3, ih4, ih5, ih6, ih7, ih8⟩ := word_Strip.mono_l k
 unfold word_Strip.f
 repeat' first
   | (with_reducible exact ih0 _ _ _)
   | (with_reducible exact ih1 _ _)
   | (with_reducible exact ih2 _ _)
   | (with_reducible exact ih3 _ _ _)
   | (with_reducible exact ih4 _ _ _)
   | (with_reducible exact ih5 _ _ _)
   | (with_reducible exact ih6 _ _ _)
   | (with_reducible exact ih7 _ _)
   | (with_reducible exact ih8 _ _)
   | (with_reducible exact word_may.mono _ _)
   | (with_reducible exact word_point.mono _ _)
   | (with_reducible exact LeO.refl _)
   | (with_reducible exact LeO.none _)
   | (with_reducible refine LeO.ite ?_ ?_)
   | (with_reducible refine LeO.bind ?_ (fun _ => ?_))
   | exact ih0 _ _ _
   | exact ih1 _ _
   | exact ih2 _ _
   | exact ih3 _ _ _
   | exact ih4 _ _ _
   | exact ih5 _ _ _
   | exact ih6 _ _ _
   | exact ih7 _ _
   | exact ih8 _ _
   | exact word_may.mono _ _
   | exact word_point.mono _ _
   | exact LeO.none _
   | refine LeO.ite ?_ ?_
   | refine LeO.bind ?_ (fun _ => ?_)
def word_Strip.T3 : Bool × List (List Nat × List Nat) := (true, [([], []), ([0], [0]), ([1], [1]), ([2], [2]), ([3], [3]), ([4, 3], [3, 4]), ([5, 3], [3, 5]), ([3, 6], [3, 6]), ([7, 3], [7]), ([8], [8]), ([9, 8], [8, 9]), ([10, 8], [8, 10]), ([8], [8]), ([12, 8], [8, 12]), ([13, 8], [8, 13]), ([11, 14, 8, 8], [8, 11, 14]), ([8, 15], [8, 15])])
def word_Strip.B3 : List Nat := [0, 1, 3, 7, 15, 31, 63, 127, 255, 511, 1023, 2047, 511, 4607, 12799, 32767, 65535]
theorem word_Strip.tab3 : rtab .any (opsOf Try.f21 3) = word_Strip.T3 := by kernel_rfl
theorem word_Strip.bits3 : waitsOk word_Strip.T3.2 word_Strip.B3 = true := by kernel_rfl
def word_Strip.T5 : Bool × List (List Nat × List Nat) := (true, [([], []), ([0], [0]), ([1], [1]), ([2], [2]), ([3], [3]), ([4, 3], [3, 4]), ([5, 3], [3, 5]), ([3, 6], [3, 6]), ([7, 3], [7]), ([8], [8]), ([8], [8]), ([10, 8], [8, 10]), ([11, 8], [8, 11]), ([9, 12, 8], [8, 9, 12]), ([13, 8], [8, 13]), ([8], [8]), ([8], [8]), ([16, 8], [8, 16]), ([17, 8], [8, 17]), ([15, 18, 8], [8, 15, 18]), ([19, 8], [8, 19]), ([14, 20, 8, 8], [8, 14, 20]), ([8, 21], [8, 21])])
def word_Strip.B5 : List Nat := [0, 1, 3, 7, 15, 31, 63, 127, 255, 511, 511, 1535, 3583, 8191, 16383, 511, 511, 66047, 197119, 492031, 1016319, 2097151, 4194303]
theorem word_Strip.tab5 : rtab .any (opsOf Try.f21 5) = word_Strip.T5 := by kernel_rfl
theorem word_Strip.bits5 : waitsOk word_Strip.T5.2 word_Strip.B5 = true := by kernel_rfl
def word_Strip.T6 : Bool × List (List Nat × List Nat) := (true, [([], []), ([], []), ([1], [1]), ([2], [2]), ([0, 3], [0, 3]), ([], []), ([], []), ([6], [6]), ([7], [7]), ([5, 8], [5, 8]), ([4, 0, 1, 2, 3, 4], [0, 1, 4]), ([9, 10, 0, 1, 2, 3, 4, 5, 6, 7, 8, 9, 10], [5, 6, 9])])
def word_Strip.B6 : List Nat := [0, 0, 2, 6, 15, 0, 0, 64, 192, 480, 31, 2047]
theorem word_Strip.tab6 : rtab .any (opsOf Try.f21 6) = word_Strip.T6 := by kernel_rfl
theorem word_Strip.bits6 : waitsOk word_Strip.T6.2 word_Strip.B6 = true := by kernel_rfl
def word_Strip.T12 : Bool × List (List Nat × List Nat) := (true, [([], []), ([0], [0]), ([1], [1]), ([], []), ([3], [3]), ([4], [4]), ([2, 5], [2, 5]), ([6, 6], [6])])
def word_Strip.B12 : List Nat := [0, 1, 3, 0, 8, 24, 63, 127]
theorem word_Strip.tab12 : rtab .any (opsOf Try.f21 12) = word_Strip.T12 := by kernel_rfl
theorem word_Strip.bits12 : waitsOk word_Strip.T12.2 word_Strip.B12 = true := by kernel_rfl
def word_Strip.T13 : Bool × List (List Nat × List Nat) := (true, [([], []), ([], []), ([1], [1]), ([2], [2]), ([0, 3], [0, 3]), ([4], [4]), ([], []), ([], []), ([7], [7]), ([8], [8]), ([6, 9], [6, 9]), ([10], [10]), ([5, 11], [5, 11]), ([12, 12], [12])])
def word_Strip.B13 : List Nat := [0, 0, 2, 6, 15, 31, 0, 0, 128, 384, 960, 1984, 4095, 8191]
theorem word_Strip.tab13 : rtab .any (opsOf Try.f21 13) = word_Strip.T13 := by kernel_rfl
theorem word_Strip.bits13 : waitsOk word_Strip.T13.2 word_Strip.B13 = true := by kernel_rfl
set_option maxHeartbeats 8000000 in
set_option maxRecDepth 100000 in
theorem word_Strip.calls (k : Nat) (P0_ : Nat → Prop) (A0 : Option Addr) (c0 : Nat) (l0 : List (S69)) (P1_ : Nat → Prop) (A1 : Option Addr) (c1 : Nat) (l1 : List (S69)) (r1 : List (S69)) (r2 : List (S69)) (r3 : Int) (w : World) (hs0 : Kd.V k69 69 w w.heap.size (fun k_ => P0_ k_) (.slice A0 l0.length c0) l0) (hs1 : Kd.V k69 69 w w.heap.size (fun k_ => P1_ k_) (.slice A1 l1.length c1) l1) (h : word_Strip.f k l0 l1 = some (r1, r2, r3)) :
  Calls Try.prog 21 #[.slice A0 l0.length c0, .slice A1 l1.length c1] w fun e w' => ∃ v0_ v1_ : Value, e = .returned (.tuple #[v0_, v1_, .int .i64 r3]) ∧ Kd.R k69 69 w' w.heap.size (fun k_ => (w.heap.size ≤ k_) ∧ some k_ ≠ (v1_ : Value).ownBlock) v0_ r1 ∧ Kd.R k69 69 w' w.heap.size (fun k_ => (w.heap.size ≤ k_) ∧ some k_ ≠ (v0_ : Value).ownBlock) v1_ r2 ∧ Below w.heap.size w w' := by
 have hu69 := Try.underlying69
 have HO0 := Aside0.mk (show Kd.V k69 69 w w.heap.size (fun k_ => ((P0_ k_ ∨ P1_ k_) ∨ w.heap.size ≤ k_)) (.slice A0 l0.length c0) l0 from Kd.V_mono hs0 (fun k_ hk => .inl (.inl hk)))
 have HO1 := Aside0.mk (show Kd.V k69 69 w w.heap.size (fun k_ => ((P0_ k_ ∨ P1_ k_) ∨ w.heap.size ≤ k_)) (.slice A1 l1.length c1) l1 from Kd.V_mono hs1 (fun k_ hk => .inl (.inr hk)))
 have HB := Aside0.mk (Below.refl w.heap.size w)
 have H : ((word_may.f k l0).bind fun t142 => (if t142 = true then ((word_may.f k l1).bind fun t143 => (word_Strip.j0 k l0 l1 (!t143))) else (word_Strip.j0 k l0 l1 true))) = some (r1, r2, r3) := h
 clear h
 have HC3 := Aside0.mk H
 clear H
 go_enter Try.func21, Try.ntmps21
 go_upto_region 1 with (fail)
 go_cut [14] (fun v14 wc => ∃ (kq : Nat) (x14_2 : Bool), v14 = .bool x14_2 ∧ Aside0 (word_Strip.j0 kq l0 l1 x14_2 = some (r1, r2, r3)) ∧ Aside0 (kq ≤ k) ∧ Aside0 (Kd.V k69 69 wc w.heap.size (fun k_ => ((P0_ k_ ∨ P1_ k_) ∨ w.heap.size ≤ k_)) (.slice A0 l0.length c0) l0) ∧ Aside0 (Kd.V k69 69 wc w.heap.size (fun k_ => ((P0_ k_ ∨ P1_ k_) ∨ w.heap.size ≤ k_)) (.slice A1 l1.length c1) l1) ∧ Aside0 (Below w.heap.size w wc))
 case first =>
  have H := HC3.out
  clear HC3
  replace H := Option.bind_eq_some_iff.mp H
  obtain ⟨t142, A40, H⟩ := H
  replace H : (if t142 = true then ((word_may.f k l1).bind fun t143 => (word_Strip.j0 k l0 l1 (!t143))) else (word_Strip.j0 k l0 l1 true)) = some (r1, r2, r3) := H
  have A4 := Aside0.mk A40
  clear A40
  by_cases c5 : t142 = true
  ·subst c5
   have H1 : ((word_may.f k l1).bind fun t143 => (word_Strip.j0 k l0 l1 (!t143))) = some (r1, r2, r3) := by rw [if_pos rfl] at H; exact H
   clear H
   have H := H1
   clear H1
   replace H := Option.bind_eq_some_iff.mp H
   obtain ⟨t143, A60, H⟩ := H
   replace H : (word_Strip.j0 k l0 l1 (!t143)) = some (r1, r2, r3) := H
   have A6 := Aside0.mk A60
   clear A60
   have H' := Aside0.mk H
   clear H
   go_wp2_with (first | ((with_reducible refine gate_callee (f := 42) rfl ?_); refine goesL_ (some 8) rfl rfl Try.func42 (by kernel_rfl) rfl #[.slice A0 l0.length c0] rfl (by (try simp only [List.map_toArray, List.map_cons, List.map_nil]); first | done | rfl | (simp only [List.length_drop, List.length_take]; rfl)) ?_; (with_reducible refine (word_may.calls k _ _ l0 true _ ?side1 ?side2 A4.out).mono ?_); (case side1 => repeat (first | exact (Kd.V_reads' HO0.out).2.2 | (with_reducible refine Kd.C_alloc ?_ _) | (with_reducible refine Kd.C_drewN ?_ _) | (with_reducible refine Kd.C_drew ?_))); (case side2 => exact (Kd.V_reads' HO0.out).2.1); rintro e w7 ⟨rfl, hb⟩; refine ⟨_, rfl, ?_⟩; have n0_ := Aside0.mk (Kd.V_below (by (with_reducible repeat (first | apply Kd.V_alloc | apply Kd.V_drewN | apply Kd.V_drew)); exact HO0.out) hb); have n1_ := Aside0.mk (Kd.V_below (by (with_reducible repeat (first | apply Kd.V_alloc | apply Kd.V_drewN | apply Kd.V_drew)); exact HO1.out) hb); have n2_ := Aside0.mk (below_step (by repeat (first | (with_reducible first | exact HB.out | apply below_alloc | apply pw_below_drewN | apply below_drew1) | exact HB.out)) hb); clear HO0; clear HO1; clear HB; have HO0 := n0_; have HO1 := n1_; have HB := n2_; clear n0_ n1_ n2_; (try clear hb); (try clear hb2); (try clear hk); (try clear hi)) | (go_at_call 42; (with_reducible refine (word_may.calls k _ _ l1 t143 _ ?side1 ?side2 A6.out).mono ?_); (case side1 => repeat (first | exact (Kd.V_reads' HO1.out).2.2 | (with_reducible refine Kd.C_alloc ?_ _) | (with_reducible refine Kd.C_drewN ?_ _) | (with_reducible refine Kd.C_drew ?_))); (case side2 => exact (Kd.V_reads' HO1.out).2.1); rintro e w8 ⟨rfl, hb⟩; have n0_ := Aside0.mk (Kd.V_below (by (with_reducible repeat (first | apply Kd.V_alloc | apply Kd.V_drewN | apply Kd.V_drew)); exact HO0.out) hb); have n1_ := Aside0.mk (Kd.V_below (by (with_reducible repeat (first | apply Kd.V_alloc | apply Kd.V_drewN | apply Kd.V_drew)); exact HO1.out) hb); have n2_ := Aside0.mk (below_step (by repeat (first | (with_reducible first | exact HB.out | apply below_alloc | apply pw_below_drewN | apply below_drew1) | exact HB.out)) hb); clear HO0; clear HO1; clear HB; have HO0 := n0_; have HO1 := n1_; have HB := n2_; clear n0_ n1_ n2_; (try clear hb); (try clear hb2); (try clear hk); (try clear hi)))
   go_meet
   case rel => exact ⟨_, (!t143), (by first | rfl | (simp; done) | (simp [*]; done) | (refine congrArg (Value.int _) ?_; omega) | (refine congrArg Value.bool ?_; generalize ByteArray.toList _ = z_; cases z_ <;> rfl)), H', ⟨by first | omega | exact Nat.le_refl _⟩, ⟨by (with_reducible repeat (first | apply Kd.V_alloc | apply Kd.V_drewN | apply Kd.V_drew)); exact HO0.out⟩, ⟨by (with_reducible repeat (first | apply Kd.V_alloc | apply Kd.V_drewN | apply Kd.V_drew)); exact HO1.out⟩, ⟨by repeat (first | (with_reducible first | exact HB.out | apply below_alloc | apply pw_below_drewN | apply below_drew1) | exact HB.out)⟩⟩
  ·replace c5 := Bool.eq_false_iff.mpr c5
   subst c5
   have H1 : (word_Strip.j0 k l0 l1 true) = some (r1, r2, r3) := by rw [if_neg (show ¬ (false = true) by decide)] at H; exact H
   clear H
   have H := H1
   clear H1
   have H' := Aside0.mk H
   clear H
   go_wp2_with (first | ((with_reducible refine gate_callee (f := 42) rfl ?_); refine goesL_ (some 8) rfl rfl Try.func42 (by kernel_rfl) rfl #[.slice A0 l0.length c0] rfl (by (try simp only [List.map_toArray, List.map_cons, List.map_nil]); first | done | rfl | (simp only [List.length_drop, List.length_take]; rfl)) ?_; (with_reducible refine (word_may.calls k _ _ l0 false _ ?side1 ?side2 A4.out).mono ?_); (case side1 => repeat (first | exact (Kd.V_reads' HO0.out).2.2 | (with_reducible refine Kd.C_alloc ?_ _) | (with_reducible refine Kd.C_drewN ?_ _) | (with_reducible refine Kd.C_drew ?_))); (case side2 => exact (Kd.V_reads' HO0.out).2.1); rintro e w9 ⟨rfl, hb⟩; refine ⟨_, rfl, ?_⟩; have n0_ := Aside0.mk (Kd.V_below (by (with_reducible repeat (first | apply Kd.V_alloc | apply Kd.V_drewN | apply Kd.V_drew)); exact HO0.out) hb); have n1_ := Aside0.mk (Kd.V_below (by (with_reducible repeat (first | apply Kd.V_alloc | apply Kd.V_drewN | apply Kd.V_drew)); exact HO1.out) hb); have n2_ := Aside0.mk (below_step (by repeat (first | (with_reducible first | exact HB.out | apply below_alloc | apply pw_below_drewN | apply below_drew1) | exact HB.out)) hb); clear HO0; clear HO1; clear HB; have HO0 := n0_; have HO1 := n1_; have HB := n2_; clear n0_ n1_ n2_; (try clear hb); (try clear hb2); (try clear hk); (try clear hi)))
   go_meet
   case rel => exact ⟨_, (true), (by first | rfl | (simp; done) | (simp [*]; done) | (refine congrArg (Value.int _) ?_; omega) | (refine congrArg Value.bool ?_; generalize ByteArray.toList _ = z_; cases z_ <;> rfl)), H', ⟨by first | omega | exact Nat.le_refl _⟩, ⟨by (with_reducible repeat (first | apply Kd.V_alloc | apply Kd.V_drewN | apply Kd.V_drew)); exact HO0.out⟩, ⟨by (with_reducible repeat (first | apply Kd.V_alloc | apply Kd.V_drewN | apply Kd.V_drew)); exact HO1.out⟩, ⟨by repeat (first | (with_reducible first | exact HB.out | apply below_alloc | apply pw_below_drewN | apply below_drew1) | exact HB.out)⟩⟩
 case rest =>
  clear HC3
  try clear c1
  try clear c2
  try clear p2
  try clear c4
  try clear c5
  obtain ⟨kq, x14_2, rfl, HA, HJ2, HO_0, HO_1, HB⟩ := hcut
  cases kq with
  | zero => exact absurd HA.out (by simp [word_Strip.j0])
  | succ kj2 =>
   have H := HA.out
   clear HA
   simp only [word_Strip.j0] at H
   by_cases c10 : x14_2 = true
   ·subst c10
    have H1 : (some (([] : List (S69)), ([] : List (S69)), (-1))) = some (r1, r2, r3) := by rw [if_pos rfl] at H; exact H
    clear H
    have H := H1
    clear H1
    simp only [Option.some.injEq, Prod.mk.injEq] at H
    obtain ⟨rfl, rfl, rfl⟩ := H
    go_wp2
    go_ret3
    exact ⟨_, _, by first | rfl | (simp [errW_none, errW_some] <;> rfl) | (simp [*, errW_none, errW_some] <;> rfl), by first | exact Kd.R_nil _ _ _ _ _ | exact Kd.N_nil _ _ _ _ _ | exact Kd.V_nil _ _ _ _ _ | exact Kd.Q_nil _ _ _ _ _ | exact Kd.S_nil _ _ _ _ _, by first | exact Kd.R_nil _ _ _ _ _ | exact Kd.N_nil _ _ _ _ _ | exact Kd.V_nil _ _ _ _ _ | exact Kd.Q_nil _ _ _ _ _ | exact Kd.S_nil _ _ _ _ _, by repeat (first | (with_reducible first | exact HB.out | apply below_alloc | apply pw_below_drewN | apply below_drew1) | exact HB.out)⟩
   ·replace c10 := Bool.eq_false_iff.mpr c10
    subst c10
    have H1 : (word_Strip.l0 kj2 l0 l1) = some (r1, r2, r3) := by rw [if_neg (show ¬ (false = true) by decide)] at H; exact H
    clear H
    have H := H1
    clear H1
    have HC11 := Aside0.mk H
    clear H
    go_upto_block 0 with (fail)
    go_cut [0, 1] (fun v0 v1 wc => ∃ (kq : Nat) (x0_10 : List (S69)) (x1_10 : List (S69)), Aside0 (word_Strip.j2 kq x0_10 x1_10 = some (r1, r2, r3)) ∧ Aside0 (kq ≤ kj2) ∧ Aside0 (Kd.V k69 69 wc w.heap.size (fun k_ => ((P0_ k_ ∨ P1_ k_) ∨ w.heap.size ≤ k_)) v0 x0_10) ∧ Aside0 (Kd.V k69 69 wc w.heap.size (fun k_ => ((P0_ k_ ∨ P1_ k_) ∨ w.heap.size ≤ k_)) v1 x1_10) ∧ Aside0 (Below w.heap.size w wc))
    case first =>
     have H := HC11.out
     clear HC11
     have H' := Aside0.mk H
     clear H
     go_wp2
     go_loopg [0, 1] kj2 (fun kq v0 v1 w' => ∃ (x0_2 : List (S69)) (x1_2 : List (S69)), Aside0 (word_Strip.l0 kq x0_2 x1_2 = some (r1, r2, r3)) ∧ Aside0 (kq ≤ kj2) ∧ Aside0 (Kd.V k69 69 w' w.heap.size (fun k_ => ((P0_ k_ ∨ P1_ k_) ∨ w.heap.size ≤ k_)) v0 x0_2) ∧ Aside0 (Kd.V k69 69 w' w.heap.size (fun k_ => ((P0_ k_ ∨ P1_ k_) ∨ w.heap.size ≤ k_)) v1 x1_2) ∧ Aside0 (Below w.heap.size w w'))
     case atStart => exact ⟨(l0), (l1), H', ⟨Nat.le_refl _⟩, ⟨by (with_reducible repeat (first | apply Kd.V_alloc | apply Kd.V_drewN | apply Kd.V_drew)); exact HO_0.out⟩, ⟨by (with_reducible repeat (first | apply Kd.V_alloc | apply Kd.V_drewN | apply Kd.V_drew)); exact HO_1.out⟩, ⟨by repeat (first | (with_reducible first | exact HB.out | apply below_alloc | apply pw_below_drewN | apply below_drew1) | exact HB.out)⟩⟩
     case round =>
      clear H'
      try clear c1
      try clear c2
      try clear p2
      try clear c4
      try clear c5
      try clear c10
      try clear p2
      obtain ⟨x0_2, x1_2, HA, HK2, HO_0, HO_1, HB⟩ := hrel
      cases gk with
      | zero => exact absurd HA.out (by simp [word_Strip.l0])
      | succ k2 =>
       have H := HA.out
       clear HA
       simp only [word_Strip.l0] at H
       by_cases c12 : (x0_2.length : Int) > 0
       ·rw [if_pos c12] at H
        have c12b0 : decide (0 < (x0_2.length : Int)) = true := decide_eq_true c12
        have c12b1 : decide (0 < x0_2.length) = true := decide_eq_true (by omega)
        clear c12
        (first | rw [c12b0] | rw [c12b1] | (simp only [i64_w, i32_w]; rw [c12b0]) | skip)
        by_cases c13 : (x1_2.length : Int) > 0
        ·rw [if_pos c13] at H
         have c13b0 : decide (0 < (x1_2.length : Int)) = true := decide_eq_true c13
         have c13b1 : decide (0 < x1_2.length) = true := decide_eq_true (by omega)
         clear c13
         by_cases c14 : 0 < (x0_2.length : Int)
         ·rw [if_pos c14] at H
          have c14b0 : decide (0 < (x0_2.length : Int)) = true := decide_eq_true c14
          have c14b1 : decide (0 < x0_2.length) = true := decide_eq_true (by omega)
          clear c14
          by_cases c15 : 0 < (x1_2.length : Int)
          ·rw [if_pos c15] at H
           have c15b0 : decide (0 < (x1_2.length : Int)) = true := decide_eq_true c15
           have c15b1 : decide (0 < x1_2.length) = true := decide_eq_true (by omega)
           clear c15
           replace H := Option.bind_eq_some_iff.mp H
           obtain ⟨t146, A160, H⟩ := H
           replace H : (if t146 = true then (if 1 ≤ (x0_2.length : Int) then (if 1 ≤ (x1_2.length : Int) then (word_Strip.l0 k2 (x0_2.drop 1) (x1_2.drop 1)) else (none)) else (none)) else (word_Strip.j2 k2 x0_2 x1_2)) = some (r1, r2, r3) := H
           have A16 := Aside0.mk A160
           clear A160
           by_cases c17 : t146 = true
           ·subst c17
            have H1 : (if 1 ≤ (x0_2.length : Int) then (if 1 ≤ (x1_2.length : Int) then (word_Strip.l0 k2 (x0_2.drop 1) (x1_2.drop 1)) else (none)) else (none)) = some (r1, r2, r3) := by rw [if_pos rfl] at H; exact H
            clear H
            have H := H1
            clear H1
            by_cases c18 : 1 ≤ (x0_2.length : Int)
            ·rw [if_pos c18] at H
             have c18b0 := eq_true c18
             have c18b1 : decide (1 ≤ (x0_2.length : Int)) = true := decide_eq_true c18
             clear c18
             obtain ⟨y147, hy147⟩ : ∃ y_ : List (S69), y_ = (x0_2.drop 1) := ⟨_, rfl⟩
             replace H : (if 1 ≤ (x1_2.length : Int) then (word_Strip.l0 k2 y147 (x1_2.drop 1)) else (none)) = some (r1, r2, r3) := by first | (rw [hy147]; with_reducible exact H) | (have H2_ := (Option.bind_some _ _).symm.trans H; rw [hy147]; with_reducible exact H2_) | (have H2_ := (Option.bind_some _ _).symm.trans H; with_reducible exact H2_) | with_reducible exact H | (rw [hy147]; exact H) | exact H
             have Ny147 := Aside0.mk hy147
             clear hy147
             by_cases c19 : 1 ≤ (x1_2.length : Int)
             ·rw [if_pos c19] at H
              have c19b0 := eq_true c19
              have c19b1 : decide (1 ≤ (x1_2.length : Int)) = true := decide_eq_true c19
              clear c19
              obtain ⟨y152, hy152⟩ : ∃ y_ : List (S69), y_ = (x1_2.drop 1) := ⟨_, rfl⟩
              replace H : (word_Strip.l0 k2 y147 y152) = some (r1, r2, r3) := by first | (rw [hy152]; with_reducible exact H) | (have H2_ := (Option.bind_some _ _).symm.trans H; rw [hy152]; with_reducible exact H2_) | (have H2_ := (Option.bind_some _ _).symm.trans H; with_reducible exact H2_) | with_reducible exact H | (rw [hy152]; exact H) | exact H
              have Ny152 := Aside0.mk hy152
              clear hy152
              have H' := Aside0.mk H
              clear H
              try go_wp2
              have n0_ := Aside0.mk (Kd.V_drew HO_0.out)
              have n1_ := Aside0.mk (Kd.V_drew HO_1.out)
              have n2_ := Aside0.mk (below_drew1 HB.out)
              clear HO_0
              clear HO_1
              clear HB
              have HO_0 := n0_
              have HO_1 := n1_
              have HB := n2_
              clear n0_ n1_ n2_
              obtain ⟨Ao21, co21, eo21⟩ := Kd.V_slice HO_0.out
              (first | subst eo21 | (injection eo21 with f1_ f2_ f3_; have f4_ := f1_.symm; have f5_ := f3_.symm; clear f1_ f2_ f3_; subst f4_; subst f5_))
              obtain ⟨Ao22, co22, eo22⟩ := Kd.V_slice HO_1.out
              (first | subst eo22 | (injection eo22 with f1_ f2_ f3_; have f4_ := f1_.symm; have f5_ := f3_.symm; clear f1_ f2_ f3_; subst f4_; subst f5_))
              have p144 : 0 ≤ (0 : Int) := (by omega)
              have q144 : 0 < (x0_2.length : Int) := of_decide_eq_true (by first | (with_reducible assumption) | assumption)
              obtain ⟨ad144, e144, hx144_0, hx144_1⟩ := at_T69 (Kd.V_reads' HO_0.out).2.2 0 p144 q144
              cases e144
              have qi144 : (0 < x0_2.length) = True := eq_true (by omega)
              (try rw [show ((0 : Int)).toNat = 0 from rfl] at hx144_0)
              (try rw [show 0 * 2 = 0 from rfl] at hx144_0)
              (try rw [Addr.add_zero'] at hx144_0)
              (try rw [show ((0 : Int)).toNat = 0 from rfl] at hx144_1)
              (try rw [show 0 * 2 = 0 from rfl] at hx144_1)
              (try rw [Addr.add_zero'] at hx144_1)
              replace p144 := eq_true p144
              replace q144 := eq_true q144
              have p145 : 0 ≤ (0 : Int) := (by omega)
              have q145 : 0 < (x1_2.length : Int) := of_decide_eq_true (by first | (with_reducible assumption) | assumption)
              obtain ⟨ad145, e145, hx145_0, hx145_1⟩ := at_T69 (Kd.V_reads' HO_1.out).2.2 0 p145 q145
              cases e145
              have qi145 : (0 < x1_2.length) = True := eq_true (by omega)
              (try rw [show ((0 : Int)).toNat = 0 from rfl] at hx145_0)
              (try rw [show 0 * 2 = 0 from rfl] at hx145_0)
              (try rw [Addr.add_zero'] at hx145_0)
              (try rw [show ((0 : Int)).toNat = 0 from rfl] at hx145_1)
              (try rw [show 0 * 2 = 0 from rfl] at hx145_1)
              (try rw [Addr.add_zero'] at hx145_1)
              replace p145 := eq_true p145
              replace q145 := eq_true q145
              refine start_ (n := 17) (S := fun w' => w'.cell? ad144 = some (.int .i64 ((rd_T69 x0_2 0).f0)) ∧ w'.cell? ⟨ad144.block, ad144.off + 1, none⟩ = some (.int .i64 ((rd_T69 x0_2 0).f1)) ∧ w'.cell? ad145 = some (.int .i64 ((rd_T69 x1_2 0).f0)) ∧ w'.cell? ⟨ad145.block, ad145.off + 1, none⟩ = some (.int .i64 ((rd_T69 x1_2 0).f1))) (ds := []) #[false, false, false, false, false, false, false, false, false, false, false, false, false, false, false, false, false] (by kernel_rfl) rfl rfl ⟨hx144_0, hx144_1, hx145_0, hx145_1⟩ (fun hHeld => ?_); refine with_tabW word_Strip.tab3 word_Strip.bits3 (fun HT_ HW_ => ?_)
              generalize wr.drew = w20 at HO_0 HO_1 HB hx144_0 hx144_1 hx145_0 hx145_1 hHeld ⊢
              refine pure_ (i := 0) (N := some 15) (v := ?_) (a' := ?_) #[true, false, false, false, false, false, false, false, false, false, false, false, false, false, false, false, false] rfl rfl (any_of HT_.out (by kernel_rfl)) (fun _ _ _ h => h) (Or.inl ⟨by rfl, ?_⟩) ?_ ?_
              rotate_left
              ·intro w'
               go_simp
               with_reducible rfl
              rotate_left
              ·simp only [Act.put, List.setIfInBounds_toArray, List.set_cons_zero, List.set_cons_succ, i64_w, i32_w]
               rfl
              refine pure_ (i := 1) (N := some 16) (v := ?_) (a' := ?_) #[true, true, false, false, false, false, false, false, false, false, false, false, false, false, false, false, false] rfl rfl (any_of HT_.out (by kernel_rfl)) (fun _ _ _ h => h) (Or.inl ⟨by rfl, ?_⟩) ?_ ?_
              rotate_left
              ·intro w'
               go_simp
               with_reducible rfl
              rotate_left
              ·simp only [Act.put, List.setIfInBounds_toArray, List.set_cons_zero, List.set_cons_succ, i64_w, i32_w]
               rfl
              refine pure_ (i := 2) (N := some 17) (v := ?_) (a' := ?_) #[true, true, true, false, false, false, false, false, false, false, false, false, false, false, false, false, false] rfl rfl (any_of HT_.out (by kernel_rfl)) (fun _ _ _ h => h) (Or.inl ⟨by rfl, ?_⟩) ?_ ?_
              rotate_left
              ·intro w'
               go_simp
               with_reducible rfl
              rotate_left
              ·simp only [Act.put, List.setIfInBounds_toArray, List.set_cons_zero, List.set_cons_succ, i64_w, i32_w]
               rfl
              refine pure_ (i := 3) (N := some 18) (v := ?_) (a' := ?_) #[true, true, true, true, false, false, false, false, false, false, false, false, false, false, false, false, false] rfl rfl (any_of HT_.out (by kernel_rfl)) (fun _ _ _ h => h) (Or.inl ⟨by rfl, ?_⟩) ?_ ?_
              rotate_left
              ·intro w'
               go_simp
               with_reducible rfl
              rotate_left
              ·simp only [Act.put, List.setIfInBounds_toArray, List.set_cons_zero, List.set_cons_succ, i64_w, i32_w]
               rfl
              refine pure_ (i := 4) (N := some 19) (v := ?_) (a' := ?_) #[true, true, true, true, true, false, false, false, false, false, false, false, false, false, false, false, false] rfl rfl (any_of HT_.out (by kernel_rfl)) (fun _ _ _ h => h) (Or.inl ⟨by rfl, ?_⟩) ?_ ?_
              rotate_left
              ·intro w'
               go_simp
               with_reducible rfl
              rotate_left
              ·simp only [Act.put, List.setIfInBounds_toArray, List.set_cons_zero, List.set_cons_succ, i64_w, i32_w]
               rfl
              refine pure_ (i := 5) (N := some 20) (v := ?_) (a' := ?_) #[true, true, true, true, true, true, false, false, false, false, false, false, false, false, false, false, false] rfl rfl (any_of HT_.out (by kernel_rfl)) (fun _ _ _ h => h) (Or.inl ⟨by rfl, ?_⟩) ?_ ?_
              rotate_left
              ·intro w'
               go_simp
               with_reducible rfl
              rotate_left
              ·simp only [Act.put, List.setIfInBounds_toArray, List.set_cons_zero, List.set_cons_succ, i64_w, i32_w]
               rfl
              refine pure_ (i := 6) (N := some 21) (v := ?_) (a' := ?_) #[true, true, true, true, true, true, true, false, false, false, false, false, false, false, false, false, false] rfl rfl (any_of HT_.out (by kernel_rfl)) (fun _ _ _ h => h) (Or.inl ⟨by rfl, ?_⟩) ?_ ?_
              rotate_left
              ·intro w'
               go_simp
               with_reducible rfl
              rotate_left
              ·simp only [Act.put, List.setIfInBounds_toArray, List.set_cons_zero, List.set_cons_succ, i64_w, i32_w]
               rfl
              refine pure_ (i := 7) (N := some 22) (v := ?_) (a' := ?_) #[true, true, true, true, true, true, true, true, false, false, false, false, false, false, false, false, false] rfl rfl (any_of HT_.out (by kernel_rfl)) (fun _ _ _ h => h) (Or.inl ⟨by rfl, ?_⟩) ?_ ?_
              rotate_left
              ·intro w'
               go_simp
               with_reducible rfl
              rotate_left
              ·simp only [Act.put, List.setIfInBounds_toArray, List.set_cons_zero, List.set_cons_succ, i64_w, i32_w]
               rfl
              refine pure_ (i := 8) (N := some 23) (v := ?_) (a' := ?_) #[true, true, true, true, true, true, true, true, true, false, false, false, false, false, false, false, false] rfl rfl (any_of HT_.out (by kernel_rfl)) (fun _ _ _ h => h) (Or.inl ⟨by rfl, ?_⟩) ?_ ?_
              rotate_left
              ·intro w'
               go_simp
               with_reducible rfl
              rotate_left
              ·simp only [Act.put, List.setIfInBounds_toArray, List.set_cons_zero, List.set_cons_succ, i64_w, i32_w]
               rfl
              refine pure_ (i := 9) (N := some 24) (v := ?_) (a' := ?_) #[true, true, true, true, true, true, true, true, true, true, false, false, false, false, false, false, false] rfl rfl (any_of HT_.out (by kernel_rfl)) (fun _ _ _ h => h) (Or.inl ⟨by rfl, ?_⟩) ?_ ?_
              rotate_left
              ·intro w'
               go_simp
               with_reducible rfl
              rotate_left
              ·simp only [Act.put, List.setIfInBounds_toArray, List.set_cons_zero, List.set_cons_succ, i64_w, i32_w]
               rfl
              refine pure_ (i := 10) (N := some 25) (v := ?_) (a' := ?_) #[true, true, true, true, true, true, true, true, true, true, true, false, false, false, false, false, false] rfl rfl (any_of HT_.out (by kernel_rfl)) (fun _ _ _ h => h) (Or.inl ⟨by rfl, ?_⟩) ?_ ?_
              rotate_left
              ·intro w'
               go_simp
               with_reducible rfl
              rotate_left
              ·simp only [Act.put, List.setIfInBounds_toArray, List.set_cons_zero, List.set_cons_succ, i64_w, i32_w]
               rfl
              refine pure_ (i := 12) (N := some 27) (v := ?_) (a' := ?_) #[true, true, true, true, true, true, true, true, true, true, true, false, true, false, false, false, false] rfl rfl (any_of HT_.out (by kernel_rfl)) (fun _ _ _ h => h) (Or.inl ⟨by rfl, ?_⟩) ?_ ?_
              rotate_left
              ·intro w'
               go_simp
               with_reducible rfl
              rotate_left
              ·simp only [Act.put, List.setIfInBounds_toArray, List.set_cons_zero, List.set_cons_succ, i64_w, i32_w]
               rfl
              refine pure_ (i := 13) (N := some 28) (v := ?_) (a' := ?_) #[true, true, true, true, true, true, true, true, true, true, true, false, true, true, false, false, false] rfl rfl (any_of HT_.out (by kernel_rfl)) (fun _ _ _ h => h) (Or.inl ⟨by rfl, ?_⟩) ?_ ?_
              rotate_left
              ·intro w'
               go_simp
               with_reducible rfl
              rotate_left
              ·simp only [Act.put, List.setIfInBounds_toArray, List.set_cons_zero, List.set_cons_succ, i64_w, i32_w]
               rfl
              refine take_ (i := 11) (N := some 26) (v := ?_) (a' := ?_) #[true, true, true, true, true, true, true, true, true, true, true, true, true, true, false, false, false] rfl rfl (take_ofW HT_.out HW_.out (by kernel_rfl)) (fun _ _ _ h => h) (Or.inl ⟨by rfl, ?_⟩) hHeld ?_ ?_
              rotate_left
              ·rintro w' ⟨s0, s1, s2, s3⟩
               go_simp
               with_reducible rfl
              rotate_left
              ·simp only [Act.put, List.setIfInBounds_toArray, List.set_cons_zero, List.set_cons_succ, i64_w, i32_w]
               rfl
              refine take_ (i := 14) (N := some 29) (v := ?_) (a' := ?_) #[true, true, true, true, true, true, true, true, true, true, true, true, true, true, true, false, false] rfl rfl (take_ofW HT_.out HW_.out (by kernel_rfl)) (fun _ _ _ h => h) (Or.inl ⟨by rfl, ?_⟩) hHeld ?_ ?_
              rotate_left
              ·rintro w' ⟨s0, s1, s2, s3⟩
               go_simp
               with_reducible rfl
              rotate_left
              ·simp only [Act.put, List.setIfInBounds_toArray, List.set_cons_zero, List.set_cons_succ, i64_w, i32_w]
               rfl
              refine one_ (i := 15) (N := some 30) #[true, true, true, true, true, true, true, true, true, true, true, true, true, true, true, true, false] rfl rfl (one_of HT_.out (by kernel_rfl)) (by decide) (fun K hK => ?_)
              refine goes_ Try.func51 (by kernel_rfl) rfl #[.agg #[.int .i64 ((rd_T69 x0_2 0).f0), .int .i64 ((rd_T69 x0_2 0).f1)], .agg #[.int .i64 ((rd_T69 x1_2 0).f0), .int .i64 ((rd_T69 x1_2 0).f1)]] (by rfl) rfl rfl (by (try simp only [List.map_toArray, List.map_cons, List.map_nil]); first | done | rfl | (simp only [List.length_drop, List.length_take]; rfl)) ?_
              with_reducible refine (word_same.calls ((rd_T69 x0_2 0).f0) ((rd_T69 x0_2 0).f1) ((rd_T69 x1_2 0).f0) ((rd_T69 x1_2 0).f1) true _ A16.out).mono ?_
              rintro e w23 ⟨rfl, hb⟩
              have HS0_ := (hb.cell (World.block_lt_of_cell? _ _ (hHeld.1))).trans (hHeld.1)
              have HS1_ := (hb.cell (World.block_lt_of_cell? _ _ (hHeld.2.1))).trans (hHeld.2.1)
              have HS2_ := (hb.cell (World.block_lt_of_cell? _ _ (hHeld.2.2.1))).trans (hHeld.2.2.1)
              have HS3_ := (hb.cell (World.block_lt_of_cell? _ _ (hHeld.2.2.2))).trans (hHeld.2.2.2)
              refine ⟨_, rfl, ?_⟩
              have n0_ := Aside0.mk (Kd.V_below (by (with_reducible repeat (first | apply Kd.V_alloc | apply Kd.V_drewN | apply Kd.V_drew)); exact HO_0.out) hb)
              have n1_ := Aside0.mk (Kd.V_below (by (with_reducible repeat (first | apply Kd.V_alloc | apply Kd.V_drewN | apply Kd.V_drew)); exact HO_1.out) hb)
              have n2_ := Aside0.mk (below_step (by repeat (first | (with_reducible first | exact HB.out | apply below_alloc | apply pw_below_drewN | apply below_drew1) | exact HB.out)) hb)
              clear HO_0
              clear HO_1
              clear HB
              have HO_0 := n0_
              have HO_1 := n1_
              have HB := n2_
              clear n0_ n1_ n2_
              (try clear hb)
              (try clear hb2)
              (try clear hk)
              (try clear hi)
              refine hK.out _ _ ⟨HS0_, HS1_, HS2_, HS3_⟩ (fun hHeld => ?_)
              clear hK K
              refine norm_ (a' := ?_) ?_ ?_
              rotate_left
              ·show Act.put _ (some 30) _ = _
               simp only [Act.put, List.setIfInBounds_toArray, List.set_cons_zero, List.set_cons_succ, i64_w, i32_w]
               rfl
              refine pure_ (i := 16) (N := some 31) (v := ?_) (a' := ?_) #[true, true, true, true, true, true, true, true, true, true, true, true, true, true, true, true, true] rfl rfl (any_of HT_.out (by kernel_rfl)) (fun _ _ _ h => h) (Or.inl ⟨by rfl, ?_⟩) ?_ ?_
              rotate_left
              ·intro w'
               go_simp
               with_reducible rfl
              rotate_left
              ·simp only [Act.put, List.setIfInBounds_toArray, List.set_cons_zero, List.set_cons_succ, i64_w, i32_w]
               rfl
              refine done_ (done_of HT_.out (by kernel_rfl)) ?_
              try go_wp2
              have n0_ := Aside0.mk (Kd.V_drew HO_0.out)
              have n1_ := Aside0.mk (Kd.V_drew HO_1.out)
              have n2_ := Aside0.mk (below_drew1 HB.out)
              clear HO_0
              clear HO_1
              clear HB
              have HO_0 := n0_
              have HO_1 := n1_
              have HB := n2_
              clear n0_ n1_ n2_
              have q25 : (1 : Int) ≤ ((x0_2.length : Int) : Int) := of_decide_eq_true (by first | (with_reducible assumption) | assumption)
              obtain ⟨i025, hi025, _, hsz25, _⟩ := info_parts info69
              have hroom25 : x0_2.length ≤ co21 := (Kd.V_reads' HO_0.out).2.1
              have hC25 : Kd.F k69 _ _ (some ad144) x0_2.length x0_2 := (Kd.V_at (base := w.heap.size) HO_0.out).2.2
              have hcut25 := cut_from (P := Try.prog) 23 69 .i64 Try.underlying23 hi025 2 hsz25 (some ad144) x0_2.length co21 1 (by omega) q25
              have hr25 := Kd.F_cut (m := (1 : Int).toNat) (c := co21) hC25 (by omega) hroom25
              obtain ⟨A25, hA25⟩ : ∃ A1, A1 = (if co21 = (1 : Int).toNat then (some ad144) else ((some ad144) : Option Addr).map (·.add ((1 : Int).toNat * 2))) := ⟨_, rfl⟩
              obtain ⟨c25, hc25⟩ : ∃ c1, c1 = co21 - (1 : Int).toNat := ⟨_, rfl⟩
              have hy25 : y147.length = x0_2.length - (1 : Int).toNat := (by rw [Ny147.out, List.length_drop] <;> omega)
              rw [show (x0_2).drop (1 : Int).toNat = y147 from Ny147.out.symm] at hr25
              replace hr25 : Kd.F k69 _ _ A25 y147.length y147 := (by rw [hA25]; exact hr25)
              rw [← hy25, ← hA25, ← hc25] at hcut25
              have HO151 := Aside0.mk (show Kd.V k69 69 _ w.heap.size _ (.slice A25 y147.length c25) y147 from Kd.V_mk (by rw [hy25, hc25]; exact Nat.sub_le_sub_right hroom25 _) hr25)
              have HC151 := Aside0.mk (show y147.length ≤ c25 from by rw [hy25, hc25]; exact Nat.sub_le_sub_right hroom25 _)
              clear hr25 hC25 hroom25 hi025 hsz25 hc25
              have KY25 := Aside0.mk hy25
              have KA25 := Aside0.mk hA25
              clear hy25 hA25
              replace q25 := eq_true q25
              have q26 : (1 : Int) ≤ ((x1_2.length : Int) : Int) := of_decide_eq_true (by first | (with_reducible assumption) | assumption)
              obtain ⟨i026, hi026, _, hsz26, _⟩ := info_parts info69
              have hroom26 : x1_2.length ≤ co22 := (Kd.V_reads' HO_1.out).2.1
              have hC26 : Kd.F k69 _ _ (some ad145) x1_2.length x1_2 := (Kd.V_at (base := w.heap.size) HO_1.out).2.2
              have hcut26 := cut_from (P := Try.prog) 23 69 .i64 Try.underlying23 hi026 2 hsz26 (some ad145) x1_2.length co22 1 (by omega) q26
              have hr26 := Kd.F_cut (m := (1 : Int).toNat) (c := co22) hC26 (by omega) hroom26
              obtain ⟨A26, hA26⟩ : ∃ A1, A1 = (if co22 = (1 : Int).toNat then (some ad145) else ((some ad145) : Option Addr).map (·.add ((1 : Int).toNat * 2))) := ⟨_, rfl⟩
              obtain ⟨c26, hc26⟩ : ∃ c1, c1 = co22 - (1 : Int).toNat := ⟨_, rfl⟩
              have hy26 : y152.length = x1_2.length - (1 : Int).toNat := (by rw [Ny152.out, List.length_drop] <;> omega)
              rw [show (x1_2).drop (1 : Int).toNat = y152 from Ny152.out.symm] at hr26
              replace hr26 : Kd.F k69 _ _ A26 y152.length y152 := (by rw [hA26]; exact hr26)
              rw [← hy26, ← hA26, ← hc26] at hcut26
              have HO156 := Aside0.mk (show Kd.V k69 69 _ w.heap.size _ (.slice A26 y152.length c26) y152 from Kd.V_mk (by rw [hy26, hc26]; exact Nat.sub_le_sub_right hroom26 _) hr26)
              have HC156 := Aside0.mk (show y152.length ≤ c26 from by rw [hy26, hc26]; exact Nat.sub_le_sub_right hroom26 _)
              clear hr26 hC26 hroom26 hi026 hsz26 hc26
              have KY26 := Aside0.mk hy26
              have KA26 := Aside0.mk hA26
              clear hy26 hA26
              replace q26 := eq_true q26
              refine start_ (n := 6) (S := fun w' => True) (ds := []) #[false, false, false, false, false, false] (by kernel_rfl) rfl rfl trivial (fun hHeld => ?_)
              generalize w23.drew = w24 at HO_0 HO_1 HB HO151 HO156 hHeld ⊢
              refine pure_ (i := 0) (N := some 32) (v := ?_) (a' := ?_) #[true, false, false, false, false, false] rfl rfl (by kernel_rfl) (fun _ _ _ h => h) (Or.inl ⟨by rfl, ?_⟩) ?_ ?_
              rotate_left
              ·intro w'
               go_simp
               with_reducible rfl
              rotate_left
              ·simp only [Act.put, List.setIfInBounds_toArray, List.set_cons_zero, List.set_cons_succ, i64_w, i32_w]
               rfl
              refine pure_ (i := 1) (N := some 33) (v := ?_) (a' := ?_) #[true, true, false, false, false, false] rfl rfl (by kernel_rfl) (fun _ _ _ h => h) (Or.inl ⟨by rfl, ?_⟩) ?_ ?_
              rotate_left
              ·intro w'
               go_simp
               with_reducible rfl
              rotate_left
              ·simp only [Act.put, List.setIfInBounds_toArray, List.set_cons_zero, List.set_cons_succ, i64_w, i32_w]
               rfl
              refine pure_ (i := 2) (N := some 34) (v := ?_) (a' := ?_) #[true, true, true, false, false, false] rfl rfl (by kernel_rfl) (fun _ _ _ h => h) (Or.inl ⟨by rfl, ?_⟩) ?_ ?_
              rotate_left
              ·intro w'
               go_simp
               with_reducible rfl
              rotate_left
              ·simp only [Act.put, List.setIfInBounds_toArray, List.set_cons_zero, List.set_cons_succ, i64_w, i32_w]
               rfl
              refine pure_ (i := 3) (N := some 35) (v := ?_) (a' := ?_) #[true, true, true, true, false, false] rfl rfl (by kernel_rfl) (fun _ _ _ h => h) (Or.inl ⟨by rfl, ?_⟩) ?_ ?_
              rotate_left
              ·intro w'
               go_simp
               with_reducible rfl
              rotate_left
              ·simp only [Act.put, List.setIfInBounds_toArray, List.set_cons_zero, List.set_cons_succ, i64_w, i32_w]
               rfl
              refine pure_ (i := 4) (N := some 0) (v := ?_) (a' := ?_) #[true, true, true, true, true, false] rfl rfl (by kernel_rfl) (fun _ _ _ h => h) (Or.inl ⟨by rfl, ?_⟩) ?_ ?_
              rotate_left
              ·intro w'
               go_simp
               with_reducible rfl
              rotate_left
              ·simp only [Act.put, List.setIfInBounds_toArray, List.set_cons_zero, List.set_cons_succ, i64_w, i32_w]
               rfl
              refine pure_ (i := 5) (N := some 1) (v := ?_) (a' := ?_) #[true, true, true, true, true, true] rfl rfl (by kernel_rfl) (fun _ _ _ h => h) (Or.inl ⟨by rfl, ?_⟩) ?_ ?_
              rotate_left
              ·intro w'
               go_simp
               with_reducible rfl
              rotate_left
              ·simp only [Act.put, List.setIfInBounds_toArray, List.set_cons_zero, List.set_cons_succ, i64_w, i32_w]
               rfl
              refine done_ (by kernel_rfl) ?_
              try go_wp2
              go_roundg k2
              case measure => have := HJ2.out; have := HK2.out; omega
              case rel => exact ⟨(y147), (y152), H', ⟨by have := HJ2.out; have := HK2.out; omega⟩, ⟨by (with_reducible repeat (first | apply Kd.V_alloc | apply Kd.V_drewN | apply Kd.V_drew)); exact HO151.out⟩, ⟨by (with_reducible repeat (first | apply Kd.V_alloc | apply Kd.V_drewN | apply Kd.V_drew)); exact HO156.out⟩, ⟨by repeat (first | (with_reducible first | exact HB.out | apply below_alloc | apply pw_below_drewN | apply below_drew1) | exact HB.out)⟩⟩
             ·rw [if_neg c19] at H
              exact absurd H (by simp)
            ·rw [if_neg c18] at H
             exact absurd H (by simp)
           ·replace c17 := Bool.eq_false_iff.mpr c17
            subst c17
            have H1 : (word_Strip.j2 k2 x0_2 x1_2) = some (r1, r2, r3) := by rw [if_neg (show ¬ (false = true) by decide)] at H; exact H
            clear H
            have H := H1
            clear H1
            have H' := Aside0.mk H
            clear H
            try go_wp2
            have n0_ := Aside0.mk (Kd.V_drew HO_0.out)
            have n1_ := Aside0.mk (Kd.V_drew HO_1.out)
            have n2_ := Aside0.mk (below_drew1 HB.out)
            clear HO_0
            clear HO_1
            clear HB
            have HO_0 := n0_
            have HO_1 := n1_
            have HB := n2_
            clear n0_ n1_ n2_
            obtain ⟨Ao28, co28, eo28⟩ := Kd.V_slice HO_0.out
            (first | subst eo28 | (injection eo28 with f1_ f2_ f3_; have f4_ := f1_.symm; have f5_ := f3_.symm; clear f1_ f2_ f3_; subst f4_; subst f5_))
            obtain ⟨Ao29, co29, eo29⟩ := Kd.V_slice HO_1.out
            (first | subst eo29 | (injection eo29 with f1_ f2_ f3_; have f4_ := f1_.symm; have f5_ := f3_.symm; clear f1_ f2_ f3_; subst f4_; subst f5_))
            have p144 : 0 ≤ (0 : Int) := (by omega)
            have q144 : 0 < (x0_2.length : Int) := of_decide_eq_true (by first | (with_reducible assumption) | assumption)
            obtain ⟨ad144, e144, hx144_0, hx144_1⟩ := at_T69 (Kd.V_reads' HO_0.out).2.2 0 p144 q144
            cases e144
            have qi144 : (0 < x0_2.length) = True := eq_true (by omega)
            (try rw [show ((0 : Int)).toNat = 0 from rfl] at hx144_0)
            (try rw [show 0 * 2 = 0 from rfl] at hx144_0)
            (try rw [Addr.add_zero'] at hx144_0)
            (try rw [show ((0 : Int)).toNat = 0 from rfl] at hx144_1)
            (try rw [show 0 * 2 = 0 from rfl] at hx144_1)
            (try rw [Addr.add_zero'] at hx144_1)
            replace p144 := eq_true p144
            replace q144 := eq_true q144
            have p145 : 0 ≤ (0 : Int) := (by omega)
            have q145 : 0 < (x1_2.length : Int) := of_decide_eq_true (by first | (with_reducible assumption) | assumption)
            obtain ⟨ad145, e145, hx145_0, hx145_1⟩ := at_T69 (Kd.V_reads' HO_1.out).2.2 0 p145 q145
            cases e145
            have qi145 : (0 < x1_2.length) = True := eq_true (by omega)
            (try rw [show ((0 : Int)).toNat = 0 from rfl] at hx145_0)
            (try rw [show 0 * 2 = 0 from rfl] at hx145_0)
            (try rw [Addr.add_zero'] at hx145_0)
            (try rw [show ((0 : Int)).toNat = 0 from rfl] at hx145_1)
            (try rw [show 0 * 2 = 0 from rfl] at hx145_1)
            (try rw [Addr.add_zero'] at hx145_1)
            replace p145 := eq_true p145
            replace q145 := eq_true q145
            refine start_ (n := 17) (S := fun w' => w'.cell? ad144 = some (.int .i64 ((rd_T69 x0_2 0).f0)) ∧ w'.cell? ⟨ad144.block, ad144.off + 1, none⟩ = some (.int .i64 ((rd_T69 x0_2 0).f1)) ∧ w'.cell? ad145 = some (.int .i64 ((rd_T69 x1_2 0).f0)) ∧ w'.cell? ⟨ad145.block, ad145.off + 1, none⟩ = some (.int .i64 ((rd_T69 x1_2 0).f1))) (ds := []) #[false, false, false, false, false, false, false, false, false, false, false, false, false, false, false, false, false] (by kernel_rfl) rfl rfl ⟨hx144_0, hx144_1, hx145_0, hx145_1⟩ (fun hHeld => ?_); refine with_tabW word_Strip.tab3 word_Strip.bits3 (fun HT_ HW_ => ?_)
            generalize wr.drew = w27 at HO_0 HO_1 HB hx144_0 hx144_1 hx145_0 hx145_1 hHeld ⊢
            refine pure_ (i := 0) (N := some 15) (v := ?_) (a' := ?_) #[true, false, false, false, false, false, false, false, false, false, false, false, false, false, false, false, false] rfl rfl (any_of HT_.out (by kernel_rfl)) (fun _ _ _ h => h) (Or.inl ⟨by rfl, ?_⟩) ?_ ?_
            rotate_left
            ·intro w'
             go_simp
             with_reducible rfl
            rotate_left
            ·simp only [Act.put, List.setIfInBounds_toArray, List.set_cons_zero, List.set_cons_succ, i64_w, i32_w]
             rfl
            refine pure_ (i := 1) (N := some 16) (v := ?_) (a' := ?_) #[true, true, false, false, false, false, false, false, false, false, false, false, false, false, false, false, false] rfl rfl (any_of HT_.out (by kernel_rfl)) (fun _ _ _ h => h) (Or.inl ⟨by rfl, ?_⟩) ?_ ?_
            rotate_left
            ·intro w'
             go_simp
             with_reducible rfl
            rotate_left
            ·simp only [Act.put, List.setIfInBounds_toArray, List.set_cons_zero, List.set_cons_succ, i64_w, i32_w]
             rfl
            refine pure_ (i := 2) (N := some 17) (v := ?_) (a' := ?_) #[true, true, true, false, false, false, false, false, false, false, false, false, false, false, false, false, false] rfl rfl (any_of HT_.out (by kernel_rfl)) (fun _ _ _ h => h) (Or.inl ⟨by rfl, ?_⟩) ?_ ?_
            rotate_left
            ·intro w'
             go_simp
             with_reducible rfl
            rotate_left
            ·simp only [Act.put, List.setIfInBounds_toArray, List.set_cons_zero, List.set_cons_succ, i64_w, i32_w]
             rfl
            refine pure_ (i := 3) (N := some 18) (v := ?_) (a' := ?_) #[true, true, true, true, false, false, false, false, false, false, false, false, false, false, false, false, false] rfl rfl (any_of HT_.out (by kernel_rfl)) (fun _ _ _ h => h) (Or.inl ⟨by rfl, ?_⟩) ?_ ?_
            rotate_left
            ·intro w'
             go_simp
             with_reducible rfl
            rotate_left
            ·simp only [Act.put, List.setIfInBounds_toArray, List.set_cons_zero, List.set_cons_succ, i64_w, i32_w]
             rfl
            refine pure_ (i := 4) (N := some 19) (v := ?_) (a' := ?_) #[true, true, true, true, true, false, false, false, false, false, false, false, false, false, false, false, false] rfl rfl (any_of HT_.out (by kernel_rfl)) (fun _ _ _ h => h) (Or.inl ⟨by rfl, ?_⟩) ?_ ?_
            rotate_left
            ·intro w'
             go_simp
             with_reducible rfl
            rotate_left
            ·simp only [Act.put, List.setIfInBounds_toArray, List.set_cons_zero, List.set_cons_succ, i64_w, i32_w]
             rfl
            refine pure_ (i := 5) (N := some 20) (v := ?_) (a' := ?_) #[true, true, true, true, true, true, false, false, false, false, false, false, false, false, false, false, false] rfl rfl (any_of HT_.out (by kernel_rfl)) (fun _ _ _ h => h) (Or.inl ⟨by rfl, ?_⟩) ?_ ?_
            rotate_left
            ·intro w'
             go_simp
             with_reducible rfl
            rotate_left
            ·simp only [Act.put, List.setIfInBounds_toArray, List.set_cons_zero, List.set_cons_succ, i64_w, i32_w]
             rfl
            refine pure_ (i := 6) (N := some 21) (v := ?_) (a' := ?_) #[true, true, true, true, true, true, true, false, false, false, false, false, false, false, false, false, false] rfl rfl (any_of HT_.out (by kernel_rfl)) (fun _ _ _ h => h) (Or.inl ⟨by rfl, ?_⟩) ?_ ?_
            rotate_left
            ·intro w'
             go_simp
             with_reducible rfl
            rotate_left
            ·simp only [Act.put, List.setIfInBounds_toArray, List.set_cons_zero, List.set_cons_succ, i64_w, i32_w]
             rfl
            refine pure_ (i := 7) (N := some 22) (v := ?_) (a' := ?_) #[true, true, true, true, true, true, true, true, false, false, false, false, false, false, false, false, false] rfl rfl (any_of HT_.out (by kernel_rfl)) (fun _ _ _ h => h) (Or.inl ⟨by rfl, ?_⟩) ?_ ?_
            rotate_left
            ·intro w'
             go_simp
             with_reducible rfl
            rotate_left
            ·simp only [Act.put, List.setIfInBounds_toArray, List.set_cons_zero, List.set_cons_succ, i64_w, i32_w]
             rfl
            refine pure_ (i := 8) (N := some 23) (v := ?_) (a' := ?_) #[true, true, true, true, true, true, true, true, true, false, false, false, false, false, false, false, false] rfl rfl (any_of HT_.out (by kernel_rfl)) (fun _ _ _ h => h) (Or.inl ⟨by rfl, ?_⟩) ?_ ?_
            rotate_left
            ·intro w'
             go_simp
             with_reducible rfl
            rotate_left
            ·simp only [Act.put, List.setIfInBounds_toArray, List.set_cons_zero, List.set_cons_succ, i64_w, i32_w]
             rfl
            refine pure_ (i := 9) (N := some 24) (v := ?_) (a' := ?_) #[true, true, true, true, true, true, true, true, true, true, false, false, false, false, false, false, false] rfl rfl (any_of HT_.out (by kernel_rfl)) (fun _ _ _ h => h) (Or.inl ⟨by rfl, ?_⟩) ?_ ?_
            rotate_left
            ·intro w'
             go_simp
             with_reducible rfl
            rotate_left
            ·simp only [Act.put, List.setIfInBounds_toArray, List.set_cons_zero, List.set_cons_succ, i64_w, i32_w]
             rfl
            refine pure_ (i := 10) (N := some 25) (v := ?_) (a' := ?_) #[true, true, true, true, true, true, true, true, true, true, true, false, false, false, false, false, false] rfl rfl (any_of HT_.out (by kernel_rfl)) (fun _ _ _ h => h) (Or.inl ⟨by rfl, ?_⟩) ?_ ?_
            rotate_left
            ·intro w'
             go_simp
             with_reducible rfl
            rotate_left
            ·simp only [Act.put, List.setIfInBounds_toArray, List.set_cons_zero, List.set_cons_succ, i64_w, i32_w]
             rfl
            refine pure_ (i := 12) (N := some 27) (v := ?_) (a' := ?_) #[true, true, true, true, true, true, true, true, true, true, true, false, true, false, false, false, false] rfl rfl (any_of HT_.out (by kernel_rfl)) (fun _ _ _ h => h) (Or.inl ⟨by rfl, ?_⟩) ?_ ?_
            rotate_left
            ·intro w'
             go_simp
             with_reducible rfl
            rotate_left
            ·simp only [Act.put, List.setIfInBounds_toArray, List.set_cons_zero, List.set_cons_succ, i64_w, i32_w]
             rfl
            refine pure_ (i := 13) (N := some 28) (v := ?_) (a' := ?_) #[true, true, true, true, true, true, true, true, true, true, true, false, true, true, false, false, false] rfl rfl (any_of HT_.out (by kernel_rfl)) (fun _ _ _ h => h) (Or.inl ⟨by rfl, ?_⟩) ?_ ?_
            rotate_left
            ·intro w'
             go_simp
             with_reducible rfl
            rotate_left
            ·simp only [Act.put, List.setIfInBounds_toArray, List.set_cons_zero, List.set_cons_succ, i64_w, i32_w]
             rfl
            refine take_ (i := 11) (N := some 26) (v := ?_) (a' := ?_) #[true, true, true, true, true, true, true, true, true, true, true, true, true, true, false, false, false] rfl rfl (take_ofW HT_.out HW_.out (by kernel_rfl)) (fun _ _ _ h => h) (Or.inl ⟨by rfl, ?_⟩) hHeld ?_ ?_
            rotate_left
            ·rintro w' ⟨s0, s1, s2, s3⟩
             go_simp
             with_reducible rfl
            rotate_left
            ·simp only [Act.put, List.setIfInBounds_toArray, List.set_cons_zero, List.set_cons_succ, i64_w, i32_w]
             rfl
            refine take_ (i := 14) (N := some 29) (v := ?_) (a' := ?_) #[true, true, true, true, true, true, true, true, true, true, true, true, true, true, true, false, false] rfl rfl (take_ofW HT_.out HW_.out (by kernel_rfl)) (fun _ _ _ h => h) (Or.inl ⟨by rfl, ?_⟩) hHeld ?_ ?_
            rotate_left
            ·rintro w' ⟨s0, s1, s2, s3⟩
             go_simp
             with_reducible rfl
            rotate_left
            ·simp only [Act.put, List.setIfInBounds_toArray, List.set_cons_zero, List.set_cons_succ, i64_w, i32_w]
             rfl
            refine one_ (i := 15) (N := some 30) #[true, true, true, true, true, true, true, true, true, true, true, true, true, true, true, true, false] rfl rfl (one_of HT_.out (by kernel_rfl)) (by decide) (fun K hK => ?_)
            refine goes_ Try.func51 (by kernel_rfl) rfl #[.agg #[.int .i64 ((rd_T69 x0_2 0).f0), .int .i64 ((rd_T69 x0_2 0).f1)], .agg #[.int .i64 ((rd_T69 x1_2 0).f0), .int .i64 ((rd_T69 x1_2 0).f1)]] (by rfl) rfl rfl (by (try simp only [List.map_toArray, List.map_cons, List.map_nil]); first | done | rfl | (simp only [List.length_drop, List.length_take]; rfl)) ?_
            with_reducible refine (word_same.calls ((rd_T69 x0_2 0).f0) ((rd_T69 x0_2 0).f1) ((rd_T69 x1_2 0).f0) ((rd_T69 x1_2 0).f1) false _ A16.out).mono ?_
            rintro e w30 ⟨rfl, hb⟩
            have HS0_ := (hb.cell (World.block_lt_of_cell? _ _ (hHeld.1))).trans (hHeld.1)
            have HS1_ := (hb.cell (World.block_lt_of_cell? _ _ (hHeld.2.1))).trans (hHeld.2.1)
            have HS2_ := (hb.cell (World.block_lt_of_cell? _ _ (hHeld.2.2.1))).trans (hHeld.2.2.1)
            have HS3_ := (hb.cell (World.block_lt_of_cell? _ _ (hHeld.2.2.2))).trans (hHeld.2.2.2)
            refine ⟨_, rfl, ?_⟩
            have n0_ := Aside0.mk (Kd.V_below (by (with_reducible repeat (first | apply Kd.V_alloc | apply Kd.V_drewN | apply Kd.V_drew)); exact HO_0.out) hb)
            have n1_ := Aside0.mk (Kd.V_below (by (with_reducible repeat (first | apply Kd.V_alloc | apply Kd.V_drewN | apply Kd.V_drew)); exact HO_1.out) hb)
            have n2_ := Aside0.mk (below_step (by repeat (first | (with_reducible first | exact HB.out | apply below_alloc | apply pw_below_drewN | apply below_drew1) | exact HB.out)) hb)
            clear HO_0
            clear HO_1
            clear HB
            have HO_0 := n0_
            have HO_1 := n1_
            have HB := n2_
            clear n0_ n1_ n2_
            (try clear hb)
            (try clear hb2)
            (try clear hk)
            (try clear hi)
            refine hK.out _ _ ⟨HS0_, HS1_, HS2_, HS3_⟩ (fun hHeld => ?_)
            clear hK K
            refine norm_ (a' := ?_) ?_ ?_
            rotate_left
            ·show Act.put _ (some 30) _ = _
             simp only [Act.put, List.setIfInBounds_toArray, List.set_cons_zero, List.set_cons_succ, i64_w, i32_w]
             rfl
            refine pure_ (i := 16) (N := some 31) (v := ?_) (a' := ?_) #[true, true, true, true, true, true, true, true, true, true, true, true, true, true, true, true, true] rfl rfl (any_of HT_.out (by kernel_rfl)) (fun _ _ _ h => h) (Or.inl ⟨by rfl, ?_⟩) ?_ ?_
            rotate_left
            ·intro w'
             go_simp
             with_reducible rfl
            rotate_left
            ·simp only [Act.put, List.setIfInBounds_toArray, List.set_cons_zero, List.set_cons_succ, i64_w, i32_w]
             rfl
            refine done_ (done_of HT_.out (by kernel_rfl)) ?_
            try go_wp2
            go_meet
            case rel => exact ⟨_, (x0_2), (x1_2), H', ⟨by have := HJ2.out; have := HK2.out; first | omega | exact Nat.le_refl _⟩, ⟨by (with_reducible repeat (first | apply Kd.V_alloc | apply Kd.V_drewN | apply Kd.V_drew)); exact HO_0.out⟩, ⟨by (with_reducible repeat (first | apply Kd.V_alloc | apply Kd.V_drewN | apply Kd.V_drew)); exact HO_1.out⟩, ⟨by repeat (first | (with_reducible first | exact HB.out | apply below_alloc | apply pw_below_drewN | apply below_drew1) | exact HB.out)⟩⟩
          ·rw [if_neg c15] at H
           exact absurd H (by simp)
         ·rw [if_neg c14] at H
          exact absurd H (by simp)
        ·rw [if_neg c13] at H
         have c13b0 : decide (0 < (x1_2.length : Int)) = false := decide_eq_false c13
         have c13b1 : decide (0 < x1_2.length) = false := decide_eq_false (by omega)
         clear c13
         have H' := Aside0.mk H
         clear H
         try go_wp2
         have n0_ := Aside0.mk (Kd.V_drew HO_0.out)
         have n1_ := Aside0.mk (Kd.V_drew HO_1.out)
         have n2_ := Aside0.mk (below_drew1 HB.out)
         clear HO_0
         clear HO_1
         clear HB
         have HO_0 := n0_
         have HO_1 := n1_
         have HB := n2_
         clear n0_ n1_ n2_
         obtain ⟨Ao32, co32, eo32⟩ := Kd.V_slice HO_0.out
         (first | subst eo32 | (injection eo32 with f1_ f2_ f3_; have f4_ := f1_.symm; have f5_ := f3_.symm; clear f1_ f2_ f3_; subst f4_; subst f5_))
         obtain ⟨Ao33, co33, eo33⟩ := Kd.V_slice HO_1.out
         (first | subst eo33 | (injection eo33 with f1_ f2_ f3_; have f4_ := f1_.symm; have f5_ := f3_.symm; clear f1_ f2_ f3_; subst f4_; subst f5_))
         refine start_ (n := 17) (S := fun w' => True) (ds := []) #[false, false, false, false, false, false, false, false, false, false, false, false, false, false, false, false, false] (by kernel_rfl) rfl rfl trivial (fun hHeld => ?_); refine with_tabW word_Strip.tab3 word_Strip.bits3 (fun HT_ HW_ => ?_)
         generalize wr.drew = w31 at HO_0 HO_1 HB hHeld ⊢
         refine pure_ (i := 0) (N := some 15) (v := ?_) (a' := ?_) #[true, false, false, false, false, false, false, false, false, false, false, false, false, false, false, false, false] rfl rfl (any_of HT_.out (by kernel_rfl)) (fun _ _ _ h => h) (Or.inl ⟨by rfl, ?_⟩) ?_ ?_
         rotate_left
         ·intro w'
          go_simp
          with_reducible rfl
         rotate_left
         ·simp only [Act.put, List.setIfInBounds_toArray, List.set_cons_zero, List.set_cons_succ, i64_w, i32_w]
          rfl
         refine pure_ (i := 1) (N := some 16) (v := ?_) (a' := ?_) #[true, true, false, false, false, false, false, false, false, false, false, false, false, false, false, false, false] rfl rfl (any_of HT_.out (by kernel_rfl)) (fun _ _ _ h => h) (Or.inl ⟨by rfl, ?_⟩) ?_ ?_
         rotate_left
         ·intro w'
          go_simp
          with_reducible rfl
         rotate_left
         ·simp only [Act.put, List.setIfInBounds_toArray, List.set_cons_zero, List.set_cons_succ, i64_w, i32_w]
          rfl
         refine pure_ (i := 2) (N := some 17) (v := ?_) (a' := ?_) #[true, true, true, false, false, false, false, false, false, false, false, false, false, false, false, false, false] rfl rfl (any_of HT_.out (by kernel_rfl)) (fun _ _ _ h => h) (Or.inl ⟨by rfl, ?_⟩) ?_ ?_
         rotate_left
         ·intro w'
          go_simp
          with_reducible rfl
         rotate_left
         ·simp only [Act.put, List.setIfInBounds_toArray, List.set_cons_zero, List.set_cons_succ, i64_w, i32_w]
          rfl
         refine pure_ (i := 3) (N := some 18) (v := ?_) (a' := ?_) #[true, true, true, true, false, false, false, false, false, false, false, false, false, false, false, false, false] rfl rfl (any_of HT_.out (by kernel_rfl)) (fun _ _ _ h => h) (Or.inl ⟨by rfl, ?_⟩) ?_ ?_
         rotate_left
         ·intro w'
          go_simp
          with_reducible rfl
         rotate_left
         ·simp only [Act.put, List.setIfInBounds_toArray, List.set_cons_zero, List.set_cons_succ, i64_w, i32_w]
          rfl
         refine pure_ (i := 4) (N := some 19) (v := ?_) (a' := ?_) #[true, true, true, true, true, false, false, false, false, false, false, false, false, false, false, false, false] rfl rfl (any_of HT_.out (by kernel_rfl)) (fun _ _ _ h => h) (Or.inl ⟨by rfl, ?_⟩) ?_ ?_
         rotate_left
         ·intro w'
          go_simp
          with_reducible rfl
         rotate_left
         ·simp only [Act.put, List.setIfInBounds_toArray, List.set_cons_zero, List.set_cons_succ, i64_w, i32_w]
          rfl
         refine pure_ (i := 5) (N := some 20) (v := ?_) (a' := ?_) #[true, true, true, true, true, true, false, false, false, false, false, false, false, false, false, false, false] rfl rfl (any_of HT_.out (by kernel_rfl)) (fun _ _ _ h => h) (Or.inl ⟨by rfl, ?_⟩) ?_ ?_
         rotate_left
         ·intro w'
          go_simp
          with_reducible rfl
         rotate_left
         ·simp only [Act.put, List.setIfInBounds_toArray, List.set_cons_zero, List.set_cons_succ, i64_w, i32_w]
          rfl
         refine pure_ (i := 6) (N := some 21) (v := ?_) (a' := ?_) #[true, true, true, true, true, true, true, false, false, false, false, false, false, false, false, false, false] rfl rfl (any_of HT_.out (by kernel_rfl)) (fun _ _ _ h => h) (Or.inl ⟨by rfl, ?_⟩) ?_ ?_
         rotate_left
         ·intro w'
          go_simp
          with_reducible rfl
         rotate_left
         ·simp only [Act.put, List.setIfInBounds_toArray, List.set_cons_zero, List.set_cons_succ, i64_w, i32_w]
          rfl
         refine pure_ (i := 7) (N := some 22) (v := ?_) (a' := ?_) #[true, true, true, true, true, true, true, true, false, false, false, false, false, false, false, false, false] rfl rfl (any_of HT_.out (by kernel_rfl)) (fun _ _ _ h => h) (Or.inl ⟨by rfl, ?_⟩) ?_ ?_
         rotate_left
         ·intro w'
          go_simp
          with_reducible rfl
         rotate_left
         ·simp only [Act.put, List.setIfInBounds_toArray, List.set_cons_zero, List.set_cons_succ, i64_w, i32_w]
          rfl
         refine pure_ (i := 8) (N := some 23) (v := ?_) (a' := ?_) #[true, true, true, true, true, true, true, true, true, false, false, false, false, false, false, false, false] rfl rfl (any_of HT_.out (by kernel_rfl)) (fun _ _ _ h => h) (Or.inl ⟨by rfl, ?_⟩) ?_ ?_
         rotate_left
         ·intro w'
          go_simp
          with_reducible rfl
         rotate_left
         ·simp only [Act.put, List.setIfInBounds_toArray, List.set_cons_zero, List.set_cons_succ, i64_w, i32_w]
          rfl
         refine pure_ (i := 9) (N := some 24) (v := undef) (a' := ?_) #[true, true, true, true, true, true, true, true, true, true, false, false, false, false, false, false, false] rfl rfl (any_of HT_.out (by kernel_rfl)) (fun _ _ _ h => h) (Or.inr ⟨by rfl, rfl⟩) ?_ ?_
         rotate_left
         ·simp only [Act.put, List.setIfInBounds_toArray, List.set_cons_zero, List.set_cons_succ, i64_w, i32_w]
          rfl
         refine pure_ (i := 10) (N := some 25) (v := undef) (a' := ?_) #[true, true, true, true, true, true, true, true, true, true, true, false, false, false, false, false, false] rfl rfl (any_of HT_.out (by kernel_rfl)) (fun _ _ _ h => h) (Or.inr ⟨by rfl, rfl⟩) ?_ ?_
         rotate_left
         ·simp only [Act.put, List.setIfInBounds_toArray, List.set_cons_zero, List.set_cons_succ, i64_w, i32_w]
          rfl
         refine pure_ (i := 11) (N := some 26) (v := undef) (a' := ?_) #[true, true, true, true, true, true, true, true, true, true, true, true, false, false, false, false, false] rfl rfl (any_of HT_.out (by kernel_rfl)) (fun _ _ _ h => h) (Or.inr ⟨by rfl, rfl⟩) ?_ ?_
         rotate_left
         ·simp only [Act.put, List.setIfInBounds_toArray, List.set_cons_zero, List.set_cons_succ, i64_w, i32_w]
          rfl
         refine pure_ (i := 12) (N := some 27) (v := undef) (a' := ?_) #[true, true, true, true, true, true, true, true, true, true, true, true, true, false, false, false, false] rfl rfl (any_of HT_.out (by kernel_rfl)) (fun _ _ _ h => h) (Or.inr ⟨by rfl, rfl⟩) ?_ ?_
         rotate_left
         ·simp only [Act.put, List.setIfInBounds_toArray, List.set_cons_zero, List.set_cons_succ, i64_w, i32_w]
          rfl
         refine pure_ (i := 13) (N := some 28) (v := undef) (a' := ?_) #[true, true, true, true, true, true, true, true, true, true, true, true, true, true, false, false, false] rfl rfl (any_of HT_.out (by kernel_rfl)) (fun _ _ _ h => h) (Or.inr ⟨by rfl, rfl⟩) ?_ ?_
         rotate_left
         ·simp only [Act.put, List.setIfInBounds_toArray, List.set_cons_zero, List.set_cons_succ, i64_w, i32_w]
          rfl
         refine pure_ (i := 14) (N := some 29) (v := undef) (a' := ?_) #[true, true, true, true, true, true, true, true, true, true, true, true, true, true, true, false, false] rfl rfl (any_of HT_.out (by kernel_rfl)) (fun _ _ _ h => h) (Or.inr ⟨by rfl, rfl⟩) ?_ ?_
         rotate_left
         ·simp only [Act.put, List.setIfInBounds_toArray, List.set_cons_zero, List.set_cons_succ, i64_w, i32_w]
          rfl
         refine pure_ (i := 15) (N := some 30) (v := undef) (a' := ?_) #[true, true, true, true, true, true, true, true, true, true, true, true, true, true, true, true, false] rfl rfl (any_of HT_.out (by kernel_rfl)) (fun _ _ _ h => h) (Or.inr ⟨by rfl, rfl⟩) ?_ ?_
         rotate_left
         ·simp only [Act.put, List.setIfInBounds_toArray, List.set_cons_zero, List.set_cons_succ, i64_w, i32_w]
          rfl
         refine pure_ (i := 16) (N := some 31) (v := ?_) (a' := ?_) #[true, true, true, true, true, true, true, true, true, true, true, true, true, true, true, true, true] rfl rfl (any_of HT_.out (by kernel_rfl)) (fun _ _ _ h => h) (Or.inl ⟨by rfl, ?_⟩) ?_ ?_
         rotate_left
         ·intro w'
          go_simp
          with_reducible rfl
         rotate_left
         ·simp only [Act.put, List.setIfInBounds_toArray, List.set_cons_zero, List.set_cons_succ, i64_w, i32_w]
          rfl
         refine done_ (done_of HT_.out (by kernel_rfl)) ?_
         try go_wp2
         go_meet
         case rel => exact ⟨_, (x0_2), (x1_2), H', ⟨by have := HJ2.out; have := HK2.out; first | omega | exact Nat.le_refl _⟩, ⟨by (with_reducible repeat (first | apply Kd.V_alloc | apply Kd.V_drewN | apply Kd.V_drew)); exact HO_0.out⟩, ⟨by (with_reducible repeat (first | apply Kd.V_alloc | apply Kd.V_drewN | apply Kd.V_drew)); exact HO_1.out⟩, ⟨by repeat (first | (with_reducible first | exact HB.out | apply below_alloc | apply pw_below_drewN | apply below_drew1) | exact HB.out)⟩⟩
       ·rw [if_neg c12] at H
        have c12b0 : decide (0 < (x0_2.length : Int)) = false := decide_eq_false c12
        have c12b1 : decide (0 < x0_2.length) = false := decide_eq_false (by omega)
        clear c12
        (first | rw [c12b0] | rw [c12b1] | (simp only [i64_w, i32_w]; rw [c12b0]) | skip)
        have H' := Aside0.mk H
        clear H
        try go_wp2
        have n0_ := Aside0.mk (Kd.V_drew HO_0.out)
        have n1_ := Aside0.mk (Kd.V_drew HO_1.out)
        have n2_ := Aside0.mk (below_drew1 HB.out)
        clear HO_0
        clear HO_1
        clear HB
        have HO_0 := n0_
        have HO_1 := n1_
        have HB := n2_
        clear n0_ n1_ n2_
        obtain ⟨Ao35, co35, eo35⟩ := Kd.V_slice HO_0.out
        (first | subst eo35 | (injection eo35 with f1_ f2_ f3_; have f4_ := f1_.symm; have f5_ := f3_.symm; clear f1_ f2_ f3_; subst f4_; subst f5_))
        refine start_ (n := 17) (S := fun w' => True) (ds := []) #[false, false, false, false, false, false, false, false, false, false, false, false, false, false, false, false, false] (by kernel_rfl) rfl rfl trivial (fun hHeld => ?_); refine with_tabW word_Strip.tab3 word_Strip.bits3 (fun HT_ HW_ => ?_)
        generalize wr.drew = w34 at HO_0 HO_1 HB hHeld ⊢
        refine pure_ (i := 0) (N := some 15) (v := ?_) (a' := ?_) #[true, false, false, false, false, false, false, false, false, false, false, false, false, false, false, false, false] rfl rfl (any_of HT_.out (by kernel_rfl)) (fun _ _ _ h => h) (Or.inl ⟨by rfl, ?_⟩) ?_ ?_
        rotate_left
        ·intro w'
         go_simp
         with_reducible rfl
        rotate_left
        ·simp only [Act.put, List.setIfInBounds_toArray, List.set_cons_zero, List.set_cons_succ, i64_w, i32_w]
         rfl
        refine pure_ (i := 1) (N := some 16) (v := ?_) (a' := ?_) #[true, true, false, false, false, false, false, false, false, false, false, false, false, false, false, false, false] rfl rfl (any_of HT_.out (by kernel_rfl)) (fun _ _ _ h => h) (Or.inl ⟨by rfl, ?_⟩) ?_ ?_
        rotate_left
        ·intro w'
         go_simp
         with_reducible rfl
        rotate_left
        ·simp only [Act.put, List.setIfInBounds_toArray, List.set_cons_zero, List.set_cons_succ, i64_w, i32_w]
         rfl
        refine pure_ (i := 2) (N := some 17) (v := ?_) (a' := ?_) #[true, true, true, false, false, false, false, false, false, false, false, false, false, false, false, false, false] rfl rfl (any_of HT_.out (by kernel_rfl)) (fun _ _ _ h => h) (Or.inl ⟨by rfl, ?_⟩) ?_ ?_
        rotate_left
        ·intro w'
         go_simp
         with_reducible rfl
        rotate_left
        ·simp only [Act.put, List.setIfInBounds_toArray, List.set_cons_zero, List.set_cons_succ, i64_w, i32_w]
         rfl
        refine pure_ (i := 3) (N := some 18) (v := ?_) (a' := ?_) #[true, true, true, true, false, false, false, false, false, false, false, false, false, false, false, false, false] rfl rfl (any_of HT_.out (by kernel_rfl)) (fun _ _ _ h => h) (Or.inl ⟨by rfl, ?_⟩) ?_ ?_
        rotate_left
        ·intro w'
         go_simp
         with_reducible rfl
        rotate_left
        ·simp only [Act.put, List.setIfInBounds_toArray, List.set_cons_zero, List.set_cons_succ, i64_w, i32_w]
         rfl
        refine pure_ (i := 4) (N := some 19) (v := undef) (a' := ?_) #[true, true, true, true, true, false, false, false, false, false, false, false, false, false, false, false, false] rfl rfl (any_of HT_.out (by kernel_rfl)) (fun _ _ _ h => h) (Or.inr ⟨by rfl, rfl⟩) ?_ ?_
        rotate_left
        ·simp only [Act.put, List.setIfInBounds_toArray, List.set_cons_zero, List.set_cons_succ, i64_w, i32_w]
         rfl
        refine pure_ (i := 5) (N := some 20) (v := undef) (a' := ?_) #[true, true, true, true, true, true, false, false, false, false, false, false, false, false, false, false, false] rfl rfl (any_of HT_.out (by kernel_rfl)) (fun _ _ _ h => h) (Or.inr ⟨by rfl, rfl⟩) ?_ ?_
        rotate_left
        ·simp only [Act.put, List.setIfInBounds_toArray, List.set_cons_zero, List.set_cons_succ, i64_w, i32_w]
         rfl
        refine pure_ (i := 6) (N := some 21) (v := undef) (a' := ?_) #[true, true, true, true, true, true, true, false, false, false, false, false, false, false, false, false, false] rfl rfl (any_of HT_.out (by kernel_rfl)) (fun _ _ _ h => h) (Or.inr ⟨by rfl, rfl⟩) ?_ ?_
        rotate_left
        ·simp only [Act.put, List.setIfInBounds_toArray, List.set_cons_zero, List.set_cons_succ, i64_w, i32_w]
         rfl
        refine pure_ (i := 7) (N := some 22) (v := ?_) (a' := ?_) #[true, true, true, true, true, true, true, true, false, false, false, false, false, false, false, false, false] rfl rfl (any_of HT_.out (by kernel_rfl)) (fun _ _ _ h => h) (Or.inl ⟨by rfl, ?_⟩) ?_ ?_
        rotate_left
        ·intro w'
         go_simp
         with_reducible rfl
        rotate_left
        ·simp only [Act.put, List.setIfInBounds_toArray, List.set_cons_zero, List.set_cons_succ, i64_w, i32_w]
         rfl
        refine pure_ (i := 8) (N := some 23) (v := ?_) (a' := ?_) #[true, true, true, true, true, true, true, true, true, false, false, false, false, false, false, false, false] rfl rfl (any_of HT_.out (by kernel_rfl)) (fun _ _ _ h => h) (Or.inl ⟨by rfl, ?_⟩) ?_ ?_
        rotate_left
        ·intro w'
         go_simp
         with_reducible rfl
        rotate_left
        ·simp only [Act.put, List.setIfInBounds_toArray, List.set_cons_zero, List.set_cons_succ, i64_w, i32_w]
         rfl
        refine pure_ (i := 9) (N := some 24) (v := undef) (a' := ?_) #[true, true, true, true, true, true, true, true, true, true, false, false, false, false, false, false, false] rfl rfl (any_of HT_.out (by kernel_rfl)) (fun _ _ _ h => h) (Or.inr ⟨by rfl, rfl⟩) ?_ ?_
        rotate_left
        ·simp only [Act.put, List.setIfInBounds_toArray, List.set_cons_zero, List.set_cons_succ, i64_w, i32_w]
         rfl
        refine pure_ (i := 10) (N := some 25) (v := undef) (a' := ?_) #[true, true, true, true, true, true, true, true, true, true, true, false, false, false, false, false, false] rfl rfl (any_of HT_.out (by kernel_rfl)) (fun _ _ _ h => h) (Or.inr ⟨by rfl, rfl⟩) ?_ ?_
        rotate_left
        ·simp only [Act.put, List.setIfInBounds_toArray, List.set_cons_zero, List.set_cons_succ, i64_w, i32_w]
         rfl
        refine pure_ (i := 11) (N := some 26) (v := undef) (a' := ?_) #[true, true, true, true, true, true, true, true, true, true, true, true, false, false, false, false, false] rfl rfl (any_of HT_.out (by kernel_rfl)) (fun _ _ _ h => h) (Or.inr ⟨by rfl, rfl⟩) ?_ ?_
        rotate_left
        ·simp only [Act.put, List.setIfInBounds_toArray, List.set_cons_zero, List.set_cons_succ, i64_w, i32_w]
         rfl
        refine pure_ (i := 12) (N := some 27) (v := undef) (a' := ?_) #[true, true, true, true, true, true, true, true, true, true, true, true, true, false, false, false, false] rfl rfl (any_of HT_.out (by kernel_rfl)) (fun _ _ _ h => h) (Or.inr ⟨by rfl, rfl⟩) ?_ ?_
        rotate_left
        ·simp only [Act.put, List.setIfInBounds_toArray, List.set_cons_zero, List.set_cons_succ, i64_w, i32_w]
         rfl
        refine pure_ (i := 13) (N := some 28) (v := undef) (a' := ?_) #[true, true, true, true, true, true, true, true, true, true, true, true, true, true, false, false, false] rfl rfl (any_of HT_.out (by kernel_rfl)) (fun _ _ _ h => h) (Or.inr ⟨by rfl, rfl⟩) ?_ ?_
        rotate_left
        ·simp only [Act.put, List.setIfInBounds_toArray, List.set_cons_zero, List.set_cons_succ, i64_w, i32_w]
         rfl
        refine pure_ (i := 14) (N := some 29) (v := undef) (a' := ?_) #[true, true, true, true, true, true, true, true, true, true, true, true, true, true, true, false, false] rfl rfl (any_of HT_.out (by kernel_rfl)) (fun _ _ _ h => h) (Or.inr ⟨by rfl, rfl⟩) ?_ ?_
        rotate_left
        ·simp only [Act.put, List.setIfInBounds_toArray, List.set_cons_zero, List.set_cons_succ, i64_w, i32_w]
         rfl
        refine pure_ (i := 15) (N := some 30) (v := undef) (a' := ?_) #[true, true, true, true, true, true, true, true, true, true, true, true, true, true, true, true, false] rfl rfl (any_of HT_.out (by kernel_rfl)) (fun _ _ _ h => h) (Or.inr ⟨by rfl, rfl⟩) ?_ ?_
        rotate_left
        ·simp only [Act.put, List.setIfInBounds_toArray, List.set_cons_zero, List.set_cons_succ, i64_w, i32_w]
         rfl
        refine pure_ (i := 16) (N := some 31) (v := ?_) (a' := ?_) #[true, true, true, true, true, true, true, true, true, true, true, true, true, true, true, true, true] rfl rfl (any_of HT_.out (by kernel_rfl)) (fun _ _ _ h => h) (Or.inl ⟨by rfl, ?_⟩) ?_ ?_
        rotate_left
        ·intro w'
         go_simp
         with_reducible rfl
        rotate_left
        ·simp only [Act.put, List.setIfInBounds_toArray, List.set_cons_zero, List.set_cons_succ, i64_w, i32_w]
         rfl
        refine done_ (done_of HT_.out (by kernel_rfl)) ?_
        try go_wp2
        go_meet
        case rel => exact ⟨_, (x0_2), (x1_2), H', ⟨by have := HJ2.out; have := HK2.out; first | omega | exact Nat.le_refl _⟩, ⟨by (with_reducible repeat (first | apply Kd.V_alloc | apply Kd.V_drewN | apply Kd.V_drew)); exact HO_0.out⟩, ⟨by (with_reducible repeat (first | apply Kd.V_alloc | apply Kd.V_drewN | apply Kd.V_drew)); exact HO_1.out⟩, ⟨by repeat (first | (with_reducible first | exact HB.out | apply below_alloc | apply pw_below_drewN | apply below_drew1) | exact HB.out)⟩⟩
    case rest =>
     clear HC11
     try clear c1
     try clear p1
     try clear q1
     try clear hx1
     try clear qi1
     try clear c2
     try clear p2
     try clear q2
     try clear c5
     try clear c12
     try clear c12b0
     try clear c12b1
     try clear c13
     try clear c13b0
     try clear c13b1
     try clear c14
     try clear p14
     try clear q14
     try clear hx14
     try clear qi14
     try clear c15
     try clear c17
     try clear c18
     try clear c19
     try clear c25
     try clear q25
     try clear c26
     try clear q26
     try clear hx144_0
     try clear hx144_1
     try clear hx145_0
     try clear hx145_1
     try clear p144
     try clear p145
     try clear q144
     try clear q145
     try clear q25
     try clear q26
     obtain ⟨kq, x0_10, x1_10, HA, HJ10, HO_0, HO_1, HB⟩ := hcut
     cases kq with
     | zero => exact absurd HA.out (by simp [word_Strip.j2])
     | succ kj10 =>
      have H := HA.out
      clear HA
      simp only [word_Strip.j2] at H
      have HC36 := Aside0.mk H
      clear H
      go_upto_block 2 with (fail)
      go_cut [0, 1] (fun v0 v1 wc => ∃ (kq : Nat) (x0_35 : List (S69)) (x1_35 : List (S69)), Aside0 (word_Strip.j4 kq x0_35 x1_35 = some (r1, r2, r3)) ∧ Aside0 (kq ≤ kj10) ∧ Aside0 (Kd.V k69 69 wc w.heap.size (fun k_ => ((P0_ k_ ∨ P1_ k_) ∨ w.heap.size ≤ k_)) v0 x0_35) ∧ Aside0 (Kd.V k69 69 wc w.heap.size (fun k_ => ((P0_ k_ ∨ P1_ k_) ∨ w.heap.size ≤ k_)) v1 x1_35) ∧ Aside0 (Below w.heap.size w wc))
      case first =>
       have H := HC36.out
       clear HC36
       have H' := Aside0.mk H
       clear H
       go_wp2
       go_loopg [0, 1] kj10 (fun kq v0 v1 w' => ∃ (x0_3 : List (S69)) (x1_3 : List (S69)), Aside0 (word_Strip.l1 kq x0_3 x1_3 = some (r1, r2, r3)) ∧ Aside0 (kq ≤ kj10) ∧ Aside0 (Kd.V k69 69 w' w.heap.size (fun k_ => ((P0_ k_ ∨ P1_ k_) ∨ w.heap.size ≤ k_)) v0 x0_3) ∧ Aside0 (Kd.V k69 69 w' w.heap.size (fun k_ => ((P0_ k_ ∨ P1_ k_) ∨ w.heap.size ≤ k_)) v1 x1_3) ∧ Aside0 (Below w.heap.size w w'))
       case atStart => exact ⟨(x0_10), (x1_10), H', ⟨Nat.le_refl _⟩, ⟨by (with_reducible repeat (first | apply Kd.V_alloc | apply Kd.V_drewN | apply Kd.V_drew)); exact HO_0.out⟩, ⟨by (with_reducible repeat (first | apply Kd.V_alloc | apply Kd.V_drewN | apply Kd.V_drew)); exact HO_1.out⟩, ⟨by repeat (first | (with_reducible first | exact HB.out | apply below_alloc | apply pw_below_drewN | apply below_drew1) | exact HB.out)⟩⟩
       case round =>
        clear H'
        try clear c1
        try clear p1
        try clear q1
        try clear hx1
        try clear qi1
        try clear c2
        try clear p2
        try clear q2
        try clear c5
        try clear c12
        try clear c12b0
        try clear c12b1
        try clear c13
        try clear c13b0
        try clear c13b1
        try clear c14
        try clear p14
        try clear q14
        try clear hx14
        try clear qi14
        try clear c15
        try clear c17
        try clear c18
        try clear c19
        try clear c25
        try clear q25
        try clear c26
        try clear q26
        try clear hx144_0
        try clear hx144_1
        try clear hx145_0
        try clear hx145_1
        try clear p1
        try clear p14
        try clear p144
        try clear p145
        try clear p2
        try clear q1
        try clear q14
        try clear q144
        try clear q145
        try clear q2
        try clear q25
        try clear q26
        obtain ⟨x0_3, x1_3, HA, HK3, HO_0, HO_1, HB⟩ := hrel
        cases gk with
        | zero => exact absurd HA.out (by simp [word_Strip.l1])
        | succ k3 =>
         have H := HA.out
         clear HA
         simp only [word_Strip.l1] at H
         by_cases c37 : (x0_3.length : Int) > 0
         ·rw [if_pos c37] at H
          have c37b0 : decide (0 < (x0_3.length : Int)) = true := decide_eq_true c37
          have c37b1 : decide (0 < x0_3.length) = true := decide_eq_true (by omega)
          clear c37
          (first | rw [c37b0] | rw [c37b1] | (simp only [i64_w, i32_w]; rw [c37b0]) | skip)
          by_cases c38 : (x1_3.length : Int) > 0
          ·rw [if_pos c38] at H
           have c38b0 : decide (0 < (x1_3.length : Int)) = true := decide_eq_true c38
           have c38b1 : decide (0 < x1_3.length) = true := decide_eq_true (by omega)
           clear c38
           obtain ⟨ji39, hji39⟩ : ∃ j_ : Int, (wrap64 ((x0_3.length : Int) - 1)) = j_ := ⟨_, rfl⟩
           replace H : (if 0 ≤ (ji39) then (if (ji39) < (x0_3.length : Int) then (if 0 ≤ (wrap64 ((x1_3.length : Int) - 1)) then (if (wrap64 ((x1_3.length : Int) - 1)) < (x1_3.length : Int) then ((word_same.f ((rd_T69 x0_3 (ji39)).f0) ((rd_T69 x0_3 (ji39)).f1) ((rd_T69 x1_3 (wrap64 ((x1_3.length : Int) - 1))).f0) ((rd_T69 x1_3 (wrap64 ((x1_3.length : Int) - 1))).f1)).bind fun t159 => (if t159 = true then (if (ji39) ≤ (x0_3.length : Int) then (if (wrap64 ((x1_3.length : Int) - 1)) ≤ (x1_3.length : Int) then (word_Strip.l1 k3 (x0_3.take ((ji39) : Int).toNat) (x1_3.take ((wrap64 ((x1_3.length : Int) - 1)) : Int).toNat)) else (none)) else (none)) else (word_Strip.j4 k3 x0_3 x1_3))) else (none)) else (none)) else (none)) else (none)) = some (r1, r2, r3) := by first | (rw [hji39] at H; exact H) | (simp only [hji39] at H ⊢; exact H)
           have hji39w : (IntKind.i64.wrap ((x0_3.length : Int) - 1)) = ji39 := (i64_w _).trans hji39
           by_cases c40 : 0 ≤ (ji39)
           ·rw [if_pos c40] at H
            have c40b0 : decide (0 ≤ (ji39)) = true := decide_eq_true c40
            clear c40
            by_cases c41 : (ji39) < (x0_3.length : Int)
            ·rw [if_pos c41] at H
             have c41b0 : decide ((ji39) < (x0_3.length : Int)) = true := decide_eq_true c41
             clear c41
             obtain ⟨ji42, hji42⟩ : ∃ j_ : Int, (wrap64 ((x1_3.length : Int) - 1)) = j_ := ⟨_, rfl⟩
             replace H : (if 0 ≤ (ji42) then (if (ji42) < (x1_3.length : Int) then ((word_same.f ((rd_T69 x0_3 (ji39)).f0) ((rd_T69 x0_3 (ji39)).f1) ((rd_T69 x1_3 (ji42)).f0) ((rd_T69 x1_3 (ji42)).f1)).bind fun t159 => (if t159 = true then (if (ji39) ≤ (x0_3.length : Int) then (if (ji42) ≤ (x1_3.length : Int) then (word_Strip.l1 k3 (x0_3.take ((ji39) : Int).toNat) (x1_3.take ((ji42) : Int).toNat)) else (none)) else (none)) else (word_Strip.j4 k3 x0_3 x1_3))) else (none)) else (none)) = some (r1, r2, r3) := by first | (rw [hji42] at H; exact H) | (simp only [hji42] at H ⊢; exact H)
             have hji42w : (IntKind.i64.wrap ((x1_3.length : Int) - 1)) = ji42 := (i64_w _).trans hji42
             by_cases c43 : 0 ≤ (ji42)
             ·rw [if_pos c43] at H
              have c43b0 : decide (0 ≤ (ji42)) = true := decide_eq_true c43
              clear c43
              by_cases c44 : (ji42) < (x1_3.length : Int)
              ·rw [if_pos c44] at H
               have c44b0 : decide ((ji42) < (x1_3.length : Int)) = true := decide_eq_true c44
               clear c44
               replace H := Option.bind_eq_some_iff.mp H
               obtain ⟨t159, A450, H⟩ := H
               replace H : (if t159 = true then (if (ji39) ≤ (x0_3.length : Int) then (if (ji42) ≤ (x1_3.length : Int) then (word_Strip.l1 k3 (x0_3.take ((ji39) : Int).toNat) (x1_3.take ((ji42) : Int).toNat)) else (none)) else (none)) else (word_Strip.j4 k3 x0_3 x1_3)) = some (r1, r2, r3) := H
               have A45 := Aside0.mk A450
               clear A450
               by_cases c46 : t159 = true
               ·subst c46
                have H1 : (if (ji39) ≤ (x0_3.length : Int) then (if (ji42) ≤ (x1_3.length : Int) then (word_Strip.l1 k3 (x0_3.take ((ji39) : Int).toNat) (x1_3.take ((ji42) : Int).toNat)) else (none)) else (none)) = some (r1, r2, r3) := by rw [if_pos rfl] at H; exact H
                clear H
                have H := H1
                clear H1
                have c47b0 := eq_true (of_decide_eq_true (by first | (with_reducible assumption) | assumption) : 0 ≤ (ji39))
                by_cases c48 : (ji39) ≤ (x0_3.length : Int)
                ·rw [if_pos c48] at H
                 have c48b0 := eq_true c48
                 have c48b1 : decide ((ji39) ≤ (x0_3.length : Int)) = true := decide_eq_true c48
                 clear c48
                 obtain ⟨y160, hy160⟩ : ∃ y_ : List (S69), y_ = (x0_3.take ((ji39) : Int).toNat) := ⟨_, rfl⟩
                 replace H : (if (ji42) ≤ (x1_3.length : Int) then (word_Strip.l1 k3 y160 (x1_3.take ((ji42) : Int).toNat)) else (none)) = some (r1, r2, r3) := by first | (rw [hy160]; with_reducible exact H) | (have H2_ := (Option.bind_some _ _).symm.trans H; rw [hy160]; with_reducible exact H2_) | (have H2_ := (Option.bind_some _ _).symm.trans H; with_reducible exact H2_) | with_reducible exact H | (rw [hy160]; exact H) | exact H
                 have Ny160 := Aside0.mk hy160
                 clear hy160
                 have c49b0 := eq_true (of_decide_eq_true (by first | (with_reducible assumption) | assumption) : 0 ≤ (ji42))
                 by_cases c50 : (ji42) ≤ (x1_3.length : Int)
                 ·rw [if_pos c50] at H
                  have c50b0 := eq_true c50
                  have c50b1 : decide ((ji42) ≤ (x1_3.length : Int)) = true := decide_eq_true c50
                  clear c50
                  obtain ⟨y165, hy165⟩ : ∃ y_ : List (S69), y_ = (x1_3.take ((ji42) : Int).toNat) := ⟨_, rfl⟩
                  replace H : (word_Strip.l1 k3 y160 y165) = some (r1, r2, r3) := by first | (rw [hy165]; with_reducible exact H) | (have H2_ := (Option.bind_some _ _).symm.trans H; rw [hy165]; with_reducible exact H2_) | (have H2_ := (Option.bind_some _ _).symm.trans H; with_reducible exact H2_) | with_reducible exact H | (rw [hy165]; exact H) | exact H
                  have Ny165 := Aside0.mk hy165
                  clear hy165
                  have H' := Aside0.mk H
                  clear H
                  try go_wp2
                  have n0_ := Aside0.mk (Kd.V_drew HO_0.out)
                  have n1_ := Aside0.mk (Kd.V_drew HO_1.out)
                  have n2_ := Aside0.mk (below_drew1 HB.out)
                  clear HO_0
                  clear HO_1
                  clear HB
                  have HO_0 := n0_
                  have HO_1 := n1_
                  have HB := n2_
                  clear n0_ n1_ n2_
                  obtain ⟨Ao52, co52, eo52⟩ := Kd.V_slice HO_0.out
                  (first | subst eo52 | (injection eo52 with f1_ f2_ f3_; have f4_ := f1_.symm; have f5_ := f3_.symm; clear f1_ f2_ f3_; subst f4_; subst f5_))
                  obtain ⟨Ao53, co53, eo53⟩ := Kd.V_slice HO_1.out
                  (first | subst eo53 | (injection eo53 with f1_ f2_ f3_; have f4_ := f1_.symm; have f5_ := f3_.symm; clear f1_ f2_ f3_; subst f4_; subst f5_))
                  have p157 : 0 ≤ ((ji39) : Int) := of_decide_eq_true (by first | (with_reducible assumption) | assumption)
                  have q157 : (ji39) < (x0_3.length : Int) := of_decide_eq_true (by first | (with_reducible assumption) | assumption)
                  obtain ⟨ad157, e157, hx157_0, hx157_1⟩ := at_T69 (Kd.V_reads' HO_0.out).2.2 (ji39) p157 q157
                  cases e157
                  replace p157 := eq_true p157
                  replace q157 := eq_true q157
                  have p158 : 0 ≤ ((ji42) : Int) := of_decide_eq_true (by first | (with_reducible assumption) | assumption)
                  have q158 : (ji42) < (x1_3.length : Int) := of_decide_eq_true (by first | (with_reducible assumption) | assumption)
                  obtain ⟨ad158, e158, hx158_0, hx158_1⟩ := at_T69 (Kd.V_reads' HO_1.out).2.2 (ji42) p158 q158
                  cases e158
                  replace p158 := eq_true p158
                  replace q158 := eq_true q158
                  refine start_ (n := 23) (S := fun w' => w'.cell? (ad157.add (((ji39)).toNat * 2)) = some (.int .i64 ((rd_T69 x0_3 (ji39)).f0)) ∧ w'.cell? ⟨(ad157.add (((ji39)).toNat * 2)).block, (ad157.add (((ji39)).toNat * 2)).off + 1, none⟩ = some (.int .i64 ((rd_T69 x0_3 (ji39)).f1)) ∧ w'.cell? (ad158.add (((ji42)).toNat * 2)) = some (.int .i64 ((rd_T69 x1_3 (ji42)).f0)) ∧ w'.cell? ⟨(ad158.add (((ji42)).toNat * 2)).block, (ad158.add (((ji42)).toNat * 2)).off + 1, none⟩ = some (.int .i64 ((rd_T69 x1_3 (ji42)).f1))) (ds := []) #[false, false, false, false, false, false, false, false, false, false, false, false, false, false, false, false, false, false, false, false, false, false, false] (by kernel_rfl) rfl rfl ⟨hx157_0, hx157_1, hx158_0, hx158_1⟩ (fun hHeld => ?_); refine with_tabW word_Strip.tab5 word_Strip.bits5 (fun HT_ HW_ => ?_)
                  generalize wr.drew = w51 at HO_0 HO_1 HB hx157_0 hx157_1 hx158_0 hx158_1 hHeld ⊢
                  refine pure_ (i := 0) (N := some 36) (v := ?_) (a' := ?_) #[true, false, false, false, false, false, false, false, false, false, false, false, false, false, false, false, false, false, false, false, false, false, false] rfl rfl (any_of HT_.out (by kernel_rfl)) (fun _ _ _ h => h) (Or.inl ⟨by rfl, ?_⟩) ?_ ?_
                  rotate_left
                  ·intro w'
                   go_simp
                   with_reducible rfl
                  rotate_left
                  ·simp only [Act.put, List.setIfInBounds_toArray, List.set_cons_zero, List.set_cons_succ, i64_w, i32_w]
                   rfl
                  refine pure_ (i := 1) (N := some 37) (v := ?_) (a' := ?_) #[true, true, false, false, false, false, false, false, false, false, false, false, false, false, false, false, false, false, false, false, false, false, false] rfl rfl (any_of HT_.out (by kernel_rfl)) (fun _ _ _ h => h) (Or.inl ⟨by rfl, ?_⟩) ?_ ?_
                  rotate_left
                  ·intro w'
                   go_simp
                   with_reducible rfl
                  rotate_left
                  ·simp only [Act.put, List.setIfInBounds_toArray, List.set_cons_zero, List.set_cons_succ, i64_w, i32_w]
                   rfl
                  refine pure_ (i := 2) (N := some 38) (v := ?_) (a' := ?_) #[true, true, true, false, false, false, false, false, false, false, false, false, false, false, false, false, false, false, false, false, false, false, false] rfl rfl (any_of HT_.out (by kernel_rfl)) (fun _ _ _ h => h) (Or.inl ⟨by rfl, ?_⟩) ?_ ?_
                  rotate_left
                  ·intro w'
                   go_simp
                   with_reducible rfl
                  rotate_left
                  ·simp only [Act.put, List.setIfInBounds_toArray, List.set_cons_zero, List.set_cons_succ, i64_w, i32_w]
                   rfl
                  refine pure_ (i := 3) (N := some 39) (v := ?_) (a' := ?_) #[true, true, true, true, false, false, false, false, false, false, false, false, false, false, false, false, false, false, false, false, false, false, false] rfl rfl (any_of HT_.out (by kernel_rfl)) (fun _ _ _ h => h) (Or.inl ⟨by rfl, ?_⟩) ?_ ?_
                  rotate_left
                  ·intro w'
                   go_simp
                   with_reducible rfl
                  rotate_left
                  ·simp only [Act.put, List.setIfInBounds_toArray, List.set_cons_zero, List.set_cons_succ, i64_w, i32_w]
                   rfl
                  refine pure_ (i := 4) (N := some 40) (v := ?_) (a' := ?_) #[true, true, true, true, true, false, false, false, false, false, false, false, false, false, false, false, false, false, false, false, false, false, false] rfl rfl (any_of HT_.out (by kernel_rfl)) (fun _ _ _ h => h) (Or.inl ⟨by rfl, ?_⟩) ?_ ?_
                  rotate_left
                  ·intro w'
                   go_simp
                   with_reducible rfl
                  rotate_left
                  ·simp only [Act.put, List.setIfInBounds_toArray, List.set_cons_zero, List.set_cons_succ, i64_w, i32_w]
                   rfl
                  refine pure_ (i := 5) (N := some 41) (v := ?_) (a' := ?_) #[true, true, true, true, true, true, false, false, false, false, false, false, false, false, false, false, false, false, false, false, false, false, false] rfl rfl (any_of HT_.out (by kernel_rfl)) (fun _ _ _ h => h) (Or.inl ⟨by rfl, ?_⟩) ?_ ?_
                  rotate_left
                  ·intro w'
                   go_simp
                   with_reducible rfl
                  rotate_left
                  ·simp only [Act.put, List.setIfInBounds_toArray, List.set_cons_zero, List.set_cons_succ, i64_w, i32_w]
                   rfl
                  refine pure_ (i := 6) (N := some 42) (v := ?_) (a' := ?_) #[true, true, true, true, true, true, true, false, false, false, false, false, false, false, false, false, false, false, false, false, false, false, false] rfl rfl (any_of HT_.out (by kernel_rfl)) (fun _ _ _ h => h) (Or.inl ⟨by rfl, ?_⟩) ?_ ?_
                  rotate_left
                  ·intro w'
                   go_simp
                   with_reducible rfl
                  rotate_left
                  ·simp only [Act.put, List.setIfInBounds_toArray, List.set_cons_zero, List.set_cons_succ, i64_w, i32_w]
                   rfl
                  refine pure_ (i := 7) (N := some 43) (v := ?_) (a' := ?_) #[true, true, true, true, true, true, true, true, false, false, false, false, false, false, false, false, false, false, false, false, false, false, false] rfl rfl (any_of HT_.out (by kernel_rfl)) (fun _ _ _ h => h) (Or.inl ⟨by rfl, ?_⟩) ?_ ?_
                  rotate_left
                  ·intro w'
                   go_simp
                   with_reducible rfl
                  rotate_left
                  ·simp only [Act.put, List.setIfInBounds_toArray, List.set_cons_zero, List.set_cons_succ, i64_w, i32_w]
                   rfl
                  refine pure_ (i := 8) (N := some 44) (v := ?_) (a' := ?_) #[true, true, true, true, true, true, true, true, true, false, false, false, false, false, false, false, false, false, false, false, false, false, false] rfl rfl (any_of HT_.out (by kernel_rfl)) (fun _ _ _ h => h) (Or.inl ⟨by rfl, ?_⟩) ?_ ?_
                  rotate_left
                  ·intro w'
                   go_simp
                   with_reducible rfl
                  rotate_left
                  ·simp only [Act.put, List.setIfInBounds_toArray, List.set_cons_zero, List.set_cons_succ, i64_w, i32_w]
                   rfl
                  refine pure_ (i := 9) (N := some 45) (v := ?_) (a' := ?_) #[true, true, true, true, true, true, true, true, true, true, false, false, false, false, false, false, false, false, false, false, false, false, false] rfl rfl (any_of HT_.out (by kernel_rfl)) (fun _ _ _ h => h) (Or.inl ⟨by rfl, ?_⟩) ?_ ?_
                  rotate_left
                  ·intro w'
                   go_simp
                   with_reducible rfl
                  rotate_left
                  ·simp only [Act.put, List.setIfInBounds_toArray, List.set_cons_zero, List.set_cons_succ, i64_w, i32_w]
                   rfl
                  refine pure_ (i := 10) (N := some 46) (v := ?_) (a' := ?_) #[true, true, true, true, true, true, true, true, true, true, true, false, false, false, false, false, false, false, false, false, false, false, false] rfl rfl (any_of HT_.out (by kernel_rfl)) (fun _ _ _ h => h) (Or.inl ⟨by rfl, ?_⟩) ?_ ?_
                  rotate_left
                  ·intro w'
                   go_simp
                   with_reducible rfl
                  rotate_left
                  ·simp only [Act.put, List.setIfInBounds_toArray, List.set_cons_zero, List.set_cons_succ, i64_w, i32_w]
                   rfl
                  refine pure_ (i := 11) (N := some 47) (v := ?_) (a' := ?_) #[true, true, true, true, true, true, true, true, true, true, true, true, false, false, false, false, false, false, false, false, false, false, false] rfl rfl (any_of HT_.out (by kernel_rfl)) (fun _ _ _ h => h) (Or.inl ⟨by rfl, ?_⟩) ?_ ?_
                  rotate_left
                  ·intro w'
                   go_simp
                   with_reducible rfl
                  rotate_left
                  ·simp only [Act.put, List.setIfInBounds_toArray, List.set_cons_zero, List.set_cons_succ, i64_w, i32_w]
                   rfl
                  refine pure_ (i := 12) (N := some 48) (v := ?_) (a' := ?_) #[true, true, true, true, true, true, true, true, true, true, true, true, true, false, false, false, false, false, false, false, false, false, false] rfl rfl (any_of HT_.out (by kernel_rfl)) (fun _ _ _ h => h) (Or.inl ⟨by rfl, ?_⟩) ?_ ?_
                  rotate_left
                  ·intro w'
                   go_simp
                   with_reducible rfl
                  rotate_left
                  ·simp only [Act.put, List.setIfInBounds_toArray, List.set_cons_zero, List.set_cons_succ, i64_w, i32_w]
                   rfl
                  refine pure_ (i := 13) (N := some 49) (v := ?_) (a' := ?_) #[true, true, true, true, true, true, true, true, true, true, true, true, true, true, false, false, false, false, false, false, false, false, false] rfl rfl (any_of HT_.out (by kernel_rfl)) (fun _ _ _ h => h) (Or.inl ⟨by rfl, ?_⟩) ?_ ?_
                  rotate_left
                  ·intro w'
                   go_simp
                   with_reducible rfl
                  rotate_left
                  ·simp only [Act.put, List.setIfInBounds_toArray, List.set_cons_zero, List.set_cons_succ, i64_w, i32_w]
                   rfl
                  refine pure_ (i := 15) (N := some 51) (v := ?_) (a' := ?_) #[true, true, true, true, true, true, true, true, true, true, true, true, true, true, false, true, false, false, false, false, false, false, false] rfl rfl (any_of HT_.out (by kernel_rfl)) (fun _ _ _ h => h) (Or.inl ⟨by rfl, ?_⟩) ?_ ?_
                  rotate_left
                  ·intro w'
                   go_simp
                   with_reducible rfl
                  rotate_left
                  ·simp only [Act.put, List.setIfInBounds_toArray, List.set_cons_zero, List.set_cons_succ, i64_w, i32_w]
                   rfl
                  refine pure_ (i := 16) (N := some 52) (v := ?_) (a' := ?_) #[true, true, true, true, true, true, true, true, true, true, true, true, true, true, false, true, true, false, false, false, false, false, false] rfl rfl (any_of HT_.out (by kernel_rfl)) (fun _ _ _ h => h) (Or.inl ⟨by rfl, ?_⟩) ?_ ?_
                  rotate_left
                  ·intro w'
                   go_simp
                   with_reducible rfl
                  rotate_left
                  ·simp only [Act.put, List.setIfInBounds_toArray, List.set_cons_zero, List.set_cons_succ, i64_w, i32_w]
                   rfl
                  refine pure_ (i := 17) (N := some 53) (v := ?_) (a' := ?_) #[true, true, true, true, true, true, true, true, true, true, true, true, true, true, false, true, true, true, false, false, false, false, false] rfl rfl (any_of HT_.out (by kernel_rfl)) (fun _ _ _ h => h) (Or.inl ⟨by rfl, ?_⟩) ?_ ?_
                  rotate_left
                  ·intro w'
                   go_simp
                   with_reducible rfl
                  rotate_left
                  ·simp only [Act.put, List.setIfInBounds_toArray, List.set_cons_zero, List.set_cons_succ, i64_w, i32_w]
                   rfl
                  refine pure_ (i := 18) (N := some 54) (v := ?_) (a' := ?_) #[true, true, true, true, true, true, true, true, true, true, true, true, true, true, false, true, true, true, true, false, false, false, false] rfl rfl (any_of HT_.out (by kernel_rfl)) (fun _ _ _ h => h) (Or.inl ⟨by rfl, ?_⟩) ?_ ?_
                  rotate_left
                  ·intro w'
                   go_simp
                   with_reducible rfl
                  rotate_left
                  ·simp only [Act.put, List.setIfInBounds_toArray, List.set_cons_zero, List.set_cons_succ, i64_w, i32_w]
                   rfl
                  refine pure_ (i := 19) (N := some 55) (v := ?_) (a' := ?_) #[true, true, true, true, true, true, true, true, true, true, true, true, true, true, false, true, true, true, true, true, false, false, false] rfl rfl (any_of HT_.out (by kernel_rfl)) (fun _ _ _ h => h) (Or.inl ⟨by rfl, ?_⟩) ?_ ?_
                  rotate_left
                  ·intro w'
                   go_simp
                   with_reducible rfl
                  rotate_left
                  ·simp only [Act.put, List.setIfInBounds_toArray, List.set_cons_zero, List.set_cons_succ, i64_w, i32_w]
                   rfl
                  refine take_ (i := 14) (N := some 50) (v := ?_) (a' := ?_) #[true, true, true, true, true, true, true, true, true, true, true, true, true, true, true, true, true, true, true, true, false, false, false] rfl rfl (take_ofW HT_.out HW_.out (by kernel_rfl)) (fun _ _ _ h => h) (Or.inl ⟨by rfl, ?_⟩) hHeld ?_ ?_
                  rotate_left
                  ·rintro w' ⟨s0, s1, s2, s3⟩
                   go_simp
                   with_reducible rfl
                  rotate_left
                  ·simp only [Act.put, List.setIfInBounds_toArray, List.set_cons_zero, List.set_cons_succ, i64_w, i32_w]
                   rfl
                  refine take_ (i := 20) (N := some 56) (v := ?_) (a' := ?_) #[true, true, true, true, true, true, true, true, true, true, true, true, true, true, true, true, true, true, true, true, true, false, false] rfl rfl (take_ofW HT_.out HW_.out (by kernel_rfl)) (fun _ _ _ h => h) (Or.inl ⟨by rfl, ?_⟩) hHeld ?_ ?_
                  rotate_left
                  ·rintro w' ⟨s0, s1, s2, s3⟩
                   go_simp
                   with_reducible rfl
                  rotate_left
                  ·simp only [Act.put, List.setIfInBounds_toArray, List.set_cons_zero, List.set_cons_succ, i64_w, i32_w]
                   rfl
                  refine one_ (i := 21) (N := some 57) #[true, true, true, true, true, true, true, true, true, true, true, true, true, true, true, true, true, true, true, true, true, true, false] rfl rfl (one_of HT_.out (by kernel_rfl)) (by decide) (fun K hK => ?_)
                  refine goes_ Try.func51 (by kernel_rfl) rfl #[.agg #[.int .i64 ((rd_T69 x0_3 (ji39)).f0), .int .i64 ((rd_T69 x0_3 (ji39)).f1)], .agg #[.int .i64 ((rd_T69 x1_3 (ji42)).f0), .int .i64 ((rd_T69 x1_3 (ji42)).f1)]] (by rfl) rfl rfl (by (try simp only [List.map_toArray, List.map_cons, List.map_nil]); first | done | (simp only [hji39, hji42]; rfl) | rfl | (simp only [List.length_drop, List.length_take]; rfl)) ?_
                  with_reducible refine (word_same.calls ((rd_T69 x0_3 (ji39)).f0) ((rd_T69 x0_3 (ji39)).f1) ((rd_T69 x1_3 (ji42)).f0) ((rd_T69 x1_3 (ji42)).f1) true _ A45.out).mono ?_
                  rintro e w54 ⟨rfl, hb⟩
                  have HS0_ := (hb.cell (World.block_lt_of_cell? _ _ (hHeld.1))).trans (hHeld.1)
                  have HS1_ := (hb.cell (World.block_lt_of_cell? _ _ (hHeld.2.1))).trans (hHeld.2.1)
                  have HS2_ := (hb.cell (World.block_lt_of_cell? _ _ (hHeld.2.2.1))).trans (hHeld.2.2.1)
                  have HS3_ := (hb.cell (World.block_lt_of_cell? _ _ (hHeld.2.2.2))).trans (hHeld.2.2.2)
                  refine ⟨_, rfl, ?_⟩
                  have n0_ := Aside0.mk (Kd.V_below (by (with_reducible repeat (first | apply Kd.V_alloc | apply Kd.V_drewN | apply Kd.V_drew)); exact HO_0.out) hb)
                  have n1_ := Aside0.mk (Kd.V_below (by (with_reducible repeat (first | apply Kd.V_alloc | apply Kd.V_drewN | apply Kd.V_drew)); exact HO_1.out) hb)
                  have n2_ := Aside0.mk (below_step (by repeat (first | (with_reducible first | exact HB.out | apply below_alloc | apply pw_below_drewN | apply below_drew1) | exact HB.out)) hb)
                  clear HO_0
                  clear HO_1
                  clear HB
                  have HO_0 := n0_
                  have HO_1 := n1_
                  have HB := n2_
                  clear n0_ n1_ n2_
                  (try clear hb)
                  (try clear hb2)
                  (try clear hk)
                  (try clear hi)
                  refine hK.out _ _ ⟨HS0_, HS1_, HS2_, HS3_⟩ (fun hHeld => ?_)
                  clear hK K
                  refine norm_ (a' := ?_) ?_ ?_
                  rotate_left
                  ·show Act.put _ (some 57) _ = _
                   simp only [Act.put, List.setIfInBounds_toArray, List.set_cons_zero, List.set_cons_succ, i64_w, i32_w]
                   rfl
                  refine pure_ (i := 22) (N := some 58) (v := ?_) (a' := ?_) #[true, true, true, true, true, true, true, true, true, true, true, true, true, true, true, true, true, true, true, true, true, true, true] rfl rfl (any_of HT_.out (by kernel_rfl)) (fun _ _ _ h => h) (Or.inl ⟨by rfl, ?_⟩) ?_ ?_
                  rotate_left
                  ·intro w'
                   go_simp
                   with_reducible rfl
                  rotate_left
                  ·simp only [Act.put, List.setIfInBounds_toArray, List.set_cons_zero, List.set_cons_succ, i64_w, i32_w]
                   rfl
                  refine done_ (done_of HT_.out (by kernel_rfl)) ?_
                  try go_wp2
                  have n0_ := Aside0.mk (Kd.V_drew HO_0.out)
                  have n1_ := Aside0.mk (Kd.V_drew HO_1.out)
                  have n2_ := Aside0.mk (below_drew1 HB.out)
                  clear HO_0
                  clear HO_1
                  clear HB
                  have HO_0 := n0_
                  have HO_1 := n1_
                  have HB := n2_
                  clear n0_ n1_ n2_
                  have q56 : ((ji39) : Int) ≤ ((x0_3.length : Int) : Int) := of_decide_eq_true (by first | (with_reducible assumption) | assumption)
                  obtain ⟨i056, hi056, _, hsz56, _⟩ := info_parts info69
                  have hroom56 : x0_3.length ≤ co52 := (Kd.V_reads' HO_0.out).2.1
                  have hC56 : Kd.F k69 _ _ (some ad157) x0_3.length x0_3 := (Kd.V_at (base := w.heap.size) HO_0.out).2.2
                  have hcut56 := cut_to (P := Try.prog) 23 69 .i64 Try.underlying23 hi056 (some ad157) x0_3.length co52 (ji39) (of_decide_eq_true (by first | (with_reducible assumption) | assumption)) q56 hroom56
                  have hr56 := Kd.F_take (m := ((ji39) : Int).toNat) hC56 (by omega)
                  have hy56 : y160.length = ((ji39) : Int).toNat := (by rw [Ny160.out, List.length_take]; omega)
                  rw [← Ny160.out] at hr56
                  rw [← hy56] at hcut56
                  have HO164 := Aside0.mk (show Kd.V k69 69 _ w.heap.size _ (.slice (some ad157) y160.length co52) y160 from Kd.V_mk (by omega) hr56)
                  have HC164 := Aside0.mk (show y160.length ≤ co52 from by omega)
                  clear hr56 hC56 hroom56 hi056 hsz56
                  have KY56 := Aside0.mk hy56
                  clear hy56
                  replace q56 := eq_true q56
                  have q57 : ((ji42) : Int) ≤ ((x1_3.length : Int) : Int) := of_decide_eq_true (by first | (with_reducible assumption) | assumption)
                  obtain ⟨i057, hi057, _, hsz57, _⟩ := info_parts info69
                  have hroom57 : x1_3.length ≤ co53 := (Kd.V_reads' HO_1.out).2.1
                  have hC57 : Kd.F k69 _ _ (some ad158) x1_3.length x1_3 := (Kd.V_at (base := w.heap.size) HO_1.out).2.2
                  have hcut57 := cut_to (P := Try.prog) 23 69 .i64 Try.underlying23 hi057 (some ad158) x1_3.length co53 (ji42) (of_decide_eq_true (by first | (with_reducible assumption) | assumption)) q57 hroom57
                  have hr57 := Kd.F_take (m := ((ji42) : Int).toNat) hC57 (by omega)
                  have hy57 : y165.length = ((ji42) : Int).toNat := (by rw [Ny165.out, List.length_take]; omega)
                  rw [← Ny165.out] at hr57
                  rw [← hy57] at hcut57
                  have HO169 := Aside0.mk (show Kd.V k69 69 _ w.heap.size _ (.slice (some ad158) y165.length co53) y165 from Kd.V_mk (by omega) hr57)
                  have HC169 := Aside0.mk (show y165.length ≤ co53 from by omega)
                  clear hr57 hC57 hroom57 hi057 hsz57
                  have KY57 := Aside0.mk hy57
                  clear hy57
                  replace q57 := eq_true q57
                  refine start_ (n := 12) (S := fun w' => True) (ds := []) #[false, false, false, false, false, false, false, false, false, false, false, false] (by kernel_rfl) rfl rfl trivial (fun hHeld => ?_); refine with_tabW word_Strip.tab6 word_Strip.bits6 (fun HT_ HW_ => ?_)
                  generalize w54.drew = w55 at HO_0 HO_1 HB HO164 HO169 hHeld ⊢
                  refine pure_ (i := 0) (N := some 59) (v := ?_) (a' := ?_) #[true, false, false, false, false, false, false, false, false, false, false, false] rfl rfl (any_of HT_.out (by kernel_rfl)) (fun _ _ _ h => h) (Or.inl ⟨by rfl, ?_⟩) ?_ ?_
                  rotate_left
                  ·intro w'
                   go_simp
                   with_reducible rfl
                  rotate_left
                  ·simp only [Act.put, List.setIfInBounds_toArray, List.set_cons_zero, List.set_cons_succ, i64_w, i32_w]
                   rfl
                  refine pure_ (i := 1) (N := some 60) (v := ?_) (a' := ?_) #[true, true, false, false, false, false, false, false, false, false, false, false] rfl rfl (any_of HT_.out (by kernel_rfl)) (fun _ _ _ h => h) (Or.inl ⟨by rfl, ?_⟩) ?_ ?_
                  rotate_left
                  ·intro w'
                   go_simp
                   with_reducible rfl
                  rotate_left
                  ·simp only [Act.put, List.setIfInBounds_toArray, List.set_cons_zero, List.set_cons_succ, i64_w, i32_w]
                   rfl
                  refine pure_ (i := 2) (N := some 61) (v := ?_) (a' := ?_) #[true, true, true, false, false, false, false, false, false, false, false, false] rfl rfl (any_of HT_.out (by kernel_rfl)) (fun _ _ _ h => h) (Or.inl ⟨by rfl, ?_⟩) ?_ ?_
                  rotate_left
                  ·intro w'
                   go_simp
                   with_reducible rfl
                  rotate_left
                  ·simp only [Act.put, List.setIfInBounds_toArray, List.set_cons_zero, List.set_cons_succ, i64_w, i32_w]
                   rfl
                  refine pure_ (i := 3) (N := some 62) (v := ?_) (a' := ?_) #[true, true, true, true, false, false, false, false, false, false, false, false] rfl rfl (any_of HT_.out (by kernel_rfl)) (fun _ _ _ h => h) (Or.inl ⟨by rfl, ?_⟩) ?_ ?_
                  rotate_left
                  ·intro w'
                   go_simp
                   with_reducible rfl
                  rotate_left
                  ·simp only [Act.put, List.setIfInBounds_toArray, List.set_cons_zero, List.set_cons_succ, i64_w, i32_w]
                   rfl
                  refine pure_ (i := 4) (N := some 63) (v := ?_) (a' := ?_) #[true, true, true, true, true, false, false, false, false, false, false, false] rfl rfl (any_of HT_.out (by kernel_rfl)) (fun _ _ _ h => h) (Or.inl ⟨by rfl, ?_⟩) ?_ ?_
                  rotate_left
                  ·intro w'
                   go_simp
                   with_reducible rfl
                  rotate_left
                  ·simp only [Act.put, List.setIfInBounds_toArray, List.set_cons_zero, List.set_cons_succ, i64_w, i32_w]
                   rfl
                  refine pure_ (i := 5) (N := some 64) (v := ?_) (a' := ?_) #[true, true, true, true, true, true, false, false, false, false, false, false] rfl rfl (any_of HT_.out (by kernel_rfl)) (fun _ _ _ h => h) (Or.inl ⟨by rfl, ?_⟩) ?_ ?_
                  rotate_left
                  ·intro w'
                   go_simp
                   with_reducible rfl
                  rotate_left
                  ·simp only [Act.put, List.setIfInBounds_toArray, List.set_cons_zero, List.set_cons_succ, i64_w, i32_w]
                   rfl
                  refine pure_ (i := 6) (N := some 65) (v := ?_) (a' := ?_) #[true, true, true, true, true, true, true, false, false, false, false, false] rfl rfl (any_of HT_.out (by kernel_rfl)) (fun _ _ _ h => h) (Or.inl ⟨by rfl, ?_⟩) ?_ ?_
                  rotate_left
                  ·intro w'
                   go_simp
                   with_reducible rfl
                  rotate_left
                  ·simp only [Act.put, List.setIfInBounds_toArray, List.set_cons_zero, List.set_cons_succ, i64_w, i32_w]
                   rfl
                  refine pure_ (i := 7) (N := some 66) (v := ?_) (a' := ?_) #[true, true, true, true, true, true, true, true, false, false, false, false] rfl rfl (any_of HT_.out (by kernel_rfl)) (fun _ _ _ h => h) (Or.inl ⟨by rfl, ?_⟩) ?_ ?_
                  rotate_left
                  ·intro w'
                   go_simp
                   with_reducible rfl
                  rotate_left
                  ·simp only [Act.put, List.setIfInBounds_toArray, List.set_cons_zero, List.set_cons_succ, i64_w, i32_w]
                   rfl
                  refine pure_ (i := 8) (N := some 67) (v := ?_) (a' := ?_) #[true, true, true, true, true, true, true, true, true, false, false, false] rfl rfl (any_of HT_.out (by kernel_rfl)) (fun _ _ _ h => h) (Or.inl ⟨by rfl, ?_⟩) ?_ ?_
                  rotate_left
                  ·intro w'
                   go_simp
                   with_reducible rfl
                  rotate_left
                  ·simp only [Act.put, List.setIfInBounds_toArray, List.set_cons_zero, List.set_cons_succ, i64_w, i32_w]
                   rfl
                  refine pure_ (i := 9) (N := some 68) (v := ?_) (a' := ?_) #[true, true, true, true, true, true, true, true, true, true, false, false] rfl rfl (any_of HT_.out (by kernel_rfl)) (fun _ _ _ h => h) (Or.inl ⟨by rfl, ?_⟩) ?_ ?_
                  rotate_left
                  ·intro w'
                   go_simp
                   with_reducible rfl
                  rotate_left
                  ·simp only [Act.put, List.setIfInBounds_toArray, List.set_cons_zero, List.set_cons_succ, i64_w, i32_w]
                   rfl
                  refine pure_ (i := 10) (N := some 0) (v := ?_) (a' := ?_) #[true, true, true, true, true, true, true, true, true, true, true, false] rfl rfl (any_of HT_.out (by kernel_rfl)) (fun _ _ _ h => h) (Or.inl ⟨by rfl, ?_⟩) ?_ ?_
                  rotate_left
                  ·intro w'
                   go_simp
                   with_reducible rfl
                  rotate_left
                  ·simp only [Act.put, List.setIfInBounds_toArray, List.set_cons_zero, List.set_cons_succ, i64_w, i32_w]
                   rfl
                  refine pure_ (i := 11) (N := some 1) (v := ?_) (a' := ?_) #[true, true, true, true, true, true, true, true, true, true, true, true] rfl rfl (any_of HT_.out (by kernel_rfl)) (fun _ _ _ h => h) (Or.inl ⟨by rfl, ?_⟩) ?_ ?_
                  rotate_left
                  ·intro w'
                   go_simp
                   with_reducible rfl
                  rotate_left
                  ·simp only [Act.put, List.setIfInBounds_toArray, List.set_cons_zero, List.set_cons_succ, i64_w, i32_w]
                   rfl
                  refine done_ (done_of HT_.out (by kernel_rfl)) ?_
                  try go_wp2
                  go_roundg k3
                  case measure => have := HJ2.out; have := HJ10.out; have := HK3.out; omega
                  case rel => exact ⟨(y160), (y165), H', ⟨by have := HJ2.out; have := HJ10.out; have := HK3.out; omega⟩, ⟨by (with_reducible repeat (first | apply Kd.V_alloc | apply Kd.V_drewN | apply Kd.V_drew)); exact HO164.out⟩, ⟨by (with_reducible repeat (first | apply Kd.V_alloc | apply Kd.V_drewN | apply Kd.V_drew)); exact HO169.out⟩, ⟨by repeat (first | (with_reducible first | exact HB.out | apply below_alloc | apply pw_below_drewN | apply below_drew1) | exact HB.out)⟩⟩
                 ·rw [if_neg c50] at H
                  exact absurd H (by simp)
                ·rw [if_neg c48] at H
                 exact absurd H (by simp)
               ·replace c46 := Bool.eq_false_iff.mpr c46
                subst c46
                have H1 : (word_Strip.j4 k3 x0_3 x1_3) = some (r1, r2, r3) := by rw [if_neg (show ¬ (false = true) by decide)] at H; exact H
                clear H
                have H := H1
                clear H1
                have H' := Aside0.mk H
                clear H
                try go_wp2
                have n0_ := Aside0.mk (Kd.V_drew HO_0.out)
                have n1_ := Aside0.mk (Kd.V_drew HO_1.out)
                have n2_ := Aside0.mk (below_drew1 HB.out)
                clear HO_0
                clear HO_1
                clear HB
                have HO_0 := n0_
                have HO_1 := n1_
                have HB := n2_
                clear n0_ n1_ n2_
                obtain ⟨Ao59, co59, eo59⟩ := Kd.V_slice HO_0.out
                (first | subst eo59 | (injection eo59 with f1_ f2_ f3_; have f4_ := f1_.symm; have f5_ := f3_.symm; clear f1_ f2_ f3_; subst f4_; subst f5_))
                obtain ⟨Ao60, co60, eo60⟩ := Kd.V_slice HO_1.out
                (first | subst eo60 | (injection eo60 with f1_ f2_ f3_; have f4_ := f1_.symm; have f5_ := f3_.symm; clear f1_ f2_ f3_; subst f4_; subst f5_))
                have p157 : 0 ≤ ((ji39) : Int) := of_decide_eq_true (by first | (with_reducible assumption) | assumption)
                have q157 : (ji39) < (x0_3.length : Int) := of_decide_eq_true (by first | (with_reducible assumption) | assumption)
                obtain ⟨ad157, e157, hx157_0, hx157_1⟩ := at_T69 (Kd.V_reads' HO_0.out).2.2 (ji39) p157 q157
                cases e157
                replace p157 := eq_true p157
                replace q157 := eq_true q157
                have p158 : 0 ≤ ((ji42) : Int) := of_decide_eq_true (by first | (with_reducible assumption) | assumption)
                have q158 : (ji42) < (x1_3.length : Int) := of_decide_eq_true (by first | (with_reducible assumption) | assumption)
                obtain ⟨ad158, e158, hx158_0, hx158_1⟩ := at_T69 (Kd.V_reads' HO_1.out).2.2 (ji42) p158 q158
                cases e158
                replace p158 := eq_true p158
                replace q158 := eq_true q158
                refine start_ (n := 23) (S := fun w' => w'.cell? (ad157.add (((ji39)).toNat * 2)) = some (.int .i64 ((rd_T69 x0_3 (ji39)).f0)) ∧ w'.cell? ⟨(ad157.add (((ji39)).toNat * 2)).block, (ad157.add (((ji39)).toNat * 2)).off + 1, none⟩ = some (.int .i64 ((rd_T69 x0_3 (ji39)).f1)) ∧ w'.cell? (ad158.add (((ji42)).toNat * 2)) = some (.int .i64 ((rd_T69 x1_3 (ji42)).f0)) ∧ w'.cell? ⟨(ad158.add (((ji42)).toNat * 2)).block, (ad158.add (((ji42)).toNat * 2)).off + 1, none⟩ = some (.int .i64 ((rd_T69 x1_3 (ji42)).f1))) (ds := []) #[false, false, false, false, false, false, false, false, false, false, false, false, false, false, false, false, false, false, false, false, false, false, false] (by kernel_rfl) rfl rfl ⟨hx157_0, hx157_1, hx158_0, hx158_1⟩ (fun hHeld => ?_); refine with_tabW word_Strip.tab5 word_Strip.bits5 (fun HT_ HW_ => ?_)
                generalize wr.drew = w58 at HO_0 HO_1 HB hx157_0 hx157_1 hx158_0 hx158_1 hHeld ⊢
                refine pure_ (i := 0) (N := some 36) (v := ?_) (a' := ?_) #[true, false, false, false, false, false, false, false, false, false, false, false, false, false, false, false, false, false, false, false, false, false, false] rfl rfl (any_of HT_.out (by kernel_rfl)) (fun _ _ _ h => h) (Or.inl ⟨by rfl, ?_⟩) ?_ ?_
                rotate_left
                ·intro w'
                 go_simp
                 with_reducible rfl
                rotate_left
                ·simp only [Act.put, List.setIfInBounds_toArray, List.set_cons_zero, List.set_cons_succ, i64_w, i32_w]
                 rfl
                refine pure_ (i := 1) (N := some 37) (v := ?_) (a' := ?_) #[true, true, false, false, false, false, false, false, false, false, false, false, false, false, false, false, false, false, false, false, false, false, false] rfl rfl (any_of HT_.out (by kernel_rfl)) (fun _ _ _ h => h) (Or.inl ⟨by rfl, ?_⟩) ?_ ?_
                rotate_left
                ·intro w'
                 go_simp
                 with_reducible rfl
                rotate_left
                ·simp only [Act.put, List.setIfInBounds_toArray, List.set_cons_zero, List.set_cons_succ, i64_w, i32_w]
                 rfl
                refine pure_ (i := 2) (N := some 38) (v := ?_) (a' := ?_) #[true, true, true, false, false, false, false, false, false, false, false, false, false, false, false, false, false, false, false, false, false, false, false] rfl rfl (any_of HT_.out (by kernel_rfl)) (fun _ _ _ h => h) (Or.inl ⟨by rfl, ?_⟩) ?_ ?_
                rotate_left
                ·intro w'
                 go_simp
                 with_reducible rfl
                rotate_left
                ·simp only [Act.put, List.setIfInBounds_toArray, List.set_cons_zero, List.set_cons_succ, i64_w, i32_w]
                 rfl
                refine pure_ (i := 3) (N := some 39) (v := ?_) (a' := ?_) #[true, true, true, true, false, false, false, false, false, false, false, false, false, false, false, false, false, false, false, false, false, false, false] rfl rfl (any_of HT_.out (by kernel_rfl)) (fun _ _ _ h => h) (Or.inl ⟨by rfl, ?_⟩) ?_ ?_
                rotate_left
                ·intro w'
                 go_simp
                 with_reducible rfl
                rotate_left
                ·simp only [Act.put, List.setIfInBounds_toArray, List.set_cons_zero, List.set_cons_succ, i64_w, i32_w]
                 rfl
                refine pure_ (i := 4) (N := some 40) (v := ?_) (a' := ?_) #[true, true, true, true, true, false, false, false, false, false, false, false, false, false, false, false, false, false, false, false, false, false, false] rfl rfl (any_of HT_.out (by kernel_rfl)) (fun _ _ _ h => h) (Or.inl ⟨by rfl, ?_⟩) ?_ ?_
                rotate_left
                ·intro w'
                 go_simp
                 with_reducible rfl
                rotate_left
                ·simp only [Act.put, List.setIfInBounds_toArray, List.set_cons_zero, List.set_cons_succ, i64_w, i32_w]
                 rfl
                refine pure_ (i := 5) (N := some 41) (v := ?_) (a' := ?_) #[true, true, true, true, true, true, false, false, false, false, false, false, false, false, false, false, false, false, false, false, false, false, false] rfl rfl (any_of HT_.out (by kernel_rfl)) (fun _ _ _ h => h) (Or.inl ⟨by rfl, ?_⟩) ?_ ?_
                rotate_left
                ·intro w'
                 go_simp
                 with_reducible rfl
                rotate_left
                ·simp only [Act.put, List.setIfInBounds_toArray, List.set_cons_zero, List.set_cons_succ, i64_w, i32_w]
                 rfl
                refine pure_ (i := 6) (N := some 42) (v := ?_) (a' := ?_) #[true, true, true, true, true, true, true, false, false, false, false, false, false, false, false, false, false, false, false, false, false, false, false] rfl rfl (any_of HT_.out (by kernel_rfl)) (fun _ _ _ h => h) (Or.inl ⟨by rfl, ?_⟩) ?_ ?_
                rotate_left
                ·intro w'
                 go_simp
                 with_reducible rfl
                rotate_left
                ·simp only [Act.put, List.setIfInBounds_toArray, List.set_cons_zero, List.set_cons_succ, i64_w, i32_w]
                 rfl
                refine pure_ (i := 7) (N := some 43) (v := ?_) (a' := ?_) #[true, true, true, true, true, true, true, true, false, false, false, false, false, false, false, false, false, false, false, false, false, false, false] rfl rfl (any_of HT_.out (by kernel_rfl)) (fun _ _ _ h => h) (Or.inl ⟨by rfl, ?_⟩) ?_ ?_
                rotate_left
                ·intro w'
                 go_simp
                 with_reducible rfl
                rotate_left
                ·simp only [Act.put, List.setIfInBounds_toArray, List.set_cons_zero, List.set_cons_succ, i64_w, i32_w]
                 rfl
                refine pure_ (i := 8) (N := some 44) (v := ?_) (a' := ?_) #[true, true, true, true, true, true, true, true, true, false, false, false, false, false, false, false, false, false, false, false, false, false, false] rfl rfl (any_of HT_.out (by kernel_rfl)) (fun _ _ _ h => h) (Or.inl ⟨by rfl, ?_⟩) ?_ ?_
                rotate_left
                ·intro w'
                 go_simp
                 with_reducible rfl
                rotate_left
                ·simp only [Act.put, List.setIfInBounds_toArray, List.set_cons_zero, List.set_cons_succ, i64_w, i32_w]
                 rfl
                refine pure_ (i := 9) (N := some 45) (v := ?_) (a' := ?_) #[true, true, true, true, true, true, true, true, true, true, false, false, false, false, false, false, false, false, false, false, false, false, false] rfl rfl (any_of HT_.out (by kernel_rfl)) (fun _ _ _ h => h) (Or.inl ⟨by rfl, ?_⟩) ?_ ?_
                rotate_left
                ·intro w'
                 go_simp
                 with_reducible rfl
                rotate_left
                ·simp only [Act.put, List.setIfInBounds_toArray, List.set_cons_zero, List.set_cons_succ, i64_w, i32_w]
                 rfl
                refine pure_ (i := 10) (N := some 46) (v := ?_) (a' := ?_) #[true, true, true, true, true, true, true, true, true, true, true, false, false, false, false, false, false, false, false, false, false, false, false] rfl rfl (any_of HT_.out (by kernel_rfl)) (fun _ _ _ h => h) (Or.inl ⟨by rfl, ?_⟩) ?_ ?_
                rotate_left
                ·intro w'
                 go_simp
                 with_reducible rfl
                rotate_left
                ·simp only [Act.put, List.setIfInBounds_toArray, List.set_cons_zero, List.set_cons_succ, i64_w, i32_w]
                 rfl
                refine pure_ (i := 11) (N := some 47) (v := ?_) (a' := ?_) #[true, true, true, true, true, true, true, true, true, true, true, true, false, false, false, false, false, false, false, false, false, false, false] rfl rfl (any_of HT_.out (by kernel_rfl)) (fun _ _ _ h => h) (Or.inl ⟨by rfl, ?_⟩) ?_ ?_
                rotate_left
                ·intro w'
                 go_simp
                 with_reducible rfl
                rotate_left
                ·simp only [Act.put, List.setIfInBounds_toArray, List.set_cons_zero, List.set_cons_succ, i64_w, i32_w]
                 rfl
                refine pure_ (i := 12) (N := some 48) (v := ?_) (a' := ?_) #[true, true, true, true, true, true, true, true, true, true, true, true, true, false, false, false, false, false, false, false, false, false, false] rfl rfl (any_of HT_.out (by kernel_rfl)) (fun _ _ _ h => h) (Or.inl ⟨by rfl, ?_⟩) ?_ ?_
                rotate_left
                ·intro w'
                 go_simp
                 with_reducible rfl
                rotate_left
                ·simp only [Act.put, List.setIfInBounds_toArray, List.set_cons_zero, List.set_cons_succ, i64_w, i32_w]
                 rfl
                refine pure_ (i := 13) (N := some 49) (v := ?_) (a' := ?_) #[true, true, true, true, true, true, true, true, true, true, true, true, true, true, false, false, false, false, false, false, false, false, false] rfl rfl (any_of HT_.out (by kernel_rfl)) (fun _ _ _ h => h) (Or.inl ⟨by rfl, ?_⟩) ?_ ?_
                rotate_left
                ·intro w'
                 go_simp
                 with_reducible rfl
                rotate_left
                ·simp only [Act.put, List.setIfInBounds_toArray, List.set_cons_zero, List.set_cons_succ, i64_w, i32_w]
                 rfl
                refine pure_ (i := 15) (N := some 51) (v := ?_) (a' := ?_) #[true, true, true, true, true, true, true, true, true, true, true, true, true, true, false, true, false, false, false, false, false, false, false] rfl rfl (any_of HT_.out (by kernel_rfl)) (fun _ _ _ h => h) (Or.inl ⟨by rfl, ?_⟩) ?_ ?_
                rotate_left
                ·intro w'
                 go_simp
                 with_reducible rfl
                rotate_left
                ·simp only [Act.put, List.setIfInBounds_toArray, List.set_cons_zero, List.set_cons_succ, i64_w, i32_w]
                 rfl
                refine pure_ (i := 16) (N := some 52) (v := ?_) (a' := ?_) #[true, true, true, true, true, true, true, true, true, true, true, true, true, true, false, true, true, false, false, false, false, false, false] rfl rfl (any_of HT_.out (by kernel_rfl)) (fun _ _ _ h => h) (Or.inl ⟨by rfl, ?_⟩) ?_ ?_
                rotate_left
                ·intro w'
                 go_simp
                 with_reducible rfl
                rotate_left
                ·simp only [Act.put, List.setIfInBounds_toArray, List.set_cons_zero, List.set_cons_succ, i64_w, i32_w]
                 rfl
                refine pure_ (i := 17) (N := some 53) (v := ?_) (a' := ?_) #[true, true, true, true, true, true, true, true, true, true, true, true, true, true, false, true, true, true, false, false, false, false, false] rfl rfl (any_of HT_.out (by kernel_rfl)) (fun _ _ _ h => h) (Or.inl ⟨by rfl, ?_⟩) ?_ ?_
                rotate_left
                ·intro w'
                 go_simp
                 with_reducible rfl
                rotate_left
                ·simp only [Act.put, List.setIfInBounds_toArray, List.set_cons_zero, List.set_cons_succ, i64_w, i32_w]
                 rfl
                refine pure_ (i := 18) (N := some 54) (v := ?_) (a' := ?_) #[true, true, true, true, true, true, true, true, true, true, true, true, true, true, false, true, true, true, true, false, false, false, false] rfl rfl (any_of HT_.out (by kernel_rfl)) (fun _ _ _ h => h) (Or.inl ⟨by rfl, ?_⟩) ?_ ?_
                rotate_left
                ·intro w'
                 go_simp
                 with_reducible rfl
                rotate_left
                ·simp only [Act.put, List.setIfInBounds_toArray, List.set_cons_zero, List.set_cons_succ, i64_w, i32_w]
                 rfl
                refine pure_ (i := 19) (N := some 55) (v := ?_) (a' := ?_) #[true, true, true, true, true, true, true, true, true, true, true, true, true, true, false, true, true, true, true, true, false, false, false] rfl rfl (any_of HT_.out (by kernel_rfl)) (fun _ _ _ h => h) (Or.inl ⟨by rfl, ?_⟩) ?_ ?_
                rotate_left
                ·intro w'
                 go_simp
                 with_reducible rfl
                rotate_left
                ·simp only [Act.put, List.setIfInBounds_toArray, List.set_cons_zero, List.set_cons_succ, i64_w, i32_w]
                 rfl
                refine take_ (i := 14) (N := some 50) (v := ?_) (a' := ?_) #[true, true, true, true, true, true, true, true, true, true, true, true, true, true, true, true, true, true, true, true, false, false, false] rfl rfl (take_ofW HT_.out HW_.out (by kernel_rfl)) (fun _ _ _ h => h) (Or.inl ⟨by rfl, ?_⟩) hHeld ?_ ?_
                rotate_left
                ·rintro w' ⟨s0, s1, s2, s3⟩
                 go_simp
                 with_reducible rfl
                rotate_left
                ·simp only [Act.put, List.setIfInBounds_toArray, List.set_cons_zero, List.set_cons_succ, i64_w, i32_w]
                 rfl
                refine take_ (i := 20) (N := some 56) (v := ?_) (a' := ?_) #[true, true, true, true, true, true, true, true, true, true, true, true, true, true, true, true, true, true, true, true, true, false, false] rfl rfl (take_ofW HT_.out HW_.out (by kernel_rfl)) (fun _ _ _ h => h) (Or.inl ⟨by rfl, ?_⟩) hHeld ?_ ?_
                rotate_left
                ·rintro w' ⟨s0, s1, s2, s3⟩
                 go_simp
                 with_reducible rfl
                rotate_left
                ·simp only [Act.put, List.setIfInBounds_toArray, List.set_cons_zero, List.set_cons_succ, i64_w, i32_w]
                 rfl
                refine one_ (i := 21) (N := some 57) #[true, true, true, true, true, true, true, true, true, true, true, true, true, true, true, true, true, true, true, true, true, true, false] rfl rfl (one_of HT_.out (by kernel_rfl)) (by decide) (fun K hK => ?_)
                refine goes_ Try.func51 (by kernel_rfl) rfl #[.agg #[.int .i64 ((rd_T69 x0_3 (ji39)).f0), .int .i64 ((rd_T69 x0_3 (ji39)).f1)], .agg #[.int .i64 ((rd_T69 x1_3 (ji42)).f0), .int .i64 ((rd_T69 x1_3 (ji42)).f1)]] (by rfl) rfl rfl (by (try simp only [List.map_toArray, List.map_cons, List.map_nil]); first | done | (simp only [hji39, hji42]; rfl) | rfl | (simp only [List.length_drop, List.length_take]; rfl)) ?_
                with_reducible refine (word_same.calls ((rd_T69 x0_3 (ji39)).f0) ((rd_T69 x0_3 (ji39)).f1) ((rd_T69 x1_3 (ji42)).f0) ((rd_T69 x1_3 (ji42)).f1) false _ A45.out).mono ?_
                rintro e w61 ⟨rfl, hb⟩
                have HS0_ := (hb.cell (World.block_lt_of_cell? _ _ (hHeld.1))).trans (hHeld.1)
                have HS1_ := (hb.cell (World.block_lt_of_cell? _ _ (hHeld.2.1))).trans (hHeld.2.1)
                have HS2_ := (hb.cell (World.block_lt_of_cell? _ _ (hHeld.2.2.1))).trans (hHeld.2.2.1)
                have HS3_ := (hb.cell (World.block_lt_of_cell? _ _ (hHeld.2.2.2))).trans (hHeld.2.2.2)
                refine ⟨_, rfl, ?_⟩
                have n0_ := Aside0.mk (Kd.V_below (by (with_reducible repeat (first | apply Kd.V_alloc | apply Kd.V_drewN | apply Kd.V_drew)); exact HO_0.out) hb)
                have n1_ := Aside0.mk (Kd.V_below (by (with_reducible repeat (first | apply Kd.V_alloc | apply Kd.V_drewN | apply Kd.V_drew)); exact HO_1.out) hb)
                have n2_ := Aside0.mk (below_step (by repeat (first | (with_reducible first | exact HB.out | apply below_alloc | apply pw_below_drewN | apply below_drew1) | exact HB.out)) hb)
                clear HO_0
                clear HO_1
                clear HB
                have HO_0 := n0_
                have HO_1 := n1_
                have HB := n2_
                clear n0_ n1_ n2_
                (try clear hb)
                (try clear hb2)
                (try clear hk)
                (try clear hi)
                refine hK.out _ _ ⟨HS0_, HS1_, HS2_, HS3_⟩ (fun hHeld => ?_)
                clear hK K
                refine norm_ (a' := ?_) ?_ ?_
                rotate_left
                ·show Act.put _ (some 57) _ = _
                 simp only [Act.put, List.setIfInBounds_toArray, List.set_cons_zero, List.set_cons_succ, i64_w, i32_w]
                 rfl
                refine pure_ (i := 22) (N := some 58) (v := ?_) (a' := ?_) #[true, true, true, true, true, true, true, true, true, true, true, true, true, true, true, true, true, true, true, true, true, true, true] rfl rfl (any_of HT_.out (by kernel_rfl)) (fun _ _ _ h => h) (Or.inl ⟨by rfl, ?_⟩) ?_ ?_
                rotate_left
                ·intro w'
                 go_simp
                 with_reducible rfl
                rotate_left
                ·simp only [Act.put, List.setIfInBounds_toArray, List.set_cons_zero, List.set_cons_succ, i64_w, i32_w]
                 rfl
                refine done_ (done_of HT_.out (by kernel_rfl)) ?_
                try go_wp2
                go_meet
                case rel => exact ⟨_, (x0_3), (x1_3), H', ⟨by have := HJ2.out; have := HJ10.out; have := HK3.out; first | omega | exact Nat.le_refl _⟩, ⟨by (with_reducible repeat (first | apply Kd.V_alloc | apply Kd.V_drewN | apply Kd.V_drew)); exact HO_0.out⟩, ⟨by (with_reducible repeat (first | apply Kd.V_alloc | apply Kd.V_drewN | apply Kd.V_drew)); exact HO_1.out⟩, ⟨by repeat (first | (with_reducible first | exact HB.out | apply below_alloc | apply pw_below_drewN | apply below_drew1) | exact HB.out)⟩⟩
              ·rw [if_neg c44] at H
               exact absurd H (by simp)
             ·rw [if_neg c43] at H
              exact absurd H (by simp)
            ·rw [if_neg c41] at H
             exact absurd H (by simp)
           ·rw [if_neg c40] at H
            exact absurd H (by simp)
          ·rw [if_neg c38] at H
           have c38b0 : decide (0 < (x1_3.length : Int)) = false := decide_eq_false c38
           have c38b1 : decide (0 < x1_3.length) = false := decide_eq_false (by omega)
           clear c38
           have H' := Aside0.mk H
           clear H
           try go_wp2
           have n0_ := Aside0.mk (Kd.V_drew HO_0.out)
           have n1_ := Aside0.mk (Kd.V_drew HO_1.out)
           have n2_ := Aside0.mk (below_drew1 HB.out)
           clear HO_0
           clear HO_1
           clear HB
           have HO_0 := n0_
           have HO_1 := n1_
           have HB := n2_
           clear n0_ n1_ n2_
           obtain ⟨Ao63, co63, eo63⟩ := Kd.V_slice HO_0.out
           (first | subst eo63 | (injection eo63 with f1_ f2_ f3_; have f4_ := f1_.symm; have f5_ := f3_.symm; clear f1_ f2_ f3_; subst f4_; subst f5_))
           obtain ⟨Ao64, co64, eo64⟩ := Kd.V_slice HO_1.out
           (first | subst eo64 | (injection eo64 with f1_ f2_ f3_; have f4_ := f1_.symm; have f5_ := f3_.symm; clear f1_ f2_ f3_; subst f4_; subst f5_))
           refine start_ (n := 23) (S := fun w' => True) (ds := []) #[false, false, false, false, false, false, false, false, false, false, false, false, false, false, false, false, false, false, false, false, false, false, false] (by kernel_rfl) rfl rfl trivial (fun hHeld => ?_); refine with_tabW word_Strip.tab5 word_Strip.bits5 (fun HT_ HW_ => ?_)
           generalize wr.drew = w62 at HO_0 HO_1 HB hHeld ⊢
           refine pure_ (i := 0) (N := some 36) (v := ?_) (a' := ?_) #[true, false, false, false, false, false, false, false, false, false, false, false, false, false, false, false, false, false, false, false, false, false, false] rfl rfl (any_of HT_.out (by kernel_rfl)) (fun _ _ _ h => h) (Or.inl ⟨by rfl, ?_⟩) ?_ ?_
           rotate_left
           ·intro w'
            go_simp
            with_reducible rfl
           rotate_left
           ·simp only [Act.put, List.setIfInBounds_toArray, List.set_cons_zero, List.set_cons_succ, i64_w, i32_w]
            rfl
           refine pure_ (i := 1) (N := some 37) (v := ?_) (a' := ?_) #[true, true, false, false, false, false, false, false, false, false, false, false, false, false, false, false, false, false, false, false, false, false, false] rfl rfl (any_of HT_.out (by kernel_rfl)) (fun _ _ _ h => h) (Or.inl ⟨by rfl, ?_⟩) ?_ ?_
           rotate_left
           ·intro w'
            go_simp
            with_reducible rfl
           rotate_left
           ·simp only [Act.put, List.setIfInBounds_toArray, List.set_cons_zero, List.set_cons_succ, i64_w, i32_w]
            rfl
           refine pure_ (i := 2) (N := some 38) (v := ?_) (a' := ?_) #[true, true, true, false, false, false, false, false, false, false, false, false, false, false, false, false, false, false, false, false, false, false, false] rfl rfl (any_of HT_.out (by kernel_rfl)) (fun _ _ _ h => h) (Or.inl ⟨by rfl, ?_⟩) ?_ ?_
           rotate_left
           ·intro w'
            go_simp
            with_reducible rfl
           rotate_left
           ·simp only [Act.put, List.setIfInBounds_toArray, List.set_cons_zero, List.set_cons_succ, i64_w, i32_w]
            rfl
           refine pure_ (i := 3) (N := some 39) (v := ?_) (a' := ?_) #[true, true, true, true, false, false, false, false, false, false, false, false, false, false, false, false, false, false, false, false, false, false, false] rfl rfl (any_of HT_.out (by kernel_rfl)) (fun _ _ _ h => h) (Or.inl ⟨by rfl, ?_⟩) ?_ ?_
           rotate_left
           ·intro w'
            go_simp
            with_reducible rfl
           rotate_left
           ·simp only [Act.put, List.setIfInBounds_toArray, List.set_cons_zero, List.set_cons_succ, i64_w, i32_w]
            rfl
           refine pure_ (i := 4) (N := some 40) (v := ?_) (a' := ?_) #[true, true, true, true, true, false, false, false, false, false, false, false, false, false, false, false, false, false, false, false, false, false, false] rfl rfl (any_of HT_.out (by kernel_rfl)) (fun _ _ _ h => h) (Or.inl ⟨by rfl, ?_⟩) ?_ ?_
           rotate_left
           ·intro w'
            go_simp
            with_reducible rfl
           rotate_left
           ·simp only [Act.put, List.setIfInBounds_toArray, List.set_cons_zero, List.set_cons_succ, i64_w, i32_w]
            rfl
           refine pure_ (i := 5) (N := some 41) (v := ?_) (a' := ?_) #[true, true, true, true, true, true, false, false, false, false, false, false, false, false, false, false, false, false, false, false, false, false, false] rfl rfl (any_of HT_.out (by kernel_rfl)) (fun _ _ _ h => h) (Or.inl ⟨by rfl, ?_⟩) ?_ ?_
           rotate_left
           ·intro w'
            go_simp
            with_reducible rfl
           rotate_left
           ·simp only [Act.put, List.setIfInBounds_toArray, List.set_cons_zero, List.set_cons_succ, i64_w, i32_w]
            rfl
           refine pure_ (i := 6) (N := some 42) (v := ?_) (a' := ?_) #[true, true, true, true, true, true, true, false, false, false, false, false, false, false, false, false, false, false, false, false, false, false, false] rfl rfl (any_of HT_.out (by kernel_rfl)) (fun _ _ _ h => h) (Or.inl ⟨by rfl, ?_⟩) ?_ ?_
           rotate_left
           ·intro w'
            go_simp
            with_reducible rfl
           rotate_left
           ·simp only [Act.put, List.setIfInBounds_toArray, List.set_cons_zero, List.set_cons_succ, i64_w, i32_w]
            rfl
           refine pure_ (i := 7) (N := some 43) (v := ?_) (a' := ?_) #[true, true, true, true, true, true, true, true, false, false, false, false, false, false, false, false, false, false, false, false, false, false, false] rfl rfl (any_of HT_.out (by kernel_rfl)) (fun _ _ _ h => h) (Or.inl ⟨by rfl, ?_⟩) ?_ ?_
           rotate_left
           ·intro w'
            go_simp
            with_reducible rfl
           rotate_left
           ·simp only [Act.put, List.setIfInBounds_toArray, List.set_cons_zero, List.set_cons_succ, i64_w, i32_w]
            rfl
           refine pure_ (i := 8) (N := some 44) (v := ?_) (a' := ?_) #[true, true, true, true, true, true, true, true, true, false, false, false, false, false, false, false, false, false, false, false, false, false, false] rfl rfl (any_of HT_.out (by kernel_rfl)) (fun _ _ _ h => h) (Or.inl ⟨by rfl, ?_⟩) ?_ ?_
           rotate_left
           ·intro w'
            go_simp
            with_reducible rfl
           rotate_left
           ·simp only [Act.put, List.setIfInBounds_toArray, List.set_cons_zero, List.set_cons_succ, i64_w, i32_w]
            rfl
           refine pure_ (i := 9) (N := some 45) (v := undef) (a' := ?_) #[true, true, true, true, true, true, true, true, true, true, false, false, false, false, false, false, false, false, false, false, false, false, false] rfl rfl (any_of HT_.out (by kernel_rfl)) (fun _ _ _ h => h) (Or.inr ⟨by rfl, rfl⟩) ?_ ?_
           rotate_left
           ·simp only [Act.put, List.setIfInBounds_toArray, List.set_cons_zero, List.set_cons_succ, i64_w, i32_w]
            rfl
           refine pure_ (i := 10) (N := some 46) (v := undef) (a' := ?_) #[true, true, true, true, true, true, true, true, true, true, true, false, false, false, false, false, false, false, false, false, false, false, false] rfl rfl (any_of HT_.out (by kernel_rfl)) (fun _ _ _ h => h) (Or.inr ⟨by rfl, rfl⟩) ?_ ?_
           rotate_left
           ·simp only [Act.put, List.setIfInBounds_toArray, List.set_cons_zero, List.set_cons_succ, i64_w, i32_w]
            rfl
           refine pure_ (i := 11) (N := some 47) (v := undef) (a' := ?_) #[true, true, true, true, true, true, true, true, true, true, true, true, false, false, false, false, false, false, false, false, false, false, false] rfl rfl (any_of HT_.out (by kernel_rfl)) (fun _ _ _ h => h) (Or.inr ⟨by rfl, rfl⟩) ?_ ?_
           rotate_left
           ·simp only [Act.put, List.setIfInBounds_toArray, List.set_cons_zero, List.set_cons_succ, i64_w, i32_w]
            rfl
           refine pure_ (i := 12) (N := some 48) (v := undef) (a' := ?_) #[true, true, true, true, true, true, true, true, true, true, true, true, true, false, false, false, false, false, false, false, false, false, false] rfl rfl (any_of HT_.out (by kernel_rfl)) (fun _ _ _ h => h) (Or.inr ⟨by rfl, rfl⟩) ?_ ?_
           rotate_left
           ·simp only [Act.put, List.setIfInBounds_toArray, List.set_cons_zero, List.set_cons_succ, i64_w, i32_w]
            rfl
           refine pure_ (i := 13) (N := some 49) (v := undef) (a' := ?_) #[true, true, true, true, true, true, true, true, true, true, true, true, true, true, false, false, false, false, false, false, false, false, false] rfl rfl (any_of HT_.out (by kernel_rfl)) (fun _ _ _ h => h) (Or.inr ⟨by rfl, rfl⟩) ?_ ?_
           rotate_left
           ·simp only [Act.put, List.setIfInBounds_toArray, List.set_cons_zero, List.set_cons_succ, i64_w, i32_w]
            rfl
           refine pure_ (i := 14) (N := some 50) (v := undef) (a' := ?_) #[true, true, true, true, true, true, true, true, true, true, true, true, true, true, true, false, false, false, false, false, false, false, false] rfl rfl (any_of HT_.out (by kernel_rfl)) (fun _ _ _ h => h) (Or.inr ⟨by rfl, rfl⟩) ?_ ?_
           rotate_left
           ·simp only [Act.put, List.setIfInBounds_toArray, List.set_cons_zero, List.set_cons_succ, i64_w, i32_w]
            rfl
           refine pure_ (i := 15) (N := some 51) (v := undef) (a' := ?_) #[true, true, true, true, true, true, true, true, true, true, true, true, true, true, true, true, false, false, false, false, false, false, false] rfl rfl (any_of HT_.out (by kernel_rfl)) (fun _ _ _ h => h) (Or.inr ⟨by rfl, rfl⟩) ?_ ?_
           rotate_left
           ·simp only [Act.put, List.setIfInBounds_toArray, List.set_cons_zero, List.set_cons_succ, i64_w, i32_w]
            rfl
           refine pure_ (i := 16) (N := some 52) (v := undef) (a' := ?_) #[true, true, true, true, true, true, true, true, true, true, true, true, true, true, true, true, true, false, false, false, false, false, false] rfl rfl (any_of HT_.out (by kernel_rfl)) (fun _ _ _ h => h) (Or.inr ⟨by rfl, rfl⟩) ?_ ?_
           rotate_left
           ·simp only [Act.put, List.setIfInBounds_toArray, List.set_cons_zero, List.set_cons_succ, i64_w, i32_w]
            rfl
           refine pure_ (i := 17) (N := some 53) (v := undef) (a' := ?_) #[true, true, true, true, true, true, true, true, true, true, true, true, true, true, true, true, true, true, false, false, false, false, false] rfl rfl (any_of HT_.out (by kernel_rfl)) (fun _ _ _ h => h) (Or.inr ⟨by rfl, rfl⟩) ?_ ?_
           rotate_left
           ·simp only [Act.put, List.setIfInBounds_toArray, List.set_cons_zero, List.set_cons_succ, i64_w, i32_w]
            rfl
           refine pure_ (i := 18) (N := some 54) (v := undef) (a' := ?_) #[true, true, true, true, true, true, true, true, true, true, true, true, true, true, true, true, true, true, true, false, false, false, false] rfl rfl (any_of HT_.out (by kernel_rfl)) (fun _ _ _ h => h) (Or.inr ⟨by rfl, rfl⟩) ?_ ?_
           rotate_left
           ·simp only [Act.put, List.setIfInBounds_toArray, List.set_cons_zero, List.set_cons_succ, i64_w, i32_w]
            rfl
           refine pure_ (i := 19) (N := some 55) (v := undef) (a' := ?_) #[true, true, true, true, true, true, true, true, true, true, true, true, true, true, true, true, true, true, true, true, false, false, false] rfl rfl (any_of HT_.out (by kernel_rfl)) (fun _ _ _ h => h) (Or.inr ⟨by rfl, rfl⟩) ?_ ?_
           rotate_left
           ·simp only [Act.put, List.setIfInBounds_toArray, List.set_cons_zero, List.set_cons_succ, i64_w, i32_w]
            rfl
           refine pure_ (i := 20) (N := some 56) (v := undef) (a' := ?_) #[true, true, true, true, true, true, true, true, true, true, true, true, true, true, true, true, true, true, true, true, true, false, false] rfl rfl (any_of HT_.out (by kernel_rfl)) (fun _ _ _ h => h) (Or.inr ⟨by rfl, rfl⟩) ?_ ?_
           rotate_left
           ·simp only [Act.put, List.setIfInBounds_toArray, List.set_cons_zero, List.set_cons_succ, i64_w, i32_w]
            rfl
           refine pure_ (i := 21) (N := some 57) (v := undef) (a' := ?_) #[true, true, true, true, true, true, true, true, true, true, true, true, true, true, true, true, true, true, true, true, true, true, false] rfl rfl (any_of HT_.out (by kernel_rfl)) (fun _ _ _ h => h) (Or.inr ⟨by rfl, rfl⟩) ?_ ?_
           rotate_left
           ·simp only [Act.put, List.setIfInBounds_toArray, List.set_cons_zero, List.set_cons_succ, i64_w, i32_w]
            rfl
           refine pure_ (i := 22) (N := some 58) (v := ?_) (a' := ?_) #[true, true, true, true, true, true, true, true, true, true, true, true, true, true, true, true, true, true, true, true, true, true, true] rfl rfl (any_of HT_.out (by kernel_rfl)) (fun _ _ _ h => h) (Or.inl ⟨by rfl, ?_⟩) ?_ ?_
           rotate_left
           ·intro w'
            go_simp
            with_reducible rfl
           rotate_left
           ·simp only [Act.put, List.setIfInBounds_toArray, List.set_cons_zero, List.set_cons_succ, i64_w, i32_w]
            rfl
           refine done_ (done_of HT_.out (by kernel_rfl)) ?_
           try go_wp2
           go_meet
           case rel => exact ⟨_, (x0_3), (x1_3), H', ⟨by have := HJ2.out; have := HJ10.out; have := HK3.out; first | omega | exact Nat.le_refl _⟩, ⟨by (with_reducible repeat (first | apply Kd.V_alloc | apply Kd.V_drewN | apply Kd.V_drew)); exact HO_0.out⟩, ⟨by (with_reducible repeat (first | apply Kd.V_alloc | apply Kd.V_drewN | apply Kd.V_drew)); exact HO_1.out⟩, ⟨by repeat (first | (with_reducible first | exact HB.out | apply below_alloc | apply pw_below_drewN | apply below_drew1) | exact HB.out)⟩⟩
         ·rw [if_neg c37] at H
          have c37b0 : decide (0 < (x0_3.length : Int)) = false := decide_eq_false c37
          have c37b1 : decide (0 < x0_3.length) = false := decide_eq_false (by omega)
          clear c37
          (first | rw [c37b0] | rw [c37b1] | (simp only [i64_w, i32_w]; rw [c37b0]) | skip)
          have H' := Aside0.mk H
          clear H
          try go_wp2
          have n0_ := Aside0.mk (Kd.V_drew HO_0.out)
          have n1_ := Aside0.mk (Kd.V_drew HO_1.out)
          have n2_ := Aside0.mk (below_drew1 HB.out)
          clear HO_0
          clear HO_1
          clear HB
          have HO_0 := n0_
          have HO_1 := n1_
          have HB := n2_
          clear n0_ n1_ n2_
          obtain ⟨Ao66, co66, eo66⟩ := Kd.V_slice HO_0.out
          (first | subst eo66 | (injection eo66 with f1_ f2_ f3_; have f4_ := f1_.symm; have f5_ := f3_.symm; clear f1_ f2_ f3_; subst f4_; subst f5_))
          refine start_ (n := 23) (S := fun w' => True) (ds := []) #[false, false, false, false, false, false, false, false, false, false, false, false, false, false, false, false, false, false, false, false, false, false, false] (by kernel_rfl) rfl rfl trivial (fun hHeld => ?_); refine with_tabW word_Strip.tab5 word_Strip.bits5 (fun HT_ HW_ => ?_)
          generalize wr.drew = w65 at HO_0 HO_1 HB hHeld ⊢
          refine pure_ (i := 0) (N := some 36) (v := ?_) (a' := ?_) #[true, false, false, false, false, false, false, false, false, false, false, false, false, false, false, false, false, false, false, false, false, false, false] rfl rfl (any_of HT_.out (by kernel_rfl)) (fun _ _ _ h => h) (Or.inl ⟨by rfl, ?_⟩) ?_ ?_
          rotate_left
          ·intro w'
           go_simp
           with_reducible rfl
          rotate_left
          ·simp only [Act.put, List.setIfInBounds_toArray, List.set_cons_zero, List.set_cons_succ, i64_w, i32_w]
           rfl
          refine pure_ (i := 1) (N := some 37) (v := ?_) (a' := ?_) #[true, true, false, false, false, false, false, false, false, false, false, false, false, false, false, false, false, false, false, false, false, false, false] rfl rfl (any_of HT_.out (by kernel_rfl)) (fun _ _ _ h => h) (Or.inl ⟨by rfl, ?_⟩) ?_ ?_
          rotate_left
          ·intro w'
           go_simp
           with_reducible rfl
          rotate_left
          ·simp only [Act.put, List.setIfInBounds_toArray, List.set_cons_zero, List.set_cons_succ, i64_w, i32_w]
           rfl
          refine pure_ (i := 2) (N := some 38) (v := ?_) (a' := ?_) #[true, true, true, false, false, false, false, false, false, false, false, false, false, false, false, false, false, false, false, false, false, false, false] rfl rfl (any_of HT_.out (by kernel_rfl)) (fun _ _ _ h => h) (Or.inl ⟨by rfl, ?_⟩) ?_ ?_
          rotate_left
          ·intro w'
           go_simp
           with_reducible rfl
          rotate_left
          ·simp only [Act.put, List.setIfInBounds_toArray, List.set_cons_zero, List.set_cons_succ, i64_w, i32_w]
           rfl
          refine pure_ (i := 3) (N := some 39) (v := ?_) (a' := ?_) #[true, true, true, true, false, false, false, false, false, false, false, false, false, false, false, false, false, false, false, false, false, false, false] rfl rfl (any_of HT_.out (by kernel_rfl)) (fun _ _ _ h => h) (Or.inl ⟨by rfl, ?_⟩) ?_ ?_
          rotate_left
          ·intro w'
           go_simp
           with_reducible rfl
          rotate_left
          ·simp only [Act.put, List.setIfInBounds_toArray, List.set_cons_zero, List.set_cons_succ, i64_w, i32_w]
           rfl
          refine pure_ (i := 4) (N := some 40) (v := undef) (a' := ?_) #[true, true, true, true, true, false, false, false, false, false, false, false, false, false, false, false, false, false, false, false, false, false, false] rfl rfl (any_of HT_.out (by kernel_rfl)) (fun _ _ _ h => h) (Or.inr ⟨by rfl, rfl⟩) ?_ ?_
          rotate_left
          ·simp only [Act.put, List.setIfInBounds_toArray, List.set_cons_zero, List.set_cons_succ, i64_w, i32_w]
           rfl
          refine pure_ (i := 5) (N := some 41) (v := undef) (a' := ?_) #[true, true, true, true, true, true, false, false, false, false, false, false, false, false, false, false, false, false, false, false, false, false, false] rfl rfl (any_of HT_.out (by kernel_rfl)) (fun _ _ _ h => h) (Or.inr ⟨by rfl, rfl⟩) ?_ ?_
          rotate_left
          ·simp only [Act.put, List.setIfInBounds_toArray, List.set_cons_zero, List.set_cons_succ, i64_w, i32_w]
           rfl
          refine pure_ (i := 6) (N := some 42) (v := undef) (a' := ?_) #[true, true, true, true, true, true, true, false, false, false, false, false, false, false, false, false, false, false, false, false, false, false, false] rfl rfl (any_of HT_.out (by kernel_rfl)) (fun _ _ _ h => h) (Or.inr ⟨by rfl, rfl⟩) ?_ ?_
          rotate_left
          ·simp only [Act.put, List.setIfInBounds_toArray, List.set_cons_zero, List.set_cons_succ, i64_w, i32_w]
           rfl
          refine pure_ (i := 7) (N := some 43) (v := ?_) (a' := ?_) #[true, true, true, true, true, true, true, true, false, false, false, false, false, false, false, false, false, false, false, false, false, false, false] rfl rfl (any_of HT_.out (by kernel_rfl)) (fun _ _ _ h => h) (Or.inl ⟨by rfl, ?_⟩) ?_ ?_
          rotate_left
          ·intro w'
           go_simp
           with_reducible rfl
          rotate_left
          ·simp only [Act.put, List.setIfInBounds_toArray, List.set_cons_zero, List.set_cons_succ, i64_w, i32_w]
           rfl
          refine pure_ (i := 8) (N := some 44) (v := ?_) (a' := ?_) #[true, true, true, true, true, true, true, true, true, false, false, false, false, false, false, false, false, false, false, false, false, false, false] rfl rfl (any_of HT_.out (by kernel_rfl)) (fun _ _ _ h => h) (Or.inl ⟨by rfl, ?_⟩) ?_ ?_
          rotate_left
          ·intro w'
           go_simp
           with_reducible rfl
          rotate_left
          ·simp only [Act.put, List.setIfInBounds_toArray, List.set_cons_zero, List.set_cons_succ, i64_w, i32_w]
           rfl
          refine pure_ (i := 9) (N := some 45) (v := undef) (a' := ?_) #[true, true, true, true, true, true, true, true, true, true, false, false, false, false, false, false, false, false, false, false, false, false, false] rfl rfl (any_of HT_.out (by kernel_rfl)) (fun _ _ _ h => h) (Or.inr ⟨by rfl, rfl⟩) ?_ ?_
          rotate_left
          ·simp only [Act.put, List.setIfInBounds_toArray, List.set_cons_zero, List.set_cons_succ, i64_w, i32_w]
           rfl
          refine pure_ (i := 10) (N := some 46) (v := undef) (a' := ?_) #[true, true, true, true, true, true, true, true, true, true, true, false, false, false, false, false, false, false, false, false, false, false, false] rfl rfl (any_of HT_.out (by kernel_rfl)) (fun _ _ _ h => h) (Or.inr ⟨by rfl, rfl⟩) ?_ ?_
          rotate_left
          ·simp only [Act.put, List.setIfInBounds_toArray, List.set_cons_zero, List.set_cons_succ, i64_w, i32_w]
           rfl
          refine pure_ (i := 11) (N := some 47) (v := undef) (a' := ?_) #[true, true, true, true, true, true, true, true, true, true, true, true, false, false, false, false, false, false, false, false, false, false, false] rfl rfl (any_of HT_.out (by kernel_rfl)) (fun _ _ _ h => h) (Or.inr ⟨by rfl, rfl⟩) ?_ ?_
          rotate_left
          ·simp only [Act.put, List.setIfInBounds_toArray, List.set_cons_zero, List.set_cons_succ, i64_w, i32_w]
           rfl
          refine pure_ (i := 12) (N := some 48) (v := undef) (a' := ?_) #[true, true, true, true, true, true, true, true, true, true, true, true, true, false, false, false, false, false, false, false, false, false, false] rfl rfl (any_of HT_.out (by kernel_rfl)) (fun _ _ _ h => h) (Or.inr ⟨by rfl, rfl⟩) ?_ ?_
          rotate_left
          ·simp only [Act.put, List.setIfInBounds_toArray, List.set_cons_zero, List.set_cons_succ, i64_w, i32_w]
           rfl
          refine pure_ (i := 13) (N := some 49) (v := undef) (a' := ?_) #[true, true, true, true, true, true, true, true, true, true, true, true, true, true, false, false, false, false, false, false, false, false, false] rfl rfl (any_of HT_.out (by kernel_rfl)) (fun _ _ _ h => h) (Or.inr ⟨by rfl, rfl⟩) ?_ ?_
          rotate_left
          ·simp only [Act.put, List.setIfInBounds_toArray, List.set_cons_zero, List.set_cons_succ, i64_w, i32_w]
           rfl
          refine pure_ (i := 14) (N := some 50) (v := undef) (a' := ?_) #[true, true, true, true, true, true, true, true, true, true, true, true, true, true, true, false, false, false, false, false, false, false, false] rfl rfl (any_of HT_.out (by kernel_rfl)) (fun _ _ _ h => h) (Or.inr ⟨by rfl, rfl⟩) ?_ ?_
          rotate_left
          ·simp only [Act.put, List.setIfInBounds_toArray, List.set_cons_zero, List.set_cons_succ, i64_w, i32_w]
           rfl
          refine pure_ (i := 15) (N := some 51) (v := undef) (a' := ?_) #[true, true, true, true, true, true, true, true, true, true, true, true, true, true, true, true, false, false, false, false, false, false, false] rfl rfl (any_of HT_.out (by kernel_rfl)) (fun _ _ _ h => h) (Or.inr ⟨by rfl, rfl⟩) ?_ ?_
          rotate_left
          ·simp only [Act.put, List.setIfInBounds_toArray, List.set_cons_zero, List.set_cons_succ, i64_w, i32_w]
           rfl
          refine pure_ (i := 16) (N := some 52) (v := undef) (a' := ?_) #[true, true, true, true, true, true, true, true, true, true, true, true, true, true, true, true, true, false, false, false, false, false, false] rfl rfl (any_of HT_.out (by kernel_rfl)) (fun _ _ _ h => h) (Or.inr ⟨by rfl, rfl⟩) ?_ ?_
          rotate_left
          ·simp only [Act.put, List.setIfInBounds_toArray, List.set_cons_zero, List.set_cons_succ, i64_w, i32_w]
           rfl
          refine pure_ (i := 17) (N := some 53) (v := undef) (a' := ?_) #[true, true, true, true, true, true, true, true, true, true, true, true, true, true, true, true, true, true, false, false, false, false, false] rfl rfl (any_of HT_.out (by kernel_rfl)) (fun _ _ _ h => h) (Or.inr ⟨by rfl, rfl⟩) ?_ ?_
          rotate_left
          ·simp only [Act.put, List.setIfInBounds_toArray, List.set_cons_zero, List.set_cons_succ, i64_w, i32_w]
           rfl
          refine pure_ (i := 18) (N := some 54) (v := undef) (a' := ?_) #[true, true, true, true, true, true, true, true, true, true, true, true, true, true, true, true, true, true, true, false, false, false, false] rfl rfl (any_of HT_.out (by kernel_rfl)) (fun _ _ _ h => h) (Or.inr ⟨by rfl, rfl⟩) ?_ ?_
          rotate_left
          ·simp only [Act.put, List.setIfInBounds_toArray, List.set_cons_zero, List.set_cons_succ, i64_w, i32_w]
           rfl
          refine pure_ (i := 19) (N := some 55) (v := undef) (a' := ?_) #[true, true, true, true, true, true, true, true, true, true, true, true, true, true, true, true, true, true, true, true, false, false, false] rfl rfl (any_of HT_.out (by kernel_rfl)) (fun _ _ _ h => h) (Or.inr ⟨by rfl, rfl⟩) ?_ ?_
          rotate_left
          ·simp only [Act.put, List.setIfInBounds_toArray, List.set_cons_zero, List.set_cons_succ, i64_w, i32_w]
           rfl
          refine pure_ (i := 20) (N := some 56) (v := undef) (a' := ?_) #[true, true, true, true, true, true, true, true, true, true, true, true, true, true, true, true, true, true, true, true, true, false, false] rfl rfl (any_of HT_.out (by kernel_rfl)) (fun _ _ _ h => h) (Or.inr ⟨by rfl, rfl⟩) ?_ ?_
          rotate_left
          ·simp only [Act.put, List.setIfInBounds_toArray, List.set_cons_zero, List.set_cons_succ, i64_w, i32_w]
           rfl
          refine pure_ (i := 21) (N := some 57) (v := undef) (a' := ?_) #[true, true, true, true, true, true, true, true, true, true, true, true, true, true, true, true, true, true, true, true, true, true, false] rfl rfl (any_of HT_.out (by kernel_rfl)) (fun _ _ _ h => h) (Or.inr ⟨by rfl, rfl⟩) ?_ ?_
          rotate_left
          ·simp only [Act.put, List.setIfInBounds_toArray, List.set_cons_zero, List.set_cons_succ, i64_w, i32_w]
           rfl
          refine pure_ (i := 22) (N := some 58) (v := ?_) (a' := ?_) #[true, true, true, true, true, true, true, true, true, true, true, true, true, true, true, true, true, true, true, true, true, true, true] rfl rfl (any_of HT_.out (by kernel_rfl)) (fun _ _ _ h => h) (Or.inl ⟨by rfl, ?_⟩) ?_ ?_
          rotate_left
          ·intro w'
           go_simp
           with_reducible rfl
          rotate_left
          ·simp only [Act.put, List.setIfInBounds_toArray, List.set_cons_zero, List.set_cons_succ, i64_w, i32_w]
           rfl
          refine done_ (done_of HT_.out (by kernel_rfl)) ?_
          try go_wp2
          go_meet
          case rel => exact ⟨_, (x0_3), (x1_3), H', ⟨by have := HJ2.out; have := HJ10.out; have := HK3.out; first | omega | exact Nat.le_refl _⟩, ⟨by (with_reducible repeat (first | apply Kd.V_alloc | apply Kd.V_drewN | apply Kd.V_drew)); exact HO_0.out⟩, ⟨by (with_reducible repeat (first | apply Kd.V_alloc | apply Kd.V_drewN | apply Kd.V_drew)); exact HO_1.out⟩, ⟨by repeat (first | (with_reducible first | exact HB.out | apply below_alloc | apply pw_below_drewN | apply below_drew1) | exact HB.out)⟩⟩
      case rest =>
       clear HC36
       try clear p1
       try clear q1
       try clear hx1
       try clear p2
       try clear c3
       try clear c4
       try clear c5
       try clear p15
       try clear q15
       try clear hx15
       try clear c37
       try clear c37b0
       try clear c37b1
       try clear c38
       try clear c38b0
       try clear c38b1
       try clear c40
       try clear c41
       try clear c43
       try clear c44
       try clear c46
       try clear c48
       try clear c50
       try clear c51
       try clear hx157_0
       try clear hx157_1
       try clear hx158_0
       try clear hx158_1
       try clear p157
       try clear p158
       try clear q157
       try clear q158
       obtain ⟨kq, x0_35, x1_35, HA, HJ35, HO_0, HO_1, HB⟩ := hcut
       cases kq with
       | zero => exact absurd HA.out (by simp [word_Strip.j4])
       | succ kj35 =>
        have H := HA.out
        clear HA
        simp only [word_Strip.j4] at H
        have HC67 := Aside0.mk H
        clear H
        go_upto_region 7 with (fail)
        go_cut [69] (fun v69 wc => ∃ (kq : Nat) (x69_66 : Bool), v69 = .bool x69_66 ∧ Aside0 (word_Strip.j5 kq x0_35 x1_35 x69_66 = some (r1, r2, r3)) ∧ Aside0 (kq ≤ kj35) ∧ Aside0 (Kd.V k69 69 wc w.heap.size (fun k_ => ((P0_ k_ ∨ P1_ k_) ∨ w.heap.size ≤ k_)) u0 x0_35) ∧ Aside0 (Kd.V k69 69 wc w.heap.size (fun k_ => ((P0_ k_ ∨ P1_ k_) ∨ w.heap.size ≤ k_)) u1 x1_35) ∧ Aside0 (Below w.heap.size w wc))
        case first =>
         have H := HC67.out
         clear HC67
         by_cases c68 : (x0_35.length : Int) = 0
         ·rw [if_pos c68] at H
          have c68b0 : ((x0_35.length : Int) == 0) = true := beq_iff_eq.mpr c68
          have c68b1 : ((x0_35.length : Int) != 0) = false := bne_eq_false_iff_eq.mpr c68
          clear c68
          (first | rw [c68b0] | rw [c68b1] | (simp only [i64_w, i32_w]; rw [c68b0]) | skip)
          have H' := Aside0.mk H
          clear H
          obtain ⟨Ao69, co69, eo69⟩ := Kd.V_slice HO_0.out
          subst eo69
          obtain ⟨Ao70, co70, eo70⟩ := Kd.V_slice HO_1.out
          subst eo70
          go_wp2
          go_meet
          case rel => exact ⟨_, (((x1_35.length : Int) == 0)), (by first | rfl | (simp; done) | (simp [*]; done) | (refine congrArg (Value.int _) ?_; omega) | (refine congrArg Value.bool ?_; generalize ByteArray.toList _ = z_; cases z_ <;> rfl)), H', ⟨by have := HJ2.out; have := HJ10.out; have := HJ35.out; first | omega | exact Nat.le_refl _⟩, ⟨by (with_reducible repeat (first | apply Kd.V_alloc | apply Kd.V_drewN | apply Kd.V_drew)); exact HO_0.out⟩, ⟨by (with_reducible repeat (first | apply Kd.V_alloc | apply Kd.V_drewN | apply Kd.V_drew)); exact HO_1.out⟩, ⟨by repeat (first | (with_reducible first | exact HB.out | apply below_alloc | apply pw_below_drewN | apply below_drew1) | exact HB.out)⟩⟩
         ·rw [if_neg c68] at H
          have c68b0 : ((x0_35.length : Int) == 0) = false := beq_eq_false_iff_ne.mpr c68
          have c68b1 : ((x0_35.length : Int) != 0) = true := bne_iff_ne.mpr c68
          have c68b2 : ¬ (x0_35 = []) := fun h_ => c68 (by rw [h_]; rfl)
          (first | rw [c68b0] | rw [c68b1] | (simp only [i64_w, i32_w]; rw [c68b0]) | skip)
          have H' := Aside0.mk H
          clear H
          obtain ⟨Ao71, co71, eo71⟩ := Kd.V_slice HO_0.out
          subst eo71
          go_wp2
          go_meet
          case rel => exact ⟨_, (false), (by first | rfl | (simp; done) | (simp [*]; done) | (refine congrArg (Value.int _) ?_; omega) | (refine congrArg Value.bool ?_; generalize ByteArray.toList _ = z_; cases z_ <;> rfl)), H', ⟨by have := HJ2.out; have := HJ10.out; have := HJ35.out; first | omega | exact Nat.le_refl _⟩, ⟨by (with_reducible repeat (first | apply Kd.V_alloc | apply Kd.V_drewN | apply Kd.V_drew)); exact HO_0.out⟩, ⟨by (with_reducible repeat (first | apply Kd.V_alloc | apply Kd.V_drewN | apply Kd.V_drew)); exact HO_1.out⟩, ⟨by repeat (first | (with_reducible first | exact HB.out | apply below_alloc | apply pw_below_drewN | apply below_drew1) | exact HB.out)⟩⟩
        case rest =>
         clear HC67
         try clear p1
         try clear q1
         try clear hx1
         try clear p2
         try clear c3
         try clear c4
         try clear c5
         try clear c6
         try clear p15
         try clear q15
         try clear hx15
         try clear c37
         try clear c37b0
         try clear c37b1
         try clear c38
         try clear c38b0
         try clear c38b1
         try clear c40
         try clear c41
         try clear c43
         try clear c44
         try clear c46
         try clear c48
         try clear c50
         try clear c51
         try clear c68
         try clear c68b0
         try clear c68b1
         try clear c68b2
         try clear hx157_0
         try clear hx157_1
         try clear hx158_0
         try clear hx158_1
         try clear p1
         try clear p15
         try clear p157
         try clear p158
         try clear p2
         try clear q1
         try clear q15
         try clear q157
         try clear q158
         obtain ⟨kq, x69_66, rfl, HA, HJ66, HO_0, HO_1, HB⟩ := hcut
         cases kq with
         | zero => exact absurd HA.out (by simp [word_Strip.j5])
         | succ kj66 =>
          have H := HA.out
          clear HA
          simp only [word_Strip.j5] at H
          by_cases c72 : x69_66 = true
          ·subst c72
           have H1 : (some (([] : List (S69)), ([] : List (S69)), 1)) = some (r1, r2, r3) := by rw [if_pos rfl] at H; exact H
           clear H
           have H := H1
           clear H1
           simp only [Option.some.injEq, Prod.mk.injEq] at H
           obtain ⟨rfl, rfl, rfl⟩ := H
           go_wp2
           go_ret3
           exact ⟨_, _, by first | rfl | (simp [errW_none, errW_some] <;> rfl) | (simp [*, errW_none, errW_some] <;> rfl), by first | exact Kd.R_nil _ _ _ _ _ | exact Kd.N_nil _ _ _ _ _ | exact Kd.V_nil _ _ _ _ _ | exact Kd.Q_nil _ _ _ _ _ | exact Kd.S_nil _ _ _ _ _, by first | exact Kd.R_nil _ _ _ _ _ | exact Kd.N_nil _ _ _ _ _ | exact Kd.V_nil _ _ _ _ _ | exact Kd.Q_nil _ _ _ _ _ | exact Kd.S_nil _ _ _ _ _, by repeat (first | (with_reducible first | exact HB.out | apply below_alloc | apply pw_below_drewN | apply below_drew1) | exact HB.out)⟩
          ·replace c72 := Bool.eq_false_iff.mpr c72
           subst c72
           have H1 : (if (x0_35.length : Int) = 0 then (word_Strip.j6 kj66 x0_35 x1_35 true) else (word_Strip.j6 kj66 x0_35 x1_35 ((x1_35.length : Int) == 0))) = some (r1, r2, r3) := by rw [if_neg (show ¬ (false = true) by decide)] at H; exact H
           clear H
           have H := H1
           clear H1
           have HC73 := Aside0.mk H
           clear H
           go_upto_region 9 with (fail)
           go_cut [78] (fun v78 wc => ∃ (kq : Nat) (x78_72 : Bool), v78 = .bool x78_72 ∧ Aside0 (word_Strip.j6 kq x0_35 x1_35 x78_72 = some (r1, r2, r3)) ∧ Aside0 (kq ≤ kj66) ∧ Aside0 (Kd.V k69 69 wc w.heap.size (fun k_ => ((P0_ k_ ∨ P1_ k_) ∨ w.heap.size ≤ k_)) u0 x0_35) ∧ Aside0 (Kd.V k69 69 wc w.heap.size (fun k_ => ((P0_ k_ ∨ P1_ k_) ∨ w.heap.size ≤ k_)) u1 x1_35) ∧ Aside0 (Below w.heap.size w wc))
           case first =>
            have H := HC73.out
            clear HC73
            by_cases c74 : (x0_35.length : Int) = 0
            ·rw [if_pos c74] at H
             have c74b0 : ((x0_35.length : Int) == 0) = true := beq_iff_eq.mpr c74
             have c74b1 : ((x0_35.length : Int) != 0) = false := bne_eq_false_iff_eq.mpr c74
             clear c74
             (first | rw [c74b0] | rw [c74b1] | (simp only [i64_w, i32_w]; rw [c74b0]) | skip)
             have H' := Aside0.mk H
             clear H
             obtain ⟨Ao75, co75, eo75⟩ := Kd.V_slice HO_0.out
             subst eo75
             go_wp2
             go_meet
             case rel => exact ⟨_, (true), (by first | rfl | (simp; done) | (simp [*]; done) | (refine congrArg (Value.int _) ?_; omega) | (refine congrArg Value.bool ?_; generalize ByteArray.toList _ = z_; cases z_ <;> rfl)), H', ⟨by have := HJ2.out; have := HJ10.out; have := HJ35.out; have := HJ66.out; first | omega | exact Nat.le_refl _⟩, ⟨by (with_reducible repeat (first | apply Kd.V_alloc | apply Kd.V_drewN | apply Kd.V_drew)); exact HO_0.out⟩, ⟨by (with_reducible repeat (first | apply Kd.V_alloc | apply Kd.V_drewN | apply Kd.V_drew)); exact HO_1.out⟩, ⟨by repeat (first | (with_reducible first | exact HB.out | apply below_alloc | apply pw_below_drewN | apply below_drew1) | exact HB.out)⟩⟩
            ·rw [if_neg c74] at H
             have c74b0 : ((x0_35.length : Int) == 0) = false := beq_eq_false_iff_ne.mpr c74
             have c74b1 : ((x0_35.length : Int) != 0) = true := bne_iff_ne.mpr c74
             have c74b2 : ¬ (x0_35 = []) := fun h_ => c74 (by rw [h_]; rfl)
             (first | rw [c74b0] | rw [c74b1] | (simp only [i64_w, i32_w]; rw [c74b0]) | skip)
             have H' := Aside0.mk H
             clear H
             obtain ⟨Ao76, co76, eo76⟩ := Kd.V_slice HO_0.out
             subst eo76
             obtain ⟨Ao77, co77, eo77⟩ := Kd.V_slice HO_1.out
             subst eo77
             go_wp2
             go_meet
             case rel => exact ⟨_, (((x1_35.length : Int) == 0)), (by first | rfl | (simp; done) | (simp [*]; done) | (refine congrArg (Value.int _) ?_; omega) | (refine congrArg Value.bool ?_; generalize ByteArray.toList _ = z_; cases z_ <;> rfl)), H', ⟨by have := HJ2.out; have := HJ10.out; have := HJ35.out; have := HJ66.out; first | omega | exact Nat.le_refl _⟩, ⟨by (with_reducible repeat (first | apply Kd.V_alloc | apply Kd.V_drewN | apply Kd.V_drew)); exact HO_0.out⟩, ⟨by (with_reducible repeat (first | apply Kd.V_alloc | apply Kd.V_drewN | apply Kd.V_drew)); exact HO_1.out⟩, ⟨by repeat (first | (with_reducible first | exact HB.out | apply below_alloc | apply pw_below_drewN | apply below_drew1) | exact HB.out)⟩⟩
           case rest =>
            clear HC73
            try clear p1
            try clear q1
            try clear hx1
            try clear p2
            try clear c3
            try clear c4
            try clear c5
            try clear c6
            try clear c7
            try clear p15
            try clear q15
            try clear hx15
            try clear c37
            try clear c37b0
            try clear c37b1
            try clear c38
            try clear c38b0
            try clear c38b1
            try clear c40
            try clear c41
            try clear c43
            try clear c44
            try clear c46
            try clear c48
            try clear c50
            try clear c51
            try clear c68
            try clear c68b0
            try clear c68b1
            try clear c68b2
            try clear c72
            try clear c74
            try clear c74b0
            try clear c74b1
            try clear c74b2
            try clear hx157_0
            try clear hx157_1
            try clear hx158_0
            try clear hx158_1
            try clear p1
            try clear p15
            try clear p157
            try clear p158
            try clear p2
            try clear q1
            try clear q15
            try clear q157
            try clear q158
            obtain ⟨kq, x78_72, rfl, HA, HJ72, HO_0, HO_1, HB⟩ := hcut
            cases kq with
            | zero => exact absurd HA.out (by simp [word_Strip.j6])
            | succ kj72 =>
             have H := HA.out
             clear HA
             simp only [word_Strip.j6] at H
             by_cases c78 : x78_72 = true
             ·subst c78
              have H1 : ((word_point.f kj72 x0_35).bind fun t170 => (if t170 = true then (word_Strip.j7 kj72 x0_35 x1_35 true) else ((word_point.f kj72 x1_35).bind fun t171 => (word_Strip.j7 kj72 x0_35 x1_35 t171)))) = some (r1, r2, r3) := by rw [if_pos rfl] at H; exact H
              clear H
              have H := H1
              clear H1
              have HC79 := Aside0.mk H
              clear H
              go_upto_region 10 with (fail)
              go_cut [92] (fun v92 wc => ∃ (kq : Nat) (x92_78 : Bool), v92 = .bool x92_78 ∧ Aside0 (word_Strip.j7 kq x0_35 x1_35 x92_78 = some (r1, r2, r3)) ∧ Aside0 (kq ≤ kj72) ∧ Aside0 (Kd.V k69 69 wc w.heap.size (fun k_ => ((P0_ k_ ∨ P1_ k_) ∨ w.heap.size ≤ k_)) u0 x0_35) ∧ Aside0 (Kd.V k69 69 wc w.heap.size (fun k_ => ((P0_ k_ ∨ P1_ k_) ∨ w.heap.size ≤ k_)) u1 x1_35) ∧ Aside0 (Below w.heap.size w wc))
              case first =>
               have H := HC79.out
               clear HC79
               replace H := Option.bind_eq_some_iff.mp H
               obtain ⟨t170, A800, H⟩ := H
               replace H : (if t170 = true then (word_Strip.j7 kj72 x0_35 x1_35 true) else ((word_point.f kj72 x1_35).bind fun t171 => (word_Strip.j7 kj72 x0_35 x1_35 t171))) = some (r1, r2, r3) := H
               have A80 := Aside0.mk A800
               clear A800
               by_cases c81 : t170 = true
               ·subst c81
                have H1 : (word_Strip.j7 kj72 x0_35 x1_35 true) = some (r1, r2, r3) := by rw [if_pos rfl] at H; exact H
                clear H
                have H := H1
                clear H1
                have H' := Aside0.mk H
                clear H
                obtain ⟨Ao82, co82, eo82⟩ := Kd.V_slice HO_0.out
                subst eo82
                go_wp2_with (first | ((with_reducible refine gate_callee (f := 52) rfl ?_); refine goesL_ (some 88) rfl rfl Try.func52 (by kernel_rfl) rfl #[.slice Ao82 x0_35.length co82] rfl (by (try simp only [List.map_toArray, List.map_cons, List.map_nil]); first | done | rfl | (simp only [List.length_drop, List.length_take]; rfl)) ?_; (with_reducible refine (word_point.calls kj72 _ _ x0_35 true _ ?side1 ?side2 A80.out).mono ?_); (case side1 => repeat (first | exact (Kd.V_reads' HO_0.out).2.2 | (with_reducible refine Kd.C_alloc ?_ _) | (with_reducible refine Kd.C_drewN ?_ _) | (with_reducible refine Kd.C_drew ?_))); (case side2 => exact (Kd.V_reads' HO_0.out).2.1); rintro e w83 ⟨rfl, hb⟩; refine ⟨_, rfl, ?_⟩; have n0_ := Aside0.mk (Kd.V_below (by (with_reducible repeat (first | apply Kd.V_alloc | apply Kd.V_drewN | apply Kd.V_drew)); exact HO_0.out) hb); have n1_ := Aside0.mk (Kd.V_below (by (with_reducible repeat (first | apply Kd.V_alloc | apply Kd.V_drewN | apply Kd.V_drew)); exact HO_1.out) hb); have n2_ := Aside0.mk (below_step (by repeat (first | (with_reducible first | exact HB.out | apply below_alloc | apply pw_below_drewN | apply below_drew1) | exact HB.out)) hb); clear HO_0; clear HO_1; clear HB; have HO_0 := n0_; have HO_1 := n1_; have HB := n2_; clear n0_ n1_ n2_; (try clear hb); (try clear hb2); (try clear hk); (try clear hi)))
                go_meet
                case rel => exact ⟨_, (true), (by first | rfl | (simp; done) | (simp [*]; done) | (refine congrArg (Value.int _) ?_; omega) | (refine congrArg Value.bool ?_; generalize ByteArray.toList _ = z_; cases z_ <;> rfl)), H', ⟨by have := HJ2.out; have := HJ10.out; have := HJ35.out; have := HJ66.out; have := HJ72.out; first | omega | exact Nat.le_refl _⟩, ⟨by (with_reducible repeat (first | apply Kd.V_alloc | apply Kd.V_drewN | apply Kd.V_drew)); exact HO_0.out⟩, ⟨by (with_reducible repeat (first | apply Kd.V_alloc | apply Kd.V_drewN | apply Kd.V_drew)); exact HO_1.out⟩, ⟨by repeat (first | (with_reducible first | exact HB.out | apply below_alloc | apply pw_below_drewN | apply below_drew1) | exact HB.out)⟩⟩
               ·replace c81 := Bool.eq_false_iff.mpr c81
                subst c81
                have H1 : ((word_point.f kj72 x1_35).bind fun t171 => (word_Strip.j7 kj72 x0_35 x1_35 t171)) = some (r1, r2, r3) := by rw [if_neg (show ¬ (false = true) by decide)] at H; exact H
                clear H
                have H := H1
                clear H1
                replace H := Option.bind_eq_some_iff.mp H
                obtain ⟨t171, A840, H⟩ := H
                replace H : (word_Strip.j7 kj72 x0_35 x1_35 t171) = some (r1, r2, r3) := H
                have A84 := Aside0.mk A840
                clear A840
                have H' := Aside0.mk H
                clear H
                obtain ⟨Ao85, co85, eo85⟩ := Kd.V_slice HO_0.out
                subst eo85
                go_wp2_with (first | ((with_reducible refine gate_callee (f := 52) rfl ?_); refine goesL_ (some 88) rfl rfl Try.func52 (by kernel_rfl) rfl #[.slice Ao85 x0_35.length co85] rfl (by (try simp only [List.map_toArray, List.map_cons, List.map_nil]); first | done | rfl | (simp only [List.length_drop, List.length_take]; rfl)) ?_; (with_reducible refine (word_point.calls kj72 _ _ x0_35 false _ ?side1 ?side2 A80.out).mono ?_); (case side1 => repeat (first | exact (Kd.V_reads' HO_0.out).2.2 | (with_reducible refine Kd.C_alloc ?_ _) | (with_reducible refine Kd.C_drewN ?_ _) | (with_reducible refine Kd.C_drew ?_))); (case side2 => exact (Kd.V_reads' HO_0.out).2.1); rintro e w86 ⟨rfl, hb⟩; refine ⟨_, rfl, ?_⟩; have n0_ := Aside0.mk (Kd.V_below (by (with_reducible repeat (first | apply Kd.V_alloc | apply Kd.V_drewN | apply Kd.V_drew)); exact HO_0.out) hb); have n1_ := Aside0.mk (Kd.V_below (by (with_reducible repeat (first | apply Kd.V_alloc | apply Kd.V_drewN | apply Kd.V_drew)); exact HO_1.out) hb); have n2_ := Aside0.mk (below_step (by repeat (first | (with_reducible first | exact HB.out | apply below_alloc | apply pw_below_drewN | apply below_drew1) | exact HB.out)) hb); clear HO_0; clear HO_1; clear HB; have HO_0 := n0_; have HO_1 := n1_; have HB := n2_; clear n0_ n1_ n2_; (try clear hb); (try clear hb2); (try clear hk); (try clear hi); obtain ⟨Ao87, co87, eo87⟩ := Kd.V_slice HO_1.out; subst eo87) | (go_at_call 52; (with_reducible refine (word_point.calls kj72 _ _ x1_35 t171 _ ?side1 ?side2 A84.out).mono ?_); (case side1 => repeat (first | exact (Kd.V_reads' HO_1.out).2.2 | (with_reducible refine Kd.C_alloc ?_ _) | (with_reducible refine Kd.C_drewN ?_ _) | (with_reducible refine Kd.C_drew ?_))); (case side2 => exact (Kd.V_reads' HO_1.out).2.1); rintro e w88 ⟨rfl, hb⟩; have n0_ := Aside0.mk (Kd.V_below (by (with_reducible repeat (first | apply Kd.V_alloc | apply Kd.V_drewN | apply Kd.V_drew)); exact HO_0.out) hb); have n1_ := Aside0.mk (Kd.V_below (by (with_reducible repeat (first | apply Kd.V_alloc | apply Kd.V_drewN | apply Kd.V_drew)); exact HO_1.out) hb); have n2_ := Aside0.mk (below_step (by repeat (first | (with_reducible first | exact HB.out | apply below_alloc | apply pw_below_drewN | apply below_drew1) | exact HB.out)) hb); clear HO_0; clear HO_1; clear HB; have HO_0 := n0_; have HO_1 := n1_; have HB := n2_; clear n0_ n1_ n2_; (try clear hb); (try clear hb2); (try clear hk); (try clear hi)))
                go_meet
                case rel => exact ⟨_, (t171), (by first | rfl | (simp; done) | (simp [*]; done) | (refine congrArg (Value.int _) ?_; omega) | (refine congrArg Value.bool ?_; generalize ByteArray.toList _ = z_; cases z_ <;> rfl)), H', ⟨by have := HJ2.out; have := HJ10.out; have := HJ35.out; have := HJ66.out; have := HJ72.out; first | omega | exact Nat.le_refl _⟩, ⟨by (with_reducible repeat (first | apply Kd.V_alloc | apply Kd.V_drewN | apply Kd.V_drew)); exact HO_0.out⟩, ⟨by (with_reducible repeat (first | apply Kd.V_alloc | apply Kd.V_drewN | apply Kd.V_drew)); exact HO_1.out⟩, ⟨by repeat (first | (with_reducible first | exact HB.out | apply below_alloc | apply pw_below_drewN | apply below_drew1) | exact HB.out)⟩⟩
              case rest =>
               clear HC79
               try clear p1
               try clear q1
               try clear hx1
               try clear p2
               try clear c3
               try clear c4
               try clear c5
               try clear c6
               try clear c7
               try clear c8
               try clear p15
               try clear q15
               try clear hx15
               try clear c37
               try clear c37b0
               try clear c37b1
               try clear c38
               try clear c38b0
               try clear c38b1
               try clear c40
               try clear c41
               try clear c43
               try clear c44
               try clear c46
               try clear c48
               try clear c50
               try clear c51
               try clear c52
               try clear c68
               try clear c68b0
               try clear c68b1
               try clear c68b2
               try clear c72
               try clear c74
               try clear c74b0
               try clear c74b1
               try clear c74b2
               try clear c78
               try clear c81
               try clear hx157_0
               try clear hx157_1
               try clear hx158_0
               try clear hx158_1
               try clear p1
               try clear p15
               try clear p157
               try clear p158
               try clear p2
               try clear q1
               try clear q15
               try clear q157
               try clear q158
               obtain ⟨kq, x92_78, rfl, HA, HJ78, HO_0, HO_1, HB⟩ := hcut
               cases kq with
               | zero => exact absurd HA.out (by simp [word_Strip.j7])
               | succ kj78 =>
                have H := HA.out
                clear HA
                simp only [word_Strip.j7] at H
                by_cases c89 : x92_78 = true
                ·subst c89
                 have H1 : (some (([] : List (S69)), ([] : List (S69)), (-1))) = some (r1, r2, r3) := by rw [if_pos rfl] at H; exact H
                 clear H
                 have H := H1
                 clear H1
                 simp only [Option.some.injEq, Prod.mk.injEq] at H
                 obtain ⟨rfl, rfl, rfl⟩ := H
                 go_wp2
                 go_ret3
                 exact ⟨_, _, by first | rfl | (simp [errW_none, errW_some] <;> rfl) | (simp [*, errW_none, errW_some] <;> rfl), by first | exact Kd.R_nil _ _ _ _ _ | exact Kd.N_nil _ _ _ _ _ | exact Kd.V_nil _ _ _ _ _ | exact Kd.Q_nil _ _ _ _ _ | exact Kd.S_nil _ _ _ _ _, by first | exact Kd.R_nil _ _ _ _ _ | exact Kd.N_nil _ _ _ _ _ | exact Kd.V_nil _ _ _ _ _ | exact Kd.Q_nil _ _ _ _ _ | exact Kd.S_nil _ _ _ _ _, by repeat (first | (with_reducible first | exact HB.out | apply below_alloc | apply pw_below_drewN | apply below_drew1) | exact HB.out)⟩
                ·replace c89 := Bool.eq_false_iff.mpr c89
                 subst c89
                 have H1 : ((api_Letter_54.f x0_35).bind fun t172 => ((api_Letter_54.f x1_35).bind fun t175 => (some (t172, t175, 0)))) = some (r1, r2, r3) := by rw [if_neg (show ¬ (false = true) by decide)] at H; exact H
                 clear H
                 have H := H1
                 clear H1
                 replace H := Option.bind_eq_some_iff.mp H
                 obtain ⟨t172, A900, H⟩ := H
                 replace H : ((api_Letter_54.f x1_35).bind fun t175 => (some (t172, t175, 0))) = some (r1, r2, r3) := H
                 have A90 := Aside0.mk A900
                 clear A900
                 replace H := Option.bind_eq_some_iff.mp H
                 obtain ⟨t175, A910, H⟩ := H
                 replace H : (some (t172, t175, 0)) = some (r1, r2, r3) := H
                 have A91 := Aside0.mk A910
                 clear A910
                 simp only [Option.some.injEq, Prod.mk.injEq] at H
                 obtain ⟨rfl, rfl, rfl⟩ := H
                 obtain ⟨Ao92, co92, eo92⟩ := Kd.V_slice HO_0.out
                 subst eo92
                 go_wp2_with (first | ((with_reducible refine gate_callee (f := 54) rfl ?_); refine goesL_ (some 115) rfl rfl Try.func54 (by kernel_rfl) rfl #[.slice Ao92 x0_35.length co92] rfl (by (try simp only [List.map_toArray, List.map_cons, List.map_nil]); first | done | rfl | (simp only [List.length_drop, List.length_take]; rfl)) ?_; (with_reducible refine (api_Letter_54.calls _ _ x0_35 t172 _ ?side1 ?side2 A90.out).mono ?_); (case side1 => repeat (first | exact (Kd.V_reads' HO_0.out).2.2 | (with_reducible refine Kd.C_alloc ?_ _) | (with_reducible refine Kd.C_drewN ?_ _) | (with_reducible refine Kd.C_drew ?_))); (case side2 => exact (Kd.V_reads' HO_0.out).2.1); rintro e w93 ⟨v173, rfl, ho0, hb⟩; refine ⟨_, rfl, ?_⟩; have n0_ := Aside0.mk (Kd.V_elder' (by (with_reducible repeat (first | apply Kd.V_alloc | apply Kd.V_drewN | apply Kd.V_drew)); exact HO_0.out) (Kd.R_base ho0) hb); have n1_ := Aside0.mk (Kd.V_elder' (by (with_reducible repeat (first | apply Kd.V_alloc | apply Kd.V_drewN | apply Kd.V_drew)); exact HO_1.out) (Kd.R_base ho0) hb); have n2_ := Aside0.mk (Kd.R_lower (Kd.R_newM (M := fun k_ => (w.heap.size ≤ k_)) ho0 (below_size (by repeat (first | (with_reducible first | exact HB.out | apply below_alloc | apply pw_below_drewN | apply below_drew1) | exact HB.out))) (fun k_ h_ => h_)) (below_size (by repeat (first | (with_reducible first | exact HB.out | apply below_alloc | apply pw_below_drewN | apply below_drew1) | exact HB.out)))); have n3_ := Aside0.mk (below_step (by repeat (first | (with_reducible first | exact HB.out | apply below_alloc | apply pw_below_drewN | apply below_drew1) | exact HB.out)) hb); clear HO_0; clear HO_1; clear HB; have HO_0 := n0_; have HO_1 := n1_; have HO174 := n2_; have HB := n3_; clear n0_ n1_ n2_ n3_; (try clear hb); (try clear hb2); (try clear hk); (try clear hi); (try clear ho0); obtain ⟨Ao94, co94, eo94⟩ := Kd.V_slice HO_1.out; subst eo94) | ((with_reducible refine gate_callee (f := 54) rfl ?_); refine goesL_ (some 117) rfl rfl Try.func54 (by kernel_rfl) rfl #[.slice Ao94 x1_35.length co94] rfl (by (try simp only [List.map_toArray, List.map_cons, List.map_nil]); first | done | rfl | (simp only [List.length_drop, List.length_take]; rfl)) ?_; (with_reducible refine (api_Letter_54.calls _ _ x1_35 t175 _ ?side1 ?side2 A91.out).mono ?_); (case side1 => repeat (first | exact (Kd.V_reads' HO_1.out).2.2 | (with_reducible refine Kd.C_alloc ?_ _) | (with_reducible refine Kd.C_drewN ?_ _) | (with_reducible refine Kd.C_drew ?_))); (case side2 => exact (Kd.V_reads' HO_1.out).2.1); rintro e w95 ⟨v176, rfl, ho0, hb⟩; refine ⟨_, rfl, ?_⟩; have n0_ := Aside0.mk (Kd.V_elder' (by (with_reducible repeat (first | apply Kd.V_alloc | apply Kd.V_drewN | apply Kd.V_drew)); exact HO_0.out) (Kd.R_base ho0) hb); have n1_ := Aside0.mk (Kd.V_elder' (by (with_reducible repeat (first | apply Kd.V_alloc | apply Kd.V_drewN | apply Kd.V_drew)); exact HO_1.out) (Kd.R_base ho0) hb); have n2_ := Aside0.mk (Kd.R_elder' (by (with_reducible repeat (first | apply Kd.R_alloc | apply Kd.R_drewN | apply Kd.R_drew)); exact HO174.out) (Kd.R_base ho0) hb); have n3_ := Aside0.mk (Kd.R_lower (Kd.R_new' (Kd.R_newM (M := fun k_ => (w.heap.size ≤ k_)) ho0 (below_size (by repeat (first | (with_reducible first | exact HB.out | apply below_alloc | apply pw_below_drewN | apply below_drew1) | exact HB.out))) (fun k_ h_ => h_)) (Kd.R_lt (by (with_reducible repeat (first | apply Kd.R_alloc | apply Kd.R_drewN | apply Kd.R_drew)); exact HO174.out))) (below_size (by repeat (first | (with_reducible first | exact HB.out | apply below_alloc | apply pw_below_drewN | apply below_drew1) | exact HB.out)))); have n4_ := Aside0.mk (below_step (by repeat (first | (with_reducible first | exact HB.out | apply below_alloc | apply pw_below_drewN | apply below_drew1) | exact HB.out)) hb); clear HO_0; clear HO_1; clear HO174; clear HB; have HO_0 := n0_; have HO_1 := n1_; have HO174 := n2_; have HO177 := n3_; have HB := n4_; clear n0_ n1_ n2_ n3_ n4_; (try clear hb); (try clear hb2); (try clear hk); (try clear hi); (try clear ho0)))
                 go_ret3
                 exact ⟨_, _, by first | rfl | (simp [errW_none, errW_some] <;> rfl) | (simp [*, errW_none, errW_some] <;> rfl), by (with_reducible repeat (first | apply Kd.R_alloc | apply Kd.R_drewN | apply Kd.R_drew)); exact Kd.R_mono HO174.out (fun _ hk => by first | exact ⟨hk.1.1, hk.2⟩ | ((repeat' refine ⟨?_, ?_⟩) <;> (first | exact hk.1 | exact hk.2 | exact hk.1.1 | exact hk.1.2 | exact hk.2.1 | exact hk.2.2 | exact hk.1.1.1 | exact hk.1.1.2 | exact hk.1.2.1 | exact hk.1.2.2 | exact hk.2.1.1 | exact hk.2.1.2 | exact hk.2.2.1 | exact hk.2.2.2 | exact hk.1.1.1.1 | exact hk.1.1.1.2 | exact hk.1.1.2.1 | exact hk.1.1.2.2 | exact hk.1.2.1.1 | exact hk.1.2.1.2 | exact hk.1.2.2.1 | exact hk.1.2.2.2 | exact hk.2.1.1.1 | exact hk.2.1.1.2 | exact hk.2.1.2.1 | exact hk.2.1.2.2 | exact hk.2.2.1.1 | exact hk.2.2.1.2 | exact hk.2.2.2.1 | exact hk.2.2.2.2))), by (with_reducible repeat (first | apply Kd.R_alloc | apply Kd.R_drewN | apply Kd.R_drew)); exact Kd.R_mono HO177.out (fun _ hk => by first | exact ⟨hk.1.1, hk.2⟩ | ((repeat' refine ⟨?_, ?_⟩) <;> (first | exact hk.1 | exact hk.2 | exact hk.1.1 | exact hk.1.2 | exact hk.2.1 | exact hk.2.2 | exact hk.1.1.1 | exact hk.1.1.2 | exact hk.1.2.1 | exact hk.1.2.2 | exact hk.2.1.1 | exact hk.2.1.2 | exact hk.2.2.1 | exact hk.2.2.2 | exact hk.1.1.1.1 | exact hk.1.1.1.2 | exact hk.1.1.2.1 | exact hk.1.1.2.2 | exact hk.1.2.1.1 | exact hk.1.2.1.2 | exact hk.1.2.2.1 | exact hk.1.2.2.2 | exact hk.2.1.1.1 | exact hk.2.1.1.2 | exact hk.2.1.2.1 | exact hk.2.1.2.2 | exact hk.2.2.1.1 | exact hk.2.2.1.2 | exact hk.2.2.2.1 | exact hk.2.2.2.2))), by repeat (first | (with_reducible first | exact HB.out | apply below_alloc | apply pw_below_drewN | apply below_drew1) | exact HB.out)⟩
             ·replace c78 := Bool.eq_false_iff.mpr c78
              subst c78
              have H1 : (if 0 < (x0_35.length : Int) then (if 0 < (x1_35.length : Int) then ((word_apart.f ((rd_T69 x0_35 0).f0) ((rd_T69 x0_35 0).f1) ((rd_T69 x1_35 0).f0) ((rd_T69 x1_35 0).f1)).bind fun t180 => (if t180 = true then (word_Strip.j8 kj72 x0_35 x1_35 t180) else (if 0 ≤ (wrap64 ((x0_35.length : Int) - 1)) then (if (wrap64 ((x0_35.length : Int) - 1)) < (x0_35.length : Int) then (if 0 ≤ (wrap64 ((x1_35.length : Int) - 1)) then (if (wrap64 ((x1_35.length : Int) - 1)) < (x1_35.length : Int) then ((word_apart.f ((rd_T69 x0_35 (wrap64 ((x0_35.length : Int) - 1))).f0) ((rd_T69 x0_35 (wrap64 ((x0_35.length : Int) - 1))).f1) ((rd_T69 x1_35 (wrap64 ((x1_35.length : Int) - 1))).f0) ((rd_T69 x1_35 (wrap64 ((x1_35.length : Int) - 1))).f1)).bind fun t183 => (word_Strip.j8 kj72 x0_35 x1_35 t183)) else (none)) else (none)) else (none)) else (none)))) else (none)) else (none)) = some (r1, r2, r3) := by rw [if_neg (show ¬ (false = true) by decide)] at H; exact H
              clear H
              have H := H1
              clear H1
              by_cases c96 : 0 < (x0_35.length : Int)
              ·rw [if_pos c96] at H
               have c96b0 : decide (0 < (x0_35.length : Int)) = true := decide_eq_true c96
               have c96b1 : decide (0 < x0_35.length) = true := decide_eq_true (by omega)
               clear c96
               by_cases c97 : 0 < (x1_35.length : Int)
               ·rw [if_pos c97] at H
                have c97b0 : decide (0 < (x1_35.length : Int)) = true := decide_eq_true c97
                have c97b1 : decide (0 < x1_35.length) = true := decide_eq_true (by omega)
                clear c97
                replace H := Option.bind_eq_some_iff.mp H
                obtain ⟨t180, A980, H⟩ := H
                replace H : (if t180 = true then (word_Strip.j8 kj72 x0_35 x1_35 t180) else (if 0 ≤ (wrap64 ((x0_35.length : Int) - 1)) then (if (wrap64 ((x0_35.length : Int) - 1)) < (x0_35.length : Int) then (if 0 ≤ (wrap64 ((x1_35.length : Int) - 1)) then (if (wrap64 ((x1_35.length : Int) - 1)) < (x1_35.length : Int) then ((word_apart.f ((rd_T69 x0_35 (wrap64 ((x0_35.length : Int) - 1))).f0) ((rd_T69 x0_35 (wrap64 ((x0_35.length : Int) - 1))).f1) ((rd_T69 x1_35 (wrap64 ((x1_35.length : Int) - 1))).f0) ((rd_T69 x1_35 (wrap64 ((x1_35.length : Int) - 1))).f1)).bind fun t183 => (word_Strip.j8 kj72 x0_35 x1_35 t183)) else (none)) else (none)) else (none)) else (none))) = some (r1, r2, r3) := H
                have A98 := Aside0.mk A980
                clear A980
                have HC99 := Aside0.mk H
                clear H
                try go_wp2
                have n0_ := Aside0.mk (Kd.V_drew HO_0.out)
                have n1_ := Aside0.mk (Kd.V_drew HO_1.out)
                have n2_ := Aside0.mk (below_drew1 HB.out)
                clear HO_0
                clear HO_1
                clear HB
                have HO_0 := n0_
                have HO_1 := n1_
                have HB := n2_
                clear n0_ n1_ n2_
                obtain ⟨Ao101, co101, eo101⟩ := Kd.V_slice HO_0.out
                (first | subst eo101 | (injection eo101 with f1_ f2_ f3_; have f4_ := f1_.symm; have f5_ := f3_.symm; clear f1_ f2_ f3_; subst f4_; subst f5_))
                have p178 : 0 ≤ (0 : Int) := (by omega)
                have q178 : 0 < (x0_35.length : Int) := of_decide_eq_true (by first | (with_reducible assumption) | assumption)
                obtain ⟨ad178, e178, hx178_0, hx178_1⟩ := at_T69 (Kd.V_reads' HO_0.out).2.2 0 p178 q178
                cases e178
                have qi178 : (0 < x0_35.length) = True := eq_true (by omega)
                (try rw [show ((0 : Int)).toNat = 0 from rfl] at hx178_0)
                (try rw [show 0 * 2 = 0 from rfl] at hx178_0)
                (try rw [Addr.add_zero'] at hx178_0)
                (try rw [show ((0 : Int)).toNat = 0 from rfl] at hx178_1)
                (try rw [show 0 * 2 = 0 from rfl] at hx178_1)
                (try rw [Addr.add_zero'] at hx178_1)
                replace p178 := eq_true p178
                replace q178 := eq_true q178
                obtain ⟨Ao102, co102, eo102⟩ := Kd.V_slice HO_1.out
                (first | subst eo102 | (injection eo102 with f1_ f2_ f3_; have f4_ := f1_.symm; have f5_ := f3_.symm; clear f1_ f2_ f3_; subst f4_; subst f5_))
                have p179 : 0 ≤ (0 : Int) := (by omega)
                have q179 : 0 < (x1_35.length : Int) := of_decide_eq_true (by first | (with_reducible assumption) | assumption)
                obtain ⟨ad179, e179, hx179_0, hx179_1⟩ := at_T69 (Kd.V_reads' HO_1.out).2.2 0 p179 q179
                cases e179
                have qi179 : (0 < x1_35.length) = True := eq_true (by omega)
                (try rw [show ((0 : Int)).toNat = 0 from rfl] at hx179_0)
                (try rw [show 0 * 2 = 0 from rfl] at hx179_0)
                (try rw [Addr.add_zero'] at hx179_0)
                (try rw [show ((0 : Int)).toNat = 0 from rfl] at hx179_1)
                (try rw [show 0 * 2 = 0 from rfl] at hx179_1)
                (try rw [Addr.add_zero'] at hx179_1)
                replace p179 := eq_true p179
                replace q179 := eq_true q179
                refine start_ (n := 8) (S := fun w' => w'.cell? ad178 = some (.int .i64 ((rd_T69 x0_35 0).f0)) ∧ w'.cell? ⟨ad178.block, ad178.off + 1, none⟩ = some (.int .i64 ((rd_T69 x0_35 0).f1)) ∧ w'.cell? ad179 = some (.int .i64 ((rd_T69 x1_35 0).f0)) ∧ w'.cell? ⟨ad179.block, ad179.off + 1, none⟩ = some (.int .i64 ((rd_T69 x1_35 0).f1))) (ds := []) #[false, false, false, false, false, false, false, false] (by kernel_rfl) rfl rfl ⟨hx178_0, hx178_1, hx179_0, hx179_1⟩ (fun hHeld => ?_); refine with_tabW word_Strip.tab12 word_Strip.bits12 (fun HT_ HW_ => ?_)
                generalize wc.drew = w100 at HO_0 HO_1 HB hx178_0 hx178_1 hx179_0 hx179_1 hHeld ⊢
                refine pure_ (i := 0) (N := some 94) (v := ?_) (a' := ?_) #[true, false, false, false, false, false, false, false] rfl rfl (any_of HT_.out (by kernel_rfl)) (fun _ _ _ h => h) (Or.inl ⟨by rfl, ?_⟩) ?_ ?_
                rotate_left
                ·intro w'
                 go_simp
                 with_reducible rfl
                rotate_left
                ·simp only [Act.put, List.setIfInBounds_toArray, List.set_cons_zero, List.set_cons_succ, i64_w, i32_w]
                 rfl
                refine pure_ (i := 1) (N := some 95) (v := ?_) (a' := ?_) #[true, true, false, false, false, false, false, false] rfl rfl (any_of HT_.out (by kernel_rfl)) (fun _ _ _ h => h) (Or.inl ⟨by rfl, ?_⟩) ?_ ?_
                rotate_left
                ·intro w'
                 go_simp
                 with_reducible rfl
                rotate_left
                ·simp only [Act.put, List.setIfInBounds_toArray, List.set_cons_zero, List.set_cons_succ, i64_w, i32_w]
                 rfl
                refine pure_ (i := 3) (N := some 97) (v := ?_) (a' := ?_) #[true, true, false, true, false, false, false, false] rfl rfl (any_of HT_.out (by kernel_rfl)) (fun _ _ _ h => h) (Or.inl ⟨by rfl, ?_⟩) ?_ ?_
                rotate_left
                ·intro w'
                 go_simp
                 with_reducible rfl
                rotate_left
                ·simp only [Act.put, List.setIfInBounds_toArray, List.set_cons_zero, List.set_cons_succ, i64_w, i32_w]
                 rfl
                refine pure_ (i := 4) (N := some 98) (v := ?_) (a' := ?_) #[true, true, false, true, true, false, false, false] rfl rfl (any_of HT_.out (by kernel_rfl)) (fun _ _ _ h => h) (Or.inl ⟨by rfl, ?_⟩) ?_ ?_
                rotate_left
                ·intro w'
                 go_simp
                 with_reducible rfl
                rotate_left
                ·simp only [Act.put, List.setIfInBounds_toArray, List.set_cons_zero, List.set_cons_succ, i64_w, i32_w]
                 rfl
                refine take_ (i := 2) (N := some 96) (v := ?_) (a' := ?_) #[true, true, true, true, true, false, false, false] rfl rfl (take_ofW HT_.out HW_.out (by kernel_rfl)) (fun _ _ _ h => h) (Or.inl ⟨by rfl, ?_⟩) hHeld ?_ ?_
                rotate_left
                ·rintro w' ⟨s0, s1, s2, s3⟩
                 go_simp
                 with_reducible rfl
                rotate_left
                ·simp only [Act.put, List.setIfInBounds_toArray, List.set_cons_zero, List.set_cons_succ, i64_w, i32_w]
                 rfl
                refine take_ (i := 5) (N := some 99) (v := ?_) (a' := ?_) #[true, true, true, true, true, true, false, false] rfl rfl (take_ofW HT_.out HW_.out (by kernel_rfl)) (fun _ _ _ h => h) (Or.inl ⟨by rfl, ?_⟩) hHeld ?_ ?_
                rotate_left
                ·rintro w' ⟨s0, s1, s2, s3⟩
                 go_simp
                 with_reducible rfl
                rotate_left
                ·simp only [Act.put, List.setIfInBounds_toArray, List.set_cons_zero, List.set_cons_succ, i64_w, i32_w]
                 rfl
                refine one_ (i := 6) (N := some 100) #[true, true, true, true, true, true, true, false] rfl rfl (one_of HT_.out (by kernel_rfl)) (by decide) (fun K hK => ?_)
                refine goes_ Try.func53 (by kernel_rfl) rfl #[.agg #[.int .i64 ((rd_T69 x0_35 0).f0), .int .i64 ((rd_T69 x0_35 0).f1)], .agg #[.int .i64 ((rd_T69 x1_35 0).f0), .int .i64 ((rd_T69 x1_35 0).f1)]] (by rfl) rfl rfl (by (try simp only [List.map_toArray, List.map_cons, List.map_nil]); first | done | rfl | (simp only [List.length_drop, List.length_take]; rfl)) ?_
                with_reducible refine (word_apart.calls ((rd_T69 x0_35 0).f0) ((rd_T69 x0_35 0).f1) ((rd_T69 x1_35 0).f0) ((rd_T69 x1_35 0).f1) t180 _ A98.out).mono ?_
                rintro e w103 ⟨rfl, hb⟩
                have HS0_ := (hb.cell (World.block_lt_of_cell? _ _ (hHeld.1))).trans (hHeld.1)
                have HS1_ := (hb.cell (World.block_lt_of_cell? _ _ (hHeld.2.1))).trans (hHeld.2.1)
                have HS2_ := (hb.cell (World.block_lt_of_cell? _ _ (hHeld.2.2.1))).trans (hHeld.2.2.1)
                have HS3_ := (hb.cell (World.block_lt_of_cell? _ _ (hHeld.2.2.2))).trans (hHeld.2.2.2)
                refine ⟨_, rfl, ?_⟩
                have n0_ := Aside0.mk (Kd.V_below (by (with_reducible repeat (first | apply Kd.V_alloc | apply Kd.V_drewN | apply Kd.V_drew)); exact HO_0.out) hb)
                have n1_ := Aside0.mk (Kd.V_below (by (with_reducible repeat (first | apply Kd.V_alloc | apply Kd.V_drewN | apply Kd.V_drew)); exact HO_1.out) hb)
                have n2_ := Aside0.mk (below_step (by repeat (first | (with_reducible first | exact HB.out | apply below_alloc | apply pw_below_drewN | apply below_drew1) | exact HB.out)) hb)
                clear HO_0
                clear HO_1
                clear HB
                have HO_0 := n0_
                have HO_1 := n1_
                have HB := n2_
                clear n0_ n1_ n2_
                (try clear hb)
                (try clear hb2)
                (try clear hk)
                (try clear hi)
                refine hK.out _ _ ⟨HS0_, HS1_, HS2_, HS3_⟩ (fun hHeld => ?_)
                clear hK K
                refine norm_ (a' := ?_) ?_ ?_
                rotate_left
                ·show Act.put _ (some 100) _ = _
                 simp only [Act.put, List.setIfInBounds_toArray, List.set_cons_zero, List.set_cons_succ, i64_w, i32_w]
                 rfl
                refine pure_ (i := 7) (N := some 93) (v := ?_) (a' := ?_) #[true, true, true, true, true, true, true, true] rfl rfl (any_of HT_.out (by kernel_rfl)) (fun _ _ _ h => h) (Or.inl ⟨by rfl, ?_⟩) ?_ ?_
                rotate_left
                ·intro w'
                 go_simp
                 with_reducible rfl
                rotate_left
                ·simp only [Act.put, List.setIfInBounds_toArray, List.set_cons_zero, List.set_cons_succ, i64_w, i32_w]
                 rfl
                refine done_ (done_of HT_.out (by kernel_rfl)) ?_
                go_upto_if 93 with (fail)
                go_cut [93] (fun v93 wc => ∃ (kq : Nat) (x93_98 : Bool), v93 = .bool x93_98 ∧ Aside0 (word_Strip.j8 kq x0_35 x1_35 x93_98 = some (r1, r2, r3)) ∧ Aside0 (kq ≤ kj72) ∧ Aside0 (Kd.V k69 69 wc w.heap.size (fun k_ => ((P0_ k_ ∨ P1_ k_) ∨ w.heap.size ≤ k_)) (.slice (some ad178) x0_35.length co101) x0_35) ∧ Aside0 (Kd.V k69 69 wc w.heap.size (fun k_ => ((P0_ k_ ∨ P1_ k_) ∨ w.heap.size ≤ k_)) (.slice (some ad179) x1_35.length co102) x1_35) ∧ Aside0 (Below w.heap.size w wc))
                case first =>
                 have H := HC99.out
                 clear HC99
                 by_cases c104 : t180 = true
                 ·subst c104
                  have H1 : (word_Strip.j8 kj72 x0_35 x1_35 true) = some (r1, r2, r3) := by rw [if_pos rfl] at H; exact H
                  clear H
                  have H := H1
                  clear H1
                  have H' := Aside0.mk H
                  clear H
                  go_wp2
                  go_meet
                  case rel => exact ⟨_, (true), (by first | rfl | (simp; done) | (simp [*]; done) | (refine congrArg (Value.int _) ?_; omega) | (refine congrArg Value.bool ?_; generalize ByteArray.toList _ = z_; cases z_ <;> rfl)), H', ⟨by have := HJ2.out; have := HJ10.out; have := HJ35.out; have := HJ66.out; have := HJ72.out; first | omega | exact Nat.le_refl _⟩, ⟨by (with_reducible repeat (first | apply Kd.V_alloc | apply Kd.V_drewN | apply Kd.V_drew)); exact HO_0.out⟩, ⟨by (with_reducible repeat (first | apply Kd.V_alloc | apply Kd.V_drewN | apply Kd.V_drew)); exact HO_1.out⟩, ⟨by repeat (first | (with_reducible first | exact HB.out | apply below_alloc | apply pw_below_drewN | apply below_drew1) | exact HB.out)⟩⟩
                 ·replace c104 := Bool.eq_false_iff.mpr c104
                  subst c104
                  have H1 : (if 0 ≤ (wrap64 ((x0_35.length : Int) - 1)) then (if (wrap64 ((x0_35.length : Int) - 1)) < (x0_35.length : Int) then (if 0 ≤ (wrap64 ((x1_35.length : Int) - 1)) then (if (wrap64 ((x1_35.length : Int) - 1)) < (x1_35.length : Int) then ((word_apart.f ((rd_T69 x0_35 (wrap64 ((x0_35.length : Int) - 1))).f0) ((rd_T69 x0_35 (wrap64 ((x0_35.length : Int) - 1))).f1) ((rd_T69 x1_35 (wrap64 ((x1_35.length : Int) - 1))).f0) ((rd_T69 x1_35 (wrap64 ((x1_35.length : Int) - 1))).f1)).bind fun t183 => (word_Strip.j8 kj72 x0_35 x1_35 t183)) else (none)) else (none)) else (none)) else (none)) = some (r1, r2, r3) := by rw [if_neg (show ¬ (false = true) by decide)] at H; exact H
                  clear H
                  have H := H1
                  clear H1
                  obtain ⟨ji105, hji105⟩ : ∃ j_ : Int, (wrap64 ((x0_35.length : Int) - 1)) = j_ := ⟨_, rfl⟩
                  replace H : (if 0 ≤ (ji105) then (if (ji105) < (x0_35.length : Int) then (if 0 ≤ (wrap64 ((x1_35.length : Int) - 1)) then (if (wrap64 ((x1_35.length : Int) - 1)) < (x1_35.length : Int) then ((word_apart.f ((rd_T69 x0_35 (ji105)).f0) ((rd_T69 x0_35 (ji105)).f1) ((rd_T69 x1_35 (wrap64 ((x1_35.length : Int) - 1))).f0) ((rd_T69 x1_35 (wrap64 ((x1_35.length : Int) - 1))).f1)).bind fun t183 => (word_Strip.j8 kj72 x0_35 x1_35 t183)) else (none)) else (none)) else (none)) else (none)) = some (r1, r2, r3) := by first | (rw [hji105] at H; exact H) | (simp only [hji105] at H ⊢; exact H)
                  have hji105w : (IntKind.i64.wrap ((x0_35.length : Int) - 1)) = ji105 := (i64_w _).trans hji105
                  by_cases c106 : 0 ≤ (ji105)
                  ·rw [if_pos c106] at H
                   have c106b0 : decide (0 ≤ (ji105)) = true := decide_eq_true c106
                   clear c106
                   (first | rw [c106b0] | rw [c106b1] | (simp only [i64_w, i32_w]; rw [c106b0]) | skip)
                   by_cases c107 : (ji105) < (x0_35.length : Int)
                   ·rw [if_pos c107] at H
                    have c107b0 : decide ((ji105) < (x0_35.length : Int)) = true := decide_eq_true c107
                    clear c107
                    obtain ⟨ji108, hji108⟩ : ∃ j_ : Int, (wrap64 ((x1_35.length : Int) - 1)) = j_ := ⟨_, rfl⟩
                    replace H : (if 0 ≤ (ji108) then (if (ji108) < (x1_35.length : Int) then ((word_apart.f ((rd_T69 x0_35 (ji105)).f0) ((rd_T69 x0_35 (ji105)).f1) ((rd_T69 x1_35 (ji108)).f0) ((rd_T69 x1_35 (ji108)).f1)).bind fun t183 => (word_Strip.j8 kj72 x0_35 x1_35 t183)) else (none)) else (none)) = some (r1, r2, r3) := by first | (rw [hji108] at H; exact H) | (simp only [hji108] at H ⊢; exact H)
                    have hji108w : (IntKind.i64.wrap ((x1_35.length : Int) - 1)) = ji108 := (i64_w _).trans hji108
                    by_cases c109 : 0 ≤ (ji108)
                    ·rw [if_pos c109] at H
                     have c109b0 : decide (0 ≤ (ji108)) = true := decide_eq_true c109
                     clear c109
                     by_cases c110 : (ji108) < (x1_35.length : Int)
                     ·rw [if_pos c110] at H
                      have c110b0 : decide ((ji108) < (x1_35.length : Int)) = true := decide_eq_true c110
                      clear c110
                      replace H := Option.bind_eq_some_iff.mp H
                      obtain ⟨t183, A1110, H⟩ := H
                      replace H : (word_Strip.j8 kj72 x0_35 x1_35 t183) = some (r1, r2, r3) := H
                      have A111 := Aside0.mk A1110
                      clear A1110
                      have H' := Aside0.mk H
                      clear H
                      try go_wp2
                      have n0_ := Aside0.mk (Kd.V_drew HO_0.out)
                      have n1_ := Aside0.mk (Kd.V_drew HO_1.out)
                      have n2_ := Aside0.mk (below_drew1 HB.out)
                      clear HO_0
                      clear HO_1
                      clear HB
                      have HO_0 := n0_
                      have HO_1 := n1_
                      have HB := n2_
                      clear n0_ n1_ n2_
                      have p181 : 0 ≤ ((ji105) : Int) := of_decide_eq_true (by first | (with_reducible assumption) | assumption)
                      have q181 : (ji105) < (x0_35.length : Int) := of_decide_eq_true (by first | (with_reducible assumption) | assumption)
                      obtain ⟨ad181, e181, hx181_0, hx181_1⟩ := at_T69 (Kd.V_reads' HO_0.out).2.2 (ji105) p181 q181
                      obtain rfl : ad178 = ad181 := (by injection e181)
                      replace p181 := eq_true p181
                      replace q181 := eq_true q181
                      have p182 : 0 ≤ ((ji108) : Int) := of_decide_eq_true (by first | (with_reducible assumption) | assumption)
                      have q182 : (ji108) < (x1_35.length : Int) := of_decide_eq_true (by first | (with_reducible assumption) | assumption)
                      obtain ⟨ad182, e182, hx182_0, hx182_1⟩ := at_T69 (Kd.V_reads' HO_1.out).2.2 (ji108) p182 q182
                      obtain rfl : ad179 = ad182 := (by injection e182)
                      replace p182 := eq_true p182
                      replace q182 := eq_true q182
                      refine start_ (n := 14) (S := fun w' => w'.cell? (ad178.add (((ji105)).toNat * 2)) = some (.int .i64 ((rd_T69 x0_35 (ji105)).f0)) ∧ w'.cell? ⟨(ad178.add (((ji105)).toNat * 2)).block, (ad178.add (((ji105)).toNat * 2)).off + 1, none⟩ = some (.int .i64 ((rd_T69 x0_35 (ji105)).f1)) ∧ w'.cell? (ad179.add (((ji108)).toNat * 2)) = some (.int .i64 ((rd_T69 x1_35 (ji108)).f0)) ∧ w'.cell? ⟨(ad179.add (((ji108)).toNat * 2)).block, (ad179.add (((ji108)).toNat * 2)).off + 1, none⟩ = some (.int .i64 ((rd_T69 x1_35 (ji108)).f1))) (ds := []) #[false, false, false, false, false, false, false, false, false, false, false, false, false, false] (by kernel_rfl) rfl rfl ⟨hx181_0, hx181_1, hx182_0, hx182_1⟩ (fun hHeld => ?_); refine with_tabW word_Strip.tab13 word_Strip.bits13 (fun HT_ HW_ => ?_)
                      generalize w103.drew = w112 at HO_0 HO_1 HB hx181_0 hx181_1 hx182_0 hx182_1 hHeld ⊢
                      refine pure_ (i := 0) (N := some 101) (v := ?_) (a' := ?_) #[true, false, false, false, false, false, false, false, false, false, false, false, false, false] rfl rfl (any_of HT_.out (by kernel_rfl)) (fun _ _ _ h => h) (Or.inl ⟨by rfl, ?_⟩) ?_ ?_
                      rotate_left
                      ·intro w'
                       go_simp
                       with_reducible rfl
                      rotate_left
                      ·simp only [Act.put, List.setIfInBounds_toArray, List.set_cons_zero, List.set_cons_succ, i64_w, i32_w]
                       rfl
                      refine pure_ (i := 1) (N := some 102) (v := ?_) (a' := ?_) #[true, true, false, false, false, false, false, false, false, false, false, false, false, false] rfl rfl (any_of HT_.out (by kernel_rfl)) (fun _ _ _ h => h) (Or.inl ⟨by rfl, ?_⟩) ?_ ?_
                      rotate_left
                      ·intro w'
                       go_simp
                       with_reducible rfl
                      rotate_left
                      ·simp only [Act.put, List.setIfInBounds_toArray, List.set_cons_zero, List.set_cons_succ, i64_w, i32_w]
                       rfl
                      refine pure_ (i := 2) (N := some 103) (v := ?_) (a' := ?_) #[true, true, true, false, false, false, false, false, false, false, false, false, false, false] rfl rfl (any_of HT_.out (by kernel_rfl)) (fun _ _ _ h => h) (Or.inl ⟨by rfl, ?_⟩) ?_ ?_
                      rotate_left
                      ·intro w'
                       go_simp
                       with_reducible rfl
                      rotate_left
                      ·simp only [Act.put, List.setIfInBounds_toArray, List.set_cons_zero, List.set_cons_succ, i64_w, i32_w]
                       rfl
                      refine pure_ (i := 3) (N := some 104) (v := ?_) (a' := ?_) #[true, true, true, true, false, false, false, false, false, false, false, false, false, false] rfl rfl (any_of HT_.out (by kernel_rfl)) (fun _ _ _ h => h) (Or.inl ⟨by rfl, ?_⟩) ?_ ?_
                      rotate_left
                      ·intro w'
                       go_simp
                       with_reducible rfl
                      rotate_left
                      ·simp only [Act.put, List.setIfInBounds_toArray, List.set_cons_zero, List.set_cons_succ, i64_w, i32_w]
                       rfl
                      refine pure_ (i := 4) (N := some 105) (v := ?_) (a' := ?_) #[true, true, true, true, true, false, false, false, false, false, false, false, false, false] rfl rfl (any_of HT_.out (by kernel_rfl)) (fun _ _ _ h => h) (Or.inl ⟨by rfl, ?_⟩) ?_ ?_
                      rotate_left
                      ·intro w'
                       go_simp
                       with_reducible rfl
                      rotate_left
                      ·simp only [Act.put, List.setIfInBounds_toArray, List.set_cons_zero, List.set_cons_succ, i64_w, i32_w]
                       rfl
                      refine pure_ (i := 6) (N := some 107) (v := ?_) (a' := ?_) #[true, true, true, true, true, false, true, false, false, false, false, false, false, false] rfl rfl (any_of HT_.out (by kernel_rfl)) (fun _ _ _ h => h) (Or.inl ⟨by rfl, ?_⟩) ?_ ?_
                      rotate_left
                      ·intro w'
                       go_simp
                       with_reducible rfl
                      rotate_left
                      ·simp only [Act.put, List.setIfInBounds_toArray, List.set_cons_zero, List.set_cons_succ, i64_w, i32_w]
                       rfl
                      refine pure_ (i := 7) (N := some 108) (v := ?_) (a' := ?_) #[true, true, true, true, true, false, true, true, false, false, false, false, false, false] rfl rfl (any_of HT_.out (by kernel_rfl)) (fun _ _ _ h => h) (Or.inl ⟨by rfl, ?_⟩) ?_ ?_
                      rotate_left
                      ·intro w'
                       go_simp
                       with_reducible rfl
                      rotate_left
                      ·simp only [Act.put, List.setIfInBounds_toArray, List.set_cons_zero, List.set_cons_succ, i64_w, i32_w]
                       rfl
                      refine pure_ (i := 8) (N := some 109) (v := ?_) (a' := ?_) #[true, true, true, true, true, false, true, true, true, false, false, false, false, false] rfl rfl (any_of HT_.out (by kernel_rfl)) (fun _ _ _ h => h) (Or.inl ⟨by rfl, ?_⟩) ?_ ?_
                      rotate_left
                      ·intro w'
                       go_simp
                       with_reducible rfl
                      rotate_left
                      ·simp only [Act.put, List.setIfInBounds_toArray, List.set_cons_zero, List.set_cons_succ, i64_w, i32_w]
                       rfl
                      refine pure_ (i := 9) (N := some 110) (v := ?_) (a' := ?_) #[true, true, true, true, true, false, true, true, true, true, false, false, false, false] rfl rfl (any_of HT_.out (by kernel_rfl)) (fun _ _ _ h => h) (Or.inl ⟨by rfl, ?_⟩) ?_ ?_
                      rotate_left
                      ·intro w'
                       go_simp
                       with_reducible rfl
                      rotate_left
                      ·simp only [Act.put, List.setIfInBounds_toArray, List.set_cons_zero, List.set_cons_succ, i64_w, i32_w]
                       rfl
                      refine pure_ (i := 10) (N := some 111) (v := ?_) (a' := ?_) #[true, true, true, true, true, false, true, true, true, true, true, false, false, false] rfl rfl (any_of HT_.out (by kernel_rfl)) (fun _ _ _ h => h) (Or.inl ⟨by rfl, ?_⟩) ?_ ?_
                      rotate_left
                      ·intro w'
                       go_simp
                       with_reducible rfl
                      rotate_left
                      ·simp only [Act.put, List.setIfInBounds_toArray, List.set_cons_zero, List.set_cons_succ, i64_w, i32_w]
                       rfl
                      refine take_ (i := 5) (N := some 106) (v := ?_) (a' := ?_) #[true, true, true, true, true, true, true, true, true, true, true, false, false, false] rfl rfl (take_ofW HT_.out HW_.out (by kernel_rfl)) (fun _ _ _ h => h) (Or.inl ⟨by rfl, ?_⟩) hHeld ?_ ?_
                      rotate_left
                      ·rintro w' ⟨s0, s1, s2, s3⟩
                       go_simp
                       with_reducible rfl
                      rotate_left
                      ·simp only [Act.put, List.setIfInBounds_toArray, List.set_cons_zero, List.set_cons_succ, i64_w, i32_w]
                       rfl
                      refine take_ (i := 11) (N := some 112) (v := ?_) (a' := ?_) #[true, true, true, true, true, true, true, true, true, true, true, true, false, false] rfl rfl (take_ofW HT_.out HW_.out (by kernel_rfl)) (fun _ _ _ h => h) (Or.inl ⟨by rfl, ?_⟩) hHeld ?_ ?_
                      rotate_left
                      ·rintro w' ⟨s0, s1, s2, s3⟩
                       go_simp
                       with_reducible rfl
                      rotate_left
                      ·simp only [Act.put, List.setIfInBounds_toArray, List.set_cons_zero, List.set_cons_succ, i64_w, i32_w]
                       rfl
                      refine one_ (i := 12) (N := some 113) #[true, true, true, true, true, true, true, true, true, true, true, true, true, false] rfl rfl (one_of HT_.out (by kernel_rfl)) (by decide) (fun K hK => ?_)
                      refine goes_ Try.func53 (by kernel_rfl) rfl #[.agg #[.int .i64 ((rd_T69 x0_35 (ji105)).f0), .int .i64 ((rd_T69 x0_35 (ji105)).f1)], .agg #[.int .i64 ((rd_T69 x1_35 (ji108)).f0), .int .i64 ((rd_T69 x1_35 (ji108)).f1)]] (by rfl) rfl rfl (by (try simp only [List.map_toArray, List.map_cons, List.map_nil]); first | done | (simp only [hji105, hji108]; rfl) | rfl | (simp only [List.length_drop, List.length_take]; rfl)) ?_
                      with_reducible refine (word_apart.calls ((rd_T69 x0_35 (ji105)).f0) ((rd_T69 x0_35 (ji105)).f1) ((rd_T69 x1_35 (ji108)).f0) ((rd_T69 x1_35 (ji108)).f1) t183 _ A111.out).mono ?_
                      rintro e w113 ⟨rfl, hb⟩
                      have HS0_ := (hb.cell (World.block_lt_of_cell? _ _ (hHeld.1))).trans (hHeld.1)
                      have HS1_ := (hb.cell (World.block_lt_of_cell? _ _ (hHeld.2.1))).trans (hHeld.2.1)
                      have HS2_ := (hb.cell (World.block_lt_of_cell? _ _ (hHeld.2.2.1))).trans (hHeld.2.2.1)
                      have HS3_ := (hb.cell (World.block_lt_of_cell? _ _ (hHeld.2.2.2))).trans (hHeld.2.2.2)
                      refine ⟨_, rfl, ?_⟩
                      have n0_ := Aside0.mk (Kd.V_below (by (with_reducible repeat (first | apply Kd.V_alloc | apply Kd.V_drewN | apply Kd.V_drew)); exact HO_0.out) hb)
                      have n1_ := Aside0.mk (Kd.V_below (by (with_reducible repeat (first | apply Kd.V_alloc | apply Kd.V_drewN | apply Kd.V_drew)); exact HO_1.out) hb)
                      have n2_ := Aside0.mk (below_step (by repeat (first | (with_reducible first | exact HB.out | apply below_alloc | apply pw_below_drewN | apply below_drew1) | exact HB.out)) hb)
                      clear HO_0
                      clear HO_1
                      clear HB
                      have HO_0 := n0_
                      have HO_1 := n1_
                      have HB := n2_
                      clear n0_ n1_ n2_
                      (try clear hb)
                      (try clear hb2)
                      (try clear hk)
                      (try clear hi)
                      refine hK.out _ _ ⟨HS0_, HS1_, HS2_, HS3_⟩ (fun hHeld => ?_)
                      clear hK K
                      refine norm_ (a' := ?_) ?_ ?_
                      rotate_left
                      ·show Act.put _ (some 113) _ = _
                       simp only [Act.put, List.setIfInBounds_toArray, List.set_cons_zero, List.set_cons_succ, i64_w, i32_w]
                       rfl
                      refine pure_ (i := 13) (N := some 93) (v := ?_) (a' := ?_) #[true, true, true, true, true, true, true, true, true, true, true, true, true, true] rfl rfl (any_of HT_.out (by kernel_rfl)) (fun _ _ _ h => h) (Or.inl ⟨by rfl, ?_⟩) ?_ ?_
                      rotate_left
                      ·intro w'
                       go_simp
                       with_reducible rfl
                      rotate_left
                      ·simp only [Act.put, List.setIfInBounds_toArray, List.set_cons_zero, List.set_cons_succ, i64_w, i32_w]
                       rfl
                      refine done_ (done_of HT_.out (by kernel_rfl)) ?_
                      try go_wp2
                      go_meet
                      case rel => exact ⟨_, (t183), (by first | rfl | (simp; done) | (simp [*]; done) | (refine congrArg (Value.int _) ?_; omega) | (refine congrArg Value.bool ?_; generalize ByteArray.toList _ = z_; cases z_ <;> rfl)), H', ⟨by have := HJ2.out; have := HJ10.out; have := HJ35.out; have := HJ66.out; have := HJ72.out; first | omega | exact Nat.le_refl _⟩, ⟨by (with_reducible repeat (first | apply Kd.V_alloc | apply Kd.V_drewN | apply Kd.V_drew)); exact HO_0.out⟩, ⟨by (with_reducible repeat (first | apply Kd.V_alloc | apply Kd.V_drewN | apply Kd.V_drew)); exact HO_1.out⟩, ⟨by repeat (first | (with_reducible first | exact HB.out | apply below_alloc | apply pw_below_drewN | apply below_drew1) | exact HB.out)⟩⟩
                     ·rw [if_neg c110] at H
                      exact absurd H (by simp)
                    ·rw [if_neg c109] at H
                     exact absurd H (by simp)
                   ·rw [if_neg c107] at H
                    exact absurd H (by simp)
                  ·rw [if_neg c106] at H
                   exact absurd H (by simp)
                case rest =>
                 clear HC99
                 try clear c1
                 try clear p1
                 try clear q1
                 try clear hx1
                 try clear qi1
                 try clear p2
                 try clear c3
                 try clear c4
                 try clear c5
                 try clear c6
                 try clear p6
                 try clear c7
                 try clear c8
                 try clear c9
                 try clear c10
                 try clear c11
                 try clear p15
                 try clear q15
                 try clear hx15
                 try clear p17
                 try clear q17
                 try clear hx17
                 try clear qi17
                 try clear p18
                 try clear q18
                 try clear hx18
                 try clear c37
                 try clear c37b0
                 try clear c37b1
                 try clear c38
                 try clear c38b0
                 try clear c38b1
                 try clear c40
                 try clear c41
                 try clear c43
                 try clear c44
                 try clear c46
                 try clear c48
                 try clear c50
                 try clear c51
                 try clear c52
                 try clear c53
                 try clear c54
                 try clear p64
                 try clear c68
                 try clear c68b0
                 try clear c68b1
                 try clear c68b2
                 try clear c72
                 try clear c74
                 try clear c74b0
                 try clear c74b1
                 try clear c74b2
                 try clear c78
                 try clear c81
                 try clear c89
                 try clear c96
                 try clear c96b0
                 try clear c96b1
                 try clear c97
                 try clear c97b0
                 try clear c97b1
                 try clear c104
                 try clear c106
                 try clear c106b0
                 try clear c107
                 try clear c107b0
                 try clear c109
                 try clear c109b0
                 try clear c110
                 try clear c110b0
                 try clear hx157_0
                 try clear hx157_1
                 try clear hx158_0
                 try clear hx158_1
                 try clear hx178_0
                 try clear hx178_1
                 try clear hx179_0
                 try clear hx179_1
                 try clear hx181_0
                 try clear hx181_1
                 try clear hx182_0
                 try clear hx182_1
                 try clear p1
                 try clear p15
                 try clear p157
                 try clear p158
                 try clear p178
                 try clear p179
                 try clear p181
                 try clear p182
                 try clear p2
                 try clear q1
                 try clear q15
                 try clear q157
                 try clear q158
                 try clear q178
                 try clear q179
                 try clear q181
                 try clear q182
                 obtain ⟨kq, x93_98, rfl, HA, HJ98, HO_0, HO_1, HB⟩ := hcut
                 cases kq with
                 | zero => exact absurd HA.out (by simp [word_Strip.j8])
                 | succ kj98 =>
                  have H := HA.out
                  clear HA
                  simp only [word_Strip.j8] at H
                  by_cases c114 : x93_98 = true
                  ·subst c114
                   have H1 : (some (([] : List (S69)), ([] : List (S69)), (-1))) = some (r1, r2, r3) := by rw [if_pos rfl] at H; exact H
                   clear H
                   have H := H1
                   clear H1
                   simp only [Option.some.injEq, Prod.mk.injEq] at H
                   obtain ⟨rfl, rfl, rfl⟩ := H
                   go_wp2
                   go_ret3
                   exact ⟨_, _, by first | rfl | (simp [errW_none, errW_some] <;> rfl) | (simp [*, errW_none, errW_some] <;> rfl), by first | exact Kd.R_nil _ _ _ _ _ | exact Kd.N_nil _ _ _ _ _ | exact Kd.V_nil _ _ _ _ _ | exact Kd.Q_nil _ _ _ _ _ | exact Kd.S_nil _ _ _ _ _, by first | exact Kd.R_nil _ _ _ _ _ | exact Kd.N_nil _ _ _ _ _ | exact Kd.V_nil _ _ _ _ _ | exact Kd.Q_nil _ _ _ _ _ | exact Kd.S_nil _ _ _ _ _, by repeat (first | (with_reducible first | exact HB.out | apply below_alloc | apply pw_below_drewN | apply below_drew1) | exact HB.out)⟩
                  ·replace c114 := Bool.eq_false_iff.mpr c114
                   subst c114
                   have H1 : ((api_Letter_54.f x0_35).bind fun t184 => ((api_Letter_54.f x1_35).bind fun t187 => (some (t184, t187, 0)))) = some (r1, r2, r3) := by rw [if_neg (show ¬ (false = true) by decide)] at H; exact H
                   clear H
                   have H := H1
                   clear H1
                   replace H := Option.bind_eq_some_iff.mp H
                   obtain ⟨t184, A1150, H⟩ := H
                   replace H : ((api_Letter_54.f x1_35).bind fun t187 => (some (t184, t187, 0))) = some (r1, r2, r3) := H
                   have A115 := Aside0.mk A1150
                   clear A1150
                   replace H := Option.bind_eq_some_iff.mp H
                   obtain ⟨t187, A1160, H⟩ := H
                   replace H : (some (t184, t187, 0)) = some (r1, r2, r3) := H
                   have A116 := Aside0.mk A1160
                   clear A1160
                   simp only [Option.some.injEq, Prod.mk.injEq] at H
                   obtain ⟨rfl, rfl, rfl⟩ := H
                   go_wp2_with (first | ((with_reducible refine gate_callee (f := 54) rfl ?_); refine goesL_ (some 115) rfl rfl Try.func54 (by kernel_rfl) rfl #[.slice (some ad178) x0_35.length co101] rfl (by (try simp only [List.map_toArray, List.map_cons, List.map_nil]); first | done | rfl | (simp only [List.length_drop, List.length_take]; rfl)) ?_; (with_reducible refine (api_Letter_54.calls _ _ x0_35 t184 _ ?side1 ?side2 A115.out).mono ?_); (case side1 => repeat (first | exact (Kd.V_reads' HO_0.out).2.2 | (with_reducible refine Kd.C_alloc ?_ _) | (with_reducible refine Kd.C_drewN ?_ _) | (with_reducible refine Kd.C_drew ?_))); (case side2 => exact (Kd.V_reads' HO_0.out).2.1); rintro e w117 ⟨v185, rfl, ho0, hb⟩; refine ⟨_, rfl, ?_⟩; have n0_ := Aside0.mk (Kd.V_elder' (by (with_reducible repeat (first | apply Kd.V_alloc | apply Kd.V_drewN | apply Kd.V_drew)); exact HO_0.out) (Kd.R_base ho0) hb); have n1_ := Aside0.mk (Kd.V_elder' (by (with_reducible repeat (first | apply Kd.V_alloc | apply Kd.V_drewN | apply Kd.V_drew)); exact HO_1.out) (Kd.R_base ho0) hb); have n2_ := Aside0.mk (Kd.R_lower (Kd.R_newM (M := fun k_ => (w.heap.size ≤ k_)) ho0 (below_size (by repeat (first | (with_reducible first | exact HB.out | apply below_alloc | apply pw_below_drewN | apply below_drew1) | exact HB.out))) (fun k_ h_ => h_)) (below_size (by repeat (first | (with_reducible first | exact HB.out | apply below_alloc | apply pw_below_drewN | apply below_drew1) | exact HB.out)))); have n3_ := Aside0.mk (below_step (by repeat (first | (with_reducible first | exact HB.out | apply below_alloc | apply pw_below_drewN | apply below_drew1) | exact HB.out)) hb); clear HO_0; clear HO_1; clear HB; have HO_0 := n0_; have HO_1 := n1_; have HO186 := n2_; have HB := n3_; clear n0_ n1_ n2_ n3_; (try clear hb); (try clear hb2); (try clear hk); (try clear hi); (try clear ho0)) | ((with_reducible refine gate_callee (f := 54) rfl ?_); refine goesL_ (some 117) rfl rfl Try.func54 (by kernel_rfl) rfl #[.slice (some ad179) x1_35.length co102] rfl (by (try simp only [List.map_toArray, List.map_cons, List.map_nil]); first | done | rfl | (simp only [List.length_drop, List.length_take]; rfl)) ?_; (with_reducible refine (api_Letter_54.calls _ _ x1_35 t187 _ ?side1 ?side2 A116.out).mono ?_); (case side1 => repeat (first | exact (Kd.V_reads' HO_1.out).2.2 | (with_reducible refine Kd.C_alloc ?_ _) | (with_reducible refine Kd.C_drewN ?_ _) | (with_reducible refine Kd.C_drew ?_))); (case side2 => exact (Kd.V_reads' HO_1.out).2.1); rintro e w118 ⟨v188, rfl, ho0, hb⟩; refine ⟨_, rfl, ?_⟩; have n0_ := Aside0.mk (Kd.V_elder' (by (with_reducible repeat (first | apply Kd.V_alloc | apply Kd.V_drewN | apply Kd.V_drew)); exact HO_0.out) (Kd.R_base ho0) hb); have n1_ := Aside0.mk (Kd.V_elder' (by (with_reducible repeat (first | apply Kd.V_alloc | apply Kd.V_drewN | apply Kd.V_drew)); exact HO_1.out) (Kd.R_base ho0) hb); have n2_ := Aside0.mk (Kd.R_elder' (by (with_reducible repeat (first | apply Kd.R_alloc | apply Kd.R_drewN | apply Kd.R_drew)); exact HO186.out) (Kd.R_base ho0) hb); have n3_ := Aside0.mk (Kd.R_lower (Kd.R_new' (Kd.R_newM (M := fun k_ => (w.heap.size ≤ k_)) ho0 (below_size (by repeat (first | (with_reducible first | exact HB.out | apply below_alloc | apply pw_below_drewN | apply below_drew1) | exact HB.out))) (fun k_ h_ => h_)) (Kd.R_lt (by (with_reducible repeat (first | apply Kd.R_alloc | apply Kd.R_drewN | apply Kd.R_drew)); exact HO186.out))) (below_size (by repeat (first | (with_reducible first | exact HB.out | apply below_alloc | apply pw_below_drewN | apply below_drew1) | exact HB.out)))); have n4_ := Aside0.mk (below_step (by repeat (first | (with_reducible first | exact HB.out | apply below_alloc | apply pw_below_drewN | apply below_drew1) | exact HB.out)) hb); clear HO_0; clear HO_1; clear HO186; clear HB; have HO_0 := n0_; have HO_1 := n1_; have HO186 := n2_; have HO189 := n3_; have HB := n4_; clear n0_ n1_ n2_ n3_ n4_; (try clear hb); (try clear hb2); (try clear hk); (try clear hi); (try clear ho0)))
                   go_ret3
                   exact ⟨_, _, by first | rfl | (simp [errW_none, errW_some] <;> rfl) | (simp [*, errW_none, errW_some] <;> rfl), by (with_reducible repeat (first | apply Kd.R_alloc | apply Kd.R_drewN | apply Kd.R_drew)); exact Kd.R_mono HO186.out (fun _ hk => by first | exact ⟨hk.1.1, hk.2⟩ | ((repeat' refine ⟨?_, ?_⟩) <;> (first | exact hk.1 | exact hk.2 | exact hk.1.1 | exact hk.1.2 | exact hk.2.1 | exact hk.2.2 | exact hk.1.1.1 | exact hk.1.1.2 | exact hk.1.2.1 | exact hk.1.2.2 | exact hk.2.1.1 | exact hk.2.1.2 | exact hk.2.2.1 | exact hk.2.2.2 | exact hk.1.1.1.1 | exact hk.1.1.1.2 | exact hk.1.1.2.1 | exact hk.1.1.2.2 | exact hk.1.2.1.1 | exact hk.1.2.1.2 | exact hk.1.2.2.1 | exact hk.1.2.2.2 | exact hk.2.1.1.1 | exact hk.2.1.1.2 | exact hk.2.1.2.1 | exact hk.2.1.2.2 | exact hk.2.2.1.1 | exact hk.2.2.1.2 | exact hk.2.2.2.1 | exact hk.2.2.2.2))), by (with_reducible repeat (first | apply Kd.R_alloc | apply Kd.R_drewN | apply Kd.R_drew)); exact Kd.R_mono HO189.out (fun _ hk => by first | exact ⟨hk.1.1, hk.2⟩ | ((repeat' refine ⟨?_, ?_⟩) <;> (first | exact hk.1 | exact hk.2 | exact hk.1.1 | exact hk.1.2 | exact hk.2.1 | exact hk.2.2 | exact hk.1.1.1 | exact hk.1.1.2 | exact hk.1.2.1 | exact hk.1.2.2 | exact hk.2.1.1 | exact hk.2.1.2 | exact hk.2.2.1 | exact hk.2.2.2 | exact hk.1.1.1.1 | exact hk.1.1.1.2 | exact hk.1.1.2.1 | exact hk.1.1.2.2 | exact hk.1.2.1.1 | exact hk.1.2.1.2 | exact hk.1.2.2.1 | exact hk.1.2.2.2 | exact hk.2.1.1.1 | exact hk.2.1.1.2 | exact hk.2.1.2.1 | exact hk.2.1.2.2 | exact hk.2.2.1.1 | exact hk.2.2.1.2 | exact hk.2.2.2.1 | exact hk.2.2.2.2))), by repeat (first | (with_reducible first | exact HB.out | apply below_alloc | apply pw_below_drewN | apply below_drew1) | exact HB.out)⟩
               ·rw [if_neg c97] at H
                exact absurd H (by simp)
              ·rw [if_neg c96] at H
               exact absurd H (by simp)

end Go.Proofs.Ytbigeaknbhmniaa.PB
/-
  DERIVED: THE SHELF's CONTRACTS AT THIS DUMP, IN PLAIN WORDS (tools/lay-plain.mjs out of 'TryShelf.lean', which tools/lay-shelf.mjs wrote): THE SAME DECLARATIONS UNDER THE SAME NAMES: 'import', 'namespace', 'open', 'def', 'theorem' AND NOTHING ELSE: no command of the shelf's: FOR A HAND-IN. Each laying: the table of numbers ('.._ren') and one theorem, a field a fact of the dump's own or the kernel's comparison; each contract: ONE APPLICATION.
-/
namespace Go.Proofs
open Go.Shelf
def Try.lays189_ren : Go.Shelf.Ren := ⟨fun | 189 => 61 | 125 => 94 | 257 => 93 | 128 => 121 | 129 => 122 | 294 => 112 | 295 => 113 | 296 => 114 | 297 => 115 | 298 => 116 | 299 => 117 | 216 => 118 | 300 => 119 | 301 => 120 | 328 => 139 | 329 => 140 | 330 => 141 | 331 => 142 | 332 => 143 | 215 => 144 | 343 => 150 | n => n, fun | 28 => 39 | 3 => 3 | 46 => 111 | 0 => 0 | 51 => 117 | 53 => 95 | 4 => 4 | 183 => 127 | 182 => 126 | 131 => 59 | 5 => 5 | 9 => 9 | 218 => 149 | 222 => 153 | 228 => 159 | 229 => 160 | n => n, fun | n => n⟩
theorem Try.lays189 : Go.Proofs.Lays.n189 Try.prog Try.lays189_ren := {
  mixed := by kernel_rfl
  f125 := Try.func94.trans (congrArg some (by kernel_rfl))
  f128 := Try.func121.trans (congrArg some (by kernel_rfl))
  f129 := Try.func122.trans (congrArg some (by kernel_rfl))
  f189 := Try.func61.trans (congrArg some (by kernel_rfl))
  f215 := Try.func144.trans (congrArg some (by kernel_rfl))
  f216 := Try.func118.trans (congrArg some (by kernel_rfl))
  f257 := Try.func93.trans (congrArg some (by kernel_rfl))
  f294 := Try.func112.trans (congrArg some (by kernel_rfl))
  f295 := Try.func113.trans (congrArg some (by kernel_rfl))
  f296 := Try.func114.trans (congrArg some (by kernel_rfl))
  f297 := Try.func115.trans (congrArg some (by kernel_rfl))
  f298 := Try.func116.trans (congrArg some (by kernel_rfl))
  f299 := Try.func117.trans (congrArg some (by kernel_rfl))
  f300 := Try.func119.trans (congrArg some (by kernel_rfl))
  f301 := Try.func120.trans (congrArg some (by kernel_rfl))
  f328 := Try.func139.trans (congrArg some (by kernel_rfl))
  f329 := Try.func140.trans (congrArg some (by kernel_rfl))
  f330 := Try.func141.trans (congrArg some (by kernel_rfl))
  f331 := Try.func142.trans (congrArg some (by kernel_rfl))
  f332 := Try.func143.trans (congrArg some (by kernel_rfl))
  f343 := Try.func150.trans (congrArg some (by kernel_rfl))
  t0 := Try.underlying0
  a0 := Try.isAgg0
  z0 := Try.sizeOf0
  v0 := Try.zeroValue0
  t3 := Try.underlying3
  a3 := Try.isAgg3
  z3 := Try.sizeOf3
  v3 := Try.zeroValue3
  t4 := Try.underlying4
  a4 := Try.isAgg4
  z4 := Try.sizeOf4
  v4 := Try.zeroValue4
  t5 := Try.underlying5
  a5 := Try.isAgg5
  z5 := Try.sizeOf5
  v5 := Try.zeroValue5
  t9 := Try.underlying9
  a9 := Try.isAgg9
  z9 := Try.sizeOf9
  v9 := Try.zeroValue9
  t28 := Try.underlying39
  a28 := Try.isAgg39
  z28 := Try.sizeOf39
  v28 := Try.zeroValue39
  t46 := Try.underlying111
  a46 := Try.isAgg111
  z46 := Try.sizeOf111
  v46 := Try.zeroValue111
  t51 := Try.underlying117
  a51 := Try.isAgg117
  z51 := Try.sizeOf117
  v51 := Try.zeroValue117
  t53 := Try.underlying95
  a53 := Try.isAgg95
  z53 := Try.sizeOf95
  v53 := Try.zeroValue95
  t131 := Try.underlying59
  a131 := Try.isAgg59
  z131 := Try.sizeOf59
  v131 := Try.zeroValue59
  t182 := Try.underlying126
  a182 := Try.isAgg126
  z182 := Try.sizeOf126
  v182 := Try.zeroValue126
  t183 := Try.underlying127
  a183 := Try.isAgg127
  z183 := Try.sizeOf127
  v183 := Try.zeroValue127
  t218 := Try.underlying149
  a218 := Try.isAgg149
  z218 := Try.sizeOf149
  v218 := Try.zeroValue149
  t222 := Try.underlying153
  a222 := Try.isAgg153
  z222 := Try.sizeOf153
  v222 := Try.zeroValue153
  t228 := Try.underlying159
  a228 := Try.isAgg159
  z228 := Try.sizeOf159
  v228 := Try.zeroValue159
  t229 := Try.underlying160
  a229 := Try.isAgg160
  z229 := Try.sizeOf160
  v229 := Try.zeroValue160 }
open Go.Sort Go.RowKit in
theorem Try.slices_Sort_int (blk off cap : Nat) (zs : List Int) (w : World) (hH : Holds (Value.int .i64) w blk off zs.toArray) (hblk : blk < w.heap.size) (hsz : zs.length < 4611686018427387904) :
    Calls Try.prog 61 #[.slice (some ⟨blk, off, none⟩) zs.length cap] w fun e w' =>
      e = .returned (.tuple #[]) ∧ ∃ n os, w' = grow (putRow (Value.int .i64) (Sort.ahead w n) blk off (zs.mergeSort fun x y => decide (x ≤ y)).toArray) os := Any.slices_Sort_int Try.lays189 blk off cap zs w hH hblk hsz
open Go.RowKit Go.Sort in
/-- .. and plain. (LAID: no walk: one application.) -/
theorem Try.slices_Sort_int_none (p : Option Addr) (cap : Nat) (w : World) :
    Calls Try.prog 61 #[.slice p 0 cap] w fun e w' => e = .returned (.tuple #[]) ∧ w' = w := Any.slices_Sort_int_none Try.lays189 p cap w
end Go.Proofs
/- word.Vars, in the printed shape: a map that the call makes and keeps to itself, ranged over, and sorted. -/
namespace Go.Proofs.Ytbigeaknbhmniaa.H
open Go.RowKit Go.Maps Go.Sort Go.Proofs.YtbigeaknbhmniaaW.PrintWords Go.Proofs.YtbigeaknbhmniaaW.PrintLast Go.Proofs.YtbigeaknbhmniaaW.PrintMore Go.Proofs.Ytbigeaknbhmniaa.PB
/-- A word's variables, as they come. -/
def varsOf (l : List S69) : List Int := (l.map (·.f0)).filter (fun x => decide (0 ≤ x))
def once : List Int → List Int
  | [] => []
  | x :: r => if x ∈ r then once r else x :: once r
theorem mem_once (y : Int) : ∀ l : List Int, y ∈ once l ↔ y ∈ l
  | [] => Iff.rfl
  | x :: r => by
    unfold once
    by_cases h : x ∈ r
    · rw [if_pos h, mem_once y r, List.mem_cons]
      exact ⟨Or.inr, fun z => z.elim (fun e => e ▸ h) id⟩
    · rw [if_neg h, List.mem_cons, List.mem_cons, mem_once y r]
theorem nodup_once : ∀ l : List Int, (once l).Nodup
  | [] => List.nodup_nil
  | x :: r => by
    unfold once
    by_cases h : x ∈ r
    · rw [if_pos h]; exact nodup_once r
    · rw [if_neg h]; exact List.nodup_cons.2 ⟨fun z => h ((mem_once x r).1 z), nodup_once r⟩
/-- Each once, sorted. -/
def varsL (l : List S69) : List Int := (once (varsOf l)).mergeSort fun x y => decide (x ≤ y)
def word_Vars.f (k : Nat) (l0 : List (S69)) : Option (List Int) := (word_may.f k l0).bind fun b => if b = true then (if l0.length ≤ 4000 ∧ ∀ x ∈ l0, x.f0 < 9223372036854775808 then some (varsL l0) else none) else some []
theorem word_Vars.mono : ∀ a0 k, LeO (word_Vars.f k a0) (word_Vars.f (k + 1) a0) := by
  intro a0 k
  unfold word_Vars.f
  exact LeO.bind (word_may.mono _ _) (fun _ => LeO.refl _)
theorem varsOf_step (l : List S69) (k : Nat) (h : k < l.length) : varsOf (l.take (k + 1)) = if 0 ≤ (rd_T69 l (k : Int)).f0 then varsOf (l.take k) ++ [(rd_T69 l (k : Int)).f0] else varsOf (l.take k) := by
  have e : rd_T69 l (k : Int) = l[k] := by unfold rd_T69; rw [Int.toNat_natCast]; simp [h]
  rw [e]
  unfold varsOf
  rw [List.take_succ_eq_append_getElem h, List.map_append, List.filter_append]
  by_cases h0 : 0 ≤ l[k].f0
  · rw [if_pos h0]; simp [h0]
  · rw [if_neg h0]; simp [h0]
theorem keyed3 : Keyed Try.prog 3 := int_keyed Try.underlying3
set_option maxRecDepth 100000 in
theorem plainBool_inv {v : Value} {y : DataW Unit × List MemPlace} (h : plainElem Try.prog 4 v = some y) : ∃ c, v = Value.bool c := by
  unfold plainElem at h
  rw [Try.underlying4] at h
  cases v <;> simp at h
  exact ⟨_, rfl⟩
theorem ownsMap_size {w : World} {b n : Nat} {D : DataW Unit} (h : w.ownsMap Try.prog 3 (plainElem Try.prog 4) b n D) : Maps.size D ≤ n := by
  obtain ⟨es, clock, hb, F, hs, rfl⟩ := h
  show (List.foldr DataW.insert [] _).length ≤ n
  rw [length_sorted]; simp; exact hs
theorem ownsMap_below {w w1 : World} {b n : Nat} {D : DataW Unit} (h : w.ownsMap Try.prog 3 (plainElem Try.prog 4) b n D) (hb : Below w.heap.size w w1) : w1.ownsMap Try.prog 3 (plainElem Try.prog 4) b n D := by
  have hlt := h.lt
  obtain ⟨es, clock, h1, F, hs, hD⟩ := h
  exact ⟨es, clock, (hb.block b hlt).trans h1, F, hs, hD⟩
theorem vars_perm {D : DataW Unit} {left : Lit → Bool} {ks : List Int} {l : List S69} (h : CollectedI D left ks) (hl : ∀ kl, left kl = false) (hD : ∀ x, has D (.int .i64 x) = true ↔ x ∈ varsOf l) :
    (ks.mergeSort fun x y => decide (x ≤ y)) = varsL l := by
  refine mergeSort_of_perm_i ((List.perm_ext_iff_of_nodup h.1 (nodup_once _)).2 fun x => ?_)
  rw [h.2 x, hD x, hl, mem_once]
  simp
set_option maxHeartbeats 4000000 in
set_option maxRecDepth 100000 in
theorem word_Vars.calls (k : Nat) (A0 : Option Addr) (c0 : Nat) (l0 : List (S69)) (r : List Int) (w : World) (hr0 : Kd.C k69 w A0 l0.length l0) (hc0 : l0.length ≤ c0) (h : word_Vars.f k l0 = some r) :
    Calls Try.prog 28 #[.slice A0 l0.length c0] w fun e w' => ∃ v0_ : Value, e = .returned (v0_) ∧ Kd.R (Kd.int .i64) 3 w' w.heap.size (fun _ => True) v0_ r ∧ Below w.heap.size w w' := by
  have hu69 := Try.underlying69
  have HR0 := Aside0.mk hr0
  have HC0 := Aside0.mk hc0
  clear hr0 hc0
  obtain ⟨b, hm, h⟩ := Option.bind_eq_some_iff.1 h
  have HM := Aside0.mk hm
  clear hm
  cases b with
  | false =>
    obtain rfl := Option.some.inj h
    clear h
    go_enter Try.func28, Try.ntmps28
    go_wp2_with (go_at_call 42; (with_reducible refine (word_may.calls k _ _ l0 false _ HR0.out HC0.out HM.out).mono ?_); rintro e w1 ⟨rfl, hb⟩)
    go_ret
    exact ⟨_, rfl, Kd.R_nil _ _ _ _ _, by repeat first | exact hb | apply below_drew1⟩
  | true =>
    rw [if_pos rfl] at h
    split at h
    case isFalse => cases h
    case isTrue hg =>
    have HRES := Aside0.mk (Option.some.inj h)
    have HLEN := Aside0.mk hg.1
    have HWF := Aside0.mk hg.2
    clear h hg
    have hmm := @run_makeMap Try.prog
    obtain ⟨i0, hi, hz0, hz1, hz2⟩ := info_parts info3
    go_enter Try.func28, Try.ntmps28
    go_wp2_with (go_at_call 42; (with_reducible refine (word_may.calls k _ _ l0 true _ HR0.out HC0.out HM.out).mono ?_); rintro e w1 ⟨rfl, hb⟩; have HB1 := Aside0.mk hb; clear hb)
    go_loopw [14] (fun v14 wr => ∃ (x : Int) (D : DataW Unit), v14 = .int .i64 x ∧ Aside0 (0 ≤ x) ∧ Aside0 (x ≤ (l0.length : Int)) ∧ wr.ownsMap Try.prog 3 (plainElem Try.prog 4) w1.heap.size x.toNat D ∧ Aside0 (∀ y, has D (.int .i64 y) = true ↔ y ∈ varsOf (l0.take x.toNat)) ∧ Aside0 (Below w.heap.size w wr)) (fun v14 _ => l0.length - (RowKit.intOf v14).toNat)
    case atStart => exact ⟨0, .map [], rfl, ⟨Int.le_refl _⟩, ⟨by omega⟩, World.ownsMap_made _ _ _ _, ⟨fun x => by simp [varsOf, has]⟩, ⟨by repeat first | exact HB1.out | apply below_drew1 | apply below_alloc⟩⟩
    case round =>
      obtain ⟨x, D, rfl, HP, HQ, hown, HD, HB⟩ := hrel
      have hmb : w.heap.size ≤ w1.heap.size := HB1.out.size
      by_cases hlt : x < (l0.length : Int)
      · have hL := HLEN.out
        have hp := HP.out
        have hw : wrap64 (x + 1) = x + 1 := by unfold wrap64; omega
        have HW := Aside0.mk hw
        clear hw
        obtain ⟨ad, e, hx0, hx1⟩ := at_T69 HR0.out x hp hlt
        cases e
        replace hx0 := (HB.out.cell (World.block_lt_of_cell? w _ hx0)).trans hx0
        replace hx1 := (HB.out.cell (World.block_lt_of_cell? w _ hx1)).trans hx1
        have c1 : decide (x < (l0.length : Int)) = true := decide_eq_true hlt
        have c2 : decide (0 ≤ x) = true := decide_eq_true hp
        have hstep := varsOf_step l0 x.toNat (by omega)
        rw [Int.toNat_of_nonneg hp] at hstep
        have HS := Aside0.mk hstep
        clear hstep
        have hlt' := Aside0.mk hlt
        have p1 := eq_true hp
        have q1 := eq_true hlt
        clear hp hlt hL
        by_cases hv : 0 ≤ (rd_T69 l0 x).f0
        · have c3 : decide (0 ≤ (rd_T69 l0 x).f0) = true := decide_eq_true hv
          have hwf : (Lit.int .i64 (rd_T69 l0 x).f0).wf = true := by
            have hxl : x.toNat < l0.length := by have := hlt'.out; have := HP.out; omega
            have e1 : rd_T69 l0 x = l0[x.toNat] := by unfold rd_T69; simp [hxl]
            have h1 := HWF.out _ (List.getElem_mem hxl)
            rw [← e1] at h1
            show (decide (IntKind.i64.min ≤ _) && decide (_ ≤ IntKind.i64.max)) = true
            rw [Bool.and_eq_true, decide_eq_true_eq, decide_eq_true_eq, show IntKind.i64.min = -9223372036854775808 from rfl, show IntKind.i64.max = 9223372036854775807 from rfl]
            omega
          have HKEY := Aside0.mk (keyOf_int_mk (P := Try.prog) Try.underlying3 hwf)
          have HV := Aside0.mk hv
          clear hv hwf
          go_wp2_with (first
            | ((with_reducible refine gate_dst (N := 5) rfl ?_); refine box_event ?hg (N := 5) ?hd (cs := #[.int .i64 0, .int .i64 0]) (t := 69) ?hr ?_; (case hd => rfl); (case hg => rfl); (case hr => first | (go_simp; done) | (go_simp; rfl)); intro gb hgb w2 hbox hb; have HO2 := Aside0.mk (ownsMap_below hown hb); have HNE := Aside0.mk (show w1.heap.size ≠ gb by rw [hgb]; exact Nat.ne_of_lt hown.lt); have hcz0 : w2.cell? ⟨gb, 0, none⟩ = some (.int .i64 0) := (blk_cell hbox 0).trans rfl; have hcz1 : w2.cell? ⟨gb, 1, none⟩ = some (.int .i64 0) := (blk_cell hbox 1).trans rfl; have hfz0 := blk_frozen hbox 0; have hfz1 := blk_frozen hbox 1; have GE := Aside0.mk (show w.heap.size ≤ gb by rw [hgb]; exact below_size HB.out); have HB2 := Aside0.mk (below_step HB.out hb); clear hb hbox hgb)
            | (at_mapUpdate; refine wpList_mapUpdate_own _ rfl _ _ _ 85 rfl 3 4 keyed3 Try.underlying85 (plainElem Try.prog 4) w1.heap.size x.toNat D rfl (World.ownsMap.setCell (World.ownsMap.setCell HO2.out HNE.out _) HNE.out _) (by have := HLEN.out; have := HQ.out; unfold maxLen; omega) _ _ _ rfl rfl HKEY.out (.lit (.bool true)) [] (plainElem_bool Try.underlying4 true) ?_; intro w3 hown3 hgrow3))
          go_roundw
          case rel =>
            refine ⟨wrap64 (x + 1), D.put (.int .i64 (rd_T69 l0 x).f0) (.lit (.bool true)), rfl, ⟨?_⟩, ⟨?_⟩, ?_, ⟨?_⟩, ⟨?_⟩⟩
            · rw [HW.out]; have := HP.out; omega
            · rw [HW.out]; have := hlt'.out; omega
            · rw [HW.out, Int.toNat_add HP.out (by decide)]; exact hown3
            · intro y
              rw [HW.out, Int.toNat_add HP.out (by decide)]
              have hs := HS.out
              rw [if_pos HV.out] at hs
              rw [show x.toNat + (1 : Int).toNat = x.toNat + 1 from rfl, hs, List.mem_append, List.mem_singleton]
              by_cases hy : y = (rd_T69 l0 x).f0
              · subst hy
                exact ⟨fun _ => .inr rfl, fun _ => has_put_same (k := Lit.int .i64 _) hown.isMap trivial _⟩
              · rw [has_put_other (by simpa using hy), HD.out y]
                exact ⟨.inl, fun z => z.elim id (fun e => absurd e hy)⟩
            · refine Below.grown (row := some w1.heap.size) ?_ hgrow3 ?_ (fun j hj => by cases hj; exact hmb)
              · repeat first | exact HB2.out | refine below_set ?_ GE.out
              · have := HB2.out.size; simpa using this
          case measure => simp [RowKit.intOf]; have := HW.out; have := HP.out; have := hlt'.out; omega
        · have c3 : decide (0 ≤ (rd_T69 l0 x).f0) = false := decide_eq_false hv
          have HV := Aside0.mk hv
          clear hv
          go_wp2_with (first
            | ((with_reducible refine gate_dst (N := 5) rfl ?_); refine box_event ?hg (N := 5) ?hd (cs := #[.int .i64 0, .int .i64 0]) (t := 69) ?hr ?_; (case hd => rfl); (case hg => rfl); (case hr => first | (go_simp; done) | (go_simp; rfl)); intro gb hgb w2 hbox hb; have HO2 := Aside0.mk (ownsMap_below hown hb); have HNE := Aside0.mk (show w1.heap.size ≠ gb by rw [hgb]; exact Nat.ne_of_lt hown.lt); have hcz0 : w2.cell? ⟨gb, 0, none⟩ = some (.int .i64 0) := (blk_cell hbox 0).trans rfl; have hcz1 : w2.cell? ⟨gb, 1, none⟩ = some (.int .i64 0) := (blk_cell hbox 1).trans rfl; have hfz0 := blk_frozen hbox 0; have hfz1 := blk_frozen hbox 1; have GE := Aside0.mk (show w.heap.size ≤ gb by rw [hgb]; exact below_size HB.out); have HB2 := Aside0.mk (below_step HB.out hb); clear hb hbox hgb))
          go_roundw
          case rel =>
            refine ⟨wrap64 (x + 1), D, rfl, ⟨?_⟩, ⟨?_⟩, ?_, ⟨?_⟩, ⟨?_⟩⟩
            · rw [HW.out]; have := HP.out; omega
            · rw [HW.out]; have := hlt'.out; omega
            · rw [HW.out, Int.toNat_add HP.out (by decide)]; exact (World.ownsMap.setCell (World.ownsMap.setCell HO2.out HNE.out _) HNE.out _).mono (Nat.le_succ _)
            · intro y
              rw [HW.out, Int.toNat_add HP.out (by decide)]
              have hs := HS.out
              rw [if_neg HV.out] at hs
              rw [show x.toNat + (1 : Int).toNat = x.toNat + 1 from rfl, hs]
              exact HD.out y
            · repeat first | exact HB2.out | refine below_set ?_ GE.out
          case measure => simp [RowKit.intOf]; have := HW.out; have := HP.out; have := hlt'.out; omega
      · have c1 : decide (x < (l0.length : Int)) = false := decide_eq_false hlt
        obtain rfl : x = (l0.length : Int) := by have := HQ.out; omega
        rw [Int.toNat_natCast] at hown
        have hda := HD.out
        rw [Int.toNat_natCast, List.take_length] at hda
        have HDA := Aside0.mk hda
        have HSZ := Aside0.mk (ownsMap_size hown)
        have HLT := Aside0.mk hown.lt
        have HMB := Aside0.mk hmb
        have HBS := Aside0.mk HB.out.size
        clear hda hmb HD HP HQ hlt
        have c1' : decide (l0.length < l0.length) = false := decide_eq_false (Nat.lt_irrefl _)
        go_wp2_with (first
          | (at_range; refine wpList_range_own _ rfl _ 85 rfl 3 4 keyed3 Try.underlying85 _ w1.heap.size l0.length D rfl hown ?_; intro w0 hrg0 hg0 hs0)
          | go_in)
        go_frame
        obtain ⟨rs, HRS⟩ : ∃ rs, Aside0 (rs = wr.heap.size) := ⟨_, ⟨rfl⟩⟩
        rw [← HRS.out] at hrg0 ⊢
        go_loopw [6] (fun v6 wr => ∃ (left : Lit → Bool) (cnt : Nat) (ks : List Int), wr.ranges Try.prog 3 (plainElem Try.prog 4) w1.heap.size rs l0.length D left cnt ∧ wr.ownsRow (w1.heap.size + 1) 3 1 v6 ks.length (ks.map (Value.int .i64)) ∧ Aside0 (ks.length + cnt ≤ Maps.size D) ∧ Aside0 (CollectedI D left ks) ∧ Aside0 (w1.heap.size + 1 ≤ wr.heap.size) ∧ Aside0 (Below w.heap.size w wr)) (fun _ wr => wr.rangeLeft w1.heap.size rs)
        case atStart => exact ⟨_, _, [], hrg0, World.ownsRow_nil _ _ _ _, ⟨by simp⟩, ⟨CollectedI.start D⟩, ⟨by have := HLT.out; have := hg0.size; omega⟩, ⟨HB.out.grown hg0 HB.out.size (fun j hj => by cases hj)⟩⟩
        case round =>
          obtain ⟨left, cnt, ks, hrg, hrow, HCS, HC, HW2, HB3⟩ := hrel
          go_wp2_with (first
            | (at_next; refine wpList_next_ranges _ rfl _ rfl 3 keyed3 (plainElem Try.prog 4) (Value.int .i64) Value.bool (fun key kl hk => by obtain ⟨x, hx, _⟩ := Maps.keyOf_i64 Try.underlying3 hk; exact ⟨x, hx⟩) (fun v y hv => plainBool_inv hv) w1.heap.size rs l0.length _ _ _ rfl hrg ?_ ?_)
            | go_in)
          · intro hc0 hl0
            have hs := vars_perm HC.out hl0 HDA.out
            rw [HRES.out] at hs
            rcases hrow.2 with ⟨hnil, hk0⟩ | ⟨g, cap, cur, hv, hbase, hb, h1, h2, h3, h4⟩
            · subst hnil
              obtain rfl : ks = [] := List.eq_nil_of_length_eq_zero hk0
              rw [show (([] : List Int).mergeSort fun x y => decide (x ≤ y)) = [] by simp] at hs
              subst hs
              clear hrg
              go_wp2_with (go_at_call 61; refine (Try.slices_Sort_int_none none 0 _).mono ?_; rintro e w' ⟨rfl, rfl⟩)
              go_ret
              exact ⟨_, rfl, Kd.R_nil _ _ _ _ _, by repeat first | exact HB3.out | apply below_drew1⟩
            · subst hv
              have hH : Holds (Value.int .i64) wr g 0 ks.toArray := holds_of_blockI hb (by simpa using h4)
              have hgl : g < wr.heap.size := (Array.getElem?_eq_some_iff.1 hb).1
              have hsort := Try.slices_Sort_int g 0 cap ks wr hH hgl (by have := HCS.out; have := HSZ.out; have := HLEN.out; omega)
              have hl2 : (ks.mergeSort fun x y => decide (x ≤ y)).length = ks.length := List.length_mergeSort ks
              clear hrg hH
              go_wp2_with (go_at_call 61; refine hsort.mono ?_; rintro e w' ⟨rfl, nn, os, rfl⟩)
              go_ret
              have hg := grownBy_sortedI (w := wr) (g := g) (n := nn) (os := os) (ks.mergeSort fun x y => decide (x ≤ y)).toArray
              have hro := ownsRow_sortedI (n := nn) (os := os) (ts := ks.mergeSort fun x y => decide (x ≤ y)) hl2 hbase hb h1 h2 h3
              rw [hs] at hro hl2 hg
              rw [← hl2] at hro
              refine ⟨_, rfl, Kd.R_lower (base := w1.heap.size + 1) (Kd.R_of_own (by rw [← hl2]; exact hro) (fun _ _ => trivial)) (by have := HMB.out; omega), HB3.out.grown hg HB3.out.size (fun j hj => by cases hj; have := HMB.out; omega)⟩
          · intro x
            constructor
            all_goals
              intro kl yd yp w2 cnt2 hkey hlk hv hat hrg2 hlt hg2 hs2 hen
              obtain ⟨x', ex, rfl, hwx⟩ := Maps.keyOf_i64 Try.underlying3 hkey
              obtain rfl : x = x' := encZ_inj ex
              have hrow2 := hrow.kept hg2 (Or.inr (row_ne_iter hrow hrg).symm)
              have HS2 := Aside0.mk hg2.size
              clear hs2
              go_wp2_with (first
                | (at_builtin; refine wpList_append_own _ rfl _ _ 39 rfl (w1.heap.size + 1) 3 i0 (.int .i64 0) 1 8 Try.underlying39 hi hz0 hz1 hz2 rfl (by decide) _ _ _ rfl (hrow2.alloc _) ⟨w2.heap.size, 0, none⟩ 1 1 [.int .i64 x] rfl rfl (cell_one_new _ _ _) (by simp [Value.oneCell']) (by have := HCS.out; have := HSZ.out; have := HLEN.out; unfold maxLen; omega) (by have := HCS.out; have := HSZ.out; have := HLEN.out; omega) (by have := HW2.out; have := HS2.out; simp; omega) ?_; intro v' w3 hown' hg3 hnil3; go_frame)
                | go_in)
              have hrg3 := (hrg2.alloc (.cells #[.int .i64 x] 3)).kept hg3 (row_ne_low (hrow2.alloc (.cells #[.int .i64 x] 3)) (Nat.lt_succ_self _)) (row_ne_iter (hrow2.alloc (.cells #[.int .i64 x] 3)) (hrg2.alloc (.cells #[.int .i64 x] 3)))
              go_roundw
              case rel =>
                refine ⟨_, cnt2, ks ++ [x], hrg3, by simpa using hown', ⟨by have := HCS.out; simp; omega⟩, ⟨HC.out.step hlk hat⟩, ⟨by have := HW2.out; have := HS2.out; have := hg3.size; simp at this; omega⟩, ⟨?_⟩⟩
                exact ((HB3.out.grown hg2 HB3.out.size (fun j hj => by cases hj; rw [HRS.out]; exact HBS.out)).alloc (by have := HB3.out.size; have := HS2.out; omega) _).grown hg3 (by have := HB3.out.size; have := HS2.out; simp; omega) (fun j hj => by have := (hrow2.lt j hj).1; have := HMB.out; omega)
              case measure => rw [hrg3.left_eq, hrg.left_eq]; exact hlt
end Go.Proofs.Ytbigeaknbhmniaa.H
