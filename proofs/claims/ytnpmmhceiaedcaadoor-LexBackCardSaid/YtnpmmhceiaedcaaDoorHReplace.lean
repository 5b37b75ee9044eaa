import Derived.Test.YtnpmmhceiaedcaaDoorShelf
import Derived.Test.YtnpmmhceiaedcaaDoorWWords
import Derived.Test.YtnpmmhceiaedcaaDoorWLast
import Derived.Lib.ReplaceLaws
import Derived.Shelf.Vars
import Derived.HandedShaped
/- strings.ReplaceAll, off the shelf, in the printed shape; and what it reads of the world: that the library's MaxLen is some number. -/
namespace Go.Proofs.YtnpmmhceiaedcaaDoor.H
open Go.RowKit Go.Proofs.YtnpmmhceiaedcaaDoorW.PrintWords Go.Proofs.YtnpmmhceiaedcaaDoorW.PrintLast

structure Glob (w : World) : Prop where mk :: (out : ∃ m, w.cell? ⟨0, 0, none⟩ = some (.int .i64 m))
theorem Glob.below {w W : World} (h : Glob w) (hb : Below w.heap.size w W) : Glob W := by
  obtain ⟨m, hm⟩ := h.out
  exact ⟨m, pw_cell_below hb hm⟩
theorem Glob.drewN {w : World} {n : Nat} (h : Glob w) : Glob (w.drewN n) := ⟨h.out⟩
theorem Glob.drew {w : World} (h : Glob w) : Glob w.drew := ⟨h.out⟩
theorem glob_of_shaped {w : World} (h : w.ShapedOpen Tryd.prog) : Glob w :=
  ⟨cell_of_shapedOpen_int (g := 0) (t := 3) (zero := #[.int .i64 0]) h (of_decide_eq_true (by kernel_rfl)) (by kernel_rfl) rfl (by kernel_rfl) (by kernel_rfl) Tryd.underlying3⟩
def strings_ReplaceAll.f (a0 a1 a2 : ByteArray) : Option ByteArray :=
  if a0.size ≤ 1000000 ∧ 1 ≤ a1.size ∧ a2.size ≤ 1000 then some ⟨(Lib.replaceAll a0.data.toList a1.data.toList a2.data.toList).toArray⟩ else none
theorem strings_ReplaceAll.calls (s o n : ByteArray) (r : ByteArray) (w : World) (hG : Glob w) (h : strings_ReplaceAll.f s o n = some r) :
    Calls Tryd.prog 14 #[.string s, .string o, .string n] w fun e w' => e = .returned (.string r) ∧ Below w.heap.size w w' := by
  unfold strings_ReplaceAll.f at h
  split at h
  case isFalse => cases h
  case isTrue hs =>
    obtain ⟨h0, h1, h2⟩ := hs
    obtain rfl := Option.some.inj h
    obtain ⟨m, hm⟩ := hG.out
    have hc := Lib.countB_mul_le o h1 s.size s (Nat.le_refl _)
    have hc' : Lib.countB s o ≤ s.size := Nat.le_trans (Nat.le_mul_of_pos_right _ h1) hc
    have hm2 : Lib.countB s o * n.size ≤ 1000000 * 1000 := Nat.mul_le_mul (Nat.le_trans hc' h0) h2
    exact Tryd.strings_ReplaceAll s o n m w (by omega) hm h1 (by omega)
end Go.Proofs.YtnpmmhceiaedcaaDoor.H
