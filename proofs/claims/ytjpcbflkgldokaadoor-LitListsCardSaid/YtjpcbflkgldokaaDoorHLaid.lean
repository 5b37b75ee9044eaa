import Derived.Test.YtjpcbflkgldokaaDoorHEsc
import Derived.Test.YtjpcbflkgldokaaDoorRows
import Derived.Lib.LaidU8
/- From the row's listed variables to the one cell that the walks read. -/
namespace Go.Proofs.YtjpcbflkgldokaaDoor.H
theorem glob_of_laid {W : World} (h : laidMet Tryd.prog Rows.litPointsRow.laid W) : Glob W := by
  obtain ⟨g, t, cs, fuel, p, hg, ht, hv, hd⟩ := Lib.laidMet.reads h (n := "math/bits.deBruijn64tab") (d := Rows.laid_math_bits_deBruijn64tab) (.tail _ (.head _))
  obtain rfl : g = 3 := Option.some.inj (hg.symm.trans (show Tryd.prog.globalNamed "math/bits.deBruijn64tab" = some 3 by kernel_rfl))
  obtain rfl : t = 87 := Option.some.inj (ht.symm.trans (show (Tryd.prog.globals[3]?).map (·.type) = some 87 by kernel_rfl))
  have e := Lib.cells_of_tab (k := .u8) (n := 64) (e := 5) (zs := [0, 1, 56, 2, 57, 49, 28, 3, 61, 58, 42, 50, 38, 29, 17, 4, 62, 47, 59, 36, 45, 43, 51, 22, 53, 39, 33, 30, 24, 18, 12, 5, 63, 55, 48, 27, 60, 41, 37, 16, 46, 35, 44, 21, 52, 32, 23, 11, 54, 26, 40, 15, 34, 20, 31, 10, 25, 14, 19, 9, 13, 8, 7, 6]) (by kernel_rfl) (by kernel_rfl) (by kernel_rfl) (by kernel_rfl) hd
  have hc := World.var?_cell hg hv 15
  rw [show cs[15]? = cs.toList[15]? by simp, e] at hc
  exact ⟨hc⟩
end Go.Proofs.YtjpcbflkgldokaaDoor.H
