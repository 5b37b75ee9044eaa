import Derived.Test.YtjpcbflkgldokaaDoorWWords
import Derived.Test.YtjpcbflkgldokaaDoorWLast
import Derived.Test.YtjpcbflkgldokaaDoorProg
import Derived.WalkKit
import Derived.KernelRfl
import Derived.Lib.Walk
import Derived.Laws.BitsLemmas
import Derived.Laws.IdiomArrays
/- strconv.FormatInt at base 16 for numbers from 0 to 2^20, by a walk. -/
namespace Go.Proofs.YtjpcbflkgldokaaDoor.H
open Go.RowKit Go.Proofs.YtjpcbflkgldokaaDoorW.PrintWords Go.Proofs.YtjpcbflkgldokaaDoorW.PrintLast

/-- What the calls read of the library's tables: one cell (the number of noughts behind 16). -/
structure Glob (w : World) : Prop where mk :: (out : w.cell? ⟨3, 15, none⟩ = some (.int .u8 4))
theorem Glob.below {w W : World} (h : Glob w) (hb : Below w.heap.size w W) : Glob W := ⟨pw_cell_below hb h.out⟩
theorem Glob.drewN {w : World} {n : Nat} (h : Glob w) : Glob (w.drewN n) := ⟨h.out⟩
theorem Glob.drew {w : World} (h : Glob w) : Glob w.drew := ⟨h.out⟩

set_option maxHeartbeats 1000000 in
set_option maxRecDepth 100000 in
theorem tz64_16 (w : World) (hG : Glob w) :
    Calls Tryd.prog 57 #[.int .u64 16] w fun e w' => e = .returned (.int .i64 4) ∧ w' = w := by
  have hc := hG.out
  clear hG
  go_enter Tryd.func57, Tryd.ntmps57
  have e : IntKind.u64.wrap (bits BinOp.and IntKind.u64 16 (IntKind.u64.wrap (-16)) * 285870213051353865) / 288230376151711744 = 15 := by kernel_rfl
  go_wp2
  go_ret
  exact ⟨rfl, rfl⟩
set_option maxHeartbeats 1000000 in
set_option maxRecDepth 100000 in
theorem tz_16 (w : World) (hG : Glob w) :
    Calls Tryd.prog 51 #[.int .u64 16] w fun e w' => e = .returned (.int .i64 4) ∧ w' = w := by
  go_enter Tryd.func51, Tryd.ntmps51
  go_wp2_with (go_at_call 57; refine (tz64_16 _ hG).mono ?_; rintro e w' ⟨rfl, rfl⟩)
  go_ret
  exact ⟨rfl, rfl⟩
set_option maxHeartbeats 1000000 in
set_option maxRecDepth 100000 in
theorem pow2_16 (w : World) :
    Calls Tryd.prog 50 #[.int .i64 16] w fun e w' => e = .returned (.bool true) ∧ w' = w := by
  go_enter Tryd.func50, Tryd.ntmps50
  have e : bits BinOp.and IntKind.i64 16 15 = 0 := by kernel_rfl
  go_wp2
  go_ret
  exact ⟨rfl, rfl⟩
end Go.Proofs.YtjpcbflkgldokaaDoor.H
