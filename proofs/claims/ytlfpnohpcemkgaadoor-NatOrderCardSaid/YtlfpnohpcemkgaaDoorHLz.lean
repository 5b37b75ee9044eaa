import Derived.Test.YtlfpnohpcemkgaaDoorShelf
import Derived.Test.YtlfpnohpcemkgaaDoorWWords
import Derived.Test.YtlfpnohpcemkgaaDoorWLast
/- bits.LeadingZeros32, in the printed shape: by the shelf. -/
namespace Go.Proofs.YtlfpnohpcemkgaaDoor.H
open Go.RowKit Go.Proofs.YtlfpnohpcemkgaaDoorW.PrintWords Go.Proofs.YtlfpnohpcemkgaaDoorW.PrintLast
def bits_LeadingZeros32.f (a0 : Int) : Option Int := if 0 ≤ a0 ∧ a0 ≤ 4294967295 then some (32 - (Lib.bitLen a0.toNat : Int)) else none
theorem bits_LeadingZeros32.calls (a0 : Int) (r : Int) (w : World) (h : bits_LeadingZeros32.f a0 = some r) :
    Calls Tryd.prog 37 #[.int .u32 a0] w fun e w' => e = .returned (.int .i64 r) ∧ Drawn0 w w' := by
  unfold bits_LeadingZeros32.f at h
  split at h
  · rename_i hp
    obtain rfl := Option.some.inj h
    refine (Tryd.bits_LeadingZeros32 a0 w hp.1 hp.2).mono ?_
    rintro e w' ⟨rfl, rfl⟩
    exact ⟨rfl, Drawn0.refl _⟩
  · cases h
end Go.Proofs.YtlfpnohpcemkgaaDoor.H
