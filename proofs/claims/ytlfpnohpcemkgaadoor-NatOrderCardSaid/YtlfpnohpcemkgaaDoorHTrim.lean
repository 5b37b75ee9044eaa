import Derived.Test.YtlfpnohpcemkgaaDoorPAx6
/- strings.TrimLeft of noughts, in the printed shape: the other ways of TrimLeft are not gone. -/
namespace Go.Proofs.YtlfpnohpcemkgaaDoor.H
open Go.RowKit Go.Proofs.YtlfpnohpcemkgaaDoorW.PrintWords Go.Proofs.YtlfpnohpcemkgaaDoorW.PrintLast Go.Proofs.YtlfpnohpcemkgaaDoor.PA

def strings_TrimLeft.f (k : Nat) (a0 a1 : ByteArray) : Option ByteArray := if a1 = ⟨#[48]⟩ then (if a0.toList = ([] : List UInt8) then some a0 else strings_trimLeftByte.f k a0 48) else none
theorem strings_TrimLeft.mono (a0 a1 : ByteArray) (k : Nat) : LeO (strings_TrimLeft.f k a0 a1) (strings_TrimLeft.f (k + 1) a0 a1) := by
  intro r h
  unfold strings_TrimLeft.f at h ⊢
  split at h
  · rename_i h1
    rw [if_pos h1]
    split at h
    · rename_i h2; rw [if_pos h2]; exact h
    · rename_i h2; rw [if_neg h2]; exact strings_trimLeftByte.mono a0 48 k r h
  · cases h
set_option maxHeartbeats 1000000 in
set_option maxRecDepth 100000 in
theorem strings_TrimLeft.calls (k : Nat) (a0 : ByteArray) (a1 : ByteArray) (r : ByteArray) (w : World) (h : strings_TrimLeft.f k a0 a1 = some r) :
    Calls Tryd.prog 47 #[.string a0, .string a1] w fun e w' => e = .returned (.string r) ∧ Drawn0 w w' := by
  unfold strings_TrimLeft.f at h
  by_cases h1 : a1 = ⟨#[48]⟩
  · rw [if_pos h1] at h
    subst h1
    by_cases h2 : a0.toList = ([] : List UInt8)
    · rw [if_pos h2] at h
      obtain rfl := Option.some.inj h
      have e1 : (a0.toList == ([] : List UInt8)) = true := by rw [h2]; rfl
      go_enter Tryd.func47, Tryd.ntmps47
      go_wp2
      go_ret
      exact ⟨rfl, Drawn0.refl _⟩
    · rw [if_neg h2] at h
      have e1 : (a0.toList == ([] : List UInt8)) = false := by simpa using h2
      go_enter Tryd.func47, Tryd.ntmps47
      go_wp2_with (go_at_call 57; refine (strings_trimLeftByte.calls k a0 48 r _ h).mono ?_; rintro e w' ⟨rfl, hd⟩)
      go_ret
      exact ⟨rfl, hd⟩
  · rw [if_neg h1] at h; cases h
end Go.Proofs.YtlfpnohpcemkgaaDoor.H
