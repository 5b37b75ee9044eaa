import Derived.Test.YtnpmmhceiaedcaaDoorWWords
import Derived.Test.YtnpmmhceiaedcaaDoorWLast
import Derived.Test.YtnpmmhceiaedcaaDoorProg
import Derived.WalkKit
import Derived.KernelRfl
import Derived.Lib.Walk
import Derived.Lib.Strings
import Derived.Lib.Slices
import Derived.Lib.Bytealg
import Derived.BigCall
import Derived.BigGuard
import Derived.Deep.Draws
import Derived.Laws.Strings3
/- The contract of internal/stringslite.Index at a substr of one byte, and of IndexByte, in the printed shape. -/
namespace Go.Proofs.YtnpmmhceiaedcaaDoor.H
open Go.RowKit Go.Proofs.YtnpmmhceiaedcaaDoorW.PrintWords Go.Proofs.YtnpmmhceiaedcaaDoorW.PrintLast

def stringslite_IndexByte.f (a0 : ByteArray) (a1 : Int) : Option Int := some (Lib.indexByte a0.data.toList a1.toNat.toUInt8)
def stringslite_Index.f (a0 a1 : ByteArray) : Option Int :=
  match a1.data.toList with
  | [c] => some (Lib.indexByte a0.data.toList c)
  | _ => none
set_option maxHeartbeats 1000000 in
set_option maxRecDepth 100000 in
theorem indexByte_walk (s : ByteArray) (c : Int) (w : World) :
    Calls Tryd.prog 46 #[.string s, .int .u8 c] w fun e w' => e = .returned (.int .i64 (Lib.indexByte s.data.toList c.toNat.toUInt8)) ∧ w' = w := by
  go_enter Tryd.func46, Tryd.ntmps46
  go_wp2
  rw [run_callFunc_extern Tryd.func62 (by kernel_rfl) (by kernel_rfl) (by kernel_rfl) (e := Extern.BytealgIndexByte.indexByte) (by kernel_rfl), Lib.run_indexByteString]
  simp only [Result.andThen]
  rw [Oper.upon_value]
  go_wp2
  go_ret
  exact ⟨rfl, rfl⟩
theorem stringslite_IndexByte.calls (a0 : ByteArray) (a1 : Int) (r : Int) (w : World) (h : stringslite_IndexByte.f a0 a1 = some r) :
    Calls Tryd.prog 46 #[.string a0, .int .u8 a1] w fun e w' => e = .returned (.int .i64 r) ∧ Drawn0 w w' := by
  obtain rfl := Option.some.inj h
  exact (indexByte_walk a0 a1 w).mono fun e w' ⟨he, hw⟩ => ⟨he, ⟨0, hw⟩⟩
set_option maxHeartbeats 1000000 in
set_option maxRecDepth 100000 in
theorem index_one_walk (s : ByteArray) (c : UInt8) (w : World) :
    Calls Tryd.prog 59 #[.string s, .string ⟨#[c]⟩] w fun e w' => e = .returned (.int .i64 (Lib.indexByte s.data.toList c)) ∧ w' = w := by
  go_enter Tryd.func59, Tryd.ntmps59
  go_wp2_with (go_at_call 46; refine (indexByte_walk _ _ _).mono ?_; rintro e w' ⟨rfl, rfl⟩)
  · have h : ([c] == s.toList) = true := by assumption
    go_ret
    refine ⟨?_, rfl⟩
    have e : s.data.toList = [c] := by rw [← Lib.toList_data]; exact (beq_iff_eq.1 h).symm
    rw [e]
    simp [Lib.indexByte]
  · go_ret
    exact ⟨rfl, rfl⟩
theorem stringslite_Index.calls (a0 a1 : ByteArray) (r : Int) (w : World) (h : stringslite_Index.f a0 a1 = some r) :
    Calls Tryd.prog 59 #[.string a0, .string a1] w fun e w' => e = .returned (.int .i64 r) ∧ Drawn0 w w' := by
  unfold stringslite_Index.f at h
  split at h
  · rename_i c hc
    obtain rfl := Option.some.inj h
    obtain ⟨⟨l⟩⟩ := a1
    have hl : l = [c] := hc
    subst hl
    exact (index_one_walk a0 c w).mono fun e w' ⟨he, hw⟩ => ⟨he, ⟨0, hw⟩⟩
  · cases h
end Go.Proofs.YtnpmmhceiaedcaaDoor.H
