/- Written by a program of this session, wip/tools/patch_print.py, over the kit's print of the loaded functions. -/
import Derived.Test.YtnpmmhceiaedcaaDoorProg
import Derived.Below
import Derived.Sort.Row
import Derived.Deep.Draws
import Derived.Deep.AppendLies
import Derived.Maps.AppendAt
import Derived.OwnWalk
import Derived.Laws.BytesArg
import Derived.Laws.MakeOwn
import Derived.Laws.OwnMore
import Derived.Deep.OwnRows
import Derived.Tactics
import Derived.Lib.ConvBytes
import Derived.Laws.Slices
import Derived.WalkKit
import Derived.KernelRfl
import Derived.RowKit3
import Derived.Deep.LoopGhost
import Derived.Deep.QuietTactic
import Derived.BigQuiet
import Derived.WideLaws
import Derived.Deep.DeepCutAuto
import Derived.Deep.CutBlock
import Derived.Deep.RegionHeld3
import Derived.Laws.Rows
import Derived.Lib.AppendStr
import Derived.ArgAppend
import Derived.Laws.IdiomCopy
import Derived.OrdersHeld
import Derived.Laws.BitsLemmas
import Derived.RowKit
import Derived.Test.YtnpmmhceiaedcaaDoorWWords
import Derived.Test.YtnpmmhceiaedcaaDoorWLast
import Derived.Test.YtnpmmhceiaedcaaDoorWTab
import Derived.Test.YtnpmmhceiaedcaaDoorWFour
import Derived.Test.YtnpmmhceiaedcaaDoorWQPut
import Derived.Test.YtnpmmhceiaedcaaDoorWApart
import Derived.Test.YtnpmmhceiaedcaaDoorWArr
import Derived.Test.YtnpmmhceiaedcaaDoorWZeros
import Derived.Test.YtnpmmhceiaedcaaDoorWFoot
import Derived.Test.YtnpmmhceiaedcaaDoorWKept
import Derived.Test.YtnpmmhceiaedcaaDoorWShare
import Derived.Test.YtnpmmhceiaedcaaDoorWN
import Derived.Test.YtnpmmhceiaedcaaDoorWFootNe
import Derived.Test.YtnpmmhceiaedcaaDoorWAt
import Derived.Test.YtnpmmhceiaedcaaDoorWEqStruct
import Derived.Test.YtnpmmhceiaedcaaDoorWRepsOne
import Derived.Test.YtnpmmhceiaedcaaDoorWInv
import Derived.Test.YtnpmmhceiaedcaaDoorWInvWords
import Derived.Test.YtnpmmhceiaedcaaDoorWGuard
import Derived.Test.YtnpmmhceiaedcaaDoorWNEv
import Derived.Test.YtnpmmhceiaedcaaDoorWMore
namespace Go.Proofs.YtnpmmhceiaedcaaDoor.H
end Go.Proofs.YtnpmmhceiaedcaaDoor.H
namespace Go.Proofs.YtnpmmhceiaedcaaDoor.PA
open Go.RowKit Go.Proofs.YtnpmmhceiaedcaaDoorW.PrintWords Go.Proofs.YtnpmmhceiaedcaaDoorW.PrintLast Go.Proofs.YtnpmmhceiaedcaaDoorW.PrintMore Go.Proofs.YtnpmmhceiaedcaaDoor.H
attribute [local go_sem] max2_int min2_int max_two min_two max_three min_three max_four min_four   -- for this text's walks alone
set_option linter.unusedVariables false
set_option linter.unusedSimpArgs false



def errW : Option Int → Value
  | none => .nilIface
  | some c => .iface 0 (.int .i64 c)
theorem errW_none : errW none = .nilIface := rfl
theorem errW_some (c : Int) : errW (some c) = .iface 0 (.int .i64 c) := rfl

theorem info5 : (Tryd.prog.info? 5).map (fun i => (i.zero, i.size, i.bytes)) = some (some (.int .u8 0), 1, 1) := by kernel_rfl
theorem info23 : (Tryd.prog.info? 23).map (fun i => (i.zero, i.size, i.bytes)) = some (some (.agg #[(.int .i64 0), (.string ⟨#[]⟩), (.int .i64 0)]), 3, 32) := by kernel_rfl
-- the values' own types
/-! #### struct type 23 -/
structure S23 where
  f0 : Int
  f1 : ByteArray
  f2 : Int
def z23 : S23 := ⟨(0 : Int), (⟨#[]⟩ : ByteArray), (0 : Int)⟩
def k23 : Kd S23 := Kd.iso (Kd.pair (Kd.int .i64) (Kd.pair Kd.string (Kd.int .i64))) (fun x : S23 => (x.f0, x.f1, x.f2))
theorem k23_open {w : World} {x : S23} {cs : List Value} (h : k23.K w x cs) : cs = [.int .i64 x.f0, .string x.f1, .int .i64 x.f2] := by
  obtain ⟨_, _, rfl, rfl, ⟨_, _, rfl, rfl, rfl⟩⟩ := h
  exact rfl
theorem k23_openM {w : World} {base : Nat} {ok : Nat → Prop} {x : S23} {cs : List Value} (h : k23.M w base ok x cs) : cs = [.int .i64 x.f0, .string x.f1, .int .i64 x.f2] := by
  obtain ⟨_, _, rfl, rfl, ⟨_, _, rfl, rfl, rfl⟩⟩ := h
  exact rfl
theorem k23_mk (w : World) (x : S23)  : k23.K w x [.int .i64 x.f0, .string x.f1, .int .i64 x.f2] := ⟨[.int .i64 x.f0], [.string x.f1, .int .i64 x.f2], rfl, rfl, ⟨[.string x.f1], [.int .i64 x.f2], rfl, rfl, rfl⟩⟩
theorem k23_mkM (w : World) (base : Nat) (ok : Nat → Prop) (x : S23)  : k23.M w base ok x [.int .i64 x.f0, .string x.f1, .int .i64 x.f2] := ⟨[.int .i64 x.f0], [.string x.f1, .int .i64 x.f2], rfl, rfl, ⟨[.string x.f1], [.int .i64 x.f2], rfl, rfl, rfl⟩⟩
def rd_T23 (xs : List S23) (i : Int) : S23 := xs.getD i.toNat z23
theorem at_T23 {w : World} {A : Option Addr} {n : Nat} {xs : List S23} (h : Kd.C k23 w A n xs) (i : Int) (h0 : 0 ≤ i) (h1 : i < n) : ∃ ad , A = some ad ∧ w.cell? (ad.add (i.toNat * 3)) = some (.int .i64 (rd_T23 xs i).f0) ∧ w.cell? ⟨(ad.add (i.toNat * 3)).block, (ad.add (i.toNat * 3)).off + 1, none⟩ = some (.string (rd_T23 xs i).f1) ∧ w.cell? ⟨(ad.add (i.toNat * 3)).block, (ad.add (i.toNat * 3)).off + 2, none⟩ = some (.int .i64 (rd_T23 xs i).f2) := by
  obtain ⟨ad, c, e, _, hK, hc0⟩ := Kd.C_get h z23 i h0 h1
  have hc : ∀ j u, c[j]? = some u → w.cell? (ad.add (i.toNat * 3 + j)) = some u := hc0
  obtain rfl := k23_open hK
  exact ⟨ad, e, hc 0 _ rfl, by rw [← add_field _ _ 1 (by omega)]; exact hc 1 _ rfl, by rw [← add_field _ _ 2 (by omega)]; exact hc 2 _ rfl⟩

theorem box_twice (w : World) (b o : Nat) (v v' : Value) : ((w.setCell ⟨b, o, none⟩ v).setCell ⟨b, o, none⟩ v').cell? ⟨b, o, none⟩ = (w.setCell ⟨b, o, none⟩ v').cell? ⟨b, o, none⟩ := by
  rw [Go.Sort.setCell_eq, Go.Sort.setCell_eq, Go.Sort.mapBlock_mapBlock, Go.Sort.setCell_eq]
  congr 2
  funext c
  simp

end Go.Proofs.YtnpmmhceiaedcaaDoor.PA
