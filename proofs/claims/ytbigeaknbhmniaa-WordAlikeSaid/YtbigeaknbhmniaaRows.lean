/-
  No cell of these rows narrows 'for every input' (looked for: loops, veiled, ifaces, maps, wideKeys, modest, calm, conditions, laid).
  DERIVED. THE GIVEN ROWS OF THIS SEAT. 7 by the template 'for every input the law returns true; each argument reads behind the call as it read before'; 0 by the template 'total and deterministic' (their statements: YtbigeaknbhmniaaTotals.lean).
  GIVEN WITH THE SEED: the statements are not yours to turn. If you find one false, say at which input.
  Laid BY PROGRAM, IN A SANDBOX (cutbox-rows.mjs): the forced cells as the released guide's own fill.sh prints them over the translation 00abdf6e84c11602… (all of the seat's roots in one cut). By AI agents, Wed Nov 11 2026. No macro, syntax, notation, axiom, sorry.
-/
import Derived.Test.YtbigeaknbhmniaaChecked
import GoSem.Claim
import GoSem.ClaimJoined
import GoSem.ClaimMapViews
import Derived.JoinedTies
import Derived.KernelRfl
namespace Go.Proofs.Ytbigeaknbhmniaa
/- THE CELL 'sum', in the pinned program and in every row, IS THE sha256 OF THE DUMP (.gsa) THAT YtbigeaknbhmniaaProg.lean LOADS. Nothing in Lean hashes anything: it is a label: what it is worth is what the hold of that sum in a sandbox is worth. -/
noncomputable def Try.pinned : Pinned := { name := "ytbigeaknbhmniaa", sum := "00abdf6e84c11602a27382b8d0e9881de0a019bbf73ecdfec3481b4b2833571d", checked := Try.checked }
namespace Rows
def none {H : Type} : Left H := { results := [], args := [] }

/-- 'gudgeonlaw17.WordPuts': WHATEVER THE INPUT: true; the input reads as it did. -/
def wordPutsSpec : ChangeSpec := { name := "wordPuts", fn := fun _ => fun
  | [d1, d2, d3, d4] => { results := [.lit (.bool true)], args := [d1, d2, d3, d4] }
  | _ => none }
def wordPutsRow : OpenClaim := { program := "ytbigeaknbhmniaa", sum := "00abdf6e84c11602a27382b8d0e9881de0a019bbf73ecdfec3481b4b2833571d", func := "gudgeon/gudgeonlaw17.WordPuts", spec := "wordPuts", unfollowed := true, recurses := true, apart := false }
def WordPutsSaid : Prop := wordPutsRow.holds Try.pinned (OpenSpec.ofChange wordPutsSpec)

/-- ITS FALSE NEIGHBOUR: 'it returns false'. Refute it at one input. -/
def wordPutsWrong : ChangeSpec := { name := "wordPuts", fn := fun _ => fun
  | [d1, d2, d3, d4] => { results := [.lit (.bool false)], args := [d1, d2, d3, d4] }
  | _ => none }
def WordPutsWrongFalsely : Prop := wordPutsRow.holds Try.pinned (OpenSpec.ofChange wordPutsWrong)

/-- 'gudgeonlaw17.WordValues': WHATEVER THE INPUT: true; the input reads as it did. -/
def wordValuesSpec : ChangeSpec := { name := "wordValues", fn := fun _ => fun
  | [d1, d2] => { results := [.lit (.bool true)], args := [d1, d2] }
  | _ => none }
def wordValuesRow : OpenClaim := { program := "ytbigeaknbhmniaa", sum := "00abdf6e84c11602a27382b8d0e9881de0a019bbf73ecdfec3481b4b2833571d", func := "gudgeon/gudgeonlaw17.WordValues", spec := "wordValues", unfollowed := true, recurses := true, apart := false }
def WordValuesSaid : Prop := wordValuesRow.holds Try.pinned (OpenSpec.ofChange wordValuesSpec)

/-- ITS FALSE NEIGHBOUR: 'it returns false'. Refute it at one input. -/
def wordValuesWrong : ChangeSpec := { name := "wordValues", fn := fun _ => fun
  | [d1, d2] => { results := [.lit (.bool false)], args := [d1, d2] }
  | _ => none }
def WordValuesWrongFalsely : Prop := wordValuesRow.holds Try.pinned (OpenSpec.ofChange wordValuesWrong)

/-- 'gudgeonlaw17.WordAlike': WHATEVER THE INPUT: true; the input reads as it did. -/
def wordAlikeSpec : ChangeSpec := { name := "wordAlike", fn := fun _ => fun
  | [d1, d2, d3, d4] => { results := [.lit (.bool true)], args := [d1, d2, d3, d4] }
  | _ => none }
def wordAlikeRow : OpenClaim := { program := "ytbigeaknbhmniaa", sum := "00abdf6e84c11602a27382b8d0e9881de0a019bbf73ecdfec3481b4b2833571d", func := "gudgeon/gudgeonlaw17.WordAlike", spec := "wordAlike", unfollowed := true, recurses := true, apart := false }
def WordAlikeSaid : Prop := wordAlikeRow.holds Try.pinned (OpenSpec.ofChange wordAlikeSpec)

/-- ITS FALSE NEIGHBOUR: 'it returns false'. Refute it at one input. -/
def wordAlikeWrong : ChangeSpec := { name := "wordAlike", fn := fun _ => fun
  | [d1, d2, d3, d4] => { results := [.lit (.bool false)], args := [d1, d2, d3, d4] }
  | _ => none }
def WordAlikeWrongFalsely : Prop := wordAlikeRow.holds Try.pinned (OpenSpec.ofChange wordAlikeWrong)

/-- 'gudgeonlaw17.WordStripped': WHATEVER THE INPUT: true; the input reads as it did. -/
def wordStrippedSpec : ChangeSpec := { name := "wordStripped", fn := fun _ => fun
  | [d1, d2, d3] => { results := [.lit (.bool true)], args := [d1, d2, d3] }
  | _ => none }
def wordStrippedRow : OpenClaim := { program := "ytbigeaknbhmniaa", sum := "00abdf6e84c11602a27382b8d0e9881de0a019bbf73ecdfec3481b4b2833571d", func := "gudgeon/gudgeonlaw17.WordStripped", spec := "wordStripped", unfollowed := true, recurses := true, apart := false }
def WordStrippedSaid : Prop := wordStrippedRow.holds Try.pinned (OpenSpec.ofChange wordStrippedSpec)

/-- ITS FALSE NEIGHBOUR: 'it returns false'. Refute it at one input. -/
def wordStrippedWrong : ChangeSpec := { name := "wordStripped", fn := fun _ => fun
  | [d1, d2, d3] => { results := [.lit (.bool false)], args := [d1, d2, d3] }
  | _ => none }
def WordStrippedWrongFalsely : Prop := wordStrippedRow.holds Try.pinned (OpenSpec.ofChange wordStrippedWrong)

/-- 'gudgeonlaw17.WordPut': WHATEVER THE INPUT: true; the input reads as it did. -/
def wordPutSpec : ChangeSpec := { name := "wordPut", fn := fun _ => fun
  | [d1, d2, d3, d4] => { results := [.lit (.bool true)], args := [d1, d2, d3, d4] }
  | _ => none }
def wordPutRow : OpenClaim := { program := "ytbigeaknbhmniaa", sum := "00abdf6e84c11602a27382b8d0e9881de0a019bbf73ecdfec3481b4b2833571d", func := "gudgeon/gudgeonlaw17.WordPut", spec := "wordPut", unfollowed := true, recurses := true, apart := false }
def WordPutSaid : Prop := wordPutRow.holds Try.pinned (OpenSpec.ofChange wordPutSpec)

/-- ITS FALSE NEIGHBOUR: 'it returns false'. Refute it at one input. -/
def wordPutWrong : ChangeSpec := { name := "wordPut", fn := fun _ => fun
  | [d1, d2, d3, d4] => { results := [.lit (.bool false)], args := [d1, d2, d3, d4] }
  | _ => none }
def WordPutWrongFalsely : Prop := wordPutRow.holds Try.pinned (OpenSpec.ofChange wordPutWrong)

/-- 'gudgeonlaw17.WordStrips': WHATEVER THE INPUT: true; the input reads as it did. -/
def wordStripsSpec : ChangeSpec := { name := "wordStrips", fn := fun _ => fun
  | [d1, d2, d3] => { results := [.lit (.bool true)], args := [d1, d2, d3] }
  | _ => none }
def wordStripsRow : OpenClaim := { program := "ytbigeaknbhmniaa", sum := "00abdf6e84c11602a27382b8d0e9881de0a019bbf73ecdfec3481b4b2833571d", func := "gudgeon/gudgeonlaw17.WordStrips", spec := "wordStrips", unfollowed := true, recurses := true, apart := false }
def WordStripsSaid : Prop := wordStripsRow.holds Try.pinned (OpenSpec.ofChange wordStripsSpec)

/-- ITS FALSE NEIGHBOUR: 'it returns false'. Refute it at one input. -/
def wordStripsWrong : ChangeSpec := { name := "wordStrips", fn := fun _ => fun
  | [d1, d2, d3] => { results := [.lit (.bool false)], args := [d1, d2, d3] }
  | _ => none }
def WordStripsWrongFalsely : Prop := wordStripsRow.holds Try.pinned (OpenSpec.ofChange wordStripsWrong)

/-- 'gudgeonlaw17.WordLong': WHATEVER THE INPUT: true; the input reads as it did. -/
def wordLongSpec : ChangeSpec := { name := "wordLong", fn := fun _ => fun
  | [d1, d2] => { results := [.lit (.bool true)], args := [d1, d2] }
  | _ => none }
def wordLongRow : OpenClaim := { program := "ytbigeaknbhmniaa", sum := "00abdf6e84c11602a27382b8d0e9881de0a019bbf73ecdfec3481b4b2833571d", func := "gudgeon/gudgeonlaw17.WordLong", spec := "wordLong", unfollowed := true, recurses := true, apart := false }
def WordLongSaid : Prop := wordLongRow.holds Try.pinned (OpenSpec.ofChange wordLongSpec)

/-- ITS FALSE NEIGHBOUR: 'it returns false'. Refute it at one input. -/
def wordLongWrong : ChangeSpec := { name := "wordLong", fn := fun _ => fun
  | [d1, d2] => { results := [.lit (.bool false)], args := [d1, d2] }
  | _ => none }
def WordLongWrongFalsely : Prop := wordLongRow.holds Try.pinned (OpenSpec.ofChange wordLongWrong)

/- THE SECOND FORM. 'bulk': how many values and letters a reading holds, each counted each time it is reached (what is shared counts as often as it is met; a slice's spare places count too). A statement '..UptoSaid' is the law's where the arguments, and the package variables that the reading takes, are together of bulk at most 1048576: NARROWER than '..Said'. Prove '..Said' where nothing that the law and all that it calls make is longer than what came in: it says more and counts as full. Else prove '..UptoSaid'. A law counts once. -/
mutual
def uptoBulk {H : Type} : DataW H → Nat
  | .lit (.string bytes) => bytes.length + 1
  | .lit _ => 1
  | .nil => 1
  | .ptr d => uptoBulk d + 1
  | .slice elems spare => uptoBulkAll elems + uptoBulkAll spare + 1
  | .agg parts => uptoBulkAll parts + 1
  | .iface _ d => uptoBulk d + 1
  | .map entries => uptoBulkEntries entries + 1
  | .held _ => 1
def uptoBulkAll {H : Type} : List (DataW H) → Nat
  | [] => 0
  | d :: r => uptoBulk d + uptoBulkAll r
def uptoBulkEntries {H : Type} : List (Lit × DataW H) → Nat
  | [] => 0
  | x :: r => uptoBulkEntry x + uptoBulkEntries r
def uptoBulkEntry {H : Type} : Lit × DataW H → Nat
  | (.string bytes, d) => bytes.length + uptoBulk d + 1
  | (_, d) => uptoBulk d + 1
 end
def uptoSmall : (H : Type) → List (DataW H) → Bool := fun _ ds => decide (uptoBulkAll ds ≤ 1048576)
def OpenSpec.upto (s : _root_.Go.ChangeSpec) : _root_.Go.OpenSpec := { _root_.Go.OpenSpec.ofChange s with cond := some uptoSmall }

/-- 'gudgeonlaw17.WordPuts', WHERE WHAT IT READS IS OF BULK AT MOST 1048576: true; the input reads as it did. -/
def wordPutsUptoRow : OpenClaim := { program := "ytbigeaknbhmniaa", sum := "00abdf6e84c11602a27382b8d0e9881de0a019bbf73ecdfec3481b4b2833571d", func := "gudgeon/gudgeonlaw17.WordPuts", spec := "wordPuts", unfollowed := true, recurses := true, apart := false, narrowed := true }
def WordPutsUptoSaid : Prop := wordPutsUptoRow.holds Try.pinned (OpenSpec.upto wordPutsSpec)

/-- 'gudgeonlaw17.WordValues', WHERE WHAT IT READS IS OF BULK AT MOST 1048576: true; the input reads as it did. -/
def wordValuesUptoRow : OpenClaim := { program := "ytbigeaknbhmniaa", sum := "00abdf6e84c11602a27382b8d0e9881de0a019bbf73ecdfec3481b4b2833571d", func := "gudgeon/gudgeonlaw17.WordValues", spec := "wordValues", unfollowed := true, recurses := true, apart := false, narrowed := true }
def WordValuesUptoSaid : Prop := wordValuesUptoRow.holds Try.pinned (OpenSpec.upto wordValuesSpec)

/-- 'gudgeonlaw17.WordAlike', WHERE WHAT IT READS IS OF BULK AT MOST 1048576: true; the input reads as it did. -/
def wordAlikeUptoRow : OpenClaim := { program := "ytbigeaknbhmniaa", sum := "00abdf6e84c11602a27382b8d0e9881de0a019bbf73ecdfec3481b4b2833571d", func := "gudgeon/gudgeonlaw17.WordAlike", spec := "wordAlike", unfollowed := true, recurses := true, apart := false, narrowed := true }
def WordAlikeUptoSaid : Prop := wordAlikeUptoRow.holds Try.pinned (OpenSpec.upto wordAlikeSpec)

/-- 'gudgeonlaw17.WordStripped', WHERE WHAT IT READS IS OF BULK AT MOST 1048576: true; the input reads as it did. -/
def wordStrippedUptoRow : OpenClaim := { program := "ytbigeaknbhmniaa", sum := "00abdf6e84c11602a27382b8d0e9881de0a019bbf73ecdfec3481b4b2833571d", func := "gudgeon/gudgeonlaw17.WordStripped", spec := "wordStripped", unfollowed := true, recurses := true, apart := false, narrowed := true }
def WordStrippedUptoSaid : Prop := wordStrippedUptoRow.holds Try.pinned (OpenSpec.upto wordStrippedSpec)

/-- 'gudgeonlaw17.WordPut', WHERE WHAT IT READS IS OF BULK AT MOST 1048576: true; the input reads as it did. -/
def wordPutUptoRow : OpenClaim := { program := "ytbigeaknbhmniaa", sum := "00abdf6e84c11602a27382b8d0e9881de0a019bbf73ecdfec3481b4b2833571d", func := "gudgeon/gudgeonlaw17.WordPut", spec := "wordPut", unfollowed := true, recurses := true, apart := false, narrowed := true }
def WordPutUptoSaid : Prop := wordPutUptoRow.holds Try.pinned (OpenSpec.upto wordPutSpec)

/-- 'gudgeonlaw17.WordStrips', WHERE WHAT IT READS IS OF BULK AT MOST 1048576: true; the input reads as it did. -/
def wordStripsUptoRow : OpenClaim := { program := "ytbigeaknbhmniaa", sum := "00abdf6e84c11602a27382b8d0e9881de0a019bbf73ecdfec3481b4b2833571d", func := "gudgeon/gudgeonlaw17.WordStrips", spec := "wordStrips", unfollowed := true, recurses := true, apart := false, narrowed := true }
def WordStripsUptoSaid : Prop := wordStripsUptoRow.holds Try.pinned (OpenSpec.upto wordStripsSpec)

/-- 'gudgeonlaw17.WordLong', WHERE WHAT IT READS IS OF BULK AT MOST 1048576: true; the input reads as it did. -/
def wordLongUptoRow : OpenClaim := { program := "ytbigeaknbhmniaa", sum := "00abdf6e84c11602a27382b8d0e9881de0a019bbf73ecdfec3481b4b2833571d", func := "gudgeon/gudgeonlaw17.WordLong", spec := "wordLong", unfollowed := true, recurses := true, apart := false, narrowed := true }
def WordLongUptoSaid : Prop := wordLongUptoRow.holds Try.pinned (OpenSpec.upto wordLongSpec)

end Rows
end Go.Proofs.Ytbigeaknbhmniaa
