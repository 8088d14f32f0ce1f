/-
  No cell of these rows narrows 'for every input' (looked for: loops, veiled, ifaces, maps, wideKeys, modest, calm, conditions, laid).
  DERIVED. THE GIVEN ROWS OF THIS SEAT. 5 by the template 'for every input the law returns true; each argument reads behind the call as it read before'; 0 by the template 'total and deterministic' (their statements: YtbdiklhffngjmaaTotals.lean).
  GIVEN WITH THE SEED: the statements are not yours to turn. If you find one false, say at which input.
  Laid BY PROGRAM, IN A SANDBOX (cutbox-rows.mjs): the forced cells as the released guide's own fill.sh prints them over the translation 3b5ba55a52f12a6a… (all of the seat's roots in one cut). By AI agents, Wed Nov 11 2026. No macro, syntax, notation, axiom, sorry.
-/
import Derived.Test.YtbdiklhffngjmaaChecked
import GoSem.Claim
import GoSem.ClaimJoined
import GoSem.ClaimMapViews
import Derived.JoinedTies
import Derived.KernelRfl
namespace Go.Proofs.Ytbdiklhffngjmaa
/- THE CELL 'sum', in the pinned program and in every row, IS THE sha256 OF THE DUMP (.gsa) THAT YtbdiklhffngjmaaProg.lean LOADS. Nothing in Lean hashes anything: it is a label: what it is worth is what the hold of that sum in a sandbox is worth. -/
noncomputable def Try.pinned : Pinned := { name := "ytbdiklhffngjmaa", sum := "3b5ba55a52f12a6a8f0d406be294b91be9d324611db39b91cead48973643af8a", checked := Try.checked }
namespace Rows
def none {H : Type} : Left H := { results := [], args := [] }

/-- 'gatepostlaw03.PctIn': WHATEVER THE INPUT: true; the input reads as it did. -/
def pctInSpec : ChangeSpec := { name := "pctIn", fn := fun _ => fun
  | [d1, d2] => { results := [.lit (.bool true)], args := [d1, d2] }
  | _ => none }
def pctInRow : OpenClaim := { program := "ytbdiklhffngjmaa", sum := "3b5ba55a52f12a6a8f0d406be294b91be9d324611db39b91cead48973643af8a", func := "gatepost/gatepostlaw03.PctIn", spec := "pctIn", inPlace := ["internal/abi.NoEscape", "internal/bytealg.IndexByteString"], unfollowed := true, recurses := true, apart := false }
def PctInSaid : Prop := pctInRow.holds Try.pinned (OpenSpec.ofChange pctInSpec)

/-- ITS FALSE NEIGHBOUR: 'it returns false'. Refute it at one input. -/
def pctInWrong : ChangeSpec := { name := "pctIn", fn := fun _ => fun
  | [d1, d2] => { results := [.lit (.bool false)], args := [d1, d2] }
  | _ => none }
def PctInWrongFalsely : Prop := pctInRow.holds Try.pinned (OpenSpec.ofChange pctInWrong)

/-- 'gatepostlaw03.PctEncodes': WHATEVER THE INPUT: true; the input reads as it did. -/
def pctEncodesSpec : ChangeSpec := { name := "pctEncodes", fn := fun _ => fun
  | [d1, d2] => { results := [.lit (.bool true)], args := [d1, d2] }
  | _ => none }
def pctEncodesRow : OpenClaim := { program := "ytbdiklhffngjmaa", sum := "3b5ba55a52f12a6a8f0d406be294b91be9d324611db39b91cead48973643af8a", func := "gatepost/gatepostlaw03.PctEncodes", spec := "pctEncodes", inPlace := ["internal/abi.NoEscape", "internal/bytealg.IndexByteString"], unfollowed := true, recurses := true, apart := false }
def PctEncodesSaid : Prop := pctEncodesRow.holds Try.pinned (OpenSpec.ofChange pctEncodesSpec)

/-- ITS FALSE NEIGHBOUR: 'it returns false'. Refute it at one input. -/
def pctEncodesWrong : ChangeSpec := { name := "pctEncodes", fn := fun _ => fun
  | [d1, d2] => { results := [.lit (.bool false)], args := [d1, d2] }
  | _ => none }
def PctEncodesWrongFalsely : Prop := pctEncodesRow.holds Try.pinned (OpenSpec.ofChange pctEncodesWrong)

/-- 'gatepostlaw03.PctDecodes': WHATEVER THE INPUT: true; the input reads as it did. -/
def pctDecodesSpec : ChangeSpec := { name := "pctDecodes", fn := fun _ => fun
  | [d] => { results := [.lit (.bool true)], args := [d] }
  | _ => none }
def pctDecodesRow : OpenClaim := { program := "ytbdiklhffngjmaa", sum := "3b5ba55a52f12a6a8f0d406be294b91be9d324611db39b91cead48973643af8a", func := "gatepost/gatepostlaw03.PctDecodes", spec := "pctDecodes", inPlace := ["internal/abi.NoEscape", "internal/bytealg.IndexByteString"], unfollowed := true, recurses := true, apart := false }
def PctDecodesSaid : Prop := pctDecodesRow.holds Try.pinned (OpenSpec.ofChange pctDecodesSpec)

/-- ITS FALSE NEIGHBOUR: 'it returns false'. Refute it at one input. -/
def pctDecodesWrong : ChangeSpec := { name := "pctDecodes", fn := fun _ => fun
  | [d] => { results := [.lit (.bool false)], args := [d] }
  | _ => none }
def PctDecodesWrongFalsely : Prop := pctDecodesRow.holds Try.pinned (OpenSpec.ofChange pctDecodesWrong)

/-- 'gatepostlaw03.PctBack': WHATEVER THE INPUT: true; the input reads as it did. -/
def pctBackSpec : ChangeSpec := { name := "pctBack", fn := fun _ => fun
  | [d1, d2] => { results := [.lit (.bool true)], args := [d1, d2] }
  | _ => none }
def pctBackRow : OpenClaim := { program := "ytbdiklhffngjmaa", sum := "3b5ba55a52f12a6a8f0d406be294b91be9d324611db39b91cead48973643af8a", func := "gatepost/gatepostlaw03.PctBack", spec := "pctBack", inPlace := ["internal/abi.NoEscape", "internal/bytealg.IndexByteString"], unfollowed := true, recurses := true, apart := false }
def PctBackSaid : Prop := pctBackRow.holds Try.pinned (OpenSpec.ofChange pctBackSpec)

/-- ITS FALSE NEIGHBOUR: 'it returns false'. Refute it at one input. -/
def pctBackWrong : ChangeSpec := { name := "pctBack", fn := fun _ => fun
  | [d1, d2] => { results := [.lit (.bool false)], args := [d1, d2] }
  | _ => none }
def PctBackWrongFalsely : Prop := pctBackRow.holds Try.pinned (OpenSpec.ofChange pctBackWrong)

/-- 'gatepostlaw03.PctSafe': WHATEVER THE INPUT: true; the input reads as it did. -/
def pctSafeSpec : ChangeSpec := { name := "pctSafe", fn := fun _ => fun
  | [d1, d2] => { results := [.lit (.bool true)], args := [d1, d2] }
  | _ => none }
def pctSafeRow : OpenClaim := { program := "ytbdiklhffngjmaa", sum := "3b5ba55a52f12a6a8f0d406be294b91be9d324611db39b91cead48973643af8a", func := "gatepost/gatepostlaw03.PctSafe", spec := "pctSafe", inPlace := ["internal/abi.NoEscape", "internal/bytealg.IndexByteString"], unfollowed := true, recurses := true, apart := false }
def PctSafeSaid : Prop := pctSafeRow.holds Try.pinned (OpenSpec.ofChange pctSafeSpec)

/-- ITS FALSE NEIGHBOUR: 'it returns false'. Refute it at one input. -/
def pctSafeWrong : ChangeSpec := { name := "pctSafe", fn := fun _ => fun
  | [d1, d2] => { results := [.lit (.bool false)], args := [d1, d2] }
  | _ => none }
def PctSafeWrongFalsely : Prop := pctSafeRow.holds Try.pinned (OpenSpec.ofChange pctSafeWrong)

/- THE SECOND FORM. 'bulk': how many values and letters a reading holds, each counted each time it is reached (what is shared counts as often as it is met; a slice's spare places count too). A statement '..UptoSaid' is the law's where the arguments, and the package variables that the reading takes, are together of bulk at most 1048576: NARROWER than '..Said'. Prove '..Said' where nothing that the law and all that it calls make is longer than what came in: it says more and counts as full. Else prove '..UptoSaid'. A law counts once. -/
mutual
def uptoBulk {H : Type} : DataW H → Nat
  | .lit (.string bytes) => bytes.length + 1
  | .lit _ => 1
  | .nil => 1
  | .ptr d => uptoBulk d + 1
  | .slice elems spare => uptoBulkAll elems + uptoBulkAll spare + 1
  | .agg parts => uptoBulkAll parts + 1
  | .iface _ d => uptoBulk d + 1
  | .map entries => uptoBulkEntries entries + 1
  | .held _ => 1
def uptoBulkAll {H : Type} : List (DataW H) → Nat
  | [] => 0
  | d :: r => uptoBulk d + uptoBulkAll r
def uptoBulkEntries {H : Type} : List (Lit × DataW H) → Nat
  | [] => 0
  | x :: r => uptoBulkEntry x + uptoBulkEntries r
def uptoBulkEntry {H : Type} : Lit × DataW H → Nat
  | (.string bytes, d) => bytes.length + uptoBulk d + 1
  | (_, d) => uptoBulk d + 1
 end
def uptoSmall : (H : Type) → List (DataW H) → Bool := fun _ ds => decide (uptoBulkAll ds ≤ 1048576)
def OpenSpec.upto (s : _root_.Go.ChangeSpec) : _root_.Go.OpenSpec := { _root_.Go.OpenSpec.ofChange s with cond := some uptoSmall }

/-- 'gatepostlaw03.PctIn', WHERE WHAT IT READS IS OF BULK AT MOST 1048576: true; the input reads as it did. -/
def pctInUptoRow : OpenClaim := { program := "ytbdiklhffngjmaa", sum := "3b5ba55a52f12a6a8f0d406be294b91be9d324611db39b91cead48973643af8a", func := "gatepost/gatepostlaw03.PctIn", spec := "pctIn", inPlace := ["internal/abi.NoEscape", "internal/bytealg.IndexByteString"], unfollowed := true, recurses := true, apart := false, narrowed := true }
def PctInUptoSaid : Prop := pctInUptoRow.holds Try.pinned (OpenSpec.upto pctInSpec)

/-- 'gatepostlaw03.PctEncodes', WHERE WHAT IT READS IS OF BULK AT MOST 1048576: true; the input reads as it did. -/
def pctEncodesUptoRow : OpenClaim := { program := "ytbdiklhffngjmaa", sum := "3b5ba55a52f12a6a8f0d406be294b91be9d324611db39b91cead48973643af8a", func := "gatepost/gatepostlaw03.PctEncodes", spec := "pctEncodes", inPlace := ["internal/abi.NoEscape", "internal/bytealg.IndexByteString"], unfollowed := true, recurses := true, apart := false, narrowed := true }
def PctEncodesUptoSaid : Prop := pctEncodesUptoRow.holds Try.pinned (OpenSpec.upto pctEncodesSpec)

/-- 'gatepostlaw03.PctDecodes', WHERE WHAT IT READS IS OF BULK AT MOST 1048576: true; the input reads as it did. -/
def pctDecodesUptoRow : OpenClaim := { program := "ytbdiklhffngjmaa", sum := "3b5ba55a52f12a6a8f0d406be294b91be9d324611db39b91cead48973643af8a", func := "gatepost/gatepostlaw03.PctDecodes", spec := "pctDecodes", inPlace := ["internal/abi.NoEscape", "internal/bytealg.IndexByteString"], unfollowed := true, recurses := true, apart := false, narrowed := true }
def PctDecodesUptoSaid : Prop := pctDecodesUptoRow.holds Try.pinned (OpenSpec.upto pctDecodesSpec)

/-- 'gatepostlaw03.PctBack', WHERE WHAT IT READS IS OF BULK AT MOST 1048576: true; the input reads as it did. -/
def pctBackUptoRow : OpenClaim := { program := "ytbdiklhffngjmaa", sum := "3b5ba55a52f12a6a8f0d406be294b91be9d324611db39b91cead48973643af8a", func := "gatepost/gatepostlaw03.PctBack", spec := "pctBack", inPlace := ["internal/abi.NoEscape", "internal/bytealg.IndexByteString"], unfollowed := true, recurses := true, apart := false, narrowed := true }
def PctBackUptoSaid : Prop := pctBackUptoRow.holds Try.pinned (OpenSpec.upto pctBackSpec)

/-- 'gatepostlaw03.PctSafe', WHERE WHAT IT READS IS OF BULK AT MOST 1048576: true; the input reads as it did. -/
def pctSafeUptoRow : OpenClaim := { program := "ytbdiklhffngjmaa", sum := "3b5ba55a52f12a6a8f0d406be294b91be9d324611db39b91cead48973643af8a", func := "gatepost/gatepostlaw03.PctSafe", spec := "pctSafe", inPlace := ["internal/abi.NoEscape", "internal/bytealg.IndexByteString"], unfollowed := true, recurses := true, apart := false, narrowed := true }
def PctSafeUptoSaid : Prop := pctSafeUptoRow.holds Try.pinned (OpenSpec.upto pctSafeSpec)

end Rows
end Go.Proofs.Ytbdiklhffngjmaa
