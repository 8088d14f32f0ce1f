/-
  No cell of these rows narrows 'for every input' (looked for: loops, veiled, ifaces, maps, wideKeys, modest, calm, conditions, laid).
  DERIVED. THE GIVEN ROWS OF THIS SEAT. 5 by the template 'for every input the law returns true; each argument reads behind the call as it read before'; 0 by the template 'total and deterministic' (their statements: YtglafngeeggeeaaTotals.lean).
  GIVEN WITH THE SEED: the statements are not yours to turn. If you find one false, say at which input.
  Laid BY PROGRAM, IN A SANDBOX (cutbox-rows.mjs): the forced cells as the released guide's own fill.sh prints them over the translation dea7c55a81e975ee… (all of the seat's roots in one cut). By AI agents, Wed Nov 11 2026. No macro, syntax, notation, axiom, sorry.
-/
import Derived.Test.YtglafngeeggeeaaChecked
import GoSem.Claim
import GoSem.ClaimJoined
import GoSem.ClaimMapViews
import Derived.JoinedTies
import Derived.KernelRfl
namespace Go.Proofs.Ytglafngeeggeeaa
/- THE CELL 'sum', in the pinned program and in every row, IS THE sha256 OF THE DUMP (.gsa) THAT YtglafngeeggeeaaProg.lean LOADS. Nothing in Lean hashes anything: it is a label: what it is worth is what the hold of that sum in a sandbox is worth. -/
noncomputable def Try.pinned : Pinned := { name := "ytglafngeeggeeaa", sum := "dea7c55a81e975eee8566c639e59daae84c5334c0efa5fa4a43f75edf197b4df", checked := Try.checked }
namespace Rows
def none {H : Type} : Left H := { results := [], args := [] }

/-- 'gatepostlaw22.SchedOrders': WHATEVER THE INPUT: true; the input reads as it did. -/
def schedOrdersSpec : ChangeSpec := { name := "schedOrders", fn := fun _ => fun
  | [d1, d2] => { results := [.lit (.bool true)], args := [d1, d2] }
  | _ => none }
def schedOrdersRow : OpenClaim := { program := "ytglafngeeggeeaa", sum := "dea7c55a81e975eee8566c639e59daae84c5334c0efa5fa4a43f75edf197b4df", func := "gatepost/gatepostlaw22.SchedOrders", spec := "schedOrders", unfollowed := true, recurses := true, apart := false }
def SchedOrdersSaid : Prop := schedOrdersRow.holds Try.pinned (OpenSpec.ofChange schedOrdersSpec)

/-- ITS FALSE NEIGHBOUR: 'it returns false'. Refute it at one input. -/
def schedOrdersWrong : ChangeSpec := { name := "schedOrders", fn := fun _ => fun
  | [d1, d2] => { results := [.lit (.bool false)], args := [d1, d2] }
  | _ => none }
def SchedOrdersWrongFalsely : Prop := schedOrdersRow.holds Try.pinned (OpenSpec.ofChange schedOrdersWrong)

/-- 'gatepostlaw22.SchedEnds': WHATEVER THE INPUT: true; the input reads as it did. -/
def schedEndsSpec : ChangeSpec := { name := "schedEnds", fn := fun _ => fun
  | [d1, d2] => { results := [.lit (.bool true)], args := [d1, d2] }
  | _ => none }
def schedEndsRow : OpenClaim := { program := "ytglafngeeggeeaa", sum := "dea7c55a81e975eee8566c639e59daae84c5334c0efa5fa4a43f75edf197b4df", func := "gatepost/gatepostlaw22.SchedEnds", spec := "schedEnds", unfollowed := true, recurses := true, apart := false }
def SchedEndsSaid : Prop := schedEndsRow.holds Try.pinned (OpenSpec.ofChange schedEndsSpec)

/-- ITS FALSE NEIGHBOUR: 'it returns false'. Refute it at one input. -/
def schedEndsWrong : ChangeSpec := { name := "schedEnds", fn := fun _ => fun
  | [d1, d2] => { results := [.lit (.bool false)], args := [d1, d2] }
  | _ => none }
def SchedEndsWrongFalsely : Prop := schedEndsRow.holds Try.pinned (OpenSpec.ofChange schedEndsWrong)

/-- 'gatepostlaw22.SchedTurns': WHATEVER THE INPUT: true; the input reads as it did. -/
def schedTurnsSpec : ChangeSpec := { name := "schedTurns", fn := fun _ => fun
  | [d1, d2] => { results := [.lit (.bool true)], args := [d1, d2] }
  | _ => none }
def schedTurnsRow : OpenClaim := { program := "ytglafngeeggeeaa", sum := "dea7c55a81e975eee8566c639e59daae84c5334c0efa5fa4a43f75edf197b4df", func := "gatepost/gatepostlaw22.SchedTurns", spec := "schedTurns", unfollowed := true, recurses := true, apart := false }
def SchedTurnsSaid : Prop := schedTurnsRow.holds Try.pinned (OpenSpec.ofChange schedTurnsSpec)

/-- ITS FALSE NEIGHBOUR: 'it returns false'. Refute it at one input. -/
def schedTurnsWrong : ChangeSpec := { name := "schedTurns", fn := fun _ => fun
  | [d1, d2] => { results := [.lit (.bool false)], args := [d1, d2] }
  | _ => none }
def SchedTurnsWrongFalsely : Prop := schedTurnsRow.holds Try.pinned (OpenSpec.ofChange schedTurnsWrong)

/-- 'gatepostlaw22.SchedLocks': WHATEVER THE INPUT: true; the input reads as it did. -/
def schedLocksSpec : ChangeSpec := { name := "schedLocks", fn := fun _ => fun
  | [d1, d2] => { results := [.lit (.bool true)], args := [d1, d2] }
  | _ => none }
def schedLocksRow : OpenClaim := { program := "ytglafngeeggeeaa", sum := "dea7c55a81e975eee8566c639e59daae84c5334c0efa5fa4a43f75edf197b4df", func := "gatepost/gatepostlaw22.SchedLocks", spec := "schedLocks", unfollowed := true, recurses := true, apart := false }
def SchedLocksSaid : Prop := schedLocksRow.holds Try.pinned (OpenSpec.ofChange schedLocksSpec)

/-- ITS FALSE NEIGHBOUR: 'it returns false'. Refute it at one input. -/
def schedLocksWrong : ChangeSpec := { name := "schedLocks", fn := fun _ => fun
  | [d1, d2] => { results := [.lit (.bool false)], args := [d1, d2] }
  | _ => none }
def SchedLocksWrongFalsely : Prop := schedLocksRow.holds Try.pinned (OpenSpec.ofChange schedLocksWrong)

/-- 'gatepostlaw22.SchedPicks': WHATEVER THE INPUT: true; the input reads as it did. -/
def schedPicksSpec : ChangeSpec := { name := "schedPicks", fn := fun _ => fun
  | [d1, d2] => { results := [.lit (.bool true)], args := [d1, d2] }
  | _ => none }
def schedPicksRow : OpenClaim := { program := "ytglafngeeggeeaa", sum := "dea7c55a81e975eee8566c639e59daae84c5334c0efa5fa4a43f75edf197b4df", func := "gatepost/gatepostlaw22.SchedPicks", spec := "schedPicks", unfollowed := true, recurses := true, apart := false }
def SchedPicksSaid : Prop := schedPicksRow.holds Try.pinned (OpenSpec.ofChange schedPicksSpec)

/-- ITS FALSE NEIGHBOUR: 'it returns false'. Refute it at one input. -/
def schedPicksWrong : ChangeSpec := { name := "schedPicks", fn := fun _ => fun
  | [d1, d2] => { results := [.lit (.bool false)], args := [d1, d2] }
  | _ => none }
def SchedPicksWrongFalsely : Prop := schedPicksRow.holds Try.pinned (OpenSpec.ofChange schedPicksWrong)

/- THE SECOND FORM. 'bulk': how many values and letters a reading holds, each counted each time it is reached (what is shared counts as often as it is met; a slice's spare places count too). A statement '..UptoSaid' is the law's where the arguments, and the package variables that the reading takes, are together of bulk at most 1048576: NARROWER than '..Said'. Prove '..Said' where nothing that the law and all that it calls make is longer than what came in: it says more and counts as full. Else prove '..UptoSaid'. A law counts once. -/
mutual
def uptoBulk {H : Type} : DataW H → Nat
  | .lit (.string bytes) => bytes.length + 1
  | .lit _ => 1
  | .nil => 1
  | .ptr d => uptoBulk d + 1
  | .slice elems spare => uptoBulkAll elems + uptoBulkAll spare + 1
  | .agg parts => uptoBulkAll parts + 1
  | .iface _ d => uptoBulk d + 1
  | .map entries => uptoBulkEntries entries + 1
  | .held _ => 1
def uptoBulkAll {H : Type} : List (DataW H) → Nat
  | [] => 0
  | d :: r => uptoBulk d + uptoBulkAll r
def uptoBulkEntries {H : Type} : List (Lit × DataW H) → Nat
  | [] => 0
  | x :: r => uptoBulkEntry x + uptoBulkEntries r
def uptoBulkEntry {H : Type} : Lit × DataW H → Nat
  | (.string bytes, d) => bytes.length + uptoBulk d + 1
  | (_, d) => uptoBulk d + 1
 end
def uptoSmall : (H : Type) → List (DataW H) → Bool := fun _ ds => decide (uptoBulkAll ds ≤ 1048576)
def OpenSpec.upto (s : _root_.Go.ChangeSpec) : _root_.Go.OpenSpec := { _root_.Go.OpenSpec.ofChange s with cond := some uptoSmall }

/-- 'gatepostlaw22.SchedOrders', WHERE WHAT IT READS IS OF BULK AT MOST 1048576: true; the input reads as it did. -/
def schedOrdersUptoRow : OpenClaim := { program := "ytglafngeeggeeaa", sum := "dea7c55a81e975eee8566c639e59daae84c5334c0efa5fa4a43f75edf197b4df", func := "gatepost/gatepostlaw22.SchedOrders", spec := "schedOrders", unfollowed := true, recurses := true, apart := false, narrowed := true }
def SchedOrdersUptoSaid : Prop := schedOrdersUptoRow.holds Try.pinned (OpenSpec.upto schedOrdersSpec)

/-- 'gatepostlaw22.SchedEnds', WHERE WHAT IT READS IS OF BULK AT MOST 1048576: true; the input reads as it did. -/
def schedEndsUptoRow : OpenClaim := { program := "ytglafngeeggeeaa", sum := "dea7c55a81e975eee8566c639e59daae84c5334c0efa5fa4a43f75edf197b4df", func := "gatepost/gatepostlaw22.SchedEnds", spec := "schedEnds", unfollowed := true, recurses := true, apart := false, narrowed := true }
def SchedEndsUptoSaid : Prop := schedEndsUptoRow.holds Try.pinned (OpenSpec.upto schedEndsSpec)

/-- 'gatepostlaw22.SchedTurns', WHERE WHAT IT READS IS OF BULK AT MOST 1048576: true; the input reads as it did. -/
def schedTurnsUptoRow : OpenClaim := { program := "ytglafngeeggeeaa", sum := "dea7c55a81e975eee8566c639e59daae84c5334c0efa5fa4a43f75edf197b4df", func := "gatepost/gatepostlaw22.SchedTurns", spec := "schedTurns", unfollowed := true, recurses := true, apart := false, narrowed := true }
def SchedTurnsUptoSaid : Prop := schedTurnsUptoRow.holds Try.pinned (OpenSpec.upto schedTurnsSpec)

/-- 'gatepostlaw22.SchedLocks', WHERE WHAT IT READS IS OF BULK AT MOST 1048576: true; the input reads as it did. -/
def schedLocksUptoRow : OpenClaim := { program := "ytglafngeeggeeaa", sum := "dea7c55a81e975eee8566c639e59daae84c5334c0efa5fa4a43f75edf197b4df", func := "gatepost/gatepostlaw22.SchedLocks", spec := "schedLocks", unfollowed := true, recurses := true, apart := false, narrowed := true }
def SchedLocksUptoSaid : Prop := schedLocksUptoRow.holds Try.pinned (OpenSpec.upto schedLocksSpec)

/-- 'gatepostlaw22.SchedPicks', WHERE WHAT IT READS IS OF BULK AT MOST 1048576: true; the input reads as it did. -/
def schedPicksUptoRow : OpenClaim := { program := "ytglafngeeggeeaa", sum := "dea7c55a81e975eee8566c639e59daae84c5334c0efa5fa4a43f75edf197b4df", func := "gatepost/gatepostlaw22.SchedPicks", spec := "schedPicks", unfollowed := true, recurses := true, apart := false, narrowed := true }
def SchedPicksUptoSaid : Prop := schedPicksUptoRow.holds Try.pinned (OpenSpec.upto schedPicksSpec)

end Rows
end Go.Proofs.Ytglafngeeggeeaa
