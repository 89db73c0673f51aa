/-
  No cell of these rows narrows 'for every input' (looked for: loops, veiled, ifaces, maps, wideKeys, modest, calm, conditions, laid).
  DERIVED. THE GIVEN ROWS OF THIS SEAT. 5 by the template 'for every input the law returns true; each argument reads behind the call as it read before'; 0 by the template 'total and deterministic' (their statements: YtpmihnobeicjmaaTotals.lean).
  GIVEN WITH THE SEED: the statements are not yours to turn. If you find one false, say at which input.
  Laid BY PROGRAM, IN A SANDBOX (cutbox-rows.mjs): the forced cells as the released guide's own fill.sh prints them over the translation 133d782fefbf3278… (all of the seat's roots in one cut). By AI agents, Wed Nov 11 2026. No macro, syntax, notation, axiom, sorry.
-/
import Derived.Test.YtpmihnobeicjmaaChecked
import GoSem.Claim
import GoSem.ClaimJoined
import GoSem.ClaimMapViews
import Derived.JoinedTies
import Derived.KernelRfl
namespace Go.Proofs.Ytpmihnobeicjmaa
/- THE CELL 'sum', in the pinned program and in every row, IS THE sha256 OF THE DUMP (.gsa) THAT YtpmihnobeicjmaaProg.lean LOADS. Nothing in Lean hashes anything: it is a label: what it is worth is what the hold of that sum in a sandbox is worth. -/
noncomputable def Try.pinned : Pinned := { name := "ytpmihnobeicjmaa", sum := "133d782fefbf32788775558d2147c6bd1d1e0d6edc17908086bae8854038d8cf", checked := Try.checked }
namespace Rows
def none {H : Type} : Left H := { results := [], args := [] }

/-- 'patinalaw10.ClaimAheads': WHATEVER THE INPUT: true; the input reads as it did. -/
def claimAheadsSpec : ChangeSpec := { name := "claimAheads", fn := fun _ => fun
  | [d1, d2] => { results := [.lit (.bool true)], args := [d1, d2] }
  | _ => none }
def claimAheadsRow : OpenClaim := { program := "ytpmihnobeicjmaa", sum := "133d782fefbf32788775558d2147c6bd1d1e0d6edc17908086bae8854038d8cf", func := "patina/patinalaw10.ClaimAheads", spec := "claimAheads", apart := false }
def ClaimAheadsSaid : Prop := claimAheadsRow.holds Try.pinned (OpenSpec.ofChange claimAheadsSpec)

/-- ITS FALSE NEIGHBOUR: 'it returns false'. Refute it at one input. -/
def claimAheadsWrong : ChangeSpec := { name := "claimAheads", fn := fun _ => fun
  | [d1, d2] => { results := [.lit (.bool false)], args := [d1, d2] }
  | _ => none }
def ClaimAheadsWrongFalsely : Prop := claimAheadsRow.holds Try.pinned (OpenSpec.ofChange claimAheadsWrong)

/-- 'patinalaw10.ClaimNewests': WHATEVER THE INPUT: true; the input reads as it did. -/
def claimNewestsSpec : ChangeSpec := { name := "claimNewests", fn := fun _ => fun
  | [d1, d2, d3] => { results := [.lit (.bool true)], args := [d1, d2, d3] }
  | _ => none }
def claimNewestsRow : OpenClaim := { program := "ytpmihnobeicjmaa", sum := "133d782fefbf32788775558d2147c6bd1d1e0d6edc17908086bae8854038d8cf", func := "patina/patinalaw10.ClaimNewests", spec := "claimNewests", apart := false }
def ClaimNewestsSaid : Prop := claimNewestsRow.holds Try.pinned (OpenSpec.ofChange claimNewestsSpec)

/-- ITS FALSE NEIGHBOUR: 'it returns false'. Refute it at one input. -/
def claimNewestsWrong : ChangeSpec := { name := "claimNewests", fn := fun _ => fun
  | [d1, d2, d3] => { results := [.lit (.bool false)], args := [d1, d2, d3] }
  | _ => none }
def ClaimNewestsWrongFalsely : Prop := claimNewestsRow.holds Try.pinned (OpenSpec.ofChange claimNewestsWrong)

/-- 'patinalaw10.ClaimNexts': WHATEVER THE INPUT: true; the input reads as it did. -/
def claimNextsSpec : ChangeSpec := { name := "claimNexts", fn := fun _ => fun
  | [d1, d2] => { results := [.lit (.bool true)], args := [d1, d2] }
  | _ => none }
def claimNextsRow : OpenClaim := { program := "ytpmihnobeicjmaa", sum := "133d782fefbf32788775558d2147c6bd1d1e0d6edc17908086bae8854038d8cf", func := "patina/patinalaw10.ClaimNexts", spec := "claimNexts", apart := false }
def ClaimNextsSaid : Prop := claimNextsRow.holds Try.pinned (OpenSpec.ofChange claimNextsSpec)

/-- ITS FALSE NEIGHBOUR: 'it returns false'. Refute it at one input. -/
def claimNextsWrong : ChangeSpec := { name := "claimNexts", fn := fun _ => fun
  | [d1, d2] => { results := [.lit (.bool false)], args := [d1, d2] }
  | _ => none }
def ClaimNextsWrongFalsely : Prop := claimNextsRow.holds Try.pinned (OpenSpec.ofChange claimNextsWrong)

/-- 'patinalaw10.ClaimLives': WHATEVER THE INPUT: true; the input reads as it did. -/
def claimLivesSpec : ChangeSpec := { name := "claimLives", fn := fun _ => fun
  | [d1, d2] => { results := [.lit (.bool true)], args := [d1, d2] }
  | _ => none }
def claimLivesRow : OpenClaim := { program := "ytpmihnobeicjmaa", sum := "133d782fefbf32788775558d2147c6bd1d1e0d6edc17908086bae8854038d8cf", func := "patina/patinalaw10.ClaimLives", spec := "claimLives", apart := false }
def ClaimLivesSaid : Prop := claimLivesRow.holds Try.pinned (OpenSpec.ofChange claimLivesSpec)

/-- ITS FALSE NEIGHBOUR: 'it returns false'. Refute it at one input. -/
def claimLivesWrong : ChangeSpec := { name := "claimLives", fn := fun _ => fun
  | [d1, d2] => { results := [.lit (.bool false)], args := [d1, d2] }
  | _ => none }
def ClaimLivesWrongFalsely : Prop := claimLivesRow.holds Try.pinned (OpenSpec.ofChange claimLivesWrong)

/-- 'patinalaw10.ClaimMoves': WHATEVER THE INPUT: true; the input reads as it did. -/
def claimMovesSpec : ChangeSpec := { name := "claimMoves", fn := fun _ => fun
  | [d1, d2, d3, d4] => { results := [.lit (.bool true)], args := [d1, d2, d3, d4] }
  | _ => none }
def claimMovesRow : OpenClaim := { program := "ytpmihnobeicjmaa", sum := "133d782fefbf32788775558d2147c6bd1d1e0d6edc17908086bae8854038d8cf", func := "patina/patinalaw10.ClaimMoves", spec := "claimMoves", apart := false }
def ClaimMovesSaid : Prop := claimMovesRow.holds Try.pinned (OpenSpec.ofChange claimMovesSpec)

/-- ITS FALSE NEIGHBOUR: 'it returns false'. Refute it at one input. -/
def claimMovesWrong : ChangeSpec := { name := "claimMoves", fn := fun _ => fun
  | [d1, d2, d3, d4] => { results := [.lit (.bool false)], args := [d1, d2, d3, d4] }
  | _ => none }
def ClaimMovesWrongFalsely : Prop := claimMovesRow.holds Try.pinned (OpenSpec.ofChange claimMovesWrong)

/- THE SECOND FORM. 'bulk': how many values and letters a reading holds, each counted each time it is reached (what is shared counts as often as it is met; a slice's spare places count too). A statement '..UptoSaid' is the law's where the arguments, and the package variables that the reading takes, are together of bulk at most 1048576: NARROWER than '..Said'. Prove '..Said' where nothing that the law and all that it calls make is longer than what came in: it says more and counts as full. Else prove '..UptoSaid'. A law counts once. -/
mutual
def uptoBulk {H : Type} : DataW H → Nat
  | .lit (.string bytes) => bytes.length + 1
  | .lit _ => 1
  | .nil => 1
  | .ptr d => uptoBulk d + 1
  | .slice elems spare => uptoBulkAll elems + uptoBulkAll spare + 1
  | .agg parts => uptoBulkAll parts + 1
  | .iface _ d => uptoBulk d + 1
  | .map entries => uptoBulkEntries entries + 1
  | .held _ => 1
def uptoBulkAll {H : Type} : List (DataW H) → Nat
  | [] => 0
  | d :: r => uptoBulk d + uptoBulkAll r
def uptoBulkEntries {H : Type} : List (Lit × DataW H) → Nat
  | [] => 0
  | x :: r => uptoBulkEntry x + uptoBulkEntries r
def uptoBulkEntry {H : Type} : Lit × DataW H → Nat
  | (.string bytes, d) => bytes.length + uptoBulk d + 1
  | (_, d) => uptoBulk d + 1
 end
def uptoSmall : (H : Type) → List (DataW H) → Bool := fun _ ds => decide (uptoBulkAll ds ≤ 1048576)
def OpenSpec.upto (s : _root_.Go.ChangeSpec) : _root_.Go.OpenSpec := { _root_.Go.OpenSpec.ofChange s with cond := some uptoSmall }

/-- 'patinalaw10.ClaimAheads', WHERE WHAT IT READS IS OF BULK AT MOST 1048576: true; the input reads as it did. -/
def claimAheadsUptoRow : OpenClaim := { program := "ytpmihnobeicjmaa", sum := "133d782fefbf32788775558d2147c6bd1d1e0d6edc17908086bae8854038d8cf", func := "patina/patinalaw10.ClaimAheads", spec := "claimAheads", apart := false, narrowed := true }
def ClaimAheadsUptoSaid : Prop := claimAheadsUptoRow.holds Try.pinned (OpenSpec.upto claimAheadsSpec)

/-- 'patinalaw10.ClaimNewests', WHERE WHAT IT READS IS OF BULK AT MOST 1048576: true; the input reads as it did. -/
def claimNewestsUptoRow : OpenClaim := { program := "ytpmihnobeicjmaa", sum := "133d782fefbf32788775558d2147c6bd1d1e0d6edc17908086bae8854038d8cf", func := "patina/patinalaw10.ClaimNewests", spec := "claimNewests", apart := false, narrowed := true }
def ClaimNewestsUptoSaid : Prop := claimNewestsUptoRow.holds Try.pinned (OpenSpec.upto claimNewestsSpec)

/-- 'patinalaw10.ClaimNexts', WHERE WHAT IT READS IS OF BULK AT MOST 1048576: true; the input reads as it did. -/
def claimNextsUptoRow : OpenClaim := { program := "ytpmihnobeicjmaa", sum := "133d782fefbf32788775558d2147c6bd1d1e0d6edc17908086bae8854038d8cf", func := "patina/patinalaw10.ClaimNexts", spec := "claimNexts", apart := false, narrowed := true }
def ClaimNextsUptoSaid : Prop := claimNextsUptoRow.holds Try.pinned (OpenSpec.upto claimNextsSpec)

/-- 'patinalaw10.ClaimLives', WHERE WHAT IT READS IS OF BULK AT MOST 1048576: true; the input reads as it did. -/
def claimLivesUptoRow : OpenClaim := { program := "ytpmihnobeicjmaa", sum := "133d782fefbf32788775558d2147c6bd1d1e0d6edc17908086bae8854038d8cf", func := "patina/patinalaw10.ClaimLives", spec := "claimLives", apart := false, narrowed := true }
def ClaimLivesUptoSaid : Prop := claimLivesUptoRow.holds Try.pinned (OpenSpec.upto claimLivesSpec)

/-- 'patinalaw10.ClaimMoves', WHERE WHAT IT READS IS OF BULK AT MOST 1048576: true; the input reads as it did. -/
def claimMovesUptoRow : OpenClaim := { program := "ytpmihnobeicjmaa", sum := "133d782fefbf32788775558d2147c6bd1d1e0d6edc17908086bae8854038d8cf", func := "patina/patinalaw10.ClaimMoves", spec := "claimMoves", apart := false, narrowed := true }
def ClaimMovesUptoSaid : Prop := claimMovesUptoRow.holds Try.pinned (OpenSpec.upto claimMovesSpec)

end Rows
end Go.Proofs.Ytpmihnobeicjmaa
