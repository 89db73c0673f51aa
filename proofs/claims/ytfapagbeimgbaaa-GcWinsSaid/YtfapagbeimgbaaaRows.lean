/-
  No cell of these rows narrows 'for every input' (looked for: loops, veiled, ifaces, maps, wideKeys, modest, calm, conditions, laid).
  DERIVED. THE GIVEN ROWS OF THIS SEAT. 2 by the template 'for every input the law returns true; each argument reads behind the call as it read before'; 0 by the template 'total and deterministic' (their statements: YtfapagbeimgbaaaTotals.lean).
  GIVEN WITH THE SEED: the statements are not yours to turn. If you find one false, say at which input.
  Laid BY PROGRAM, IN A SANDBOX (cutbox-rows.mjs): the forced cells as the released guide's own fill.sh prints them over the translation bd32a450947a1c96… (all of the seat's roots in one cut). By AI agents, Wed Nov 11 2026. No macro, syntax, notation, axiom, sorry.
-/
import Derived.Test.YtfapagbeimgbaaaChecked
import GoSem.Claim
import GoSem.ClaimJoined
import GoSem.ClaimMapViews
import Derived.JoinedTies
import Derived.KernelRfl
namespace Go.Proofs.Ytfapagbeimgbaaa
/- THE CELL 'sum', in the pinned program and in every row, IS THE sha256 OF THE DUMP (.gsa) THAT YtfapagbeimgbaaaProg.lean LOADS. Nothing in Lean hashes anything: it is a label: what it is worth is what the hold of that sum in a sandbox is worth. -/
noncomputable def Try.pinned : Pinned := { name := "ytfapagbeimgbaaa", sum := "bd32a450947a1c9694e2887ff21cea64b8eff4cdb23ccae994b29f6c97e1d68c", checked := Try.checked }
namespace Rows
def none {H : Type} : Left H := { results := [], args := [] }

/-- 'patinalaw14.GcChooses': WHATEVER THE INPUT: true; the input reads as it did. -/
def gcChoosesSpec : ChangeSpec := { name := "gcChooses", fn := fun _ => fun
  | [d1, d2] => { results := [.lit (.bool true)], args := [d1, d2] }
  | _ => none }
def gcChoosesRow : OpenClaim := { program := "ytfapagbeimgbaaa", sum := "bd32a450947a1c9694e2887ff21cea64b8eff4cdb23ccae994b29f6c97e1d68c", func := "patina/patinalaw14.GcChooses", spec := "gcChooses", apart := false }
def GcChoosesSaid : Prop := gcChoosesRow.holds Try.pinned (OpenSpec.ofChange gcChoosesSpec)

/-- ITS FALSE NEIGHBOUR: 'it returns false'. Refute it at one input. -/
def gcChoosesWrong : ChangeSpec := { name := "gcChooses", fn := fun _ => fun
  | [d1, d2] => { results := [.lit (.bool false)], args := [d1, d2] }
  | _ => none }
def GcChoosesWrongFalsely : Prop := gcChoosesRow.holds Try.pinned (OpenSpec.ofChange gcChoosesWrong)

/-- 'patinalaw14.GcWins': WHATEVER THE INPUT: true; the input reads as it did. -/
def gcWinsSpec : ChangeSpec := { name := "gcWins", fn := fun _ => fun
  | [d1, d2] => { results := [.lit (.bool true)], args := [d1, d2] }
  | _ => none }
def gcWinsRow : OpenClaim := { program := "ytfapagbeimgbaaa", sum := "bd32a450947a1c9694e2887ff21cea64b8eff4cdb23ccae994b29f6c97e1d68c", func := "patina/patinalaw14.GcWins", spec := "gcWins", apart := false }
def GcWinsSaid : Prop := gcWinsRow.holds Try.pinned (OpenSpec.ofChange gcWinsSpec)

/-- ITS FALSE NEIGHBOUR: 'it returns false'. Refute it at one input. -/
def gcWinsWrong : ChangeSpec := { name := "gcWins", fn := fun _ => fun
  | [d1, d2] => { results := [.lit (.bool false)], args := [d1, d2] }
  | _ => none }
def GcWinsWrongFalsely : Prop := gcWinsRow.holds Try.pinned (OpenSpec.ofChange gcWinsWrong)

/- THE SECOND FORM. 'bulk': how many values and letters a reading holds, each counted each time it is reached (what is shared counts as often as it is met; a slice's spare places count too). A statement '..UptoSaid' is the law's where the arguments, and the package variables that the reading takes, are together of bulk at most 1048576: NARROWER than '..Said'. Prove '..Said' where nothing that the law and all that it calls make is longer than what came in: it says more and counts as full. Else prove '..UptoSaid'. A law counts once. -/
mutual
def uptoBulk {H : Type} : DataW H → Nat
  | .lit (.string bytes) => bytes.length + 1
  | .lit _ => 1
  | .nil => 1
  | .ptr d => uptoBulk d + 1
  | .slice elems spare => uptoBulkAll elems + uptoBulkAll spare + 1
  | .agg parts => uptoBulkAll parts + 1
  | .iface _ d => uptoBulk d + 1
  | .map entries => uptoBulkEntries entries + 1
  | .held _ => 1
def uptoBulkAll {H : Type} : List (DataW H) → Nat
  | [] => 0
  | d :: r => uptoBulk d + uptoBulkAll r
def uptoBulkEntries {H : Type} : List (Lit × DataW H) → Nat
  | [] => 0
  | x :: r => uptoBulkEntry x + uptoBulkEntries r
def uptoBulkEntry {H : Type} : Lit × DataW H → Nat
  | (.string bytes, d) => bytes.length + uptoBulk d + 1
  | (_, d) => uptoBulk d + 1
 end
def uptoSmall : (H : Type) → List (DataW H) → Bool := fun _ ds => decide (uptoBulkAll ds ≤ 1048576)
def OpenSpec.upto (s : _root_.Go.ChangeSpec) : _root_.Go.OpenSpec := { _root_.Go.OpenSpec.ofChange s with cond := some uptoSmall }

/-- 'patinalaw14.GcChooses', WHERE WHAT IT READS IS OF BULK AT MOST 1048576: true; the input reads as it did. -/
def gcChoosesUptoRow : OpenClaim := { program := "ytfapagbeimgbaaa", sum := "bd32a450947a1c9694e2887ff21cea64b8eff4cdb23ccae994b29f6c97e1d68c", func := "patina/patinalaw14.GcChooses", spec := "gcChooses", apart := false, narrowed := true }
def GcChoosesUptoSaid : Prop := gcChoosesUptoRow.holds Try.pinned (OpenSpec.upto gcChoosesSpec)

/-- 'patinalaw14.GcWins', WHERE WHAT IT READS IS OF BULK AT MOST 1048576: true; the input reads as it did. -/
def gcWinsUptoRow : OpenClaim := { program := "ytfapagbeimgbaaa", sum := "bd32a450947a1c9694e2887ff21cea64b8eff4cdb23ccae994b29f6c97e1d68c", func := "patina/patinalaw14.GcWins", spec := "gcWins", apart := false, narrowed := true }
def GcWinsUptoSaid : Prop := gcWinsUptoRow.holds Try.pinned (OpenSpec.upto gcWinsSpec)

end Rows
end Go.Proofs.Ytfapagbeimgbaaa
