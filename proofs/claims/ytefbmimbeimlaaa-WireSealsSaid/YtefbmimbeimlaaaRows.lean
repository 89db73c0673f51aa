/-
  No cell of these rows narrows 'for every input' (looked for: loops, veiled, ifaces, maps, wideKeys, modest, calm, conditions, laid).
  DERIVED. THE GIVEN ROWS OF THIS SEAT. 5 by the template 'for every input the law returns true; each argument reads behind the call as it read before'; 0 by the template 'total and deterministic' (their statements: YtefbmimbeimlaaaTotals.lean).
  GIVEN WITH THE SEED: the statements are not yours to turn. If you find one false, say at which input.
  Laid BY PROGRAM, IN A SANDBOX (cutbox-rows.mjs): the forced cells as the released guide's own fill.sh prints them over the translation 047609d5fd2c8d66… (all of the seat's roots in one cut). By AI agents, Wed Nov 11 2026. No macro, syntax, notation, axiom, sorry.
-/
import Derived.Test.YtefbmimbeimlaaaChecked
import GoSem.Claim
import GoSem.ClaimJoined
import GoSem.ClaimMapViews
import Derived.JoinedTies
import Derived.KernelRfl
namespace Go.Proofs.Ytefbmimbeimlaaa
/- THE CELL 'sum', in the pinned program and in every row, IS THE sha256 OF THE DUMP (.gsa) THAT YtefbmimbeimlaaaProg.lean LOADS. Nothing in Lean hashes anything: it is a label: what it is worth is what the hold of that sum in a sandbox is worth. -/
noncomputable def Try.pinned : Pinned := { name := "ytefbmimbeimlaaa", sum := "047609d5fd2c8d6636a81a49b3d9acbc578854ba2363b6f3d4429192bfc22b2f", checked := Try.checked }
namespace Rows
def none {H : Type} : Left H := { results := [], args := [] }

/-- 'patinalaw03.WirePuts': WHATEVER THE INPUT: true; the input reads as it did. -/
def wirePutsSpec : ChangeSpec := { name := "wirePuts", fn := fun _ => fun
  | [d1, d2] => { results := [.lit (.bool true)], args := [d1, d2] }
  | _ => none }
def wirePutsRow : OpenClaim := { program := "ytefbmimbeimlaaa", sum := "047609d5fd2c8d6636a81a49b3d9acbc578854ba2363b6f3d4429192bfc22b2f", func := "patina/patinalaw03.WirePuts", spec := "wirePuts", apart := false }
def WirePutsSaid : Prop := wirePutsRow.holds Try.pinned (OpenSpec.ofChange wirePutsSpec)

/-- ITS FALSE NEIGHBOUR: 'it returns false'. Refute it at one input. -/
def wirePutsWrong : ChangeSpec := { name := "wirePuts", fn := fun _ => fun
  | [d1, d2] => { results := [.lit (.bool false)], args := [d1, d2] }
  | _ => none }
def WirePutsWrongFalsely : Prop := wirePutsRow.holds Try.pinned (OpenSpec.ofChange wirePutsWrong)

/-- 'patinalaw03.WireGets': WHATEVER THE INPUT: true; the input reads as it did. -/
def wireGetsSpec : ChangeSpec := { name := "wireGets", fn := fun _ => fun
  | [d] => { results := [.lit (.bool true)], args := [d] }
  | _ => none }
def wireGetsRow : OpenClaim := { program := "ytefbmimbeimlaaa", sum := "047609d5fd2c8d6636a81a49b3d9acbc578854ba2363b6f3d4429192bfc22b2f", func := "patina/patinalaw03.WireGets", spec := "wireGets", apart := false }
def WireGetsSaid : Prop := wireGetsRow.holds Try.pinned (OpenSpec.ofChange wireGetsSpec)

/-- ITS FALSE NEIGHBOUR: 'it returns false'. Refute it at one input. -/
def wireGetsWrong : ChangeSpec := { name := "wireGets", fn := fun _ => fun
  | [d] => { results := [.lit (.bool false)], args := [d] }
  | _ => none }
def WireGetsWrongFalsely : Prop := wireGetsRow.holds Try.pinned (OpenSpec.ofChange wireGetsWrong)

/-- 'patinalaw03.WireAparts': WHATEVER THE INPUT: true; the input reads as it did. -/
def wireApartsSpec : ChangeSpec := { name := "wireAparts", fn := fun _ => fun
  | [d1, d2] => { results := [.lit (.bool true)], args := [d1, d2] }
  | _ => none }
def wireApartsRow : OpenClaim := { program := "ytefbmimbeimlaaa", sum := "047609d5fd2c8d6636a81a49b3d9acbc578854ba2363b6f3d4429192bfc22b2f", func := "patina/patinalaw03.WireAparts", spec := "wireAparts", apart := false }
def WireApartsSaid : Prop := wireApartsRow.holds Try.pinned (OpenSpec.ofChange wireApartsSpec)

/-- ITS FALSE NEIGHBOUR: 'it returns false'. Refute it at one input. -/
def wireApartsWrong : ChangeSpec := { name := "wireAparts", fn := fun _ => fun
  | [d1, d2] => { results := [.lit (.bool false)], args := [d1, d2] }
  | _ => none }
def WireApartsWrongFalsely : Prop := wireApartsRow.holds Try.pinned (OpenSpec.ofChange wireApartsWrong)

/-- 'patinalaw03.WireBack': WHATEVER THE INPUT: true; the input reads as it did. -/
def wireBackSpec : ChangeSpec := { name := "wireBack", fn := fun _ => fun
  | [d1, d2] => { results := [.lit (.bool true)], args := [d1, d2] }
  | _ => none }
def wireBackRow : OpenClaim := { program := "ytefbmimbeimlaaa", sum := "047609d5fd2c8d6636a81a49b3d9acbc578854ba2363b6f3d4429192bfc22b2f", func := "patina/patinalaw03.WireBack", spec := "wireBack", apart := false }
def WireBackSaid : Prop := wireBackRow.holds Try.pinned (OpenSpec.ofChange wireBackSpec)

/-- ITS FALSE NEIGHBOUR: 'it returns false'. Refute it at one input. -/
def wireBackWrong : ChangeSpec := { name := "wireBack", fn := fun _ => fun
  | [d1, d2] => { results := [.lit (.bool false)], args := [d1, d2] }
  | _ => none }
def WireBackWrongFalsely : Prop := wireBackRow.holds Try.pinned (OpenSpec.ofChange wireBackWrong)

/-- 'patinalaw03.WireSeals': WHATEVER THE INPUT: true; the input reads as it did. -/
def wireSealsSpec : ChangeSpec := { name := "wireSeals", fn := fun _ => fun
  | [d] => { results := [.lit (.bool true)], args := [d] }
  | _ => none }
def wireSealsRow : OpenClaim := { program := "ytefbmimbeimlaaa", sum := "047609d5fd2c8d6636a81a49b3d9acbc578854ba2363b6f3d4429192bfc22b2f", func := "patina/patinalaw03.WireSeals", spec := "wireSeals", apart := false }
def WireSealsSaid : Prop := wireSealsRow.holds Try.pinned (OpenSpec.ofChange wireSealsSpec)

/-- ITS FALSE NEIGHBOUR: 'it returns false'. Refute it at one input. -/
def wireSealsWrong : ChangeSpec := { name := "wireSeals", fn := fun _ => fun
  | [d] => { results := [.lit (.bool false)], args := [d] }
  | _ => none }
def WireSealsWrongFalsely : Prop := wireSealsRow.holds Try.pinned (OpenSpec.ofChange wireSealsWrong)

/- THE SECOND FORM. 'bulk': how many values and letters a reading holds, each counted each time it is reached (what is shared counts as often as it is met; a slice's spare places count too). A statement '..UptoSaid' is the law's where the arguments, and the package variables that the reading takes, are together of bulk at most 1048576: NARROWER than '..Said'. Prove '..Said' where nothing that the law and all that it calls make is longer than what came in: it says more and counts as full. Else prove '..UptoSaid'. A law counts once. -/
mutual
def uptoBulk {H : Type} : DataW H → Nat
  | .lit (.string bytes) => bytes.length + 1
  | .lit _ => 1
  | .nil => 1
  | .ptr d => uptoBulk d + 1
  | .slice elems spare => uptoBulkAll elems + uptoBulkAll spare + 1
  | .agg parts => uptoBulkAll parts + 1
  | .iface _ d => uptoBulk d + 1
  | .map entries => uptoBulkEntries entries + 1
  | .held _ => 1
def uptoBulkAll {H : Type} : List (DataW H) → Nat
  | [] => 0
  | d :: r => uptoBulk d + uptoBulkAll r
def uptoBulkEntries {H : Type} : List (Lit × DataW H) → Nat
  | [] => 0
  | x :: r => uptoBulkEntry x + uptoBulkEntries r
def uptoBulkEntry {H : Type} : Lit × DataW H → Nat
  | (.string bytes, d) => bytes.length + uptoBulk d + 1
  | (_, d) => uptoBulk d + 1
 end
def uptoSmall : (H : Type) → List (DataW H) → Bool := fun _ ds => decide (uptoBulkAll ds ≤ 1048576)
def OpenSpec.upto (s : _root_.Go.ChangeSpec) : _root_.Go.OpenSpec := { _root_.Go.OpenSpec.ofChange s with cond := some uptoSmall }

/-- 'patinalaw03.WirePuts', WHERE WHAT IT READS IS OF BULK AT MOST 1048576: true; the input reads as it did. -/
def wirePutsUptoRow : OpenClaim := { program := "ytefbmimbeimlaaa", sum := "047609d5fd2c8d6636a81a49b3d9acbc578854ba2363b6f3d4429192bfc22b2f", func := "patina/patinalaw03.WirePuts", spec := "wirePuts", apart := false, narrowed := true }
def WirePutsUptoSaid : Prop := wirePutsUptoRow.holds Try.pinned (OpenSpec.upto wirePutsSpec)

/-- 'patinalaw03.WireGets', WHERE WHAT IT READS IS OF BULK AT MOST 1048576: true; the input reads as it did. -/
def wireGetsUptoRow : OpenClaim := { program := "ytefbmimbeimlaaa", sum := "047609d5fd2c8d6636a81a49b3d9acbc578854ba2363b6f3d4429192bfc22b2f", func := "patina/patinalaw03.WireGets", spec := "wireGets", apart := false, narrowed := true }
def WireGetsUptoSaid : Prop := wireGetsUptoRow.holds Try.pinned (OpenSpec.upto wireGetsSpec)

/-- 'patinalaw03.WireAparts', WHERE WHAT IT READS IS OF BULK AT MOST 1048576: true; the input reads as it did. -/
def wireApartsUptoRow : OpenClaim := { program := "ytefbmimbeimlaaa", sum := "047609d5fd2c8d6636a81a49b3d9acbc578854ba2363b6f3d4429192bfc22b2f", func := "patina/patinalaw03.WireAparts", spec := "wireAparts", apart := false, narrowed := true }
def WireApartsUptoSaid : Prop := wireApartsUptoRow.holds Try.pinned (OpenSpec.upto wireApartsSpec)

/-- 'patinalaw03.WireBack', WHERE WHAT IT READS IS OF BULK AT MOST 1048576: true; the input reads as it did. -/
def wireBackUptoRow : OpenClaim := { program := "ytefbmimbeimlaaa", sum := "047609d5fd2c8d6636a81a49b3d9acbc578854ba2363b6f3d4429192bfc22b2f", func := "patina/patinalaw03.WireBack", spec := "wireBack", apart := false, narrowed := true }
def WireBackUptoSaid : Prop := wireBackUptoRow.holds Try.pinned (OpenSpec.upto wireBackSpec)

/-- 'patinalaw03.WireSeals', WHERE WHAT IT READS IS OF BULK AT MOST 1048576: true; the input reads as it did. -/
def wireSealsUptoRow : OpenClaim := { program := "ytefbmimbeimlaaa", sum := "047609d5fd2c8d6636a81a49b3d9acbc578854ba2363b6f3d4429192bfc22b2f", func := "patina/patinalaw03.WireSeals", spec := "wireSeals", apart := false, narrowed := true }
def WireSealsUptoSaid : Prop := wireSealsUptoRow.holds Try.pinned (OpenSpec.upto wireSealsSpec)

end Rows
end Go.Proofs.Ytefbmimbeimlaaa
