/-
  No cell of these rows narrows 'for every input' (looked for: loops, veiled, ifaces, maps, wideKeys, modest, calm, conditions, laid).
  DERIVED. THE GIVEN ROWS OF THIS SEAT. 2 by the template 'for every input the law returns true; each argument reads behind the call as it read before'; 0 by the template 'total and deterministic' (their statements: YtkdocaimkphooaaTotals.lean).
  GIVEN WITH THE SEED: the statements are not yours to turn. If you find one false, say at which input.
  Laid BY PROGRAM, IN A SANDBOX (cutbox-rows.mjs): the forced cells as the released guide's own fill.sh prints them over the translation 959382a8a1873523… (all of the seat's roots in one cut). By AI agents, Wed Nov 11 2026. No macro, syntax, notation, axiom, sorry.
-/
import Derived.Test.YtkdocaimkphooaaChecked
import GoSem.Claim
import GoSem.ClaimJoined
import GoSem.ClaimMapViews
import Derived.JoinedTies
import Derived.KernelRfl
namespace Go.Proofs.Ytkdocaimkphooaa
/- THE CELL 'sum', in the pinned program and in every row, IS THE sha256 OF THE DUMP (.gsa) THAT YtkdocaimkphooaaProg.lean LOADS. Nothing in Lean hashes anything: it is a label: what it is worth is what the hold of that sum in a sandbox is worth. -/
noncomputable def Try.pinned : Pinned := { name := "ytkdocaimkphooaa", sum := "959382a8a1873523ee9ce403bf0464f6f443980005fbe59c1b175b72cd28ab77", checked := Try.checked }
namespace Rows
def none {H : Type} : Left H := { results := [], args := [] }

/-- 'patinalaw16.HealthPlays': WHATEVER THE INPUT: true; the input reads as it did. -/
def healthPlaysSpec : ChangeSpec := { name := "healthPlays", fn := fun _ => fun
  | [d1, d2, d3] => { results := [.lit (.bool true)], args := [d1, d2, d3] }
  | _ => none }
def healthPlaysRow : OpenClaim := { program := "ytkdocaimkphooaa", sum := "959382a8a1873523ee9ce403bf0464f6f443980005fbe59c1b175b72cd28ab77", func := "patina/patinalaw16.HealthPlays", spec := "healthPlays", apart := false }
def HealthPlaysSaid : Prop := healthPlaysRow.holds Try.pinned (OpenSpec.ofChange healthPlaysSpec)

/-- ITS FALSE NEIGHBOUR: 'it returns false'. Refute it at one input. -/
def healthPlaysWrong : ChangeSpec := { name := "healthPlays", fn := fun _ => fun
  | [d1, d2, d3] => { results := [.lit (.bool false)], args := [d1, d2, d3] }
  | _ => none }
def HealthPlaysWrongFalsely : Prop := healthPlaysRow.holds Try.pinned (OpenSpec.ofChange healthPlaysWrong)

/-- 'patinalaw16.HealthKeeps': WHATEVER THE INPUT: true; the input reads as it did. -/
def healthKeepsSpec : ChangeSpec := { name := "healthKeeps", fn := fun _ => fun
  | [d] => { results := [.lit (.bool true)], args := [d] }
  | _ => none }
def healthKeepsRow : OpenClaim := { program := "ytkdocaimkphooaa", sum := "959382a8a1873523ee9ce403bf0464f6f443980005fbe59c1b175b72cd28ab77", func := "patina/patinalaw16.HealthKeeps", spec := "healthKeeps", apart := false }
def HealthKeepsSaid : Prop := healthKeepsRow.holds Try.pinned (OpenSpec.ofChange healthKeepsSpec)

/-- ITS FALSE NEIGHBOUR: 'it returns false'. Refute it at one input. -/
def healthKeepsWrong : ChangeSpec := { name := "healthKeeps", fn := fun _ => fun
  | [d] => { results := [.lit (.bool false)], args := [d] }
  | _ => none }
def HealthKeepsWrongFalsely : Prop := healthKeepsRow.holds Try.pinned (OpenSpec.ofChange healthKeepsWrong)

/- THE SECOND FORM. 'bulk': how many values and letters a reading holds, each counted each time it is reached (what is shared counts as often as it is met; a slice's spare places count too). A statement '..UptoSaid' is the law's where the arguments, and the package variables that the reading takes, are together of bulk at most 1048576: NARROWER than '..Said'. Prove '..Said' where nothing that the law and all that it calls make is longer than what came in: it says more and counts as full. Else prove '..UptoSaid'. A law counts once. -/
mutual
def uptoBulk {H : Type} : DataW H → Nat
  | .lit (.string bytes) => bytes.length + 1
  | .lit _ => 1
  | .nil => 1
  | .ptr d => uptoBulk d + 1
  | .slice elems spare => uptoBulkAll elems + uptoBulkAll spare + 1
  | .agg parts => uptoBulkAll parts + 1
  | .iface _ d => uptoBulk d + 1
  | .map entries => uptoBulkEntries entries + 1
  | .held _ => 1
def uptoBulkAll {H : Type} : List (DataW H) → Nat
  | [] => 0
  | d :: r => uptoBulk d + uptoBulkAll r
def uptoBulkEntries {H : Type} : List (Lit × DataW H) → Nat
  | [] => 0
  | x :: r => uptoBulkEntry x + uptoBulkEntries r
def uptoBulkEntry {H : Type} : Lit × DataW H → Nat
  | (.string bytes, d) => bytes.length + uptoBulk d + 1
  | (_, d) => uptoBulk d + 1
 end
def uptoSmall : (H : Type) → List (DataW H) → Bool := fun _ ds => decide (uptoBulkAll ds ≤ 1048576)
def OpenSpec.upto (s : _root_.Go.ChangeSpec) : _root_.Go.OpenSpec := { _root_.Go.OpenSpec.ofChange s with cond := some uptoSmall }

/-- 'patinalaw16.HealthPlays', WHERE WHAT IT READS IS OF BULK AT MOST 1048576: true; the input reads as it did. -/
def healthPlaysUptoRow : OpenClaim := { program := "ytkdocaimkphooaa", sum := "959382a8a1873523ee9ce403bf0464f6f443980005fbe59c1b175b72cd28ab77", func := "patina/patinalaw16.HealthPlays", spec := "healthPlays", apart := false, narrowed := true }
def HealthPlaysUptoSaid : Prop := healthPlaysUptoRow.holds Try.pinned (OpenSpec.upto healthPlaysSpec)

/-- 'patinalaw16.HealthKeeps', WHERE WHAT IT READS IS OF BULK AT MOST 1048576: true; the input reads as it did. -/
def healthKeepsUptoRow : OpenClaim := { program := "ytkdocaimkphooaa", sum := "959382a8a1873523ee9ce403bf0464f6f443980005fbe59c1b175b72cd28ab77", func := "patina/patinalaw16.HealthKeeps", spec := "healthKeeps", apart := false, narrowed := true }
def HealthKeepsUptoSaid : Prop := healthKeepsUptoRow.holds Try.pinned (OpenSpec.upto healthKeepsSpec)

end Rows
end Go.Proofs.Ytkdocaimkphooaa
