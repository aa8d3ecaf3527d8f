/-
  No cell of these rows narrows 'for every input' (looked for: loops, veiled, ifaces, maps, wideKeys, modest, calm, conditions, laid).
  DERIVED. THE GIVEN ROWS OF THIS SEAT. 8 by the template 'for every input the law returns true; each argument reads behind the call as it read before'; 0 by the template 'total and deterministic' (their statements: YteehoppklgcggaaTotals.lean).
  GIVEN WITH THE SEED: the statements are not yours to turn. If you find one false, say at which input.
  Laid BY PROGRAM, IN A SANDBOX (cutbox-rows.mjs): the forced cells as the released guide's own fill.sh prints them over the translation 4078aba270b55dbb… (all of the seat's roots in one cut). By AI agents, Wed Nov 11 2026. No macro, syntax, notation, axiom, sorry.
-/
import Derived.Test.YteehoppklgcggaaChecked
import GoSem.Claim
import GoSem.ClaimJoined
import GoSem.ClaimMapViews
import Derived.JoinedTies
import Derived.KernelRfl
namespace Go.Proofs.Yteehoppklgcggaa
/- THE CELL 'sum', in the pinned program and in every row, IS THE sha256 OF THE DUMP (.gsa) THAT YteehoppklgcggaaProg.lean LOADS. Nothing in Lean hashes anything: it is a label: what it is worth is what the hold of that sum in a sandbox is worth. -/
noncomputable def Try.pinned : Pinned := { name := "yteehoppklgcggaa", sum := "4078aba270b55dbbf16e5c733e04ef5e626cf59bdd755e22655f0e6ba1a3fa55", checked := Try.checked }
namespace Rows
def none {H : Type} : Left H := { results := [], args := [] }

/-- 'polderlaw11.NodeChecks': WHATEVER THE INPUT: true; the input reads as it did. -/
def nodeChecksSpec : ChangeSpec := { name := "nodeChecks", fn := fun _ => fun
  | [d] => { results := [.lit (.bool true)], args := [d] }
  | _ => none }
def nodeChecksRow : OpenClaim := { program := "yteehoppklgcggaa", sum := "4078aba270b55dbbf16e5c733e04ef5e626cf59bdd755e22655f0e6ba1a3fa55", func := "polder/polderlaw11.NodeChecks", spec := "nodeChecks", apart := false }
def NodeChecksSaid : Prop := nodeChecksRow.holds Try.pinned (OpenSpec.ofChange nodeChecksSpec)

/-- ITS FALSE NEIGHBOUR: 'it returns false'. Refute it at one input. -/
def nodeChecksWrong : ChangeSpec := { name := "nodeChecks", fn := fun _ => fun
  | [d] => { results := [.lit (.bool false)], args := [d] }
  | _ => none }
def NodeChecksWrongFalsely : Prop := nodeChecksRow.holds Try.pinned (OpenSpec.ofChange nodeChecksWrong)

/-- 'polderlaw11.NodeFinds': WHATEVER THE INPUT: true; the input reads as it did. -/
def nodeFindsSpec : ChangeSpec := { name := "nodeFinds", fn := fun _ => fun
  | [d1, d2] => { results := [.lit (.bool true)], args := [d1, d2] }
  | _ => none }
def nodeFindsRow : OpenClaim := { program := "yteehoppklgcggaa", sum := "4078aba270b55dbbf16e5c733e04ef5e626cf59bdd755e22655f0e6ba1a3fa55", func := "polder/polderlaw11.NodeFinds", spec := "nodeFinds", apart := false }
def NodeFindsSaid : Prop := nodeFindsRow.holds Try.pinned (OpenSpec.ofChange nodeFindsSpec)

/-- ITS FALSE NEIGHBOUR: 'it returns false'. Refute it at one input. -/
def nodeFindsWrong : ChangeSpec := { name := "nodeFinds", fn := fun _ => fun
  | [d1, d2] => { results := [.lit (.bool false)], args := [d1, d2] }
  | _ => none }
def NodeFindsWrongFalsely : Prop := nodeFindsRow.holds Try.pinned (OpenSpec.ofChange nodeFindsWrong)

/-- 'polderlaw11.NodeChild': WHATEVER THE INPUT: true; the input reads as it did. -/
def nodeChildSpec : ChangeSpec := { name := "nodeChild", fn := fun _ => fun
  | [d1, d2] => { results := [.lit (.bool true)], args := [d1, d2] }
  | _ => none }
def nodeChildRow : OpenClaim := { program := "yteehoppklgcggaa", sum := "4078aba270b55dbbf16e5c733e04ef5e626cf59bdd755e22655f0e6ba1a3fa55", func := "polder/polderlaw11.NodeChild", spec := "nodeChild", apart := false }
def NodeChildSaid : Prop := nodeChildRow.holds Try.pinned (OpenSpec.ofChange nodeChildSpec)

/-- ITS FALSE NEIGHBOUR: 'it returns false'. Refute it at one input. -/
def nodeChildWrong : ChangeSpec := { name := "nodeChild", fn := fun _ => fun
  | [d1, d2] => { results := [.lit (.bool false)], args := [d1, d2] }
  | _ => none }
def NodeChildWrongFalsely : Prop := nodeChildRow.holds Try.pinned (OpenSpec.ofChange nodeChildWrong)

/-- 'polderlaw11.NodePuts': WHATEVER THE INPUT: true; the input reads as it did. -/
def nodePutsSpec : ChangeSpec := { name := "nodePuts", fn := fun _ => fun
  | [d1, d2, d3] => { results := [.lit (.bool true)], args := [d1, d2, d3] }
  | _ => none }
def nodePutsRow : OpenClaim := { program := "yteehoppklgcggaa", sum := "4078aba270b55dbbf16e5c733e04ef5e626cf59bdd755e22655f0e6ba1a3fa55", func := "polder/polderlaw11.NodePuts", spec := "nodePuts", apart := false }
def NodePutsSaid : Prop := nodePutsRow.holds Try.pinned (OpenSpec.ofChange nodePutsSpec)

/-- ITS FALSE NEIGHBOUR: 'it returns false'. Refute it at one input. -/
def nodePutsWrong : ChangeSpec := { name := "nodePuts", fn := fun _ => fun
  | [d1, d2, d3] => { results := [.lit (.bool false)], args := [d1, d2, d3] }
  | _ => none }
def NodePutsWrongFalsely : Prop := nodePutsRow.holds Try.pinned (OpenSpec.ofChange nodePutsWrong)

/-- 'polderlaw11.NodeKeeps': WHATEVER THE INPUT: true; the input reads as it did. -/
def nodeKeepsSpec : ChangeSpec := { name := "nodeKeeps", fn := fun _ => fun
  | [d1, d2, d3] => { results := [.lit (.bool true)], args := [d1, d2, d3] }
  | _ => none }
def nodeKeepsRow : OpenClaim := { program := "yteehoppklgcggaa", sum := "4078aba270b55dbbf16e5c733e04ef5e626cf59bdd755e22655f0e6ba1a3fa55", func := "polder/polderlaw11.NodeKeeps", spec := "nodeKeeps", apart := false }
def NodeKeepsSaid : Prop := nodeKeepsRow.holds Try.pinned (OpenSpec.ofChange nodeKeepsSpec)

/-- ITS FALSE NEIGHBOUR: 'it returns false'. Refute it at one input. -/
def nodeKeepsWrong : ChangeSpec := { name := "nodeKeeps", fn := fun _ => fun
  | [d1, d2, d3] => { results := [.lit (.bool false)], args := [d1, d2, d3] }
  | _ => none }
def NodeKeepsWrongFalsely : Prop := nodeKeepsRow.holds Try.pinned (OpenSpec.ofChange nodeKeepsWrong)

/-- 'polderlaw11.NodeOwns': WHATEVER THE INPUT: true; the input reads as it did. -/
def nodeOwnsSpec : ChangeSpec := { name := "nodeOwns", fn := fun _ => fun
  | [d1, d2, d3] => { results := [.lit (.bool true)], args := [d1, d2, d3] }
  | _ => none }
def nodeOwnsRow : OpenClaim := { program := "yteehoppklgcggaa", sum := "4078aba270b55dbbf16e5c733e04ef5e626cf59bdd755e22655f0e6ba1a3fa55", func := "polder/polderlaw11.NodeOwns", spec := "nodeOwns", apart := false }
def NodeOwnsSaid : Prop := nodeOwnsRow.holds Try.pinned (OpenSpec.ofChange nodeOwnsSpec)

/-- ITS FALSE NEIGHBOUR: 'it returns false'. Refute it at one input. -/
def nodeOwnsWrong : ChangeSpec := { name := "nodeOwns", fn := fun _ => fun
  | [d1, d2, d3] => { results := [.lit (.bool false)], args := [d1, d2, d3] }
  | _ => none }
def NodeOwnsWrongFalsely : Prop := nodeOwnsRow.holds Try.pinned (OpenSpec.ofChange nodeOwnsWrong)

/-- 'polderlaw11.NodeHalves': WHATEVER THE INPUT: true; the input reads as it did. -/
def nodeHalvesSpec : ChangeSpec := { name := "nodeHalves", fn := fun _ => fun
  | [d1, d2] => { results := [.lit (.bool true)], args := [d1, d2] }
  | _ => none }
def nodeHalvesRow : OpenClaim := { program := "yteehoppklgcggaa", sum := "4078aba270b55dbbf16e5c733e04ef5e626cf59bdd755e22655f0e6ba1a3fa55", func := "polder/polderlaw11.NodeHalves", spec := "nodeHalves", apart := false }
def NodeHalvesSaid : Prop := nodeHalvesRow.holds Try.pinned (OpenSpec.ofChange nodeHalvesSpec)

/-- ITS FALSE NEIGHBOUR: 'it returns false'. Refute it at one input. -/
def nodeHalvesWrong : ChangeSpec := { name := "nodeHalves", fn := fun _ => fun
  | [d1, d2] => { results := [.lit (.bool false)], args := [d1, d2] }
  | _ => none }
def NodeHalvesWrongFalsely : Prop := nodeHalvesRow.holds Try.pinned (OpenSpec.ofChange nodeHalvesWrong)

/-- 'polderlaw11.NodeBack': WHATEVER THE INPUT: true; the input reads as it did. -/
def nodeBackSpec : ChangeSpec := { name := "nodeBack", fn := fun _ => fun
  | [d] => { results := [.lit (.bool true)], args := [d] }
  | _ => none }
def nodeBackRow : OpenClaim := { program := "yteehoppklgcggaa", sum := "4078aba270b55dbbf16e5c733e04ef5e626cf59bdd755e22655f0e6ba1a3fa55", func := "polder/polderlaw11.NodeBack", spec := "nodeBack", apart := false }
def NodeBackSaid : Prop := nodeBackRow.holds Try.pinned (OpenSpec.ofChange nodeBackSpec)

/-- ITS FALSE NEIGHBOUR: 'it returns false'. Refute it at one input. -/
def nodeBackWrong : ChangeSpec := { name := "nodeBack", fn := fun _ => fun
  | [d] => { results := [.lit (.bool false)], args := [d] }
  | _ => none }
def NodeBackWrongFalsely : Prop := nodeBackRow.holds Try.pinned (OpenSpec.ofChange nodeBackWrong)

/- THE SECOND FORM. 'bulk': how many values and letters a reading holds, each counted each time it is reached (what is shared counts as often as it is met; a slice's spare places count too). A statement '..UptoSaid' is the law's where the arguments, and the package variables that the reading takes, are together of bulk at most 1048576: NARROWER than '..Said'. Prove '..Said' where nothing that the law and all that it calls make is longer than what came in: it says more and counts as full. Else prove '..UptoSaid'. A law counts once. -/
mutual
def uptoBulk {H : Type} : DataW H → Nat
  | .lit (.string bytes) => bytes.length + 1
  | .lit _ => 1
  | .nil => 1
  | .ptr d => uptoBulk d + 1
  | .slice elems spare => uptoBulkAll elems + uptoBulkAll spare + 1
  | .agg parts => uptoBulkAll parts + 1
  | .iface _ d => uptoBulk d + 1
  | .map entries => uptoBulkEntries entries + 1
  | .held _ => 1
def uptoBulkAll {H : Type} : List (DataW H) → Nat
  | [] => 0
  | d :: r => uptoBulk d + uptoBulkAll r
def uptoBulkEntries {H : Type} : List (Lit × DataW H) → Nat
  | [] => 0
  | x :: r => uptoBulkEntry x + uptoBulkEntries r
def uptoBulkEntry {H : Type} : Lit × DataW H → Nat
  | (.string bytes, d) => bytes.length + uptoBulk d + 1
  | (_, d) => uptoBulk d + 1
 end
def uptoSmall : (H : Type) → List (DataW H) → Bool := fun _ ds => decide (uptoBulkAll ds ≤ 1048576)
def OpenSpec.upto (s : _root_.Go.ChangeSpec) : _root_.Go.OpenSpec := { _root_.Go.OpenSpec.ofChange s with cond := some uptoSmall }

/-- 'polderlaw11.NodeChecks', WHERE WHAT IT READS IS OF BULK AT MOST 1048576: true; the input reads as it did. -/
def nodeChecksUptoRow : OpenClaim := { program := "yteehoppklgcggaa", sum := "4078aba270b55dbbf16e5c733e04ef5e626cf59bdd755e22655f0e6ba1a3fa55", func := "polder/polderlaw11.NodeChecks", spec := "nodeChecks", apart := false, narrowed := true }
def NodeChecksUptoSaid : Prop := nodeChecksUptoRow.holds Try.pinned (OpenSpec.upto nodeChecksSpec)

/-- 'polderlaw11.NodeFinds', WHERE WHAT IT READS IS OF BULK AT MOST 1048576: true; the input reads as it did. -/
def nodeFindsUptoRow : OpenClaim := { program := "yteehoppklgcggaa", sum := "4078aba270b55dbbf16e5c733e04ef5e626cf59bdd755e22655f0e6ba1a3fa55", func := "polder/polderlaw11.NodeFinds", spec := "nodeFinds", apart := false, narrowed := true }
def NodeFindsUptoSaid : Prop := nodeFindsUptoRow.holds Try.pinned (OpenSpec.upto nodeFindsSpec)

/-- 'polderlaw11.NodeChild', WHERE WHAT IT READS IS OF BULK AT MOST 1048576: true; the input reads as it did. -/
def nodeChildUptoRow : OpenClaim := { program := "yteehoppklgcggaa", sum := "4078aba270b55dbbf16e5c733e04ef5e626cf59bdd755e22655f0e6ba1a3fa55", func := "polder/polderlaw11.NodeChild", spec := "nodeChild", apart := false, narrowed := true }
def NodeChildUptoSaid : Prop := nodeChildUptoRow.holds Try.pinned (OpenSpec.upto nodeChildSpec)

/-- 'polderlaw11.NodePuts', WHERE WHAT IT READS IS OF BULK AT MOST 1048576: true; the input reads as it did. -/
def nodePutsUptoRow : OpenClaim := { program := "yteehoppklgcggaa", sum := "4078aba270b55dbbf16e5c733e04ef5e626cf59bdd755e22655f0e6ba1a3fa55", func := "polder/polderlaw11.NodePuts", spec := "nodePuts", apart := false, narrowed := true }
def NodePutsUptoSaid : Prop := nodePutsUptoRow.holds Try.pinned (OpenSpec.upto nodePutsSpec)

/-- 'polderlaw11.NodeKeeps', WHERE WHAT IT READS IS OF BULK AT MOST 1048576: true; the input reads as it did. -/
def nodeKeepsUptoRow : OpenClaim := { program := "yteehoppklgcggaa", sum := "4078aba270b55dbbf16e5c733e04ef5e626cf59bdd755e22655f0e6ba1a3fa55", func := "polder/polderlaw11.NodeKeeps", spec := "nodeKeeps", apart := false, narrowed := true }
def NodeKeepsUptoSaid : Prop := nodeKeepsUptoRow.holds Try.pinned (OpenSpec.upto nodeKeepsSpec)

/-- 'polderlaw11.NodeOwns', WHERE WHAT IT READS IS OF BULK AT MOST 1048576: true; the input reads as it did. -/
def nodeOwnsUptoRow : OpenClaim := { program := "yteehoppklgcggaa", sum := "4078aba270b55dbbf16e5c733e04ef5e626cf59bdd755e22655f0e6ba1a3fa55", func := "polder/polderlaw11.NodeOwns", spec := "nodeOwns", apart := false, narrowed := true }
def NodeOwnsUptoSaid : Prop := nodeOwnsUptoRow.holds Try.pinned (OpenSpec.upto nodeOwnsSpec)

/-- 'polderlaw11.NodeHalves', WHERE WHAT IT READS IS OF BULK AT MOST 1048576: true; the input reads as it did. -/
def nodeHalvesUptoRow : OpenClaim := { program := "yteehoppklgcggaa", sum := "4078aba270b55dbbf16e5c733e04ef5e626cf59bdd755e22655f0e6ba1a3fa55", func := "polder/polderlaw11.NodeHalves", spec := "nodeHalves", apart := false, narrowed := true }
def NodeHalvesUptoSaid : Prop := nodeHalvesUptoRow.holds Try.pinned (OpenSpec.upto nodeHalvesSpec)

/-- 'polderlaw11.NodeBack', WHERE WHAT IT READS IS OF BULK AT MOST 1048576: true; the input reads as it did. -/
def nodeBackUptoRow : OpenClaim := { program := "yteehoppklgcggaa", sum := "4078aba270b55dbbf16e5c733e04ef5e626cf59bdd755e22655f0e6ba1a3fa55", func := "polder/polderlaw11.NodeBack", spec := "nodeBack", apart := false, narrowed := true }
def NodeBackUptoSaid : Prop := nodeBackUptoRow.holds Try.pinned (OpenSpec.upto nodeBackSpec)

end Rows
end Go.Proofs.Yteehoppklgcggaa
