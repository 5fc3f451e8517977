/-
  No cell of these rows narrows 'for every input' (looked for: loops, veiled, ifaces, maps, wideKeys, modest, calm, conditions, laid).
  DERIVED. THE GIVEN ROWS OF THIS SEAT. 6 by the template 'for every input the law returns true; each argument reads behind the call as it read before'; 0 by the template 'total and deterministic' (their statements: YtjlkakggmfmfiaaTotals.lean).
  GIVEN WITH THE SEED: the statements are not yours to turn. If you find one false, say at which input.
  Laid BY PROGRAM, IN A SANDBOX (cutbox-rows.mjs): the forced cells as the released guide's own fill.sh prints them over the translation 36e96c8010d0c460… (all of the seat's roots in one cut). By AI agents, Wed Nov 11 2026. No macro, syntax, notation, axiom, sorry.
-/
import Derived.Test.YtjlkakggmfmfiaaChecked
import GoSem.Claim
import GoSem.ClaimJoined
import GoSem.ClaimMapViews
import Derived.JoinedTies
import Derived.KernelRfl
namespace Go.Proofs.Ytjlkakggmfmfiaa
/- THE CELL 'sum', in the pinned program and in every row, IS THE sha256 OF THE DUMP (.gsa) THAT YtjlkakggmfmfiaaProg.lean LOADS. Nothing in Lean hashes anything: it is a label: what it is worth is what the hold of that sum in a sandbox is worth. -/
noncomputable def Try.pinned : Pinned := { name := "ytjlkakggmfmfiaa", sum := "36e96c8010d0c460532a531c2df59caec35332d9b1e497737c0d3c70ae7d28fd", checked := Try.checked }
namespace Rows
def none {H : Type} : Left H := { results := [], args := [] }

/-- 'tailracelaw03.ShaTexts': WHATEVER THE INPUT: true; the input reads as it did. -/
def shaTextsSpec : ChangeSpec := { name := "shaTexts", fn := fun _ => fun
  | [d] => { results := [.lit (.bool true)], args := [d] }
  | _ => none }
def shaTextsRow : OpenClaim := { program := "ytjlkakggmfmfiaa", sum := "36e96c8010d0c460532a531c2df59caec35332d9b1e497737c0d3c70ae7d28fd", func := "tailrace/tailracelaw03.ShaTexts", spec := "shaTexts", apart := false }
def ShaTextsSaid : Prop := shaTextsRow.holds Try.pinned (OpenSpec.ofChange shaTextsSpec)

/-- ITS FALSE NEIGHBOUR: 'it returns false'. Refute it at one input. -/
def shaTextsWrong : ChangeSpec := { name := "shaTexts", fn := fun _ => fun
  | [d] => { results := [.lit (.bool false)], args := [d] }
  | _ => none }
def ShaTextsWrongFalsely : Prop := shaTextsRow.holds Try.pinned (OpenSpec.ofChange shaTextsWrong)

/-- 'tailracelaw03.ShaParses': WHATEVER THE INPUT: true; the input reads as it did. -/
def shaParsesSpec : ChangeSpec := { name := "shaParses", fn := fun _ => fun
  | [d] => { results := [.lit (.bool true)], args := [d] }
  | _ => none }
def shaParsesRow : OpenClaim := { program := "ytjlkakggmfmfiaa", sum := "36e96c8010d0c460532a531c2df59caec35332d9b1e497737c0d3c70ae7d28fd", func := "tailrace/tailracelaw03.ShaParses", spec := "shaParses", apart := false }
def ShaParsesSaid : Prop := shaParsesRow.holds Try.pinned (OpenSpec.ofChange shaParsesSpec)

/-- ITS FALSE NEIGHBOUR: 'it returns false'. Refute it at one input. -/
def shaParsesWrong : ChangeSpec := { name := "shaParses", fn := fun _ => fun
  | [d] => { results := [.lit (.bool false)], args := [d] }
  | _ => none }
def ShaParsesWrongFalsely : Prop := shaParsesRow.holds Try.pinned (OpenSpec.ofChange shaParsesWrong)

/-- 'tailracelaw07.TxWrites': WHATEVER THE INPUT: true; the input reads as it did. -/
def txWritesSpec : ChangeSpec := { name := "txWrites", fn := fun _ => fun
  | [d1, d2] => { results := [.lit (.bool true)], args := [d1, d2] }
  | _ => none }
def txWritesRow : OpenClaim := { program := "ytjlkakggmfmfiaa", sum := "36e96c8010d0c460532a531c2df59caec35332d9b1e497737c0d3c70ae7d28fd", func := "tailrace/tailracelaw07.TxWrites", spec := "txWrites", apart := false }
def TxWritesSaid : Prop := txWritesRow.holds Try.pinned (OpenSpec.ofChange txWritesSpec)

/-- ITS FALSE NEIGHBOUR: 'it returns false'. Refute it at one input. -/
def txWritesWrong : ChangeSpec := { name := "txWrites", fn := fun _ => fun
  | [d1, d2] => { results := [.lit (.bool false)], args := [d1, d2] }
  | _ => none }
def TxWritesWrongFalsely : Prop := txWritesRow.holds Try.pinned (OpenSpec.ofChange txWritesWrong)

/-- 'tailracelaw07.TxReads': WHATEVER THE INPUT: true; the input reads as it did. -/
def txReadsSpec : ChangeSpec := { name := "txReads", fn := fun _ => fun
  | [d] => { results := [.lit (.bool true)], args := [d] }
  | _ => none }
def txReadsRow : OpenClaim := { program := "ytjlkakggmfmfiaa", sum := "36e96c8010d0c460532a531c2df59caec35332d9b1e497737c0d3c70ae7d28fd", func := "tailrace/tailracelaw07.TxReads", spec := "txReads", apart := false }
def TxReadsSaid : Prop := txReadsRow.holds Try.pinned (OpenSpec.ofChange txReadsSpec)

/-- ITS FALSE NEIGHBOUR: 'it returns false'. Refute it at one input. -/
def txReadsWrong : ChangeSpec := { name := "txReads", fn := fun _ => fun
  | [d] => { results := [.lit (.bool false)], args := [d] }
  | _ => none }
def TxReadsWrongFalsely : Prop := txReadsRow.holds Try.pinned (OpenSpec.ofChange txReadsWrong)

/-- 'tailracelaw07.TxCuts': WHATEVER THE INPUT: true; the input reads as it did. -/
def txCutsSpec : ChangeSpec := { name := "txCuts", fn := fun _ => fun
  | [d1, d2] => { results := [.lit (.bool true)], args := [d1, d2] }
  | _ => none }
def txCutsRow : OpenClaim := { program := "ytjlkakggmfmfiaa", sum := "36e96c8010d0c460532a531c2df59caec35332d9b1e497737c0d3c70ae7d28fd", func := "tailrace/tailracelaw07.TxCuts", spec := "txCuts", apart := false }
def TxCutsSaid : Prop := txCutsRow.holds Try.pinned (OpenSpec.ofChange txCutsSpec)

/-- ITS FALSE NEIGHBOUR: 'it returns false'. Refute it at one input. -/
def txCutsWrong : ChangeSpec := { name := "txCuts", fn := fun _ => fun
  | [d1, d2] => { results := [.lit (.bool false)], args := [d1, d2] }
  | _ => none }
def TxCutsWrongFalsely : Prop := txCutsRow.holds Try.pinned (OpenSpec.ofChange txCutsWrong)

/-- 'tailracelaw07.TxEdges': WHATEVER THE INPUT: true; the input reads as it did. -/
def txEdgesSpec : ChangeSpec := { name := "txEdges", fn := fun _ => fun
  | [d1, d2] => { results := [.lit (.bool true)], args := [d1, d2] }
  | _ => none }
def txEdgesRow : OpenClaim := { program := "ytjlkakggmfmfiaa", sum := "36e96c8010d0c460532a531c2df59caec35332d9b1e497737c0d3c70ae7d28fd", func := "tailrace/tailracelaw07.TxEdges", spec := "txEdges", apart := false }
def TxEdgesSaid : Prop := txEdgesRow.holds Try.pinned (OpenSpec.ofChange txEdgesSpec)

/-- ITS FALSE NEIGHBOUR: 'it returns false'. Refute it at one input. -/
def txEdgesWrong : ChangeSpec := { name := "txEdges", fn := fun _ => fun
  | [d1, d2] => { results := [.lit (.bool false)], args := [d1, d2] }
  | _ => none }
def TxEdgesWrongFalsely : Prop := txEdgesRow.holds Try.pinned (OpenSpec.ofChange txEdgesWrong)

/- THE SECOND FORM. 'bulk': how many values and letters a reading holds, each counted each time it is reached (what is shared counts as often as it is met; a slice's spare places count too). A statement '..UptoSaid' is the law's where the arguments, and the package variables that the reading takes, are together of bulk at most 1048576: NARROWER than '..Said'. Prove '..Said' where nothing that the law and all that it calls make is longer than what came in: it says more and counts as full. Else prove '..UptoSaid'. A law counts once. -/
mutual
def uptoBulk {H : Type} : DataW H → Nat
  | .lit (.string bytes) => bytes.length + 1
  | .lit _ => 1
  | .nil => 1
  | .ptr d => uptoBulk d + 1
  | .slice elems spare => uptoBulkAll elems + uptoBulkAll spare + 1
  | .agg parts => uptoBulkAll parts + 1
  | .iface _ d => uptoBulk d + 1
  | .map entries => uptoBulkEntries entries + 1
  | .held _ => 1
def uptoBulkAll {H : Type} : List (DataW H) → Nat
  | [] => 0
  | d :: r => uptoBulk d + uptoBulkAll r
def uptoBulkEntries {H : Type} : List (Lit × DataW H) → Nat
  | [] => 0
  | x :: r => uptoBulkEntry x + uptoBulkEntries r
def uptoBulkEntry {H : Type} : Lit × DataW H → Nat
  | (.string bytes, d) => bytes.length + uptoBulk d + 1
  | (_, d) => uptoBulk d + 1
 end
def uptoSmall : (H : Type) → List (DataW H) → Bool := fun _ ds => decide (uptoBulkAll ds ≤ 1048576)
def OpenSpec.upto (s : _root_.Go.ChangeSpec) : _root_.Go.OpenSpec := { _root_.Go.OpenSpec.ofChange s with cond := some uptoSmall }

/-- 'tailracelaw03.ShaTexts', WHERE WHAT IT READS IS OF BULK AT MOST 1048576: true; the input reads as it did. -/
def shaTextsUptoRow : OpenClaim := { program := "ytjlkakggmfmfiaa", sum := "36e96c8010d0c460532a531c2df59caec35332d9b1e497737c0d3c70ae7d28fd", func := "tailrace/tailracelaw03.ShaTexts", spec := "shaTexts", apart := false, narrowed := true }
def ShaTextsUptoSaid : Prop := shaTextsUptoRow.holds Try.pinned (OpenSpec.upto shaTextsSpec)

/-- 'tailracelaw03.ShaParses', WHERE WHAT IT READS IS OF BULK AT MOST 1048576: true; the input reads as it did. -/
def shaParsesUptoRow : OpenClaim := { program := "ytjlkakggmfmfiaa", sum := "36e96c8010d0c460532a531c2df59caec35332d9b1e497737c0d3c70ae7d28fd", func := "tailrace/tailracelaw03.ShaParses", spec := "shaParses", apart := false, narrowed := true }
def ShaParsesUptoSaid : Prop := shaParsesUptoRow.holds Try.pinned (OpenSpec.upto shaParsesSpec)

/-- 'tailracelaw07.TxWrites', WHERE WHAT IT READS IS OF BULK AT MOST 1048576: true; the input reads as it did. -/
def txWritesUptoRow : OpenClaim := { program := "ytjlkakggmfmfiaa", sum := "36e96c8010d0c460532a531c2df59caec35332d9b1e497737c0d3c70ae7d28fd", func := "tailrace/tailracelaw07.TxWrites", spec := "txWrites", apart := false, narrowed := true }
def TxWritesUptoSaid : Prop := txWritesUptoRow.holds Try.pinned (OpenSpec.upto txWritesSpec)

/-- 'tailracelaw07.TxReads', WHERE WHAT IT READS IS OF BULK AT MOST 1048576: true; the input reads as it did. -/
def txReadsUptoRow : OpenClaim := { program := "ytjlkakggmfmfiaa", sum := "36e96c8010d0c460532a531c2df59caec35332d9b1e497737c0d3c70ae7d28fd", func := "tailrace/tailracelaw07.TxReads", spec := "txReads", apart := false, narrowed := true }
def TxReadsUptoSaid : Prop := txReadsUptoRow.holds Try.pinned (OpenSpec.upto txReadsSpec)

/-- 'tailracelaw07.TxCuts', WHERE WHAT IT READS IS OF BULK AT MOST 1048576: true; the input reads as it did. -/
def txCutsUptoRow : OpenClaim := { program := "ytjlkakggmfmfiaa", sum := "36e96c8010d0c460532a531c2df59caec35332d9b1e497737c0d3c70ae7d28fd", func := "tailrace/tailracelaw07.TxCuts", spec := "txCuts", apart := false, narrowed := true }
def TxCutsUptoSaid : Prop := txCutsUptoRow.holds Try.pinned (OpenSpec.upto txCutsSpec)

/-- 'tailracelaw07.TxEdges', WHERE WHAT IT READS IS OF BULK AT MOST 1048576: true; the input reads as it did. -/
def txEdgesUptoRow : OpenClaim := { program := "ytjlkakggmfmfiaa", sum := "36e96c8010d0c460532a531c2df59caec35332d9b1e497737c0d3c70ae7d28fd", func := "tailrace/tailracelaw07.TxEdges", spec := "txEdges", apart := false, narrowed := true }
def TxEdgesUptoSaid : Prop := txEdgesUptoRow.holds Try.pinned (OpenSpec.upto txEdgesSpec)

end Rows
end Go.Proofs.Ytjlkakggmfmfiaa
