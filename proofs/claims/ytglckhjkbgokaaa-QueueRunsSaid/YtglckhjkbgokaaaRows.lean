/-
  No cell of these rows narrows 'for every input' (looked for: loops, veiled, ifaces, maps, wideKeys, modest, calm, conditions, laid).
  DERIVED. THE GIVEN ROWS OF THIS SEAT. 6 by the template 'for every input the law returns true; each argument reads behind the call as it read before'; 0 by the template 'total and deterministic' (their statements: YtglckhjkbgokaaaTotals.lean).
  GIVEN WITH THE SEED: the statements are not yours to turn. If you find one false, say at which input.
  Laid BY PROGRAM, IN A SANDBOX (cutbox-rows.mjs): the forced cells as the released guide's own fill.sh prints them over the translation e8c6f80f0e0d2854… (all of the seat's roots in one cut). By AI agents, Wed Nov 11 2026. No macro, syntax, notation, axiom, sorry.
-/
import Derived.Test.YtglckhjkbgokaaaChecked
import GoSem.Claim
import GoSem.ClaimJoined
import GoSem.ClaimMapViews
import Derived.JoinedTies
import Derived.KernelRfl
namespace Go.Proofs.Ytglckhjkbgokaaa
/- THE CELL 'sum', in the pinned program and in every row, IS THE sha256 OF THE DUMP (.gsa) THAT YtglckhjkbgokaaaProg.lean LOADS. Nothing in Lean hashes anything: it is a label: what it is worth is what the hold of that sum in a sandbox is worth. -/
noncomputable def Try.pinned : Pinned := { name := "ytglckhjkbgokaaa", sum := "e8c6f80f0e0d285406f9156b261d63b1d8af12a1cc0b6d14fa6fc6e5de02a8f0", checked := Try.checked }
namespace Rows
def none {H : Type} : Left H := { results := [], args := [] }

/-- 'tailracelaw03.ShaParses': WHATEVER THE INPUT: true; the input reads as it did. -/
def shaParsesSpec : ChangeSpec := { name := "shaParses", fn := fun _ => fun
  | [d] => { results := [.lit (.bool true)], args := [d] }
  | _ => none }
def shaParsesRow : OpenClaim := { program := "ytglckhjkbgokaaa", sum := "e8c6f80f0e0d285406f9156b261d63b1d8af12a1cc0b6d14fa6fc6e5de02a8f0", func := "tailrace/tailracelaw03.ShaParses", spec := "shaParses", apart := false }
def ShaParsesSaid : Prop := shaParsesRow.holds Try.pinned (OpenSpec.ofChange shaParsesSpec)

/-- ITS FALSE NEIGHBOUR: 'it returns false'. Refute it at one input. -/
def shaParsesWrong : ChangeSpec := { name := "shaParses", fn := fun _ => fun
  | [d] => { results := [.lit (.bool false)], args := [d] }
  | _ => none }
def ShaParsesWrongFalsely : Prop := shaParsesRow.holds Try.pinned (OpenSpec.ofChange shaParsesWrong)

/-- 'tailracelaw03.ShaTexts': WHATEVER THE INPUT: true; the input reads as it did. -/
def shaTextsSpec : ChangeSpec := { name := "shaTexts", fn := fun _ => fun
  | [d] => { results := [.lit (.bool true)], args := [d] }
  | _ => none }
def shaTextsRow : OpenClaim := { program := "ytglckhjkbgokaaa", sum := "e8c6f80f0e0d285406f9156b261d63b1d8af12a1cc0b6d14fa6fc6e5de02a8f0", func := "tailrace/tailracelaw03.ShaTexts", spec := "shaTexts", apart := false }
def ShaTextsSaid : Prop := shaTextsRow.holds Try.pinned (OpenSpec.ofChange shaTextsSpec)

/-- ITS FALSE NEIGHBOUR: 'it returns false'. Refute it at one input. -/
def shaTextsWrong : ChangeSpec := { name := "shaTexts", fn := fun _ => fun
  | [d] => { results := [.lit (.bool false)], args := [d] }
  | _ => none }
def ShaTextsWrongFalsely : Prop := shaTextsRow.holds Try.pinned (OpenSpec.ofChange shaTextsWrong)

/-- 'tailracelaw22.QueueClose': WHATEVER THE INPUT: true; the input reads as it did. -/
def queueCloseSpec : ChangeSpec := { name := "queueClose", fn := fun _ => fun
  | [d1, d2] => { results := [.lit (.bool true)], args := [d1, d2] }
  | _ => none }
def queueCloseRow : OpenClaim := { program := "ytglckhjkbgokaaa", sum := "e8c6f80f0e0d285406f9156b261d63b1d8af12a1cc0b6d14fa6fc6e5de02a8f0", func := "tailrace/tailracelaw22.QueueClose", spec := "queueClose", apart := false }
def QueueCloseSaid : Prop := queueCloseRow.holds Try.pinned (OpenSpec.ofChange queueCloseSpec)

/-- ITS FALSE NEIGHBOUR: 'it returns false'. Refute it at one input. -/
def queueCloseWrong : ChangeSpec := { name := "queueClose", fn := fun _ => fun
  | [d1, d2] => { results := [.lit (.bool false)], args := [d1, d2] }
  | _ => none }
def QueueCloseWrongFalsely : Prop := queueCloseRow.holds Try.pinned (OpenSpec.ofChange queueCloseWrong)

/-- 'tailracelaw22.QueueOrder': WHATEVER THE INPUT: true; the input reads as it did. -/
def queueOrderSpec : ChangeSpec := { name := "queueOrder", fn := fun _ => fun
  | [d1, d2] => { results := [.lit (.bool true)], args := [d1, d2] }
  | _ => none }
def queueOrderRow : OpenClaim := { program := "ytglckhjkbgokaaa", sum := "e8c6f80f0e0d285406f9156b261d63b1d8af12a1cc0b6d14fa6fc6e5de02a8f0", func := "tailrace/tailracelaw22.QueueOrder", spec := "queueOrder", apart := false }
def QueueOrderSaid : Prop := queueOrderRow.holds Try.pinned (OpenSpec.ofChange queueOrderSpec)

/-- ITS FALSE NEIGHBOUR: 'it returns false'. Refute it at one input. -/
def queueOrderWrong : ChangeSpec := { name := "queueOrder", fn := fun _ => fun
  | [d1, d2] => { results := [.lit (.bool false)], args := [d1, d2] }
  | _ => none }
def QueueOrderWrongFalsely : Prop := queueOrderRow.holds Try.pinned (OpenSpec.ofChange queueOrderWrong)

/-- 'tailracelaw22.QueueRoom': WHATEVER THE INPUT: true; the input reads as it did. -/
def queueRoomSpec : ChangeSpec := { name := "queueRoom", fn := fun _ => fun
  | [d] => { results := [.lit (.bool true)], args := [d] }
  | _ => none }
def queueRoomRow : OpenClaim := { program := "ytglckhjkbgokaaa", sum := "e8c6f80f0e0d285406f9156b261d63b1d8af12a1cc0b6d14fa6fc6e5de02a8f0", func := "tailrace/tailracelaw22.QueueRoom", spec := "queueRoom", apart := false }
def QueueRoomSaid : Prop := queueRoomRow.holds Try.pinned (OpenSpec.ofChange queueRoomSpec)

/-- ITS FALSE NEIGHBOUR: 'it returns false'. Refute it at one input. -/
def queueRoomWrong : ChangeSpec := { name := "queueRoom", fn := fun _ => fun
  | [d] => { results := [.lit (.bool false)], args := [d] }
  | _ => none }
def QueueRoomWrongFalsely : Prop := queueRoomRow.holds Try.pinned (OpenSpec.ofChange queueRoomWrong)

/-- 'tailracelaw22.QueueRuns': WHATEVER THE INPUT: true; the input reads as it did. -/
def queueRunsSpec : ChangeSpec := { name := "queueRuns", fn := fun _ => fun
  | [d1, d2] => { results := [.lit (.bool true)], args := [d1, d2] }
  | _ => none }
def queueRunsRow : OpenClaim := { program := "ytglckhjkbgokaaa", sum := "e8c6f80f0e0d285406f9156b261d63b1d8af12a1cc0b6d14fa6fc6e5de02a8f0", func := "tailrace/tailracelaw22.QueueRuns", spec := "queueRuns", apart := false }
def QueueRunsSaid : Prop := queueRunsRow.holds Try.pinned (OpenSpec.ofChange queueRunsSpec)

/-- ITS FALSE NEIGHBOUR: 'it returns false'. Refute it at one input. -/
def queueRunsWrong : ChangeSpec := { name := "queueRuns", fn := fun _ => fun
  | [d1, d2] => { results := [.lit (.bool false)], args := [d1, d2] }
  | _ => none }
def QueueRunsWrongFalsely : Prop := queueRunsRow.holds Try.pinned (OpenSpec.ofChange queueRunsWrong)

/- THE SECOND FORM. 'bulk': how many values and letters a reading holds, each counted each time it is reached (what is shared counts as often as it is met; a slice's spare places count too). A statement '..UptoSaid' is the law's where the arguments, and the package variables that the reading takes, are together of bulk at most 1048576: NARROWER than '..Said'. Prove '..Said' where nothing that the law and all that it calls make is longer than what came in: it says more and counts as full. Else prove '..UptoSaid'. A law counts once. -/
mutual
def uptoBulk {H : Type} : DataW H → Nat
  | .lit (.string bytes) => bytes.length + 1
  | .lit _ => 1
  | .nil => 1
  | .ptr d => uptoBulk d + 1
  | .slice elems spare => uptoBulkAll elems + uptoBulkAll spare + 1
  | .agg parts => uptoBulkAll parts + 1
  | .iface _ d => uptoBulk d + 1
  | .map entries => uptoBulkEntries entries + 1
  | .held _ => 1
def uptoBulkAll {H : Type} : List (DataW H) → Nat
  | [] => 0
  | d :: r => uptoBulk d + uptoBulkAll r
def uptoBulkEntries {H : Type} : List (Lit × DataW H) → Nat
  | [] => 0
  | x :: r => uptoBulkEntry x + uptoBulkEntries r
def uptoBulkEntry {H : Type} : Lit × DataW H → Nat
  | (.string bytes, d) => bytes.length + uptoBulk d + 1
  | (_, d) => uptoBulk d + 1
 end
def uptoSmall : (H : Type) → List (DataW H) → Bool := fun _ ds => decide (uptoBulkAll ds ≤ 1048576)
def OpenSpec.upto (s : _root_.Go.ChangeSpec) : _root_.Go.OpenSpec := { _root_.Go.OpenSpec.ofChange s with cond := some uptoSmall }

/-- 'tailracelaw03.ShaParses', WHERE WHAT IT READS IS OF BULK AT MOST 1048576: true; the input reads as it did. -/
def shaParsesUptoRow : OpenClaim := { program := "ytglckhjkbgokaaa", sum := "e8c6f80f0e0d285406f9156b261d63b1d8af12a1cc0b6d14fa6fc6e5de02a8f0", func := "tailrace/tailracelaw03.ShaParses", spec := "shaParses", apart := false, narrowed := true }
def ShaParsesUptoSaid : Prop := shaParsesUptoRow.holds Try.pinned (OpenSpec.upto shaParsesSpec)

/-- 'tailracelaw03.ShaTexts', WHERE WHAT IT READS IS OF BULK AT MOST 1048576: true; the input reads as it did. -/
def shaTextsUptoRow : OpenClaim := { program := "ytglckhjkbgokaaa", sum := "e8c6f80f0e0d285406f9156b261d63b1d8af12a1cc0b6d14fa6fc6e5de02a8f0", func := "tailrace/tailracelaw03.ShaTexts", spec := "shaTexts", apart := false, narrowed := true }
def ShaTextsUptoSaid : Prop := shaTextsUptoRow.holds Try.pinned (OpenSpec.upto shaTextsSpec)

/-- 'tailracelaw22.QueueClose', WHERE WHAT IT READS IS OF BULK AT MOST 1048576: true; the input reads as it did. -/
def queueCloseUptoRow : OpenClaim := { program := "ytglckhjkbgokaaa", sum := "e8c6f80f0e0d285406f9156b261d63b1d8af12a1cc0b6d14fa6fc6e5de02a8f0", func := "tailrace/tailracelaw22.QueueClose", spec := "queueClose", apart := false, narrowed := true }
def QueueCloseUptoSaid : Prop := queueCloseUptoRow.holds Try.pinned (OpenSpec.upto queueCloseSpec)

/-- 'tailracelaw22.QueueOrder', WHERE WHAT IT READS IS OF BULK AT MOST 1048576: true; the input reads as it did. -/
def queueOrderUptoRow : OpenClaim := { program := "ytglckhjkbgokaaa", sum := "e8c6f80f0e0d285406f9156b261d63b1d8af12a1cc0b6d14fa6fc6e5de02a8f0", func := "tailrace/tailracelaw22.QueueOrder", spec := "queueOrder", apart := false, narrowed := true }
def QueueOrderUptoSaid : Prop := queueOrderUptoRow.holds Try.pinned (OpenSpec.upto queueOrderSpec)

/-- 'tailracelaw22.QueueRoom', WHERE WHAT IT READS IS OF BULK AT MOST 1048576: true; the input reads as it did. -/
def queueRoomUptoRow : OpenClaim := { program := "ytglckhjkbgokaaa", sum := "e8c6f80f0e0d285406f9156b261d63b1d8af12a1cc0b6d14fa6fc6e5de02a8f0", func := "tailrace/tailracelaw22.QueueRoom", spec := "queueRoom", apart := false, narrowed := true }
def QueueRoomUptoSaid : Prop := queueRoomUptoRow.holds Try.pinned (OpenSpec.upto queueRoomSpec)

/-- 'tailracelaw22.QueueRuns', WHERE WHAT IT READS IS OF BULK AT MOST 1048576: true; the input reads as it did. -/
def queueRunsUptoRow : OpenClaim := { program := "ytglckhjkbgokaaa", sum := "e8c6f80f0e0d285406f9156b261d63b1d8af12a1cc0b6d14fa6fc6e5de02a8f0", func := "tailrace/tailracelaw22.QueueRuns", spec := "queueRuns", apart := false, narrowed := true }
def QueueRunsUptoSaid : Prop := queueRunsUptoRow.holds Try.pinned (OpenSpec.upto queueRunsSpec)

end Rows
end Go.Proofs.Ytglckhjkbgokaaa
