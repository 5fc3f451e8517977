/-
  NARROWER THAN 'FOR EVERY INPUT', by the rows' own cells (each row's printed sentence says how): ShaDoubles: laid · BlockHeads: laid · BlockChecks: laid · TxCoins: laid · TxIds: laid · TxLines: laid · BlockParts: laid · CoinBounds: laid · BlockWrites: laid · BlockReads: laid · CoinSums: laid · CoinTouched: laid.
  DERIVED. THE GIVEN ROWS OF THIS SEAT. 12 by the template 'for every input the law returns true; each argument reads behind the call as it read before'; 0 by the template 'total and deterministic' (their statements: YtclkgflficlmiaaDoorTotals.lean).
  GIVEN WITH THE SEED: the statements are not yours to turn. If you find one false, say at which input.
  Laid BY PROGRAM, IN A SANDBOX (cutbox-rows.mjs): the forced cells as the released guide's own fill.sh prints them over the translation 5f0fbe9e3d9886e7… (all of the seat's roots in one cut). By AI agents, Wed Nov 11 2026. No macro, syntax, notation, axiom, sorry.
-/
import Derived.Test.YtclkgflficlmiaaDoorChecked
import GoSem.Claim
import GoSem.ClaimJoined
import GoSem.ClaimMapViews
import Derived.JoinedTies
import Derived.KernelRfl
namespace Go.Proofs.YtclkgflficlmiaaDoor
/- THE CELL 'sum', in the pinned program and in every row, IS THE sha256 OF THE DUMP (.gsa) THAT YtclkgflficlmiaaDoorProg.lean LOADS. Nothing in Lean hashes anything: it is a label: what it is worth is what the hold of that sum in a sandbox is worth. -/
noncomputable def Tryd.pinned : Pinned := { name := "ytclkgflficlmiaadoor", sum := "5f0fbe9e3d9886e7b9b1917d87d91f55aec5b13ffa964c1819630e520ad308d4", checked := Tryd.checked }
namespace Rows
def none {H : Type} : Left H := { results := [], args := [] }

/- WHAT THE LISTED PACKAGE-LEVEL VARIABLES READ AS WHEN THE CALL BEGINS. Each datum BY PROGRAM (the guide's laid-datum.mjs) off the statement by which the dump's own 'gosem.cut.vars' lays the variable. In a bare row this is a premise. The card (YtclkgflficlmiaaDoorCards.lean) ties it to the program's text. -/
def laid_tailrace_sha_first {H : Type} : DataW H := .agg [.lit (.int .u32 1779033703), .lit (.int .u32 3144134277), .lit (.int .u32 1013904242), .lit (.int .u32 2773480762), .lit (.int .u32 1359893119), .lit (.int .u32 2600822924), .lit (.int .u32 528734635), .lit (.int .u32 1541459225)]
def laid_tailrace_sha_adds {H : Type} : DataW H := .agg [.lit (.int .u32 1116352408), .lit (.int .u32 1899447441), .lit (.int .u32 3049323471), .lit (.int .u32 3921009573), .lit (.int .u32 961987163), .lit (.int .u32 1508970993), .lit (.int .u32 2453635748), .lit (.int .u32 2870763221), .lit (.int .u32 3624381080), .lit (.int .u32 310598401), .lit (.int .u32 607225278), .lit (.int .u32 1426881987), .lit (.int .u32 1925078388), .lit (.int .u32 2162078206), .lit (.int .u32 2614888103), .lit (.int .u32 3248222580), .lit (.int .u32 3835390401), .lit (.int .u32 4022224774), .lit (.int .u32 264347078), .lit (.int .u32 604807628), .lit (.int .u32 770255983), .lit (.int .u32 1249150122), .lit (.int .u32 1555081692), .lit (.int .u32 1996064986), .lit (.int .u32 2554220882), .lit (.int .u32 2821834349), .lit (.int .u32 2952996808), .lit (.int .u32 3210313671), .lit (.int .u32 3336571891), .lit (.int .u32 3584528711), .lit (.int .u32 113926993), .lit (.int .u32 338241895), .lit (.int .u32 666307205), .lit (.int .u32 773529912), .lit (.int .u32 1294757372), .lit (.int .u32 1396182291), .lit (.int .u32 1695183700), .lit (.int .u32 1986661051), .lit (.int .u32 2177026350), .lit (.int .u32 2456956037), .lit (.int .u32 2730485921), .lit (.int .u32 2820302411), .lit (.int .u32 3259730800), .lit (.int .u32 3345764771), .lit (.int .u32 3516065817), .lit (.int .u32 3600352804), .lit (.int .u32 4094571909), .lit (.int .u32 275423344), .lit (.int .u32 430227734), .lit (.int .u32 506948616), .lit (.int .u32 659060556), .lit (.int .u32 883997877), .lit (.int .u32 958139571), .lit (.int .u32 1322822218), .lit (.int .u32 1537002063), .lit (.int .u32 1747873779), .lit (.int .u32 1955562222), .lit (.int .u32 2024104815), .lit (.int .u32 2227730452), .lit (.int .u32 2361852424), .lit (.int .u32 2428436474), .lit (.int .u32 2756734187), .lit (.int .u32 3204031479), .lit (.int .u32 3329325298)]
def laid_tailrace_tx_nowhere {H : Type} : DataW H := .agg [.agg [.lit (.int .u8 0), .lit (.int .u8 0), .lit (.int .u8 0), .lit (.int .u8 0), .lit (.int .u8 0), .lit (.int .u8 0), .lit (.int .u8 0), .lit (.int .u8 0), .lit (.int .u8 0), .lit (.int .u8 0), .lit (.int .u8 0), .lit (.int .u8 0), .lit (.int .u8 0), .lit (.int .u8 0), .lit (.int .u8 0), .lit (.int .u8 0), .lit (.int .u8 0), .lit (.int .u8 0), .lit (.int .u8 0), .lit (.int .u8 0), .lit (.int .u8 0), .lit (.int .u8 0), .lit (.int .u8 0), .lit (.int .u8 0), .lit (.int .u8 0), .lit (.int .u8 0), .lit (.int .u8 0), .lit (.int .u8 0), .lit (.int .u8 0), .lit (.int .u8 0), .lit (.int .u8 0), .lit (.int .u8 0)], .lit (.int .u32 4294967295)]

/-- 'tailracelaw03.ShaDoubles': WHATEVER THE INPUT: true; the input reads as it did. -/
def shaDoublesSpec : ChangeSpec := { name := "shaDoubles", fn := fun _ => fun
  | [d1, d2, d3] => { results := [.lit (.bool true)], args := [d1, d2, d3] }
  | _ => none }
def shaDoublesRow : OpenClaim := { program := "ytclkgflficlmiaadoor", sum := "5f0fbe9e3d9886e7b9b1917d87d91f55aec5b13ffa964c1819630e520ad308d4", func := "tailrace/tailracelaw03.ShaDoubles", spec := "shaDoubles", named := ["tailrace/sha.first", "tailrace/sha.adds"], plainKeys := false, apart := false, laid := [("tailrace/sha.first", laid_tailrace_sha_first), ("tailrace/sha.adds", laid_tailrace_sha_adds)] }
def ShaDoublesSaid : Prop := shaDoublesRow.holds Tryd.pinned (OpenSpec.ofChange shaDoublesSpec)

/-- ITS FALSE NEIGHBOUR: 'it returns false'. Refute it at one input. -/
def shaDoublesWrong : ChangeSpec := { name := "shaDoubles", fn := fun _ => fun
  | [d1, d2, d3] => { results := [.lit (.bool false)], args := [d1, d2, d3] }
  | _ => none }
def ShaDoublesWrongFalsely : Prop := shaDoublesRow.holds Tryd.pinned (OpenSpec.ofChange shaDoublesWrong)

/-- 'tailracelaw08.BlockHeads': WHATEVER THE INPUT: true; the input reads as it did. -/
def blockHeadsSpec : ChangeSpec := { name := "blockHeads", fn := fun _ => fun
  | [d1, d2, d3] => { results := [.lit (.bool true)], args := [d1, d2, d3] }
  | _ => none }
def blockHeadsRow : OpenClaim := { program := "ytclkgflficlmiaadoor", sum := "5f0fbe9e3d9886e7b9b1917d87d91f55aec5b13ffa964c1819630e520ad308d4", func := "tailrace/tailracelaw08.BlockHeads", spec := "blockHeads", named := ["tailrace/sha.first", "tailrace/sha.adds"], plainKeys := false, apart := false, laid := [("tailrace/sha.first", laid_tailrace_sha_first), ("tailrace/sha.adds", laid_tailrace_sha_adds)] }
def BlockHeadsSaid : Prop := blockHeadsRow.holds Tryd.pinned (OpenSpec.ofChange blockHeadsSpec)

/-- ITS FALSE NEIGHBOUR: 'it returns false'. Refute it at one input. -/
def blockHeadsWrong : ChangeSpec := { name := "blockHeads", fn := fun _ => fun
  | [d1, d2, d3] => { results := [.lit (.bool false)], args := [d1, d2, d3] }
  | _ => none }
def BlockHeadsWrongFalsely : Prop := blockHeadsRow.holds Tryd.pinned (OpenSpec.ofChange blockHeadsWrong)

/-- 'tailracelaw08.BlockChecks': WHATEVER THE INPUT: true; the input reads as it did. -/
def blockChecksSpec : ChangeSpec := { name := "blockChecks", fn := fun _ => fun
  | [d] => { results := [.lit (.bool true)], args := [d] }
  | _ => none }
def blockChecksRow : OpenClaim := { program := "ytclkgflficlmiaadoor", sum := "5f0fbe9e3d9886e7b9b1917d87d91f55aec5b13ffa964c1819630e520ad308d4", func := "tailrace/tailracelaw08.BlockChecks", spec := "blockChecks", named := ["tailrace/sha.first", "tailrace/sha.adds", "tailrace/tx.nowhere"], plainKeys := false, apart := false, laid := [("tailrace/sha.first", laid_tailrace_sha_first), ("tailrace/sha.adds", laid_tailrace_sha_adds), ("tailrace/tx.nowhere", laid_tailrace_tx_nowhere)] }
def BlockChecksSaid : Prop := blockChecksRow.holds Tryd.pinned (OpenSpec.ofChange blockChecksSpec)

/-- ITS FALSE NEIGHBOUR: 'it returns false'. Refute it at one input. -/
def blockChecksWrong : ChangeSpec := { name := "blockChecks", fn := fun _ => fun
  | [d] => { results := [.lit (.bool false)], args := [d] }
  | _ => none }
def BlockChecksWrongFalsely : Prop := blockChecksRow.holds Tryd.pinned (OpenSpec.ofChange blockChecksWrong)

/-- 'tailracelaw07.TxCoins': WHATEVER THE INPUT: true; the input reads as it did. -/
def txCoinsSpec : ChangeSpec := { name := "txCoins", fn := fun _ => fun
  | [d] => { results := [.lit (.bool true)], args := [d] }
  | _ => none }
def txCoinsRow : OpenClaim := { program := "ytclkgflficlmiaadoor", sum := "5f0fbe9e3d9886e7b9b1917d87d91f55aec5b13ffa964c1819630e520ad308d4", func := "tailrace/tailracelaw07.TxCoins", spec := "txCoins", named := ["tailrace/tx.nowhere"], plainKeys := false, apart := false, laid := [("tailrace/tx.nowhere", laid_tailrace_tx_nowhere)] }
def TxCoinsSaid : Prop := txCoinsRow.holds Tryd.pinned (OpenSpec.ofChange txCoinsSpec)

/-- ITS FALSE NEIGHBOUR: 'it returns false'. Refute it at one input. -/
def txCoinsWrong : ChangeSpec := { name := "txCoins", fn := fun _ => fun
  | [d] => { results := [.lit (.bool false)], args := [d] }
  | _ => none }
def TxCoinsWrongFalsely : Prop := txCoinsRow.holds Tryd.pinned (OpenSpec.ofChange txCoinsWrong)

/-- 'tailracelaw07.TxIds': WHATEVER THE INPUT: true; the input reads as it did. -/
def txIdsSpec : ChangeSpec := { name := "txIds", fn := fun _ => fun
  | [d1, d2] => { results := [.lit (.bool true)], args := [d1, d2] }
  | _ => none }
def txIdsRow : OpenClaim := { program := "ytclkgflficlmiaadoor", sum := "5f0fbe9e3d9886e7b9b1917d87d91f55aec5b13ffa964c1819630e520ad308d4", func := "tailrace/tailracelaw07.TxIds", spec := "txIds", named := ["tailrace/sha.first", "tailrace/sha.adds"], plainKeys := false, apart := false, laid := [("tailrace/sha.first", laid_tailrace_sha_first), ("tailrace/sha.adds", laid_tailrace_sha_adds)] }
def TxIdsSaid : Prop := txIdsRow.holds Tryd.pinned (OpenSpec.ofChange txIdsSpec)

/-- ITS FALSE NEIGHBOUR: 'it returns false'. Refute it at one input. -/
def txIdsWrong : ChangeSpec := { name := "txIds", fn := fun _ => fun
  | [d1, d2] => { results := [.lit (.bool false)], args := [d1, d2] }
  | _ => none }
def TxIdsWrongFalsely : Prop := txIdsRow.holds Tryd.pinned (OpenSpec.ofChange txIdsWrong)

/-- 'tailracelaw07.TxLines': WHATEVER THE INPUT: true; the input reads as it did. -/
def txLinesSpec : ChangeSpec := { name := "txLines", fn := fun _ => fun
  | [d] => { results := [.lit (.bool true)], args := [d] }
  | _ => none }
def txLinesRow : OpenClaim := { program := "ytclkgflficlmiaadoor", sum := "5f0fbe9e3d9886e7b9b1917d87d91f55aec5b13ffa964c1819630e520ad308d4", func := "tailrace/tailracelaw07.TxLines", spec := "txLines", named := ["tailrace/sha.first", "tailrace/sha.adds"], plainKeys := false, apart := false, laid := [("tailrace/sha.first", laid_tailrace_sha_first), ("tailrace/sha.adds", laid_tailrace_sha_adds)] }
def TxLinesSaid : Prop := txLinesRow.holds Tryd.pinned (OpenSpec.ofChange txLinesSpec)

/-- ITS FALSE NEIGHBOUR: 'it returns false'. Refute it at one input. -/
def txLinesWrong : ChangeSpec := { name := "txLines", fn := fun _ => fun
  | [d] => { results := [.lit (.bool false)], args := [d] }
  | _ => none }
def TxLinesWrongFalsely : Prop := txLinesRow.holds Tryd.pinned (OpenSpec.ofChange txLinesWrong)

/-- 'tailracelaw08.BlockParts': WHATEVER THE INPUT: true; the input reads as it did. -/
def blockPartsSpec : ChangeSpec := { name := "blockParts", fn := fun _ => fun
  | [d] => { results := [.lit (.bool true)], args := [d] }
  | _ => none }
def blockPartsRow : OpenClaim := { program := "ytclkgflficlmiaadoor", sum := "5f0fbe9e3d9886e7b9b1917d87d91f55aec5b13ffa964c1819630e520ad308d4", func := "tailrace/tailracelaw08.BlockParts", spec := "blockParts", named := ["tailrace/sha.first", "tailrace/sha.adds"], plainKeys := false, apart := false, laid := [("tailrace/sha.first", laid_tailrace_sha_first), ("tailrace/sha.adds", laid_tailrace_sha_adds)] }
def BlockPartsSaid : Prop := blockPartsRow.holds Tryd.pinned (OpenSpec.ofChange blockPartsSpec)

/-- ITS FALSE NEIGHBOUR: 'it returns false'. Refute it at one input. -/
def blockPartsWrong : ChangeSpec := { name := "blockParts", fn := fun _ => fun
  | [d] => { results := [.lit (.bool false)], args := [d] }
  | _ => none }
def BlockPartsWrongFalsely : Prop := blockPartsRow.holds Tryd.pinned (OpenSpec.ofChange blockPartsWrong)

/-- 'tailracelaw19.CoinBounds': WHATEVER THE INPUT: true; the input reads as it did. -/
def coinBoundsSpec : ChangeSpec := { name := "coinBounds", fn := fun _ => fun
  | [d1, d2, d3] => { results := [.lit (.bool true)], args := [d1, d2, d3] }
  | _ => none }
def coinBoundsRow : OpenClaim := { program := "ytclkgflficlmiaadoor", sum := "5f0fbe9e3d9886e7b9b1917d87d91f55aec5b13ffa964c1819630e520ad308d4", func := "tailrace/tailracelaw19.CoinBounds", spec := "coinBounds", unfollowed := true, recurses := true, named := ["tailrace/tx.nowhere", "tailrace/sha.first", "tailrace/sha.adds"], plainKeys := false, apart := false, laid := [("tailrace/sha.first", laid_tailrace_sha_first), ("tailrace/sha.adds", laid_tailrace_sha_adds), ("tailrace/tx.nowhere", laid_tailrace_tx_nowhere)] }
def CoinBoundsSaid : Prop := coinBoundsRow.holds Tryd.pinned (OpenSpec.ofChange coinBoundsSpec)

/-- ITS FALSE NEIGHBOUR: 'it returns false'. Refute it at one input. -/
def coinBoundsWrong : ChangeSpec := { name := "coinBounds", fn := fun _ => fun
  | [d1, d2, d3] => { results := [.lit (.bool false)], args := [d1, d2, d3] }
  | _ => none }
def CoinBoundsWrongFalsely : Prop := coinBoundsRow.holds Tryd.pinned (OpenSpec.ofChange coinBoundsWrong)

/-- 'tailracelaw08.BlockWrites': WHATEVER THE INPUT: true; the input reads as it did. -/
def blockWritesSpec : ChangeSpec := { name := "blockWrites", fn := fun _ => fun
  | [d1, d2] => { results := [.lit (.bool true)], args := [d1, d2] }
  | _ => none }
def blockWritesRow : OpenClaim := { program := "ytclkgflficlmiaadoor", sum := "5f0fbe9e3d9886e7b9b1917d87d91f55aec5b13ffa964c1819630e520ad308d4", func := "tailrace/tailracelaw08.BlockWrites", spec := "blockWrites", named := ["tailrace/sha.first", "tailrace/sha.adds"], plainKeys := false, apart := false, laid := [("tailrace/sha.first", laid_tailrace_sha_first), ("tailrace/sha.adds", laid_tailrace_sha_adds)] }
def BlockWritesSaid : Prop := blockWritesRow.holds Tryd.pinned (OpenSpec.ofChange blockWritesSpec)

/-- ITS FALSE NEIGHBOUR: 'it returns false'. Refute it at one input. -/
def blockWritesWrong : ChangeSpec := { name := "blockWrites", fn := fun _ => fun
  | [d1, d2] => { results := [.lit (.bool false)], args := [d1, d2] }
  | _ => none }
def BlockWritesWrongFalsely : Prop := blockWritesRow.holds Tryd.pinned (OpenSpec.ofChange blockWritesWrong)

/-- 'tailracelaw08.BlockReads': WHATEVER THE INPUT: true; the input reads as it did. -/
def blockReadsSpec : ChangeSpec := { name := "blockReads", fn := fun _ => fun
  | [d] => { results := [.lit (.bool true)], args := [d] }
  | _ => none }
def blockReadsRow : OpenClaim := { program := "ytclkgflficlmiaadoor", sum := "5f0fbe9e3d9886e7b9b1917d87d91f55aec5b13ffa964c1819630e520ad308d4", func := "tailrace/tailracelaw08.BlockReads", spec := "blockReads", named := ["tailrace/sha.first", "tailrace/sha.adds"], plainKeys := false, apart := false, laid := [("tailrace/sha.first", laid_tailrace_sha_first), ("tailrace/sha.adds", laid_tailrace_sha_adds)] }
def BlockReadsSaid : Prop := blockReadsRow.holds Tryd.pinned (OpenSpec.ofChange blockReadsSpec)

/-- ITS FALSE NEIGHBOUR: 'it returns false'. Refute it at one input. -/
def blockReadsWrong : ChangeSpec := { name := "blockReads", fn := fun _ => fun
  | [d] => { results := [.lit (.bool false)], args := [d] }
  | _ => none }
def BlockReadsWrongFalsely : Prop := blockReadsRow.holds Tryd.pinned (OpenSpec.ofChange blockReadsWrong)

/-- 'tailracelaw19.CoinSums': WHATEVER THE INPUT: true; the input reads as it did. -/
def coinSumsSpec : ChangeSpec := { name := "coinSums", fn := fun _ => fun
  | [d] => { results := [.lit (.bool true)], args := [d] }
  | _ => none }
def coinSumsRow : OpenClaim := { program := "ytclkgflficlmiaadoor", sum := "5f0fbe9e3d9886e7b9b1917d87d91f55aec5b13ffa964c1819630e520ad308d4", func := "tailrace/tailracelaw19.CoinSums", spec := "coinSums", unfollowed := true, recurses := true, named := ["tailrace/tx.nowhere", "tailrace/sha.first", "tailrace/sha.adds"], plainKeys := false, apart := false, laid := [("tailrace/sha.first", laid_tailrace_sha_first), ("tailrace/sha.adds", laid_tailrace_sha_adds), ("tailrace/tx.nowhere", laid_tailrace_tx_nowhere)] }
def CoinSumsSaid : Prop := coinSumsRow.holds Tryd.pinned (OpenSpec.ofChange coinSumsSpec)

/-- ITS FALSE NEIGHBOUR: 'it returns false'. Refute it at one input. -/
def coinSumsWrong : ChangeSpec := { name := "coinSums", fn := fun _ => fun
  | [d] => { results := [.lit (.bool false)], args := [d] }
  | _ => none }
def CoinSumsWrongFalsely : Prop := coinSumsRow.holds Tryd.pinned (OpenSpec.ofChange coinSumsWrong)

/-- 'tailracelaw19.CoinTouched': WHATEVER THE INPUT: true; the input reads as it did. -/
def coinTouchedSpec : ChangeSpec := { name := "coinTouched", fn := fun _ => fun
  | [d] => { results := [.lit (.bool true)], args := [d] }
  | _ => none }
def coinTouchedRow : OpenClaim := { program := "ytclkgflficlmiaadoor", sum := "5f0fbe9e3d9886e7b9b1917d87d91f55aec5b13ffa964c1819630e520ad308d4", func := "tailrace/tailracelaw19.CoinTouched", spec := "coinTouched", unfollowed := true, recurses := true, named := ["tailrace/tx.nowhere", "tailrace/sha.first", "tailrace/sha.adds"], plainKeys := false, apart := false, laid := [("tailrace/sha.first", laid_tailrace_sha_first), ("tailrace/sha.adds", laid_tailrace_sha_adds), ("tailrace/tx.nowhere", laid_tailrace_tx_nowhere)] }
def CoinTouchedSaid : Prop := coinTouchedRow.holds Tryd.pinned (OpenSpec.ofChange coinTouchedSpec)

/-- ITS FALSE NEIGHBOUR: 'it returns false'. Refute it at one input. -/
def coinTouchedWrong : ChangeSpec := { name := "coinTouched", fn := fun _ => fun
  | [d] => { results := [.lit (.bool false)], args := [d] }
  | _ => none }
def CoinTouchedWrongFalsely : Prop := coinTouchedRow.holds Tryd.pinned (OpenSpec.ofChange coinTouchedWrong)

/- THE SECOND FORM. 'bulk': how many values and letters a reading holds, each counted each time it is reached (what is shared counts as often as it is met; a slice's spare places count too). A statement '..UptoSaid' is the law's where the arguments, and the package variables that the reading takes, are together of bulk at most 1048576: NARROWER than '..Said'. Prove '..Said' where nothing that the law and all that it calls make is longer than what came in: it says more and counts as full. Else prove '..UptoSaid'. A law counts once. -/
mutual
def uptoBulk {H : Type} : DataW H → Nat
  | .lit (.string bytes) => bytes.length + 1
  | .lit _ => 1
  | .nil => 1
  | .ptr d => uptoBulk d + 1
  | .slice elems spare => uptoBulkAll elems + uptoBulkAll spare + 1
  | .agg parts => uptoBulkAll parts + 1
  | .iface _ d => uptoBulk d + 1
  | .map entries => uptoBulkEntries entries + 1
  | .held _ => 1
def uptoBulkAll {H : Type} : List (DataW H) → Nat
  | [] => 0
  | d :: r => uptoBulk d + uptoBulkAll r
def uptoBulkEntries {H : Type} : List (Lit × DataW H) → Nat
  | [] => 0
  | x :: r => uptoBulkEntry x + uptoBulkEntries r
def uptoBulkEntry {H : Type} : Lit × DataW H → Nat
  | (.string bytes, d) => bytes.length + uptoBulk d + 1
  | (_, d) => uptoBulk d + 1
 end
def uptoSmall : (H : Type) → List (DataW H) → Bool := fun _ ds => decide (uptoBulkAll ds ≤ 1048576)
def OpenSpec.upto (s : _root_.Go.ChangeSpec) : _root_.Go.OpenSpec := { _root_.Go.OpenSpec.ofChange s with cond := some uptoSmall }

/-- 'tailracelaw03.ShaDoubles', WHERE WHAT IT READS IS OF BULK AT MOST 1048576: true; the input reads as it did. -/
def shaDoublesUptoRow : OpenClaim := { program := "ytclkgflficlmiaadoor", sum := "5f0fbe9e3d9886e7b9b1917d87d91f55aec5b13ffa964c1819630e520ad308d4", func := "tailrace/tailracelaw03.ShaDoubles", spec := "shaDoubles", named := ["tailrace/sha.first", "tailrace/sha.adds"], plainKeys := false, apart := false, laid := [("tailrace/sha.first", laid_tailrace_sha_first), ("tailrace/sha.adds", laid_tailrace_sha_adds)], narrowed := true }
def ShaDoublesUptoSaid : Prop := shaDoublesUptoRow.holds Tryd.pinned (OpenSpec.upto shaDoublesSpec)

/-- 'tailracelaw08.BlockHeads', WHERE WHAT IT READS IS OF BULK AT MOST 1048576: true; the input reads as it did. -/
def blockHeadsUptoRow : OpenClaim := { program := "ytclkgflficlmiaadoor", sum := "5f0fbe9e3d9886e7b9b1917d87d91f55aec5b13ffa964c1819630e520ad308d4", func := "tailrace/tailracelaw08.BlockHeads", spec := "blockHeads", named := ["tailrace/sha.first", "tailrace/sha.adds"], plainKeys := false, apart := false, laid := [("tailrace/sha.first", laid_tailrace_sha_first), ("tailrace/sha.adds", laid_tailrace_sha_adds)], narrowed := true }
def BlockHeadsUptoSaid : Prop := blockHeadsUptoRow.holds Tryd.pinned (OpenSpec.upto blockHeadsSpec)

/-- 'tailracelaw08.BlockChecks', WHERE WHAT IT READS IS OF BULK AT MOST 1048576: true; the input reads as it did. -/
def blockChecksUptoRow : OpenClaim := { program := "ytclkgflficlmiaadoor", sum := "5f0fbe9e3d9886e7b9b1917d87d91f55aec5b13ffa964c1819630e520ad308d4", func := "tailrace/tailracelaw08.BlockChecks", spec := "blockChecks", named := ["tailrace/sha.first", "tailrace/sha.adds", "tailrace/tx.nowhere"], plainKeys := false, apart := false, laid := [("tailrace/sha.first", laid_tailrace_sha_first), ("tailrace/sha.adds", laid_tailrace_sha_adds), ("tailrace/tx.nowhere", laid_tailrace_tx_nowhere)], narrowed := true }
def BlockChecksUptoSaid : Prop := blockChecksUptoRow.holds Tryd.pinned (OpenSpec.upto blockChecksSpec)

/-- 'tailracelaw07.TxCoins', WHERE WHAT IT READS IS OF BULK AT MOST 1048576: true; the input reads as it did. -/
def txCoinsUptoRow : OpenClaim := { program := "ytclkgflficlmiaadoor", sum := "5f0fbe9e3d9886e7b9b1917d87d91f55aec5b13ffa964c1819630e520ad308d4", func := "tailrace/tailracelaw07.TxCoins", spec := "txCoins", named := ["tailrace/tx.nowhere"], plainKeys := false, apart := false, laid := [("tailrace/tx.nowhere", laid_tailrace_tx_nowhere)], narrowed := true }
def TxCoinsUptoSaid : Prop := txCoinsUptoRow.holds Tryd.pinned (OpenSpec.upto txCoinsSpec)

/-- 'tailracelaw07.TxIds', WHERE WHAT IT READS IS OF BULK AT MOST 1048576: true; the input reads as it did. -/
def txIdsUptoRow : OpenClaim := { program := "ytclkgflficlmiaadoor", sum := "5f0fbe9e3d9886e7b9b1917d87d91f55aec5b13ffa964c1819630e520ad308d4", func := "tailrace/tailracelaw07.TxIds", spec := "txIds", named := ["tailrace/sha.first", "tailrace/sha.adds"], plainKeys := false, apart := false, laid := [("tailrace/sha.first", laid_tailrace_sha_first), ("tailrace/sha.adds", laid_tailrace_sha_adds)], narrowed := true }
def TxIdsUptoSaid : Prop := txIdsUptoRow.holds Tryd.pinned (OpenSpec.upto txIdsSpec)

/-- 'tailracelaw07.TxLines', WHERE WHAT IT READS IS OF BULK AT MOST 1048576: true; the input reads as it did. -/
def txLinesUptoRow : OpenClaim := { program := "ytclkgflficlmiaadoor", sum := "5f0fbe9e3d9886e7b9b1917d87d91f55aec5b13ffa964c1819630e520ad308d4", func := "tailrace/tailracelaw07.TxLines", spec := "txLines", named := ["tailrace/sha.first", "tailrace/sha.adds"], plainKeys := false, apart := false, laid := [("tailrace/sha.first", laid_tailrace_sha_first), ("tailrace/sha.adds", laid_tailrace_sha_adds)], narrowed := true }
def TxLinesUptoSaid : Prop := txLinesUptoRow.holds Tryd.pinned (OpenSpec.upto txLinesSpec)

/-- 'tailracelaw08.BlockParts', WHERE WHAT IT READS IS OF BULK AT MOST 1048576: true; the input reads as it did. -/
def blockPartsUptoRow : OpenClaim := { program := "ytclkgflficlmiaadoor", sum := "5f0fbe9e3d9886e7b9b1917d87d91f55aec5b13ffa964c1819630e520ad308d4", func := "tailrace/tailracelaw08.BlockParts", spec := "blockParts", named := ["tailrace/sha.first", "tailrace/sha.adds"], plainKeys := false, apart := false, laid := [("tailrace/sha.first", laid_tailrace_sha_first), ("tailrace/sha.adds", laid_tailrace_sha_adds)], narrowed := true }
def BlockPartsUptoSaid : Prop := blockPartsUptoRow.holds Tryd.pinned (OpenSpec.upto blockPartsSpec)

/-- 'tailracelaw19.CoinBounds', WHERE WHAT IT READS IS OF BULK AT MOST 1048576: true; the input reads as it did. -/
def coinBoundsUptoRow : OpenClaim := { program := "ytclkgflficlmiaadoor", sum := "5f0fbe9e3d9886e7b9b1917d87d91f55aec5b13ffa964c1819630e520ad308d4", func := "tailrace/tailracelaw19.CoinBounds", spec := "coinBounds", unfollowed := true, recurses := true, named := ["tailrace/tx.nowhere", "tailrace/sha.first", "tailrace/sha.adds"], plainKeys := false, apart := false, laid := [("tailrace/sha.first", laid_tailrace_sha_first), ("tailrace/sha.adds", laid_tailrace_sha_adds), ("tailrace/tx.nowhere", laid_tailrace_tx_nowhere)], narrowed := true }
def CoinBoundsUptoSaid : Prop := coinBoundsUptoRow.holds Tryd.pinned (OpenSpec.upto coinBoundsSpec)

/-- 'tailracelaw08.BlockWrites', WHERE WHAT IT READS IS OF BULK AT MOST 1048576: true; the input reads as it did. -/
def blockWritesUptoRow : OpenClaim := { program := "ytclkgflficlmiaadoor", sum := "5f0fbe9e3d9886e7b9b1917d87d91f55aec5b13ffa964c1819630e520ad308d4", func := "tailrace/tailracelaw08.BlockWrites", spec := "blockWrites", named := ["tailrace/sha.first", "tailrace/sha.adds"], plainKeys := false, apart := false, laid := [("tailrace/sha.first", laid_tailrace_sha_first), ("tailrace/sha.adds", laid_tailrace_sha_adds)], narrowed := true }
def BlockWritesUptoSaid : Prop := blockWritesUptoRow.holds Tryd.pinned (OpenSpec.upto blockWritesSpec)

/-- 'tailracelaw08.BlockReads', WHERE WHAT IT READS IS OF BULK AT MOST 1048576: true; the input reads as it did. -/
def blockReadsUptoRow : OpenClaim := { program := "ytclkgflficlmiaadoor", sum := "5f0fbe9e3d9886e7b9b1917d87d91f55aec5b13ffa964c1819630e520ad308d4", func := "tailrace/tailracelaw08.BlockReads", spec := "blockReads", named := ["tailrace/sha.first", "tailrace/sha.adds"], plainKeys := false, apart := false, laid := [("tailrace/sha.first", laid_tailrace_sha_first), ("tailrace/sha.adds", laid_tailrace_sha_adds)], narrowed := true }
def BlockReadsUptoSaid : Prop := blockReadsUptoRow.holds Tryd.pinned (OpenSpec.upto blockReadsSpec)

/-- 'tailracelaw19.CoinSums', WHERE WHAT IT READS IS OF BULK AT MOST 1048576: true; the input reads as it did. -/
def coinSumsUptoRow : OpenClaim := { program := "ytclkgflficlmiaadoor", sum := "5f0fbe9e3d9886e7b9b1917d87d91f55aec5b13ffa964c1819630e520ad308d4", func := "tailrace/tailracelaw19.CoinSums", spec := "coinSums", unfollowed := true, recurses := true, named := ["tailrace/tx.nowhere", "tailrace/sha.first", "tailrace/sha.adds"], plainKeys := false, apart := false, laid := [("tailrace/sha.first", laid_tailrace_sha_first), ("tailrace/sha.adds", laid_tailrace_sha_adds), ("tailrace/tx.nowhere", laid_tailrace_tx_nowhere)], narrowed := true }
def CoinSumsUptoSaid : Prop := coinSumsUptoRow.holds Tryd.pinned (OpenSpec.upto coinSumsSpec)

/-- 'tailracelaw19.CoinTouched', WHERE WHAT IT READS IS OF BULK AT MOST 1048576: true; the input reads as it did. -/
def coinTouchedUptoRow : OpenClaim := { program := "ytclkgflficlmiaadoor", sum := "5f0fbe9e3d9886e7b9b1917d87d91f55aec5b13ffa964c1819630e520ad308d4", func := "tailrace/tailracelaw19.CoinTouched", spec := "coinTouched", unfollowed := true, recurses := true, named := ["tailrace/tx.nowhere", "tailrace/sha.first", "tailrace/sha.adds"], plainKeys := false, apart := false, laid := [("tailrace/sha.first", laid_tailrace_sha_first), ("tailrace/sha.adds", laid_tailrace_sha_adds), ("tailrace/tx.nowhere", laid_tailrace_tx_nowhere)], narrowed := true }
def CoinTouchedUptoSaid : Prop := coinTouchedUptoRow.holds Tryd.pinned (OpenSpec.upto coinTouchedSpec)

end Rows
end Go.Proofs.YtclkgflficlmiaaDoor
