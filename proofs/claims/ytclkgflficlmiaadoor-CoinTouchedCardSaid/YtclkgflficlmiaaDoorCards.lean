/-
  DERIVED. GIVEN WITH THE SEED: THE CARDS: each row of YtclkgflficlmiaaDoorRows.lean that lists a variable, with what it lists TIED to the program's text (the seventh form; the later family's looks); each row that meets fmt, with fmt's text TOLD by the authors' own Lean function (tested against real Go, not proved from fmt's source: count such statements apart). THE CARD IS WHAT COUNTS. Prove the row's statement (the work); the ties are given (YtclkgflficlmiaaDoorTie.lean); close each card by the builder's one call (the guide's Derived/Test/ToyasCard.lean, 'card_holds'). Laid BY PROGRAM, IN A SANDBOX (cutbox-door.mjs). By AI agents, Wed Nov 11 2026. No macro, syntax, notation, axiom, sorry.
-/
import Derived.Test.YtclkgflficlmiaaDoorRows
import GoSem.ClaimSeven
namespace Go.Proofs.YtclkgflficlmiaaDoor
namespace Rows

/-- THE TIED CARD OF 'tailracelaw03.ShaDoubles'. -/
def shaDoublesCard : Claim7 := { stood := { row := shaDoublesRow, standIns := [], harness := (true, "df560059e75fe0724ab6387cc22a01b0a7dfa19b4504123e5cac5a4c1289a75b"), looks := false }, kinds := [], alts := [], laidByText := true, laidKinds := [.data, .data], laidTests := true, laidLooks := .later }
def ShaDoublesCardSaid : Prop := Claim7.holds Tryd.pinned (.plain (OpenSpec.ofChange shaDoublesSpec)) shaDoublesCard

/-- THE TIED CARD OF 'tailracelaw08.BlockHeads'. -/
def blockHeadsCard : Claim7 := { stood := { row := blockHeadsRow, standIns := [], harness := (true, "df560059e75fe0724ab6387cc22a01b0a7dfa19b4504123e5cac5a4c1289a75b"), looks := false }, kinds := [], alts := [], laidByText := true, laidKinds := [.data, .data], laidTests := true, laidLooks := .later }
def BlockHeadsCardSaid : Prop := Claim7.holds Tryd.pinned (.plain (OpenSpec.ofChange blockHeadsSpec)) blockHeadsCard

/-- THE TIED CARD OF 'tailracelaw08.BlockChecks'. -/
def blockChecksCard : Claim7 := { stood := { row := blockChecksRow, standIns := [], harness := (true, "df560059e75fe0724ab6387cc22a01b0a7dfa19b4504123e5cac5a4c1289a75b"), looks := false }, kinds := [], alts := [], laidByText := true, laidKinds := [.data, .data, .data], laidTests := true, laidLooks := .later }
def BlockChecksCardSaid : Prop := Claim7.holds Tryd.pinned (.plain (OpenSpec.ofChange blockChecksSpec)) blockChecksCard

/-- THE TIED CARD OF 'tailracelaw07.TxCoins'. -/
def txCoinsCard : Claim7 := { stood := { row := txCoinsRow, standIns := [], harness := (true, "df560059e75fe0724ab6387cc22a01b0a7dfa19b4504123e5cac5a4c1289a75b"), looks := false }, kinds := [], alts := [], laidByText := true, laidKinds := [.data], laidTests := true, laidLooks := .later }
def TxCoinsCardSaid : Prop := Claim7.holds Tryd.pinned (.plain (OpenSpec.ofChange txCoinsSpec)) txCoinsCard

/-- THE TIED CARD OF 'tailracelaw07.TxIds'. -/
def txIdsCard : Claim7 := { stood := { row := txIdsRow, standIns := [], harness := (true, "df560059e75fe0724ab6387cc22a01b0a7dfa19b4504123e5cac5a4c1289a75b"), looks := false }, kinds := [], alts := [], laidByText := true, laidKinds := [.data, .data], laidTests := true, laidLooks := .later }
def TxIdsCardSaid : Prop := Claim7.holds Tryd.pinned (.plain (OpenSpec.ofChange txIdsSpec)) txIdsCard

/-- THE TIED CARD OF 'tailracelaw07.TxLines'. -/
def txLinesCard : Claim7 := { stood := { row := txLinesRow, standIns := [], harness := (true, "df560059e75fe0724ab6387cc22a01b0a7dfa19b4504123e5cac5a4c1289a75b"), looks := false }, kinds := [], alts := [], laidByText := true, laidKinds := [.data, .data], laidTests := true, laidLooks := .later }
def TxLinesCardSaid : Prop := Claim7.holds Tryd.pinned (.plain (OpenSpec.ofChange txLinesSpec)) txLinesCard

/-- THE TIED CARD OF 'tailracelaw08.BlockParts'. -/
def blockPartsCard : Claim7 := { stood := { row := blockPartsRow, standIns := [], harness := (true, "df560059e75fe0724ab6387cc22a01b0a7dfa19b4504123e5cac5a4c1289a75b"), looks := false }, kinds := [], alts := [], laidByText := true, laidKinds := [.data, .data], laidTests := true, laidLooks := .later }
def BlockPartsCardSaid : Prop := Claim7.holds Tryd.pinned (.plain (OpenSpec.ofChange blockPartsSpec)) blockPartsCard

/-- THE TIED CARD OF 'tailracelaw19.CoinBounds'. -/
def coinBoundsCard : Claim7 := { stood := { row := coinBoundsRow, standIns := [], harness := (true, "df560059e75fe0724ab6387cc22a01b0a7dfa19b4504123e5cac5a4c1289a75b"), looks := false }, kinds := [], alts := [], laidByText := true, laidKinds := [.data, .data, .data], laidTests := true, laidLooks := .later }
def CoinBoundsCardSaid : Prop := Claim7.holds Tryd.pinned (.plain (OpenSpec.ofChange coinBoundsSpec)) coinBoundsCard

/-- THE TIED CARD OF 'tailracelaw08.BlockWrites'. -/
def blockWritesCard : Claim7 := { stood := { row := blockWritesRow, standIns := [], harness := (true, "df560059e75fe0724ab6387cc22a01b0a7dfa19b4504123e5cac5a4c1289a75b"), looks := false }, kinds := [], alts := [], laidByText := true, laidKinds := [.data, .data], laidTests := true, laidLooks := .later }
def BlockWritesCardSaid : Prop := Claim7.holds Tryd.pinned (.plain (OpenSpec.ofChange blockWritesSpec)) blockWritesCard

/-- THE TIED CARD OF 'tailracelaw08.BlockReads'. -/
def blockReadsCard : Claim7 := { stood := { row := blockReadsRow, standIns := [], harness := (true, "df560059e75fe0724ab6387cc22a01b0a7dfa19b4504123e5cac5a4c1289a75b"), looks := false }, kinds := [], alts := [], laidByText := true, laidKinds := [.data, .data], laidTests := true, laidLooks := .later }
def BlockReadsCardSaid : Prop := Claim7.holds Tryd.pinned (.plain (OpenSpec.ofChange blockReadsSpec)) blockReadsCard

/-- THE TIED CARD OF 'tailracelaw19.CoinSums'. -/
def coinSumsCard : Claim7 := { stood := { row := coinSumsRow, standIns := [], harness := (true, "df560059e75fe0724ab6387cc22a01b0a7dfa19b4504123e5cac5a4c1289a75b"), looks := false }, kinds := [], alts := [], laidByText := true, laidKinds := [.data, .data, .data], laidTests := true, laidLooks := .later }
def CoinSumsCardSaid : Prop := Claim7.holds Tryd.pinned (.plain (OpenSpec.ofChange coinSumsSpec)) coinSumsCard

/-- THE TIED CARD OF 'tailracelaw19.CoinTouched'. -/
def coinTouchedCard : Claim7 := { stood := { row := coinTouchedRow, standIns := [], harness := (true, "df560059e75fe0724ab6387cc22a01b0a7dfa19b4504123e5cac5a4c1289a75b"), looks := false }, kinds := [], alts := [], laidByText := true, laidKinds := [.data, .data, .data], laidTests := true, laidLooks := .later }
def CoinTouchedCardSaid : Prop := Claim7.holds Tryd.pinned (.plain (OpenSpec.ofChange coinTouchedSpec)) coinTouchedCard

/-- THE SECOND FORM's CARD OF 'tailracelaw03.ShaDoubles'. -/
def shaDoublesUptoCard : Claim7 := { stood := { row := shaDoublesUptoRow, standIns := [], harness := (true, "df560059e75fe0724ab6387cc22a01b0a7dfa19b4504123e5cac5a4c1289a75b"), looks := false }, kinds := [], alts := [], laidByText := true, laidKinds := [.data, .data], laidTests := true, laidLooks := .later }
def ShaDoublesUptoCardSaid : Prop := Claim7.holds Tryd.pinned (.plain (OpenSpec.upto shaDoublesSpec)) shaDoublesUptoCard

/-- THE SECOND FORM's CARD OF 'tailracelaw08.BlockHeads'. -/
def blockHeadsUptoCard : Claim7 := { stood := { row := blockHeadsUptoRow, standIns := [], harness := (true, "df560059e75fe0724ab6387cc22a01b0a7dfa19b4504123e5cac5a4c1289a75b"), looks := false }, kinds := [], alts := [], laidByText := true, laidKinds := [.data, .data], laidTests := true, laidLooks := .later }
def BlockHeadsUptoCardSaid : Prop := Claim7.holds Tryd.pinned (.plain (OpenSpec.upto blockHeadsSpec)) blockHeadsUptoCard

/-- THE SECOND FORM's CARD OF 'tailracelaw08.BlockChecks'. -/
def blockChecksUptoCard : Claim7 := { stood := { row := blockChecksUptoRow, standIns := [], harness := (true, "df560059e75fe0724ab6387cc22a01b0a7dfa19b4504123e5cac5a4c1289a75b"), looks := false }, kinds := [], alts := [], laidByText := true, laidKinds := [.data, .data, .data], laidTests := true, laidLooks := .later }
def BlockChecksUptoCardSaid : Prop := Claim7.holds Tryd.pinned (.plain (OpenSpec.upto blockChecksSpec)) blockChecksUptoCard

/-- THE SECOND FORM's CARD OF 'tailracelaw07.TxCoins'. -/
def txCoinsUptoCard : Claim7 := { stood := { row := txCoinsUptoRow, standIns := [], harness := (true, "df560059e75fe0724ab6387cc22a01b0a7dfa19b4504123e5cac5a4c1289a75b"), looks := false }, kinds := [], alts := [], laidByText := true, laidKinds := [.data], laidTests := true, laidLooks := .later }
def TxCoinsUptoCardSaid : Prop := Claim7.holds Tryd.pinned (.plain (OpenSpec.upto txCoinsSpec)) txCoinsUptoCard

/-- THE SECOND FORM's CARD OF 'tailracelaw07.TxIds'. -/
def txIdsUptoCard : Claim7 := { stood := { row := txIdsUptoRow, standIns := [], harness := (true, "df560059e75fe0724ab6387cc22a01b0a7dfa19b4504123e5cac5a4c1289a75b"), looks := false }, kinds := [], alts := [], laidByText := true, laidKinds := [.data, .data], laidTests := true, laidLooks := .later }
def TxIdsUptoCardSaid : Prop := Claim7.holds Tryd.pinned (.plain (OpenSpec.upto txIdsSpec)) txIdsUptoCard

/-- THE SECOND FORM's CARD OF 'tailracelaw07.TxLines'. -/
def txLinesUptoCard : Claim7 := { stood := { row := txLinesUptoRow, standIns := [], harness := (true, "df560059e75fe0724ab6387cc22a01b0a7dfa19b4504123e5cac5a4c1289a75b"), looks := false }, kinds := [], alts := [], laidByText := true, laidKinds := [.data, .data], laidTests := true, laidLooks := .later }
def TxLinesUptoCardSaid : Prop := Claim7.holds Tryd.pinned (.plain (OpenSpec.upto txLinesSpec)) txLinesUptoCard

/-- THE SECOND FORM's CARD OF 'tailracelaw08.BlockParts'. -/
def blockPartsUptoCard : Claim7 := { stood := { row := blockPartsUptoRow, standIns := [], harness := (true, "df560059e75fe0724ab6387cc22a01b0a7dfa19b4504123e5cac5a4c1289a75b"), looks := false }, kinds := [], alts := [], laidByText := true, laidKinds := [.data, .data], laidTests := true, laidLooks := .later }
def BlockPartsUptoCardSaid : Prop := Claim7.holds Tryd.pinned (.plain (OpenSpec.upto blockPartsSpec)) blockPartsUptoCard

/-- THE SECOND FORM's CARD OF 'tailracelaw19.CoinBounds'. -/
def coinBoundsUptoCard : Claim7 := { stood := { row := coinBoundsUptoRow, standIns := [], harness := (true, "df560059e75fe0724ab6387cc22a01b0a7dfa19b4504123e5cac5a4c1289a75b"), looks := false }, kinds := [], alts := [], laidByText := true, laidKinds := [.data, .data, .data], laidTests := true, laidLooks := .later }
def CoinBoundsUptoCardSaid : Prop := Claim7.holds Tryd.pinned (.plain (OpenSpec.upto coinBoundsSpec)) coinBoundsUptoCard

/-- THE SECOND FORM's CARD OF 'tailracelaw08.BlockWrites'. -/
def blockWritesUptoCard : Claim7 := { stood := { row := blockWritesUptoRow, standIns := [], harness := (true, "df560059e75fe0724ab6387cc22a01b0a7dfa19b4504123e5cac5a4c1289a75b"), looks := false }, kinds := [], alts := [], laidByText := true, laidKinds := [.data, .data], laidTests := true, laidLooks := .later }
def BlockWritesUptoCardSaid : Prop := Claim7.holds Tryd.pinned (.plain (OpenSpec.upto blockWritesSpec)) blockWritesUptoCard

/-- THE SECOND FORM's CARD OF 'tailracelaw08.BlockReads'. -/
def blockReadsUptoCard : Claim7 := { stood := { row := blockReadsUptoRow, standIns := [], harness := (true, "df560059e75fe0724ab6387cc22a01b0a7dfa19b4504123e5cac5a4c1289a75b"), looks := false }, kinds := [], alts := [], laidByText := true, laidKinds := [.data, .data], laidTests := true, laidLooks := .later }
def BlockReadsUptoCardSaid : Prop := Claim7.holds Tryd.pinned (.plain (OpenSpec.upto blockReadsSpec)) blockReadsUptoCard

/-- THE SECOND FORM's CARD OF 'tailracelaw19.CoinSums'. -/
def coinSumsUptoCard : Claim7 := { stood := { row := coinSumsUptoRow, standIns := [], harness := (true, "df560059e75fe0724ab6387cc22a01b0a7dfa19b4504123e5cac5a4c1289a75b"), looks := false }, kinds := [], alts := [], laidByText := true, laidKinds := [.data, .data, .data], laidTests := true, laidLooks := .later }
def CoinSumsUptoCardSaid : Prop := Claim7.holds Tryd.pinned (.plain (OpenSpec.upto coinSumsSpec)) coinSumsUptoCard

/-- THE SECOND FORM's CARD OF 'tailracelaw19.CoinTouched'. -/
def coinTouchedUptoCard : Claim7 := { stood := { row := coinTouchedUptoRow, standIns := [], harness := (true, "df560059e75fe0724ab6387cc22a01b0a7dfa19b4504123e5cac5a4c1289a75b"), looks := false }, kinds := [], alts := [], laidByText := true, laidKinds := [.data, .data, .data], laidTests := true, laidLooks := .later }
def CoinTouchedUptoCardSaid : Prop := Claim7.holds Tryd.pinned (.plain (OpenSpec.upto coinTouchedSpec)) coinTouchedUptoCard
end Rows
end Go.Proofs.YtclkgflficlmiaaDoor
