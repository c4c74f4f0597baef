/-
  DERIVED. GIVEN WITH THE SEED: THE CARDS: each row of YtlgnogpjmdhflaaDoorRows.lean that lists a variable, with what it lists TIED to the program's text (the seventh form; the later family's looks); each row that meets fmt, with fmt's text TOLD by the authors' own Lean function (tested against real Go, not proved from fmt's source: count such statements apart). THE CARD IS WHAT COUNTS. Prove the row's statement (the work); the ties are given (YtlgnogpjmdhflaaDoorTie.lean); close each card by the builder's one call (the guide's Derived/Test/ToyasCard.lean, 'card_holds'). Laid BY PROGRAM, IN A SANDBOX (cutbox-door.mjs). By AI agents, Wed Nov 11 2026. No macro, syntax, notation, axiom, sorry.
-/
import Derived.Test.YtlgnogpjmdhflaaDoorRows
import GoSem.ClaimSeven
namespace Go.Proofs.YtlgnogpjmdhflaaDoor
namespace Rows

/-- THE TIED CARD OF 'stratagemlaw19.TreeTells'. -/
def treeTellsCard : Claim7 := { stood := { row := treeTellsRow, standIns := [], harness := (true, "61b60da6c5531bbff87360cfe078914490197ec4f2856eab97442ebd4dcc5315"), looks := false }, kinds := [], alts := [], laidByText := true, laidKinds := [.data, .data, .data], laidTests := true, laidLooks := .later }
def TreeTellsCardSaid : Prop := Claim7.holds Tryd.pinned (.plain (OpenSpec.ofChange treeTellsSpec)) treeTellsCard

/-- THE TIED CARD OF 'stratagemlaw19.TreeShares'. -/
def treeSharesCard : Claim7 := { stood := { row := treeSharesRow, standIns := [], harness := (true, "61b60da6c5531bbff87360cfe078914490197ec4f2856eab97442ebd4dcc5315"), looks := false }, kinds := [], alts := [], laidByText := true, laidKinds := [.data, .data, .data], laidTests := true, laidLooks := .later }
def TreeSharesCardSaid : Prop := Claim7.holds Tryd.pinned (.plain (OpenSpec.ofChange treeSharesSpec)) treeSharesCard

/-- THE TIED CARD OF 'stratagemlaw19.TreeSame'. -/
def treeSameCard : Claim7 := { stood := { row := treeSameRow, standIns := [], harness := (true, "61b60da6c5531bbff87360cfe078914490197ec4f2856eab97442ebd4dcc5315"), looks := false }, kinds := [], alts := [], laidByText := true, laidKinds := [.data, .data, .data], laidTests := true, laidLooks := .later }
def TreeSameCardSaid : Prop := Claim7.holds Tryd.pinned (.plain (OpenSpec.ofChange treeSameSpec)) treeSameCard

/-- THE SECOND FORM's CARD OF 'stratagemlaw19.TreeTells'. -/
def treeTellsUptoCard : Claim7 := { stood := { row := treeTellsUptoRow, standIns := [], harness := (true, "61b60da6c5531bbff87360cfe078914490197ec4f2856eab97442ebd4dcc5315"), looks := false }, kinds := [], alts := [], laidByText := true, laidKinds := [.data, .data, .data], laidTests := true, laidLooks := .later }
def TreeTellsUptoCardSaid : Prop := Claim7.holds Tryd.pinned (.plain (OpenSpec.upto treeTellsSpec)) treeTellsUptoCard

/-- THE SECOND FORM's CARD OF 'stratagemlaw19.TreeShares'. -/
def treeSharesUptoCard : Claim7 := { stood := { row := treeSharesUptoRow, standIns := [], harness := (true, "61b60da6c5531bbff87360cfe078914490197ec4f2856eab97442ebd4dcc5315"), looks := false }, kinds := [], alts := [], laidByText := true, laidKinds := [.data, .data, .data], laidTests := true, laidLooks := .later }
def TreeSharesUptoCardSaid : Prop := Claim7.holds Tryd.pinned (.plain (OpenSpec.upto treeSharesSpec)) treeSharesUptoCard

/-- THE SECOND FORM's CARD OF 'stratagemlaw19.TreeSame'. -/
def treeSameUptoCard : Claim7 := { stood := { row := treeSameUptoRow, standIns := [], harness := (true, "61b60da6c5531bbff87360cfe078914490197ec4f2856eab97442ebd4dcc5315"), looks := false }, kinds := [], alts := [], laidByText := true, laidKinds := [.data, .data, .data], laidTests := true, laidLooks := .later }
def TreeSameUptoCardSaid : Prop := Claim7.holds Tryd.pinned (.plain (OpenSpec.upto treeSameSpec)) treeSameUptoCard
end Rows
end Go.Proofs.YtlgnogpjmdhflaaDoor
