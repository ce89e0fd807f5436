/-
  DERIVED. GIVEN WITH THE SEED: THE CARDS: each row of YtloejipleojnmaaGreatDoorRows.lean that lists a variable, with what it lists TIED to the program's text (the seventh form; the later family's looks); each row that meets fmt, with fmt's text TOLD by the authors' own Lean function (tested against real Go, not proved from fmt's source: count such statements apart). THE CARD IS WHAT COUNTS. Prove the row's statement (the work); the ties are given (YtloejipleojnmaaGreatDoorTie.lean); close each card by the builder's one call (the guide's Derived/Test/ToyasCard.lean, 'card_holds'). Laid BY PROGRAM, IN A SANDBOX (cutbox-door.mjs). By AI agents, Wed Nov 11 2026. No macro, syntax, notation, axiom, sorry.
-/
import Derived.Test.YtloejipleojnmaaGreatDoorRows
import GoSem.ClaimSeven
namespace Go.Proofs.YtloejipleojnmaaGreatDoor
namespace Rows

/-- THE TIED CARD OF 'hamperlaw20.PartKids'. -/
def partKidsCard : Claim7 := { stood := { row := partKidsRow, standIns := [], harness := (true, "d15dfcb992414504f740f5dc76fdfc5ae58dee0af1647a94184969cdf332fb86"), looks := true }, kinds := [], alts := [], laidByText := true, laidKinds := [.data, .pinned], laidTests := true, laidLooks := .later }
def PartKidsCardSaid : Prop := Claim7.holds Tryz.pinned (.plain (OpenSpec.ofChange partKidsSpec)) partKidsCard

/-- THE TIED CARD OF 'hamperlaw30.CmdTexts'. -/
def cmdTextsCard : Claim7 := { stood := { row := cmdTextsRow, standIns := [], harness := (true, "d15dfcb992414504f740f5dc76fdfc5ae58dee0af1647a94184969cdf332fb86"), looks := true }, kinds := [], alts := [], laidByText := true, laidKinds := [.data, .data, .data, .data, .sentinel, .sentinel, .pinned], laidTests := true, laidLooks := .later }
def CmdTextsCardSaid : Prop := Claim7.holds Tryz.pinned (.plain (OpenSpec.ofChange cmdTextsSpec)) cmdTextsCard

/-- THE SECOND FORM's CARD OF 'hamperlaw20.PartKids'. -/
def partKidsUptoCard : Claim7 := { stood := { row := partKidsUptoRow, standIns := [], harness := (true, "d15dfcb992414504f740f5dc76fdfc5ae58dee0af1647a94184969cdf332fb86"), looks := true }, kinds := [], alts := [], laidByText := true, laidKinds := [.data, .pinned], laidTests := true, laidLooks := .later }
def PartKidsUptoCardSaid : Prop := Claim7.holds Tryz.pinned (.plain (OpenSpec.upto partKidsSpec)) partKidsUptoCard

/-- THE SECOND FORM's CARD OF 'hamperlaw30.CmdTexts'. -/
def cmdTextsUptoCard : Claim7 := { stood := { row := cmdTextsUptoRow, standIns := [], harness := (true, "d15dfcb992414504f740f5dc76fdfc5ae58dee0af1647a94184969cdf332fb86"), looks := true }, kinds := [], alts := [], laidByText := true, laidKinds := [.data, .data, .data, .data, .sentinel, .sentinel, .pinned], laidTests := true, laidLooks := .later }
def CmdTextsUptoCardSaid : Prop := Claim7.holds Tryz.pinned (.plain (OpenSpec.upto cmdTextsSpec)) cmdTextsUptoCard
end Rows
end Go.Proofs.YtloejipleojnmaaGreatDoor
