/-
  DERIVED. GIVEN WITH THE SEED: THE CARDS: each row of YtlkpldfdogjneaaDoorRows.lean that lists a variable, with what it lists TIED to the program's text (the seventh form; the later family's looks); each row that meets fmt, with fmt's text TOLD by the authors' own Lean function (tested against real Go, not proved from fmt's source: count such statements apart). THE CARD IS WHAT COUNTS. Prove the row's statement (the work); the ties are given (YtlkpldfdogjneaaDoorTie.lean); close each card by the builder's one call (the guide's Derived/Test/ToyasCard.lean, 'card_holds'). Laid BY PROGRAM, IN A SANDBOX (cutbox-door.mjs). By AI agents, Wed Nov 11 2026. No macro, syntax, notation, axiom, sorry.
-/
import Derived.Test.YtlkpldfdogjneaaDoorRows
import GoSem.ClaimSeven
namespace Go.Proofs.YtlkpldfdogjneaaDoor
namespace Rows

/-- THE TIED CARD OF 'hamperlaw25.SeqsetNames'. -/
def seqsetNamesCard : Claim7 := { stood := { row := seqsetNamesRow, standIns := [], harness := (true, "039729b437e2f37787e11df5074182105f72045b00f1862025cb98e958210857"), looks := false }, kinds := [], alts := [], laidByText := true, laidKinds := [.data, .pinned], laidTests := true, laidLooks := .later }
def SeqsetNamesCardSaid : Prop := Claim7.holds Tryd.pinned (.plain (OpenSpec.ofChange seqsetNamesSpec)) seqsetNamesCard

/-- THE SECOND FORM's CARD OF 'hamperlaw25.SeqsetNames'. -/
def seqsetNamesUptoCard : Claim7 := { stood := { row := seqsetNamesUptoRow, standIns := [], harness := (true, "039729b437e2f37787e11df5074182105f72045b00f1862025cb98e958210857"), looks := false }, kinds := [], alts := [], laidByText := true, laidKinds := [.data, .pinned], laidTests := true, laidLooks := .later }
def SeqsetNamesUptoCardSaid : Prop := Claim7.holds Tryd.pinned (.plain (OpenSpec.upto seqsetNamesSpec)) seqsetNamesUptoCard
end Rows
end Go.Proofs.YtlkpldfdogjneaaDoor
