/-
  No cell of these rows narrows 'for every input' (looked for: loops, veiled, ifaces, maps, wideKeys, modest, calm, conditions, laid).
  DERIVED. THE GIVEN ROWS OF THIS SEAT. 3 by the template 'for every input the law returns true; each argument reads behind the call as it read before'; 0 by the template 'total and deterministic' (their statements: YtlkpldfdogjneaaTotals.lean).
  GIVEN WITH THE SEED: the statements are not yours to turn. If you find one false, say at which input.
  Laid BY PROGRAM, IN A SANDBOX (cutbox-rows.mjs): the forced cells as the released guide's own fill.sh prints them over the translation 6c23c27266ea9c7c… (all of the seat's roots in one cut). By AI agents, Wed Nov 11 2026. No macro, syntax, notation, axiom, sorry.
-/
import Derived.Test.YtlkpldfdogjneaaChecked
import GoSem.Claim
import GoSem.ClaimJoined
import GoSem.ClaimMapViews
import Derived.JoinedTies
import Derived.KernelRfl
namespace Go.Proofs.Ytlkpldfdogjneaa
/- THE CELL 'sum', in the pinned program and in every row, IS THE sha256 OF THE DUMP (.gsa) THAT YtlkpldfdogjneaaProg.lean LOADS. Nothing in Lean hashes anything: it is a label: what it is worth is what the hold of that sum in a sandbox is worth. -/
noncomputable def Try.pinned : Pinned := { name := "ytlkpldfdogjneaa", sum := "6c23c27266ea9c7c494fef399869b990c0906790259c3013ea684699b08b92a2", checked := Try.checked }
namespace Rows
def none {H : Type} : Left H := { results := [], args := [] }

/-- 'hamperlaw09.CanonPuts': WHATEVER THE INPUT: true; the input reads as it did. -/
def canonPutsSpec : ChangeSpec := { name := "canonPuts", fn := fun _ => fun
  | [d1, d2] => { results := [.lit (.bool true)], args := [d1, d2] }
  | _ => none }
def canonPutsRow : OpenClaim := { program := "ytlkpldfdogjneaa", sum := "6c23c27266ea9c7c494fef399869b990c0906790259c3013ea684699b08b92a2", func := "hamper/hamperlaw09.CanonPuts", spec := "canonPuts", apart := false }
def CanonPutsSaid : Prop := canonPutsRow.holds Try.pinned (OpenSpec.ofChange canonPutsSpec)

/-- ITS FALSE NEIGHBOUR: 'it returns false'. Refute it at one input. -/
def canonPutsWrong : ChangeSpec := { name := "canonPuts", fn := fun _ => fun
  | [d1, d2] => { results := [.lit (.bool false)], args := [d1, d2] }
  | _ => none }
def CanonPutsWrongFalsely : Prop := canonPutsRow.holds Try.pinned (OpenSpec.ofChange canonPutsWrong)

/-- 'hamperlaw23.NameForms': WHATEVER THE INPUT: true; the input reads as it did. -/
def nameFormsSpec : ChangeSpec := { name := "nameForms", fn := fun _ => fun
  | [d1, d2] => { results := [.lit (.bool true)], args := [d1, d2] }
  | _ => none }
def nameFormsRow : OpenClaim := { program := "ytlkpldfdogjneaa", sum := "6c23c27266ea9c7c494fef399869b990c0906790259c3013ea684699b08b92a2", func := "hamper/hamperlaw23.NameForms", spec := "nameForms", inPlace := ["internal/bytealg.IndexByteString", "internal/bytealg.IndexString"], named := ["internal/bytealg.MaxLen"], apart := false }
def NameFormsSaid : Prop := nameFormsRow.holds Try.pinned (OpenSpec.ofChange nameFormsSpec)

/-- ITS FALSE NEIGHBOUR: 'it returns false'. Refute it at one input. -/
def nameFormsWrong : ChangeSpec := { name := "nameForms", fn := fun _ => fun
  | [d1, d2] => { results := [.lit (.bool false)], args := [d1, d2] }
  | _ => none }
def NameFormsWrongFalsely : Prop := nameFormsRow.holds Try.pinned (OpenSpec.ofChange nameFormsWrong)

/-- 'hamperlaw29.LineFeeds': WHATEVER THE INPUT: true; the input reads as it did. -/
def lineFeedsSpec : ChangeSpec := { name := "lineFeeds", fn := fun _ => fun
  | [d] => { results := [.lit (.bool true)], args := [d] }
  | _ => none }
def lineFeedsRow : OpenClaim := { program := "ytlkpldfdogjneaa", sum := "6c23c27266ea9c7c494fef399869b990c0906790259c3013ea684699b08b92a2", func := "hamper/hamperlaw29.LineFeeds", spec := "lineFeeds", inPlace := ["internal/abi.NoEscape", "internal/bytealg.IndexByteString", "internal/bytealg.IndexString"], unfollowed := true, recurses := true, named := ["internal/bytealg.MaxLen"], apart := false }
def LineFeedsSaid : Prop := lineFeedsRow.holds Try.pinned (OpenSpec.ofChange lineFeedsSpec)

/-- ITS FALSE NEIGHBOUR: 'it returns false'. Refute it at one input. -/
def lineFeedsWrong : ChangeSpec := { name := "lineFeeds", fn := fun _ => fun
  | [d] => { results := [.lit (.bool false)], args := [d] }
  | _ => none }
def LineFeedsWrongFalsely : Prop := lineFeedsRow.holds Try.pinned (OpenSpec.ofChange lineFeedsWrong)

/- THE SECOND FORM. 'bulk': how many values and letters a reading holds, each counted each time it is reached (what is shared counts as often as it is met; a slice's spare places count too). A statement '..UptoSaid' is the law's where the arguments, and the package variables that the reading takes, are together of bulk at most 1048576: NARROWER than '..Said'. Prove '..Said' where nothing that the law and all that it calls make is longer than what came in: it says more and counts as full. Else prove '..UptoSaid'. A law counts once. -/
mutual
def uptoBulk {H : Type} : DataW H → Nat
  | .lit (.string bytes) => bytes.length + 1
  | .lit _ => 1
  | .nil => 1
  | .ptr d => uptoBulk d + 1
  | .slice elems spare => uptoBulkAll elems + uptoBulkAll spare + 1
  | .agg parts => uptoBulkAll parts + 1
  | .iface _ d => uptoBulk d + 1
  | .map entries => uptoBulkEntries entries + 1
  | .held _ => 1
def uptoBulkAll {H : Type} : List (DataW H) → Nat
  | [] => 0
  | d :: r => uptoBulk d + uptoBulkAll r
def uptoBulkEntries {H : Type} : List (Lit × DataW H) → Nat
  | [] => 0
  | x :: r => uptoBulkEntry x + uptoBulkEntries r
def uptoBulkEntry {H : Type} : Lit × DataW H → Nat
  | (.string bytes, d) => bytes.length + uptoBulk d + 1
  | (_, d) => uptoBulk d + 1
 end
def uptoSmall : (H : Type) → List (DataW H) → Bool := fun _ ds => decide (uptoBulkAll ds ≤ 1048576)
def OpenSpec.upto (s : _root_.Go.ChangeSpec) : _root_.Go.OpenSpec := { _root_.Go.OpenSpec.ofChange s with cond := some uptoSmall }

/-- 'hamperlaw09.CanonPuts', WHERE WHAT IT READS IS OF BULK AT MOST 1048576: true; the input reads as it did. -/
def canonPutsUptoRow : OpenClaim := { program := "ytlkpldfdogjneaa", sum := "6c23c27266ea9c7c494fef399869b990c0906790259c3013ea684699b08b92a2", func := "hamper/hamperlaw09.CanonPuts", spec := "canonPuts", apart := false, narrowed := true }
def CanonPutsUptoSaid : Prop := canonPutsUptoRow.holds Try.pinned (OpenSpec.upto canonPutsSpec)

/-- 'hamperlaw23.NameForms', WHERE WHAT IT READS IS OF BULK AT MOST 1048576: true; the input reads as it did. -/
def nameFormsUptoRow : OpenClaim := { program := "ytlkpldfdogjneaa", sum := "6c23c27266ea9c7c494fef399869b990c0906790259c3013ea684699b08b92a2", func := "hamper/hamperlaw23.NameForms", spec := "nameForms", inPlace := ["internal/bytealg.IndexByteString", "internal/bytealg.IndexString"], named := ["internal/bytealg.MaxLen"], apart := false, narrowed := true }
def NameFormsUptoSaid : Prop := nameFormsUptoRow.holds Try.pinned (OpenSpec.upto nameFormsSpec)

/-- 'hamperlaw29.LineFeeds', WHERE WHAT IT READS IS OF BULK AT MOST 1048576: true; the input reads as it did. -/
def lineFeedsUptoRow : OpenClaim := { program := "ytlkpldfdogjneaa", sum := "6c23c27266ea9c7c494fef399869b990c0906790259c3013ea684699b08b92a2", func := "hamper/hamperlaw29.LineFeeds", spec := "lineFeeds", inPlace := ["internal/abi.NoEscape", "internal/bytealg.IndexByteString", "internal/bytealg.IndexString"], unfollowed := true, recurses := true, named := ["internal/bytealg.MaxLen"], apart := false, narrowed := true }
def LineFeedsUptoSaid : Prop := lineFeedsUptoRow.holds Try.pinned (OpenSpec.upto lineFeedsSpec)

end Rows
end Go.Proofs.Ytlkpldfdogjneaa
