/-
  For all spans and numbers 'hamperlaw25.SeqsetNames' returns true, and they read as they read: whatever the world holds that fits the program. The card is tied to the program's text.
-/
import Derived.Test.YtlkpldfdogjneaaDoorSa
import Derived.Test.YtlkpldfdogjneaaDoorTie
import Derived.Test.YtlkpldfdogjneaaDoorCards
import Derived.Test.YtlkpldfdogjneaaDoorEd
import Derived.Test.YtlkpldfdogjneaaDoorEc
import Derived.Shelf.Vars
import Derived.SevenTiedAt
set_option linter.unusedVariables false
set_option linter.unusedSimpArgs false
set_option linter.unusedVariables false
namespace Sx
open Go Go.Proofs Go.ChangeShapes Go.RowKit
open Go.Proofs.YtlkpldfdogjneaaDoor

theorem dOwn : ownKnob Tryd.prog.godebug = none := by kernel_rfl
theorem dLaid : laidOutB Tryd.prog = true := by kernel_rfl
set_option maxRecDepth 100000
theorem dG_of {W : World} (h : W.ShapedOpen Tryd.prog) : dE.G W := by
  obtain ⟨m, hm⟩ := cell_of_shapedOpen_int (P := Tryd.prog) (g := 0) (t := 3) (zero := #[.int .i64 0]) (k := .i64) h (by decide +kernel) (by kernel_rfl) rfl (by kernel_rfl) (by kernel_rfl) Tryd.underlying3
  refine ⟨?_, m, hm⟩
  have := World.block_lt_of_cell? W _ hm
  show 1 ≤ W.heap.size
  have : 0 < W.heap.size := this
  omega
theorem seqsetNames_lifted (os : Os) (started : os.Started) (H : Type) (enc : TypeId × Value → H) :
    ReturnsInHanded {} Tryd.checked os 3 .any (fun w args => (Rows.seqsetNamesSpec.pre enc Tryd.prog Tryd.f3 Rows.seqsetNamesRow.domain false w args ∧ laidMetH Tryd.prog Rows.seqsetNamesRow.laid w) ∧ sizedMet enc Tryd.prog Tryd.f3 (OpenSpec.ofChange Rows.seqsetNamesSpec) false w args)
      (Rows.seqsetNamesSpec.post enc Tryd.prog Tryd.f3 false true false false) := by
  refine law_returns_and (C := Tryd.checked) (X := fun w _ => laidMetH Tryd.prog Rows.seqsetNamesRow.laid w) (fun _ _ _ hh h => h.of_heap hh) dOwn started (by kernel_rfl) Tryd.func3
    (ChangeSpec.witness_shaped (enc := enc) (C := Tryd.checked) (os := os) (X := fun w _ => laidMetH Tryd.prog Rows.seqsetNamesRow.laid w) false (World.laidAll Tryd.prog os Rows.seqsetNamesRow.laid) #[.slice none 0 0, .int .i64 0, .int .i64 0] 8 (World.laidAll_os _ _ _)
      (World.shaped_of_ZipB (by kernel_rfl) (by kernel_rfl)) (by kernel_rfl) (by kernel_rfl) (by kernel_rfl)
      (by rw [MakeChecks.laidMetH_plain _ _ _ (by kernel_rfl)]; exact laidMet_laidAll _ (by kernel_rfl) (by kernel_rfl)))
    rfl (tb := 4) rfl Tryd.underlying4 dLaid (by kernel_rfl) (fun ds hd => ?_) ?_
  · match ds, hd with
    | [a, b, c], _ => exact ⟨rfl, rfl, rfl⟩
  · intro W base args ds ps hsh _ hval hA hwt
    obtain ⟨svs, hl, ha⟩ := args_of_trod (E := dE) (P := Tryd.prog) rfl rfl (by kernel_rfl) hval hA hwt
    have hno := ha.noOwn
    have hp : Tryd.f3.params.toList = [22, 3, 3] := rfl
    rw [hp] at ha
    cases ha with
    | cons h1 r => cases r with
      | cons h2 r => cases r with
        | cons h3 r => cases r with
          | nil =>
            obtain ⟨l, rfl, hw⟩ := h1.lst (e := 35) (by kernel_rfl)
            obtain ⟨n, rfl, _⟩ := h2.int (k := .i64) (by kernel_rfl)
            obtain ⟨g, rfl, _⟩ := h3.int (k := .i64) (by kernel_rfl)
            exact law_calls (dfx_ok dT7_ok [] f3_live) (fn := Tryd.f3) (by kernel_rfl) (dG_of hsh) hl hno (f3_run l n g)
theorem seqsetNames_over : Rows.SeqsetNamesSaid :=
  OpenClaim.holds_of_wide 3 Tryd.f3 rfl rfl rfl rfl rfl rfl rfl ⟨rfl, rfl, rfl, rfl, rfl⟩ rfl rfl rfl rfl rfl (by kernel_rfl) Tryd.func3 (by kernel_rfl)
    (of_decide_eq_true (by kernel_rfl)) (by unfold Func.isWrapper; first | (rw [if_pos (by decide +kernel)]; kernel_rfl) | (rw [if_neg (by decide +kernel)]; exact ⟨rfl, rfl⟩))
    (fun os started H enc _ => seqsetNames_lifted os started H enc)
theorem seqsetNames_card : Rows.SeqsetNamesCardSaid :=
  Claim7.holds_tied_plain_at .later [] [.data, .pinned] true (true, "039729b437e2f37787e11df5074182105f72045b00f1862025cb98e958210857") false
    seqsetNames_over (fun _ h => by cases h) (by kernel_rfl) (fun _ h => by cases h) seqsetNames_row_tie rfl ⟨rfl, rfl⟩ (by kernel_rfl) rfl
    (fun f fn hf hfn => by
      obtain rfl : f = 3 := Option.some.inj ((show Tryd.prog.funcNamed "hamper/hamperlaw25.SeqsetNames" = some 3 by kernel_rfl).symm.trans hf) |>.symm
      obtain rfl : fn = Tryd.f3 := (Option.some.inj (Tryd.func3.symm.trans hfn)).symm
      exact ⟨by kernel_rfl, fun j t ht => by
        rw [Tryd.params3] at ht
        have h3 : t = 22 ∨ t = 3 := by
          rcases j with _ | _ | _ | j
          · left; simpa using ht.symm
          · right; simpa using ht.symm
          · right; simpa using ht.symm
          · simp at ht
        rcases h3 with rfl | rfl
        · exact (show Tryd.prog.wantsStandIn 22 = false by kernel_rfl)
        · exact (show Tryd.prog.wantsStandIn 3 = false by kernel_rfl)⟩)
    (by kernel_rfl)
end Sx
namespace Go.Proofs.YtlkpldfdogjneaaDoor
/-- The card, under a short name, for the claim. -/
theorem seqsetNames_holds : Rows.SeqsetNamesCardSaid := Sx.seqsetNames_card
#print axioms seqsetNames_holds
end Go.Proofs.YtlkpldfdogjneaaDoor
