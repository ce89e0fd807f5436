/-
  For every list of codes and each number 'hamperlaw09.CanonPuts' returns true, and both read as they read: whatever the world holds that fits the program.
-/
import Derived.Test.YtlkpldfdogjneaaRows
import Derived.Test.YtlkpldfdogjneaaCf
import Derived.Test.YtlkpldfdogjneaaEb
import Derived.Shelf.Vars
/-
  What each row of the seat wants of the program and of the world.
-/
set_option linter.unusedVariables false
namespace Sx
open Go Go.Proofs Go.ChangeShapes Go.RowKit
open Go.Proofs.Ytlkpldfdogjneaa

theorem rOwn : ownKnob Try.prog.godebug = none := by kernel_rfl
theorem rLaid : laidOutB Try.prog = true := by kernel_rfl
set_option maxRecDepth 100000
theorem rG_of {W : World} (h : W.ShapedOpen Try.prog) : rE.G W := by
  obtain ⟨m, hm⟩ := cell_of_shapedOpen_int (P := Try.prog) (g := 0) (t := 3) (zero := #[.int .i64 0]) (k := .i64) h (by decide +kernel) (by kernel_rfl) rfl (by kernel_rfl) (by kernel_rfl) Try.underlying3
  refine ⟨?_, m, hm⟩
  have := World.block_lt_of_cell? W _ hm
  show 1 ≤ W.heap.size
  have : 0 < W.heap.size := this
  omega

end Sx

set_option linter.unusedVariables false
namespace Sx
open Go Go.Proofs Go.ChangeShapes Go.RowKit
open Go.Proofs.Ytlkpldfdogjneaa
set_option maxRecDepth 100000
theorem canonPuts_lifted (os : Os) (started : os.Started) (H : Type) (enc : TypeId × Value → H) :
    ReturnsInHanded {} Try.checked os 3 .any (Rows.canonPutsSpec.pre6 enc Try.prog Try.f3 Rows.canonPutsRow.domain false) (Rows.canonPutsSpec.post enc Try.prog Try.f3 false true false false) := by
  refine law_returns (C := Try.checked) rOwn started (by kernel_rfl) Try.func3
    (ChangeSpec.witness6 (enc := enc) (C := Try.checked) false ⟨#[], #[.slice none 0 0, .int .i64 0], []⟩ 8 (by kernel_rfl) (by kernel_rfl) (by kernel_rfl) (by kernel_rfl)) rfl (tb := 4) rfl Try.underlying4 rLaid (by kernel_rfl) (fun ds hd => ?_) ?_
  · match ds, hd with
    | [a, b], _ => exact ⟨rfl, rfl, rfl⟩
  · intro W base args ds ps hsh hval hA _
    obtain ⟨svs, hl, ha⟩ := args_of_trod (E := rE) (P := Try.prog) rfl rfl (by kernel_rfl) hval hA
    have hno := ha.noOwn
    have hp : Try.f3.params.toList = [22, 3] := rfl
    rw [hp] at ha
    cases ha with
    | cons h1 r => cases r with
      | cons h2 r => cases r with
        | nil =>
          obtain ⟨l, rfl, hw⟩ := h1.lst (e := 30) (by kernel_rfl)
          obtain ⟨s, rfl, _⟩ := h2.int (k := .i64) (by kernel_rfl)
          exact law_calls (fx_ok kT3_ok [] f3_live) (fn := Try.f3) (by kernel_rfl) (rG_of hsh) hl hno (f3_run l (codes_of hw) s)
theorem canonPuts_over : Rows.canonPutsRow.holds Try.pinned (OpenSpec.ofChange Rows.canonPutsSpec) :=
  OpenClaim.holds_of_wide 3 Try.f3 rfl rfl rfl rfl rfl rfl rfl ⟨rfl, rfl, rfl, rfl, rfl⟩ rfl rfl rfl rfl rfl (by kernel_rfl) Try.func3 (by kernel_rfl)
    (of_decide_eq_true (by kernel_rfl)) (by unfold Func.isWrapper; first | (rw [if_pos (by decide +kernel)]; kernel_rfl) | (rw [if_neg (by decide +kernel)]; exact ⟨rfl, rfl⟩))
    (fun os started H enc _ => canonPuts_lifted os started H enc)
end Sx
namespace Go.Proofs.Ytlkpldfdogjneaa
/-- The row, under a short name, for the claim. -/
theorem canonPuts_holds : Rows.CanonPutsSaid := Sx.canonPuts_over
#print axioms canonPuts_holds
end Go.Proofs.Ytlkpldfdogjneaa
