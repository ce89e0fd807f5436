/-
  For every two texts 'hamperlaw23.NameForms' returns true, and both read as they read: whatever the world holds that fits the program.
-/
import Derived.Test.YtlkpldfdogjneaaRows
import Derived.Test.YtlkpldfdogjneaaNf
import Derived.Test.YtlkpldfdogjneaaEb
import Derived.Shelf.Vars
set_option linter.unusedVariables false
namespace Sx
open Go Go.Proofs Go.ChangeShapes Go.RowKit
open Go.Proofs.Ytlkpldfdogjneaa

theorem rOwn : ownKnob Try.prog.godebug = none := by kernel_rfl
theorem rLaid : laidOutB Try.prog = true := by kernel_rfl
set_option maxRecDepth 100000
theorem rG_of {W : World} (h : W.ShapedOpen Try.prog) : rE.G W := by
  obtain ⟨m, hm⟩ := cell_of_shapedOpen_int (P := Try.prog) (g := 0) (t := 3) (zero := #[.int .i64 0]) (k := .i64) h (by decide +kernel) (by kernel_rfl) rfl (by kernel_rfl) (by kernel_rfl) Try.underlying3
  refine ⟨?_, m, hm⟩
  have := World.block_lt_of_cell? W _ hm
  show 1 ≤ W.heap.size
  have : 0 < W.heap.size := this
  omega

theorem f4_run (s t : ByteArray) : evFun f4_X 0 Try.f4 (frz f4_X.Ty Try.f4) [.str s, .str t] [] [] = some (.bool true) := by
  have few : ∀ s : ByteArray, (fewS s).size < 4294967281 := fun s => by
    unfold fewS
    split
    · simp [ByteArray.size_extract]; omega
    · omega
  rw [f4_eq]
  simp only [few, decide_true, cond_true, beq_self_eq_true, Bool.and_self]

theorem nameForms_lifted (os : Os) (started : os.Started) (H : Type) (enc : TypeId × Value → H) :
    ReturnsInHanded {} Try.checked os 4 .any (Rows.nameFormsSpec.pre6 enc Try.prog Try.f4 Rows.nameFormsRow.domain false) (Rows.nameFormsSpec.post enc Try.prog Try.f4 false true false false) := by
  refine law_returns (C := Try.checked) rOwn started (by kernel_rfl) Try.func4
    (ChangeSpec.witness6 (enc := enc) (C := Try.checked) false ⟨#[], #[.string ByteArray.empty, .string ByteArray.empty], []⟩ 8 (by kernel_rfl) (by kernel_rfl) (by kernel_rfl) (by kernel_rfl)) rfl (tb := 4) rfl Try.underlying4 rLaid (by kernel_rfl) (fun ds hd => ?_) ?_
  · match ds, hd with
    | [a, b], _ => exact ⟨rfl, rfl, rfl⟩
  · intro W base args ds ps hsh hval hA _
    obtain ⟨svs, hl, ha⟩ := args_of_trod (E := rE) (P := Try.prog) rfl rfl (by kernel_rfl) hval hA
    have hno := ha.noOwn
    have hp : Try.f4.params.toList = [9, 9] := rfl
    rw [hp] at ha
    cases ha with
    | cons h1 r => cases r with
      | cons h2 r => cases r with
        | nil =>
          obtain ⟨s, rfl, _⟩ := h1.str (by kernel_rfl)
          obtain ⟨t, rfl, _⟩ := h2.str (by kernel_rfl)
          exact law_calls (fx_ok rT7_ok [] f4_live) (fn := Try.f4) (by kernel_rfl) (rG_of hsh) hl hno (f4_run s t)
theorem nameForms_over : Rows.nameFormsRow.holds Try.pinned (OpenSpec.ofChange Rows.nameFormsSpec) :=
  OpenClaim.holds_of_wide 4 Try.f4 rfl rfl rfl rfl rfl rfl rfl ⟨rfl, rfl, rfl, rfl, rfl⟩ rfl rfl rfl rfl rfl (by kernel_rfl) Try.func4 (by kernel_rfl)
    (of_decide_eq_true (by kernel_rfl)) (by unfold Func.isWrapper; first | (rw [if_pos (by decide +kernel)]; kernel_rfl) | (rw [if_neg (by decide +kernel)]; exact ⟨rfl, rfl⟩))
    (fun os started H enc _ => nameForms_lifted os started H enc)
end Sx
namespace Go.Proofs.Ytlkpldfdogjneaa
/-- The row, under a short name, for the claim. -/
theorem nameForms_holds : Rows.NameFormsSaid := Sx.nameForms_over
#print axioms nameForms_holds
end Go.Proofs.Ytlkpldfdogjneaa
