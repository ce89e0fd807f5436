/-
  For all parts and numbers 'hamperlaw20.PartKids' returns true, and they read as they read: whatever the world holds that fits the program. The card is tied to the program's text.
-/
import Derived.Test.YtloejipleojnmaaGreatDoorPc
import Derived.Test.YtloejipleojnmaaGreatDoorTie
import Derived.Test.YtloejipleojnmaaGreatDoorCards
import Derived.Test.YtloejipleojnmaaGreatDoorEd
import Derived.Test.YtloejipleojnmaaGreatDoorEc
import Derived.Shelf.Vars
import Derived.SevenTiedAt
set_option linter.unusedVariables false
set_option linter.unusedSimpArgs false
set_option linter.unusedVariables false
namespace Sx
open Go Go.Proofs Go.ChangeShapes Go.RowKit
open Go.Proofs.YtloejipleojnmaaGreatDoor

theorem zOwn : ownKnob Tryz.prog.godebug = none := by kernel_rfl
theorem zLaid : laidOutB Tryz.prog = true := by kernel_rfl
set_option maxRecDepth 100000
theorem zG_of {W : World} (h : W.ShapedOpen Tryz.prog) : zE.G W := by
  obtain ⟨m, hm⟩ := cell_of_shapedOpen_int (P := Tryz.prog) (g := 0) (t := 3) (zero := #[.int .i64 0]) (k := .i64) h (by decide +kernel) (by kernel_rfl) rfl (by kernel_rfl) (by kernel_rfl) Tryz.underlying3
  refine ⟨?_, m, hm⟩
  have := World.block_lt_of_cell? W _ hm
  show 1 ≤ W.heap.size
  have : 0 < W.heap.size := this
  omega
theorem partKids_lifted (os : Os) (started : os.Started) (H : Type) (enc : TypeId × Value → H) :
    ReturnsInHanded {} Tryz.checked os 3 .any (fun w args => (Rows.partKidsSpec.pre enc Tryz.prog Tryz.f3 Rows.partKidsRow.domain false w args ∧ laidMetH Tryz.prog Rows.partKidsRow.laid w) ∧ sizedMet enc Tryz.prog Tryz.f3 (OpenSpec.ofChange Rows.partKidsSpec) false w args)
      (Rows.partKidsSpec.post enc Tryz.prog Tryz.f3 false true false false) := by
  refine law_returns_and (C := Tryz.checked) (X := fun w _ => laidMetH Tryz.prog Rows.partKidsRow.laid w) (fun _ _ _ hh h => h.of_heap hh) zOwn started (by kernel_rfl) Tryz.func3
    (ChangeSpec.witness_shaped (enc := enc) (C := Tryz.checked) (os := os) (X := fun w _ => laidMetH Tryz.prog Rows.partKidsRow.laid w) false (World.laidAll Tryz.prog os Rows.partKidsRow.laid) #[.agg #[.slice none 0 0, .int .i64 0, .int .i64 0, .int .i64 0, .int .i64 0, .int .i64 0, .int .i64 0, .string ⟨#[]⟩, .string ⟨#[]⟩, .slice none 0 0, .int .i64 0, .int .i64 0]] 8 (World.laidAll_os _ _ _)
      (World.shaped_of_ZipB (by kernel_rfl) (by kernel_rfl)) (by kernel_rfl) (by kernel_rfl) (by kernel_rfl)
      (by rw [MakeChecks.laidMetH_plain _ _ _ (by kernel_rfl)]; exact laidMet_laidAll _ (by kernel_rfl) (by kernel_rfl)))
    rfl (tb := 4) rfl Tryz.underlying4 zLaid (by kernel_rfl) (fun ds hd => ?_) ?_
  · match ds, hd with
    | [a], _ => exact ⟨rfl, rfl, rfl⟩
  · intro W base args ds ps hsh _ hval hA hwt
    obtain ⟨svs, hl, ha⟩ := args_of_trod (E := zE) (P := Tryz.prog) rfl rfl (by kernel_rfl) hval hA hwt
    have hno := ha.noOwn
    have hp : Tryz.f3.params.toList = [29] := rfl
    rw [hp] at ha
    cases ha with
    | cons h1 r => cases r with
      | nil =>
        obtain ⟨b, i, n, k, f, d, t, p, q, ps, u, c, rfl, hb, hn⟩ := kid_arg h1
        exact law_calls (zfx_ok zTF_ok [] f3_live) (fn := Tryz.f3) (by kernel_rfl) (zG_of hsh) hl hno (f3_run b hb i n k f d t hn p q ps u c)
theorem partKids_over : Rows.PartKidsSaid :=
  OpenClaim.holds_of_wide 3 Tryz.f3 rfl rfl rfl rfl rfl rfl rfl ⟨rfl, rfl, rfl, rfl, rfl⟩ rfl rfl rfl rfl rfl (by kernel_rfl) Tryz.func3 (by kernel_rfl)
    (of_decide_eq_true (by kernel_rfl)) (by unfold Func.isWrapper; first | (rw [if_pos (by decide +kernel)]; kernel_rfl) | (rw [if_neg (by decide +kernel)]; exact ⟨rfl, rfl⟩))
    (fun os started H enc _ => partKids_lifted os started H enc)
theorem partKids_card : Rows.PartKidsCardSaid :=
  Claim7.holds_tied_plain_at .later [] [.data, .pinned] true (true, "d15dfcb992414504f740f5dc76fdfc5ae58dee0af1647a94184969cdf332fb86") true
    partKids_over (fun _ h => by cases h) (by kernel_rfl) (fun _ h => by cases h) partKids_row_tie rfl ⟨rfl, rfl⟩ (by kernel_rfl) rfl
    (fun f fn hf hfn => by
      obtain rfl : f = 3 := Option.some.inj ((show Tryz.prog.funcNamed "hamper/hamperlaw20.PartKids" = some 3 by kernel_rfl).symm.trans hf) |>.symm
      obtain rfl : fn = Tryz.f3 := (Option.some.inj (Tryz.func3.symm.trans hfn)).symm
      exact ⟨by kernel_rfl, fun j t ht => by
        rw [Tryz.params3] at ht
        have h3 : t = 29 := by
          rcases j with _ | j
          · simpa using ht.symm
          · simp at ht
        obtain rfl := h3
        exact (show Tryz.prog.wantsStandIn 29 = false by kernel_rfl)⟩)
    (by kernel_rfl)
end Sx
namespace Go.Proofs.YtloejipleojnmaaGreatDoor
/-- The card, under a short name, for the claim. -/
theorem partKids_holds : Rows.PartKidsCardSaid := Sx.partKids_card
#print axioms partKids_holds
end Go.Proofs.YtloejipleojnmaaGreatDoor
