/-
  The seat's environment: its types, its globals, and the library's functions that are called, each by its contract.
-/
import Derived.Test.YtlkpldfdogjneaaDoorEd
import Derived.Test.YtlkpldfdogjneaaDoorEc
import Derived.Test.YtlkpldfdogjneaaDoorShelf
import Derived.KernelRfl
set_option linter.unusedVariables false
set_option linter.unusedSimpArgs false
set_option linter.unusedVariables false
namespace Sx
open Go Go.Proofs

/-- What the globals hold. -/
def dG (w : World) : Prop := ∃ m, w.cell? ⟨0, 0, none⟩ = some (.int .i64 m)
noncomputable def dE : Env := envOf Tryd.prog 1 dG
theorem dE_ok : EnvOk dE := envOf_ok (fun w w' ⟨m, hm⟩ hb => ⟨m, by
  have := hb 0 (by omega)
  simp only [World.cell?] at hm ⊢
  rw [this]; exact hm⟩)

def gCut : List SV → Option (Bool × SV)
  | [.str a, .str b] => some (decide (a.size < 4294967281), .tup [.str ⟨(Lib.cut a.data.toList b.data.toList).1.toArray⟩, .str ⟨(Lib.cut a.data.toList b.data.toList).2.1.toArray⟩, .bool (Lib.cut a.data.toList b.data.toList).2.2])
  | _ => none
def gIndex : List SV → Option (Bool × SV)
  | [.str a, .str b] => some (decide (a.size < 4294967281), .int .i64 (Lib.index a.data.toList b.data.toList))
  | _ => none
theorem cut_ok : SpecOk dE 24 (.plain gCut) := by
  refine plain_of_calls dE_ok (fn := Tryd.f24) (by kernel_rfl) (by decide) (by rfl) (fun args sv h => ?_)
  unfold gCut at h
  split at h
  · rename_i a b
    simp only [Option.some.injEq, Prod.mk.injEq, decide_eq_true_eq] at h
    obtain ⟨h1, rfl⟩ := h
    refine ⟨[.string a, .string b], .tuple #[.string ⟨(Lib.cut a.data.toList b.data.toList).1.toArray⟩, .string ⟨(Lib.cut a.data.toList b.data.toList).2.1.toArray⟩, .bool (Lib.cut a.data.toList b.data.toList).2.2], rfl, fun w ok ρ => rel_tup_vals rfl, fun w ⟨_, m, hm⟩ => (Tryd.strings_Cut a b m w h1 hm).mono ?_⟩
    rintro e w' ⟨rfl, n, rfl⟩; exact ⟨rfl, ⟨rfl, rfl, rfl, rfl⟩⟩
  · cases h
theorem index_ok : SpecOk dE 47 (.plain gIndex) := by
  refine plain_of_calls dE_ok (fn := Tryd.f47) (by kernel_rfl) (by decide) (by rfl) (fun args sv h => ?_)
  unfold gIndex at h
  split at h
  · rename_i a b
    simp only [Option.some.injEq, Prod.mk.injEq, decide_eq_true_eq] at h
    obtain ⟨h1, rfl⟩ := h
    refine ⟨[.string a, .string b], _, rfl, fun _ _ _ => rel_int _ _, fun w ⟨_, m, hm⟩ => (Tryd.strings_Index a b m w h1 hm).mono ?_⟩
    rintro e w' ⟨rfl, rfl⟩; exact ⟨rfl, ⟨rfl, rfl, rfl, rfl⟩⟩
  · cases h
theorem dTy3 : ∃ d, dE.Ty 3 = some d ∧ d.d = .int .i64 := by
  have h : (tyOf Tryd.prog 3).map (·.d) = some (.int .i64) := by kernel_rfl
  cases q : tyOf Tryd.prog 3 with
  | none => rw [q] at h; cases h
  | some d => rw [q] at h; exact ⟨d, q, by simpa using h⟩
theorem dSort_ok : SpecOk dE 15 (.wide (gSort 3)) := by
  obtain ⟨d, h1, h2⟩ := dTy3
  exact sort_ok dE_ok (fn := Tryd.f15) (by kernel_rfl) (by decide) (by rfl) h1 h2 (fun blk cap zs w hH hb hz => Tryd.slices_Sort_int blk 0 cap zs w hH hb hz) (fun w => Tryd.slices_Sort_int_none none 0 w)
theorem dCompact_ok : SpecOk dE 16 (.wide (gCompact 3)) := by
  obtain ⟨d, h1, h2⟩ := dTy3
  exact compact_ok dE_ok (fn := Tryd.f16) (by kernel_rfl) (by decide) (by rfl) h1 h2 (fun blk cap zs w hH hz hc => Tryd.slices_Compact_int blk 0 cap zs w hH hz hc) (fun w => Tryd.slices_Compact_int_empty none 0 w)

def dLib : List (Nat × Spec) := [(24, .plain gCut), (47, .plain gIndex), (15, .wide (gSort 3)), (16, .wide (gCompact 3))]
theorem dLib_ok : SpecsOk dE (ofList dLib) := .cons cut_ok (.cons index_ok (.cons dSort_ok (.cons dCompact_ok .nil)))
theorem dfx_ok {T : Specs} (h : SpecsOk dE T) (sm : List Nat) (live : Nat → List Nat × List (Nat × TypeId)) : FxOk dE ⟨tyOf Tryd.prog, T, sm, live⟩ := ⟨dE_ok, rfl, h, by kernel_rfl⟩
end Sx

/-
  What the executor says of functions: the normal forms, each compared by the kernel. (Printed by a program.)
-/
set_option linter.unusedVariables false
namespace Sx
open Go Go.Proofs
set_option maxRecDepth 100000
/-- 'hamper/seqset.number', as it runs. -/
noncomputable def r25_live : Nat → List Nat × List (Nat × TypeId) := fun h => bif Nat.beq h 7 then ([0, 3, 20, 21], nilsOf (tyOf Tryd.prog) [(0, 9), (3, 3), (20, 3), (21, 3)]) else ([], [])
noncomputable def r25_X (sm : List Nat) : Fx := ⟨tyOf Tryd.prog, ofList dLib, sm, r25_live⟩
noncomputable def r25_s : Spec := .plain (plainRun (r25_X []) 20 Tryd.f25)
theorem r25_ok : SpecOk dE 25 r25_s := plain_of_self (dfx_ok dLib_ok [] r25_live) (by kernel_rfl) (by decide) (by rfl) 20
noncomputable def dLib_25 : List (Nat × Spec) := (25, r25_s) :: dLib
theorem dLib_25_ok : SpecsOk dE (ofList dLib_25) := .cons r25_ok dLib_ok
/-- 'hamper/seqset.ends', as it runs. -/
noncomputable def r13_live : Nat → List Nat × List (Nat × TypeId) := fun h => ([], [])
noncomputable def r13_X (sm : List Nat) : Fx := ⟨tyOf Tryd.prog, ofList dLib_25, sm, r13_live⟩
noncomputable def r13_s : Spec := .plain (plainRun (r13_X []) 5 Tryd.f13)
theorem r13_ok : SpecOk dE 13 r13_s := plain_of_self (dfx_ok dLib_25_ok [] r13_live) (by kernel_rfl) (by decide) (by rfl) 5
noncomputable def dLib_25_13 : List (Nat × Spec) := (13, r13_s) :: dLib_25
theorem dLib_25_13_ok : SpecsOk dE (ofList dLib_25_13) := .cons r13_ok dLib_25_ok
/-- 'strings.splitSeq', as it runs. -/
noncomputable def r37_live : Nat → List Nat × List (Nat × TypeId) := fun h => ([], [])
noncomputable def r37_X (sm : List Nat) : Fx := ⟨tyOf Tryd.prog, ofList dLib_25_13, sm, r37_live⟩
noncomputable def r37_s : Spec := .wide (wideOf (tyOf Tryd.prog) (coreRun r37_X (tyOf Tryd.prog) 5 Tryd.f37))
theorem r37_ok : SpecOk dE 37 r37_s := wide_of_self dE_ok (fun sm => ⟨dfx_ok dLib_25_13_ok sm r37_live, rfl⟩) (by kernel_rfl) (by decide) (by rfl) 5
noncomputable def dLib_25_13_37 : List (Nat × Spec) := (37, r37_s) :: dLib_25_13
theorem dLib_25_13_37_ok : SpecsOk dE (ofList dLib_25_13_37) := .cons r37_ok dLib_25_13_ok
/-- 'strings.SplitSeq', as it runs. -/
noncomputable def r23_live : Nat → List Nat × List (Nat × TypeId) := fun h => ([], [])
noncomputable def r23_X (sm : List Nat) : Fx := ⟨tyOf Tryd.prog, ofList dLib_25_13_37, sm, r23_live⟩
noncomputable def r23_s : Spec := .wide (wideOf (tyOf Tryd.prog) (coreRun r23_X (tyOf Tryd.prog) 5 Tryd.f23))
theorem r23_ok : SpecOk dE 23 r23_s := wide_of_self dE_ok (fun sm => ⟨dfx_ok dLib_25_13_37_ok sm r23_live, rfl⟩) (by kernel_rfl) (by decide) (by rfl) 5
noncomputable def dLib_25_13_37_23 : List (Nat × Spec) := (23, r23_s) :: dLib_25_13_37
theorem dLib_25_13_37_23_ok : SpecsOk dE (ofList dLib_25_13_37_23) := .cons r23_ok dLib_25_13_37_ok
/-- 'hamper/seqset.Parse', as it runs. -/
noncomputable def r17_live : Nat → List Nat × List (Nat × TypeId) := fun h => bif Nat.beq h 3 then ([2, 3, 4, 11], nilsOf (tyOf Tryd.prog) [(2, 0), (3, 0), (4, 0), (11, 50)]) else ([], [])
noncomputable def r17_X (sm : List Nat) : Fx := ⟨tyOf Tryd.prog, ofList dLib_25_13_37_23, sm, r17_live⟩
/-- The slots that are needed at the loops' heads of 'strings.splitSeq$1'. -/
noncomputable def i45_live : Nat → List Nat × List (Nat × TypeId) := fun h => bif Nat.beq h 5 then ([0, 1, 2, 3], nilsOf (tyOf Tryd.prog) [(0, 76)]) else bif Nat.beq h 1 then ([0, 2], nilsOf (tyOf Tryd.prog) [(0, 76)]) else ([], [])
noncomputable def r17_I : Inl := inlOf [(45, Tryd.f45, i45_live)]
theorem r17_Iok : InlOk dE r17_I := (.cons (by kernel_rfl) (by decide) .nil)
noncomputable def r17_s : Spec := .plain (plainRunR (r17_X []) r17_I 20 Tryd.f17)
theorem r17_ok : SpecOk dE 17 r17_s := plain_of_selfR (dfx_ok dLib_25_13_37_23_ok [] r17_live) r17_Iok (by kernel_rfl) (by decide) (by rfl) 20
noncomputable def dLib_25_13_37_23_17 : List (Nat × Spec) := (17, r17_s) :: dLib_25_13_37_23
theorem dLib_25_13_37_23_17_ok : SpecsOk dE (ofList dLib_25_13_37_23_17) := .cons r17_ok dLib_25_13_37_23_ok
/-- 'hamper/hamperlaw25.spans', as it runs. -/
noncomputable def r18_live : Nat → List Nat × List (Nat × TypeId) := fun h => bif Nat.beq h 4 then ([0, 1, 5], nilsOf (tyOf Tryd.prog) [(0, 22), (1, 22), (5, 3)]) else ([], [])
noncomputable def r18_X (sm : List Nat) : Fx := ⟨tyOf Tryd.prog, ofList dLib_25_13_37_23_17, sm, r18_live⟩
noncomputable def r18_s : Spec := .wide (wideOf (tyOf Tryd.prog) (coreRun r18_X (tyOf Tryd.prog) 20 Tryd.f18))
theorem r18_ok : SpecOk dE 18 r18_s := wide_of_self dE_ok (fun sm => ⟨dfx_ok dLib_25_13_37_23_17_ok sm r18_live, rfl⟩) (by kernel_rfl) (by decide) (by rfl) 20
noncomputable def dLib_25_13_37_23_17_18 : List (Nat × Spec) := (18, r18_s) :: dLib_25_13_37_23_17
theorem dLib_25_13_37_23_17_18_ok : SpecsOk dE (ofList dLib_25_13_37_23_17_18) := .cons r18_ok dLib_25_13_37_23_17_ok
/-- 'hamper/seqset.Has$1', as it runs. -/
noncomputable def r12_live : Nat → List Nat × List (Nat × TypeId) := fun h => ([], [])
noncomputable def r12_X (sm : List Nat) : Fx := ⟨tyOf Tryd.prog, ofList dLib_25_13_37_23_17_18, sm, r12_live⟩
noncomputable def r12_s : Spec := .wide (wideOf (tyOf Tryd.prog) (coreRun r12_X (tyOf Tryd.prog) 5 Tryd.f12))
theorem r12_ok : SpecOk dE 12 r12_s := wide_of_self dE_ok (fun sm => ⟨dfx_ok dLib_25_13_37_23_17_18_ok sm r12_live, rfl⟩) (by kernel_rfl) (by decide) (by rfl) 5
noncomputable def dLib_25_13_37_23_17_18_12 : List (Nat × Spec) := (12, r12_s) :: dLib_25_13_37_23_17_18
theorem dLib_25_13_37_23_17_18_12_ok : SpecsOk dE (ofList dLib_25_13_37_23_17_18_12) := .cons r12_ok dLib_25_13_37_23_17_18_ok
/-- 'slices.IndexFunc[[]hamper/api.Span,hamper/api.Span]', as it runs. -/
noncomputable def r20_live : Nat → List Nat × List (Nat × TypeId) := fun h => bif Nat.beq h 2 then ([0, 1, 7, 8], nilsOf (tyOf Tryd.prog) [(0, 22), (1, 38), (7, 3), (8, 3)]) else ([], [])
noncomputable def r20_X (sm : List Nat) : Fx := ⟨tyOf Tryd.prog, ofList dLib_25_13_37_23_17_18_12, sm, r20_live⟩
noncomputable def r20_s : Spec := .wide (wideOf (tyOf Tryd.prog) (coreRun r20_X (tyOf Tryd.prog) 20 Tryd.f20))
theorem r20_ok : SpecOk dE 20 r20_s := wide_of_self dE_ok (fun sm => ⟨dfx_ok dLib_25_13_37_23_17_18_12_ok sm r20_live, rfl⟩) (by kernel_rfl) (by decide) (by rfl) 20
noncomputable def dLib_25_13_37_23_17_18_12_20 : List (Nat × Spec) := (20, r20_s) :: dLib_25_13_37_23_17_18_12
theorem dLib_25_13_37_23_17_18_12_20_ok : SpecsOk dE (ofList dLib_25_13_37_23_17_18_12_20) := .cons r20_ok dLib_25_13_37_23_17_18_12_ok
/-- 'slices.ContainsFunc[[]hamper/api.Span,hamper/api.Span]', as it runs. -/
noncomputable def r11_live : Nat → List Nat × List (Nat × TypeId) := fun h => ([], [])
noncomputable def r11_X (sm : List Nat) : Fx := ⟨tyOf Tryd.prog, ofList dLib_25_13_37_23_17_18_12_20, sm, r11_live⟩
noncomputable def r11_s : Spec := .wide (wideOf (tyOf Tryd.prog) (coreRun r11_X (tyOf Tryd.prog) 20 Tryd.f11))
theorem r11_ok : SpecOk dE 11 r11_s := wide_of_self dE_ok (fun sm => ⟨dfx_ok dLib_25_13_37_23_17_18_12_20_ok sm r11_live, rfl⟩) (by kernel_rfl) (by decide) (by rfl) 20
noncomputable def dLib_25_13_37_23_17_18_12_20_11 : List (Nat × Spec) := (11, r11_s) :: dLib_25_13_37_23_17_18_12_20
theorem dLib_25_13_37_23_17_18_12_20_11_ok : SpecsOk dE (ofList dLib_25_13_37_23_17_18_12_20_11) := .cons r11_ok dLib_25_13_37_23_17_18_12_20_ok
/-- 'hamper/seqset.Has', as it runs. -/
noncomputable def r5_live : Nat → List Nat × List (Nat × TypeId) := fun h => ([], [])
noncomputable def r5_X (sm : List Nat) : Fx := ⟨tyOf Tryd.prog, ofList dLib_25_13_37_23_17_18_12_20_11, sm, r5_live⟩
noncomputable def r5_s : Spec := .wide (wideOf (tyOf Tryd.prog) (coreRun r5_X (tyOf Tryd.prog) 20 Tryd.f5))
theorem r5_ok : SpecOk dE 5 r5_s := wide_of_self dE_ok (fun sm => ⟨dfx_ok dLib_25_13_37_23_17_18_12_20_11_ok sm r5_live, rfl⟩) (by kernel_rfl) (by decide) (by rfl) 20
noncomputable def dLib_25_13_37_23_17_18_12_20_11_5 : List (Nat × Spec) := (5, r5_s) :: dLib_25_13_37_23_17_18_12_20_11
theorem dLib_25_13_37_23_17_18_12_20_11_5_ok : SpecsOk dE (ofList dLib_25_13_37_23_17_18_12_20_11_5) := .cons r5_ok dLib_25_13_37_23_17_18_12_20_11_ok
/-- 'hamper/seqset.Places', as it runs. -/
noncomputable def r7_live : Nat → List Nat × List (Nat × TypeId) := fun h => bif Nat.beq h 9 then ([0, 1, 6, 9, 10, 12, 13], nilsOf (tyOf Tryd.prog) [(0, 22), (1, 3), (6, 25), (9, 3), (10, 3), (12, 3), (13, 3)]) else bif Nat.beq h 3 then ([0, 1, 6, 12, 13], nilsOf (tyOf Tryd.prog) [(0, 22), (1, 3), (6, 25), (12, 3), (13, 3)]) else ([], [])
noncomputable def r7_X (sm : List Nat) : Fx := ⟨tyOf Tryd.prog, ofList dLib_25_13_37_23_17_18_12_20_11_5, sm, r7_live⟩
noncomputable def r7_s : Spec := .wide (wideOf (tyOf Tryd.prog) (coreRun r7_X (tyOf Tryd.prog) 30 Tryd.f7))
theorem r7_ok : SpecOk dE 7 r7_s := wide_of_self dE_ok (fun sm => ⟨dfx_ok dLib_25_13_37_23_17_18_12_20_11_5_ok sm r7_live, rfl⟩) (by kernel_rfl) (by decide) (by rfl) 30
noncomputable def dLib_25_13_37_23_17_18_12_20_11_5_7 : List (Nat × Spec) := (7, r7_s) :: dLib_25_13_37_23_17_18_12_20_11_5
theorem dLib_25_13_37_23_17_18_12_20_11_5_7_ok : SpecsOk dE (ofList dLib_25_13_37_23_17_18_12_20_11_5_7) := .cons r7_ok dLib_25_13_37_23_17_18_12_20_11_5_ok
/-- 'hamper/hamperlaw25.same', as it runs. -/
noncomputable def r9_live : Nat → List Nat × List (Nat × TypeId) := fun h => bif Nat.beq h 4 then ([0, 1, 5], nilsOf (tyOf Tryd.prog) [(0, 25), (1, 25), (5, 3)]) else ([], [])
noncomputable def r9_X (sm : List Nat) : Fx := ⟨tyOf Tryd.prog, ofList dLib_25_13_37_23_17_18_12_20_11_5_7, sm, r9_live⟩
noncomputable def r9_s : Spec := .wide (wideOf (tyOf Tryd.prog) (coreRun r9_X (tyOf Tryd.prog) 20 Tryd.f9))
theorem r9_ok : SpecOk dE 9 r9_s := wide_of_self dE_ok (fun sm => ⟨dfx_ok dLib_25_13_37_23_17_18_12_20_11_5_7_ok sm r9_live, rfl⟩) (by kernel_rfl) (by decide) (by rfl) 20
noncomputable def dLib_25_13_37_23_17_18_12_20_11_5_7_9 : List (Nat × Spec) := (9, r9_s) :: dLib_25_13_37_23_17_18_12_20_11_5_7
theorem dLib_25_13_37_23_17_18_12_20_11_5_7_9_ok : SpecsOk dE (ofList dLib_25_13_37_23_17_18_12_20_11_5_7_9) := .cons r9_ok dLib_25_13_37_23_17_18_12_20_11_5_7_ok
/-- 'hamper/seqset.Of', as it runs. -/
noncomputable def r19_live : Nat → List Nat × List (Nat × TypeId) := fun h => bif Nat.beq h 3 then ([0, 1, 5, 8, 9, 10], nilsOf (tyOf Tryd.prog) [(0, 22), (1, 25), (5, 25), (8, 25), (9, 3), (10, 3)]) else ([], [])
noncomputable def r19_X (sm : List Nat) : Fx := ⟨tyOf Tryd.prog, ofList dLib_25_13_37_23_17_18_12_20_11_5_7_9, sm, r19_live⟩
noncomputable def r19_s : Spec := .wide (wideOf (tyOf Tryd.prog) (coreRun r19_X (tyOf Tryd.prog) 20 Tryd.f19))
theorem r19_ok : SpecOk dE 19 r19_s := wide_of_self dE_ok (fun sm => ⟨dfx_ok dLib_25_13_37_23_17_18_12_20_11_5_7_9_ok sm r19_live, rfl⟩) (by kernel_rfl) (by decide) (by rfl) 20
noncomputable def dLib_25_13_37_23_17_18_12_20_11_5_7_9_19 : List (Nat × Spec) := (19, r19_s) :: dLib_25_13_37_23_17_18_12_20_11_5_7_9
theorem dLib_25_13_37_23_17_18_12_20_11_5_7_9_19_ok : SpecsOk dE (ofList dLib_25_13_37_23_17_18_12_20_11_5_7_9_19) := .cons r19_ok dLib_25_13_37_23_17_18_12_20_11_5_7_9_ok
/-- 'hamper/hamperlaw25.awake', as it runs. -/
noncomputable def r10_live : Nat → List Nat × List (Nat × TypeId) := fun h => ([], [])
noncomputable def r10_X (sm : List Nat) : Fx := ⟨tyOf Tryd.prog, ofList dLib_25_13_37_23_17_18_12_20_11_5_7_9_19, sm, r10_live⟩
noncomputable def r10_s : Spec := .plain (plainRun (r10_X []) 20 Tryd.f10)
theorem r10_ok : SpecOk dE 10 r10_s := plain_of_self (dfx_ok dLib_25_13_37_23_17_18_12_20_11_5_7_9_19_ok [] r10_live) (by kernel_rfl) (by decide) (by rfl) 20
noncomputable def dLib_25_13_37_23_17_18_12_20_11_5_7_9_19_10 : List (Nat × Spec) := (10, r10_s) :: dLib_25_13_37_23_17_18_12_20_11_5_7_9_19
theorem dLib_25_13_37_23_17_18_12_20_11_5_7_9_19_10_ok : SpecsOk dE (ofList dLib_25_13_37_23_17_18_12_20_11_5_7_9_19_10) := .cons r10_ok dLib_25_13_37_23_17_18_12_20_11_5_7_9_19_ok
end Sx

/-
  What the executor says of functions: the normal forms, each compared by the kernel. (Printed by a program.)
-/
set_option linter.unusedVariables false
namespace Sx
open Go Go.Proofs
set_option maxRecDepth 100000
/-- The slots that are needed at the loops' heads of 'hamper/hamperlaw25.Few'. -/
noncomputable def f4_live : Nat → List Nat × List (Nat × TypeId) := fun h => ([], [])
noncomputable def f4_X : Fx := ⟨tyOf Tryd.prog, ofList dLib, [], f4_live⟩
/-- The slots that are needed at the loops' heads of 'hamper/seqset.ends'. -/
noncomputable def f13_live : Nat → List Nat × List (Nat × TypeId) := fun h => ([], [])
noncomputable def f13_X : Fx := ⟨tyOf Tryd.prog, ofList dLib, [], f13_live⟩
/-- The slots that are needed at the loops' heads of 'hamper/hamperref25.Ends'. -/
noncomputable def f14_live : Nat → List Nat × List (Nat × TypeId) := fun h => ([], [])
noncomputable def f14_X : Fx := ⟨tyOf Tryd.prog, ofList dLib, [], f14_live⟩
noncomputable def f4_T (l : List SV) : Tr SV := Tr.br (decide ((↑(List.length l) : Int) > (66 : Int))) (Tr.br (decide ((66 : Int) ≤ (↑(List.length l) : Int)) && true) (Tr.leaf (SV.lst (35 : Nat) (List.drop (0 : Nat) (List.take (66 : Nat) l)))) Tr.no)
  (Tr.leaf (SV.lst (35 : Nat) l))
theorem f4_eq (fu : Nat) (l : List SV) : evFun f4_X fu Tryd.f4 (frz f4_X.Ty Tryd.f4) [.lst 35 l] [] [] = (f4_T l).opt1 := by kernel_rfl

noncomputable def f13_T (a : Int) (b : Int) (g : Int) : Tr SV := Tr.br (a == (0 : Int))
  (Tr.br (b == (0 : Int)) (Tr.leaf (SV.tup [SV.int IntKind.i64 (if g < g then g else g), SV.int IntKind.i64 (if g < g then g else g)]))
    (Tr.leaf (SV.tup [SV.int IntKind.i64 (if b < g then b else g), SV.int IntKind.i64 (if g < b then b else g)])))
  (Tr.br (b == (0 : Int)) (Tr.leaf (SV.tup [SV.int IntKind.i64 (if g < a then g else a), SV.int IntKind.i64 (if a < g then g else a)]))
    (Tr.leaf (SV.tup [SV.int IntKind.i64 (if b < a then b else a), SV.int IntKind.i64 (if a < b then b else a)])))
theorem f13_eq (fu : Nat) (a : Int) (b : Int) (g : Int) : evFun f13_X fu Tryd.f13 (frz f13_X.Ty Tryd.f13) [.agg [.int .i64 a, .int .i64 b], .int .i64 g] [] [] = (f13_T a b g).opt1 := by kernel_rfl

noncomputable def f14_T (a : Int) (b : Int) (g : Int) : Tr SV := Tr.br (a == (0 : Int))
  (Tr.br (b == (0 : Int)) (Tr.br (decide (g > g)) (Tr.leaf (SV.tup [SV.int IntKind.i64 g, SV.int IntKind.i64 g])) (Tr.leaf (SV.tup [SV.int IntKind.i64 g, SV.int IntKind.i64 g])))
    (Tr.br (decide (g > b)) (Tr.leaf (SV.tup [SV.int IntKind.i64 b, SV.int IntKind.i64 g])) (Tr.leaf (SV.tup [SV.int IntKind.i64 g, SV.int IntKind.i64 b]))))
  (Tr.br (b == (0 : Int)) (Tr.br (decide (a > g)) (Tr.leaf (SV.tup [SV.int IntKind.i64 g, SV.int IntKind.i64 a])) (Tr.leaf (SV.tup [SV.int IntKind.i64 a, SV.int IntKind.i64 g])))
    (Tr.br (decide (a > b)) (Tr.leaf (SV.tup [SV.int IntKind.i64 b, SV.int IntKind.i64 a])) (Tr.leaf (SV.tup [SV.int IntKind.i64 a, SV.int IntKind.i64 b]))))
theorem f14_eq (fu : Nat) (a : Int) (b : Int) (g : Int) : evFun f14_X fu Tryd.f14 (frz f14_X.Ty Tryd.f14) [.agg [.int .i64 a, .int .i64 b], .int .i64 g] [] [] = (f14_T a b g).opt1 := by kernel_rfl

noncomputable def g4 : List SV → Option (Bool × SV)
  | [.lst 35 l] => gOf (f4_T l)
  | _ => none
theorem f4_ok : SpecOk dE 4 (.plain g4) :=
  plain_of_run (dfx_ok dLib_ok [] f4_live) (fn := Tryd.f4) (by kernel_rfl) (by decide) (by rfl) (plain_of_g (f := 4) (dfx_ok dLib_ok [] f4_live) (fn := Tryd.f4) (by kernel_rfl) (by decide) (by rfl) (fun args => by
    unfold g4
    split
    · exact .inr ⟨0, _, rfl, rfl, f4_eq 0 _⟩
    · exact .inl rfl))

noncomputable def g13 : List SV → Option (Bool × SV)
  | [.agg [.int .i64 a, .int .i64 b], .int .i64 g] => gOf (f13_T a b g)
  | _ => none
theorem f13_ok : SpecOk dE 13 (.plain g13) :=
  plain_of_run (dfx_ok dLib_ok [] f13_live) (fn := Tryd.f13) (by kernel_rfl) (by decide) (by rfl) (plain_of_g (f := 13) (dfx_ok dLib_ok [] f13_live) (fn := Tryd.f13) (by kernel_rfl) (by decide) (by rfl) (fun args => by
    unfold g13
    split
    · exact .inr ⟨0, _, rfl, rfl, f13_eq 0 _ _ _⟩
    · exact .inl rfl))

noncomputable def g14 : List SV → Option (Bool × SV)
  | [.agg [.int .i64 a, .int .i64 b], .int .i64 g] => gOf (f14_T a b g)
  | _ => none
theorem f14_ok : SpecOk dE 14 (.plain g14) :=
  plain_of_run (dfx_ok dLib_ok [] f14_live) (fn := Tryd.f14) (by kernel_rfl) (by decide) (by rfl) (plain_of_g (f := 14) (dfx_ok dLib_ok [] f14_live) (fn := Tryd.f14) (by kernel_rfl) (by decide) (by rfl) (fun args => by
    unfold g14
    split
    · exact .inr ⟨0, _, rfl, rfl, f14_eq 0 _ _ _⟩
    · exact .inl rfl))

end Sx

/-
  A span's ends, and no more than 66 spans.
-/
set_option linter.unusedVariables false
set_option linter.unusedSimpArgs false
namespace Sx
open Go Go.Proofs

/-- An end; 0 is the greatest. -/
def e0 (a g : Int) : Int := bif a == 0 then g else a
def loS (a b g : Int) : Int := bif decide (e0 a g > e0 b g) then e0 b g else e0 a g
def hiS (a b g : Int) : Int := bif decide (e0 a g > e0 b g) then e0 a g else e0 b g
def gEnds : List SV → Option (Bool × SV)
  | [.agg [.int .i64 a, .int .i64 b], .int .i64 g] => some (true, .tup [.int .i64 (loS a b g), .int .i64 (hiS a b g)])
  | _ => none
def gFew : List SV → Option (Bool × SV)
  | [.lst 35 l] => some (true, .lst 35 (l.take 66))
  | _ => none
theorem tup2 {A B C D : Int} (h : A = C) (k : B = D) : some (SV.tup [.int .i64 A, .int .i64 B]) = some (SV.tup [.int .i64 C, .int .i64 D]) := by rw [h, k]
theorem dEnds_ok : SpecOk dE 13 (.plain gEnds) := by
  refine plain_of_run (dfx_ok dLib_ok [] f13_live) (fn := Tryd.f13) (by kernel_rfl) (by decide) (by rfl) (fun args sv h => ?_)
  unfold gEnds at h
  split at h
  · rename_i a b g
    simp only [Option.some.injEq, Prod.mk.injEq, true_and] at h
    subst h
    refine ⟨rfl, rfl, 0, ?_⟩
    show evFun f13_X 0 Tryd.f13 (frz f13_X.Ty Tryd.f13) [.agg [.int .i64 a, .int .i64 b], .int .i64 g] [] [] = _
    rw [f13_eq]
    unfold f13_T loS hiS e0
    cases a == 0 <;> cases b == 0 <;> simp only [cond_true, cond_false, Tr.opt1] <;> simp only [cond_eq_ite, decide_eq_true_eq] <;> refine tup2 ?_ ?_ <;> (repeat' split) <;> omega
  · cases h
theorem rEnds_ok : SpecOk dE 14 (.plain gEnds) := by
  refine plain_of_run (dfx_ok dLib_ok [] f14_live) (fn := Tryd.f14) (by kernel_rfl) (by decide) (by rfl) (fun args sv h => ?_)
  unfold gEnds at h
  split at h
  · rename_i a b g
    simp only [Option.some.injEq, Prod.mk.injEq, true_and] at h
    subst h
    refine ⟨rfl, rfl, 0, ?_⟩
    show evFun f14_X 0 Tryd.f14 (frz f14_X.Ty Tryd.f14) [.agg [.int .i64 a, .int .i64 b], .int .i64 g] [] [] = _
    rw [f14_eq]
    unfold f14_T loS hiS e0
    cases a == 0 <;> cases b == 0 <;> simp only [cond_true, cond_false, Tr.opt1] <;> simp only [cond_eq_ite, decide_eq_true_eq] <;> (repeat' split) <;> first | rfl | (exfalso; omega)
  · cases h
theorem dFew_ok : SpecOk dE 4 (.plain gFew) := by
  refine plain_of_run (dfx_ok dLib_ok [] f4_live) (fn := Tryd.f4) (by kernel_rfl) (by decide) (by rfl) (fun args sv h => ?_)
  unfold gFew at h
  split at h
  · rename_i l
    simp only [Option.some.injEq, Prod.mk.injEq, true_and] at h
    subst h
    refine ⟨rfl, rfl, 0, ?_⟩
    show evFun f4_X 0 Tryd.f4 (frz f4_X.Ty Tryd.f4) [.lst 35 l] [] [] = _
    rw [f4_eq]
    unfold f4_T
    by_cases h : (l.length : Int) > 66
    · have h2 : (66 : Int) ≤ (l.length : Int) := by omega
      simp only [decide_eq_true h, decide_eq_true h2, cond_true, Bool.and_true, Tr.opt1, List.drop_zero]
    · simp only [decide_eq_false h, cond_false, Tr.opt1]
      rw [List.take_of_length_le (by omega)]
  · cases h
def dT1 : List (Nat × Spec) := (13, .plain gEnds) :: (14, .plain gEnds) :: (4, .plain gFew) :: dLib
theorem dT1_ok : SpecsOk dE (ofList dT1) := .cons dEnds_ok (.cons rEnds_ok (.cons dFew_ok dLib_ok))
end Sx

/-
  What the executor says of functions: the normal forms, each compared by the kernel. (Printed by a program.)
-/
set_option linter.unusedVariables false
namespace Sx
open Go Go.Proofs
set_option maxRecDepth 100000
/-- The slots that are needed at the loops' heads of 'hamper/seqset.Has$1'. -/
noncomputable def f12_live : Nat → List Nat × List (Nat × TypeId) := fun h => ([], [])
noncomputable def f12_X (sm : List Nat) : Fx := ⟨tyOf Tryd.prog, ofList dT1, sm, f12_live⟩
/-- The slots that are needed at the loops' heads of 'hamper/hamperref25.Has'. -/
noncomputable def f6_live : Nat → List Nat × List (Nat × TypeId) := fun h => bif Nat.beq h 2 then ([0, 1, 2, 7], nilsOf (tyOf Tryd.prog) [(0, 22), (1, 3), (2, 3), (7, 3)]) else ([], [])
noncomputable def f6_X : Fx := ⟨tyOf Tryd.prog, ofList dT1, [], f6_live⟩
/-- The slots that are needed at the loops' heads of 'hamper/hamperlaw25.same'. -/
noncomputable def f9_live : Nat → List Nat × List (Nat × TypeId) := fun h => bif Nat.beq h 4 then ([0, 1, 5], nilsOf (tyOf Tryd.prog) [(0, 25), (1, 25), (5, 3)]) else ([], [])
noncomputable def f9_X : Fx := ⟨tyOf Tryd.prog, ofList dT1, [], f9_live⟩
noncomputable def f12_T (a : Int) (b : Int) (g : Int) (n : Int) : Tr (SV × Mem) := Tr.br (decide (n ≥ loS a b g)) (Tr.leaf (SV.bool (decide (n ≤ hiS a b g)), [((0 : Nat), SObj.box (3 : Nat) [SV.int IntKind.i64 g]), ((1 : Nat), SObj.box (3 : Nat) [SV.int IntKind.i64 n])]))
  (Tr.leaf (SV.bool false, [((0 : Nat), SObj.box (3 : Nat) [SV.int IntKind.i64 g]), ((1 : Nat), SObj.box (3 : Nat) [SV.int IntKind.i64 n])]))
theorem f12_eq (fu : Nat) (a : Int) (b : Int) (g : Int) (n : Int) : evFun (f12_X [0, 1]) fu Tryd.f12 (finW (tyOf Tryd.prog) [0, 1] 2) [.agg [.int .i64 a, .int .i64 b], .box 0 0, .box 1 0] [(0, .box 3 [.int .i64 g]), (1, .box 3 [.int .i64 n])] [0, 1] = (f12_T a b g n).opt := by kernel_rfl

def f6_st2 (x0 : List SV) (x1 : Int) (x2 : Int) (x3 : Int) : St := St.mk
  [SV.lst (35 : Nat) x0, SV.int IntKind.i64 x1, SV.int IntKind.i64 x2, SV.dead, SV.dead, SV.dead, SV.dead, SV.int IntKind.i64 x3, SV.dead, SV.dead, SV.dead, SV.dead, SV.dead, SV.dead, SV.dead, SV.dead, SV.dead, SV.dead,
    SV.dead, SV.dead, SV.dead, SV.dead, SV.dead, SV.dead, SV.dead, SV.dead, SV.dead, SV.dead, SV.dead, SV.dead, SV.dead, SV.dead, SV.dead, SV.dead, SV.dead, SV.dead, SV.dead, SV.dead, SV.dead, SV.dead, SV.dead]
  [] []
noncomputable def f6_L2 (fu fm : Nat) (x0 : List SV) (x1 : Int) (x2 : Int) (x3 : Int) : Option (SV) := atLoop f6_X Tryd.f6 (frz f6_X.Ty Tryd.f6) fu [.r, .l, .r, .b] fm (f6_st2 x0 x1 x2 x3)

theorem f6_L2_eq (fu fm : Nat) (x0 : List SV) (x1 : Int) (x2 : Int) (x3 : Int) : f6_L2 fu (fm + 1) x0 x1 x2 x3 = bif decide (x3 < (↑(List.length x0) : Int)) then
  bif decide ((0 : Int) ≤ x3) && decide (x3 < (↑(List.length x0) : Int)) then
    bif decide (loS (asInt (List.getD (cellsOf (List.getD x0 (Int.toNat x3) SV.dead)) (0 : Nat) SV.dead)) (asInt (List.getD (cellsOf (List.getD x0 (Int.toNat x3) SV.dead)) (1 : Nat) SV.dead)) x2 ≤ x1) then
      bif decide (x1 ≤ hiS (asInt (List.getD (cellsOf (List.getD x0 (Int.toNat x3) SV.dead)) (0 : Nat) SV.dead)) (asInt (List.getD (cellsOf (List.getD x0 (Int.toNat x3) SV.dead)) (1 : Nat) SV.dead)) x2) then
        bif decide (x1 ≥ (1 : Int)) then bif decide (x2 ≥ (1 : Int)) then some (SV.bool true) else f6_L2 fu fm x0 x1 x2 (IntKind.wrap IntKind.i64 (x3 + (1 : Int)))
        else f6_L2 fu fm x0 x1 x2 (IntKind.wrap IntKind.i64 (x3 + (1 : Int)))
      else f6_L2 fu fm x0 x1 x2 (IntKind.wrap IntKind.i64 (x3 + (1 : Int)))
    else f6_L2 fu fm x0 x1 x2 (IntKind.wrap IntKind.i64 (x3 + (1 : Int)))
  else none
  else some (SV.bool false) := by kernel_rfl

theorem f6_eq (fu : Nat) (l : List SV) (n : Int) (g : Int) : evFun f6_X fu Tryd.f6 (frz f6_X.Ty Tryd.f6) [.lst 35 l, .int .i64 n, .int .i64 g] [] [] = f6_L2 fu fu l n g (0 : Int) := by kernel_rfl

def f9_st4 (x0 : List SV) (x1 : List SV) (x2 : Int) : St := St.mk
  [SV.lst (3 : Nat) x0, SV.lst (3 : Nat) x1, SV.dead, SV.dead, SV.dead, SV.int IntKind.i64 x2, SV.dead, SV.dead, SV.dead, SV.dead, SV.dead, SV.dead, SV.dead, SV.dead, SV.dead, SV.dead, SV.dead, SV.dead, SV.dead, SV.dead,
    SV.dead, SV.dead, SV.dead, SV.dead, SV.dead, SV.dead]
  [] []
noncomputable def f9_L4 (fu fm : Nat) (x0 : List SV) (x1 : List SV) (x2 : Int) : Option (SV) := atLoop f9_X Tryd.f9 (frz f9_X.Ty Tryd.f9) fu [.r, .r, .l, .r, .b] fm (f9_st4 x0 x1 x2)

theorem f9_L4_eq (fu fm : Nat) (x0 : List SV) (x1 : List SV) (x2 : Int) : f9_L4 fu (fm + 1) x0 x1 x2 = bif decide (x2 < (↑(List.length x0) : Int)) then
  bif decide ((0 : Int) ≤ x2) && decide (x2 < (↑(List.length x0) : Int)) then
    bif decide ((0 : Int) ≤ x2) && decide (x2 < (↑(List.length x1) : Int)) then
      bif asInt (List.getD (cellsOf (List.getD x0 (Int.toNat x2) SV.dead)) (0 : Nat) SV.dead) != asInt (List.getD (cellsOf (List.getD x1 (Int.toNat x2) SV.dead)) (0 : Nat) SV.dead) then some (SV.bool false)
      else f9_L4 fu fm x0 x1 (IntKind.wrap IntKind.i64 (x2 + (1 : Int)))
    else none
  else none
  else some (SV.bool true) := by kernel_rfl

theorem f9_eq (fu : Nat) (l : List SV) (k : List SV) : evFun f9_X fu Tryd.f9 (frz f9_X.Ty Tryd.f9) [.lst 3 l, .lst 3 k] [] [] = bif (↑(List.length l) : Int) != (↑(List.length k) : Int) then some (SV.bool false) else f9_L4 fu fu l k (0 : Int) := by kernel_rfl

noncomputable def c12 : List SV → Mem → Tr (SV × Mem)
  | [.agg [.int .i64 a, .int .i64 b], .box 0 0, .box 1 0], [(0, .box 3 [.int .i64 g]), (1, .box 3 [.int .i64 n])] => squash (f12_T a b g n)
  | _, _ => .no
theorem f12_ok : SpecOk dE 12 (.wide (wideOf (tyOf Tryd.prog) c12)) :=
  wide_of_sq dE_ok (fun sm => ⟨dfx_ok dT1_ok sm f12_live, rfl⟩) (fn := Tryd.f12) (by kernel_rfl) (by decide) (by rfl) (fun args m => by
    unfold c12
    split
    · exact .inr ⟨0, _, rfl, f12_eq 0 _ _ _ _⟩
    · exact .inl rfl)

end Sx

/-
  Is a number within a span? The closure of Has.
-/
set_option linter.unusedVariables false
set_option linter.unusedSimpArgs false
namespace Sx
open Go Go.Proofs

def inS (a b n g : Int) : Bool := decide (n ≥ loS a b g) && decide (n ≤ hiS a b g)
def spA (x : SV) : Int := asInt (List.getD (cellsOf x) 0 SV.dead)
def spB (x : SV) : Int := asInt (List.getD (cellsOf x) 1 SV.dead)
noncomputable def hC12 : List SV → Mem → Tr (SV × Mem)
  | [.agg [.int .i64 a, .int .i64 b], .box 0 0, .box 1 0], [(0, .box 3 [.int .i64 g]), (1, .box 3 [.int .i64 n])] => .leaf (.bool (inS a b n g), [(0, .box 3 [.int .i64 g]), (1, .box 3 [.int .i64 n])])
  | _, _ => .no
theorem h12_ok : SpecOk dE 12 (.wide (wideOf (tyOf Tryd.prog) hC12)) :=
  wide_of_eq dE_ok (fun sm => ⟨dfx_ok dT1_ok sm f12_live, rfl⟩) (fn := Tryd.f12) (by kernel_rfl) (by decide) (by rfl) (fun args m => by
    unfold hC12
    split
    · rename_i a b g n
      refine .inr ⟨0, (f12_eq 0 a b g n).trans ?_⟩
      unfold f12_T inS
      cases decide (n ≥ loS a b g) <;> rfl
    · exact .inl rfl)
noncomputable def dT2 : List (Nat × Spec) := (12, .wide (wideOf (tyOf Tryd.prog) hC12)) :: dT1
theorem dT2_ok : SpecsOk dE (ofList dT2) := .cons h12_ok dT1_ok
end Sx

/-
  What the executor says of functions: the normal forms, each compared by the kernel. (Printed by a program.)
-/
set_option linter.unusedVariables false
namespace Sx
open Go Go.Proofs
set_option maxRecDepth 100000
/-- The slots that are needed at the loops' heads of 'slices.IndexFunc[[]hamper/api.Span,hamper/api.Span]'. -/
noncomputable def f20_live : Nat → List Nat × List (Nat × TypeId) := fun h => bif Nat.beq h 2 then ([0, 1, 7, 8], nilsOf (tyOf Tryd.prog) [(0, 22), (1, 38), (7, 3), (8, 3)]) else ([], [])
noncomputable def f20_X (sm : List Nat) : Fx := ⟨tyOf Tryd.prog, ofList dT2, sm, f20_live⟩
def f20_st2 (x0 : List SV) (x1 : Int) (x2 : Int) (x3 : Int) (x4 : Int) : St := St.mk
  [SV.lst (35 : Nat) x0, SV.fn (Fn.func (12 : Nat)) [] [SV.box (0 : Nat) (0 : Nat), SV.box (1 : Nat) (0 : Nat)], SV.dead, SV.dead, SV.dead, SV.dead, SV.dead, SV.int IntKind.i64 x1, SV.int IntKind.i64 x2, SV.dead,
    SV.dead, SV.dead, SV.dead, SV.dead, SV.dead, SV.dead, SV.dead, SV.dead, SV.dead]
  [((0 : Nat), SObj.box (3 : Nat) [SV.int IntKind.i64 x3]), ((1 : Nat), SObj.box (3 : Nat) [SV.int IntKind.i64 x4])] [(0 : Nat), (1 : Nat)]
noncomputable def f20_L2 (fu fm : Nat) (x0 : List SV) (x1 : Int) (x2 : Int) (x3 : Int) (x4 : Int) : Option (Option (SV × Mem)) := atLoop (f20_X [0, 1]) Tryd.f20 (finW (tyOf Tryd.prog) [0, 1] 2) fu [.r, .l, .r, .b] fm (f20_st2 x0 x1 x2 x3 x4)

theorem f20_L2_eq (fu fm : Nat) (x0 : List SV) (x1 : Int) (x2 : Int) (x3 : Int) (x4 : Int) : f20_L2 fu (fm + 1) x0 x1 x2 x3 x4 = bif decide (x2 < x1) then
  bif decide ((0 : Int) ≤ x2) && decide (x2 < (↑(List.length x0) : Int)) then
    bif inS (asInt (List.getD (cellsOf (List.getD x0 (Int.toNat x2) SV.dead)) (0 : Nat) SV.dead)) (asInt (List.getD (cellsOf (List.getD x0 (Int.toNat x2) SV.dead)) (1 : Nat) SV.dead)) x4 x3 then
      some (some (SV.int IntKind.i64 x2, [((0 : Nat), SObj.box (3 : Nat) [SV.int IntKind.i64 x3]), ((1 : Nat), SObj.box (3 : Nat) [SV.int IntKind.i64 x4])]))
    else f20_L2 fu fm x0 x1 (IntKind.wrap IntKind.i64 (x2 + (1 : Int))) x3 x4
  else none
  else some (some (SV.int IntKind.i64 (-1 : Int), [((0 : Nat), SObj.box (3 : Nat) [SV.int IntKind.i64 x3]), ((1 : Nat), SObj.box (3 : Nat) [SV.int IntKind.i64 x4])])) := by kernel_rfl

theorem f20_eq (fu : Nat) (l : List SV) (g : Int) (n : Int) : evFun (f20_X [0, 1]) fu Tryd.f20 (finW (tyOf Tryd.prog) [0, 1] 2) [.lst 35 l, .fn (.func 12) [] [.box 0 0, .box 1 0]] [(0, .box 3 [.int .i64 g]), (1, .box 3 [.int .i64 n])] [0, 1] = f20_L2 fu fu l (↑(List.length l) : Int) (0 : Int) g n := by kernel_rfl

end Sx

/-
  Which span is the first that a number is in.
-/
set_option linter.unusedVariables false
set_option linter.unusedSimpArgs false
namespace Sx
open Go Go.Proofs

def idxS (g n : Int) : List SV → Int → Int
  | [], _ => -1
  | x :: r, i => bif inS (spA x) (spB x) n g then i else idxS g n r (i + 1)
def memGN (g n : Int) : Mem := [(0, .box 3 [.int .i64 g]), (1, .box 3 [.int .i64 n])]
theorem L20_is (fu : Nat) (l : List SV) (g n : Int) (hl : l.length < 1000000) : ∀ (k i m : Nat), i + k = l.length → k < m → f20_L2 fu m l (l.length : Int) (i : Int) g n = some (some (.int .i64 (idxS g n (l.drop i) i), memGN g n))
  | 0, i, m, hi, hm => by
    obtain ⟨m, rfl⟩ : ∃ m', m = m' + 1 := ⟨m - 1, by omega⟩
    have h1 : ¬ ((i : Int) < (l.length : Int)) := by omega
    rw [f20_L2_eq]
    simp only [h1, decide_false, cond_false]
    rw [List.drop_of_length_le (by omega)]
    rfl
  | k + 1, i, m, hi, hm => by
    obtain ⟨m, rfl⟩ : ∃ m', m = m' + 1 := ⟨m - 1, by omega⟩
    have hlt : i < l.length := by omega
    have h1 : (i : Int) < (l.length : Int) := by omega
    have h2 : (0 : Int) ≤ (i : Int) := by omega
    have hd : List.getD l i SV.dead = l[i] := by rw [List.getD_eq_getElem?_getD, List.getElem?_eq_getElem hlt]; rfl
    have w1 : IntKind.wrap .i64 ((i : Int) + 1) = ((i + 1 : Nat) : Int) := by rw [wrap_i64 (by omega) (by omega)]; omega
    rw [f20_L2_eq, w1]
    simp only [h1, h2, decide_true, cond_true, Bool.and_self, Int.toNat_natCast, hd]
    rw [List.drop_eq_getElem_cons hlt]
    show (bif inS (spA l[i]) (spB l[i]) n g then _ else _) = some (some (SV.int IntKind.i64 (bif inS (spA l[i]) (spB l[i]) n g then (i : Int) else idxS g n (l.drop (i + 1)) ((i : Int) + 1)), memGN g n))
    cases inS (spA l[i]) (spB l[i]) n g with
    | true => rfl
    | false =>
      simp only [cond_false]
      rw [L20_is fu l g n hl k (i + 1) m (by omega) (by omega)]
      rfl
noncomputable def hC20 : List SV → Mem → Tr (SV × Mem)
  | [.lst 35 l, .fn (.func 12) [] [.box 0 0, .box 1 0]], [(0, .box 3 [.int .i64 g]), (1, .box 3 [.int .i64 n])] => .br (Nat.ble l.length 999999) (.leaf (.int .i64 (idxS g n l 0), [(0, .box 3 [.int .i64 g]), (1, .box 3 [.int .i64 n])])) .no
  | _, _ => .no
theorem h20_ok : SpecOk dE 20 (.wide (wideOf (tyOf Tryd.prog) hC20)) :=
  wide_of_run dE_ok (fun sm => ⟨dfx_ok dT2_ok sm f20_live, rfl⟩) (fn := Tryd.f20) (by kernel_rfl) (by decide) (by rfl) (fun args m x h => by
    unfold hC20 at h
    split at h
    · rename_i l g n
      simp only [pickA, cond_eq_ite] at h
      split at h
      · rename_i hc
        have hc := Nat.le_of_ble_eq_true hc
        cases h
        refine ⟨1000000, (f20_eq 1000000 l g n).trans ?_⟩
        exact L20_is 1000000 l g n (by omega) l.length 0 1000000 (by omega) (by omega)
      · cases h
    · cases h)
noncomputable def dT3 : List (Nat × Spec) := (20, .wide (wideOf (tyOf Tryd.prog) hC20)) :: dT2
theorem dT3_ok : SpecsOk dE (ofList dT3) := .cons h20_ok dT2_ok
end Sx

/-
  What the executor says of functions: the normal forms, each compared by the kernel. (Printed by a program.)
-/
set_option linter.unusedVariables false
namespace Sx
open Go Go.Proofs
set_option maxRecDepth 100000
/-- The slots that are needed at the loops' heads of 'slices.ContainsFunc[[]hamper/api.Span,hamper/api.Span]'. -/
noncomputable def f11_live : Nat → List Nat × List (Nat × TypeId) := fun h => ([], [])
noncomputable def f11_X (sm : List Nat) : Fx := ⟨tyOf Tryd.prog, ofList dT3, sm, f11_live⟩
noncomputable def f11_T (l : List SV) (g : Int) (n : Int) : Tr (SV × Mem) := Tr.br (Nat.ble (List.length l) (999999 : Nat))
  (Tr.leaf (SV.bool (decide (idxS g n l (0 : Int) ≥ (0 : Int))), [((0 : Nat), SObj.box (3 : Nat) [SV.int IntKind.i64 g]), ((1 : Nat), SObj.box (3 : Nat) [SV.int IntKind.i64 n])])) Tr.no
theorem f11_eq (fu : Nat) (l : List SV) (g : Int) (n : Int) : evFun (f11_X [0, 1]) fu Tryd.f11 (finW (tyOf Tryd.prog) [0, 1] 2) [.lst 35 l, .fn (.func 12) [] [.box 0 0, .box 1 0]] [(0, .box 3 [.int .i64 g]), (1, .box 3 [.int .i64 n])] [0, 1] = (f11_T l g n).opt := by kernel_rfl

noncomputable def c11 : List SV → Mem → Tr (SV × Mem)
  | [.lst 35 l, .fn (.func 12) [] [.box 0 0, .box 1 0]], [(0, .box 3 [.int .i64 g]), (1, .box 3 [.int .i64 n])] => squash (f11_T l g n)
  | _, _ => .no
theorem f11_ok : SpecOk dE 11 (.wide (wideOf (tyOf Tryd.prog) c11)) :=
  wide_of_sq dE_ok (fun sm => ⟨dfx_ok dT3_ok sm f11_live, rfl⟩) (fn := Tryd.f11) (by kernel_rfl) (by decide) (by rfl) (fun args m => by
    unfold c11
    split
    · exact .inr ⟨0, _, rfl, f11_eq 0 _ _ _⟩
    · exact .inl rfl)

end Sx

/-
  Is a number named by some span?
-/
set_option linter.unusedVariables false
set_option linter.unusedSimpArgs false
namespace Sx
open Go Go.Proofs

def anyS (l : List SV) (n g : Int) : Bool := l.any fun x => inS (spA x) (spB x) n g
theorem idxS_any (n g : Int) : ∀ (l : List SV) (i : Int), 0 ≤ i → decide (idxS g n l i ≥ 0) = anyS l n g
  | [], i, h => by simp [idxS, anyS]
  | x :: l, i, h => by
    have ih := idxS_any n g l (i + 1) (by omega)
    unfold idxS anyS
    rw [List.any_cons]
    cases inS (spA x) (spB x) n g with
    | true => simp; exact h
    | false => simp only [cond_false, Bool.false_or]; exact ih
noncomputable def hC11 : List SV → Mem → Tr (SV × Mem)
  | [.lst 35 l, .fn (.func 12) [] [.box 0 0, .box 1 0]], [(0, .box 3 [.int .i64 g]), (1, .box 3 [.int .i64 n])] => .br (Nat.ble l.length 999999) (.leaf (.bool (anyS l n g), [(0, .box 3 [.int .i64 g]), (1, .box 3 [.int .i64 n])])) .no
  | _, _ => .no
theorem h11_ok : SpecOk dE 11 (.wide (wideOf (tyOf Tryd.prog) hC11)) :=
  wide_of_run dE_ok (fun sm => ⟨dfx_ok dT3_ok sm f11_live, rfl⟩) (fn := Tryd.f11) (by kernel_rfl) (by decide) (by rfl) (fun args m x h => by
    unfold hC11 at h
    split at h
    · rename_i l g n
      simp only [pickA, cond_eq_ite] at h
      split at h
      · rename_i hc
        cases h
        refine ⟨0, (f11_eq 0 l g n).trans ?_⟩
        unfold f11_T
        rw [hc, idxS_any n g l 0 (by omega)]
        rfl
      · cases h
    · cases h)
noncomputable def dT4 : List (Nat × Spec) := (11, .wide (wideOf (tyOf Tryd.prog) hC11)) :: dT3
theorem dT4_ok : SpecsOk dE (ofList dT4) := .cons h11_ok dT3_ok
end Sx

/-
  What the executor says of functions: the normal forms, each compared by the kernel. (Printed by a program.)
-/
set_option linter.unusedVariables false
namespace Sx
open Go Go.Proofs
set_option maxRecDepth 100000
/-- The slots that are needed at the loops' heads of 'hamper/seqset.Has'. -/
noncomputable def f5_live : Nat → List Nat × List (Nat × TypeId) := fun h => ([], [])
noncomputable def f5_X : Fx := ⟨tyOf Tryd.prog, ofList dT4, [], f5_live⟩
noncomputable def f5_T (l : List SV) (n : Int) (g : Int) : Tr SV := Tr.br (decide (n > (0 : Int))) (Tr.br (decide (g > (0 : Int))) (Tr.br (Nat.ble (List.length l) (999999 : Nat)) (Tr.leaf (SV.bool (anyS l n g))) Tr.no) (Tr.leaf (SV.bool false))) (Tr.leaf (SV.bool false))
theorem f5_eq (fu : Nat) (l : List SV) (n : Int) (g : Int) : evFun f5_X fu Tryd.f5 (frz f5_X.Ty Tryd.f5) [.lst 35 l, .int .i64 n, .int .i64 g] [] [] = (f5_T l n g).opt1 := by kernel_rfl

noncomputable def g5 : List SV → Option (Bool × SV)
  | [.lst 35 l, .int .i64 n, .int .i64 g] => gOf (f5_T l n g)
  | _ => none
theorem f5_ok : SpecOk dE 5 (.plain g5) :=
  plain_of_run (dfx_ok dT4_ok [] f5_live) (fn := Tryd.f5) (by kernel_rfl) (by decide) (by rfl) (plain_of_g (f := 5) (dfx_ok dT4_ok [] f5_live) (fn := Tryd.f5) (by kernel_rfl) (by decide) (by rfl) (fun args => by
    unfold g5
    split
    · exact .inr ⟨0, _, rfl, rfl, f5_eq 0 _ _ _⟩
    · exact .inl rfl))

end Sx

/-
  Has, and the document's.
-/
set_option linter.unusedVariables false
set_option linter.unusedSimpArgs false
namespace Sx
open Go Go.Proofs

def hasZ (l : List SV) (n g : Int) : Bool := decide (n > 0) && decide (g > 0) && anyS l n g
def gHas : List SV → Option (Bool × SV)
  | [.lst 35 l, .int .i64 n, .int .i64 g] => some (Nat.ble l.length 999999, .bool (hasZ l n g))
  | _ => none
theorem has_ok : SpecOk dE 5 (.plain gHas) := by
  refine plain_of_run (dfx_ok dT4_ok [] f5_live) (fn := Tryd.f5) (by kernel_rfl) (by decide) (by rfl) (fun args sv h => ?_)
  unfold gHas at h
  split at h
  · rename_i l n g
    simp only [Option.some.injEq, Prod.mk.injEq] at h
    obtain ⟨h1, rfl⟩ := h
    refine ⟨rfl, rfl, 0, ?_⟩
    show evFun f5_X 0 Tryd.f5 (frz f5_X.Ty Tryd.f5) [.lst 35 l, .int .i64 n, .int .i64 g] [] [] = _
    rw [f5_eq]
    unfold f5_T hasZ
    rw [h1]
    cases decide (n > 0) <;> cases decide (g > 0) <;> rfl
  · cases h
theorem getD_at {l : List SV} {i : Nat} (hlt : i < l.length) : List.getD l i SV.dead = l[i] := by rw [List.getD_eq_getElem?_getD, List.getElem?_eq_getElem hlt]; rfl
theorem L6_is (fu : Nat) (l : List SV) (n g : Int) (hl : l.length < 1000000) : ∀ (k i m : Nat), i + k = l.length → k < m → f6_L2 fu m l n g (i : Int) = some (.bool (hasZ (l.drop i) n g))
  | 0, i, m, hi, hm => by
    obtain ⟨m, rfl⟩ : ∃ m', m = m' + 1 := ⟨m - 1, by omega⟩
    have h1 : ¬ ((i : Int) < (l.length : Int)) := by omega
    rw [f6_L2_eq]
    simp only [h1, decide_false, cond_false]
    rw [List.drop_of_length_le (by omega)]
    simp [hasZ, anyS]
  | k + 1, i, m, hi, hm => by
    obtain ⟨m, rfl⟩ : ∃ m', m = m' + 1 := ⟨m - 1, by omega⟩
    have hlt : i < l.length := by omega
    have h1 : (i : Int) < (l.length : Int) := by omega
    have h2 : (0 : Int) ≤ (i : Int) := by omega
    have w1 : IntKind.wrap .i64 ((i : Int) + 1) = ((i + 1 : Nat) : Int) := by rw [wrap_i64 (by omega) (by omega)]; omega
    have ih := L6_is fu l n g hl k (i + 1) m (by omega) (by omega)
    rw [f6_L2_eq, w1, ih]
    simp only [h1, h2, decide_true, cond_true, Bool.and_self, Int.toNat_natCast, getD_at hlt]
    rw [List.drop_eq_getElem_cons hlt]
    have e1 : asInt (List.getD (cellsOf l[i]) 0 SV.dead) = spA l[i] := rfl
    have e2 : asInt (List.getD (cellsOf l[i]) 1 SV.dead) = spB l[i] := rfl
    have e3 : decide (n ≥ (1 : Int)) = decide (n > 0) := decide_eq_decide.2 (by omega)
    have e4 : decide (g ≥ (1 : Int)) = decide (g > 0) := decide_eq_decide.2 (by omega)
    have e5 : decide (loS (spA l[i]) (spB l[i]) g ≤ n) = decide (n ≥ loS (spA l[i]) (spB l[i]) g) := rfl
    rw [e1, e2, e3, e4, e5]
    unfold hasZ anyS inS
    rw [List.any_cons]
    cases decide (n ≥ loS (spA l[i]) (spB l[i]) g) <;> cases decide (n ≤ hiS (spA l[i]) (spB l[i]) g) <;> cases decide (n > 0) <;> cases decide (g > 0) <;> rfl
theorem rHas_ok : SpecOk dE 6 (.plain gHas) := by
  refine plain_of_run (dfx_ok dT1_ok [] f6_live) (fn := Tryd.f6) (by kernel_rfl) (by decide) (by rfl) (fun args sv h => ?_)
  unfold gHas at h
  split at h
  · rename_i l n g
    simp only [Option.some.injEq, Prod.mk.injEq] at h
    obtain ⟨h1, rfl⟩ := h
    have h1 := Nat.le_of_ble_eq_true h1
    refine ⟨rfl, rfl, 1000000, ?_⟩
    show evFun f6_X 1000000 Tryd.f6 (frz f6_X.Ty Tryd.f6) [.lst 35 l, .int .i64 n, .int .i64 g] [] [] = _
    rw [f6_eq]
    exact L6_is 1000000 l n g (by omega) l.length 0 1000000 (by omega) (by omega)
  · cases h
/-- The same numbers? -/
def sameZ : List SV → List SV → Bool
  | [], [] => true
  | x :: l, y :: k => (asInt (List.getD (cellsOf x) 0 SV.dead) == asInt (List.getD (cellsOf y) 0 SV.dead)) && sameZ l k
  | _, _ => false
def gSame9 : List SV → Option (Bool × SV)
  | [.lst 3 l, .lst 3 k] => some (Nat.ble l.length 999999, .bool (sameZ l k))
  | _ => none
theorem sameZ_len : ∀ {l k : List SV}, l.length ≠ k.length → sameZ l k = false
  | [], [], h => absurd rfl h
  | [], _ :: _, _ => rfl
  | _ :: _, [], _ => rfl
  | x :: l, y :: k, h => by
    unfold sameZ
    rw [sameZ_len (l := l) (k := k) (by simpa using h), Bool.and_false]
theorem L9_is (fu : Nat) (l q : List SV) (hl : l.length < 1000000) (hq : q.length = l.length) : ∀ (k i m : Nat), i + k = l.length → k < m → f9_L4 fu m l q (i : Int) = some (.bool (sameZ (l.drop i) (q.drop i)))
  | 0, i, m, hi, hm => by
    obtain ⟨m, rfl⟩ : ∃ m', m = m' + 1 := ⟨m - 1, by omega⟩
    have h1 : ¬ ((i : Int) < (l.length : Int)) := by omega
    rw [f9_L4_eq]
    simp only [h1, decide_false, cond_false]
    rw [List.drop_of_length_le (by omega), List.drop_of_length_le (by omega)]
    rfl
  | k + 1, i, m, hi, hm => by
    obtain ⟨m, rfl⟩ : ∃ m', m = m' + 1 := ⟨m - 1, by omega⟩
    have hlt : i < l.length := by omega
    have hlt2 : i < q.length := by omega
    have h1 : (i : Int) < (l.length : Int) := by omega
    have h3 : (i : Int) < (q.length : Int) := by omega
    have h2 : (0 : Int) ≤ (i : Int) := by omega
    have w1 : IntKind.wrap .i64 ((i : Int) + 1) = ((i + 1 : Nat) : Int) := by rw [wrap_i64 (by omega) (by omega)]; omega
    have ih := L9_is fu l q hl hq k (i + 1) m (by omega) (by omega)
    rw [f9_L4_eq, w1, ih]
    simp only [h1, h2, h3, decide_true, cond_true, Bool.and_self, Int.toNat_natCast, getD_at hlt, getD_at hlt2]
    rw [List.drop_eq_getElem_cons hlt, List.drop_eq_getElem_cons hlt2]
    rw [show sameZ (l[i] :: l.drop (i + 1)) (q[i] :: q.drop (i + 1)) = ((asInt (List.getD (cellsOf l[i]) 0 SV.dead) == asInt (List.getD (cellsOf q[i]) 0 SV.dead)) && sameZ (l.drop (i + 1)) (q.drop (i + 1))) from rfl]
    rw [bne]
    cases asInt (List.getD (cellsOf l[i]) 0 SV.dead) == asInt (List.getD (cellsOf q[i]) 0 SV.dead) <;> rfl
theorem same9_ok : SpecOk dE 9 (.plain gSame9) := by
  refine plain_of_run (dfx_ok dT1_ok [] f9_live) (fn := Tryd.f9) (by kernel_rfl) (by decide) (by rfl) (fun args sv h => ?_)
  unfold gSame9 at h
  split at h
  · rename_i l q
    simp only [Option.some.injEq, Prod.mk.injEq] at h
    obtain ⟨h1, rfl⟩ := h
    have h1 := Nat.le_of_ble_eq_true h1
    refine ⟨rfl, rfl, 1000000, ?_⟩
    show evFun f9_X 1000000 Tryd.f9 (frz f9_X.Ty Tryd.f9) [.lst 3 l, .lst 3 q] [] [] = _
    rw [f9_eq]
    by_cases e : l.length = q.length
    · have : ((l.length : Int) != (q.length : Int)) = false := by simp [e]
      rw [this, cond_false]
      exact L9_is 1000000 l q (by omega) e.symm l.length 0 1000000 (by omega) (by omega)
    · have : ((l.length : Int) != (q.length : Int)) = true := by simp; omega
      rw [this, cond_true, sameZ_len e]
  · cases h
noncomputable def dT5 : List (Nat × Spec) := (5, .plain gHas) :: (6, .plain gHas) :: (9, .plain gSame9) :: dT1
theorem dT5_ok : SpecsOk dE (ofList dT5) := .cons has_ok (.cons rHas_ok (.cons same9_ok dT1_ok))
end Sx

/-
  What the executor says of functions: the normal forms, each compared by the kernel. (Printed by a program.)
-/
set_option linter.unusedVariables false
namespace Sx
open Go Go.Proofs
set_option maxRecDepth 100000
/-- The slots that are needed at the loops' heads of 'hamper/seqset.Places'. -/
noncomputable def f7_live : Nat → List Nat × List (Nat × TypeId) := fun h => bif Nat.beq h 9 then ([0, 1, 6, 9, 10, 12, 13], nilsOf (tyOf Tryd.prog) [(0, 22), (1, 3), (6, 25), (9, 3), (10, 3), (12, 3), (13, 3)]) else bif Nat.beq h 3 then ([0, 1, 6, 12, 13], nilsOf (tyOf Tryd.prog) [(0, 22), (1, 3), (6, 25), (12, 3), (13, 3)]) else ([], [])
noncomputable def f7_X : Fx := ⟨tyOf Tryd.prog, ofList dT5, [], f7_live⟩
/-- The slots that are needed at the loops' heads of 'hamper/hamperref25.Places'. -/
noncomputable def f8_live : Nat → List Nat × List (Nat × TypeId) := fun h => bif Nat.beq h 9 then ([0, 1, 9, 10], nilsOf (tyOf Tryd.prog) [(0, 22), (1, 3), (9, 25), (10, 3)]) else bif Nat.beq h 2 then ([0, 1, 6], nilsOf (tyOf Tryd.prog) [(0, 22), (1, 3), (6, 3)]) else ([], [])
noncomputable def f8_X : Fx := ⟨tyOf Tryd.prog, ofList dT5, [], f8_live⟩
def f7_st9 (x0 : List SV) (x1 : Int) (x2 : Int) (x3 : Int) (x4 : Int) (x5 : Int) (x6 : List SV) : St := St.mk
  [SV.lst (35 : Nat) x0, SV.int IntKind.i64 x1, SV.dead, SV.dead, SV.dead, SV.dead, SV.row (100 : Nat), SV.dead, SV.dead, SV.int IntKind.i64 x2, SV.int IntKind.i64 x3, SV.dead, SV.int IntKind.i64 x4,
    SV.int IntKind.i64 x5, SV.dead, SV.dead, SV.dead, SV.dead, SV.dead, SV.dead, SV.dead, SV.dead, SV.dead, SV.dead, SV.dead, SV.dead, SV.dead, SV.dead, SV.dead, SV.dead, SV.dead, SV.dead, SV.dead, SV.dead, SV.dead,
    SV.dead, SV.dead, SV.dead, SV.dead, SV.dead, SV.dead, SV.dead, SV.dead, SV.dead, SV.dead, SV.dead, SV.dead, SV.dead, SV.dead, SV.dead, SV.dead]
  [((100 : Nat), SObj.row (3 : Nat) x6)] [(100 : Nat)]
noncomputable def f7_L9 (fu fm : Nat) (k0 : Nat) (x0 : List SV) (x1 : Int) (x2 : Int) (x3 : Int) (x4 : Int) (x5 : Int) (x6 : List SV) : Option (SV) := atLoop f7_X Tryd.f7 (frz f7_X.Ty Tryd.f7) fu [.r, .r, .l, .r, .b, .o k0, .r, .r, .l, .b, .r, .r, .r, .r, .b] fm (f7_st9 x0 x1 x2 x3 x4 x5 x6)

def f7_st3 (x0 : List SV) (x1 : Int) (x2 : Int) (x3 : Int) (x4 : List SV) : St := St.mk
  [SV.lst (35 : Nat) x0, SV.int IntKind.i64 x1, SV.dead, SV.dead, SV.dead, SV.dead, SV.row (100 : Nat), SV.dead, SV.dead, SV.dead, SV.dead, SV.dead, SV.int IntKind.i64 x2, SV.int IntKind.i64 x3, SV.dead, SV.dead,
    SV.dead, SV.dead, SV.dead, SV.dead, SV.dead, SV.dead, SV.dead, SV.dead, SV.dead, SV.dead, SV.dead, SV.dead, SV.dead, SV.dead, SV.dead, SV.dead, SV.dead, SV.dead, SV.dead, SV.dead, SV.dead, SV.dead, SV.dead, SV.dead,
    SV.dead, SV.dead, SV.dead, SV.dead, SV.dead, SV.dead, SV.dead, SV.dead, SV.dead, SV.dead, SV.dead]
  [((100 : Nat), SObj.row (3 : Nat) x4)] [(100 : Nat)]
noncomputable def f7_L3 (fu fm : Nat) (x0 : List SV) (x1 : Int) (x2 : Int) (x3 : Int) (x4 : List SV) : Option (SV) := atLoop f7_X Tryd.f7 (frz f7_X.Ty Tryd.f7) fu [.r, .r, .l, .r, .b] fm (f7_st3 x0 x1 x2 x3 x4)

theorem f7_L9_eq (fu fm : Nat) (k0 : Nat) (x0 : List SV) (x1 : Int) (x2 : Int) (x3 : Int) (x4 : Int) (x5 : Int) (x6 : List SV) : f7_L9 fu (fm + 1) k0 x0 x1 x2 x3 x4 x5 x6 = bif decide (x3 ≤ x2) then
  bif decide ((List.length x6 + (1 : Nat)) * (8 : Nat) ≤ (140737488355328 : Nat)) && decide (List.length x6 + (1 : Nat) ≤ (9223372036854775807 : Nat)) then
    f7_L9 fu fm k0 x0 x1 x2 (IntKind.wrap IntKind.i64 (x3 + (1 : Int))) x4 x5 (x6 ++ [SV.int IntKind.i64 x3])
  else none
  else f7_L3 fu k0 x0 x1 x4 (IntKind.wrap IntKind.i64 (x5 + (1 : Int))) x6 := by kernel_rfl

theorem f7_L3_eq (fu fm : Nat) (x0 : List SV) (x1 : Int) (x2 : Int) (x3 : Int) (x4 : List SV) : f7_L3 fu (fm + 1) x0 x1 x2 x3 x4 = bif decide (x3 < x2) then
  bif decide ((0 : Int) ≤ x3) && decide (x3 < (↑(List.length x0) : Int)) then
    bif decide (x1 < (1 : Int)) then some (SV.tup [SV.lst (3 : Nat) [], SV.int IntKind.i64 (4 : Int)])
    else
      bif decide (hiS (asInt (List.getD (cellsOf (List.getD x0 (Int.toNat x3) SV.dead)) (0 : Nat) SV.dead)) (asInt (List.getD (cellsOf (List.getD x0 (Int.toNat x3) SV.dead)) (1 : Nat) SV.dead)) x1 > x1) then
        some (SV.tup [SV.lst (3 : Nat) [], SV.int IntKind.i64 (4 : Int)])
      else
        bif decide (loS (asInt (List.getD (cellsOf (List.getD x0 (Int.toNat x3) SV.dead)) (0 : Nat) SV.dead)) (asInt (List.getD (cellsOf (List.getD x0 (Int.toNat x3) SV.dead)) (1 : Nat) SV.dead)) x1 < (1 : Int)) then
          some (SV.tup [SV.lst (3 : Nat) [], SV.int IntKind.i64 (4 : Int)])
        else
          f7_L9 fu fu fm x0 x1 (hiS (asInt (List.getD (cellsOf (List.getD x0 (Int.toNat x3) SV.dead)) (0 : Nat) SV.dead)) (asInt (List.getD (cellsOf (List.getD x0 (Int.toNat x3) SV.dead)) (1 : Nat) SV.dead)) x1)
            (loS (asInt (List.getD (cellsOf (List.getD x0 (Int.toNat x3) SV.dead)) (0 : Nat) SV.dead)) (asInt (List.getD (cellsOf (List.getD x0 (Int.toNat x3) SV.dead)) (1 : Nat) SV.dead)) x1) x2 x3 x4
  else none
  else
  bif List.all x4 isI64 && Nat.ble (List.length x4) (4611686018427387903 : Nat) then
    bif List.all (sortI x4) isI64 && Nat.ble (List.length (sortI x4)) (9223372036854775807 : Nat) then some (SV.tup [SV.lst (3 : Nat) (compF none (sortI x4)), SV.int IntKind.i64 (0 : Int)]) else none
  else none := by kernel_rfl

theorem f7_eq (fu : Nat) (l : List SV) (g : Int) : evFun f7_X fu Tryd.f7 (frz f7_X.Ty Tryd.f7) [.lst 35 l, .int .i64 g] [] [] = f7_L3 fu fu l g (↑(List.length l) : Int) (0 : Int) [] := by kernel_rfl

def f8_st9 (x0 : List SV) (x1 : Int) (x2 : Int) (x3 : List SV) : St := St.mk
  [SV.lst (35 : Nat) x0, SV.int IntKind.i64 x1, SV.dead, SV.dead, SV.dead, SV.dead, SV.dead, SV.dead, SV.dead, SV.row (100 : Nat), SV.int IntKind.i64 x2, SV.dead, SV.dead, SV.dead, SV.dead, SV.dead, SV.dead, SV.dead,
    SV.dead, SV.dead, SV.dead, SV.dead, SV.dead, SV.dead, SV.dead, SV.dead, SV.dead, SV.dead, SV.dead, SV.dead, SV.dead, SV.dead, SV.dead, SV.dead, SV.dead, SV.dead, SV.dead, SV.dead, SV.dead, SV.dead, SV.dead, SV.dead,
    SV.dead, SV.dead, SV.dead, SV.dead, SV.dead, SV.dead, SV.dead, SV.dead, SV.dead, SV.dead, SV.dead, SV.dead, SV.dead, SV.dead]
  [((100 : Nat), SObj.row (3 : Nat) x3)] [(100 : Nat)]
noncomputable def f8_L9 (fu fm : Nat) (x0 : List SV) (x1 : Int) (x2 : Int) (x3 : List SV) : Option (SV) := atLoop f8_X Tryd.f8 (frz f8_X.Ty Tryd.f8) fu [.r, .r, .r, .l, .r, .b] fm (f8_st9 x0 x1 x2 x3)

def f8_st2 (x0 : List SV) (x1 : Int) (x2 : Int) : St := St.mk
  [SV.lst (35 : Nat) x0, SV.int IntKind.i64 x1, SV.dead, SV.dead, SV.dead, SV.dead, SV.int IntKind.i64 x2, SV.dead, SV.dead, SV.dead, SV.dead, SV.dead, SV.dead, SV.dead, SV.dead, SV.dead, SV.dead, SV.dead, SV.dead,
    SV.dead, SV.dead, SV.dead, SV.dead, SV.dead, SV.dead, SV.dead, SV.dead, SV.dead, SV.dead, SV.dead, SV.dead, SV.dead, SV.dead, SV.dead, SV.dead, SV.dead, SV.dead, SV.dead, SV.dead, SV.dead, SV.dead, SV.dead, SV.dead,
    SV.dead, SV.dead, SV.dead, SV.dead, SV.dead, SV.dead, SV.dead, SV.dead, SV.dead, SV.dead, SV.dead, SV.dead, SV.dead]
  [] []
noncomputable def f8_L2 (fu fm : Nat) (x0 : List SV) (x1 : Int) (x2 : Int) : Option (SV) := atLoop f8_X Tryd.f8 (frz f8_X.Ty Tryd.f8) fu [.r, .l, .r, .b] fm (f8_st2 x0 x1 x2)

theorem f8_L9_eq (fu fm : Nat) (x0 : List SV) (x1 : Int) (x2 : Int) (x3 : List SV) : f8_L9 fu (fm + 1) x0 x1 x2 x3 = bif decide (x2 ≤ x1) then
  bif decide ((↑(List.length x0) : Int) > (0 : Int)) then
    bif Nat.ble (List.length x0) (999999 : Nat) then
      bif hasZ x0 x2 x1 then
        bif decide ((List.length x3 + (1 : Nat)) * (8 : Nat) ≤ (140737488355328 : Nat)) && decide (List.length x3 + (1 : Nat) ≤ (9223372036854775807 : Nat)) then
          f8_L9 fu fm x0 x1 (IntKind.wrap IntKind.i64 (x2 + (1 : Int))) (x3 ++ [SV.int IntKind.i64 x2])
        else none
      else f8_L9 fu fm x0 x1 (IntKind.wrap IntKind.i64 (x2 + (1 : Int))) x3
    else none
  else some (SV.tup [SV.lst (3 : Nat) x3, SV.int IntKind.i64 (0 : Int)])
  else some (SV.tup [SV.lst (3 : Nat) x3, SV.int IntKind.i64 (0 : Int)]) := by kernel_rfl

theorem f8_L2_eq (fu fm : Nat) (x0 : List SV) (x1 : Int) (x2 : Int) : f8_L2 fu (fm + 1) x0 x1 x2 = bif decide (x2 < (↑(List.length x0) : Int)) then
  bif decide ((0 : Int) ≤ x2) && decide (x2 < (↑(List.length x0) : Int)) then
    bif decide (x1 < (1 : Int)) then some (SV.tup [SV.lst (3 : Nat) [], SV.int IntKind.i64 (4 : Int)])
    else
      bif decide (loS (asInt (List.getD (cellsOf (List.getD x0 (Int.toNat x2) SV.dead)) (0 : Nat) SV.dead)) (asInt (List.getD (cellsOf (List.getD x0 (Int.toNat x2) SV.dead)) (1 : Nat) SV.dead)) x1 < (1 : Int)) then
        some (SV.tup [SV.lst (3 : Nat) [], SV.int IntKind.i64 (4 : Int)])
      else
        bif decide (hiS (asInt (List.getD (cellsOf (List.getD x0 (Int.toNat x2) SV.dead)) (0 : Nat) SV.dead)) (asInt (List.getD (cellsOf (List.getD x0 (Int.toNat x2) SV.dead)) (1 : Nat) SV.dead)) x1 > x1) then
          some (SV.tup [SV.lst (3 : Nat) [], SV.int IntKind.i64 (4 : Int)])
        else f8_L2 fu fm x0 x1 (IntKind.wrap IntKind.i64 (x2 + (1 : Int)))
  else none
  else f8_L9 fu fu x0 x1 (1 : Int) [] := by kernel_rfl

theorem f8_eq (fu : Nat) (l : List SV) (g : Int) : evFun f8_X fu Tryd.f8 (frz f8_X.Ty Tryd.f8) [.lst 35 l, .int .i64 g] [] [] = f8_L2 fu fu l g (0 : Int) := by kernel_rfl

end Sx

/-
  Rising numbers, once each: what sorting and compacting come to, in plain lists.
-/
set_option linter.unusedVariables false
set_option linter.unusedSimpArgs false
namespace Sx
open Go Go.Proofs

theorem compZ_from : ∀ (l : List Int) (p : Int), l.Pairwise (· ≤ ·) → (∀ x ∈ l, p ≤ x) → (compZ (some p) l).Pairwise (· < ·) ∧ ∀ x, x ∈ compZ (some p) l ↔ x ∈ l ∧ p < x
  | [], p, _, _ => ⟨List.Pairwise.nil, fun x => by simp [compZ]⟩
  | y :: l, p, h, hp => by
    obtain ⟨h1, h2⟩ := List.pairwise_cons.1 h
    have hy := hp y List.mem_cons_self
    simp only [compZ, Option.some.injEq]
    split
    · rename_i e
      subst e
      obtain ⟨i1, i2⟩ := compZ_from l p h2 (fun x hx => hp x (List.mem_cons_of_mem _ hx))
      refine ⟨i1, fun x => (i2 x).trans ⟨fun q => ⟨List.mem_cons_of_mem _ q.1, q.2⟩, fun q => ⟨?_, q.2⟩⟩⟩
      rcases List.mem_cons.1 q.1 with e | e
      · have := q.2; omega
      · exact e
    · rename_i ne
      obtain ⟨i1, i2⟩ := compZ_from l y h2 h1
      refine ⟨List.pairwise_cons.2 ⟨fun x hx => ((i2 x).1 hx).2, i1⟩, fun x => ?_⟩
      rw [List.mem_cons, List.mem_cons, i2 x]
      constructor
      · rintro (e | ⟨q, r⟩)
        · subst e; exact ⟨.inl rfl, by omega⟩
        · exact ⟨.inr q, by omega⟩
      · rintro ⟨e | q, r⟩
        · exact .inl e
        · by_cases e : x = y
          · exact .inl e
          · have := h1 x q; exact .inr ⟨q, by omega⟩
theorem compZ_none {l : List Int} (h : l.Pairwise (· ≤ ·)) : (compZ none l).Pairwise (· < ·) ∧ ∀ x, x ∈ compZ none l ↔ x ∈ l := by
  cases l with
  | nil => exact ⟨List.Pairwise.nil, fun x => by simp [compZ]⟩
  | cons y l =>
    obtain ⟨h1, h2⟩ := List.pairwise_cons.1 h
    obtain ⟨i1, i2⟩ := compZ_from l y h2 h1
    have e : compZ none (y :: l) = y :: compZ (some y) l := by simp [compZ]
    rw [e]
    refine ⟨List.pairwise_cons.2 ⟨fun x hx => ((i2 x).1 hx).2, i1⟩, fun x => ?_⟩
    rw [List.mem_cons, List.mem_cons, i2 x]
    constructor
    · rintro (e | ⟨q, _⟩)
      · exact .inl e
      · exact .inr q
    · rintro (e | q)
      · exact .inl e
      · by_cases e : x = y
        · exact .inl e
        · have := h1 x q; exact .inr ⟨q, by omega⟩
/-- Two lists that rise strictly and have the same members are one. -/
theorem rising_eq {l k : List Int} (hl : l.Pairwise (· < ·)) (hk : k.Pairwise (· < ·)) (h : ∀ x, x ∈ l ↔ x ∈ k) : l = k := by
  have nl : l.Nodup := hl.imp (fun h => by omega)
  have nk : k.Nodup := hk.imp (fun h => by omega)
  exact List.Perm.eq_of_pairwise (le := fun a b : Int => a < b) (fun a b _ _ h1 h2 => by omega) hl hk ((List.perm_ext_iff_of_nodup nl nk).2 h)
def intsV (l : List Int) : List SV := l.map (SV.int .i64)
theorem intsV_asInt (l : List Int) : (intsV l).map asInt = l := by
  unfold intsV
  rw [List.map_map]
  exact (List.map_congr_left (fun x _ => rfl)).trans (List.map_id l)
theorem intsV_all (l : List Int) : (intsV l).all isI64 = true := List.all_eq_true.2 fun x hx => by
  obtain ⟨z, _, rfl⟩ := List.mem_map.1 hx; rfl
theorem intsV_of : ∀ {l : List SV}, l.all isI64 = true → l = intsV (l.map asInt)
  | [], _ => rfl
  | x :: l, h => by
    simp only [List.all_cons, Bool.and_eq_true] at h
    have ih := intsV_of h.2
    obtain ⟨h1, _⟩ := h
    cases x <;> simp [isI64] at h1
    rename_i k n
    cases k <;> simp [isI64] at h1
    show SV.int .i64 n :: l = SV.int .i64 n :: intsV (l.map asInt)
    rw [← ih]
def sortZ (l : List Int) : List Int := l.mergeSort fun x y => decide (x ≤ y)
theorem sortZ_rise (l : List Int) : (sortZ l).Pairwise (· ≤ ·) := by
  have := List.pairwise_mergeSort (le := fun x y : Int => decide (x ≤ y)) (fun a b c h1 h2 => by simp at *; omega) (fun a b => by simp; omega) l
  exact this.imp (fun h => by simpa using h)
theorem sortZ_mem {l : List Int} {x : Int} : x ∈ sortZ l ↔ x ∈ l := List.mem_mergeSort
theorem sortI_ints (l : List Int) : sortI (intsV l) = intsV (sortZ l) := by
  rw [intsV_of (sortI_all (intsV_all l)), ← sortI_is, intsV_asInt]
  rfl
theorem compF_ints (l : List Int) : compF none (intsV l) = intsV (compZ none l) := by
  rw [intsV_of (compF_all (intsV_all l)), compF_map, intsV_asInt]
/-- The numbers from one to another one. -/
def rangeZ (a b : Int) : List Int := (List.range (b + 1 - a).toNat).map fun (i : Nat) => a + (i : Int)
theorem rangeZ_mem {a b x : Int} : x ∈ rangeZ a b ↔ a ≤ x ∧ x ≤ b := by
  unfold rangeZ
  rw [List.mem_map]
  constructor
  · rintro ⟨i, hi, rfl⟩
    have := List.mem_range.1 hi
    omega
  · rintro ⟨h1, h2⟩
    exact ⟨(x - a).toNat, List.mem_range.2 (by omega), by omega⟩
theorem rangeZ_nil {a b : Int} (h : b < a) : rangeZ a b = [] := by
  unfold rangeZ
  rw [show (b + 1 - a).toNat = 0 by omega]
  rfl
theorem rangeZ_cons {a b : Int} (h : a ≤ b) : rangeZ a b = a :: rangeZ (a + 1) b := by
  unfold rangeZ
  rw [show (b + 1 - a).toNat = (b + 1 - (a + 1)).toNat + 1 by omega, List.range_succ_eq_map, List.map_cons, List.map_map]
  congr 1
  · omega
  · apply List.map_congr_left
    intro i _
    simp only [Function.comp]
    omega
theorem rangeZ_len (a b : Int) : (rangeZ a b).length = (b + 1 - a).toNat := by simp [rangeZ]
theorem rangeZ_rise (a b : Int) : (rangeZ a b).Pairwise (· < ·) := by
  unfold rangeZ
  rw [List.pairwise_map]
  exact List.pairwise_lt_range.imp (fun h => by omega)
/-- The numbers that spans name, and whether all are there. -/
def spOk (x : SV) (g : Int) : Bool := !(decide (g < 1)) && (!(decide (hiS (spA x) (spB x) g > g)) && !(decide (loS (spA x) (spB x) g < 1)))
def okPl (l : List SV) (g : Int) : Bool := l.all fun x => spOk x g
def outZ (l : List SV) (g : Int) : List Int := l.flatMap fun x => rangeZ (loS (spA x) (spB x) g) (hiS (spA x) (spB x) g)
def numZ (l : List SV) (g : Int) : List Int := (rangeZ 1 g).filter fun n => hasZ l n g
theorem places_law (l : List SV) (g : Int) (h : okPl l g = true) : compZ none (sortZ (outZ l g)) = numZ l g := by
  obtain ⟨h1, h2⟩ := compZ_none (sortZ_rise (outZ l g))
  refine rising_eq h1 ((rangeZ_rise 1 g).filter _) (fun x => ?_)
  rw [h2, sortZ_mem]
  unfold outZ numZ
  rw [List.mem_flatMap, List.mem_filter, rangeZ_mem]
  unfold hasZ anyS
  constructor
  · rintro ⟨y, hy, hx⟩
    rw [rangeZ_mem] at hx
    have hok := List.all_eq_true.1 h y hy
    unfold spOk at hok
    simp only [Bool.and_eq_true, Bool.not_eq_true', decide_eq_false_iff_not] at hok
    obtain ⟨o1, o2, o3⟩ := hok
    refine ⟨by omega, ?_⟩
    simp only [Bool.and_eq_true, decide_eq_true_eq, List.any_eq_true]
    refine ⟨⟨by omega, by omega⟩, y, hy, ?_⟩
    unfold inS
    simp only [Bool.and_eq_true, decide_eq_true_eq]
    exact ⟨hx.1, hx.2⟩
  · rintro ⟨_, q⟩
    simp only [Bool.and_eq_true, decide_eq_true_eq, List.any_eq_true] at q
    obtain ⟨_, y, hy, r⟩ := q
    unfold inS at r
    simp only [Bool.and_eq_true, decide_eq_true_eq] at r
    exact ⟨y, hy, rangeZ_mem.2 ⟨r.1, r.2⟩⟩
end Sx

/-
  Places, and the document's: one answer.
-/
set_option linter.unusedVariables false
set_option linter.unusedSimpArgs false
namespace Sx
open Go Go.Proofs

def plAns (l : List SV) (g : Int) : SV := .tup [.lst 3 (bif okPl l g then intsV (numZ l g) else []), .int .i64 (bif okPl l g then 0 else 4)]
def gPlaces : List SV → Option (Bool × SV)
  | [.lst 35 l, .int .i64 g] => some (Nat.ble l.length 66 && decide (g ≤ 300), plAns l g)
  | _ => none
theorem intsV_app (a b : List Int) : intsV a ++ intsV b = intsV (a ++ b) := by simp [intsV]
theorem intsV_len (a : List Int) : (intsV a).length = a.length := by simp [intsV]
/-- One span's numbers. -/
theorem L9p_is (fu : Nat) (l : List SV) (g hi len i : Int) (k0 : Nat) (hhi : hi ≤ 300) : ∀ (k m : Nat) (n : Int) (zs : List Int), (hi + 1 - n).toNat = k → k < m → 1 ≤ n → zs.length + k ≤ 1000000 → f7_L9 fu m k0 l g hi n len i (intsV zs) = f7_L3 fu k0 l g len (IntKind.wrap .i64 (i + 1)) (intsV (zs ++ rangeZ n hi))
  | 0, m, n, zs, hk, hm, h1, hz => by
    obtain ⟨m, rfl⟩ : ∃ m', m = m' + 1 := ⟨m - 1, by omega⟩
    have e1 : ¬ (n ≤ hi) := by omega
    rw [f7_L9_eq, rangeZ_nil (by omega), List.append_nil]
    simp only [e1, decide_false, cond_false]
  | k + 1, m, n, zs, hk, hm, h1, hz => by
    obtain ⟨m, rfl⟩ : ∃ m', m = m' + 1 := ⟨m - 1, by omega⟩
    have e1 : n ≤ hi := by omega
    have r1 : ((intsV zs).length + 1) * 8 ≤ 140737488355328 := by rw [intsV_len]; omega
    have r2 : (intsV zs).length + 1 ≤ 9223372036854775807 := by rw [intsV_len]; omega
    have w1 : IntKind.wrap .i64 (n + 1) = n + 1 := wrap_i64 (by omega) (by omega)
    rw [f7_L9_eq, w1]
    simp only [e1, r1, r2, decide_true, cond_true, Bool.and_self]
    rw [show intsV zs ++ [SV.int .i64 n] = intsV (zs ++ [n]) by simp [intsV]]
    rw [L9p_is fu l g hi len i k0 hhi k m (n + 1) (zs ++ [n]) (by omega) (by omega) (by omega) (by rw [List.length_append]; simp; omega), rangeZ_cons e1, List.append_assoc]
    rfl
theorem okPl_cons (x : SV) (l : List SV) (g : Int) : okPl (x :: l) g = (spOk x g && okPl l g) := by simp [okPl]
theorem outZ_cons (x : SV) (l : List SV) (g : Int) : outZ (x :: l) g = rangeZ (loS (spA x) (spB x) g) (hiS (spA x) (spB x) g) ++ outZ l g := by simp [outZ]
theorem L3_is (fu : Nat) (hfu : 1000 < fu) (l : List SV) (g : Int) (hl : l.length ≤ 66) (hg : g ≤ 300) : ∀ (k i m : Nat) (zs : List Int), i + k = l.length → k < m → zs.length ≤ 300 * i →
    f7_L3 fu m l g (l.length : Int) (i : Int) (intsV zs) = some (.tup [.lst 3 (bif okPl (l.drop i) g then intsV (compZ none (sortZ (zs ++ outZ (l.drop i) g))) else []), .int .i64 (bif okPl (l.drop i) g then 0 else 4)])
  | 0, i, m, zs, hi, hm, hz => by
    obtain ⟨m, rfl⟩ : ∃ m', m = m' + 1 := ⟨m - 1, by omega⟩
    have h1 : ¬ ((i : Int) < (l.length : Int)) := by omega
    have c1 : Nat.ble (intsV zs).length 4611686018427387903 = true := Nat.ble_eq_true_of_le (by rw [intsV_len]; omega)
    have c2 : Nat.ble (intsV (sortZ zs)).length 9223372036854775807 = true := Nat.ble_eq_true_of_le (by rw [intsV_len, sortZ, List.length_mergeSort]; omega)
    rw [f7_L3_eq]
    simp only [h1, decide_false, cond_false, sortI_ints, compF_ints, intsV_all, c1, c2, Bool.and_self, cond_true]
    rw [List.drop_of_length_le (by omega)]
    simp [okPl, outZ]
  | k + 1, i, m, zs, hi, hm, hz => by
    obtain ⟨m, rfl⟩ : ∃ m', m = m' + 1 := ⟨m - 1, by omega⟩
    have hlt : i < l.length := by omega
    have h1 : (i : Int) < (l.length : Int) := by omega
    have h2 : (0 : Int) ≤ (i : Int) := by omega
    have w1 : IntKind.wrap .i64 ((i : Int) + 1) = ((i + 1 : Nat) : Int) := by rw [wrap_i64 (by omega) (by omega)]; omega
    rw [f7_L3_eq]
    simp only [h1, h2, decide_true, cond_true, Bool.and_self, Int.toNat_natCast, getD_at hlt]
    rw [List.drop_eq_getElem_cons hlt, okPl_cons, outZ_cons]
    have e1 : asInt (List.getD (cellsOf l[i]) 0 SV.dead) = spA l[i] := rfl
    have e2 : asInt (List.getD (cellsOf l[i]) 1 SV.dead) = spB l[i] := rfl
    rw [e1, e2]
    generalize hx : l[i] = x
    by_cases c1 : g < 1
    · have : spOk x g = false := by simp [spOk, c1]
      simp only [c1, decide_true, cond_true, this, Bool.false_and, cond_false]
    · by_cases c2 : hiS (spA x) (spB x) g > g
      · have : spOk x g = false := by simp [spOk, c2]
        simp only [c1, c2, decide_true, decide_false, cond_true, cond_false, this, Bool.false_and]
      · by_cases c3 : loS (spA x) (spB x) g < 1
        · have : spOk x g = false := by simp [spOk, c3]
          simp only [c1, c2, c3, decide_true, decide_false, cond_true, cond_false, this, Bool.false_and]
        · have : spOk x g = true := by simp only [spOk, c1, c2, c3, decide_false, Bool.not_false, Bool.and_self]
          simp only [c1, c2, c3, decide_false, cond_false, this, Bool.true_and]
          rw [L9p_is fu l g _ _ _ m (by omega) _ fu _ zs rfl (by omega) (by omega) (by omega), w1,
            L3_is fu hfu l g hl hg k (i + 1) m _ (by omega) (by omega) (by rw [List.length_append, rangeZ_len]; omega), List.append_assoc]
theorem places_ok : SpecOk dE 7 (.plain gPlaces) := by
  refine plain_of_run (dfx_ok dT5_ok [] f7_live) (fn := Tryd.f7) (by kernel_rfl) (by decide) (by rfl) (fun args sv h => ?_)
  unfold gPlaces at h
  split at h
  · rename_i l g
    simp only [Option.some.injEq, Prod.mk.injEq, Bool.and_eq_true, decide_eq_true_eq] at h
    obtain ⟨⟨h1, h2⟩, rfl⟩ := h
    have h1 := Nat.le_of_ble_eq_true h1
    refine ⟨rfl, by unfold plAns; cases okPl l g <;> rfl, 2000, ?_⟩
    show evFun f7_X 2000 Tryd.f7 (frz f7_X.Ty Tryd.f7) [.lst 35 l, .int .i64 g] [] [] = _
    rw [f7_eq]
    have := L3_is 2000 (by omega) l g h1 h2 l.length 0 2000 [] (by omega) (by omega) (by simp)
    rw [show ((0 : Nat) : Int) = 0 from rfl] at this
    refine this.trans ?_
    unfold plAns
    rw [List.drop_zero, List.nil_append]
    cases hq : okPl l g with
    | true => rw [places_law l g hq]
    | false => rfl
  · cases h
/-- The document's way: number by number. -/
theorem L8n_is (fu : Nat) (l : List SV) (g : Int) (hl : l.length ≤ 66) (hg : g ≤ 300) : ∀ (k m : Nat) (n : Int) (zs : List Int), (g + 1 - n).toNat = k → k < m → 1 ≤ n → zs.length + k ≤ 1000000 → f8_L9 fu m l g n (intsV zs) = some (.tup [.lst 3 (intsV (zs ++ (rangeZ n g).filter fun n => hasZ l n g)), .int .i64 0])
  | 0, m, n, zs, hk, hm, h1, hz => by
    obtain ⟨m, rfl⟩ : ∃ m', m = m' + 1 := ⟨m - 1, by omega⟩
    have e1 : ¬ (n ≤ g) := by omega
    rw [f8_L9_eq, rangeZ_nil (by omega), List.filter_nil, List.append_nil]
    simp only [e1, decide_false, cond_false]
  | k + 1, m, n, zs, hk, hm, h1, hz => by
    obtain ⟨m, rfl⟩ : ∃ m', m = m' + 1 := ⟨m - 1, by omega⟩
    have e1 : n ≤ g := by omega
    have r1 : ((intsV zs).length + 1) * 8 ≤ 140737488355328 := by rw [intsV_len]; omega
    have r2 : (intsV zs).length + 1 ≤ 9223372036854775807 := by rw [intsV_len]; omega
    have w1 : IntKind.wrap .i64 (n + 1) = n + 1 := wrap_i64 (by omega) (by omega)
    have b1 : Nat.ble l.length 999999 = true := Nat.ble_eq_true_of_le (by omega)
    rw [f8_L9_eq, w1, rangeZ_cons e1, List.filter_cons]
    by_cases e2 : (l.length : Int) > 0
    · simp only [e1, e2, b1, r1, r2, decide_true, cond_true, Bool.and_self]
      cases hq : hasZ l n g with
      | true =>
        rw [show intsV zs ++ [SV.int .i64 n] = intsV (zs ++ [n]) by simp [intsV]]
        simp only [cond_true, if_true]
        rw [L8n_is fu l g hl hg k m (n + 1) (zs ++ [n]) (by omega) (by omega) (by omega) (by rw [List.length_append]; simp; omega), List.append_assoc]
        rfl
      | false =>
        simp only [cond_false]
        rw [L8n_is fu l g hl hg k m (n + 1) zs (by omega) (by omega) (by omega) (by omega)]
        rfl
    · have : l = [] := List.eq_nil_of_length_eq_zero (by omega)
      subst this
      simp only [e1, e2, decide_true, decide_false, cond_true, cond_false]
      have e3 : ∀ n, hasZ [] n g = false := fun n => by simp [hasZ, anyS]
      have e4 : List.filter (fun n => hasZ [] n g) (rangeZ (n + 1) g) = [] := List.filter_eq_nil_iff.2 (fun x _ => by rw [e3]; simp)
      rw [e4, e3]
      simp
theorem L2_is (fu : Nat) (hfu : 1000 < fu) (l : List SV) (g : Int) (hl : l.length ≤ 66) (hg : g ≤ 300) : ∀ (k i m : Nat), i + k = l.length → k < m →
    f8_L2 fu m l g (i : Int) = some (.tup [.lst 3 (bif okPl (l.drop i) g then intsV (numZ l g) else []), .int .i64 (bif okPl (l.drop i) g then 0 else 4)])
  | 0, i, m, hi, hm => by
    obtain ⟨m, rfl⟩ : ∃ m', m = m' + 1 := ⟨m - 1, by omega⟩
    have h1 : ¬ ((i : Int) < (l.length : Int)) := by omega
    rw [f8_L2_eq]
    simp only [h1, decide_false, cond_false]
    have := L8n_is fu l g hl hg _ fu 1 [] rfl (by omega) (by omega) (by simp; omega)
    refine this.trans ?_
    rw [List.drop_of_length_le (by omega)]
    rfl
  | k + 1, i, m, hi, hm => by
    obtain ⟨m, rfl⟩ : ∃ m', m = m' + 1 := ⟨m - 1, by omega⟩
    have hlt : i < l.length := by omega
    have h1 : (i : Int) < (l.length : Int) := by omega
    have h2 : (0 : Int) ≤ (i : Int) := by omega
    have w1 : IntKind.wrap .i64 ((i : Int) + 1) = ((i + 1 : Nat) : Int) := by rw [wrap_i64 (by omega) (by omega)]; omega
    have ih := L2_is fu hfu l g hl hg k (i + 1) m (by omega) (by omega)
    rw [f8_L2_eq, w1, ih]
    simp only [h1, h2, decide_true, cond_true, Bool.and_self, Int.toNat_natCast, getD_at hlt]
    rw [List.drop_eq_getElem_cons hlt, okPl_cons]
    have e1 : asInt (List.getD (cellsOf l[i]) 0 SV.dead) = spA l[i] := rfl
    have e2 : asInt (List.getD (cellsOf l[i]) 1 SV.dead) = spB l[i] := rfl
    rw [e1, e2]
    unfold spOk
    cases decide (g < 1) <;> cases decide (hiS (spA l[i]) (spB l[i]) g > g) <;> cases decide (loS (spA l[i]) (spB l[i]) g < 1) <;> rfl
theorem rPlaces_ok : SpecOk dE 8 (.plain gPlaces) := by
  refine plain_of_run (dfx_ok dT5_ok [] f8_live) (fn := Tryd.f8) (by kernel_rfl) (by decide) (by rfl) (fun args sv h => ?_)
  unfold gPlaces at h
  split at h
  · rename_i l g
    simp only [Option.some.injEq, Prod.mk.injEq, Bool.and_eq_true, decide_eq_true_eq] at h
    obtain ⟨⟨h1, h2⟩, rfl⟩ := h
    have h1 := Nat.le_of_ble_eq_true h1
    refine ⟨rfl, by unfold plAns; cases okPl l g <;> rfl, 2000, ?_⟩
    show evFun f8_X 2000 Tryd.f8 (frz f8_X.Ty Tryd.f8) [.lst 35 l, .int .i64 g] [] [] = _
    rw [f8_eq]
    have := L2_is 2000 (by omega) l g h1 h2 l.length 0 2000 (by omega) (by omega)
    rw [show ((0 : Nat) : Int) = 0 from rfl, List.drop_zero] at this
    exact this
  · cases h
noncomputable def dT6 : List (Nat × Spec) := (7, .plain gPlaces) :: (8, .plain gPlaces) :: dT5
theorem dT6_ok : SpecsOk dE (ofList dT6) := .cons places_ok (.cons rPlaces_ok dT5_ok)
end Sx

/-
  The chapter's examples come to true.
-/
set_option linter.unusedVariables false
set_option maxRecDepth 100000
namespace Sx
open Go Go.Proofs

def gTrue : List SV → Option (Bool × SV) | [] => some (true, .bool true) | _ => none
theorem awake_run : plainRun (r10_X []) 20 Tryd.f10 [] = some (true, .bool true) := by kernel_rfl
theorem awake_ok : SpecOk dE 10 (.plain gTrue) := fun ρ s a w args vals sv hR hl h => by
  unfold gTrue at h
  split at h
  · cases h; exact r10_ok ρ s a w [] vals _ hR hl awake_run
  · cases h
noncomputable def dT7 : List (Nat × Spec) := (10, .plain gTrue) :: dT6
theorem dT7_ok : SpecsOk dE (ofList dT7) := .cons awake_ok dT6_ok
end Sx

/-
  What the executor says of functions: the normal forms, each compared by the kernel. (Printed by a program.)
-/
set_option linter.unusedVariables false
namespace Sx
open Go Go.Proofs
set_option maxRecDepth 100000
/-- The slots that are needed at the loops' heads of 'hamper/hamperlaw25.SeqsetNames'. -/
noncomputable def f3_live : Nat → List Nat × List (Nat × TypeId) := fun h => ([], [])
noncomputable def f3_X : Fx := ⟨tyOf Tryd.prog, ofList dT7, [], f3_live⟩
theorem f3_eq (fu : Nat) (l : List SV) (n : Int) (g : Int) : evFun f3_X fu Tryd.f3 (frz f3_X.Ty Tryd.f3) [.lst 35 l, .int .i64 n, .int .i64 g] [] [] = bif Nat.ble (List.length (List.take (66 : Nat) l)) (999999 : Nat) then
  bif Nat.ble (List.length (List.take (66 : Nat) l)) (999999 : Nat) then
    bif !hasZ (List.take (66 : Nat) l) n g == hasZ (List.take (66 : Nat) l) n g then some (SV.bool false)
    else
      bif decide (g > (300 : Int)) then
        bif Nat.ble (List.length (List.take (66 : Nat) l)) (66 : Nat) && true then
          bif Nat.ble (List.length (List.take (66 : Nat) l)) (66 : Nat) && true then
            bif Nat.ble (List.length (bif okPl (List.take (66 : Nat) l) (300 : Int) then intsV (numZ (List.take (66 : Nat) l) (300 : Int)) else [])) (999999 : Nat) then
              bif
                  sameZ (bif okPl (List.take (66 : Nat) l) (300 : Int) then intsV (numZ (List.take (66 : Nat) l) (300 : Int)) else [])
                    (bif okPl (List.take (66 : Nat) l) (300 : Int) then intsV (numZ (List.take (66 : Nat) l) (300 : Int)) else []) then
                bif (bif okPl (List.take (66 : Nat) l) (300 : Int) then (0 : Int) else (4 : Int)) == bif okPl (List.take (66 : Nat) l) (300 : Int) then (0 : Int) else (4 : Int) then some (SV.bool true)
                else some (SV.bool false)
              else some (SV.bool false)
            else none
          else none
        else none
      else
        bif Nat.ble (List.length (List.take (66 : Nat) l)) (66 : Nat) && decide (g ≤ (300 : Int)) then
          bif Nat.ble (List.length (List.take (66 : Nat) l)) (66 : Nat) && decide (g ≤ (300 : Int)) then
            bif Nat.ble (List.length (bif okPl (List.take (66 : Nat) l) g then intsV (numZ (List.take (66 : Nat) l) g) else [])) (999999 : Nat) then
              bif sameZ (bif okPl (List.take (66 : Nat) l) g then intsV (numZ (List.take (66 : Nat) l) g) else []) (bif okPl (List.take (66 : Nat) l) g then intsV (numZ (List.take (66 : Nat) l) g) else []) then
                bif (bif okPl (List.take (66 : Nat) l) g then (0 : Int) else (4 : Int)) == bif okPl (List.take (66 : Nat) l) g then (0 : Int) else (4 : Int) then some (SV.bool true) else some (SV.bool false)
              else some (SV.bool false)
            else none
          else none
        else none
  else none
  else none := by kernel_rfl

end Sx

/-
  Layer 25: the statement's run: it comes to true for all spans and numbers.
-/
set_option linter.unusedVariables false
set_option linter.unusedSimpArgs false
namespace Sx
open Go Go.Proofs

theorem sameZ_self : ∀ l : List SV, sameZ l l = true
  | [] => rfl
  | x :: l => by
    show ((asInt (List.getD (cellsOf x) 0 SV.dead) == asInt (List.getD (cellsOf x) 0 SV.dead)) && sameZ l l) = true
    rw [sameZ_self l]; simp
theorem numZ_len (l : List SV) (g : Int) (hg : g ≤ 300) : (bif okPl l g then intsV (numZ l g) else []).length ≤ 999999 := by
  cases okPl l g with
  | true =>
    simp only [cond_true, intsV_len]
    unfold numZ
    have := List.length_filter_le (fun n => hasZ l n g) (rangeZ 1 g)
    rw [rangeZ_len] at this
    omega
  | false => simp
theorem f3_run (l : List SV) (n g : Int) : evFun f3_X 0 Tryd.f3 (frz f3_X.Ty Tryd.f3) [.lst 35 l, .int .i64 n, .int .i64 g] [] [] = some (.bool true) := by
  rw [f3_eq]
  have hl : (l.take 66).length ≤ 66 := by rw [List.length_take]; omega
  generalize l.take 66 = k at hl
  have b1 : Nat.ble k.length 999999 = true := Nat.ble_eq_true_of_le (by omega)
  have b2 : Nat.ble k.length 66 = true := Nat.ble_eq_true_of_le hl
  have b3 : (!hasZ k n g == hasZ k n g) = false := by cases hasZ k n g <;> rfl
  simp only [b1, b2, b3, cond_true, cond_false, Bool.true_and]
  by_cases c : g > 300
  · have b4 := Nat.ble_eq_true_of_le (numZ_len k 300 (by omega))
    simp only [c, decide_true, cond_true, b4, sameZ_self, beq_self_eq_true]
  · have c2 : g ≤ 300 := by omega
    have b4 := Nat.ble_eq_true_of_le (numZ_len k g c2)
    simp only [c, c2, decide_true, decide_false, cond_true, cond_false, b4, sameZ_self, beq_self_eq_true]
end Sx
