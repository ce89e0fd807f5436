/-
  The seat's environment: its types, its globals, and the library's functions that are called, each by its contract.
-/
import Derived.Test.YtloejipleojnmaaGreatDoorEe
import Derived.Test.YtloejipleojnmaaGreatDoorEc
import Derived.Test.YtloejipleojnmaaGreatDoorEd
import Derived.Test.YtloejipleojnmaaGreatDoorShelf
import Derived.KernelRfl
set_option linter.unusedVariables false
set_option linter.unusedSimpArgs false
set_option linter.unusedVariables false
set_option linter.unusedSimpArgs false
set_option maxRecDepth 100000
namespace Sx
open Go Go.Proofs

/-- What the globals hold. -/
def zG (w : World) : Prop := ∃ m, w.cell? ⟨0, 0, none⟩ = some (.int .i64 m)
noncomputable def zE : Env := envOf Tryz.prog 1 zG
theorem zE_ok : EnvOk zE := envOf_ok (fun w w' ⟨m, hm⟩ hb => ⟨m, by
  have := hb 0 (by omega)
  simp only [World.cell?] at hm ⊢
  rw [this]; exact hm⟩)
theorem zfx_ok {T : Specs} (h : SpecsOk zE T) (sm : List Nat) (live : Nat → List Nat × List (Nat × TypeId)) : FxOk zE ⟨tyOf Tryz.prog, T, sm, live⟩ := ⟨zE_ok, rfl, h, by kernel_rfl⟩
theorem zTy5 : ∃ d, zE.Ty 5 = some d ∧ d.d = .int .u8 := by
  have h : (tyOf Tryz.prog 5).map (·.d) = some (.int .u8) := by kernel_rfl
  cases q : tyOf Tryz.prog 5 with
  | none => rw [q] at h; cases h
  | some d => rw [q] at h; exact ⟨d, q, by simpa using h⟩
def gCut : List SV → Option (Bool × SV)
  | [.str a, .str b] => some (decide (a.size < 4294967281), .tup [.str ⟨(Lib.cut a.data.toList b.data.toList).1.toArray⟩, .str ⟨(Lib.cut a.data.toList b.data.toList).2.1.toArray⟩, .bool (Lib.cut a.data.toList b.data.toList).2.2])
  | _ => none
theorem zCut_ok : SpecOk zE 166 (.plain gCut) := by
  refine plain_of_calls zE_ok (fn := Tryz.f166) (by kernel_rfl) (by decide) (by rfl) (fun args sv h => ?_)
  unfold gCut at h
  split at h
  · rename_i a b
    simp only [Option.some.injEq, Prod.mk.injEq, decide_eq_true_eq] at h
    obtain ⟨h1, rfl⟩ := h
    refine ⟨[.string a, .string b], .tuple #[.string ⟨(Lib.cut a.data.toList b.data.toList).1.toArray⟩, .string ⟨(Lib.cut a.data.toList b.data.toList).2.1.toArray⟩, .bool (Lib.cut a.data.toList b.data.toList).2.2], rfl, fun w ok ρ => rel_tup_vals rfl, fun w ⟨_, m, hm⟩ => (Tryz.strings_Cut a b m w h1 hm).mono ?_⟩
    rintro e w' ⟨rfl, n, rfl⟩; exact ⟨rfl, ⟨rfl, rfl, rfl, rfl⟩⟩
  · cases h
def gCutPrefix : List SV → Option (Bool × SV)
  | [.str a, .str b] => some (true, .tup [.str ⟨(Lib.trimPrefix a.data.toList b.data.toList).toArray⟩, .bool (Lib.hasPrefix a.data.toList b.data.toList)])
  | _ => none
theorem zCutPrefix_ok : SpecOk zE 172 (.plain gCutPrefix) := by
  refine plain_of_calls zE_ok (fn := Tryz.f172) (by kernel_rfl) (by decide) (by rfl) (fun args sv h => ?_)
  unfold gCutPrefix at h
  split at h
  · rename_i a b
    simp only [Option.some.injEq, Prod.mk.injEq, decide_eq_true_eq] at h
    obtain ⟨h1, rfl⟩ := h
    refine ⟨[.string a, .string b], .tuple #[.string ⟨(Lib.trimPrefix a.data.toList b.data.toList).toArray⟩, .bool (Lib.hasPrefix a.data.toList b.data.toList)], rfl, fun w ok ρ => rel_tup_vals rfl, fun w ⟨_, m, hm⟩ => (Tryz.strings_CutPrefix a b w).mono ?_⟩
    rintro e w' ⟨rfl, rfl⟩; exact ⟨rfl, Idle.refl _⟩
  · cases h
def gHasSuffix : List SV → Option (Bool × SV)
  | [.str a, .str b] => some (Nat.ble a.size 9223372036854775807, .bool (Lib.hasSuffix a.data.toList b.data.toList))
  | _ => none
theorem zHasSuffix_ok : SpecOk zE 218 (.plain gHasSuffix) := by
  refine plain_of_calls zE_ok (fn := Tryz.f218) (by kernel_rfl) (by decide) (by rfl) (fun args sv h => ?_)
  unfold gHasSuffix at h
  split at h
  · rename_i a b
    simp only [Option.some.injEq, Prod.mk.injEq, decide_eq_true_eq] at h
    obtain ⟨h1, rfl⟩ := h
    refine ⟨[.string a, .string b], .bool (Lib.hasSuffix a.data.toList b.data.toList), rfl, fun w ok ρ => rel_bool _, fun w ⟨_, m, hm⟩ => (Tryz.strings_HasSuffix a b w (Nat.le_of_ble_eq_true h1)).mono ?_⟩
    rintro e w' ⟨rfl, rfl⟩; exact ⟨rfl, Idle.refl _⟩
  · cases h
def gTrimSuffix : List SV → Option (Bool × SV)
  | [.str a, .str b] => some (Nat.ble a.size 9223372036854775807, .str ⟨(Lib.trimSuffix a.data.toList b.data.toList).toArray⟩)
  | _ => none
theorem zTrimSuffix_ok : SpecOk zE 209 (.plain gTrimSuffix) := by
  refine plain_of_calls zE_ok (fn := Tryz.f209) (by kernel_rfl) (by decide) (by rfl) (fun args sv h => ?_)
  unfold gTrimSuffix at h
  split at h
  · rename_i a b
    simp only [Option.some.injEq, Prod.mk.injEq, decide_eq_true_eq] at h
    obtain ⟨h1, rfl⟩ := h
    refine ⟨[.string a, .string b], .string ⟨(Lib.trimSuffix a.data.toList b.data.toList).toArray⟩, rfl, fun w ok ρ => rel_str _, fun w ⟨_, m, hm⟩ => (Tryz.strings_TrimSuffix a b w (Nat.le_of_ble_eq_true h1)).mono ?_⟩
    rintro e w' ⟨rfl, rfl⟩; exact ⟨rfl, Idle.refl _⟩
  · cases h
def gStrIndexByte : List SV → Option (Bool × SV)
  | [.str a, .int .u8 c] => some (true, .int .i64 (Lib.indexByte a.data.toList c.toNat.toUInt8))
  | _ => none
theorem zStrIndexByte_ok : SpecOk zE 140 (.plain gStrIndexByte) := by
  refine plain_of_calls zE_ok (fn := Tryz.f140) (by kernel_rfl) (by decide) (by rfl) (fun args sv h => ?_)
  unfold gStrIndexByte at h
  split at h
  · rename_i a c
    simp only [Option.some.injEq, Prod.mk.injEq, decide_eq_true_eq] at h
    obtain ⟨h1, rfl⟩ := h
    refine ⟨[.string a, .int .u8 c], .int .i64 (Lib.indexByte a.data.toList c.toNat.toUInt8), rfl, fun w ok ρ => rel_int _ _, fun w ⟨_, m, hm⟩ => (Tryz.strings_IndexByte a c w).mono ?_⟩
    rintro e w' ⟨rfl, rfl⟩; exact ⟨rfl, Idle.refl _⟩
  · cases h
def isAsc (l : List UInt8) : Bool := l.all fun x => Nat.ble x.toNat 127
theorem isAsc_at {l : List UInt8} (h : isAsc l = true) (j : Nat) (b : UInt8) (hb : l[j]? = some b) : b.toNat < 128 := by
  have := List.all_eq_true.1 h b (List.mem_of_getElem? hb)
  have := Nat.le_of_ble_eq_true this
  omega
def gIndexAny : List SV → Option (Bool × SV)
  | [.str a, .str b] => some (decide (a.size < 4294967281) && (decide (b.size < 4294967281) && (isAsc a.data.toList && isAsc b.data.toList)), .int .i64 (Lib.indexAny a.data.toList b.data.toList))
  | _ => none
theorem zIndexAny_ok : SpecOk zE 215 (.plain gIndexAny) := by
  refine plain_of_below zE_ok (fn := Tryz.f215) (by kernel_rfl) (by decide) (by rfl) (fun args sv h => ?_)
  unfold gIndexAny at h
  split at h
  · rename_i a b
    simp only [Option.some.injEq, Prod.mk.injEq, Bool.and_eq_true, decide_eq_true_eq] at h
    obtain ⟨⟨h1, h2, h3, h4⟩, rfl⟩ := h
    exact ⟨[.string a, .string b], _, rfl, fun w ok ρ => rel_int _ _, fun w _ => Tryz.strings_IndexAny_laid a b w h1 h2 (isAsc_at h3) (isAsc_at h4)⟩
  · cases h
theorem zCountB_ok : SpecOk zE 76 (.look (gCountB 5)) := by
  obtain ⟨d, h1, h2⟩ := zTy5
  exact countB_ok zE_ok (fn := Tryz.f76) (by kernel_rfl) (by decide) (by rfl) (by kernel_rfl) (by kernel_rfl) h1 h2
theorem zIndexB_ok : SpecOk zE 159 (.look (gIndexB 5)) := by
  obtain ⟨d, h1, h2⟩ := zTy5
  exact indexB_ok zE_ok (fn := Tryz.f159) (by kernel_rfl) (by decide) (by rfl) (by kernel_rfl) (by kernel_rfl) h1 h2
def zLib : List (Nat × Spec) := [(166, .plain gCut), (172, .plain gCutPrefix), (218, .plain gHasSuffix), (209, .plain gTrimSuffix), (140, .plain gStrIndexByte), (215, .plain gIndexAny), (76, .look (gCountB 5)), (159, .look (gIndexB 5))]
theorem zLib_ok : SpecsOk zE (ofList zLib) := .cons zCut_ok (.cons zCutPrefix_ok (.cons zHasSuffix_ok (.cons zTrimSuffix_ok (.cons zStrIndexByte_ok (.cons zIndexAny_ok (.cons zCountB_ok (.cons zIndexB_ok .nil)))))))
end Sx

/-
  The library's builder: what its pointer is, and the text that it tells.
-/
set_option linter.unusedVariables false
set_option maxRecDepth 100000
namespace Sx
open Go Go.Proofs
theorem zNoEscape_ok : SpecOk zE 268 (.plain gSame) := noEscape_ok (fn := Tryz.f268) (by kernel_rfl) (by decide) (by rfl) (by kernel_rfl) (by kernel_rfl)
theorem zString_ok : SpecOk zE 211 (.wide (gString 229 5)) := by
  obtain ⟨d, h1, h2⟩ := zTy5
  exact string_ok zE_ok Tryz.lays169 Tryz.Builder_Extra_169 (fn := Tryz.f211) (by kernel_rfl) (by decide) (by rfl) h1 h2
noncomputable def zLib2 : List (Nat × Spec) := (268, .plain gSame) :: (211, .wide (gString 229 5)) :: zLib
theorem zLib2_ok : SpecsOk zE (ofList zLib2) := .cons zNoEscape_ok (.cons zString_ok zLib_ok)
end Sx

/-
  What the executor says of functions: the normal forms, each compared by the kernel. (Printed by a program.)
-/
set_option linter.unusedVariables false
namespace Sx
open Go Go.Proofs
set_option maxRecDepth 100000
/-- 'strings.makeASCIISet', as it runs. -/
noncomputable def r221_live : Nat → List Nat × List (Nat × TypeId) := fun h => bif Nat.beq h 2 then ([0, 2, 4], nilsOf (tyOf Tryz.prog) [(0, 9), (2, 0), (4, 3)]) else ([], [])
noncomputable def r221_X (sm : List Nat) : Fx := ⟨tyOf Tryz.prog, ofList zLib2, sm, r221_live⟩
noncomputable def r221_s : Spec := .plain (plainRun (r221_X []) 120 Tryz.f221)
theorem r221_ok : SpecOk zE 221 r221_s := plain_of_self (zfx_ok zLib2_ok [] r221_live) (by kernel_rfl) (by decide) (by rfl) 120
noncomputable def zLib2_221 : List (Nat × Spec) := (221, r221_s) :: zLib2
theorem zLib2_221_ok : SpecsOk zE (ofList zLib2_221) := .cons r221_ok zLib2_ok
/-- '(*strings.asciiSet).contains', as it runs. -/
noncomputable def r247_live : Nat → List Nat × List (Nat × TypeId) := fun h => ([], [])
noncomputable def r247_X (sm : List Nat) : Fx := ⟨tyOf Tryz.prog, ofList zLib2_221, sm, r247_live⟩
noncomputable def r247_s : Spec := .wide (wideOf (tyOf Tryz.prog) (coreRun r247_X (tyOf Tryz.prog) 120 Tryz.f247))
theorem r247_ok : SpecOk zE 247 r247_s := wide_of_self zE_ok (fun sm => ⟨zfx_ok zLib2_221_ok sm r247_live, rfl⟩) (by kernel_rfl) (by decide) (by rfl) 120
noncomputable def zLib2_221_247 : List (Nat × Spec) := (247, r247_s) :: zLib2_221
theorem zLib2_221_247_ok : SpecsOk zE (ofList zLib2_221_247) := .cons r247_ok zLib2_221_ok
/-- 'strings.trimLeftASCII', as it runs. -/
noncomputable def r222_live : Nat → List Nat × List (Nat × TypeId) := fun h => bif Nat.beq h 1 then ([0, 1], nilsOf (tyOf Tryz.prog) [(0, 9), (1, 237)]) else ([], [])
noncomputable def r222_X (sm : List Nat) : Fx := ⟨tyOf Tryz.prog, ofList zLib2_221_247, sm, r222_live⟩
noncomputable def r222_s : Spec := .wide (wideOf (tyOf Tryz.prog) (coreRun r222_X (tyOf Tryz.prog) 120 Tryz.f222))
theorem r222_ok : SpecOk zE 222 r222_s := wide_of_self zE_ok (fun sm => ⟨zfx_ok zLib2_221_247_ok sm r222_live, rfl⟩) (by kernel_rfl) (by decide) (by rfl) 120
noncomputable def zLib2_221_247_222 : List (Nat × Spec) := (222, r222_s) :: zLib2_221_247
theorem zLib2_221_247_222_ok : SpecsOk zE (ofList zLib2_221_247_222) := .cons r222_ok zLib2_221_247_ok
/-- 'strings.trimRightASCII', as it runs. -/
noncomputable def r223_live : Nat → List Nat × List (Nat × TypeId) := fun h => bif Nat.beq h 1 then ([0, 1], nilsOf (tyOf Tryz.prog) [(0, 9), (1, 237)]) else ([], [])
noncomputable def r223_X (sm : List Nat) : Fx := ⟨tyOf Tryz.prog, ofList zLib2_221_247_222, sm, r223_live⟩
noncomputable def r223_s : Spec := .wide (wideOf (tyOf Tryz.prog) (coreRun r223_X (tyOf Tryz.prog) 120 Tryz.f223))
theorem r223_ok : SpecOk zE 223 r223_s := wide_of_self zE_ok (fun sm => ⟨zfx_ok zLib2_221_247_222_ok sm r223_live, rfl⟩) (by kernel_rfl) (by decide) (by rfl) 120
noncomputable def zLib2_221_247_222_223 : List (Nat × Spec) := (223, r223_s) :: zLib2_221_247_222
theorem zLib2_221_247_222_223_ok : SpecsOk zE (ofList zLib2_221_247_222_223) := .cons r223_ok zLib2_221_247_222_ok
/-- 'strings.trimLeftByte', as it runs. -/
noncomputable def r219_live : Nat → List Nat × List (Nat × TypeId) := fun h => bif Nat.beq h 1 then ([0, 1], nilsOf (tyOf Tryz.prog) [(0, 9), (1, 5)]) else ([], [])
noncomputable def r219_X (sm : List Nat) : Fx := ⟨tyOf Tryz.prog, ofList zLib2_221_247_222_223, sm, r219_live⟩
noncomputable def r219_s : Spec := .plain (plainRun (r219_X []) 120 Tryz.f219)
theorem r219_ok : SpecOk zE 219 r219_s := plain_of_self (zfx_ok zLib2_221_247_222_223_ok [] r219_live) (by kernel_rfl) (by decide) (by rfl) 120
noncomputable def zLib2_221_247_222_223_219 : List (Nat × Spec) := (219, r219_s) :: zLib2_221_247_222_223
theorem zLib2_221_247_222_223_219_ok : SpecsOk zE (ofList zLib2_221_247_222_223_219) := .cons r219_ok zLib2_221_247_222_223_ok
/-- 'strings.trimRightByte', as it runs. -/
noncomputable def r220_live : Nat → List Nat × List (Nat × TypeId) := fun h => bif Nat.beq h 1 then ([0, 1], nilsOf (tyOf Tryz.prog) [(0, 9), (1, 5)]) else ([], [])
noncomputable def r220_X (sm : List Nat) : Fx := ⟨tyOf Tryz.prog, ofList zLib2_221_247_222_223_219, sm, r220_live⟩
noncomputable def r220_s : Spec := .plain (plainRun (r220_X []) 120 Tryz.f220)
theorem r220_ok : SpecOk zE 220 r220_s := plain_of_self (zfx_ok zLib2_221_247_222_223_219_ok [] r220_live) (by kernel_rfl) (by decide) (by rfl) 120
noncomputable def zLib2_221_247_222_223_219_220 : List (Nat × Spec) := (220, r220_s) :: zLib2_221_247_222_223_219
theorem zLib2_221_247_222_223_219_220_ok : SpecsOk zE (ofList zLib2_221_247_222_223_219_220) := .cons r220_ok zLib2_221_247_222_223_219_ok
/-- 'strings.Trim', as it runs. -/
noncomputable def r174_live : Nat → List Nat × List (Nat × TypeId) := fun h => ([], [])
noncomputable def r174_X (sm : List Nat) : Fx := ⟨tyOf Tryz.prog, ofList zLib2_221_247_222_223_219_220, sm, r174_live⟩
noncomputable def r174_s : Spec := .plain (plainRun (r174_X []) 120 Tryz.f174)
theorem r174_ok : SpecOk zE 174 r174_s := plain_of_self (zfx_ok zLib2_221_247_222_223_219_220_ok [] r174_live) (by kernel_rfl) (by decide) (by rfl) 120
noncomputable def zLib2_221_247_222_223_219_220_174 : List (Nat × Spec) := (174, r174_s) :: zLib2_221_247_222_223_219_220
theorem zLib2_221_247_222_223_219_220_174_ok : SpecsOk zE (ofList zLib2_221_247_222_223_219_220_174) := .cons r174_ok zLib2_221_247_222_223_219_220_ok
/-- 'strings.TrimLeft', as it runs. -/
noncomputable def r214_live : Nat → List Nat × List (Nat × TypeId) := fun h => ([], [])
noncomputable def r214_X (sm : List Nat) : Fx := ⟨tyOf Tryz.prog, ofList zLib2_221_247_222_223_219_220_174, sm, r214_live⟩
noncomputable def r214_s : Spec := .plain (plainRun (r214_X []) 120 Tryz.f214)
theorem r214_ok : SpecOk zE 214 r214_s := plain_of_self (zfx_ok zLib2_221_247_222_223_219_220_174_ok [] r214_live) (by kernel_rfl) (by decide) (by rfl) 120
noncomputable def zLib2_221_247_222_223_219_220_174_214 : List (Nat × Spec) := (214, r214_s) :: zLib2_221_247_222_223_219_220_174
theorem zLib2_221_247_222_223_219_220_174_214_ok : SpecsOk zE (ofList zLib2_221_247_222_223_219_220_174_214) := .cons r214_ok zLib2_221_247_222_223_219_220_174_ok
end Sx

/-
  What the examples trim, told once.
-/
set_option linter.unusedVariables false
set_option maxRecDepth 100000
namespace Sx
open Go Go.Proofs
theorem ba_of {a : ByteArray} {l : List UInt8} (h : (a.data.toList == l) = true) : a = ⟨l.toArray⟩ := by
  have h : a.data.toList = l := by simpa using h
  obtain ⟨d⟩ := a
  simp only at h
  congr 1
  rw [← h]
theorem zTrim0 : plainRun (r174_X []) 120 Tryz.f174 [.str ⟨#[32, 109, 117, 108, 116, 105, 112, 97, 114, 116, 47, 109, 105, 120, 101, 100, 59, 32, 98, 111, 117, 110, 100, 97, 114, 121, 61, 120]⟩, .str ⟨#[32, 9]⟩] = some (true, .str ⟨#[109, 117, 108, 116, 105, 112, 97, 114, 116, 47, 109, 105, 120, 101, 100, 59, 32, 98, 111, 117, 110, 100, 97, 114, 121, 61, 120]⟩) := by kernel_rfl
theorem zTrim1 : plainRun (r174_X []) 120 Tryz.f174 [.str ⟨#[109, 117, 108, 116, 105, 112, 97, 114, 116, 47, 109, 105, 120, 101, 100]⟩, .str ⟨#[32, 9]⟩] = some (true, .str ⟨#[109, 117, 108, 116, 105, 112, 97, 114, 116, 47, 109, 105, 120, 101, 100]⟩) := by kernel_rfl
theorem zTrim2 : plainRun (r174_X []) 120 Tryz.f174 [.str ⟨#[32, 98, 111, 117, 110, 100, 97, 114, 121]⟩, .str ⟨#[32, 9]⟩] = some (true, .str ⟨#[98, 111, 117, 110, 100, 97, 114, 121]⟩) := by kernel_rfl
theorem zTrim3 : plainRun (r174_X []) 120 Tryz.f174 [.str ⟨#[]⟩, .str ⟨#[32, 9]⟩] = some (true, .str ⟨#[]⟩) := by kernel_rfl
def gTrimC : List SV → Option (Bool × SV)
  | [.str a, .str b] => bif b.data.toList == [32, 9] then (bif a.data.toList == [32, 109, 117, 108, 116, 105, 112, 97, 114, 116, 47, 109, 105, 120, 101, 100, 59, 32, 98, 111, 117, 110, 100, 97, 114, 121, 61, 120] then some (true, .str ⟨#[109, 117, 108, 116, 105, 112, 97, 114, 116, 47, 109, 105, 120, 101, 100, 59, 32, 98, 111, 117, 110, 100, 97, 114, 121, 61, 120]⟩) else (bif a.data.toList == [109, 117, 108, 116, 105, 112, 97, 114, 116, 47, 109, 105, 120, 101, 100] then some (true, .str ⟨#[109, 117, 108, 116, 105, 112, 97, 114, 116, 47, 109, 105, 120, 101, 100]⟩) else (bif a.data.toList == [32, 98, 111, 117, 110, 100, 97, 114, 121] then some (true, .str ⟨#[98, 111, 117, 110, 100, 97, 114, 121]⟩) else (bif a.data.toList == [] then some (true, .str ⟨#[]⟩) else none)))) else none
  | _ => none
theorem zTrimC_ok : SpecOk zE 174 (.plain gTrimC) := fun ρ s a w args vals sv hR hl h => by
  refine r174_ok ρ s a w args vals _ hR hl ?_
  unfold gTrimC at h
  split at h
  · rename_i x y
    simp only [cond_eq_ite] at h
    split at h
    · rename_i hy
      rw [ba_of hy]
      split at h
      · rename_i hx
        cases h
        rw [ba_of hx]; exact zTrim0
      · skip
        split at h
        · rename_i hx
          cases h
          rw [ba_of hx]; exact zTrim1
        · skip
          split at h
          · rename_i hx
            cases h
            rw [ba_of hx]; exact zTrim2
          · skip
            split at h
            · rename_i hx
              cases h
              rw [ba_of hx]; exact zTrim3
            · skip
              cases h
    · cases h
  · cases h
theorem zTrimLeft0 : plainRun (r214_X []) 120 Tryz.f214 [.str ⟨#[120]⟩, .str ⟨#[32, 9]⟩] = some (true, .str ⟨#[120]⟩) := by kernel_rfl
def gTrimLeftC : List SV → Option (Bool × SV)
  | [.str a, .str b] => bif b.data.toList == [32, 9] then (bif a.data.toList == [120] then some (true, .str ⟨#[120]⟩) else none) else none
  | _ => none
theorem zTrimLeftC_ok : SpecOk zE 214 (.plain gTrimLeftC) := fun ρ s a w args vals sv hR hl h => by
  refine r214_ok ρ s a w args vals _ hR hl ?_
  unfold gTrimLeftC at h
  split at h
  · rename_i x y
    simp only [cond_eq_ite] at h
    split at h
    · rename_i hy
      rw [ba_of hy]
      split at h
      · rename_i hx
        cases h
        rw [ba_of hx]; exact zTrimLeft0
      · skip
        cases h
    · cases h
  · cases h
noncomputable def zT1 : List (Nat × Spec) := (174, .plain gTrimC) :: (214, .plain gTrimLeftC) :: zLib2
theorem zT1_ok : SpecsOk zE (ofList zT1) := .cons zTrimC_ok (.cons zTrimLeftC_ok zLib2_ok)
end Sx

/-
  What the executor says of functions: the normal forms, each compared by the kernel. (Printed by a program.)
-/
set_option linter.unusedVariables false
namespace Sx
open Go Go.Proofs
set_option maxRecDepth 100000
/-- '(*strings.Builder).copyCheck', as it runs. -/
noncomputable def r243_live : Nat → List Nat × List (Nat × TypeId) := fun h => ([], [])
noncomputable def r243_X (sm : List Nat) : Fx := ⟨tyOf Tryz.prog, ofList zT1, sm, r243_live⟩
noncomputable def r243_s : Spec := .wide (wideOf (tyOf Tryz.prog) (coreRun r243_X (tyOf Tryz.prog) 120 Tryz.f243))
theorem r243_ok : SpecOk zE 243 r243_s := wide_of_self zE_ok (fun sm => ⟨zfx_ok zT1_ok sm r243_live, rfl⟩) (by kernel_rfl) (by decide) (by rfl) 120
noncomputable def zT1_243 : List (Nat × Spec) := (243, r243_s) :: zT1
theorem zT1_243_ok : SpecsOk zE (ofList zT1_243) := .cons r243_ok zT1_ok
/-- '(*strings.Builder).WriteString', as it runs. -/
noncomputable def r210_live : Nat → List Nat × List (Nat × TypeId) := fun h => ([], [])
noncomputable def r210_X (sm : List Nat) : Fx := ⟨tyOf Tryz.prog, ofList zT1_243, sm, r210_live⟩
noncomputable def r210_s : Spec := .wide (wideOf (tyOf Tryz.prog) (coreRun r210_X (tyOf Tryz.prog) 120 Tryz.f210))
theorem r210_ok : SpecOk zE 210 r210_s := wide_of_self zE_ok (fun sm => ⟨zfx_ok zT1_243_ok sm r210_live, rfl⟩) (by kernel_rfl) (by decide) (by rfl) 120
noncomputable def zT1_243_210 : List (Nat × Spec) := (210, r210_s) :: zT1_243
theorem zT1_243_210_ok : SpecsOk zE (ofList zT1_243_210) := .cons r210_ok zT1_243_ok
/-- '(*strings.Builder).WriteByte', as it runs. -/
noncomputable def r216_live : Nat → List Nat × List (Nat × TypeId) := fun h => ([], [])
noncomputable def r216_X (sm : List Nat) : Fx := ⟨tyOf Tryz.prog, ofList zT1_243_210, sm, r216_live⟩
noncomputable def r216_s : Spec := .wide (wideOf (tyOf Tryz.prog) (coreRun r216_X (tyOf Tryz.prog) 120 Tryz.f216))
theorem r216_ok : SpecOk zE 216 r216_s := wide_of_self zE_ok (fun sm => ⟨zfx_ok zT1_243_210_ok sm r216_live, rfl⟩) (by kernel_rfl) (by decide) (by rfl) 120
noncomputable def zT1_243_210_216 : List (Nat × Spec) := (216, r216_s) :: zT1_243_210
theorem zT1_243_210_216_ok : SpecsOk zE (ofList zT1_243_210_216) := .cons r216_ok zT1_243_210_ok
/-- 'bytes.IndexByte', as it runs. -/
noncomputable def r112_live : Nat → List Nat × List (Nat × TypeId) := fun h => ([], [])
noncomputable def r112_X (sm : List Nat) : Fx := ⟨tyOf Tryz.prog, ofList zT1_243_210_216, sm, r112_live⟩
noncomputable def r112_s : Spec := .plain (plainRun (r112_X []) 120 Tryz.f112)
theorem r112_ok : SpecOk zE 112 r112_s := plain_of_self (zfx_ok zT1_243_210_216_ok [] r112_live) (by kernel_rfl) (by decide) (by rfl) 120
noncomputable def zT1_243_210_216_112 : List (Nat × Spec) := (112, r112_s) :: zT1_243_210_216
theorem zT1_243_210_216_112_ok : SpecsOk zE (ofList zT1_243_210_216_112) := .cons r112_ok zT1_243_210_216_ok
/-- 'hamper/head.blank', as it runs. -/
noncomputable def r206_live : Nat → List Nat × List (Nat × TypeId) := fun h => ([], [])
noncomputable def r206_X (sm : List Nat) : Fx := ⟨tyOf Tryz.prog, ofList zT1_243_210_216_112, sm, r206_live⟩
noncomputable def r206_s : Spec := .plain (plainRun (r206_X []) 120 Tryz.f206)
theorem r206_ok : SpecOk zE 206 r206_s := plain_of_self (zfx_ok zT1_243_210_216_112_ok [] r206_live) (by kernel_rfl) (by decide) (by rfl) 120
noncomputable def zT1_243_210_216_112_206 : List (Nat × Spec) := (206, r206_s) :: zT1_243_210_216_112
theorem zT1_243_210_216_112_206_ok : SpecsOk zE (ofList zT1_243_210_216_112_206) := .cons r206_ok zT1_243_210_216_112_ok
/-- 'hamper/head.begin', as it runs. -/
noncomputable def r207_live : Nat → List Nat × List (Nat × TypeId) := fun h => bif Nat.beq h 5 then ([0, 5, 6], nilsOf (tyOf Tryz.prog) [(0, 22), (5, 3), (6, 3)]) else bif Nat.beq h 2 then ([0, 5], nilsOf (tyOf Tryz.prog) [(0, 22), (5, 3)]) else ([], [])
noncomputable def r207_X (sm : List Nat) : Fx := ⟨tyOf Tryz.prog, ofList zT1_243_210_216_112_206, sm, r207_live⟩
noncomputable def r207_s : Spec := .plain (plainRun (r207_X []) 120 Tryz.f207)
theorem r207_ok : SpecOk zE 207 r207_s := plain_of_self (zfx_ok zT1_243_210_216_112_206_ok [] r207_live) (by kernel_rfl) (by decide) (by rfl) 120
noncomputable def zT1_243_210_216_112_206_207 : List (Nat × Spec) := (207, r207_s) :: zT1_243_210_216_112_206
theorem zT1_243_210_216_112_206_207_ok : SpecsOk zE (ofList zT1_243_210_216_112_206_207) := .cons r207_ok zT1_243_210_216_112_206_ok
/-- 'hamper/head.small', as it runs. -/
noncomputable def r208_live : Nat → List Nat × List (Nat × TypeId) := fun h => ([], [])
noncomputable def r208_X (sm : List Nat) : Fx := ⟨tyOf Tryz.prog, ofList zT1_243_210_216_112_206_207, sm, r208_live⟩
noncomputable def r208_s : Spec := .plain (plainRun (r208_X []) 120 Tryz.f208)
theorem r208_ok : SpecOk zE 208 r208_s := plain_of_self (zfx_ok zT1_243_210_216_112_206_207_ok [] r208_live) (by kernel_rfl) (by decide) (by rfl) 120
noncomputable def zT1_243_210_216_112_206_207_208 : List (Nat × Spec) := (208, r208_s) :: zT1_243_210_216_112_206_207
theorem zT1_243_210_216_112_206_207_208_ok : SpecsOk zE (ofList zT1_243_210_216_112_206_207_208) := .cons r208_ok zT1_243_210_216_112_206_207_ok
/-- 'hamper/head.empty', as it runs. -/
noncomputable def r118_live : Nat → List Nat × List (Nat × TypeId) := fun h => ([], [])
noncomputable def r118_X (sm : List Nat) : Fx := ⟨tyOf Tryz.prog, ofList zT1_243_210_216_112_206_207_208, sm, r118_live⟩
noncomputable def r118_s : Spec := .plain (plainRun (r118_X []) 120 Tryz.f118)
theorem r118_ok : SpecOk zE 118 r118_s := plain_of_self (zfx_ok zT1_243_210_216_112_206_207_208_ok [] r118_live) (by kernel_rfl) (by decide) (by rfl) 120
noncomputable def zT1_243_210_216_112_206_207_208_118 : List (Nat × Spec) := (118, r118_s) :: zT1_243_210_216_112_206_207_208
theorem zT1_243_210_216_112_206_207_208_118_ok : SpecsOk zE (ofList zT1_243_210_216_112_206_207_208_118) := .cons r118_ok zT1_243_210_216_112_206_207_208_ok
/-- 'hamper/head.lines', as it runs. -/
noncomputable def r117_live : Nat → List Nat × List (Nat × TypeId) := fun h => ([], [])
noncomputable def r117_X (sm : List Nat) : Fx := ⟨tyOf Tryz.prog, ofList zT1_243_210_216_112_206_207_208_118, sm, r117_live⟩
noncomputable def r117_s : Spec := .wide (wideOf (tyOf Tryz.prog) (coreRun r117_X (tyOf Tryz.prog) 120 Tryz.f117))
theorem r117_ok : SpecOk zE 117 r117_s := wide_of_self zE_ok (fun sm => ⟨zfx_ok zT1_243_210_216_112_206_207_208_118_ok sm r117_live, rfl⟩) (by kernel_rfl) (by decide) (by rfl) 120
noncomputable def zT1_243_210_216_112_206_207_208_118_117 : List (Nat × Spec) := (117, r117_s) :: zT1_243_210_216_112_206_207_208_118
theorem zT1_243_210_216_112_206_207_208_118_117_ok : SpecsOk zE (ofList zT1_243_210_216_112_206_207_208_118_117) := .cons r117_ok zT1_243_210_216_112_206_207_208_118_ok
/-- 'hamper/head.Split', as it runs. -/
noncomputable def r78_live : Nat → List Nat × List (Nat × TypeId) := fun h => bif Nat.beq h 2 then ([1, 2, 6], nilsOf (tyOf Tryz.prog) [(1, 0), (2, 0), (6, 155)]) else ([], [])
noncomputable def r78_X (sm : List Nat) : Fx := ⟨tyOf Tryz.prog, ofList zT1_243_210_216_112_206_207_208_118_117, sm, r78_live⟩
/-- The slots that are needed at the loops' heads of 'hamper/head.lines$1'. -/
noncomputable def i161_live : Nat → List Nat × List (Nat × TypeId) := fun h => bif Nat.beq h 1 then ([0, 1, 3], nilsOf (tyOf Tryz.prog) [(0, 113), (3, 3)]) else ([], [])
noncomputable def r78_I : Inl := inlOf [(161, Tryz.f161, i161_live)]
theorem r78_Iok : InlOk zE r78_I := (.cons (by kernel_rfl) (by decide) .nil)
noncomputable def r78_s : Spec := .plain (plainRunR (r78_X []) r78_I 120 Tryz.f78)
theorem r78_ok : SpecOk zE 78 r78_s := plain_of_selfR (zfx_ok zT1_243_210_216_112_206_207_208_118_117_ok [] r78_live) r78_Iok (by kernel_rfl) (by decide) (by rfl) 120
noncomputable def zT1_243_210_216_112_206_207_208_118_117_78 : List (Nat × Spec) := (78, r78_s) :: zT1_243_210_216_112_206_207_208_118_117
theorem zT1_243_210_216_112_206_207_208_118_117_78_ok : SpecsOk zE (ofList zT1_243_210_216_112_206_207_208_118_117_78) := .cons r78_ok zT1_243_210_216_112_206_207_208_118_117_ok
/-- 'hamper/head.Fields', as it runs. -/
noncomputable def r162_live : Nat → List Nat × List (Nat × TypeId) := fun h => bif Nat.beq h 4 then ([1, 2, 3, 4, 15], nilsOf (tyOf Tryz.prog) [(1, 0), (2, 0), (3, 0), (4, 0), (15, 155)]) else ([], [])
noncomputable def r162_X (sm : List Nat) : Fx := ⟨tyOf Tryz.prog, ofList zT1_243_210_216_112_206_207_208_118_117_78, sm, r162_live⟩
noncomputable def r162_I : Inl := inlOf [(161, Tryz.f161, i161_live)]
theorem r162_Iok : InlOk zE r162_I := (.cons (by kernel_rfl) (by decide) .nil)
noncomputable def r162_s : Spec := .plain (plainRunR (r162_X []) r162_I 120 Tryz.f162)
theorem r162_ok : SpecOk zE 162 r162_s := plain_of_selfR (zfx_ok zT1_243_210_216_112_206_207_208_118_117_78_ok [] r162_live) r162_Iok (by kernel_rfl) (by decide) (by rfl) 120
noncomputable def zT1_243_210_216_112_206_207_208_118_117_78_162 : List (Nat × Spec) := (162, r162_s) :: zT1_243_210_216_112_206_207_208_118_117_78
theorem zT1_243_210_216_112_206_207_208_118_117_78_162_ok : SpecsOk zE (ofList zT1_243_210_216_112_206_207_208_118_117_78_162) := .cons r162_ok zT1_243_210_216_112_206_207_208_118_117_78_ok
/-- 'hamper/head.Alike', as it runs. -/
noncomputable def r163_live : Nat → List Nat × List (Nat × TypeId) := fun h => bif Nat.beq h 4 then ([0, 1, 12, 13], nilsOf (tyOf Tryz.prog) [(0, 9), (1, 9), (12, 3), (13, 3)]) else ([], [])
noncomputable def r163_X (sm : List Nat) : Fx := ⟨tyOf Tryz.prog, ofList zT1_243_210_216_112_206_207_208_118_117_78_162, sm, r163_live⟩
noncomputable def r163_s : Spec := .plain (plainRun (r163_X []) 120 Tryz.f163)
theorem r163_ok : SpecOk zE 163 r163_s := plain_of_self (zfx_ok zT1_243_210_216_112_206_207_208_118_117_78_162_ok [] r163_live) (by kernel_rfl) (by decide) (by rfl) 120
noncomputable def zT1_243_210_216_112_206_207_208_118_117_78_162_163 : List (Nat × Spec) := (163, r163_s) :: zT1_243_210_216_112_206_207_208_118_117_78_162
theorem zT1_243_210_216_112_206_207_208_118_117_78_162_163_ok : SpecsOk zE (ofList zT1_243_210_216_112_206_207_208_118_117_78_162_163) := .cons r163_ok zT1_243_210_216_112_206_207_208_118_117_78_162_ok
/-- 'hamper/head.text', as it runs. -/
noncomputable def r164_live : Nat → List Nat × List (Nat × TypeId) := fun h => bif Nat.beq h 3 then ([2, 3, 5, 15], nilsOf (tyOf Tryz.prog) [(2, 0), (3, 0), (5, 0), (15, 155)]) else ([], [])
noncomputable def r164_X (sm : List Nat) : Fx := ⟨tyOf Tryz.prog, ofList zT1_243_210_216_112_206_207_208_118_117_78_162_163, sm, r164_live⟩
noncomputable def r164_I : Inl := inlOf [(161, Tryz.f161, i161_live)]
theorem r164_Iok : InlOk zE r164_I := (.cons (by kernel_rfl) (by decide) .nil)
noncomputable def r164_s : Spec := .plain (plainRunR (r164_X []) r164_I 120 Tryz.f164)
theorem r164_ok : SpecOk zE 164 r164_s := plain_of_selfR (zfx_ok zT1_243_210_216_112_206_207_208_118_117_78_162_163_ok [] r164_live) r164_Iok (by kernel_rfl) (by decide) (by rfl) 120
noncomputable def zT1_243_210_216_112_206_207_208_118_117_78_162_163_164 : List (Nat × Spec) := (164, r164_s) :: zT1_243_210_216_112_206_207_208_118_117_78_162_163
theorem zT1_243_210_216_112_206_207_208_118_117_78_162_163_164_ok : SpecsOk zE (ofList zT1_243_210_216_112_206_207_208_118_117_78_162_163_164) := .cons r164_ok zT1_243_210_216_112_206_207_208_118_117_78_162_163_ok
/-- 'hamper/head.Find', as it runs. -/
noncomputable def r119_live : Nat → List Nat × List (Nat × TypeId) := fun h => bif Nat.beq h 2 then ([0, 1, 9, 10, 11], nilsOf (tyOf Tryz.prog) [(0, 22), (1, 9), (9, 119), (10, 3), (11, 3)]) else ([], [])
noncomputable def r119_X (sm : List Nat) : Fx := ⟨tyOf Tryz.prog, ofList zT1_243_210_216_112_206_207_208_118_117_78_162_163_164, sm, r119_live⟩
noncomputable def r119_s : Spec := .plain (plainRun (r119_X []) 120 Tryz.f119)
theorem r119_ok : SpecOk zE 119 r119_s := plain_of_self (zfx_ok zT1_243_210_216_112_206_207_208_118_117_78_162_163_164_ok [] r119_live) (by kernel_rfl) (by decide) (by rfl) 120
noncomputable def zT1_243_210_216_112_206_207_208_118_117_78_162_163_164_119 : List (Nat × Spec) := (119, r119_s) :: zT1_243_210_216_112_206_207_208_118_117_78_162_163_164
theorem zT1_243_210_216_112_206_207_208_118_117_78_162_163_164_119_ok : SpecsOk zE (ofList zT1_243_210_216_112_206_207_208_118_117_78_162_163_164_119) := .cons r119_ok zT1_243_210_216_112_206_207_208_118_117_78_162_163_164_ok
/-- 'hamper/param.pieces', as it runs. -/
noncomputable def r165_live : Nat → List Nat × List (Nat × TypeId) := fun h => ([], [])
noncomputable def r165_X (sm : List Nat) : Fx := ⟨tyOf Tryz.prog, ofList zT1_243_210_216_112_206_207_208_118_117_78_162_163_164_119, sm, r165_live⟩
noncomputable def r165_s : Spec := .wide (wideOf (tyOf Tryz.prog) (coreRun r165_X (tyOf Tryz.prog) 120 Tryz.f165))
theorem r165_ok : SpecOk zE 165 r165_s := wide_of_self zE_ok (fun sm => ⟨zfx_ok zT1_243_210_216_112_206_207_208_118_117_78_162_163_164_119_ok sm r165_live, rfl⟩) (by kernel_rfl) (by decide) (by rfl) 120
noncomputable def zT1_243_210_216_112_206_207_208_118_117_78_162_163_164_119_165 : List (Nat × Spec) := (165, r165_s) :: zT1_243_210_216_112_206_207_208_118_117_78_162_163_164_119
theorem zT1_243_210_216_112_206_207_208_118_117_78_162_163_164_119_165_ok : SpecsOk zE (ofList zT1_243_210_216_112_206_207_208_118_117_78_162_163_164_119_165) := .cons r165_ok zT1_243_210_216_112_206_207_208_118_117_78_162_163_164_119_ok
/-- 'hamper/param.trim', as it runs. -/
noncomputable def r167_live : Nat → List Nat × List (Nat × TypeId) := fun h => ([], [])
noncomputable def r167_X (sm : List Nat) : Fx := ⟨tyOf Tryz.prog, ofList zT1_243_210_216_112_206_207_208_118_117_78_162_163_164_119_165, sm, r167_live⟩
noncomputable def r167_s : Spec := .plain (plainRun (r167_X []) 120 Tryz.f167)
theorem r167_ok : SpecOk zE 167 r167_s := plain_of_self (zfx_ok zT1_243_210_216_112_206_207_208_118_117_78_162_163_164_119_165_ok [] r167_live) (by kernel_rfl) (by decide) (by rfl) 120
noncomputable def zT1_243_210_216_112_206_207_208_118_117_78_162_163_164_119_165_167 : List (Nat × Spec) := (167, r167_s) :: zT1_243_210_216_112_206_207_208_118_117_78_162_163_164_119_165
theorem zT1_243_210_216_112_206_207_208_118_117_78_162_163_164_119_165_167_ok : SpecsOk zE (ofList zT1_243_210_216_112_206_207_208_118_117_78_162_163_164_119_165_167) := .cons r167_ok zT1_243_210_216_112_206_207_208_118_117_78_162_163_164_119_165_ok
/-- 'hamper/param.Token', as it runs. -/
noncomputable def r168_live : Nat → List Nat × List (Nat × TypeId) := fun h => bif Nat.beq h 2 then ([0, 5, 6], nilsOf (tyOf Tryz.prog) [(0, 9), (5, 3), (6, 3)]) else ([], [])
noncomputable def r168_X (sm : List Nat) : Fx := ⟨tyOf Tryz.prog, ofList zT1_243_210_216_112_206_207_208_118_117_78_162_163_164_119_165_167, sm, r168_live⟩
noncomputable def r168_s : Spec := .plain (plainRun (r168_X []) 120 Tryz.f168)
theorem r168_ok : SpecOk zE 168 r168_s := plain_of_self (zfx_ok zT1_243_210_216_112_206_207_208_118_117_78_162_163_164_119_165_167_ok [] r168_live) (by kernel_rfl) (by decide) (by rfl) 120
noncomputable def zT1_243_210_216_112_206_207_208_118_117_78_162_163_164_119_165_167_168 : List (Nat × Spec) := (168, r168_s) :: zT1_243_210_216_112_206_207_208_118_117_78_162_163_164_119_165_167
theorem zT1_243_210_216_112_206_207_208_118_117_78_162_163_164_119_165_167_168_ok : SpecsOk zE (ofList zT1_243_210_216_112_206_207_208_118_117_78_162_163_164_119_165_167_168) := .cons r168_ok zT1_243_210_216_112_206_207_208_118_117_78_162_163_164_119_165_167_ok
/-- 'hamper/param.lower', as it runs. -/
noncomputable def r169_live : Nat → List Nat × List (Nat × TypeId) := fun h => bif Nat.beq h 3 then ([3, 8, 9, 10], nilsOf (tyOf Tryz.prog) [(3, 22), (8, 22), (9, 3), (10, 3)]) else ([], [])
noncomputable def r169_X (sm : List Nat) : Fx := ⟨tyOf Tryz.prog, ofList zT1_243_210_216_112_206_207_208_118_117_78_162_163_164_119_165_167_168, sm, r169_live⟩
noncomputable def r169_s : Spec := .plain (plainRun (r169_X []) 120 Tryz.f169)
theorem r169_ok : SpecOk zE 169 r169_s := plain_of_self (zfx_ok zT1_243_210_216_112_206_207_208_118_117_78_162_163_164_119_165_167_168_ok [] r169_live) (by kernel_rfl) (by decide) (by rfl) 120
noncomputable def zT1_243_210_216_112_206_207_208_118_117_78_162_163_164_119_165_167_168_169 : List (Nat × Spec) := (169, r169_s) :: zT1_243_210_216_112_206_207_208_118_117_78_162_163_164_119_165_167_168
theorem zT1_243_210_216_112_206_207_208_118_117_78_162_163_164_119_165_167_168_169_ok : SpecsOk zE (ofList zT1_243_210_216_112_206_207_208_118_117_78_162_163_164_119_165_167_168_169) := .cons r169_ok zT1_243_210_216_112_206_207_208_118_117_78_162_163_164_119_165_167_168_ok
/-- 'hamper/param.value', as it runs. -/
noncomputable def r170_live : Nat → List Nat × List (Nat × TypeId) := fun h => bif Nat.beq h 9 then ([0, 4, 5], nilsOf (tyOf Tryz.prog) [(0, 9), (4, 0), (5, 3)]) else ([], [])
noncomputable def r170_X (sm : List Nat) : Fx := ⟨tyOf Tryz.prog, ofList zT1_243_210_216_112_206_207_208_118_117_78_162_163_164_119_165_167_168_169, sm, r170_live⟩
noncomputable def r170_s : Spec := .plain (plainRun (r170_X []) 120 Tryz.f170)
theorem r170_ok : SpecOk zE 170 r170_s := plain_of_self (zfx_ok zT1_243_210_216_112_206_207_208_118_117_78_162_163_164_119_165_167_168_169_ok [] r170_live) (by kernel_rfl) (by decide) (by rfl) 120
noncomputable def zT1_243_210_216_112_206_207_208_118_117_78_162_163_164_119_165_167_168_169_170 : List (Nat × Spec) := (170, r170_s) :: zT1_243_210_216_112_206_207_208_118_117_78_162_163_164_119_165_167_168_169
theorem zT1_243_210_216_112_206_207_208_118_117_78_162_163_164_119_165_167_168_169_170_ok : SpecsOk zE (ofList zT1_243_210_216_112_206_207_208_118_117_78_162_163_164_119_165_167_168_169_170) := .cons r170_ok zT1_243_210_216_112_206_207_208_118_117_78_162_163_164_119_165_167_168_169_ok
/-- 'hamper/param.Read', as it runs. -/
noncomputable def r120_live : Nat → List Nat × List (Nat × TypeId) := fun h => bif Nat.beq h 4 then ([2, 3, 4, 14], nilsOf (tyOf Tryz.prog) [(2, 0), (3, 0), (4, 0), (14, 197)]) else ([], [])
noncomputable def r120_X (sm : List Nat) : Fx := ⟨tyOf Tryz.prog, ofList zT1_243_210_216_112_206_207_208_118_117_78_162_163_164_119_165_167_168_169_170, sm, r120_live⟩
/-- The slots that are needed at the loops' heads of 'hamper/param.pieces$1'. -/
noncomputable def i212_live : Nat → List Nat × List (Nat × TypeId) := fun h => bif Nat.beq h 2 then ([0, 1, 3, 4, 5], nilsOf (tyOf Tryz.prog) [(0, 56), (3, 3), (4, 4), (5, 3)]) else ([], [])
noncomputable def r120_I : Inl := inlOf [(212, Tryz.f212, i212_live)]
theorem r120_Iok : InlOk zE r120_I := (.cons (by kernel_rfl) (by decide) .nil)
noncomputable def r120_s : Spec := .plain (plainRunR (r120_X []) r120_I 120 Tryz.f120)
theorem r120_ok : SpecOk zE 120 r120_s := plain_of_selfR (zfx_ok zT1_243_210_216_112_206_207_208_118_117_78_162_163_164_119_165_167_168_169_170_ok [] r120_live) r120_Iok (by kernel_rfl) (by decide) (by rfl) 120
noncomputable def zT1_243_210_216_112_206_207_208_118_117_78_162_163_164_119_165_167_168_169_170_120 : List (Nat × Spec) := (120, r120_s) :: zT1_243_210_216_112_206_207_208_118_117_78_162_163_164_119_165_167_168_169_170
theorem zT1_243_210_216_112_206_207_208_118_117_78_162_163_164_119_165_167_168_169_170_120_ok : SpecsOk zE (ofList zT1_243_210_216_112_206_207_208_118_117_78_162_163_164_119_165_167_168_169_170_120) := .cons r120_ok zT1_243_210_216_112_206_207_208_118_117_78_162_163_164_119_165_167_168_169_170_ok
/-- 'hamper/param.Find$1', as it runs. -/
noncomputable def r122_live : Nat → List Nat × List (Nat × TypeId) := fun h => ([], [])
noncomputable def r122_X (sm : List Nat) : Fx := ⟨tyOf Tryz.prog, ofList zT1_243_210_216_112_206_207_208_118_117_78_162_163_164_119_165_167_168_169_170_120, sm, r122_live⟩
noncomputable def r122_s : Spec := .wide (wideOf (tyOf Tryz.prog) (coreRun r122_X (tyOf Tryz.prog) 120 Tryz.f122))
theorem r122_ok : SpecOk zE 122 r122_s := wide_of_self zE_ok (fun sm => ⟨zfx_ok zT1_243_210_216_112_206_207_208_118_117_78_162_163_164_119_165_167_168_169_170_120_ok sm r122_live, rfl⟩) (by kernel_rfl) (by decide) (by rfl) 120
noncomputable def zT1_243_210_216_112_206_207_208_118_117_78_162_163_164_119_165_167_168_169_170_120_122 : List (Nat × Spec) := (122, r122_s) :: zT1_243_210_216_112_206_207_208_118_117_78_162_163_164_119_165_167_168_169_170_120
theorem zT1_243_210_216_112_206_207_208_118_117_78_162_163_164_119_165_167_168_169_170_120_122_ok : SpecsOk zE (ofList zT1_243_210_216_112_206_207_208_118_117_78_162_163_164_119_165_167_168_169_170_120_122) := .cons r122_ok zT1_243_210_216_112_206_207_208_118_117_78_162_163_164_119_165_167_168_169_170_120_ok
/-- 'slices.IndexFunc[[]hamper/api.Param,hamper/api.Param]', as it runs. -/
noncomputable def r121_live : Nat → List Nat × List (Nat × TypeId) := fun h => bif Nat.beq h 2 then ([0, 1, 7, 8], nilsOf (tyOf Tryz.prog) [(0, 23), (1, 160), (7, 3), (8, 3)]) else ([], [])
noncomputable def r121_X (sm : List Nat) : Fx := ⟨tyOf Tryz.prog, ofList zT1_243_210_216_112_206_207_208_118_117_78_162_163_164_119_165_167_168_169_170_120_122, sm, r121_live⟩
noncomputable def r121_s : Spec := .wide (wideOf (tyOf Tryz.prog) (coreRun r121_X (tyOf Tryz.prog) 120 Tryz.f121))
theorem r121_ok : SpecOk zE 121 r121_s := wide_of_self zE_ok (fun sm => ⟨zfx_ok zT1_243_210_216_112_206_207_208_118_117_78_162_163_164_119_165_167_168_169_170_120_122_ok sm r121_live, rfl⟩) (by kernel_rfl) (by decide) (by rfl) 120
noncomputable def zT1_243_210_216_112_206_207_208_118_117_78_162_163_164_119_165_167_168_169_170_120_122_121 : List (Nat × Spec) := (121, r121_s) :: zT1_243_210_216_112_206_207_208_118_117_78_162_163_164_119_165_167_168_169_170_120_122
theorem zT1_243_210_216_112_206_207_208_118_117_78_162_163_164_119_165_167_168_169_170_120_122_121_ok : SpecsOk zE (ofList zT1_243_210_216_112_206_207_208_118_117_78_162_163_164_119_165_167_168_169_170_120_122_121) := .cons r121_ok zT1_243_210_216_112_206_207_208_118_117_78_162_163_164_119_165_167_168_169_170_120_122_ok
/-- 'hamper/param.Find', as it runs. -/
noncomputable def r80_live : Nat → List Nat × List (Nat × TypeId) := fun h => ([], [])
noncomputable def r80_X (sm : List Nat) : Fx := ⟨tyOf Tryz.prog, ofList zT1_243_210_216_112_206_207_208_118_117_78_162_163_164_119_165_167_168_169_170_120_122_121, sm, r80_live⟩
noncomputable def r80_s : Spec := .plain (plainRun (r80_X []) 120 Tryz.f80)
theorem r80_ok : SpecOk zE 80 r80_s := plain_of_self (zfx_ok zT1_243_210_216_112_206_207_208_118_117_78_162_163_164_119_165_167_168_169_170_120_122_121_ok [] r80_live) (by kernel_rfl) (by decide) (by rfl) 120
noncomputable def zT1_243_210_216_112_206_207_208_118_117_78_162_163_164_119_165_167_168_169_170_120_122_121_80 : List (Nat × Spec) := (80, r80_s) :: zT1_243_210_216_112_206_207_208_118_117_78_162_163_164_119_165_167_168_169_170_120_122_121
theorem zT1_243_210_216_112_206_207_208_118_117_78_162_163_164_119_165_167_168_169_170_120_122_121_80_ok : SpecsOk zE (ofList zT1_243_210_216_112_206_207_208_118_117_78_162_163_164_119_165_167_168_169_170_120_122_121_80) := .cons r80_ok zT1_243_210_216_112_206_207_208_118_117_78_162_163_164_119_165_167_168_169_170_120_122_121_ok
/-- 'hamper/part.media', as it runs. -/
noncomputable def r79_live : Nat → List Nat × List (Nat × TypeId) := fun h => ([], [])
noncomputable def r79_X (sm : List Nat) : Fx := ⟨tyOf Tryz.prog, ofList zT1_243_210_216_112_206_207_208_118_117_78_162_163_164_119_165_167_168_169_170_120_122_121_80, sm, r79_live⟩
noncomputable def r79_s : Spec := .plain (plainRun (r79_X []) 120 Tryz.f79)
theorem r79_ok : SpecOk zE 79 r79_s := plain_of_self (zfx_ok zT1_243_210_216_112_206_207_208_118_117_78_162_163_164_119_165_167_168_169_170_120_122_121_80_ok [] r79_live) (by kernel_rfl) (by decide) (by rfl) 120
noncomputable def zT1_243_210_216_112_206_207_208_118_117_78_162_163_164_119_165_167_168_169_170_120_122_121_80_79 : List (Nat × Spec) := (79, r79_s) :: zT1_243_210_216_112_206_207_208_118_117_78_162_163_164_119_165_167_168_169_170_120_122_121_80
theorem zT1_243_210_216_112_206_207_208_118_117_78_162_163_164_119_165_167_168_169_170_120_122_121_80_79_ok : SpecsOk zE (ofList zT1_243_210_216_112_206_207_208_118_117_78_162_163_164_119_165_167_168_169_170_120_122_121_80_79) := .cons r79_ok zT1_243_210_216_112_206_207_208_118_117_78_162_163_164_119_165_167_168_169_170_120_122_121_80_ok
/-- 'hamper/part.bare', as it runs. -/
noncomputable def r173_live : Nat → List Nat × List (Nat × TypeId) := fun h => ([], [])
noncomputable def r173_X (sm : List Nat) : Fx := ⟨tyOf Tryz.prog, ofList zT1_243_210_216_112_206_207_208_118_117_78_162_163_164_119_165_167_168_169_170_120_122_121_80_79, sm, r173_live⟩
noncomputable def r173_s : Spec := .plain (plainRun (r173_X []) 120 Tryz.f173)
theorem r173_ok : SpecOk zE 173 r173_s := plain_of_self (zfx_ok zT1_243_210_216_112_206_207_208_118_117_78_162_163_164_119_165_167_168_169_170_120_122_121_80_79_ok [] r173_live) (by kernel_rfl) (by decide) (by rfl) 120
noncomputable def zT1_243_210_216_112_206_207_208_118_117_78_162_163_164_119_165_167_168_169_170_120_122_121_80_79_173 : List (Nat × Spec) := (173, r173_s) :: zT1_243_210_216_112_206_207_208_118_117_78_162_163_164_119_165_167_168_169_170_120_122_121_80_79
theorem zT1_243_210_216_112_206_207_208_118_117_78_162_163_164_119_165_167_168_169_170_120_122_121_80_79_173_ok : SpecsOk zE (ofList zT1_243_210_216_112_206_207_208_118_117_78_162_163_164_119_165_167_168_169_170_120_122_121_80_79_173) := .cons r173_ok zT1_243_210_216_112_206_207_208_118_117_78_162_163_164_119_165_167_168_169_170_120_122_121_80_79_ok
/-- 'hamper/part.parts', as it runs. -/
noncomputable def r124_live : Nat → List Nat × List (Nat × TypeId) := fun h => ([], [])
noncomputable def r124_X (sm : List Nat) : Fx := ⟨tyOf Tryz.prog, ofList zT1_243_210_216_112_206_207_208_118_117_78_162_163_164_119_165_167_168_169_170_120_122_121_80_79_173, sm, r124_live⟩
noncomputable def r124_s : Spec := .plain (plainRun (r124_X []) 120 Tryz.f124)
theorem r124_ok : SpecOk zE 124 r124_s := plain_of_self (zfx_ok zT1_243_210_216_112_206_207_208_118_117_78_162_163_164_119_165_167_168_169_170_120_122_121_80_79_173_ok [] r124_live) (by kernel_rfl) (by decide) (by rfl) 120
noncomputable def zT1_243_210_216_112_206_207_208_118_117_78_162_163_164_119_165_167_168_169_170_120_122_121_80_79_173_124 : List (Nat × Spec) := (124, r124_s) :: zT1_243_210_216_112_206_207_208_118_117_78_162_163_164_119_165_167_168_169_170_120_122_121_80_79_173
theorem zT1_243_210_216_112_206_207_208_118_117_78_162_163_164_119_165_167_168_169_170_120_122_121_80_79_173_124_ok : SpecsOk zE (ofList zT1_243_210_216_112_206_207_208_118_117_78_162_163_164_119_165_167_168_169_170_120_122_121_80_79_173_124) := .cons r124_ok zT1_243_210_216_112_206_207_208_118_117_78_162_163_164_119_165_167_168_169_170_120_122_121_80_79_173_ok
/-- 'hamper/part.ahead', as it runs. -/
noncomputable def r125_live : Nat → List Nat × List (Nat × TypeId) := fun h => ([], [])
noncomputable def r125_X (sm : List Nat) : Fx := ⟨tyOf Tryz.prog, ofList zT1_243_210_216_112_206_207_208_118_117_78_162_163_164_119_165_167_168_169_170_120_122_121_80_79_173_124, sm, r125_live⟩
noncomputable def r125_s : Spec := .plain (plainRun (r125_X []) 120 Tryz.f125)
theorem r125_ok : SpecOk zE 125 r125_s := plain_of_self (zfx_ok zT1_243_210_216_112_206_207_208_118_117_78_162_163_164_119_165_167_168_169_170_120_122_121_80_79_173_124_ok [] r125_live) (by kernel_rfl) (by decide) (by rfl) 120
noncomputable def zT1_243_210_216_112_206_207_208_118_117_78_162_163_164_119_165_167_168_169_170_120_122_121_80_79_173_124_125 : List (Nat × Spec) := (125, r125_s) :: zT1_243_210_216_112_206_207_208_118_117_78_162_163_164_119_165_167_168_169_170_120_122_121_80_79_173_124
theorem zT1_243_210_216_112_206_207_208_118_117_78_162_163_164_119_165_167_168_169_170_120_122_121_80_79_173_124_125_ok : SpecsOk zE (ofList zT1_243_210_216_112_206_207_208_118_117_78_162_163_164_119_165_167_168_169_170_120_122_121_80_79_173_124_125) := .cons r125_ok zT1_243_210_216_112_206_207_208_118_117_78_162_163_164_119_165_167_168_169_170_120_122_121_80_79_173_124_ok
/-- 'hamper/part.lines', as it runs. -/
noncomputable def r123_live : Nat → List Nat × List (Nat × TypeId) := fun h => ([], [])
noncomputable def r123_X (sm : List Nat) : Fx := ⟨tyOf Tryz.prog, ofList zT1_243_210_216_112_206_207_208_118_117_78_162_163_164_119_165_167_168_169_170_120_122_121_80_79_173_124_125, sm, r123_live⟩
noncomputable def r123_s : Spec := .wide (wideOf (tyOf Tryz.prog) (coreRun r123_X (tyOf Tryz.prog) 120 Tryz.f123))
theorem r123_ok : SpecOk zE 123 r123_s := wide_of_self zE_ok (fun sm => ⟨zfx_ok zT1_243_210_216_112_206_207_208_118_117_78_162_163_164_119_165_167_168_169_170_120_122_121_80_79_173_124_125_ok sm r123_live, rfl⟩) (by kernel_rfl) (by decide) (by rfl) 120
noncomputable def zT1_243_210_216_112_206_207_208_118_117_78_162_163_164_119_165_167_168_169_170_120_122_121_80_79_173_124_125_123 : List (Nat × Spec) := (123, r123_s) :: zT1_243_210_216_112_206_207_208_118_117_78_162_163_164_119_165_167_168_169_170_120_122_121_80_79_173_124_125
theorem zT1_243_210_216_112_206_207_208_118_117_78_162_163_164_119_165_167_168_169_170_120_122_121_80_79_173_124_125_123_ok : SpecsOk zE (ofList zT1_243_210_216_112_206_207_208_118_117_78_162_163_164_119_165_167_168_169_170_120_122_121_80_79_173_124_125_123) := .cons r123_ok zT1_243_210_216_112_206_207_208_118_117_78_162_163_164_119_165_167_168_169_170_120_122_121_80_79_173_124_125_ok
/-- 'hamper/part.spans', as it runs. -/
noncomputable def r81_live : Nat → List Nat × List (Nat × TypeId) := fun h => bif Nat.beq h 4 then ([2, 4, 7, 8, 9, 10, 18], nilsOf (tyOf Tryz.prog) [(2, 3), (4, 0), (7, 0), (8, 0), (9, 0), (10, 0), (18, 155)]) else ([], [])
noncomputable def r81_X (sm : List Nat) : Fx := ⟨tyOf Tryz.prog, ofList zT1_243_210_216_112_206_207_208_118_117_78_162_163_164_119_165_167_168_169_170_120_122_121_80_79_173_124_125_123, sm, r81_live⟩
/-- The slots that are needed at the loops' heads of 'hamper/part.lines$1'. -/
noncomputable def i171_live : Nat → List Nat × List (Nat × TypeId) := fun h => bif Nat.beq h 0 then ([0, 1, 2, 3], nilsOf (tyOf Tryz.prog) [(0, 113)]) else ([], [])
noncomputable def r81_I : Inl := inlOf [(171, Tryz.f171, i171_live)]
theorem r81_Iok : InlOk zE r81_I := (.cons (by kernel_rfl) (by decide) .nil)
noncomputable def r81_s : Spec := .plain (plainRunR (r81_X []) r81_I 120 Tryz.f81)
theorem r81_ok : SpecOk zE 81 r81_s := plain_of_selfR (zfx_ok zT1_243_210_216_112_206_207_208_118_117_78_162_163_164_119_165_167_168_169_170_120_122_121_80_79_173_124_125_123_ok [] r81_live) r81_Iok (by kernel_rfl) (by decide) (by rfl) 120
noncomputable def zT1_243_210_216_112_206_207_208_118_117_78_162_163_164_119_165_167_168_169_170_120_122_121_80_79_173_124_125_123_81 : List (Nat × Spec) := (81, r81_s) :: zT1_243_210_216_112_206_207_208_118_117_78_162_163_164_119_165_167_168_169_170_120_122_121_80_79_173_124_125_123
theorem zT1_243_210_216_112_206_207_208_118_117_78_162_163_164_119_165_167_168_169_170_120_122_121_80_79_173_124_125_123_81_ok : SpecsOk zE (ofList zT1_243_210_216_112_206_207_208_118_117_78_162_163_164_119_165_167_168_169_170_120_122_121_80_79_173_124_125_123_81) := .cons r81_ok zT1_243_210_216_112_206_207_208_118_117_78_162_163_164_119_165_167_168_169_170_120_122_121_80_79_173_124_125_123_ok
end Sx

/-
  What the examples' letters say that they are, and where their parts are, told once.
-/
set_option linter.unusedVariables false
set_option maxRecDepth 100000
namespace Sx
open Go Go.Proofs
/-- These octets. -/
def bsU (l : List UInt8) : List SV := l.map fun b => .int .u8 (b.toNat : Int)
def eqU : List SV → List UInt8 → Bool
  | [], [] => true
  | .int .u8 n :: l, b :: r => decide (n = (b.toNat : Int)) && eqU l r
  | _, _ => false
theorem eqU_is : ∀ {l : List SV} {r : List UInt8}, eqU l r = true → l = bsU r
  | [], [], _ => rfl
  | [], _ :: _, h => by cases h
  | x :: l, [], h => by
    unfold eqU at h
    split at h <;> simp_all
  | x :: l, b :: r, h => by
    unfold eqU at h
    split at h
    · simp_all
    · rename_i n l' b' r' e1 e2
      cases e1; cases e2
      simp only [Bool.and_eq_true, decide_eq_true_eq] at h
      rw [h.1, eqU_is h.2]; rfl
    · cases h
def lA : List UInt8 := [67, 111, 110, 116, 101, 110, 116, 45, 84, 121, 112, 101, 58, 32, 109, 117, 108, 116, 105, 112, 97, 114, 116, 47, 109, 105, 120, 101, 100, 59, 32, 98, 111, 117, 110, 100, 97, 114, 121, 61, 120, 13, 10, 13, 10, 45, 45, 120, 13, 10, 13, 10, 97, 13, 10, 45, 45, 120, 45, 45, 13, 10]
def lB : List UInt8 := [67, 111, 110, 116, 101, 110, 116, 45, 84, 121, 112, 101, 58, 32, 109, 117, 108, 116, 105, 112, 97, 114, 116, 47, 109, 105, 120, 101, 100, 59, 32, 98, 111, 117, 110, 100, 97, 114, 121, 61, 120, 13, 10, 13, 10, 45, 45, 120, 13, 10, 13, 10, 97, 13, 10]
def lC : List UInt8 := [67, 111, 110, 116, 101, 110, 116, 45, 84, 121, 112, 101, 58, 32, 109, 117, 108, 116, 105, 112, 97, 114, 116, 47, 109, 105, 120, 101, 100, 59, 32, 98, 111, 117, 110, 100, 97, 114, 121, 61, 120, 13, 10, 13, 10, 13, 10, 97, 13, 10, 45, 45, 121, 13, 10]
def lD : List UInt8 := [13, 10, 97]
def lE : List UInt8 := [13, 10, 97, 13, 10]
theorem zMedia_lA : plainRun (r79_X []) 120 Tryz.f79 [.lst 5 (bsU lA), .bool false] = some (true, .agg [.str ⟨#[109, 117, 108, 116, 105, 112, 97, 114, 116]⟩, .str ⟨#[109, 105, 120, 101, 100]⟩, .lst 127 [.agg [.str ⟨#[98, 111, 117, 110, 100, 97, 114, 121]⟩, .str ⟨#[120]⟩]]]) := by kernel_rfl
theorem zMedia_lB : plainRun (r79_X []) 120 Tryz.f79 [.lst 5 (bsU lB), .bool false] = some (true, .agg [.str ⟨#[109, 117, 108, 116, 105, 112, 97, 114, 116]⟩, .str ⟨#[109, 105, 120, 101, 100]⟩, .lst 127 [.agg [.str ⟨#[98, 111, 117, 110, 100, 97, 114, 121]⟩, .str ⟨#[120]⟩]]]) := by kernel_rfl
theorem zMedia_lC : plainRun (r79_X []) 120 Tryz.f79 [.lst 5 (bsU lC), .bool false] = some (true, .agg [.str ⟨#[109, 117, 108, 116, 105, 112, 97, 114, 116]⟩, .str ⟨#[109, 105, 120, 101, 100]⟩, .lst 127 [.agg [.str ⟨#[98, 111, 117, 110, 100, 97, 114, 121]⟩, .str ⟨#[120]⟩]]]) := by kernel_rfl
theorem zMedia_lD : plainRun (r79_X []) 120 Tryz.f79 [.lst 5 (bsU lD), .bool false] = some (true, .agg [.str ⟨#[116, 101, 120, 116]⟩, .str ⟨#[112, 108, 97, 105, 110]⟩, .lst 127 []]) := by kernel_rfl
theorem zMedia_lE : plainRun (r79_X []) 120 Tryz.f79 [.lst 5 (bsU lE), .bool false] = some (true, .agg [.str ⟨#[116, 101, 120, 116]⟩, .str ⟨#[112, 108, 97, 105, 110]⟩, .lst 127 []]) := by kernel_rfl
theorem zSpans_lA : plainRunR (r81_X []) r81_I 120 Tryz.f81 [.lst 5 (bsU lA), .int .i64 45, .int .i64 62, .str ⟨#[120]⟩] = some (true, .lst 133 [.agg [.int .i64 50, .int .i64 53]]) := by kernel_rfl
theorem zSpans_lB : plainRunR (r81_X []) r81_I 120 Tryz.f81 [.lst 5 (bsU lB), .int .i64 45, .int .i64 55, .str ⟨#[120]⟩] = some (true, .lst 133 [.agg [.int .i64 50, .int .i64 55]]) := by kernel_rfl
theorem zSpans_lC : plainRunR (r81_X []) r81_I 120 Tryz.f81 [.lst 5 (bsU lC), .int .i64 45, .int .i64 55, .str ⟨#[120]⟩] = some (true, .lst 133 []) := by kernel_rfl
def gMediaC : List SV → Option (Bool × SV)
  | [.lst 5 l, .bool false] => bif true then (bif eqU l lA then some (true, .agg [.str ⟨#[109, 117, 108, 116, 105, 112, 97, 114, 116]⟩, .str ⟨#[109, 105, 120, 101, 100]⟩, .lst 127 [.agg [.str ⟨#[98, 111, 117, 110, 100, 97, 114, 121]⟩, .str ⟨#[120]⟩]]]) else (bif eqU l lB then some (true, .agg [.str ⟨#[109, 117, 108, 116, 105, 112, 97, 114, 116]⟩, .str ⟨#[109, 105, 120, 101, 100]⟩, .lst 127 [.agg [.str ⟨#[98, 111, 117, 110, 100, 97, 114, 121]⟩, .str ⟨#[120]⟩]]]) else (bif eqU l lC then some (true, .agg [.str ⟨#[109, 117, 108, 116, 105, 112, 97, 114, 116]⟩, .str ⟨#[109, 105, 120, 101, 100]⟩, .lst 127 [.agg [.str ⟨#[98, 111, 117, 110, 100, 97, 114, 121]⟩, .str ⟨#[120]⟩]]]) else (bif eqU l lD then some (true, .agg [.str ⟨#[116, 101, 120, 116]⟩, .str ⟨#[112, 108, 97, 105, 110]⟩, .lst 127 []]) else (bif eqU l lE then some (true, .agg [.str ⟨#[116, 101, 120, 116]⟩, .str ⟨#[112, 108, 97, 105, 110]⟩, .lst 127 []]) else none))))) else none
  | _ => none
theorem zMediaC_ok : SpecOk zE 79 (.plain gMediaC) := fun ρ s a w args vals sv hR hl h => by
  refine r79_ok ρ s a w args vals _ hR hl ?_
  unfold gMediaC at h
  split at h
  · rename_i l
    simp only [cond_eq_ite, if_true] at h
    split at h
    · rename_i hx
      cases h
      rw [eqU_is hx]; exact zMedia_lA
    · skip
      split at h
      · rename_i hx
        cases h
        rw [eqU_is hx]; exact zMedia_lB
      · skip
        split at h
        · rename_i hx
          cases h
          rw [eqU_is hx]; exact zMedia_lC
        · skip
          split at h
          · rename_i hx
            cases h
            rw [eqU_is hx]; exact zMedia_lD
          · skip
            split at h
            · rename_i hx
              cases h
              rw [eqU_is hx]; exact zMedia_lE
            · skip
              cases h
  · cases h
def gSpansC : List SV → Option (Bool × SV)
  | [.lst 5 l, .int .i64 f, .int .i64 t, .str b] => bif decide (f = 45) && b.data.toList == [120] then (bif eqU l lA && decide (t = 62) then some (true, .lst 133 [.agg [.int .i64 50, .int .i64 53]]) else (bif eqU l lB && decide (t = 55) then some (true, .lst 133 [.agg [.int .i64 50, .int .i64 55]]) else (bif eqU l lC && decide (t = 55) then some (true, .lst 133 []) else none))) else none
  | _ => none
theorem zSpansC_ok : SpecOk zE 81 (.plain gSpansC) := fun ρ s a w args vals sv hR hl h => by
  refine r81_ok ρ s a w args vals _ hR hl ?_
  unfold gSpansC at h
  split at h
  · rename_i l f t b
    simp only [cond_eq_ite, Bool.and_eq_true, decide_eq_true_eq] at h
    split at h
    · rename_i hf
      obtain ⟨rfl, hb⟩ := hf
      rw [ba_of hb]
      split at h
      · rename_i hx
        obtain ⟨hx, rfl⟩ := hx
        cases h
        rw [eqU_is hx]; exact zSpans_lA
      · skip
        split at h
        · rename_i hx
          obtain ⟨hx, rfl⟩ := hx
          cases h
          rw [eqU_is hx]; exact zSpans_lB
        · skip
          split at h
          · rename_i hx
            obtain ⟨hx, rfl⟩ := hx
            cases h
            rw [eqU_is hx]; exact zSpans_lC
          · skip
            cases h
    · cases h
  · cases h
noncomputable def zT2 : List (Nat × Spec) := (79, .plain gMediaC) :: (81, .plain gSpansC) :: zT1_243_210_216_112_206_207_208_118_117_78_162_163_164_119_165_167_168_169_170_120_122_121_80_79_173_124_125_123_81
theorem zT2_ok : SpecsOk zE (ofList zT2) := .cons zMediaC_ok (.cons zSpansC_ok zT1_243_210_216_112_206_207_208_118_117_78_162_163_164_119_165_167_168_169_170_120_122_121_80_79_173_124_125_123_81_ok)
end Sx

/-
  What the executor says of functions: the normal forms, each compared by the kernel. (Printed by a program.)
-/
set_option linter.unusedVariables false
namespace Sx
open Go Go.Proofs
set_option maxRecDepth 100000
/-- '(*hamper/part.finder).find', as it runs. -/
noncomputable def r40a_live : Nat → List Nat × List (Nat × TypeId) := fun h => bif Nat.beq h 14 then ([0, 4, 13, 14, 120, 121, 122], nilsOf (tyOf Tryz.prog) [(0, 101), (4, 3), (13, 3), (14, 0), (120, 131), (121, 3), (122, 3)]) else ([], [])
noncomputable def r40a_X (sm : List Nat) : Fx := ⟨tyOf Tryz.prog, ofList zT2, sm, r40a_live⟩
noncomputable def r40a_s : Spec := .wide (wideOf (tyOf Tryz.prog) (coreRun r40a_X (tyOf Tryz.prog) 120 Tryz.f40))
theorem r40a_ok : SpecOk zE 40 r40a_s := wide_of_self zE_ok (fun sm => ⟨zfx_ok zT2_ok sm r40a_live, rfl⟩) (by kernel_rfl) (by decide) (by rfl) 120
noncomputable def zT2_40a : List (Nat × Spec) := (40, r40a_s) :: zT2
theorem zT2_40a_ok : SpecsOk zE (ofList zT2_40a) := .cons r40a_ok zT2_ok
/-- '(*hamper/part.finder).find', as it runs. -/
noncomputable def r40b_live : Nat → List Nat × List (Nat × TypeId) := fun h => bif Nat.beq h 14 then ([0, 4, 13, 14, 120, 121, 122], nilsOf (tyOf Tryz.prog) [(0, 101), (4, 3), (13, 3), (14, 0), (120, 131), (121, 3), (122, 3)]) else ([], [])
noncomputable def r40b_X (sm : List Nat) : Fx := ⟨tyOf Tryz.prog, ofList zT2_40a, sm, r40b_live⟩
noncomputable def r40b_s : Spec := .wide (wideOf (tyOf Tryz.prog) (coreRun r40b_X (tyOf Tryz.prog) 120 Tryz.f40))
theorem r40b_ok : SpecOk zE 40 r40b_s := wide_of_self zE_ok (fun sm => ⟨zfx_ok zT2_40a_ok sm r40b_live, rfl⟩) (by kernel_rfl) (by decide) (by rfl) 120
noncomputable def zT2_40a_40b : List (Nat × Spec) := (40, r40b_s) :: zT2_40a
theorem zT2_40a_40b_ok : SpecsOk zE (ofList zT2_40a_40b) := .cons r40b_ok zT2_40a_ok
/-- 'hamper/part.Parts', as it runs. -/
noncomputable def r20_live : Nat → List Nat × List (Nat × TypeId) := fun h => ([], [])
noncomputable def r20_X (sm : List Nat) : Fx := ⟨tyOf Tryz.prog, ofList zT2_40a_40b, sm, r20_live⟩
noncomputable def r20_s : Spec := .plain (plainRun (r20_X []) 120 Tryz.f20)
theorem r20_ok : SpecOk zE 20 r20_s := plain_of_self (zfx_ok zT2_40a_40b_ok [] r20_live) (by kernel_rfl) (by decide) (by rfl) 120
noncomputable def zT2_40a_40b_20 : List (Nat × Spec) := (20, r20_s) :: zT2_40a_40b
theorem zT2_40a_40b_20_ok : SpecsOk zE (ofList zT2_40a_40b_20) := .cons r20_ok zT2_40a_40b_ok
/-- 'hamper/hamperlaw20.letter', as it runs. -/
noncomputable def r21_live : Nat → List Nat × List (Nat × TypeId) := fun h => ([], [])
noncomputable def r21_X (sm : List Nat) : Fx := ⟨tyOf Tryz.prog, ofList zT2_40a_40b_20, sm, r21_live⟩
noncomputable def r21_s : Spec := .plain (plainRun (r21_X []) 120 Tryz.f21)
theorem r21_ok : SpecOk zE 21 r21_s := plain_of_self (zfx_ok zT2_40a_40b_20_ok [] r21_live) (by kernel_rfl) (by decide) (by rfl) 120
noncomputable def zT2_40a_40b_20_21 : List (Nat × Spec) := (21, r21_s) :: zT2_40a_40b_20
theorem zT2_40a_40b_20_21_ok : SpecsOk zE (ofList zT2_40a_40b_20_21) := .cons r21_ok zT2_40a_40b_20_ok
end Sx

/-
  The parts of the examples' letters, told once.
-/
set_option linter.unusedVariables false
set_option maxRecDepth 100000
namespace Sx
open Go Go.Proofs
theorem zParts_lA : plainRun (r20_X []) 120 Tryz.f20 [.lst 5 (bsU lA)] = some (true, .lst 27 [.agg [.int .i64 1, .int .i64 0, .int .i64 45, .int .i64 62, .str ⟨#[109, 117, 108, 116, 105, 112, 97, 114, 116]⟩, .str ⟨#[109, 105, 120, 101, 100]⟩, .lst 127 [.agg [.str ⟨#[98, 111, 117, 110, 100, 97, 114, 121]⟩, .str ⟨#[120]⟩]], .int .i64 (-1), .int .i64 1], .agg [.int .i64 0, .int .i64 50, .int .i64 52, .int .i64 53, .str ⟨#[116, 101, 120, 116]⟩, .str ⟨#[112, 108, 97, 105, 110]⟩, .lst 127 [], .int .i64 0, .int .i64 0]]) := by kernel_rfl
theorem zParts_lB : plainRun (r20_X []) 120 Tryz.f20 [.lst 5 (bsU lB)] = some (true, .lst 27 [.agg [.int .i64 1, .int .i64 0, .int .i64 45, .int .i64 55, .str ⟨#[109, 117, 108, 116, 105, 112, 97, 114, 116]⟩, .str ⟨#[109, 105, 120, 101, 100]⟩, .lst 127 [.agg [.str ⟨#[98, 111, 117, 110, 100, 97, 114, 121]⟩, .str ⟨#[120]⟩]], .int .i64 (-1), .int .i64 1], .agg [.int .i64 0, .int .i64 50, .int .i64 52, .int .i64 55, .str ⟨#[116, 101, 120, 116]⟩, .str ⟨#[112, 108, 97, 105, 110]⟩, .lst 127 [], .int .i64 0, .int .i64 0]]) := by kernel_rfl
theorem zParts_lC : plainRun (r20_X []) 120 Tryz.f20 [.lst 5 (bsU lC)] = some (true, .lst 27 [.agg [.int .i64 0, .int .i64 0, .int .i64 45, .int .i64 55, .str ⟨#[109, 117, 108, 116, 105, 112, 97, 114, 116]⟩, .str ⟨#[109, 105, 120, 101, 100]⟩, .lst 127 [.agg [.str ⟨#[98, 111, 117, 110, 100, 97, 114, 121]⟩, .str ⟨#[120]⟩]], .int .i64 (-1), .int .i64 0]]) := by kernel_rfl
theorem zLetter_lA : plainRun (r21_X []) 120 Tryz.f21 [.str ⟨#[45, 45, 120, 13, 10]⟩, .str ⟨#[45, 45, 120, 45, 45, 13, 10]⟩] = some (true, .lst 5 (bsU lA)) := by kernel_rfl
theorem zLetter_lB : plainRun (r21_X []) 120 Tryz.f21 [.str ⟨#[45, 45, 120, 13, 10]⟩, .str ⟨#[]⟩] = some (true, .lst 5 (bsU lB)) := by kernel_rfl
theorem zLetter_lC : plainRun (r21_X []) 120 Tryz.f21 [.str ⟨#[]⟩, .str ⟨#[45, 45, 121, 13, 10]⟩] = some (true, .lst 5 (bsU lC)) := by kernel_rfl
def gPartsC : List SV → Option (Bool × SV)
  | [.lst 5 l] => (bif eqU l lA then some (true, .lst 27 [.agg [.int .i64 1, .int .i64 0, .int .i64 45, .int .i64 62, .str ⟨#[109, 117, 108, 116, 105, 112, 97, 114, 116]⟩, .str ⟨#[109, 105, 120, 101, 100]⟩, .lst 127 [.agg [.str ⟨#[98, 111, 117, 110, 100, 97, 114, 121]⟩, .str ⟨#[120]⟩]], .int .i64 (-1), .int .i64 1], .agg [.int .i64 0, .int .i64 50, .int .i64 52, .int .i64 53, .str ⟨#[116, 101, 120, 116]⟩, .str ⟨#[112, 108, 97, 105, 110]⟩, .lst 127 [], .int .i64 0, .int .i64 0]]) else (bif eqU l lB then some (true, .lst 27 [.agg [.int .i64 1, .int .i64 0, .int .i64 45, .int .i64 55, .str ⟨#[109, 117, 108, 116, 105, 112, 97, 114, 116]⟩, .str ⟨#[109, 105, 120, 101, 100]⟩, .lst 127 [.agg [.str ⟨#[98, 111, 117, 110, 100, 97, 114, 121]⟩, .str ⟨#[120]⟩]], .int .i64 (-1), .int .i64 1], .agg [.int .i64 0, .int .i64 50, .int .i64 52, .int .i64 55, .str ⟨#[116, 101, 120, 116]⟩, .str ⟨#[112, 108, 97, 105, 110]⟩, .lst 127 [], .int .i64 0, .int .i64 0]]) else (bif eqU l lC then some (true, .lst 27 [.agg [.int .i64 0, .int .i64 0, .int .i64 45, .int .i64 55, .str ⟨#[109, 117, 108, 116, 105, 112, 97, 114, 116]⟩, .str ⟨#[109, 105, 120, 101, 100]⟩, .lst 127 [.agg [.str ⟨#[98, 111, 117, 110, 100, 97, 114, 121]⟩, .str ⟨#[120]⟩]], .int .i64 (-1), .int .i64 0]]) else none)))
  | _ => none
theorem zPartsC_ok : SpecOk zE 20 (.plain gPartsC) := fun ρ s a w args vals sv hR hl h => by
  refine r20_ok ρ s a w args vals _ hR hl ?_
  unfold gPartsC at h
  split at h
  · rename_i l
    simp only [cond_eq_ite] at h
    split at h
    · rename_i hx
      cases h
      rw [eqU_is hx]; exact zParts_lA
    · skip
      split at h
      · rename_i hx
        cases h
        rw [eqU_is hx]; exact zParts_lB
      · skip
        split at h
        · rename_i hx
          cases h
          rw [eqU_is hx]; exact zParts_lC
        · skip
          cases h
  · cases h
def gLetterC : List SV → Option (Bool × SV)
  | [.str x, .str y] => (bif x.data.toList == [45, 45, 120, 13, 10] && y.data.toList == [45, 45, 120, 45, 45, 13, 10] then some (true, .lst 5 (bsU lA)) else (bif x.data.toList == [45, 45, 120, 13, 10] && y.data.toList == [] then some (true, .lst 5 (bsU lB)) else (bif x.data.toList == [] && y.data.toList == [45, 45, 121, 13, 10] then some (true, .lst 5 (bsU lC)) else none)))
  | _ => none
theorem zLetterC_ok : SpecOk zE 21 (.plain gLetterC) := fun ρ s a w args vals sv hR hl h => by
  refine r21_ok ρ s a w args vals _ hR hl ?_
  unfold gLetterC at h
  split at h
  · rename_i x y
    simp only [cond_eq_ite, Bool.and_eq_true] at h
    split at h
    · rename_i hx
      cases h
      rw [ba_of hx.1, ba_of hx.2]; exact zLetter_lA
    · skip
      split at h
      · rename_i hx
        cases h
        rw [ba_of hx.1, ba_of hx.2]; exact zLetter_lB
      · skip
        split at h
        · rename_i hx
          cases h
          rw [ba_of hx.1, ba_of hx.2]; exact zLetter_lC
        · skip
          cases h
  · cases h
noncomputable def zT3 : List (Nat × Spec) := (20, .plain gPartsC) :: (21, .plain gLetterC) :: zLib
theorem zT3_ok : SpecsOk zE (ofList zT3) := .cons zPartsC_ok (.cons zLetterC_ok zLib_ok)
end Sx

/-
  What the executor says of functions: the normal forms, each compared by the kernel. (Printed by a program.)
-/
set_option linter.unusedVariables false
namespace Sx
open Go Go.Proofs
set_option maxRecDepth 100000
/-- 'hamper/hamperlaw20.awake', as it runs. -/
noncomputable def r10_live : Nat → List Nat × List (Nat × TypeId) := fun h => ([], [])
noncomputable def r10_X (sm : List Nat) : Fx := ⟨tyOf Tryz.prog, ofList zT3, sm, r10_live⟩
noncomputable def r10_s : Spec := .plain (plainRun (r10_X []) 60 Tryz.f10)
theorem r10_ok : SpecOk zE 10 r10_s := plain_of_self (zfx_ok zT3_ok [] r10_live) (by kernel_rfl) (by decide) (by rfl) 60
noncomputable def zT3_10 : List (Nat × Spec) := (10, r10_s) :: zT3
theorem zT3_10_ok : SpecsOk zE (ofList zT3_10) := .cons r10_ok zT3_ok
end Sx

/-
  The chapter's examples come to true.
-/
set_option linter.unusedVariables false
set_option maxRecDepth 100000
namespace Sx
open Go Go.Proofs

def gTrue : List SV → Option (Bool × SV) | [] => some (true, .bool true) | _ => none
theorem awake_run : plainRun (r10_X []) 60 Tryz.f10 [] = some (true, .bool true) := by kernel_rfl
theorem awake_ok : SpecOk zE 10 (.plain gTrue) := fun ρ s a w args vals sv hR hl h => by
  unfold gTrue at h
  split at h
  · cases h; exact r10_ok ρ s a w [] vals _ hR hl awake_run
  · cases h
end Sx
