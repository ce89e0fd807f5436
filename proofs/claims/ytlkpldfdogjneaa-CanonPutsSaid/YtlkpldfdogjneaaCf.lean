/-
  The seat's environment: its types, its globals, and the library's functions that are called, each by its contract.
-/
import Derived.Test.YtlkpldfdogjneaaEb
import Derived.Test.YtlkpldfdogjneaaShelf
import Derived.KernelRfl
set_option linter.unusedVariables false
namespace Sx
open Go Go.Proofs

/-- What the globals hold. -/
def rG (w : World) : Prop := ∃ m, w.cell? ⟨0, 0, none⟩ = some (.int .i64 m)
noncomputable def rE : Env := envOf Try.prog 1 rG
theorem rE_ok : EnvOk rE := envOf_ok (fun w w' ⟨m, hm⟩ hb => ⟨m, by
  have := hb 0 (by omega)
  simp only [World.cell?] at hm ⊢
  rw [this]; exact hm⟩)

def gContains : List SV → Option (Bool × SV)
  | [.str a, .str b] => some (decide (a.size < 4294967281), .bool (Lib.contains a.data.toList b.data.toList))
  | _ => none
def gIndexByte : List SV → Option (Bool × SV)
  | [.str a, .int .u8 c] => some (true, .int .i64 (Lib.indexByte a.data.toList c.toNat.toUInt8))
  | _ => none
def gLastIndexByte : List SV → Option (Bool × SV)
  | [.str a, .int .u8 c] => some (decide (a.size < 4611686018427387904), .int .i64 (Lib.lastIndexByte a c))
  | _ => none
def gHasPrefix : List SV → Option (Bool × SV)
  | [.str a, .str b] => some (true, .bool (Lib.hasPrefix a.data.toList b.data.toList))
  | _ => none
def gCut : List SV → Option (Bool × SV)
  | [.str a, .str b] => some (decide (a.size < 4294967281), .tup [.str ⟨(Lib.cut a.data.toList b.data.toList).1.toArray⟩, .str ⟨(Lib.cut a.data.toList b.data.toList).2.1.toArray⟩, .bool (Lib.cut a.data.toList b.data.toList).2.2])
  | _ => none

theorem contains_ok : SpecOk rE 40 (.plain gContains) := by
  refine plain_of_calls rE_ok (fn := Try.f40) (by kernel_rfl) (by decide) (by rfl) (fun args sv h => ?_)
  unfold gContains at h
  split at h
  · rename_i a b
    simp only [Option.some.injEq, Prod.mk.injEq, decide_eq_true_eq] at h
    obtain ⟨h1, rfl⟩ := h
    refine ⟨[.string a, .string b], _, rfl, fun _ _ _ => rel_bool _, fun w ⟨_, m, hm⟩ => (Try.strings_Contains a b m w h1 hm).mono ?_⟩
    rintro e w' ⟨rfl, rfl⟩; exact ⟨rfl, Idle.refl _⟩
  · cases h
theorem indexByte_ok : SpecOk rE 41 (.plain gIndexByte) := by
  refine plain_of_calls rE_ok (fn := Try.f41) (by kernel_rfl) (by decide) (by rfl) (fun args sv h => ?_)
  unfold gIndexByte at h
  split at h
  · rename_i a b
    simp only [Option.some.injEq, Prod.mk.injEq, true_and] at h
    subst h
    refine ⟨[.string a, .int .u8 b], _, rfl, fun _ _ _ => rel_int _ _, fun w _ => (Try.strings_IndexByte a b w).mono ?_⟩
    rintro e w' ⟨rfl, rfl⟩; exact ⟨rfl, Idle.refl _⟩
  · cases h
theorem lastIndexByte_ok : SpecOk rE 44 (.plain gLastIndexByte) := by
  refine plain_of_calls rE_ok (fn := Try.f44) (by kernel_rfl) (by decide) (by rfl) (fun args sv h => ?_)
  unfold gLastIndexByte at h
  split at h
  · rename_i a b
    simp only [Option.some.injEq, Prod.mk.injEq, decide_eq_true_eq] at h
    obtain ⟨h1, rfl⟩ := h
    refine ⟨[.string a, .int .u8 b], _, rfl, fun _ _ _ => rel_int _ _, fun w _ => (Try.strings_LastIndexByte a b h1 w).mono ?_⟩
    rintro e w' ⟨rfl, rfl⟩; exact ⟨rfl, Idle.refl _⟩
  · cases h
theorem hasPrefix_ok : SpecOk rE 45 (.plain gHasPrefix) := by
  refine plain_of_calls rE_ok (fn := Try.f45) (by kernel_rfl) (by decide) (by rfl) (fun args sv h => ?_)
  unfold gHasPrefix at h
  split at h
  · rename_i a b
    simp only [Option.some.injEq, Prod.mk.injEq, true_and] at h
    subst h
    refine ⟨[.string a, .string b], _, rfl, fun _ _ _ => rel_bool _, fun w _ => (Try.strings_HasPrefix a b w).mono ?_⟩
    rintro e w' ⟨rfl, rfl⟩; exact ⟨rfl, Idle.refl _⟩
  · cases h
theorem cut_ok : SpecOk rE 63 (.plain gCut) := by
  refine plain_of_calls rE_ok (fn := Try.f63) (by kernel_rfl) (by decide) (by rfl) (fun args sv h => ?_)
  unfold gCut at h
  split at h
  · rename_i a b
    simp only [Option.some.injEq, Prod.mk.injEq, decide_eq_true_eq] at h
    obtain ⟨h1, rfl⟩ := h
    refine ⟨[.string a, .string b], .tuple #[.string ⟨(Lib.cut a.data.toList b.data.toList).1.toArray⟩, .string ⟨(Lib.cut a.data.toList b.data.toList).2.1.toArray⟩, .bool (Lib.cut a.data.toList b.data.toList).2.2], rfl, fun w ok ρ => rel_tup_vals rfl, fun w ⟨_, m, hm⟩ => (Try.strings_Cut a b m w h1 hm).mono ?_⟩
    rintro e w' ⟨rfl, n, rfl⟩; exact ⟨rfl, ⟨rfl, rfl, rfl, rfl⟩⟩
  · cases h

def rLib : List (Nat × Spec) := [(40, .plain gContains), (41, .plain gIndexByte), (44, .plain gLastIndexByte), (45, .plain gHasPrefix), (63, .plain gCut)]
theorem rLib_ok : SpecsOk rE (ofList rLib) := .cons contains_ok (.cons indexByte_ok (.cons lastIndexByte_ok (.cons hasPrefix_ok (.cons cut_ok .nil))))
theorem fx_ok {T : Specs} (h : SpecsOk rE T) (sm : List Nat) (live : Nat → List Nat × List (Nat × TypeId)) : FxOk rE ⟨tyOf Try.prog, T, sm, live⟩ := ⟨rE_ok, rfl, h, by kernel_rfl⟩
end Sx

/-
  What the executor says of functions: the normal forms, each compared by the kernel. (Printed by a program.)
-/
set_option linter.unusedVariables false
namespace Sx
open Go Go.Proofs
set_option maxRecDepth 100000
/-- The slots that are needed at the loops' heads of 'hamper/hamperref08.Fits'. -/
noncomputable def f8_live : Nat → List Nat × List (Nat × TypeId) := fun h => bif Nat.beq h 2 then ([0, 1, 5], nilsOf (tyOf Try.prog) [(0, 28), (1, 3), (5, 3)]) else ([], [])
noncomputable def f8_X : Fx := ⟨tyOf Try.prog, ofList rLib, [], f8_live⟩
/-- The slots that are needed at the loops' heads of 'hamper/hamperref08.Back'. -/
noncomputable def f9_live : Nat → List Nat × List (Nat × TypeId) := fun h => bif Nat.beq h 3 then ([0, 3, 4], nilsOf (tyOf Try.prog) [(0, 27), (3, 27), (4, 3)]) else ([], [])
noncomputable def f9_X : Fx := ⟨tyOf Try.prog, ofList rLib, [], f9_live⟩
/-- The slots that are needed at the loops' heads of 'hamper/hamperref08.Bits'. -/
noncomputable def f10_live : Nat → List Nat × List (Nat × TypeId) := fun h => bif Nat.beq h 3 then ([0, 1, 5, 6], nilsOf (tyOf Try.prog) [(0, 28), (1, 3), (5, 27), (6, 3)]) else ([], [])
noncomputable def f10_X : Fx := ⟨tyOf Try.prog, ofList rLib, [], f10_live⟩
/-- The slots that are needed at the loops' heads of 'hamper/hamperref08.Whole'. -/
noncomputable def f33_live : Nat → List Nat × List (Nat × TypeId) := fun h => bif Nat.beq h 2 then ([3], nilsOf (tyOf Try.prog) [(3, 27)]) else ([], [])
noncomputable def f33_X : Fx := ⟨tyOf Try.prog, ofList rLib, [], f33_live⟩
/-- The slots that are needed at the loops' heads of 'hamper/hamperref08.Number'. -/
noncomputable def f34_live : Nat → List Nat × List (Nat × TypeId) := fun h => bif Nat.beq h 3 then ([0, 3, 4], nilsOf (tyOf Try.prog) [(0, 27), (3, 28), (4, 3)]) else ([], [])
noncomputable def f34_X : Fx := ⟨tyOf Try.prog, ofList rLib, [], f34_live⟩
/-- The slots that are needed at the loops' heads of 'hamper/bits.right'. -/
noncomputable def f54_live : Nat → List Nat × List (Nat × TypeId) := fun h => ([], [])
noncomputable def f54_X : Fx := ⟨tyOf Try.prog, ofList rLib, [], f54_live⟩
/-- The slots that are needed at the loops' heads of 'math/bits.ReverseBytes64'. -/
noncomputable def f75_live : Nat → List Nat × List (Nat × TypeId) := fun h => ([], [])
noncomputable def f75_X : Fx := ⟨tyOf Try.prog, ofList rLib, [], f75_live⟩
/-- The slots that are needed at the loops' heads of '(*hamper/bits.Writer).one'. -/
noncomputable def f74_live : Nat → List Nat × List (Nat × TypeId) := fun h => ([], [])
noncomputable def f74_X (sm : List Nat) : Fx := ⟨tyOf Try.prog, ofList rLib, sm, f74_live⟩
/-- The slots that are needed at the loops' heads of '(*hamper/bits.Writer).Bytes'. -/
noncomputable def f12_live : Nat → List Nat × List (Nat × TypeId) := fun h => ([], [])
noncomputable def f12_X (sm : List Nat) : Fx := ⟨tyOf Try.prog, ofList rLib, sm, f12_live⟩
/-- The slots that are needed at the loops' heads of '(*hamper/bits.Writer).Count'. -/
noncomputable def f11_live : Nat → List Nat × List (Nat × TypeId) := fun h => ([], [])
noncomputable def f11_X : Fx := ⟨tyOf Try.prog, ofList rLib, [], f11_live⟩
/-- The slots that are needed at the loops' heads of 'hamper/bits.New'. -/
noncomputable def f6_live : Nat → List Nat × List (Nat × TypeId) := fun h => ([], [])
noncomputable def f6_X (sm : List Nat) : Fx := ⟨tyOf Try.prog, ofList rLib, sm, f6_live⟩
def f8_st2 (x0 : Int) (x1 : Int) (x2 : Int) : St := St.mk [SV.int IntKind.u64 x0, SV.int IntKind.i64 x1, SV.dead, SV.dead, SV.dead, SV.int IntKind.i64 x2, SV.dead, SV.dead, SV.dead, SV.dead, SV.dead, SV.dead, SV.dead, SV.dead, SV.dead] [] []
noncomputable def f8_L2 (fu fm : Nat) (x0 : Int) (x1 : Int) (x2 : Int) : Option (SV) := atLoop f8_X Try.f8 (frz f8_X.Ty Try.f8) fu [.r, .l, .r, .b] fm (f8_st2 x0 x1 x2)
theorem f8_L2_eq (fu fm : Nat) (x0 : Int) (x1 : Int) (x2 : Int) : f8_L2 fu (fm + 1) x0 x1 x2 = bif decide (x2 < x1) then f8_L2 fu fm (IntKind.wrap IntKind.u64 (Int.tdiv x0 (2 : Int))) x1 (IntKind.wrap IntKind.i64 (x2 + (1 : Int))) else some (SV.bool (x0 == (0 : Int))) := by kernel_rfl

theorem f8_eq (fu : Nat) (v : Int) (n : Int) : evFun f8_X fu Try.f8 (frz f8_X.Ty Try.f8) [.int .u64 v, .int .i64 n] [] [] = f8_L2 fu fu v n (0 : Int) := by kernel_rfl

def f9_st3 (x0 : List SV) (x1 : Int) (x2 : List SV) : St := St.mk
  [SV.lst (4 : Nat) x0, SV.dead, SV.dead, SV.row (100 : Nat), SV.int IntKind.i64 x1, SV.dead, SV.dead, SV.dead, SV.dead, SV.dead, SV.dead, SV.dead, SV.dead, SV.dead, SV.dead, SV.dead, SV.dead, SV.dead, SV.dead, SV.dead]
  [((100 : Nat), SObj.row (4 : Nat) x2)] [(100 : Nat)]
noncomputable def f9_L3 (fu fm : Nat) (x0 : List SV) (x1 : Int) (x2 : List SV) : Option (SV) := atLoop f9_X Try.f9 (frz f9_X.Ty Try.f9) fu [.r, .r, .l, .r, .b] fm (f9_st3 x0 x1 x2)
theorem f9_L3_eq (fu fm : Nat) (x0 : List SV) (x1 : Int) (x2 : List SV) : f9_L3 fu (fm + 1) x0 x1 x2 = bif decide (x1 ≥ (0 : Int)) then
  bif decide ((0 : Int) ≤ x1) && decide (x1 < (↑(List.length x0) : Int)) then
    bif decide ((List.length x2 + (1 : Nat)) * (1 : Nat) ≤ (140737488355328 : Nat)) && decide (List.length x2 + (1 : Nat) ≤ (9223372036854775807 : Nat)) then
      f9_L3 fu fm x0 (IntKind.wrap IntKind.i64 (x1 - (1 : Int))) (x2 ++ [SV.bool (asBool (List.getD (cellsOf (List.getD x0 (Int.toNat x1) SV.dead)) (0 : Nat) SV.dead))])
    else none
  else none
  else some (SV.lst (4 : Nat) x2) := by kernel_rfl

theorem f9_eq (fu : Nat) (l : List SV) : evFun f9_X fu Try.f9 (frz f9_X.Ty Try.f9) [.lst 4 l] [] [] = f9_L3 fu fu l (IntKind.wrap IntKind.i64 ((↑(List.length l) : Int) - (1 : Int))) [] := by kernel_rfl

def f10_st3 (x0 : Int) (x1 : Int) (x2 : Int) (x3 : List SV) : St := St.mk
  [SV.int IntKind.u64 x0, SV.int IntKind.i64 x1, SV.dead, SV.dead, SV.dead, SV.row (100 : Nat), SV.int IntKind.i64 x2, SV.dead, SV.dead, SV.dead, SV.dead, SV.dead, SV.dead, SV.dead, SV.dead, SV.dead, SV.dead, SV.dead,
    SV.dead, SV.dead, SV.dead]
  [((100 : Nat), SObj.row (4 : Nat) x3)] [(100 : Nat)]
noncomputable def f10_L3 (fu fm : Nat) (x0 : Int) (x1 : Int) (x2 : Int) (x3 : List SV) : Option (SV) := atLoop f10_X Try.f10 (frz f10_X.Ty Try.f10) fu [.r, .r, .l, .r, .b] fm (f10_st3 x0 x1 x2 x3)
theorem f10_L3_eq (fu fm : Nat) (x0 : Int) (x1 : Int) (x2 : Int) (x3 : List SV) : f10_L3 fu (fm + 1) x0 x1 x2 x3 = bif decide (x2 < x1) then
  bif decide ((List.length x3 + (1 : Nat)) * (1 : Nat) ≤ (140737488355328 : Nat)) && decide (List.length x3 + (1 : Nat) ≤ (9223372036854775807 : Nat)) then
    f10_L3 fu fm (IntKind.wrap IntKind.u64 (Int.tdiv x0 (2 : Int))) x1 (IntKind.wrap IntKind.i64 (x2 + (1 : Int))) (x3 ++ [SV.bool (Int.tmod x0 (2 : Int) == (1 : Int))])
  else none
  else some (SV.lst (4 : Nat) x3) := by kernel_rfl

theorem f10_eq (fu : Nat) (v : Int) (n : Int) : evFun f10_X fu Try.f10 (frz f10_X.Ty Try.f10) [.int .u64 v, .int .i64 n] [] [] = f10_L3 fu fu v n (0 : Int) [] := by kernel_rfl

def f33_st2 (x0 : List SV) : St := St.mk [SV.dead, SV.dead, SV.dead, SV.row (100 : Nat), SV.dead, SV.dead, SV.dead, SV.dead, SV.dead, SV.dead, SV.dead, SV.dead, SV.dead, SV.dead, SV.dead] [((100 : Nat), SObj.row (4 : Nat) x0)] [(100 : Nat)]
noncomputable def f33_L2 (fu fm : Nat) (x0 : List SV) : Option (SV) := atLoop f33_X Try.f33 (frz f33_X.Ty Try.f33) fu [.r, .r, .l, .b] fm (f33_st2 x0)
theorem f33_L2_eq (fu fm : Nat) (x0 : List SV) : f33_L2 fu (fm + 1) x0 = bif Int.tmod (↑(List.length x0) : Int) (8 : Int) != (0 : Int) then
  bif decide ((List.length x0 + (1 : Nat)) * (1 : Nat) ≤ (140737488355328 : Nat)) && decide (List.length x0 + (1 : Nat) ≤ (9223372036854775807 : Nat)) then f33_L2 fu fm (x0 ++ [SV.bool false]) else none
  else some (SV.lst (4 : Nat) x0) := by kernel_rfl

theorem f33_eq (fu : Nat) (l : List SV) : evFun f33_X fu Try.f33 (frz f33_X.Ty Try.f33) [.lst 4 l] [] [] = bif decide (((0 : Nat) + List.length l) * (1 : Nat) ≤ (140737488355328 : Nat)) && decide ((0 : Nat) + List.length l ≤ (9223372036854775807 : Nat)) then f33_L2 fu fu ([] ++ l) else none := by kernel_rfl

def f34_st3 (x0 : List SV) (x1 : Int) (x2 : Int) : St := St.mk
  [SV.lst (4 : Nat) x0, SV.dead, SV.dead, SV.int IntKind.u64 x1, SV.int IntKind.i64 x2, SV.dead, SV.dead, SV.dead, SV.dead, SV.dead, SV.dead, SV.dead, SV.dead, SV.dead, SV.dead, SV.dead, SV.dead, SV.dead, SV.dead,
    SV.dead, SV.dead, SV.dead]
  [] []
noncomputable def f34_L3 (fu fm : Nat) (x0 : List SV) (x1 : Int) (x2 : Int) : Option (SV) := atLoop f34_X Try.f34 (frz f34_X.Ty Try.f34) fu [.r, .r, .l, .r, .b] fm (f34_st3 x0 x1 x2)
theorem f34_L3_eq (fu fm : Nat) (x0 : List SV) (x1 : Int) (x2 : Int) : f34_L3 fu (fm + 1) x0 x1 x2 = bif decide (x2 ≥ (0 : Int)) then
  bif decide ((0 : Int) ≤ x2) && decide (x2 < (↑(List.length x0) : Int)) then
    bif asBool (List.getD (cellsOf (List.getD x0 (Int.toNat x2) SV.dead)) (0 : Nat) SV.dead) then
      f34_L3 fu fm x0 (IntKind.wrap IntKind.u64 (IntKind.wrap IntKind.u64 (x1 + x1) + (1 : Int))) (IntKind.wrap IntKind.i64 (x2 - (1 : Int)))
    else f34_L3 fu fm x0 (IntKind.wrap IntKind.u64 (x1 + x1)) (IntKind.wrap IntKind.i64 (x2 - (1 : Int)))
  else none
  else some (SV.int IntKind.u64 x1) := by kernel_rfl

theorem f34_eq (fu : Nat) (l : List SV) : evFun f34_X fu Try.f34 (frz f34_X.Ty Try.f34) [.lst 4 l] [] [] = f34_L3 fu fu l (0 : Int) (IntKind.wrap IntKind.i64 ((↑(List.length l) : Int) - (1 : Int))) := by kernel_rfl

def f54_T (v : Int) (n : Int) : Tr SV := Tr.br (decide (n < (0 : Int))) (Tr.leaf (SV.int IntKind.i64 (1 : Int)))
  (Tr.br (decide (n > (32 : Int))) (Tr.leaf (SV.int IntKind.i64 (1 : Int)))
    (Tr.br (decide ((0 : Int) ≤ n)) (Tr.br (shrI IntKind.u64 v n != (0 : Int)) (Tr.leaf (SV.int IntKind.i64 (8 : Int))) (Tr.leaf (SV.int IntKind.i64 (0 : Int)))) Tr.no))
theorem f54_eq (fu : Nat) (v : Int) (n : Int) : evFun f54_X fu Try.f54 (frz f54_X.Ty Try.f54) [.int .u64 v, .int .i64 n] [] [] = (f54_T v n).opt1 := by kernel_rfl

theorem f75_eq (fu : Nat) (v : Int) : evFun f75_X fu Try.f75 (frz f75_X.Ty Try.f75) [.int .u64 v] [] [] = some
  (SV.int IntKind.u64
    (ibits BinOp.or IntKind.u64
      (shrI IntKind.u64
        (ibits BinOp.or IntKind.u64
          (ibits BinOp.and IntKind.u64
            (shrI IntKind.u64
              (ibits BinOp.or IntKind.u64 (ibits BinOp.and IntKind.u64 (shrI IntKind.u64 v (8 : Int)) (71777214294589695 : Int)) (shlI IntKind.u64 (ibits BinOp.and IntKind.u64 v (71777214294589695 : Int)) (8 : Int)))
              (16 : Int))
            (281470681808895 : Int))
          (shlI IntKind.u64
            (ibits BinOp.and IntKind.u64
              (ibits BinOp.or IntKind.u64 (ibits BinOp.and IntKind.u64 (shrI IntKind.u64 v (8 : Int)) (71777214294589695 : Int)) (shlI IntKind.u64 (ibits BinOp.and IntKind.u64 v (71777214294589695 : Int)) (8 : Int)))
              (281470681808895 : Int))
            (16 : Int)))
        (32 : Int))
      (shlI IntKind.u64
        (ibits BinOp.or IntKind.u64
          (ibits BinOp.and IntKind.u64
            (shrI IntKind.u64
              (ibits BinOp.or IntKind.u64 (ibits BinOp.and IntKind.u64 (shrI IntKind.u64 v (8 : Int)) (71777214294589695 : Int)) (shlI IntKind.u64 (ibits BinOp.and IntKind.u64 v (71777214294589695 : Int)) (8 : Int)))
              (16 : Int))
            (281470681808895 : Int))
          (shlI IntKind.u64
            (ibits BinOp.and IntKind.u64
              (ibits BinOp.or IntKind.u64 (ibits BinOp.and IntKind.u64 (shrI IntKind.u64 v (8 : Int)) (71777214294589695 : Int)) (shlI IntKind.u64 (ibits BinOp.and IntKind.u64 v (71777214294589695 : Int)) (8 : Int)))
              (281470681808895 : Int))
            (16 : Int)))
        (32 : Int)))) := by kernel_rfl

def f74_T (l : List SV) (c : Int) (v : Int) : Tr (SV × Mem) := Tr.br (Int.tmod c (8 : Int) == (0 : Int))
  (Tr.br (decide ((List.length l + (1 : Nat)) * (1 : Nat) ≤ (140737488355328 : Nat)) && decide (List.length l + (1 : Nat) ≤ (9223372036854775807 : Nat)))
    (Tr.br (decide ((0 : Int) ≤ IntKind.wrap IntKind.i64 (Int.tdiv c (8 : Int))) && decide (IntKind.wrap IntKind.i64 (Int.tdiv c (8 : Int)) < (↑(List.length (l ++ [SV.int IntKind.u8 (0 : Int)])) : Int)))
      (Tr.br (decide ((0 : Int) ≤ Int.tmod c (8 : Int)))
        (Tr.br (decide ((0 : Int) ≤ IntKind.wrap IntKind.i64 (Int.tdiv c (8 : Int))) && decide (IntKind.wrap IntKind.i64 (Int.tdiv c (8 : Int)) < (↑(List.length (l ++ [SV.int IntKind.u8 (0 : Int)])) : Int)))
          (Tr.leaf
            (SV.tup [],
              [((0 : Nat), SObj.box (54 : Nat) [SV.row (2 : Nat), SV.int IntKind.i64 (IntKind.wrap IntKind.i64 (c + (1 : Int)))]),
                ((2 : Nat),
                  SObj.row (5 : Nat)
                    (List.set (l ++ [SV.int IntKind.u8 (0 : Int)]) (Int.toNat (IntKind.wrap IntKind.i64 (Int.tdiv c (8 : Int))))
                      (SV.int IntKind.u8
                        (ibits BinOp.or IntKind.u8 (asInt (List.getD (cellsOf (List.getD (l ++ [SV.int IntKind.u8 (0 : Int)]) (Int.toNat (IntKind.wrap IntKind.i64 (Int.tdiv c (8 : Int)))) SV.dead)) (0 : Nat) SV.dead))
                          (shlI IntKind.u8 (IntKind.wrap IntKind.u8 (ibits BinOp.and IntKind.u64 v (1 : Int))) (Int.tmod c (8 : Int)))))))]))
          Tr.no)
        Tr.no)
      Tr.no)
    Tr.no)
  (Tr.br (decide ((0 : Int) ≤ IntKind.wrap IntKind.i64 (Int.tdiv c (8 : Int))) && decide (IntKind.wrap IntKind.i64 (Int.tdiv c (8 : Int)) < (↑(List.length l) : Int)))
    (Tr.br (decide ((0 : Int) ≤ Int.tmod c (8 : Int)))
      (Tr.br (decide ((0 : Int) ≤ IntKind.wrap IntKind.i64 (Int.tdiv c (8 : Int))) && decide (IntKind.wrap IntKind.i64 (Int.tdiv c (8 : Int)) < (↑(List.length l) : Int)))
        (Tr.leaf
          (SV.tup [],
            [((0 : Nat), SObj.box (54 : Nat) [SV.row (2 : Nat), SV.int IntKind.i64 (IntKind.wrap IntKind.i64 (c + (1 : Int)))]),
              ((2 : Nat),
                SObj.row (5 : Nat)
                  (List.set l (Int.toNat (IntKind.wrap IntKind.i64 (Int.tdiv c (8 : Int))))
                    (SV.int IntKind.u8
                      (ibits BinOp.or IntKind.u8 (asInt (List.getD (cellsOf (List.getD l (Int.toNat (IntKind.wrap IntKind.i64 (Int.tdiv c (8 : Int)))) SV.dead)) (0 : Nat) SV.dead))
                        (shlI IntKind.u8 (IntKind.wrap IntKind.u8 (ibits BinOp.and IntKind.u64 v (1 : Int))) (Int.tmod c (8 : Int)))))))]))
        Tr.no)
      Tr.no)
    Tr.no)
theorem f74_eq (fu : Nat) (l : List SV) (c : Int) (v : Int) : evFun (f74_X [0]) fu Try.f74 (finW (tyOf Try.prog) [0] 2) [.box 0 0, .int .u64 v] [(0, .box 54 [.row 1, .int .i64 c]), (1, .row 5 l)] [0, 1] = (f74_T l c v).opt := by kernel_rfl

def f12_T (l : List SV) (c : Int) : Tr (SV × Mem) := Tr.br (decide (((0 : Nat) + List.length l) * (1 : Nat) ≤ (140737488355328 : Nat)) && decide ((0 : Nat) + List.length l ≤ (9223372036854775807 : Nat)))
  (Tr.leaf (SV.row (2 : Nat), [((0 : Nat), SObj.box (54 : Nat) [SV.row (3 : Nat), SV.int IntKind.i64 c]), ((2 : Nat), SObj.row (5 : Nat) ([] ++ l)), ((3 : Nat), SObj.row (5 : Nat) l)])) Tr.no
theorem f12_eq (fu : Nat) (l : List SV) (c : Int) : evFun (f12_X [0]) fu Try.f12 (finW (tyOf Try.prog) [0] 2) [.box 0 0] [(0, .box 54 [.row 1, .int .i64 c]), (1, .row 5 l)] [0, 1] = (f12_T l c).opt := by kernel_rfl

def f11_T (l : List SV) (c : Int) : Tr SV := Tr.leaf (SV.int IntKind.i64 c)
theorem f11_eq (fu : Nat) (l : List SV) (c : Int) : evFun f11_X fu Try.f11 (frz f11_X.Ty Try.f11) [.adr [.lst 5 l, .int .i64 c]] [] [] = (f11_T l c).opt1 := by kernel_rfl

def f6_T  : Tr (SV × Mem) := Tr.leaf (SV.box (0 : Nat) (0 : Nat), [((0 : Nat), SObj.box (54 : Nat) [SV.row (1 : Nat), SV.int IntKind.i64 (0 : Int)]), ((1 : Nat), SObj.row (5 : Nat) [])])
theorem f6_eq (fu : Nat)  : evFun (f6_X []) fu Try.f6 (finW (tyOf Try.prog) [] 0) [] [] [] = (f6_T ).opt := by kernel_rfl

def c74 : List SV → Mem → Tr (SV × Mem)
  | [.box 0 0, .int .u64 v], [(0, .box 54 [.row 1, .int .i64 c]), (1, .row 5 l)] => squash (f74_T l c v)
  | _, _ => .no
theorem f74_ok : SpecOk rE 74 (.wide (wideOf (tyOf Try.prog) c74)) :=
  wide_of_sq rE_ok (fun sm => ⟨fx_ok rLib_ok sm f74_live, rfl⟩) (fn := Try.f74) (by kernel_rfl) (by decide) (by rfl) (fun args m => by
    unfold c74
    split
    · exact .inr ⟨0, _, rfl, f74_eq 0 _ _ _⟩
    · exact .inl rfl)

def c12 : List SV → Mem → Tr (SV × Mem)
  | [.box 0 0], [(0, .box 54 [.row 1, .int .i64 c]), (1, .row 5 l)] => squash (f12_T l c)
  | _, _ => .no
theorem f12_ok : SpecOk rE 12 (.wide (wideOf (tyOf Try.prog) c12)) :=
  wide_of_sq rE_ok (fun sm => ⟨fx_ok rLib_ok sm f12_live, rfl⟩) (fn := Try.f12) (by kernel_rfl) (by decide) (by rfl) (fun args m => by
    unfold c12
    split
    · exact .inr ⟨0, _, rfl, f12_eq 0 _ _⟩
    · exact .inl rfl)

def c6 : List SV → Mem → Tr (SV × Mem)
  | [], [] => squash (f6_T )
  | _, _ => .no
theorem f6_ok : SpecOk rE 6 (.wide (wideOf (tyOf Try.prog) c6)) :=
  wide_of_sq rE_ok (fun sm => ⟨fx_ok rLib_ok sm f6_live, rfl⟩) (fn := Try.f6) (by kernel_rfl) (by decide) (by rfl) (fun args m => by
    unfold c6
    split
    · exact .inr ⟨0, _, rfl, f6_eq 0 ⟩
    · exact .inl rfl)

def g54 : List SV → Option (Bool × SV)
  | [.int .u64 v, .int .i64 n] => gOf (f54_T v n)
  | _ => none
theorem f54_ok : SpecOk rE 54 (.plain g54) :=
  plain_of_run (fx_ok rLib_ok [] f54_live) (fn := Try.f54) (by kernel_rfl) (by decide) (by rfl) (plain_of_g (f := 54) (fx_ok rLib_ok [] f54_live) (fn := Try.f54) (by kernel_rfl) (by decide) (by rfl) (fun args => by
    unfold g54
    split
    · exact .inr ⟨0, _, rfl, rfl, f54_eq 0 _ _⟩
    · exact .inl rfl))

def g11 : List SV → Option (Bool × SV)
  | [.adr [.lst 5 l, .int .i64 c]] => gOf (f11_T l c)
  | _ => none
theorem f11_ok : SpecOk rE 11 (.look (lookOf (tyOf Try.prog) g11)) :=
  look_of_run (fx_ok rLib_ok [] f11_live) (fn := Try.f11) (by kernel_rfl) (by decide) (by rfl) (plain_of_g (f := 11) (fx_ok rLib_ok [] f11_live) (fn := Try.f11) (by kernel_rfl) (by decide) (by rfl) (fun args => by
    unfold g11
    split
    · exact .inr ⟨0, _, rfl, rfl, f11_eq 0 _ _⟩
    · exact .inl rfl))

end Sx

/-
  Layer 8 in plain numbers: bits of numbers, numbers of bits.
-/
set_option linter.unusedVariables false
namespace Sx
open Go Go.Proofs

def isB : SV → Bool | .bool _ => true | _ => false
theorem isB_list {l : List SV} (h : l.all isB = true) : l = (l.map asBool).map SV.bool := by
  induction l with
  | nil => rfl
  | cons x l ih =>
    simp only [List.all_cons, Bool.and_eq_true] at h
    obtain ⟨h1, h2⟩ := h
    cases x <;> simp [isB] at h1
    simp only [List.map_cons, asBool]
    rw [← ih h2]
theorem isB_at {l : List SV} (h : l.all isB = true) {i : Nat} (hi : i < l.length) : SV.bool (asBool ((cellsOf (l.getD i .dead)).getD 0 .dead)) = l[i] := by
  have hx := List.all_eq_true.1 h _ (List.getElem_mem hi)
  have : l.getD i .dead = l[i] := by simp [List.getD, List.getElem?_eq_getElem hi]
  rw [this]
  generalize l[i] = x at hx
  cases x <;> simp [isB] at hx
  rfl

/-! ### Fits -/
def gFits : List SV → Option (Bool × SV)
  | [.int .u64 v, .int .i64 n] => some (decide (0 ≤ v) && Nat.ble v.toNat 18446744073709551615 && decide (0 ≤ n) && decide (n ≤ 64), .bool (v.toNat >>> n.toNat == 0))
  | _ => none
theorem fits_loop (fu : Nat) (n : Nat) (hn : n ≤ 64) : ∀ (d i x fm : Nat), i + d = n → d < fm → x < 2 ^ 64 → f8_L2 fu fm (x : Int) (n : Int) (i : Int) = some (.bool (x >>> d == 0)) := by
  intro d
  induction d with
  | zero =>
    intro i x fm hi hf hx
    obtain ⟨fm, rfl⟩ : ∃ k, fm = k + 1 := ⟨fm - 1, by omega⟩
    rw [f8_L2_eq]
    have : ¬ ((i : Int) < n) := by omega
    simp only [this, decide_false, cond_false]
    congr 2
    rw [Nat.shiftRight_zero]
    rw [Bool.eq_iff_iff]; simp
  | succ d ih =>
    intro i x fm hi hf hx
    obtain ⟨fm, rfl⟩ : ∃ k, fm = k + 1 := ⟨fm - 1, by omega⟩
    rw [f8_L2_eq]
    have h1 : ((i : Int) < n) := by omega
    have e1 : (x : Int).tdiv 2 = ((x / 2 : Nat) : Int) := by rw [Int.tdiv_eq_ediv_of_nonneg (by omega)]; rfl
    have e2 : (i : Int) + 1 = ((i + 1 : Nat) : Int) := by omega
    simp only [h1, decide_true, cond_true, e1, e2]
    rw [wrap_u64 (by omega), wrap_i64 (by omega) (by omega), ih (i + 1) (x / 2) fm (by omega) (by omega) (by omega)]
    rw [Nat.shiftRight_succ_inside]
theorem f8_ok : SpecOk rE 8 (.plain gFits) := by
  refine plain_of_run (fx_ok rLib_ok [] f8_live) (fn := Try.f8) (by kernel_rfl) (by decide) (by rfl) (fun args sv h => ?_)
  unfold gFits at h
  split at h
  · rename_i v n
    simp only [Option.some.injEq, Prod.mk.injEq, Bool.and_eq_true, decide_eq_true_eq] at h
    obtain ⟨⟨⟨⟨h1, h2⟩, h3⟩, h4⟩, rfl⟩ := h
    have h2 := Nat.le_of_ble_eq_true h2
    obtain ⟨v, rfl⟩ := Int.eq_ofNat_of_zero_le h1
    obtain ⟨n, rfl⟩ := Int.eq_ofNat_of_zero_le h3
    refine ⟨rfl, rfl, 100, ?_⟩
    show evFun f8_X 100 Try.f8 (frz f8_X.Ty Try.f8) [.int .u64 v, .int .i64 n] [] [] = _
    rw [f8_eq]
    exact fits_loop 100 n (by omega) n 0 v 100 (by omega) (by omega) (by omega)
  · cases h

/-! ### Bits -/
def bitsL (v n : Nat) : List SV := (List.range n).map fun i => .bool (Nat.testBit v i)
def gBits : List SV → Option (Bool × SV)
  | [.int .u64 v, .int .i64 n] => some (decide (0 ≤ v) && Nat.ble v.toNat 18446744073709551615 && decide (0 ≤ n) && decide (n ≤ 64), .lst 4 (bitsL v.toNat n.toNat))
  | _ => none
theorem bits_loop (fu : Nat) (v n : Nat) (hn : n ≤ 64) (hv : v < 2 ^ 64) : ∀ (d i fm : Nat), i + d = n → d < fm → f10_L3 fu fm ((v >>> i : Nat) : Int) (n : Int) (i : Int) (bitsL v i) = some (.lst 4 (bitsL v n)) := by
  intro d
  induction d with
  | zero =>
    intro i fm hi hf
    obtain ⟨fm, rfl⟩ : ∃ k, fm = k + 1 := ⟨fm - 1, by omega⟩
    rw [f10_L3_eq]
    have : ¬ ((i : Int) < n) := by omega
    simp only [this, decide_false, cond_false]
    rw [show i = n by omega]
  | succ d ih =>
    intro i fm hi hf
    obtain ⟨fm, rfl⟩ : ∃ k, fm = k + 1 := ⟨fm - 1, by omega⟩
    rw [f10_L3_eq]
    have h1 : ((i : Int) < n) := by omega
    have hl : (bitsL v i).length = i := by simp [bitsL]
    have h2 : ((bitsL v i).length + 1) * 1 ≤ 140737488355328 := by omega
    have h3 : (bitsL v i).length + 1 ≤ 9223372036854775807 := by omega
    have e1 : ((v >>> i : Nat) : Int).tdiv 2 = ((v >>> (i + 1) : Nat) : Int) := by
      rw [Int.tdiv_eq_ediv_of_nonneg (Int.natCast_nonneg _), Nat.shiftRight_succ]; rfl
    have e3 : (((v >>> i : Nat) : Int).tmod 2 == 1) = Nat.testBit v i := by
      rw [Int.tmod_eq_emod_of_nonneg (Int.natCast_nonneg _), Nat.testBit_eq_decide_div_mod_eq, ← Nat.shiftRight_eq_div_pow]
      generalize v >>> i = y
      rw [Bool.eq_iff_iff]
      simp
      omega
    have e2 : (i : Int) + 1 = ((i + 1 : Nat) : Int) := by omega
    have e4 : bitsL v i ++ [.bool (Nat.testBit v i)] = bitsL v (i + 1) := by simp [bitsL, List.range_succ]
    have hsh : v >>> (i + 1) < 2 ^ 64 := Nat.lt_of_le_of_lt (Nat.shiftRight_le _ _) hv
    simp only [h1, h2, h3, decide_true, cond_true, Bool.and_self, e1, e2, e3, e4]
    rw [wrap_u64 hsh, wrap_i64 (by omega) (by omega)]
    exact ih (i + 1) fm (by omega) (by omega)
theorem f10_ok : SpecOk rE 10 (.plain gBits) := by
  refine plain_of_run (fx_ok rLib_ok [] f10_live) (fn := Try.f10) (by kernel_rfl) (by decide) (by rfl) (fun args sv h => ?_)
  unfold gBits at h
  split at h
  · rename_i v n
    simp only [Option.some.injEq, Prod.mk.injEq, Bool.and_eq_true, decide_eq_true_eq] at h
    obtain ⟨⟨⟨⟨h1, h2⟩, h3⟩, h4⟩, rfl⟩ := h
    have h2 := Nat.le_of_ble_eq_true h2
    obtain ⟨v, rfl⟩ := Int.eq_ofNat_of_zero_le h1
    obtain ⟨n, rfl⟩ := Int.eq_ofNat_of_zero_le h3
    refine ⟨rfl, rfl, 100, ?_⟩
    show evFun f10_X 100 Try.f10 (frz f10_X.Ty Try.f10) [.int .u64 v, .int .i64 n] [] [] = _
    rw [f10_eq]
    have := bits_loop 100 v n (by omega) (by omega) n 0 100 (by omega) (by omega)
    simpa [bitsL] using this
  · cases h

/-! ### Back -/
def gBack : List SV → Option (Bool × SV)
  | [.lst 4 l] => some (l.all isB && Nat.ble l.length 1000, .lst 4 l.reverse)
  | _ => none
theorem back_loop (fu : Nat) (l : List SV) (hb : l.all isB = true) (hl : l.length ≤ 1000) : ∀ (k fm : Nat) (acc : List SV), k ≤ l.length → acc.length + k = l.length → k < fm → f9_L3 fu fm l ((k : Int) - 1) acc = some (.lst 4 (acc ++ (l.take k).reverse)) := by
  intro k
  induction k with
  | zero =>
    intro fm acc hk ha hf
    obtain ⟨fm, rfl⟩ : ∃ k, fm = k + 1 := ⟨fm - 1, by omega⟩
    rw [f9_L3_eq]
    simp
  | succ k ih =>
    intro fm acc hk ha hf
    obtain ⟨fm, rfl⟩ : ∃ k, fm = k + 1 := ⟨fm - 1, by omega⟩
    rw [f9_L3_eq]
    have e0 : ((k + 1 : Nat) : Int) - 1 = (k : Int) := by omega
    have h1 : ((k : Int) ≥ 0) := by omega
    have h1' : ((0 : Int) ≤ k) := by omega
    have h2 : ((k : Int) < l.length) := by omega
    have h3 : (acc.length + 1) * 1 ≤ 140737488355328 := by omega
    have h4 : acc.length + 1 ≤ 9223372036854775807 := by omega
    have e1 := isB_at hb (show k < l.length by omega)
    simp only [e0, h1, h2, h3, h4, decide_true, cond_true, Bool.and_self, Int.toNat_natCast]
    rw [e1, wrap_i64 (by omega) (by omega), ih fm _ (by omega) (by simp; omega) (by omega)]
    have e5 : l.take (k + 1) = l.take k ++ [l[k]] := List.take_succ_eq_append_getElem (by omega)
    rw [e5, List.reverse_append, List.append_assoc]
    rfl
theorem f9_ok : SpecOk rE 9 (.plain gBack) := by
  refine plain_of_run (fx_ok rLib_ok [] f9_live) (fn := Try.f9) (by kernel_rfl) (by decide) (by rfl) (fun args sv h => ?_)
  unfold gBack at h
  split at h
  · rename_i l
    simp only [Option.some.injEq, Prod.mk.injEq, Bool.and_eq_true] at h
    obtain ⟨⟨h1, h2⟩, rfl⟩ := h
    have h2 := Nat.le_of_ble_eq_true h2
    refine ⟨rfl, rfl, 1001, ?_⟩
    show evFun f9_X 1001 Try.f9 (frz f9_X.Ty Try.f9) [.lst 4 l] [] [] = _
    rw [f9_eq, wrap_i64 (by omega) (by omega)]
    have := back_loop 1001 l h1 h2 l.length 1001 [] (Nat.le_refl _) (by simp) (by omega)
    simpa using this
  · cases h

/-! ### Whole -/
def wholeL (l : List SV) : List SV := l ++ List.replicate ((8 - l.length % 8) % 8) (.bool false)
def gWhole : List SV → Option (Bool × SV)
  | [.lst 4 l] => some (Nat.ble l.length 1000, .lst 4 (wholeL l))
  | _ => none
theorem whole_loop (fu : Nat) : ∀ (d fm : Nat) (l : List SV), d = (8 - l.length % 8) % 8 → l.length ≤ 2000 → d < fm → f33_L2 fu fm l = some (.lst 4 (wholeL l)) := by
  intro d
  induction d with
  | zero =>
    intro fm l hd hl hf
    obtain ⟨fm, rfl⟩ : ∃ k, fm = k + 1 := ⟨fm - 1, by omega⟩
    rw [f33_L2_eq]
    have : (((l.length : Int).tmod 8) != 0) = false := by
      rw [Int.tmod_eq_emod_of_nonneg (by omega)]; simp; omega
    simp only [this, cond_false]
    unfold wholeL
    rw [← hd]; simp
  | succ d ih =>
    intro fm l hd hl hf
    obtain ⟨fm, rfl⟩ : ∃ k, fm = k + 1 := ⟨fm - 1, by omega⟩
    rw [f33_L2_eq]
    have : (((l.length : Int).tmod 8) != 0) = true := by
      rw [Int.tmod_eq_emod_of_nonneg (by omega)]; simp; omega
    have h3 : (l.length + 1) * 1 ≤ 140737488355328 := by omega
    have h4 : l.length + 1 ≤ 9223372036854775807 := by omega
    simp only [this, h3, h4, decide_true, cond_true, Bool.and_self]
    rw [ih fm (l ++ [SV.bool false]) (by simp; omega) (by
      have : l.length ≤ 1999 := by
        rcases Nat.lt_or_ge l.length 2000 with q | q
        · omega
        · have : l.length = 2000 := by omega
          rw [this] at hd; simp at hd
      simp; omega) (by omega)]
    unfold wholeL
    rw [← hd, List.append_assoc]
    have : (8 - (l ++ [SV.bool false]).length % 8) % 8 = d := by simp; omega
    rw [this, List.replicate_succ]; rfl
theorem f33_ok : SpecOk rE 33 (.plain gWhole) := by
  refine plain_of_run (fx_ok rLib_ok [] f33_live) (fn := Try.f33) (by kernel_rfl) (by decide) (by rfl) (fun args sv h => ?_)
  unfold gWhole at h
  split at h
  · rename_i l
    simp only [Option.some.injEq, Prod.mk.injEq] at h
    obtain ⟨h2, rfl⟩ := h
    have h2 := Nat.le_of_ble_eq_true h2
    refine ⟨rfl, rfl, 10, ?_⟩
    show evFun f33_X 10 Try.f33 (frz f33_X.Ty Try.f33) [.lst 4 l] [] [] = _
    rw [f33_eq]
    have h3 : (0 + l.length) * 1 ≤ 140737488355328 := by omega
    have h4 : 0 + l.length ≤ 9223372036854775807 := by omega
    simp only [h3, h4, decide_true, cond_true, Bool.and_self, List.nil_append]
    exact whole_loop 10 _ 10 l rfl (by omega) (by omega)
  · cases h

/-! ### Number -/
def numB : List Bool → Nat
  | [] => 0
  | b :: l => 2 * numB l + b.toNat
def gNumber : List SV → Option (Bool × SV)
  | [.lst 4 l] => some (l.all isB && Nat.ble l.length 64, .int .u64 (numB (l.map asBool)))
  | _ => none
theorem numB_lt : ∀ l : List Bool, numB l < 2 ^ l.length
  | [] => by simp [numB]
  | b :: l => by
    have := numB_lt l
    simp only [numB, List.length_cons, Nat.pow_succ]
    cases b <;> simp <;> omega
theorem num_loop (fu : Nat) (l : List SV) (hb : l.all isB = true) (hl : l.length ≤ 64) : ∀ (k fm : Nat), k ≤ l.length → k < fm → f34_L3 fu fm l (numB ((l.drop k).map asBool)) ((k : Int) - 1) = some (.int .u64 (numB (l.map asBool))) := by
  intro k
  induction k with
  | zero =>
    intro fm hk hf
    obtain ⟨fm, rfl⟩ : ∃ k, fm = k + 1 := ⟨fm - 1, by omega⟩
    rw [f34_L3_eq]
    simp
  | succ k ih =>
    intro fm hk hf
    obtain ⟨fm, rfl⟩ : ∃ k, fm = k + 1 := ⟨fm - 1, by omega⟩
    rw [f34_L3_eq]
    have e0 : ((k + 1 : Nat) : Int) - 1 = (k : Int) := by omega
    have h1 : ((k : Int) ≥ 0) := by omega
    have h1' : ((0 : Int) ≤ k) := by omega
    have h2 : ((k : Int) < l.length) := by omega
    have e1 := isB_at hb (show k < l.length by omega)
    have hd : (l.drop k).map asBool = asBool ((cellsOf (l.getD k .dead)).getD 0 .dead) :: (l.drop (k + 1)).map asBool := by
      rw [List.drop_eq_getElem_cons (by omega), List.map_cons]
      congr 1
      have := congrArg asBool e1
      simpa [asBool] using this.symm
    have hlt : numB ((l.drop k).map asBool) < 2 ^ 64 := by
      have := numB_lt ((l.drop k).map asBool)
      refine Nat.lt_of_lt_of_le this (Nat.pow_le_pow_right (by decide) (by simp; omega))
    simp only [e0, h1, h2, decide_true, cond_true, Bool.and_self, Int.toNat_natCast]
    have ih := ih fm (by omega) (by omega)
    rw [hd] at ih hlt
    cases hq : asBool ((cellsOf (l.getD k .dead)).getD 0 .dead) with
    | true =>
      rw [hq] at ih hlt
      simp only [numB, Bool.toNat_true] at ih hlt
      simp only [cond_true]
      have e2 : ((numB ((l.drop (k + 1)).map asBool) : Nat) : Int) + (numB ((l.drop (k + 1)).map asBool) : Nat) = ((2 * numB ((l.drop (k + 1)).map asBool) : Nat) : Int) := by omega
      rw [e2, wrap_u64 (by omega)]
      have e3 : ((2 * numB ((l.drop (k + 1)).map asBool) : Nat) : Int) + 1 = ((2 * numB ((l.drop (k + 1)).map asBool) + 1 : Nat) : Int) := by omega
      rw [e3, wrap_u64 hlt, wrap_i64 (by omega) (by omega)]
      exact ih
    | false =>
      rw [hq] at ih hlt
      simp only [numB, Bool.toNat_false, Nat.add_zero] at ih hlt
      simp only [cond_false]
      have e2 : ((numB ((l.drop (k + 1)).map asBool) : Nat) : Int) + (numB ((l.drop (k + 1)).map asBool) : Nat) = ((2 * numB ((l.drop (k + 1)).map asBool) : Nat) : Int) := by omega
      rw [e2, wrap_u64 hlt, wrap_i64 (by omega) (by omega)]
      exact ih
theorem f34_ok : SpecOk rE 34 (.plain gNumber) := by
  refine plain_of_run (fx_ok rLib_ok [] f34_live) (fn := Try.f34) (by kernel_rfl) (by decide) (by rfl) (fun args sv h => ?_)
  unfold gNumber at h
  split at h
  · rename_i l
    simp only [Option.some.injEq, Prod.mk.injEq, Bool.and_eq_true] at h
    obtain ⟨⟨h1, h2⟩, rfl⟩ := h
    have h2 := Nat.le_of_ble_eq_true h2
    refine ⟨rfl, rfl, 100, ?_⟩
    show evFun f34_X 100 Try.f34 (frz f34_X.Ty Try.f34) [.lst 4 l] [] [] = _
    rw [f34_eq, wrap_i64 (by omega) (by omega)]
    have := num_loop 100 l h1 h2 l.length 100 (Nat.le_refl _) (by omega)
    simpa [numB] using this
  · cases h
end Sx

/-
  The bits of a number the other way round: math/bits.ReverseBytes64, by its text.
-/
set_option linter.unusedVariables false
namespace Sx
open Go Go.Proofs

theorem stage_is {k m x : Nat} (hk : k ≤ 64) (hx : x < 2 ^ 64) (hm : m < 2 ^ 64) : ibits .or .u64 (ibits .and .u64 (shrI .u64 (x : Int) (k : Int)) (m : Int)) (shlI .u64 (ibits .and .u64 (x : Int) (m : Int)) (k : Int)) = (stage k m x : Nat) := by
  rw [shr_u64 _ _ hk, and_u64 (Nat.lt_of_le_of_lt (Nat.shiftRight_le _ _) hx) hm, and_u64 hx hm, shl_u64 _ _ hk, or_u64 (Nat.lt_of_le_of_lt Nat.and_le_right hm) (Nat.mod_lt _ (by decide))]
  rfl
theorem stage32_is {x : Nat} (hx : x < 2 ^ 64) : ibits .or .u64 (shrI .u64 (x : Int) 32) (shlI .u64 (x : Int) 32) = (stage 32 4294967295 x : Nat) := by
  have e1 : ((32 : Nat) : Int) = 32 := rfl
  rw [← e1, shr_u64 _ _ (by decide), shl_u64 _ _ (by decide), or_u64 (Nat.lt_of_le_of_lt (Nat.shiftRight_le _ _) hx) (Nat.mod_lt _ (by decide))]
  congr 1
  unfold stage
  have h1 : x >>> 32 &&& 4294967295 = x >>> 32 := by
    rw [show (4294967295 : Nat) = 2 ^ 32 - 1 by decide, Nat.and_two_pow_sub_one_eq_mod, Nat.shiftRight_eq_div_pow]
    omega
  have h2 : ((x &&& 4294967295) <<< 32) % 2 ^ 64 = x <<< 32 % 2 ^ 64 := by
    rw [show (4294967295 : Nat) = 2 ^ 32 - 1 by decide, Nat.and_two_pow_sub_one_eq_mod, Nat.shiftLeft_eq, Nat.shiftLeft_eq]
    omega
  rw [h1, h2]

def gRB : List SV → Option (Bool × SV)
  | [.int .u64 v] => some (decide (0 ≤ v) && Nat.ble v.toNat 18446744073709551615, .int .u64 (stage 32 4294967295 (stage 16 281470681808895 (stage 8 71777214294589695 v.toNat))))
  | _ => none
theorem f75_ok : SpecOk rE 75 (.plain gRB) := by
  refine plain_of_run (fx_ok rLib_ok [] f75_live) (fn := Try.f75) (by kernel_rfl) (by decide) (by rfl) (fun args sv h => ?_)
  unfold gRB at h
  split at h
  · rename_i v
    simp only [Option.some.injEq, Prod.mk.injEq, Bool.and_eq_true, decide_eq_true_eq] at h
    obtain ⟨⟨h1, h2⟩, rfl⟩ := h
    have h2 := Nat.le_of_ble_eq_true h2
    obtain ⟨v, rfl⟩ := Int.eq_ofNat_of_zero_le h1
    have hv : v < 2 ^ 64 := by omega
    refine ⟨rfl, rfl, 0, ?_⟩
    show evFun f75_X 0 Try.f75 (frz f75_X.Ty Try.f75) [.int .u64 v] [] [] = _
    rw [f75_eq]
    have s1 := stage_is (k := 8) (m := 71777214294589695) (by decide) hv (by decide)
    have l1 : stage 8 71777214294589695 v < 2 ^ 64 := stage_lt (by decide)
    have s2 := stage_is (k := 16) (m := 281470681808895) (by decide) l1 (by decide)
    have l2 : stage 16 281470681808895 (stage 8 71777214294589695 v) < 2 ^ 64 := stage_lt (by decide)
    have s3 := stage32_is l2
    have c1 : ((8 : Nat) : Int) = 8 := rfl
    have c2 : ((71777214294589695 : Nat) : Int) = 71777214294589695 := rfl
    have c3 : ((16 : Nat) : Int) = 16 := rfl
    have c4 : ((281470681808895 : Nat) : Int) = 281470681808895 := rfl
    rw [c1, c2] at s1
    rw [c3, c4] at s2
    rw [s1, s2, s3]
    rfl
  · cases h
/-- What is wrong with a number of bits. -/
def rightI (v n : Int) : Int := if n < 0 ∨ 32 < n then 1 else if v.toNat >>> n.toNat = 0 then 0 else 8
def gRight : List SV → Option (Bool × SV)
  | [.int .u64 v, .int .i64 n] => some (decide (0 ≤ v) && Nat.ble v.toNat 18446744073709551615, .int .i64 (rightI v n))
  | _ => none
theorem right_ok : SpecOk rE 54 (.plain gRight) := by
  refine plain_of_run (fx_ok rLib_ok [] f54_live) (fn := Try.f54) (by kernel_rfl) (by decide) (by rfl) (fun args sv h => ?_)
  unfold gRight at h
  split at h
  · rename_i v n
    simp only [Option.some.injEq, Prod.mk.injEq, Bool.and_eq_true, decide_eq_true_eq] at h
    obtain ⟨⟨h1, h2⟩, rfl⟩ := h
    obtain ⟨v, rfl⟩ := Int.eq_ofNat_of_zero_le h1
    refine ⟨rfl, rfl, 0, ?_⟩
    show evFun f54_X 0 Try.f54 (frz f54_X.Ty Try.f54) [.int .u64 v, .int .i64 n] [] [] = _
    rw [f54_eq]
    unfold rightI f54_T
    by_cases k1 : n < 0
    · simp [k1, Tr.opt1]
    · by_cases k2 : 32 < n
      · have : n > 32 := k2
        simp [k1, k2, Tr.opt1]
      · have h3 : 0 ≤ n := by omega
        obtain ⟨n, rfl⟩ := Int.eq_ofNat_of_zero_le h3
        have k3 : ¬ ((n : Int) > 32) := k2
        rw [shr_u64 _ _ (by omega)]
        have hor : ¬ ((n : Int) < 0 ∨ 32 < (n : Int)) := by omega
        rw [if_neg hor]
        simp only [Tr.opt1, k1, k3, h3, decide_true, decide_false, cond_true, cond_false, Int.toNat_natCast]
        by_cases hq : v >>> n = 0
        · rw [if_pos hq]
          have e : ((((v >>> n : Nat) : Int)) != 0) = false := by
            rw [hq]; rfl
          rw [e]; rfl
        · have e : ((((v >>> n : Nat) : Int)) != 0) = true := by
            simp only [bne_iff_ne, ne_eq]; omega
          rw [e, if_neg hq]; rfl
  · cases h
noncomputable def kT0 : List (Nat × Spec) := (75, .plain gRB) :: (8, .plain gFits) :: (9, .plain gBack) :: (10, .plain gBits) :: (33, .plain gWhole) :: (34, .plain gNumber) :: (54, .plain gRight) :: (74, .wide (wideOf (tyOf Try.prog) c74)) :: (12, .wide (wideOf (tyOf Try.prog) c12)) :: (11, .look (lookOf (tyOf Try.prog) g11)) :: (6, .wide (wideOf (tyOf Try.prog) c6)) :: rLib
theorem kT0_ok : SpecsOk rE (ofList kT0) := .cons f75_ok (.cons f8_ok (.cons f9_ok (.cons f10_ok (.cons f33_ok (.cons f34_ok (.cons right_ok (.cons f74_ok (.cons f12_ok (.cons f11_ok (.cons f6_ok rLib_ok))))))))))
end Sx

/-
  What the executor says of functions: the normal forms, each compared by the kernel. (Printed by a program.)
-/
set_option linter.unusedVariables false
namespace Sx
open Go Go.Proofs
set_option maxRecDepth 100000
/-- The slots that are needed at the loops' heads of 'math/bits.Reverse64'. -/
noncomputable def f56_live : Nat → List Nat × List (Nat × TypeId) := fun h => ([], [])
noncomputable def f56_X : Fx := ⟨tyOf Try.prog, ofList kT0, [], f56_live⟩
/-- The slots that are needed at the loops' heads of 'hamper/hamperref08.Bytes'. -/
noncomputable def f13_live : Nat → List Nat × List (Nat × TypeId) := fun h => bif Nat.beq h 4 then ([3, 4, 5], nilsOf (tyOf Try.prog) [(3, 27), (4, 9), (5, 3)]) else ([], [])
noncomputable def f13_X : Fx := ⟨tyOf Try.prog, ofList kT0, [], f13_live⟩
/-- The slots that are needed at the loops' heads of '(*hamper/bits.Writer).Put'. -/
noncomputable def f55_live : Nat → List Nat × List (Nat × TypeId) := fun h => bif Nat.beq h 5 then ([0, 1, 15, 16], nilsOf (tyOf Try.prog) [(0, 23), (1, 28), (15, 3), (16, 3)]) else ([], [])
noncomputable def f55_X (sm : List Nat) : Fx := ⟨tyOf Try.prog, ofList kT0, sm, f55_live⟩
theorem f56_eq (fu : Nat) (v : Int) : evFun f56_X fu Try.f56 (frz f56_X.Ty Try.f56) [.int .u64 v] [] [] = bif
    Nat.ble
      (Int.toNat
        (ibits BinOp.or IntKind.u64
          (ibits BinOp.and IntKind.u64
            (shrI IntKind.u64
              (ibits BinOp.or IntKind.u64
                (ibits BinOp.and IntKind.u64
                  (shrI IntKind.u64
                    (ibits BinOp.or IntKind.u64 (ibits BinOp.and IntKind.u64 (shrI IntKind.u64 v (1 : Int)) (6148914691236517205 : Int))
                      (shlI IntKind.u64 (ibits BinOp.and IntKind.u64 v (6148914691236517205 : Int)) (1 : Int)))
                    (2 : Int))
                  (3689348814741910323 : Int))
                (shlI IntKind.u64
                  (ibits BinOp.and IntKind.u64
                    (ibits BinOp.or IntKind.u64 (ibits BinOp.and IntKind.u64 (shrI IntKind.u64 v (1 : Int)) (6148914691236517205 : Int))
                      (shlI IntKind.u64 (ibits BinOp.and IntKind.u64 v (6148914691236517205 : Int)) (1 : Int)))
                    (3689348814741910323 : Int))
                  (2 : Int)))
              (4 : Int))
            (1085102592571150095 : Int))
          (shlI IntKind.u64
            (ibits BinOp.and IntKind.u64
              (ibits BinOp.or IntKind.u64
                (ibits BinOp.and IntKind.u64
                  (shrI IntKind.u64
                    (ibits BinOp.or IntKind.u64 (ibits BinOp.and IntKind.u64 (shrI IntKind.u64 v (1 : Int)) (6148914691236517205 : Int))
                      (shlI IntKind.u64 (ibits BinOp.and IntKind.u64 v (6148914691236517205 : Int)) (1 : Int)))
                    (2 : Int))
                  (3689348814741910323 : Int))
                (shlI IntKind.u64
                  (ibits BinOp.and IntKind.u64
                    (ibits BinOp.or IntKind.u64 (ibits BinOp.and IntKind.u64 (shrI IntKind.u64 v (1 : Int)) (6148914691236517205 : Int))
                      (shlI IntKind.u64 (ibits BinOp.and IntKind.u64 v (6148914691236517205 : Int)) (1 : Int)))
                    (3689348814741910323 : Int))
                  (2 : Int)))
              (1085102592571150095 : Int))
            (4 : Int))))
      (18446744073709551615 : Nat) then
  some
    (SV.int IntKind.u64
      (↑(stage (32 : Nat) (4294967295 : Nat)
            (stage (16 : Nat) (281470681808895 : Nat)
              (stage (8 : Nat) (71777214294589695 : Nat)
                (Int.toNat
                  (ibits BinOp.or IntKind.u64
                    (ibits BinOp.and IntKind.u64
                      (shrI IntKind.u64
                        (ibits BinOp.or IntKind.u64
                          (ibits BinOp.and IntKind.u64
                            (shrI IntKind.u64
                              (ibits BinOp.or IntKind.u64 (ibits BinOp.and IntKind.u64 (shrI IntKind.u64 v (1 : Int)) (6148914691236517205 : Int))
                                (shlI IntKind.u64 (ibits BinOp.and IntKind.u64 v (6148914691236517205 : Int)) (1 : Int)))
                              (2 : Int))
                            (3689348814741910323 : Int))
                          (shlI IntKind.u64
                            (ibits BinOp.and IntKind.u64
                              (ibits BinOp.or IntKind.u64 (ibits BinOp.and IntKind.u64 (shrI IntKind.u64 v (1 : Int)) (6148914691236517205 : Int))
                                (shlI IntKind.u64 (ibits BinOp.and IntKind.u64 v (6148914691236517205 : Int)) (1 : Int)))
                              (3689348814741910323 : Int))
                            (2 : Int)))
                        (4 : Int))
                      (1085102592571150095 : Int))
                    (shlI IntKind.u64
                      (ibits BinOp.and IntKind.u64
                        (ibits BinOp.or IntKind.u64
                          (ibits BinOp.and IntKind.u64
                            (shrI IntKind.u64
                              (ibits BinOp.or IntKind.u64 (ibits BinOp.and IntKind.u64 (shrI IntKind.u64 v (1 : Int)) (6148914691236517205 : Int))
                                (shlI IntKind.u64 (ibits BinOp.and IntKind.u64 v (6148914691236517205 : Int)) (1 : Int)))
                              (2 : Int))
                            (3689348814741910323 : Int))
                          (shlI IntKind.u64
                            (ibits BinOp.and IntKind.u64
                              (ibits BinOp.or IntKind.u64 (ibits BinOp.and IntKind.u64 (shrI IntKind.u64 v (1 : Int)) (6148914691236517205 : Int))
                                (shlI IntKind.u64 (ibits BinOp.and IntKind.u64 v (6148914691236517205 : Int)) (1 : Int)))
                              (3689348814741910323 : Int))
                            (2 : Int)))
                        (1085102592571150095 : Int))
                      (4 : Int))))))) :
        Int))
  else none := by kernel_rfl

def f13_st4 (x0 : List SV) (x1 : ByteArray) (x2 : Int) : St := St.mk
  [SV.dead, SV.dead, SV.dead, SV.lst (4 : Nat) x0, SV.str x1, SV.int IntKind.i64 x2, SV.dead, SV.dead, SV.dead, SV.dead, SV.dead, SV.dead, SV.dead, SV.dead, SV.dead, SV.dead, SV.dead, SV.dead, SV.dead, SV.dead, SV.dead,
    SV.dead, SV.dead, SV.dead, SV.dead, SV.dead]
  [] []
noncomputable def f13_L4 (fu fm : Nat) (x0 : List SV) (x1 : ByteArray) (x2 : Int) : Option (SV) := atLoop f13_X Try.f13 (frz f13_X.Ty Try.f13) fu [.r, .r, .r, .l, .r, .b] fm (f13_st4 x0 x1 x2)
theorem f13_L4_eq (fu fm : Nat) (x0 : List SV) (x1 : ByteArray) (x2 : Int) : f13_L4 fu (fm + 1) x0 x1 x2 = bif decide (x2 < (↑(List.length x0) : Int)) then
  bif
      decide ((0 : Int) ≤ IntKind.wrap IntKind.i64 (x2 + (8 : Int))) && decide (IntKind.wrap IntKind.i64 (x2 + (8 : Int)) ≤ (↑(List.length x0) : Int)) &&
        (decide ((0 : Int) ≤ x2) && decide (x2 ≤ IntKind.wrap IntKind.i64 (x2 + (8 : Int)))) then
    bif
        List.all (List.drop (Int.toNat x2) (List.take (Int.toNat (IntKind.wrap IntKind.i64 (x2 + (8 : Int)))) x0)) isB &&
          Nat.ble (List.length (List.drop (Int.toNat x2) (List.take (Int.toNat (IntKind.wrap IntKind.i64 (x2 + (8 : Int)))) x0))) (64 : Nat) then
      bif Nat.ble (ByteArray.size x1 + (1 : Nat)) (9223372036854775807 : Nat) then
        f13_L4 fu fm x0 (x1 ++ strOf [SV.int IntKind.u8 (IntKind.wrap IntKind.u8 (↑(numB (List.map asBool (List.drop (Int.toNat x2) (List.take (Int.toNat (IntKind.wrap IntKind.i64 (x2 + (8 : Int)))) x0)))) : Int))])
          (IntKind.wrap IntKind.i64 (x2 + (8 : Int)))
      else none
    else none
  else none
  else some (SV.str x1) := by kernel_rfl

theorem f13_eq (fu : Nat) (l : List SV) : evFun f13_X fu Try.f13 (frz f13_X.Ty Try.f13) [.lst 4 l] [] [] = bif Nat.ble (List.length l) (1000 : Nat) then f13_L4 fu fu (wholeL l) (ByteArray.mk #[]) (0 : Int) else none := by kernel_rfl

def f55_st5 (x0 : Int) (x1 : Int) (x2 : Int) (x3 : Int) (x4 : List SV) : St := St.mk
  [SV.box (0 : Nat) (0 : Nat), SV.int IntKind.u64 x0, SV.dead, SV.dead, SV.dead, SV.dead, SV.dead, SV.dead, SV.dead, SV.dead, SV.dead, SV.dead, SV.dead, SV.dead, SV.dead, SV.int IntKind.i64 x1, SV.int IntKind.i64 x2,
    SV.dead, SV.dead, SV.dead, SV.dead, SV.dead, SV.dead, SV.dead, SV.dead]
  [((0 : Nat), SObj.box (54 : Nat) [SV.row (100 : Nat), SV.int IntKind.i64 x3]), ((100 : Nat), SObj.row (5 : Nat) x4)] [(0 : Nat), (100 : Nat)]
noncomputable def f55_L5 (fu fm : Nat) (x0 : Int) (x1 : Int) (x2 : Int) (x3 : Int) (x4 : List SV) : Option (Option (SV × Mem)) := atLoop (f55_X [0]) Try.f55 (finW (tyOf Try.prog) [0] 2) fu [.r, .r, .l, .r, .b] fm (f55_st5 x0 x1 x2 x3 x4)
theorem f55_L5_eq (fu fm : Nat) (x0 : Int) (x1 : Int) (x2 : Int) (x3 : Int) (x4 : List SV) : f55_L5 fu (fm + 1) x0 x1 x2 x3 x4 = bif decide (x2 < x1) then
  bif decide ((0 : Int) ≤ x2) then
    bif
        bif Int.tmod x3 (8 : Int) == (0 : Int) then
          decide ((List.length x4 + (1 : Nat)) * (1 : Nat) ≤ (140737488355328 : Nat)) && decide (List.length x4 + (1 : Nat) ≤ (9223372036854775807 : Nat)) &&
            (decide ((0 : Int) ≤ IntKind.wrap IntKind.i64 (Int.tdiv x3 (8 : Int))) && decide (IntKind.wrap IntKind.i64 (Int.tdiv x3 (8 : Int)) < (↑(List.length (x4 ++ [SV.int IntKind.u8 (0 : Int)])) : Int)) &&
              (decide ((0 : Int) ≤ Int.tmod x3 (8 : Int)) &&
                (decide ((0 : Int) ≤ IntKind.wrap IntKind.i64 (Int.tdiv x3 (8 : Int))) && decide (IntKind.wrap IntKind.i64 (Int.tdiv x3 (8 : Int)) < (↑(List.length (x4 ++ [SV.int IntKind.u8 (0 : Int)])) : Int)) &&
                  true)))
        else
          decide ((0 : Int) ≤ IntKind.wrap IntKind.i64 (Int.tdiv x3 (8 : Int))) && decide (IntKind.wrap IntKind.i64 (Int.tdiv x3 (8 : Int)) < (↑(List.length x4) : Int)) &&
            (decide ((0 : Int) ≤ Int.tmod x3 (8 : Int)) &&
              (decide ((0 : Int) ≤ IntKind.wrap IntKind.i64 (Int.tdiv x3 (8 : Int))) && decide (IntKind.wrap IntKind.i64 (Int.tdiv x3 (8 : Int)) < (↑(List.length x4) : Int)) && true)) then
      f55_L5 fu fm x0 x1 (IntKind.wrap IntKind.i64 (x2 + (1 : Int))) (bif Int.tmod x3 (8 : Int) == (0 : Int) then IntKind.wrap IntKind.i64 (x3 + (1 : Int)) else IntKind.wrap IntKind.i64 (x3 + (1 : Int)))
        (bif Int.tmod x3 (8 : Int) == (0 : Int) then
          List.set (x4 ++ [SV.int IntKind.u8 (0 : Int)]) (Int.toNat (IntKind.wrap IntKind.i64 (Int.tdiv x3 (8 : Int))))
            (SV.int IntKind.u8
              (ibits BinOp.or IntKind.u8 (asInt (List.getD (cellsOf (List.getD (x4 ++ [SV.int IntKind.u8 (0 : Int)]) (Int.toNat (IntKind.wrap IntKind.i64 (Int.tdiv x3 (8 : Int)))) SV.dead)) (0 : Nat) SV.dead))
                (shlI IntKind.u8 (IntKind.wrap IntKind.u8 (ibits BinOp.and IntKind.u64 (shrI IntKind.u64 x0 x2) (1 : Int))) (Int.tmod x3 (8 : Int)))))
        else
          List.set x4 (Int.toNat (IntKind.wrap IntKind.i64 (Int.tdiv x3 (8 : Int))))
            (SV.int IntKind.u8
              (ibits BinOp.or IntKind.u8 (asInt (List.getD (cellsOf (List.getD x4 (Int.toNat (IntKind.wrap IntKind.i64 (Int.tdiv x3 (8 : Int)))) SV.dead)) (0 : Nat) SV.dead))
                (shlI IntKind.u8 (IntKind.wrap IntKind.u8 (ibits BinOp.and IntKind.u64 (shrI IntKind.u64 x0 x2) (1 : Int))) (Int.tmod x3 (8 : Int))))))
    else none
  else none
  else some (some (SV.int IntKind.i64 (0 : Int), [((0 : Nat), SObj.box (54 : Nat) [SV.row (2 : Nat), SV.int IntKind.i64 x3]), ((2 : Nat), SObj.row (5 : Nat) x4)])) := by kernel_rfl

theorem f55_eq (fu : Nat) (v : Int) (n : Int) : evFun (f55_X [0]) fu Try.f55 (finW (tyOf Try.prog) [0] 2) [.box 0 0, .int .u64 v, .int .i64 n] [(0, .box 54 [.row 1, .int .i64 0]), (1, .row 5 [])] [0, 1] = bif decide ((0 : Int) ≤ v) && Nat.ble (Int.toNat v) (18446744073709551615 : Nat) then
  bif rightI v n != (0 : Int) then some (some (SV.int IntKind.i64 (rightI v n), [((0 : Nat), SObj.box (54 : Nat) [SV.row (2 : Nat), SV.int IntKind.i64 (0 : Int)]), ((2 : Nat), SObj.row (5 : Nat) [])]))
  else f55_L5 fu fu v n (0 : Int) (0 : Int) []
  else none := by kernel_rfl

end Sx

/-
  Layer 8, on: a number's bits are put, the lowest first; bits as octets.
-/
set_option linter.unusedVariables false
namespace Sx
open Go Go.Proofs

def gRev : List SV → Option (Bool × SV)
  | [.int .u64 v] => some (decide (0 ≤ v) && Nat.ble v.toNat 18446744073709551615, .int .u64 (rev64 v.toNat))
  | _ => none
theorem f56_ok : SpecOk rE 56 (.plain gRev) := by
  refine plain_of_run (fx_ok kT0_ok [] f56_live) (fn := Try.f56) (by kernel_rfl) (by decide) (by rfl) (fun args sv h => ?_)
  unfold gRev at h
  split at h
  · rename_i v
    simp only [Option.some.injEq, Prod.mk.injEq, Bool.and_eq_true, decide_eq_true_eq] at h
    obtain ⟨⟨h1, h2⟩, rfl⟩ := h
    have h2 := Nat.le_of_ble_eq_true h2
    obtain ⟨v, rfl⟩ := Int.eq_ofNat_of_zero_le h1
    have hv : v < 2 ^ 64 := by omega
    refine ⟨rfl, rfl, 0, ?_⟩
    show evFun f56_X 0 Try.f56 (frz f56_X.Ty Try.f56) [.int .u64 v] [] [] = _
    rw [f56_eq]
    have s1 := stage_is (k := 1) (m := 6148914691236517205) (by decide) hv (by decide)
    have l1 : stage 1 6148914691236517205 v < 2 ^ 64 := stage_lt (by decide)
    have s2 := stage_is (k := 2) (m := 3689348814741910323) (by decide) l1 (by decide)
    have l2 : stage 2 3689348814741910323 (stage 1 6148914691236517205 v) < 2 ^ 64 := stage_lt (by decide)
    have s3 := stage_is (k := 4) (m := 1085102592571150095) (by decide) l2 (by decide)
    have l3 : stage 4 1085102592571150095 (stage 2 3689348814741910323 (stage 1 6148914691236517205 v)) < 2 ^ 64 := stage_lt (by decide)
    have c1 : ((1 : Nat) : Int) = 1 := rfl
    have c2 : ((6148914691236517205 : Nat) : Int) = 6148914691236517205 := rfl
    have c3 : ((2 : Nat) : Int) = 2 := rfl
    have c4 : ((3689348814741910323 : Nat) : Int) = 3689348814741910323 := rfl
    have c5 : ((4 : Nat) : Int) = 4 := rfl
    have c6 : ((1085102592571150095 : Nat) : Int) = 1085102592571150095 := rfl
    rw [c1, c2] at s1
    rw [c3, c4] at s2
    rw [c5, c6] at s3
    rw [s1, s2, s3]
    have b : Nat.ble (stage 4 1085102592571150095 (stage 2 3689348814741910323 (stage 1 6148914691236517205 v))) 18446744073709551615 = true := Nat.ble_eq_true_of_le (by omega)
    simp only [Int.toNat_natCast, b, cond_true]
    rfl
  · cases h

/-! ### Put -/
/-- The octets of a number's lowest bits. -/
def packK (v i k : Nat) : List SV := (List.range k).map fun j => SV.int .u8 (((v % 2 ^ i) >>> (8 * j) % 2 ^ 8 : Nat) : Int)
def packL (v i : Nat) : List SV := packK v i ((i + 7) / 8)
theorem packK_length (v i k : Nat) : (packK v i k).length = k := by simp [packK]
theorem packK_at {v i k j : Nat} (h : j < k) : (packK v i k).getD j .dead = .int .u8 (((v % 2 ^ i) >>> (8 * j) % 2 ^ 8 : Nat) : Int) := by
  simp [packK, List.getD, h]
theorem pack_low {v i j : Nat} (h : 8 * j + 8 ≤ i) : (v % 2 ^ i) >>> (8 * j) % 2 ^ 8 = (v % 2 ^ (i + 1)) >>> (8 * j) % 2 ^ 8 := by
  apply Nat.eq_of_testBit_eq
  intro t
  simp only [Nat.testBit_mod_two_pow, Nat.testBit_shiftRight]
  by_cases ht : t < 8
  · have h1 : 8 * j + t < i := by omega
    have h2 : 8 * j + t < i + 1 := by omega
    simp [ht, h1, h2]
  · simp [ht]
theorem pack_high {v i : Nat} : (v % 2 ^ i) >>> (8 * (i / 8)) % 2 ^ 8 ||| ((v >>> i % 2) <<< (i % 8)) % 2 ^ 8 = (v % 2 ^ (i + 1)) >>> (8 * (i / 8)) % 2 ^ 8 := by
  apply Nat.eq_of_testBit_eq
  intro t
  have e2 : (2 : Nat) = 2 ^ 1 := rfl
  rw [Nat.testBit_or]
  rw [show v >>> i % 2 = v >>> i % 2 ^ 1 from rfl]
  simp only [Nat.testBit_mod_two_pow, Nat.testBit_shiftRight, Nat.testBit_shiftLeft]
  by_cases ht : t < 8
  · rcases Nat.lt_trichotomy (8 * (i / 8) + t) i with q | q | q
    · have h2 : 8 * (i / 8) + t < i + 1 := by omega
      have h3 : ¬ (i % 8 ≤ t) := by omega
      simp [ht, q, h2, h3]
    · have h1 : ¬ (8 * (i / 8) + t < i) := by omega
      have h2 : 8 * (i / 8) + t < i + 1 := by omega
      have h3 : i % 8 ≤ t := by omega
      have h4 : t - i % 8 = 0 := by omega
      simp [ht, h3, h4, q]
    · have h1 : ¬ (8 * (i / 8) + t < i) := by omega
      have h2 : ¬ (8 * (i / 8) + t < i + 1) := by omega
      have h4 : ¬ (t - i % 8 < 1) := by omega
      simp [ht, h1, h2, h4]
  · simp [ht]
theorem pack_set {v i : Nat} : (packK v i (i / 8 + 1)).set (i / 8) (SV.int .u8 (((v % 2 ^ (i + 1)) >>> (8 * (i / 8)) % 2 ^ 8 : Nat) : Int)) = packL v (i + 1) := by
  have e : (i + 1 + 7) / 8 = i / 8 + 1 := by omega
  unfold packL
  rw [e]
  apply List.ext_getElem?
  intro j
  by_cases q : i / 8 = j
  · subst q
    rw [List.getElem?_set_self (by rw [packK_length]; omega)]
    simp [packK]
  · rw [List.getElem?_set_ne q]
    by_cases hj : j < i / 8 + 1
    · simp only [packK, List.getElem?_map, List.getElem?_range hj, Option.map_some]
      rw [pack_low (by omega)]
    · rw [List.getElem?_eq_none (by rw [packK_length]; omega), List.getElem?_eq_none (by rw [packK_length]; omega)]
theorem pack_new {v i : Nat} (h : i % 8 = 0) : packL v i ++ [SV.int .u8 0] = packK v i (i / 8 + 1) := by
  have e : (i + 7) / 8 = i / 8 := by omega
  unfold packL
  rw [e]
  simp only [packK, List.range_succ, List.map_append, List.map_cons, List.map_nil]
  congr 2
  have : (v % 2 ^ i) >>> (8 * (i / 8)) = 0 := by
    rw [show 8 * (i / 8) = i by omega, Nat.shiftRight_eq_div_pow]
    exact Nat.div_eq_of_lt (Nat.mod_lt _ (Nat.two_pow_pos i))
  rw [this]; rfl
theorem pack_old {v i : Nat} (h : i % 8 ≠ 0) : packL v i = packK v i (i / 8 + 1) := by
  have e : (i + 7) / 8 = i / 8 + 1 := by omega
  unfold packL
  rw [e]

/-- One bit more. -/
theorem put_bit {v i : Nat} (hv : v < 2 ^ 64) (hi : i < 64) : ibits .or .u8 (asInt ((cellsOf ((packK v i (i / 8 + 1)).getD (i / 8) .dead)).getD 0 .dead)) (shlI .u8 (IntKind.wrap .u8 (ibits .and .u64 (shrI .u64 (v : Int) (i : Int)) 1)) ((i % 8 : Nat) : Int)) = (((v % 2 ^ (i + 1)) >>> (8 * (i / 8)) % 2 ^ 8 : Nat) : Int) := by
  rw [packK_at (by omega)]
  have e0 : asInt ((cellsOf (SV.int .u8 (((v % 2 ^ i) >>> (8 * (i / 8)) % 2 ^ 8 : Nat) : Int))).getD 0 .dead) = (((v % 2 ^ i) >>> (8 * (i / 8)) % 2 ^ 8 : Nat) : Int) := rfl
  have e1 : ((1 : Nat) : Int) = 1 := rfl
  have hs : v >>> i < 2 ^ 64 := Nat.lt_of_le_of_lt (Nat.shiftRight_le _ _) hv
  have e2 : v >>> i &&& 1 = v >>> i % 2 := by rw [Nat.and_one_is_mod]
  have h2 : v >>> i % 2 < 2 := Nat.mod_lt _ (by decide)
  rw [e0, shr_u64 _ _ (by omega), ← e1, and_u64 hs (by decide), e2, wrap_u8n (by omega), shl_u8 _ _ (by omega), or_u8 (Nat.mod_lt _ (by decide)) (Nat.mod_lt _ (by decide)), pack_high]

theorem put_loop (fu : Nat) (v n : Nat) (hv : v < 2 ^ 64) (hn : n ≤ 32) : ∀ (d i fm : Nat), i + d = n → d < fm → f55_L5 fu fm (v : Int) (n : Int) (i : Int) (i : Int) (packL v i) =
    some (some (SV.int .i64 0, [(0, SObj.box 54 [SV.row 2, SV.int .i64 (n : Int)]), (2, SObj.row 5 (packL v n))])) := by
  intro d
  induction d with
  | zero =>
    intro i fm hi hf
    obtain ⟨fm, rfl⟩ : ∃ k, fm = k + 1 := ⟨fm - 1, by omega⟩
    rw [f55_L5_eq]
    have : ¬ ((i : Int) < n) := by omega
    simp only [this, decide_false, cond_false]
    rw [show i = n by omega]
  | succ d ih =>
    intro i fm hi hf
    obtain ⟨fm, rfl⟩ : ∃ k, fm = k + 1 := ⟨fm - 1, by omega⟩
    rw [f55_L5_eq]
    have h1 : ((i : Int) < n) := by omega
    have h2 : ((0 : Int) ≤ i) := by omega
    have hl : (packL v i).length = (i + 7) / 8 := packK_length _ _ _
    have e1 : (i : Int).tmod 8 = ((i % 8 : Nat) : Int) := by rw [Int.tmod_eq_emod_of_nonneg h2]; rfl
    have e2 : (i : Int).tdiv 8 = ((i / 8 : Nat) : Int) := by rw [Int.tdiv_eq_ediv_of_nonneg h2]; rfl
    have e3 : (i : Int) + 1 = ((i + 1 : Nat) : Int) := by omega
    have w1 : IntKind.wrap .i64 ((i / 8 : Nat) : Int) = ((i / 8 : Nat) : Int) := wrap_i64 (by omega) (by omega)
    have w2 : IntKind.wrap .i64 ((i + 1 : Nat) : Int) = ((i + 1 : Nat) : Int) := wrap_i64 (by omega) (by omega)
    have h3 : ((packL v i).length + 1) * 1 ≤ 140737488355328 := by omega
    have h4 : (packL v i).length + 1 ≤ 9223372036854775807 := by omega
    have h5 : (0 : Int) ≤ ((i / 8 : Nat) : Int) := by omega
    have h6 : (0 : Int) ≤ ((i % 8 : Nat) : Int) := by omega
    have ih := ih (i + 1) fm (by omega) (by omega)
    by_cases hm : i % 8 = 0
    · have b : (((i % 8 : Nat) : Int) == 0) = true := by rw [hm]; rfl
      have h7 : ((i / 8 : Nat) : Int) < ((packK v i (i / 8 + 1)).length : Int) := by rw [packK_length]; omega
      simp only [h1, h2, e1, e2, e3, w1, w2, b, h3, h4, pack_new hm, h5, h6, h7, decide_true, cond_true, Bool.and_self, Int.toNat_natCast]
      rw [put_bit hv (by omega), pack_set]
      exact ih
    · have b : (((i % 8 : Nat) : Int) == 0) = false := by
        rw [Bool.eq_false_iff]; intro q; have := of_decide_eq_true q; omega
      have h7 : ((i / 8 : Nat) : Int) < ((packK v i (i / 8 + 1)).length : Int) := by rw [packK_length]; omega
      simp only [h1, h2, e1, e2, e3, w1, w2, b, pack_old hm, h5, h6, h7, decide_true, cond_true, cond_false, Bool.and_self, Int.toNat_natCast]
      rw [put_bit hv (by omega), pack_set]
      exact ih

/-- A number is put into what is empty. -/
def f55_T (v n : Int) : Tr (SV × Mem) :=
  .br (decide (0 ≤ v) && (Nat.ble v.toNat 18446744073709551615 && (decide (0 ≤ n) && decide (n ≤ 32))))
    (.br (v.toNat >>> n.toNat == 0) (.leaf (SV.int .i64 0, [(0, SObj.box 54 [SV.row 2, SV.int .i64 n]), (2, SObj.row 5 (packL v.toNat n.toNat))]))
      (.leaf (SV.int .i64 8, [(0, SObj.box 54 [SV.row 2, SV.int .i64 0]), (2, SObj.row 5 [])]))) .no
def c55 : List SV → Mem → Tr (SV × Mem)
  | [.box 0 0, .int .u64 v, .int .i64 n], [(0, .box 54 [.row 1, .int .i64 0]), (1, .row 5 [])] => f55_T v n
  | _, _ => .no
set_option maxRecDepth 100000 in
theorem f55_ok : SpecOk rE 55 (.wide (wideOf (tyOf Try.prog) c55)) := by
  refine wide_of_run rE_ok (fun sm => ⟨fx_ok kT0_ok sm f55_live, rfl⟩) (fn := Try.f55) (by kernel_rfl) (by decide) (by rfl) (fun args m x h => ?_)
  unfold c55 at h
  split at h
  · rename_i v n
    unfold f55_T at h
    simp only [pickA, cond_eq_ite] at h
    split at h
    · rename_i hc
      simp only [Bool.and_eq_true, decide_eq_true_eq] at hc
      obtain ⟨h1, h2, h3, h4⟩ := hc
      have h2 := Nat.le_of_ble_eq_true h2
      obtain ⟨v, rfl⟩ := Int.eq_ofNat_of_zero_le h1
      obtain ⟨n, rfl⟩ := Int.eq_ofNat_of_zero_le h3
      refine ⟨40, ?_⟩
      show evFun (f55_X [0]) 40 Try.f55 (finW (tyOf Try.prog) [0] 2) [.box 0 0, .int .u64 v, .int .i64 n] [(0, .box 54 [.row 1, .int .i64 0]), (1, .row 5 [])] [0, 1] = _
      rw [f55_eq]
      have hor : ¬ ((n : Int) < 0 ∨ 32 < (n : Int)) := by omega
      have b2 : Nat.ble v 18446744073709551615 = true := Nat.ble_eq_true_of_le h2
      simp only [h1, h3, b2, decide_true, cond_true, Bool.and_self, Int.toNat_natCast] at h ⊢
      unfold rightI
      rw [if_neg hor]
      simp only [Int.toNat_natCast]
      cases hq : v >>> n == 0 with
      | true =>
        rw [hq] at h
        simp only [if_true, Option.some.injEq] at h
        subst h
        rw [if_pos (eq_of_beq hq)]
        have := put_loop 40 v n (by omega) (by omega) n 0 40 (by omega) (by omega)
        simpa [packL, packK] using this
      | false =>
        rw [hq] at h
        simp at h
        subst h
        rw [if_neg (ne_of_beq_false hq)]
        rfl
    · cases h
  · cases h
end Sx

/-
  Layer 8, on: bits as octets, as the document has them.
-/
set_option linter.unusedVariables false
namespace Sx
open Go Go.Proofs

def groups (all : List SV) (k : Nat) : List UInt8 := (List.range k).map fun j => (numB (((all.drop (8 * j)).take 8).map asBool)).toUInt8
def bytesB (l : List SV) : ByteArray := ⟨(groups (wholeL l) ((l.length + 7) / 8)).toArray⟩
def gBytes : List SV → Option (Bool × SV)
  | [.lst 4 l] => some (l.all isB && Nat.ble l.length 1000, .str (bytesB l))
  | _ => none
theorem wholeL_length (l : List SV) : (wholeL l).length = 8 * ((l.length + 7) / 8) := by
  simp only [wholeL, List.length_append, List.length_replicate]; omega
theorem wholeL_isB {l : List SV} (h : l.all isB = true) : (wholeL l).all isB = true := by
  simp only [wholeL, List.all_append, Bool.and_eq_true]
  refine ⟨h, ?_⟩
  simp [isB]
theorem all_part {l : List SV} (h : l.all isB = true) (a b : Nat) : ((l.drop a).take b).all isB = true := by
  rw [List.all_eq_true] at h ⊢
  exact fun x hx => h x (List.mem_of_mem_drop (List.mem_of_mem_take hx))
theorem str_snoc (a : List UInt8) (x : UInt8) : (⟨a.toArray⟩ : ByteArray) ++ ⟨#[x]⟩ = ⟨(a ++ [x]).toArray⟩ := by
  apply ByteArray.ext
  rw [ByteArray.data_append]
  simp

theorem bytes_loop (fu : Nat) (l : List SV) (hb : l.all isB = true) (K : Nat) (hl : l.length = 8 * K) (hK : K ≤ 1000) : ∀ (d k fm : Nat), k + d = K → d < fm → f13_L4 fu fm l ⟨(groups l k).toArray⟩ ((8 * k : Nat) : Int) = some (.str ⟨(groups l K).toArray⟩) := by
  intro d
  induction d with
  | zero =>
    intro k fm hk hf
    obtain ⟨fm, rfl⟩ : ∃ k, fm = k + 1 := ⟨fm - 1, by omega⟩
    rw [f13_L4_eq]
    have : ¬ (((8 * k : Nat) : Int) < l.length) := by omega
    simp only [this, decide_false, cond_false]
    rw [show k = K by omega]
  | succ d ih =>
    intro k fm hk hf
    obtain ⟨fm, rfl⟩ : ∃ k, fm = k + 1 := ⟨fm - 1, by omega⟩
    rw [f13_L4_eq]
    have h1 : (((8 * k : Nat) : Int) < l.length) := by omega
    have e1 : ((8 * k : Nat) : Int) + 8 = ((8 * (k + 1) : Nat) : Int) := by omega
    have w1 : IntKind.wrap .i64 ((8 * (k + 1) : Nat) : Int) = ((8 * (k + 1) : Nat) : Int) := wrap_i64 (by omega) (by omega)
    have h2 : (0 : Int) ≤ ((8 * (k + 1) : Nat) : Int) := by omega
    have h3 : ((8 * (k + 1) : Nat) : Int) ≤ l.length := by omega
    have h4 : (0 : Int) ≤ ((8 * k : Nat) : Int) := by omega
    have h5 : ((8 * k : Nat) : Int) ≤ ((8 * (k + 1) : Nat) : Int) := by omega
    have e2 : List.drop (8 * k) (List.take (8 * (k + 1)) l) = (l.drop (8 * k)).take 8 := by
      rw [List.drop_take]; congr 1; omega
    have h6 := all_part hb (8 * k) 8
    have hlen : ((l.drop (8 * k)).take 8).length = 8 := by simp; omega
    have h7 : Nat.ble ((l.drop (8 * k)).take 8).length 64 = true := by rw [hlen]; rfl
    have h8 : Nat.ble ((⟨(groups l k).toArray⟩ : ByteArray).size + 1) 9223372036854775807 = true := by
      apply Nat.ble_eq_true_of_le
      have : (⟨(groups l k).toArray⟩ : ByteArray).size = k := by simp [ByteArray.size, groups]
      omega
    simp only [h1, e1, w1, h2, h3, h4, h5, e2, h6, h7, h8, decide_true, cond_true, Bool.and_self, Int.toNat_natCast]
    have hnum : numB (((l.drop (8 * k)).take 8).map asBool) < 256 := by
      have := numB_lt (((l.drop (8 * k)).take 8).map asBool)
      rw [List.length_map, hlen] at this
      exact this
    have e3 : strOf [SV.int .u8 (IntKind.wrap .u8 ((numB (((l.drop (8 * k)).take 8).map asBool) : Nat) : Int))] = ⟨#[(numB (((l.drop (8 * k)).take 8).map asBool)).toUInt8]⟩ := by
      rw [wrap_u8n hnum]; rfl
    rw [e3, str_snoc]
    have e4 : groups l k ++ [(numB (((l.drop (8 * k)).take 8).map asBool)).toUInt8] = groups l (k + 1) := by simp [groups, List.range_succ]
    rw [e4]
    exact ih (k + 1) fm (by omega) (by omega)
set_option maxRecDepth 100000 in
theorem f13_ok : SpecOk rE 13 (.plain gBytes) := by
  refine plain_of_run (fx_ok kT0_ok [] f13_live) (fn := Try.f13) (by kernel_rfl) (by decide) (by rfl) (fun args sv h => ?_)
  unfold gBytes at h
  split at h
  · rename_i l
    simp only [Option.some.injEq, Prod.mk.injEq, Bool.and_eq_true] at h
    obtain ⟨⟨h1, h2⟩, rfl⟩ := h
    have h3 := Nat.le_of_ble_eq_true h2
    refine ⟨rfl, rfl, 1001, ?_⟩
    show evFun f13_X 1001 Try.f13 (frz f13_X.Ty Try.f13) [.lst 4 l] [] [] = _
    rw [f13_eq, h2]
    have := bytes_loop 1001 (wholeL l) (wholeL_isB h1) ((l.length + 7) / 8) (wholeL_length l) (by omega) ((l.length + 7) / 8) 0 1001 (by omega) (by omega)
    exact this
  · cases h

set_option maxRecDepth 100000
noncomputable def kT1 : List (Nat × Spec) := (13, (Spec.plain gBytes).nil (tyOf Try.prog) Try.f13.params.toList) :: (55, .wide (wideOf (tyOf Try.prog) c55)) :: (56, .plain gRev) :: kT0
theorem kT1_ok : SpecsOk rE (ofList kT1) := .cons (f13_ok.nil Try.f13.params.toList) (.cons f55_ok (.cons f56_ok kT0_ok))
end Sx

/-
  What the executor says of functions: the normal forms, each compared by the kernel. (Printed by a program.)
-/
set_option linter.unusedVariables false
namespace Sx
open Go Go.Proofs
set_option maxRecDepth 100000
/-- The slots that are needed at the loops' heads of '(*hamper/bits.Writer).Turned'. -/
noncomputable def f32_live : Nat → List Nat × List (Nat × TypeId) := fun h => ([], [])
noncomputable def f32_X (sm : List Nat) : Fx := ⟨tyOf Try.prog, ofList kT1, sm, f32_live⟩
def f32_T (v : Int) (n : Int) : Tr (SV × Mem) := Tr.br (decide ((0 : Int) ≤ v) && Nat.ble (Int.toNat v) (18446744073709551615 : Nat))
  (Tr.br (rightI v n != (0 : Int)) (Tr.leaf (SV.int IntKind.i64 (rightI v n), [((0 : Nat), SObj.box (54 : Nat) [SV.row (2 : Nat), SV.int IntKind.i64 (0 : Int)]), ((2 : Nat), SObj.row (5 : Nat) [])]))
    (Tr.br (decide ((0 : Int) ≤ v) && Nat.ble (Int.toNat v) (18446744073709551615 : Nat))
      (Tr.br (decide ((0 : Int) ≤ IntKind.wrap IntKind.i64 ((64 : Int) - n)))
        (Tr.br (decide ((0 : Int) ≤ n))
          (Tr.br
            (Nat.ble
                (Int.toNat
                  (ibits BinOp.and IntKind.u64 (shrI IntKind.u64 (↑(rev64 (Int.toNat v)) : Int) (IntKind.wrap IntKind.i64 ((64 : Int) - n))) (IntKind.wrap IntKind.u64 (shlI IntKind.u64 (1 : Int) n - (1 : Int)))))
                (18446744073709551615 : Nat) &&
              (decide ((0 : Int) ≤ n) && decide (n ≤ (32 : Int))))
            (Tr.br
              (Int.toNat
                    (ibits BinOp.and IntKind.u64 (shrI IntKind.u64 (↑(rev64 (Int.toNat v)) : Int) (IntKind.wrap IntKind.i64 ((64 : Int) - n))) (IntKind.wrap IntKind.u64 (shlI IntKind.u64 (1 : Int) n - (1 : Int)))) >>>
                  Int.toNat n ==
                (0 : Nat))
              (Tr.leaf
                (SV.int IntKind.i64 (0 : Int),
                  [((0 : Nat), SObj.box (54 : Nat) [SV.row (2 : Nat), SV.int IntKind.i64 n]),
                    ((2 : Nat),
                      SObj.row (5 : Nat)
                        (packL
                          (Int.toNat
                            (ibits BinOp.and IntKind.u64 (shrI IntKind.u64 (↑(rev64 (Int.toNat v)) : Int) (IntKind.wrap IntKind.i64 ((64 : Int) - n)))
                              (IntKind.wrap IntKind.u64 (shlI IntKind.u64 (1 : Int) n - (1 : Int)))))
                          (Int.toNat n)))]))
              (Tr.leaf (SV.int IntKind.i64 (8 : Int), [((0 : Nat), SObj.box (54 : Nat) [SV.row (2 : Nat), SV.int IntKind.i64 (0 : Int)]), ((2 : Nat), SObj.row (5 : Nat) [])])))
            Tr.no)
          Tr.no)
        Tr.no)
      Tr.no))
  Tr.no
theorem f32_eq (fu : Nat) (v : Int) (n : Int) : evFun (f32_X [0]) fu Try.f32 (finW (tyOf Try.prog) [0] 2) [.box 0 0, .int .u64 v, .int .i64 n] [(0, .box 54 [.row 1, .int .i64 0]), (1, .row 5 [])] [0, 1] = (f32_T v n).opt := by kernel_rfl

def c32 : List SV → Mem → Tr (SV × Mem)
  | [.box 0 0, .int .u64 v, .int .i64 n], [(0, .box 54 [.row 1, .int .i64 0]), (1, .row 5 [])] => squash (f32_T v n)
  | _, _ => .no
theorem f32_ok : SpecOk rE 32 (.wide (wideOf (tyOf Try.prog) c32)) :=
  wide_of_sq rE_ok (fun sm => ⟨fx_ok kT1_ok sm f32_live, rfl⟩) (fn := Try.f32) (by kernel_rfl) (by decide) (by rfl) (fun args m => by
    unfold c32
    split
    · exact .inr ⟨0, _, rfl, f32_eq 0 _ _⟩
    · exact .inl rfl)

end Sx

/-
  Layer 8, on: a number's bits are put, the highest first, into what is empty.
-/
set_option linter.unusedVariables false
namespace Sx
open Go Go.Proofs

/-- A number of so many bits, turned round. -/
def turnN (v n : Nat) : Nat := rev64 v >>> (64 - n) % 2 ^ n
def tN (v n : Int) : Int := if rightI v n = 0 then n else 0
def tL (v n : Int) : List SV := if rightI v n = 0 then packL (turnN v.toNat n.toNat) n.toNat else []
def t32 (v n : Int) : Tr (SV × Mem) := .br (decide (0 ≤ v) && Nat.ble v.toNat 18446744073709551615) (.leaf (SV.int .i64 (rightI v n), [(0, SObj.box 54 [SV.row 2, SV.int .i64 (tN v n)]), (2, SObj.row 5 (tL v n))])) .no
def k32 : List SV → Mem → Tr (SV × Mem)
  | [.box 0 0, .int .u64 v, .int .i64 n], [(0, .box 54 [.row 1, .int .i64 0]), (1, .row 5 [])] => t32 v n
  | _, _ => .no
theorem rev64_lt (v : Nat) : rev64 v < 2 ^ 64 := stage_lt (by decide)
theorem turn_is (v n : Nat) (hn : n ≤ 32) : ibits .and .u64 (shrI .u64 ((rev64 v : Nat) : Int) (IntKind.wrap .i64 (64 - (n : Int)))) (IntKind.wrap .u64 (shlI .u64 1 (n : Int) - 1)) = ((turnN v n : Nat) : Int) := by
  have e1 : (64 : Int) - (n : Int) = ((64 - n : Nat) : Int) := by omega
  have e2 : ((1 : Nat) : Int) = 1 := rfl
  have h2 : 2 ^ n ≤ 2 ^ 32 := Nat.pow_le_pow_right (by decide) hn
  have h0 : 0 < 2 ^ n := Nat.two_pow_pos n
  have e3 : 1 <<< n % 2 ^ 64 = 2 ^ n := by rw [Nat.one_shiftLeft]; exact Nat.mod_eq_of_lt (by omega)
  have e4 : ((2 ^ n : Nat) : Int) - ((1 : Nat) : Int) = ((2 ^ n - 1 : Nat) : Int) := by omega
  rw [e1, wrap_i64 (by omega) (by omega), shr_u64 _ _ (by omega), ← e2, shl_u64 _ _ (by omega), e3, e4, wrap_u64 (by omega), and_u64 (Nat.lt_of_le_of_lt (Nat.shiftRight_le _ _) (rev64_lt v)) (by omega), Nat.and_two_pow_sub_one_eq_mod]
  rfl
theorem right_zero {v n : Int} (h : rightI v n = 0) : 0 ≤ n ∧ n ≤ 32 ∧ v.toNat >>> n.toNat = 0 := by
  unfold rightI at h
  split at h
  · cases h
  · split at h
    · exact ⟨by omega, by omega, by assumption⟩
    · cases h
set_option maxRecDepth 100000 in
theorem k32_ok : SpecOk rE 32 (.wide (wideOf (tyOf Try.prog) k32)) := by
  refine wide_of_run rE_ok (fun sm => ⟨fx_ok kT1_ok sm f32_live, rfl⟩) (fn := Try.f32) (by kernel_rfl) (by decide) (by rfl) (fun args m x h => ?_)
  unfold k32 at h
  split at h
  · rename_i v n
    unfold t32 at h
    simp only [pickA, cond_eq_ite] at h
    split at h
    · rename_i hc
      cases h
      have hc' := hc
      simp only [Bool.and_eq_true, decide_eq_true_eq] at hc
      obtain ⟨h1, h2⟩ := hc
      have h2 := Nat.le_of_ble_eq_true h2
      obtain ⟨v, rfl⟩ := Int.eq_ofNat_of_zero_le h1
      refine ⟨0, ?_⟩
      show evFun (f32_X [0]) 0 Try.f32 (finW (tyOf Try.prog) [0] 2) [.box 0 0, .int .u64 v, .int .i64 n] [(0, .box 54 [.row 1, .int .i64 0]), (1, .row 5 [])] [0, 1] = _
      rw [f32_eq]
      unfold f32_T tN tL
      simp only [Tr.opt, hc', cond_true]
      by_cases hr : rightI v n = 0
      · obtain ⟨h3, h4, h5⟩ := right_zero hr
        obtain ⟨n, rfl⟩ := Int.eq_ofNat_of_zero_le h3
        simp only [hr, if_true, Int.toNat_natCast] at h5 ⊢
        rw [turn_is v n (by omega)]
        have hlt : turnN v n < 2 ^ n := Nat.mod_lt _ (Nat.two_pow_pos n)
        have h6 : 2 ^ n ≤ 2 ^ 32 := Nat.pow_le_pow_right (by decide) (by omega)
        have b1 : Nat.ble (turnN v n) 18446744073709551615 = true := Nat.ble_eq_true_of_le (by omega)
        have b2 : (0 : Int) ≤ IntKind.wrap .i64 (64 - (n : Int)) := by rw [wrap_i64 (by omega) (by omega)]; omega
        have b3 : (turnN v n >>> n == 0) = true := by
          rw [Nat.shiftRight_eq_div_pow, Nat.div_eq_of_lt hlt]; rfl
        have b4 : ((0 : Int) != 0) = false := rfl
        simp only [b1, b2, b3, b4, h3, h4, decide_true, cond_true, cond_false, Bool.and_self, Int.toNat_natCast]
      · have b : (rightI v n != 0) = true := by simpa using hr
        simp only [b, hr, if_false, cond_true]
    · cases h
  · cases h
end Sx

/-
  What the executor says of functions: the normal forms, each compared by the kernel. (Printed by a program.)
-/
set_option linter.unusedVariables false
namespace Sx
open Go Go.Proofs
set_option maxRecDepth 100000
/-- 'hamper/canon.count', as it runs. -/
noncomputable def r57_live : Nat → List Nat × List (Nat × TypeId) := fun h => bif Nat.beq h 5 then ([2, 4, 11, 12, 13], nilsOf (tyOf Try.prog) [(2, 0), (4, 0), (11, 59), (12, 3), (13, 3)]) else ([], [])
noncomputable def r57_X (sm : List Nat) : Fx := ⟨tyOf Try.prog, ofList rLib, sm, r57_live⟩
noncomputable def r57_s : Spec := .wide (wideOf (tyOf Try.prog) (coreRun r57_X (tyOf Try.prog) 20 Try.f57))
theorem r57_ok : SpecOk rE 57 r57_s := wide_of_self rE_ok (fun sm => ⟨fx_ok rLib_ok sm r57_live, rfl⟩) (by kernel_rfl) (by decide) (by rfl) 20
noncomputable def rLib_57 : List (Nat × Spec) := (57, r57_s) :: rLib
theorem rLib_57_ok : SpecsOk rE (ofList rLib_57) := .cons r57_ok rLib_ok
/-- 'hamper/canon.left', as it runs. -/
noncomputable def r60_live : Nat → List Nat × List (Nat × TypeId) := fun h => bif Nat.beq h 3 then ([1, 3, 5], nilsOf (tyOf Try.prog) [(1, 0), (3, 3), (5, 3)]) else ([], [])
noncomputable def r60_X (sm : List Nat) : Fx := ⟨tyOf Try.prog, ofList rLib_57, sm, r60_live⟩
noncomputable def r60_s : Spec := .plain (plainRun (r60_X []) 20 Try.f60)
theorem r60_ok : SpecOk rE 60 r60_s := plain_of_self (fx_ok rLib_57_ok [] r60_live) (by kernel_rfl) (by decide) (by rfl) 20
noncomputable def rLib_57_60 : List (Nat × Spec) := (60, r60_s) :: rLib_57
theorem rLib_57_60_ok : SpecsOk rE (ofList rLib_57_60) := .cons r60_ok rLib_57_ok
/-- 'hamper/canon.firsts', as it runs. -/
noncomputable def r58_live : Nat → List Nat × List (Nat × TypeId) := fun h => bif Nat.beq h 4 then ([1, 2, 3, 4, 5], nilsOf (tyOf Try.prog) [(1, 0), (2, 0), (3, 0), (4, 28), (5, 3)]) else ([], [])
noncomputable def r58_X (sm : List Nat) : Fx := ⟨tyOf Try.prog, ofList rLib_57_60, sm, r58_live⟩
noncomputable def r58_s : Spec := .plain (plainRun (r58_X []) 20 Try.f58)
theorem r58_ok : SpecOk rE 58 r58_s := plain_of_self (fx_ok rLib_57_60_ok [] r58_live) (by kernel_rfl) (by decide) (by rfl) 20
noncomputable def rLib_57_60_58 : List (Nat × Spec) := (58, r58_s) :: rLib_57_60
theorem rLib_57_60_58_ok : SpecsOk rE (ofList rLib_57_60_58) := .cons r58_ok rLib_57_60_ok
/-- 'hamper/canon.Check', as it runs. -/
noncomputable def r39_live : Nat → List Nat × List (Nat × TypeId) := fun h => ([], [])
noncomputable def r39_X (sm : List Nat) : Fx := ⟨tyOf Try.prog, ofList rLib_57_60_58, sm, r39_live⟩
noncomputable def r39_s : Spec := .wide (wideOf (tyOf Try.prog) (coreRun r39_X (tyOf Try.prog) 20 Try.f39))
theorem r39_ok : SpecOk rE 39 r39_s := wide_of_self rE_ok (fun sm => ⟨fx_ok rLib_57_60_58_ok sm r39_live, rfl⟩) (by kernel_rfl) (by decide) (by rfl) 20
noncomputable def rLib_57_60_58_39 : List (Nat × Spec) := (39, r39_s) :: rLib_57_60_58
theorem rLib_57_60_58_39_ok : SpecsOk rE (ofList rLib_57_60_58_39) := .cons r39_ok rLib_57_60_58_ok
/-- 'hamper/canon.Codes', as it runs. -/
noncomputable def r35_live : Nat → List Nat × List (Nat × TypeId) := fun h => bif Nat.beq h 8 then ([7, 8, 30, 31, 32], nilsOf (tyOf Try.prog) [(7, 0), (8, 22), (30, 59), (31, 3), (32, 3)]) else ([], [])
noncomputable def r35_X (sm : List Nat) : Fx := ⟨tyOf Try.prog, ofList rLib_57_60_58_39, sm, r35_live⟩
noncomputable def r35_s : Spec := .wide (wideOf (tyOf Try.prog) (coreRun r35_X (tyOf Try.prog) 20 Try.f35))
theorem r35_ok : SpecOk rE 35 r35_s := wide_of_self rE_ok (fun sm => ⟨fx_ok rLib_57_60_58_39_ok sm r35_live, rfl⟩) (by kernel_rfl) (by decide) (by rfl) 20
noncomputable def rLib_57_60_58_39_35 : List (Nat × Spec) := (35, r35_s) :: rLib_57_60_58_39
theorem rLib_57_60_58_39_35_ok : SpecsOk rE (ofList rLib_57_60_58_39_35) := .cons r35_ok rLib_57_60_58_39_ok
/-- 'hamper/canon.New', as it runs. -/
noncomputable def r36_live : Nat → List Nat × List (Nat × TypeId) := fun h => bif Nat.beq h 8 then ([0, 4, 5, 7, 8, 23, 26, 27, 28], nilsOf (tyOf Try.prog) [(0, 59), (4, 25), (5, 0), (7, 60), (8, 3), (23, 3), (26, 59), (27, 3), (28, 3)]) else bif Nat.beq h 5 then ([0, 4, 5, 7, 23], nilsOf (tyOf Try.prog) [(0, 59), (4, 25), (5, 0), (7, 60), (23, 3)]) else ([], [])
noncomputable def r36_X (sm : List Nat) : Fx := ⟨tyOf Try.prog, ofList rLib_57_60_58_39_35, sm, r36_live⟩
noncomputable def r36_s : Spec := .wide (wideOf (tyOf Try.prog) (coreRun r36_X (tyOf Try.prog) 20 Try.f36))
theorem r36_ok : SpecOk rE 36 r36_s := wide_of_self rE_ok (fun sm => ⟨fx_ok rLib_57_60_58_39_35_ok sm r36_live, rfl⟩) (by kernel_rfl) (by decide) (by rfl) 20
noncomputable def rLib_57_60_58_39_35_36 : List (Nat × Spec) := (36, r36_s) :: rLib_57_60_58_39_35
theorem rLib_57_60_58_39_35_36_ok : SpecsOk rE (ofList rLib_57_60_58_39_35_36) := .cons r36_ok rLib_57_60_58_39_35_ok
/-- 'hamper/bits.Read', as it runs. -/
noncomputable def r37_live : Nat → List Nat × List (Nat × TypeId) := fun h => ([], [])
noncomputable def r37_X (sm : List Nat) : Fx := ⟨tyOf Try.prog, ofList rLib_57_60_58_39_35_36, sm, r37_live⟩
noncomputable def r37_s : Spec := .wide (wideOf (tyOf Try.prog) (coreRun r37_X (tyOf Try.prog) 20 Try.f37))
theorem r37_ok : SpecOk rE 37 r37_s := wide_of_self rE_ok (fun sm => ⟨fx_ok rLib_57_60_58_39_35_36_ok sm r37_live, rfl⟩) (by kernel_rfl) (by decide) (by rfl) 20
noncomputable def rLib_57_60_58_39_35_36_37 : List (Nat × Spec) := (37, r37_s) :: rLib_57_60_58_39_35_36
theorem rLib_57_60_58_39_35_36_37_ok : SpecsOk rE (ofList rLib_57_60_58_39_35_36_37) := .cons r37_ok rLib_57_60_58_39_35_36_ok
/-- '(*hamper/bits.Reader).Left', as it runs. -/
noncomputable def r76_live : Nat → List Nat × List (Nat × TypeId) := fun h => ([], [])
noncomputable def r76_X (sm : List Nat) : Fx := ⟨tyOf Try.prog, ofList rLib_57_60_58_39_35_36_37, sm, r76_live⟩
noncomputable def r76_s : Spec := .wide (wideOf (tyOf Try.prog) (coreRun r76_X (tyOf Try.prog) 20 Try.f76))
theorem r76_ok : SpecOk rE 76 r76_s := wide_of_self rE_ok (fun sm => ⟨fx_ok rLib_57_60_58_39_35_36_37_ok sm r76_live, rfl⟩) (by kernel_rfl) (by decide) (by rfl) 20
noncomputable def rLib_57_60_58_39_35_36_37_76 : List (Nat × Spec) := (76, r76_s) :: rLib_57_60_58_39_35_36_37
theorem rLib_57_60_58_39_35_36_37_76_ok : SpecsOk rE (ofList rLib_57_60_58_39_35_36_37_76) := .cons r76_ok rLib_57_60_58_39_35_36_37_ok
/-- '(*hamper/bits.Reader).Take', as it runs. -/
noncomputable def r59_live : Nat → List Nat × List (Nat × TypeId) := fun h => bif Nat.beq h 7 then ([0, 6, 20, 21], nilsOf (tyOf Try.prog) [(0, 63), (6, 28), (20, 3), (21, 3)]) else ([], [])
noncomputable def r59_X (sm : List Nat) : Fx := ⟨tyOf Try.prog, ofList rLib_57_60_58_39_35_36_37_76, sm, r59_live⟩
noncomputable def r59_s : Spec := .wide (wideOf (tyOf Try.prog) (coreRun r59_X (tyOf Try.prog) 20 Try.f59))
theorem r59_ok : SpecOk rE 59 r59_s := wide_of_self rE_ok (fun sm => ⟨fx_ok rLib_57_60_58_39_35_36_37_76_ok sm r59_live, rfl⟩) (by kernel_rfl) (by decide) (by rfl) 20
noncomputable def rLib_57_60_58_39_35_36_37_76_59 : List (Nat × Spec) := (59, r59_s) :: rLib_57_60_58_39_35_36_37_76
theorem rLib_57_60_58_39_35_36_37_76_59_ok : SpecsOk rE (ofList rLib_57_60_58_39_35_36_37_76_59) := .cons r59_ok rLib_57_60_58_39_35_36_37_76_ok
/-- '(*hamper/canon.Decoder).Take', as it runs. -/
noncomputable def r38_live : Nat → List Nat × List (Nat × TypeId) := fun h => bif Nat.beq h 3 then ([0, 1, 6, 7, 8], nilsOf (tyOf Try.prog) [(0, 60), (1, 63), (6, 28), (7, 3), (8, 3)]) else ([], [])
noncomputable def r38_X (sm : List Nat) : Fx := ⟨tyOf Try.prog, ofList rLib_57_60_58_39_35_36_37_76_59, sm, r38_live⟩
noncomputable def r38_s : Spec := .wide (wideOf (tyOf Try.prog) (coreRun r38_X (tyOf Try.prog) 20 Try.f38))
theorem r38_ok : SpecOk rE 38 r38_s := wide_of_self rE_ok (fun sm => ⟨fx_ok rLib_57_60_58_39_35_36_37_76_59_ok sm r38_live, rfl⟩) (by kernel_rfl) (by decide) (by rfl) 20
noncomputable def rLib_57_60_58_39_35_36_37_76_59_38 : List (Nat × Spec) := (38, r38_s) :: rLib_57_60_58_39_35_36_37_76_59
theorem rLib_57_60_58_39_35_36_37_76_59_38_ok : SpecsOk rE (ofList rLib_57_60_58_39_35_36_37_76_59_38) := .cons r38_ok rLib_57_60_58_39_35_36_37_76_59_ok
/-- The slots that are needed at the loops' heads of 'hamper/hamperlaw09.awake'. -/
noncomputable def f14_live : Nat → List Nat × List (Nat × TypeId) := fun h => ([], [])
noncomputable def f14_X : Fx := ⟨tyOf Try.prog, ofList rLib_57_60_58_39_35_36_37_76_59_38, [], f14_live⟩
theorem f14_eq (fu : Nat)  : evFun f14_X fu Try.f14 (frz f14_X.Ty Try.f14) [] [] [] = some (SV.bool true) := by kernel_rfl

end Sx

/-
  Layer 9: the examples; the table of what the law asks.
-/
set_option linter.unusedVariables false
namespace Sx
open Go Go.Proofs
def gAwake : List SV → Option (Bool × SV) | [] => some (true, .bool true) | _ => none
theorem f14_ok : SpecOk rE 14 (.plain gAwake) := by
  refine plain_of_run (fx_ok rLib_57_60_58_39_35_36_37_76_59_38_ok [] f14_live) (fn := Try.f14) (by kernel_rfl) (by decide) (by rfl) (fun args sv h => ?_)
  unfold gAwake at h
  split at h
  · cases h; exact ⟨rfl, rfl, _, f14_eq 100⟩
  · cases h
noncomputable def kT2 : List (Nat × Spec) := (14, .plain gAwake) :: (32, .wide (wideOf (tyOf Try.prog) k32)) :: kT1
theorem kT2_ok : SpecsOk rE (ofList kT2) := .cons f14_ok (.cons k32_ok kT1_ok)
end Sx

/-
  What the executor says of functions: the normal forms, each compared by the kernel. (Printed by a program.)
-/
set_option linter.unusedVariables false
namespace Sx
open Go Go.Proofs
set_option maxRecDepth 100000
/-- The slots that are needed at the loops' heads of 'hamper/canon.Put'. -/
noncomputable def f7_live : Nat → List Nat × List (Nat × TypeId) := fun h => ([], [])
noncomputable def f7_X (sm : List Nat) : Fx := ⟨tyOf Try.prog, ofList kT2, sm, f7_live⟩
def f7_T (codes : List SV) (s : Int) : Tr (SV × Mem) := Tr.br (decide (s < (0 : Int))) (Tr.leaf (SV.int IntKind.i64 (4 : Int), [((0 : Nat), SObj.box (54 : Nat) [SV.row (2 : Nat), SV.int IntKind.i64 (0 : Int)]), ((2 : Nat), SObj.row (5 : Nat) [])]))
  (Tr.br (decide (s ≥ (↑(List.length codes) : Int))) (Tr.leaf (SV.int IntKind.i64 (4 : Int), [((0 : Nat), SObj.box (54 : Nat) [SV.row (2 : Nat), SV.int IntKind.i64 (0 : Int)]), ((2 : Nat), SObj.row (5 : Nat) [])]))
    (Tr.br (decide ((0 : Int) ≤ s) && decide (s < (↑(List.length codes) : Int)))
      (Tr.br
        (asInt (List.getD (cellsOf (List.getD codes (Int.toNat s) SV.dead)) (0 : Nat) SV.dead) == (0 : Int) && (asInt (List.getD (cellsOf (List.getD codes (Int.toNat s) SV.dead)) (1 : Nat) SV.dead) == (0 : Int) && true))
        (Tr.leaf (SV.int IntKind.i64 (11 : Int), [((0 : Nat), SObj.box (54 : Nat) [SV.row (2 : Nat), SV.int IntKind.i64 (0 : Int)]), ((2 : Nat), SObj.row (5 : Nat) [])]))
        (Tr.br (decide (asInt (List.getD (cellsOf (List.getD codes (Int.toNat s) SV.dead)) (1 : Nat) SV.dead) < (1 : Int)))
          (Tr.leaf (SV.int IntKind.i64 (8 : Int), [((0 : Nat), SObj.box (54 : Nat) [SV.row (2 : Nat), SV.int IntKind.i64 (0 : Int)]), ((2 : Nat), SObj.row (5 : Nat) [])]))
          (Tr.br (decide (asInt (List.getD (cellsOf (List.getD codes (Int.toNat s) SV.dead)) (1 : Nat) SV.dead) > (15 : Int)))
            (Tr.leaf (SV.int IntKind.i64 (8 : Int), [((0 : Nat), SObj.box (54 : Nat) [SV.row (2 : Nat), SV.int IntKind.i64 (0 : Int)]), ((2 : Nat), SObj.row (5 : Nat) [])]))
            (Tr.br
              (decide ((0 : Int) ≤ asInt (List.getD (cellsOf (List.getD codes (Int.toNat s) SV.dead)) (0 : Nat) SV.dead)) &&
                Nat.ble (Int.toNat (asInt (List.getD (cellsOf (List.getD codes (Int.toNat s) SV.dead)) (0 : Nat) SV.dead))) (18446744073709551615 : Nat))
              (Tr.leaf
                (SV.int IntKind.i64
                    (rightI (asInt (List.getD (cellsOf (List.getD codes (Int.toNat s) SV.dead)) (0 : Nat) SV.dead)) (asInt (List.getD (cellsOf (List.getD codes (Int.toNat s) SV.dead)) (1 : Nat) SV.dead))),
                  [((0 : Nat),
                      SObj.box (54 : Nat)
                        [SV.row (2 : Nat),
                          SV.int IntKind.i64
                            (tN (asInt (List.getD (cellsOf (List.getD codes (Int.toNat s) SV.dead)) (0 : Nat) SV.dead)) (asInt (List.getD (cellsOf (List.getD codes (Int.toNat s) SV.dead)) (1 : Nat) SV.dead)))]),
                    ((2 : Nat),
                      SObj.row (5 : Nat)
                        (tL (asInt (List.getD (cellsOf (List.getD codes (Int.toNat s) SV.dead)) (0 : Nat) SV.dead)) (asInt (List.getD (cellsOf (List.getD codes (Int.toNat s) SV.dead)) (1 : Nat) SV.dead))))]))
              Tr.no))))
      Tr.no))
theorem f7_eq (fu : Nat) (codes : List SV) (s : Int) : evFun (f7_X [0]) fu Try.f7 (finW (tyOf Try.prog) [0] 2) [.box 0 0, .lst 30 codes, .int .i64 s] [(0, .box 54 [.row 1, .int .i64 0]), (1, .row 5 [])] [0, 1] = (f7_T codes s).opt := by kernel_rfl

def c7 : List SV → Mem → Tr (SV × Mem)
  | [.box 0 0, .lst 30 codes, .int .i64 s], [(0, .box 54 [.row 1, .int .i64 0]), (1, .row 5 [])] => squash (f7_T codes s)
  | _, _ => .no
theorem f7_ok : SpecOk rE 7 (.wide (wideOf (tyOf Try.prog) c7)) :=
  wide_of_sq rE_ok (fun sm => ⟨fx_ok kT2_ok sm f7_live, rfl⟩) (fn := Try.f7) (by kernel_rfl) (by decide) (by rfl) (fun args m => by
    unfold c7
    split
    · exact .inr ⟨0, _, rfl, f7_eq 0 _ _⟩
    · exact .inl rfl)

end Sx

/-
  Layer 9: 'canon.Put' into what is empty; the table with it.
-/
set_option linter.unusedVariables false
namespace Sx
open Go Go.Proofs

def cb (codes : List SV) (s : Int) : Int := asInt (List.getD (cellsOf (List.getD codes (Int.toNat s) SV.dead)) 0 SV.dead)
def cn (codes : List SV) (s : Int) : Int := asInt (List.getD (cellsOf (List.getD codes (Int.toNat s) SV.dead)) 1 SV.dead)
def okU (v : Int) : Bool := decide (0 ≤ v) && Nat.ble v.toNat 18446744073709551615
/-- The error, how many bits came, their octets. -/
def putW (codes : List SV) (s : Int) : Int × Int × List SV :=
  if s < 0 ∨ (codes.length : Int) ≤ s then (4, 0, []) else if cb codes s = 0 ∧ cn codes s = 0 then (11, 0, []) else if cn codes s < 1 ∨ 15 < cn codes s then (8, 0, [])
  else (rightI (cb codes s) (cn codes s), tN (cb codes s) (cn codes s), tL (cb codes s) (cn codes s))
def k7 : List SV → Mem → Tr (SV × Mem)
  | [.box 0 0, .lst 30 codes, .int .i64 s], [(0, .box 54 [.row 1, .int .i64 0]), (1, .row 5 [])] => .br (okU (cb codes s)) (.leaf (SV.int .i64 (putW codes s).1, [(0, SObj.box 54 [SV.row 2, SV.int .i64 (putW codes s).2.1]), (2, SObj.row 5 (putW codes s).2.2)])) .no
  | _, _ => .no
set_option maxRecDepth 100000 in
theorem k7_ok : SpecOk rE 7 (.wide (wideOf (tyOf Try.prog) k7)) := by
  refine wide_of_run rE_ok (fun sm => ⟨fx_ok kT2_ok sm f7_live, rfl⟩) (fn := Try.f7) (by kernel_rfl) (by decide) (by rfl) (fun args m x h => ?_)
  unfold k7 at h
  split at h
  · rename_i codes s
    simp only [pickA, cond_eq_ite] at h
    split at h
    · rename_i hc
      cases h
      refine ⟨0, ?_⟩
      show evFun (f7_X [0]) 0 Try.f7 (finW (tyOf Try.prog) [0] 2) [.box 0 0, .lst 30 codes, .int .i64 s] [(0, .box 54 [.row 1, .int .i64 0]), (1, .row 5 [])] [0, 1] = _
      rw [f7_eq]
      have hcb : asInt (List.getD (cellsOf (List.getD codes (Int.toNat s) SV.dead)) 0 SV.dead) = cb codes s := rfl
      have hcn : asInt (List.getD (cellsOf (List.getD codes (Int.toNat s) SV.dead)) 1 SV.dead) = cn codes s := rfl
      unfold f7_T
      simp only [hcb, hcn]
      have hU : (decide (0 ≤ cb codes s) && Nat.ble (cb codes s).toNat 18446744073709551615) = true := hc
      simp only [Tr.opt, hU, cond_true]
      unfold putW
      by_cases h1 : s < 0
      · simp [h1]
      · by_cases h2 : s ≥ (codes.length : Int)
        · have h2' : (codes.length : Int) ≤ s := h2
          simp [h1, h2']
        · have h2' : ¬ ((codes.length : Int) ≤ s) := h2
          have h3 : 0 ≤ s := by omega
          have h4 : s < (codes.length : Int) := by omega
          have hor : ¬ (s < 0 ∨ (codes.length : Int) ≤ s) := by omega
          rw [if_neg hor]
          simp only [h1, h2, h3, h4, decide_true, decide_false, cond_true, cond_false, Bool.and_self, Bool.and_true]
          by_cases h5 : cb codes s = 0 ∧ cn codes s = 0
          · rw [if_pos h5]
            simp [h5.1, h5.2]
          · have b5 : (cb codes s == 0 && cn codes s == 0) = false := by
              rw [Bool.eq_false_iff]; intro q; simp only [Bool.and_eq_true, beq_iff_eq] at q; exact h5 q
            rw [if_neg h5]
            simp only [b5, cond_false]
            by_cases h6 : cn codes s < 1
            · simp [h6]
            · by_cases h7 : cn codes s > 15
              · have h7' : 15 < cn codes s := h7
                simp [h6, h7']
              · have h7' : ¬ (15 < cn codes s) := h7
                have hor2 : ¬ (cn codes s < 1 ∨ 15 < cn codes s) := by omega
                rw [if_neg hor2]
                simp only [h6, h7, decide_false, cond_false]
    · cases h
  · cases h
noncomputable def kT3 : List (Nat × Spec) := (7, .wide (wideOf (tyOf Try.prog) k7)) :: kT2
theorem kT3_ok : SpecsOk rE (ofList kT3) := .cons k7_ok kT2_ok
end Sx

/-
  What the executor says of functions: the normal forms, each compared by the kernel. (Printed by a program.)
-/
set_option linter.unusedVariables false
namespace Sx
open Go Go.Proofs
set_option maxRecDepth 100000
/-- The slots that are needed at the loops' heads of 'hamper/hamperlaw09.CanonPuts'. -/
noncomputable def f3_live : Nat → List Nat × List (Nat × TypeId) := fun h => ([], [])
noncomputable def f3_X : Fx := ⟨tyOf Try.prog, ofList kT3, [], f3_live⟩
theorem f3_eq (fu : Nat) (l : List SV) (s : Int) : evFun f3_X fu Try.f3 (frz f3_X.Ty Try.f3) [.lst 30 l, .int .i64 s] [] [] = bif decide ((↑(List.length l) : Int) > (330 : Int)) then
  bif decide ((330 : Int) ≤ (↑(List.length l) : Int)) && true then
    bif okU (cb (List.drop (0 : Nat) (List.take (330 : Nat) l)) s) then
      bif decide (s < (0 : Int)) then
        bif (putW (List.drop (0 : Nat) (List.take (330 : Nat) l)) s).fst == (4 : Int) then
          bif (putW (List.drop (0 : Nat) (List.take (330 : Nat) l)) s).snd.fst == (↑(0 : Nat) : Int) then
            bif
                decide (((0 : Nat) + List.length (putW (List.drop (0 : Nat) (List.take (330 : Nat) l)) s).snd.snd) * (1 : Nat) ≤ (140737488355328 : Nat)) &&
                    decide ((0 : Nat) + List.length (putW (List.drop (0 : Nat) (List.take (330 : Nat) l)) s).snd.snd ≤ (9223372036854775807 : Nat)) &&
                  true then
              bif ByteArray.toList (strOf ([] ++ (putW (List.drop (0 : Nat) (List.take (330 : Nat) l)) s).snd.snd)) == ByteArray.toList (bytesB []) then some (SV.bool true) else some (SV.bool false)
            else none
          else some (SV.bool false)
        else some (SV.bool false)
      else
        bif decide (s ≥ (↑(List.length (List.drop (0 : Nat) (List.take (330 : Nat) l))) : Int)) then
          bif (putW (List.drop (0 : Nat) (List.take (330 : Nat) l)) s).fst == (4 : Int) then
            bif (putW (List.drop (0 : Nat) (List.take (330 : Nat) l)) s).snd.fst == (↑(0 : Nat) : Int) then
              bif
                  decide (((0 : Nat) + List.length (putW (List.drop (0 : Nat) (List.take (330 : Nat) l)) s).snd.snd) * (1 : Nat) ≤ (140737488355328 : Nat)) &&
                      decide ((0 : Nat) + List.length (putW (List.drop (0 : Nat) (List.take (330 : Nat) l)) s).snd.snd ≤ (9223372036854775807 : Nat)) &&
                    true then
                bif ByteArray.toList (strOf ([] ++ (putW (List.drop (0 : Nat) (List.take (330 : Nat) l)) s).snd.snd)) == ByteArray.toList (bytesB []) then some (SV.bool true) else some (SV.bool false)
              else none
            else some (SV.bool false)
          else some (SV.bool false)
        else
          bif decide ((0 : Int) ≤ s) && decide (s < (↑(List.length (List.drop (0 : Nat) (List.take (330 : Nat) l))) : Int)) then
            bif asInt (List.getD (cellsOf (List.getD (List.drop (0 : Nat) (List.take (330 : Nat) l)) (Int.toNat s) SV.dead)) (0 : Nat) SV.dead) == (0 : Int) then
              bif asInt (List.getD (cellsOf (List.getD (List.drop (0 : Nat) (List.take (330 : Nat) l)) (Int.toNat s) SV.dead)) (1 : Nat) SV.dead) == (0 : Int) then
                bif (putW (List.drop (0 : Nat) (List.take (330 : Nat) l)) s).fst == (11 : Int) then
                  bif (putW (List.drop (0 : Nat) (List.take (330 : Nat) l)) s).snd.fst == (↑(0 : Nat) : Int) then
                    bif
                        decide (((0 : Nat) + List.length (putW (List.drop (0 : Nat) (List.take (330 : Nat) l)) s).snd.snd) * (1 : Nat) ≤ (140737488355328 : Nat)) &&
                            decide ((0 : Nat) + List.length (putW (List.drop (0 : Nat) (List.take (330 : Nat) l)) s).snd.snd ≤ (9223372036854775807 : Nat)) &&
                          true then
                      bif ByteArray.toList (strOf ([] ++ (putW (List.drop (0 : Nat) (List.take (330 : Nat) l)) s).snd.snd)) == ByteArray.toList (bytesB []) then some (SV.bool true) else some (SV.bool false)
                    else none
                  else some (SV.bool false)
                else some (SV.bool false)
              else
                bif decide (asInt (List.getD (cellsOf (List.getD (List.drop (0 : Nat) (List.take (330 : Nat) l)) (Int.toNat s) SV.dead)) (1 : Nat) SV.dead) < (1 : Int)) then
                  bif (putW (List.drop (0 : Nat) (List.take (330 : Nat) l)) s).fst == (8 : Int) then
                    bif (putW (List.drop (0 : Nat) (List.take (330 : Nat) l)) s).snd.fst == (↑(0 : Nat) : Int) then
                      bif
                          decide (((0 : Nat) + List.length (putW (List.drop (0 : Nat) (List.take (330 : Nat) l)) s).snd.snd) * (1 : Nat) ≤ (140737488355328 : Nat)) &&
                              decide ((0 : Nat) + List.length (putW (List.drop (0 : Nat) (List.take (330 : Nat) l)) s).snd.snd ≤ (9223372036854775807 : Nat)) &&
                            true then
                        bif ByteArray.toList (strOf ([] ++ (putW (List.drop (0 : Nat) (List.take (330 : Nat) l)) s).snd.snd)) == ByteArray.toList (bytesB []) then some (SV.bool true) else some (SV.bool false)
                      else none
                    else some (SV.bool false)
                  else some (SV.bool false)
                else
                  bif decide (asInt (List.getD (cellsOf (List.getD (List.drop (0 : Nat) (List.take (330 : Nat) l)) (Int.toNat s) SV.dead)) (1 : Nat) SV.dead) > (15 : Int)) then
                    bif (putW (List.drop (0 : Nat) (List.take (330 : Nat) l)) s).fst == (8 : Int) then
                      bif (putW (List.drop (0 : Nat) (List.take (330 : Nat) l)) s).snd.fst == (↑(0 : Nat) : Int) then
                        bif
                            decide (((0 : Nat) + List.length (putW (List.drop (0 : Nat) (List.take (330 : Nat) l)) s).snd.snd) * (1 : Nat) ≤ (140737488355328 : Nat)) &&
                                decide ((0 : Nat) + List.length (putW (List.drop (0 : Nat) (List.take (330 : Nat) l)) s).snd.snd ≤ (9223372036854775807 : Nat)) &&
                              true then
                          bif ByteArray.toList (strOf ([] ++ (putW (List.drop (0 : Nat) (List.take (330 : Nat) l)) s).snd.snd)) == ByteArray.toList (bytesB []) then some (SV.bool true) else some (SV.bool false)
                        else none
                      else some (SV.bool false)
                    else some (SV.bool false)
                  else
                    bif
                        decide ((0 : Int) ≤ asInt (List.getD (cellsOf (List.getD (List.drop (0 : Nat) (List.take (330 : Nat) l)) (Int.toNat s) SV.dead)) (0 : Nat) SV.dead)) &&
                              Nat.ble (Int.toNat (asInt (List.getD (cellsOf (List.getD (List.drop (0 : Nat) (List.take (330 : Nat) l)) (Int.toNat s) SV.dead)) (0 : Nat) SV.dead))) (18446744073709551615 : Nat) &&
                            decide ((0 : Int) ≤ asInt (List.getD (cellsOf (List.getD (List.drop (0 : Nat) (List.take (330 : Nat) l)) (Int.toNat s) SV.dead)) (1 : Nat) SV.dead)) &&
                          decide (asInt (List.getD (cellsOf (List.getD (List.drop (0 : Nat) (List.take (330 : Nat) l)) (Int.toNat s) SV.dead)) (1 : Nat) SV.dead) ≤ (64 : Int)) then
                      bif
                          !Int.toNat (asInt (List.getD (cellsOf (List.getD (List.drop (0 : Nat) (List.take (330 : Nat) l)) (Int.toNat s) SV.dead)) (0 : Nat) SV.dead)) >>>
                                Int.toNat (asInt (List.getD (cellsOf (List.getD (List.drop (0 : Nat) (List.take (330 : Nat) l)) (Int.toNat s) SV.dead)) (1 : Nat) SV.dead)) ==
                              (0 : Nat) then
                        bif (putW (List.drop (0 : Nat) (List.take (330 : Nat) l)) s).fst == (8 : Int) then
                          bif (putW (List.drop (0 : Nat) (List.take (330 : Nat) l)) s).snd.fst == (↑(0 : Nat) : Int) then
                            bif
                                decide (((0 : Nat) + List.length (putW (List.drop (0 : Nat) (List.take (330 : Nat) l)) s).snd.snd) * (1 : Nat) ≤ (140737488355328 : Nat)) &&
                                    decide ((0 : Nat) + List.length (putW (List.drop (0 : Nat) (List.take (330 : Nat) l)) s).snd.snd ≤ (9223372036854775807 : Nat)) &&
                                  true then
                              bif ByteArray.toList (strOf ([] ++ (putW (List.drop (0 : Nat) (List.take (330 : Nat) l)) s).snd.snd)) == ByteArray.toList (bytesB []) then some (SV.bool true) else some (SV.bool false)
                            else none
                          else some (SV.bool false)
                        else some (SV.bool false)
                      else
                        bif
                            decide ((0 : Int) ≤ asInt (List.getD (cellsOf (List.getD (List.drop (0 : Nat) (List.take (330 : Nat) l)) (Int.toNat s) SV.dead)) (0 : Nat) SV.dead)) &&
                                  Nat.ble (Int.toNat (asInt (List.getD (cellsOf (List.getD (List.drop (0 : Nat) (List.take (330 : Nat) l)) (Int.toNat s) SV.dead)) (0 : Nat) SV.dead))) (18446744073709551615 : Nat) &&
                                decide ((0 : Int) ≤ asInt (List.getD (cellsOf (List.getD (List.drop (0 : Nat) (List.take (330 : Nat) l)) (Int.toNat s) SV.dead)) (1 : Nat) SV.dead)) &&
                              decide (asInt (List.getD (cellsOf (List.getD (List.drop (0 : Nat) (List.take (330 : Nat) l)) (Int.toNat s) SV.dead)) (1 : Nat) SV.dead) ≤ (64 : Int)) then
                          bif
                              List.all
                                  (bitsL (Int.toNat (asInt (List.getD (cellsOf (List.getD (List.drop (0 : Nat) (List.take (330 : Nat) l)) (Int.toNat s) SV.dead)) (0 : Nat) SV.dead)))
                                    (Int.toNat (asInt (List.getD (cellsOf (List.getD (List.drop (0 : Nat) (List.take (330 : Nat) l)) (Int.toNat s) SV.dead)) (1 : Nat) SV.dead))))
                                  isB &&
                                Nat.ble
                                  (List.length
                                    (bitsL (Int.toNat (asInt (List.getD (cellsOf (List.getD (List.drop (0 : Nat) (List.take (330 : Nat) l)) (Int.toNat s) SV.dead)) (0 : Nat) SV.dead)))
                                      (Int.toNat (asInt (List.getD (cellsOf (List.getD (List.drop (0 : Nat) (List.take (330 : Nat) l)) (Int.toNat s) SV.dead)) (1 : Nat) SV.dead)))))
                                  (1000 : Nat) then
                            bif (putW (List.drop (0 : Nat) (List.take (330 : Nat) l)) s).fst == (0 : Int) then
                              bif
                                  (putW (List.drop (0 : Nat) (List.take (330 : Nat) l)) s).snd.fst ==
                                    (↑(List.length
                                          (List.reverse
                                            (bitsL (Int.toNat (asInt (List.getD (cellsOf (List.getD (List.drop (0 : Nat) (List.take (330 : Nat) l)) (Int.toNat s) SV.dead)) (0 : Nat) SV.dead)))
                                              (Int.toNat (asInt (List.getD (cellsOf (List.getD (List.drop (0 : Nat) (List.take (330 : Nat) l)) (Int.toNat s) SV.dead)) (1 : Nat) SV.dead)))))) :
                                      Int) then
                                bif
                                    decide (((0 : Nat) + List.length (putW (List.drop (0 : Nat) (List.take (330 : Nat) l)) s).snd.snd) * (1 : Nat) ≤ (140737488355328 : Nat)) &&
                                        decide ((0 : Nat) + List.length (putW (List.drop (0 : Nat) (List.take (330 : Nat) l)) s).snd.snd ≤ (9223372036854775807 : Nat)) &&
                                      true then
                                  bif
                                      List.all
                                          (List.reverse
                                            (bitsL (Int.toNat (asInt (List.getD (cellsOf (List.getD (List.drop (0 : Nat) (List.take (330 : Nat) l)) (Int.toNat s) SV.dead)) (0 : Nat) SV.dead)))
                                              (Int.toNat (asInt (List.getD (cellsOf (List.getD (List.drop (0 : Nat) (List.take (330 : Nat) l)) (Int.toNat s) SV.dead)) (1 : Nat) SV.dead)))))
                                          isB &&
                                        Nat.ble
                                          (List.length
                                            (List.reverse
                                              (bitsL (Int.toNat (asInt (List.getD (cellsOf (List.getD (List.drop (0 : Nat) (List.take (330 : Nat) l)) (Int.toNat s) SV.dead)) (0 : Nat) SV.dead)))
                                                (Int.toNat (asInt (List.getD (cellsOf (List.getD (List.drop (0 : Nat) (List.take (330 : Nat) l)) (Int.toNat s) SV.dead)) (1 : Nat) SV.dead))))))
                                          (1000 : Nat) then
                                    bif
                                        ByteArray.toList (strOf ([] ++ (putW (List.drop (0 : Nat) (List.take (330 : Nat) l)) s).snd.snd)) ==
                                          ByteArray.toList
                                            (bytesB
                                              (List.reverse
                                                (bitsL (Int.toNat (asInt (List.getD (cellsOf (List.getD (List.drop (0 : Nat) (List.take (330 : Nat) l)) (Int.toNat s) SV.dead)) (0 : Nat) SV.dead)))
                                                  (Int.toNat (asInt (List.getD (cellsOf (List.getD (List.drop (0 : Nat) (List.take (330 : Nat) l)) (Int.toNat s) SV.dead)) (1 : Nat) SV.dead)))))) then
                                      some (SV.bool true)
                                    else some (SV.bool false)
                                  else none
                                else none
                              else some (SV.bool false)
                            else some (SV.bool false)
                          else none
                        else none
                    else none
            else
              bif decide (asInt (List.getD (cellsOf (List.getD (List.drop (0 : Nat) (List.take (330 : Nat) l)) (Int.toNat s) SV.dead)) (1 : Nat) SV.dead) < (1 : Int)) then
                bif (putW (List.drop (0 : Nat) (List.take (330 : Nat) l)) s).fst == (8 : Int) then
                  bif (putW (List.drop (0 : Nat) (List.take (330 : Nat) l)) s).snd.fst == (↑(0 : Nat) : Int) then
                    bif
                        decide (((0 : Nat) + List.length (putW (List.drop (0 : Nat) (List.take (330 : Nat) l)) s).snd.snd) * (1 : Nat) ≤ (140737488355328 : Nat)) &&
                            decide ((0 : Nat) + List.length (putW (List.drop (0 : Nat) (List.take (330 : Nat) l)) s).snd.snd ≤ (9223372036854775807 : Nat)) &&
                          true then
                      bif ByteArray.toList (strOf ([] ++ (putW (List.drop (0 : Nat) (List.take (330 : Nat) l)) s).snd.snd)) == ByteArray.toList (bytesB []) then some (SV.bool true) else some (SV.bool false)
                    else none
                  else some (SV.bool false)
                else some (SV.bool false)
              else
                bif decide (asInt (List.getD (cellsOf (List.getD (List.drop (0 : Nat) (List.take (330 : Nat) l)) (Int.toNat s) SV.dead)) (1 : Nat) SV.dead) > (15 : Int)) then
                  bif (putW (List.drop (0 : Nat) (List.take (330 : Nat) l)) s).fst == (8 : Int) then
                    bif (putW (List.drop (0 : Nat) (List.take (330 : Nat) l)) s).snd.fst == (↑(0 : Nat) : Int) then
                      bif
                          decide (((0 : Nat) + List.length (putW (List.drop (0 : Nat) (List.take (330 : Nat) l)) s).snd.snd) * (1 : Nat) ≤ (140737488355328 : Nat)) &&
                              decide ((0 : Nat) + List.length (putW (List.drop (0 : Nat) (List.take (330 : Nat) l)) s).snd.snd ≤ (9223372036854775807 : Nat)) &&
                            true then
                        bif ByteArray.toList (strOf ([] ++ (putW (List.drop (0 : Nat) (List.take (330 : Nat) l)) s).snd.snd)) == ByteArray.toList (bytesB []) then some (SV.bool true) else some (SV.bool false)
                      else none
                    else some (SV.bool false)
                  else some (SV.bool false)
                else
                  bif
                      decide ((0 : Int) ≤ asInt (List.getD (cellsOf (List.getD (List.drop (0 : Nat) (List.take (330 : Nat) l)) (Int.toNat s) SV.dead)) (0 : Nat) SV.dead)) &&
                            Nat.ble (Int.toNat (asInt (List.getD (cellsOf (List.getD (List.drop (0 : Nat) (List.take (330 : Nat) l)) (Int.toNat s) SV.dead)) (0 : Nat) SV.dead))) (18446744073709551615 : Nat) &&
                          decide ((0 : Int) ≤ asInt (List.getD (cellsOf (List.getD (List.drop (0 : Nat) (List.take (330 : Nat) l)) (Int.toNat s) SV.dead)) (1 : Nat) SV.dead)) &&
                        decide (asInt (List.getD (cellsOf (List.getD (List.drop (0 : Nat) (List.take (330 : Nat) l)) (Int.toNat s) SV.dead)) (1 : Nat) SV.dead) ≤ (64 : Int)) then
                    bif
                        !Int.toNat (asInt (List.getD (cellsOf (List.getD (List.drop (0 : Nat) (List.take (330 : Nat) l)) (Int.toNat s) SV.dead)) (0 : Nat) SV.dead)) >>>
                              Int.toNat (asInt (List.getD (cellsOf (List.getD (List.drop (0 : Nat) (List.take (330 : Nat) l)) (Int.toNat s) SV.dead)) (1 : Nat) SV.dead)) ==
                            (0 : Nat) then
                      bif (putW (List.drop (0 : Nat) (List.take (330 : Nat) l)) s).fst == (8 : Int) then
                        bif (putW (List.drop (0 : Nat) (List.take (330 : Nat) l)) s).snd.fst == (↑(0 : Nat) : Int) then
                          bif
                              decide (((0 : Nat) + List.length (putW (List.drop (0 : Nat) (List.take (330 : Nat) l)) s).snd.snd) * (1 : Nat) ≤ (140737488355328 : Nat)) &&
                                  decide ((0 : Nat) + List.length (putW (List.drop (0 : Nat) (List.take (330 : Nat) l)) s).snd.snd ≤ (9223372036854775807 : Nat)) &&
                                true then
                            bif ByteArray.toList (strOf ([] ++ (putW (List.drop (0 : Nat) (List.take (330 : Nat) l)) s).snd.snd)) == ByteArray.toList (bytesB []) then some (SV.bool true) else some (SV.bool false)
                          else none
                        else some (SV.bool false)
                      else some (SV.bool false)
                    else
                      bif
                          decide ((0 : Int) ≤ asInt (List.getD (cellsOf (List.getD (List.drop (0 : Nat) (List.take (330 : Nat) l)) (Int.toNat s) SV.dead)) (0 : Nat) SV.dead)) &&
                                Nat.ble (Int.toNat (asInt (List.getD (cellsOf (List.getD (List.drop (0 : Nat) (List.take (330 : Nat) l)) (Int.toNat s) SV.dead)) (0 : Nat) SV.dead))) (18446744073709551615 : Nat) &&
                              decide ((0 : Int) ≤ asInt (List.getD (cellsOf (List.getD (List.drop (0 : Nat) (List.take (330 : Nat) l)) (Int.toNat s) SV.dead)) (1 : Nat) SV.dead)) &&
                            decide (asInt (List.getD (cellsOf (List.getD (List.drop (0 : Nat) (List.take (330 : Nat) l)) (Int.toNat s) SV.dead)) (1 : Nat) SV.dead) ≤ (64 : Int)) then
                        bif
                            List.all
                                (bitsL (Int.toNat (asInt (List.getD (cellsOf (List.getD (List.drop (0 : Nat) (List.take (330 : Nat) l)) (Int.toNat s) SV.dead)) (0 : Nat) SV.dead)))
                                  (Int.toNat (asInt (List.getD (cellsOf (List.getD (List.drop (0 : Nat) (List.take (330 : Nat) l)) (Int.toNat s) SV.dead)) (1 : Nat) SV.dead))))
                                isB &&
                              Nat.ble
                                (List.length
                                  (bitsL (Int.toNat (asInt (List.getD (cellsOf (List.getD (List.drop (0 : Nat) (List.take (330 : Nat) l)) (Int.toNat s) SV.dead)) (0 : Nat) SV.dead)))
                                    (Int.toNat (asInt (List.getD (cellsOf (List.getD (List.drop (0 : Nat) (List.take (330 : Nat) l)) (Int.toNat s) SV.dead)) (1 : Nat) SV.dead)))))
                                (1000 : Nat) then
                          bif (putW (List.drop (0 : Nat) (List.take (330 : Nat) l)) s).fst == (0 : Int) then
                            bif
                                (putW (List.drop (0 : Nat) (List.take (330 : Nat) l)) s).snd.fst ==
                                  (↑(List.length
                                        (List.reverse
                                          (bitsL (Int.toNat (asInt (List.getD (cellsOf (List.getD (List.drop (0 : Nat) (List.take (330 : Nat) l)) (Int.toNat s) SV.dead)) (0 : Nat) SV.dead)))
                                            (Int.toNat (asInt (List.getD (cellsOf (List.getD (List.drop (0 : Nat) (List.take (330 : Nat) l)) (Int.toNat s) SV.dead)) (1 : Nat) SV.dead)))))) :
                                    Int) then
                              bif
                                  decide (((0 : Nat) + List.length (putW (List.drop (0 : Nat) (List.take (330 : Nat) l)) s).snd.snd) * (1 : Nat) ≤ (140737488355328 : Nat)) &&
                                      decide ((0 : Nat) + List.length (putW (List.drop (0 : Nat) (List.take (330 : Nat) l)) s).snd.snd ≤ (9223372036854775807 : Nat)) &&
                                    true then
                                bif
                                    List.all
                                        (List.reverse
                                          (bitsL (Int.toNat (asInt (List.getD (cellsOf (List.getD (List.drop (0 : Nat) (List.take (330 : Nat) l)) (Int.toNat s) SV.dead)) (0 : Nat) SV.dead)))
                                            (Int.toNat (asInt (List.getD (cellsOf (List.getD (List.drop (0 : Nat) (List.take (330 : Nat) l)) (Int.toNat s) SV.dead)) (1 : Nat) SV.dead)))))
                                        isB &&
                                      Nat.ble
                                        (List.length
                                          (List.reverse
                                            (bitsL (Int.toNat (asInt (List.getD (cellsOf (List.getD (List.drop (0 : Nat) (List.take (330 : Nat) l)) (Int.toNat s) SV.dead)) (0 : Nat) SV.dead)))
                                              (Int.toNat (asInt (List.getD (cellsOf (List.getD (List.drop (0 : Nat) (List.take (330 : Nat) l)) (Int.toNat s) SV.dead)) (1 : Nat) SV.dead))))))
                                        (1000 : Nat) then
                                  bif
                                      ByteArray.toList (strOf ([] ++ (putW (List.drop (0 : Nat) (List.take (330 : Nat) l)) s).snd.snd)) ==
                                        ByteArray.toList
                                          (bytesB
                                            (List.reverse
                                              (bitsL (Int.toNat (asInt (List.getD (cellsOf (List.getD (List.drop (0 : Nat) (List.take (330 : Nat) l)) (Int.toNat s) SV.dead)) (0 : Nat) SV.dead)))
                                                (Int.toNat (asInt (List.getD (cellsOf (List.getD (List.drop (0 : Nat) (List.take (330 : Nat) l)) (Int.toNat s) SV.dead)) (1 : Nat) SV.dead)))))) then
                                    some (SV.bool true)
                                  else some (SV.bool false)
                                else none
                              else none
                            else some (SV.bool false)
                          else some (SV.bool false)
                        else none
                      else none
                  else none
          else none
    else none
  else none
  else
  bif okU (cb l s) then
    bif decide (s < (0 : Int)) then
      bif (putW l s).fst == (4 : Int) then
        bif (putW l s).snd.fst == (↑(0 : Nat) : Int) then
          bif decide (((0 : Nat) + List.length (putW l s).snd.snd) * (1 : Nat) ≤ (140737488355328 : Nat)) && decide ((0 : Nat) + List.length (putW l s).snd.snd ≤ (9223372036854775807 : Nat)) && true then
            bif ByteArray.toList (strOf ([] ++ (putW l s).snd.snd)) == ByteArray.toList (bytesB []) then some (SV.bool true) else some (SV.bool false)
          else none
        else some (SV.bool false)
      else some (SV.bool false)
    else
      bif decide (s ≥ (↑(List.length l) : Int)) then
        bif (putW l s).fst == (4 : Int) then
          bif (putW l s).snd.fst == (↑(0 : Nat) : Int) then
            bif decide (((0 : Nat) + List.length (putW l s).snd.snd) * (1 : Nat) ≤ (140737488355328 : Nat)) && decide ((0 : Nat) + List.length (putW l s).snd.snd ≤ (9223372036854775807 : Nat)) && true then
              bif ByteArray.toList (strOf ([] ++ (putW l s).snd.snd)) == ByteArray.toList (bytesB []) then some (SV.bool true) else some (SV.bool false)
            else none
          else some (SV.bool false)
        else some (SV.bool false)
      else
        bif decide ((0 : Int) ≤ s) && decide (s < (↑(List.length l) : Int)) then
          bif asInt (List.getD (cellsOf (List.getD l (Int.toNat s) SV.dead)) (0 : Nat) SV.dead) == (0 : Int) then
            bif asInt (List.getD (cellsOf (List.getD l (Int.toNat s) SV.dead)) (1 : Nat) SV.dead) == (0 : Int) then
              bif (putW l s).fst == (11 : Int) then
                bif (putW l s).snd.fst == (↑(0 : Nat) : Int) then
                  bif decide (((0 : Nat) + List.length (putW l s).snd.snd) * (1 : Nat) ≤ (140737488355328 : Nat)) && decide ((0 : Nat) + List.length (putW l s).snd.snd ≤ (9223372036854775807 : Nat)) && true then
                    bif ByteArray.toList (strOf ([] ++ (putW l s).snd.snd)) == ByteArray.toList (bytesB []) then some (SV.bool true) else some (SV.bool false)
                  else none
                else some (SV.bool false)
              else some (SV.bool false)
            else
              bif decide (asInt (List.getD (cellsOf (List.getD l (Int.toNat s) SV.dead)) (1 : Nat) SV.dead) < (1 : Int)) then
                bif (putW l s).fst == (8 : Int) then
                  bif (putW l s).snd.fst == (↑(0 : Nat) : Int) then
                    bif decide (((0 : Nat) + List.length (putW l s).snd.snd) * (1 : Nat) ≤ (140737488355328 : Nat)) && decide ((0 : Nat) + List.length (putW l s).snd.snd ≤ (9223372036854775807 : Nat)) && true then
                      bif ByteArray.toList (strOf ([] ++ (putW l s).snd.snd)) == ByteArray.toList (bytesB []) then some (SV.bool true) else some (SV.bool false)
                    else none
                  else some (SV.bool false)
                else some (SV.bool false)
              else
                bif decide (asInt (List.getD (cellsOf (List.getD l (Int.toNat s) SV.dead)) (1 : Nat) SV.dead) > (15 : Int)) then
                  bif (putW l s).fst == (8 : Int) then
                    bif (putW l s).snd.fst == (↑(0 : Nat) : Int) then
                      bif decide (((0 : Nat) + List.length (putW l s).snd.snd) * (1 : Nat) ≤ (140737488355328 : Nat)) && decide ((0 : Nat) + List.length (putW l s).snd.snd ≤ (9223372036854775807 : Nat)) && true then
                        bif ByteArray.toList (strOf ([] ++ (putW l s).snd.snd)) == ByteArray.toList (bytesB []) then some (SV.bool true) else some (SV.bool false)
                      else none
                    else some (SV.bool false)
                  else some (SV.bool false)
                else
                  bif
                      decide ((0 : Int) ≤ asInt (List.getD (cellsOf (List.getD l (Int.toNat s) SV.dead)) (0 : Nat) SV.dead)) &&
                            Nat.ble (Int.toNat (asInt (List.getD (cellsOf (List.getD l (Int.toNat s) SV.dead)) (0 : Nat) SV.dead))) (18446744073709551615 : Nat) &&
                          decide ((0 : Int) ≤ asInt (List.getD (cellsOf (List.getD l (Int.toNat s) SV.dead)) (1 : Nat) SV.dead)) &&
                        decide (asInt (List.getD (cellsOf (List.getD l (Int.toNat s) SV.dead)) (1 : Nat) SV.dead) ≤ (64 : Int)) then
                    bif
                        !Int.toNat (asInt (List.getD (cellsOf (List.getD l (Int.toNat s) SV.dead)) (0 : Nat) SV.dead)) >>> Int.toNat (asInt (List.getD (cellsOf (List.getD l (Int.toNat s) SV.dead)) (1 : Nat) SV.dead)) ==
                            (0 : Nat) then
                      bif (putW l s).fst == (8 : Int) then
                        bif (putW l s).snd.fst == (↑(0 : Nat) : Int) then
                          bif decide (((0 : Nat) + List.length (putW l s).snd.snd) * (1 : Nat) ≤ (140737488355328 : Nat)) && decide ((0 : Nat) + List.length (putW l s).snd.snd ≤ (9223372036854775807 : Nat)) && true then
                            bif ByteArray.toList (strOf ([] ++ (putW l s).snd.snd)) == ByteArray.toList (bytesB []) then some (SV.bool true) else some (SV.bool false)
                          else none
                        else some (SV.bool false)
                      else some (SV.bool false)
                    else
                      bif
                          decide ((0 : Int) ≤ asInt (List.getD (cellsOf (List.getD l (Int.toNat s) SV.dead)) (0 : Nat) SV.dead)) &&
                                Nat.ble (Int.toNat (asInt (List.getD (cellsOf (List.getD l (Int.toNat s) SV.dead)) (0 : Nat) SV.dead))) (18446744073709551615 : Nat) &&
                              decide ((0 : Int) ≤ asInt (List.getD (cellsOf (List.getD l (Int.toNat s) SV.dead)) (1 : Nat) SV.dead)) &&
                            decide (asInt (List.getD (cellsOf (List.getD l (Int.toNat s) SV.dead)) (1 : Nat) SV.dead) ≤ (64 : Int)) then
                        bif
                            List.all
                                (bitsL (Int.toNat (asInt (List.getD (cellsOf (List.getD l (Int.toNat s) SV.dead)) (0 : Nat) SV.dead)))
                                  (Int.toNat (asInt (List.getD (cellsOf (List.getD l (Int.toNat s) SV.dead)) (1 : Nat) SV.dead))))
                                isB &&
                              Nat.ble
                                (List.length
                                  (bitsL (Int.toNat (asInt (List.getD (cellsOf (List.getD l (Int.toNat s) SV.dead)) (0 : Nat) SV.dead)))
                                    (Int.toNat (asInt (List.getD (cellsOf (List.getD l (Int.toNat s) SV.dead)) (1 : Nat) SV.dead)))))
                                (1000 : Nat) then
                          bif (putW l s).fst == (0 : Int) then
                            bif
                                (putW l s).snd.fst ==
                                  (↑(List.length
                                        (List.reverse
                                          (bitsL (Int.toNat (asInt (List.getD (cellsOf (List.getD l (Int.toNat s) SV.dead)) (0 : Nat) SV.dead)))
                                            (Int.toNat (asInt (List.getD (cellsOf (List.getD l (Int.toNat s) SV.dead)) (1 : Nat) SV.dead)))))) :
                                    Int) then
                              bif
                                  decide (((0 : Nat) + List.length (putW l s).snd.snd) * (1 : Nat) ≤ (140737488355328 : Nat)) && decide ((0 : Nat) + List.length (putW l s).snd.snd ≤ (9223372036854775807 : Nat)) &&
                                    true then
                                bif
                                    List.all
                                        (List.reverse
                                          (bitsL (Int.toNat (asInt (List.getD (cellsOf (List.getD l (Int.toNat s) SV.dead)) (0 : Nat) SV.dead)))
                                            (Int.toNat (asInt (List.getD (cellsOf (List.getD l (Int.toNat s) SV.dead)) (1 : Nat) SV.dead)))))
                                        isB &&
                                      Nat.ble
                                        (List.length
                                          (List.reverse
                                            (bitsL (Int.toNat (asInt (List.getD (cellsOf (List.getD l (Int.toNat s) SV.dead)) (0 : Nat) SV.dead)))
                                              (Int.toNat (asInt (List.getD (cellsOf (List.getD l (Int.toNat s) SV.dead)) (1 : Nat) SV.dead))))))
                                        (1000 : Nat) then
                                  bif
                                      ByteArray.toList (strOf ([] ++ (putW l s).snd.snd)) ==
                                        ByteArray.toList
                                          (bytesB
                                            (List.reverse
                                              (bitsL (Int.toNat (asInt (List.getD (cellsOf (List.getD l (Int.toNat s) SV.dead)) (0 : Nat) SV.dead)))
                                                (Int.toNat (asInt (List.getD (cellsOf (List.getD l (Int.toNat s) SV.dead)) (1 : Nat) SV.dead)))))) then
                                    some (SV.bool true)
                                  else some (SV.bool false)
                                else none
                              else none
                            else some (SV.bool false)
                          else some (SV.bool false)
                        else none
                      else none
                  else none
          else
            bif decide (asInt (List.getD (cellsOf (List.getD l (Int.toNat s) SV.dead)) (1 : Nat) SV.dead) < (1 : Int)) then
              bif (putW l s).fst == (8 : Int) then
                bif (putW l s).snd.fst == (↑(0 : Nat) : Int) then
                  bif decide (((0 : Nat) + List.length (putW l s).snd.snd) * (1 : Nat) ≤ (140737488355328 : Nat)) && decide ((0 : Nat) + List.length (putW l s).snd.snd ≤ (9223372036854775807 : Nat)) && true then
                    bif ByteArray.toList (strOf ([] ++ (putW l s).snd.snd)) == ByteArray.toList (bytesB []) then some (SV.bool true) else some (SV.bool false)
                  else none
                else some (SV.bool false)
              else some (SV.bool false)
            else
              bif decide (asInt (List.getD (cellsOf (List.getD l (Int.toNat s) SV.dead)) (1 : Nat) SV.dead) > (15 : Int)) then
                bif (putW l s).fst == (8 : Int) then
                  bif (putW l s).snd.fst == (↑(0 : Nat) : Int) then
                    bif decide (((0 : Nat) + List.length (putW l s).snd.snd) * (1 : Nat) ≤ (140737488355328 : Nat)) && decide ((0 : Nat) + List.length (putW l s).snd.snd ≤ (9223372036854775807 : Nat)) && true then
                      bif ByteArray.toList (strOf ([] ++ (putW l s).snd.snd)) == ByteArray.toList (bytesB []) then some (SV.bool true) else some (SV.bool false)
                    else none
                  else some (SV.bool false)
                else some (SV.bool false)
              else
                bif
                    decide ((0 : Int) ≤ asInt (List.getD (cellsOf (List.getD l (Int.toNat s) SV.dead)) (0 : Nat) SV.dead)) &&
                          Nat.ble (Int.toNat (asInt (List.getD (cellsOf (List.getD l (Int.toNat s) SV.dead)) (0 : Nat) SV.dead))) (18446744073709551615 : Nat) &&
                        decide ((0 : Int) ≤ asInt (List.getD (cellsOf (List.getD l (Int.toNat s) SV.dead)) (1 : Nat) SV.dead)) &&
                      decide (asInt (List.getD (cellsOf (List.getD l (Int.toNat s) SV.dead)) (1 : Nat) SV.dead) ≤ (64 : Int)) then
                  bif
                      !Int.toNat (asInt (List.getD (cellsOf (List.getD l (Int.toNat s) SV.dead)) (0 : Nat) SV.dead)) >>> Int.toNat (asInt (List.getD (cellsOf (List.getD l (Int.toNat s) SV.dead)) (1 : Nat) SV.dead)) ==
                          (0 : Nat) then
                    bif (putW l s).fst == (8 : Int) then
                      bif (putW l s).snd.fst == (↑(0 : Nat) : Int) then
                        bif decide (((0 : Nat) + List.length (putW l s).snd.snd) * (1 : Nat) ≤ (140737488355328 : Nat)) && decide ((0 : Nat) + List.length (putW l s).snd.snd ≤ (9223372036854775807 : Nat)) && true then
                          bif ByteArray.toList (strOf ([] ++ (putW l s).snd.snd)) == ByteArray.toList (bytesB []) then some (SV.bool true) else some (SV.bool false)
                        else none
                      else some (SV.bool false)
                    else some (SV.bool false)
                  else
                    bif
                        decide ((0 : Int) ≤ asInt (List.getD (cellsOf (List.getD l (Int.toNat s) SV.dead)) (0 : Nat) SV.dead)) &&
                              Nat.ble (Int.toNat (asInt (List.getD (cellsOf (List.getD l (Int.toNat s) SV.dead)) (0 : Nat) SV.dead))) (18446744073709551615 : Nat) &&
                            decide ((0 : Int) ≤ asInt (List.getD (cellsOf (List.getD l (Int.toNat s) SV.dead)) (1 : Nat) SV.dead)) &&
                          decide (asInt (List.getD (cellsOf (List.getD l (Int.toNat s) SV.dead)) (1 : Nat) SV.dead) ≤ (64 : Int)) then
                      bif
                          List.all
                              (bitsL (Int.toNat (asInt (List.getD (cellsOf (List.getD l (Int.toNat s) SV.dead)) (0 : Nat) SV.dead)))
                                (Int.toNat (asInt (List.getD (cellsOf (List.getD l (Int.toNat s) SV.dead)) (1 : Nat) SV.dead))))
                              isB &&
                            Nat.ble
                              (List.length
                                (bitsL (Int.toNat (asInt (List.getD (cellsOf (List.getD l (Int.toNat s) SV.dead)) (0 : Nat) SV.dead)))
                                  (Int.toNat (asInt (List.getD (cellsOf (List.getD l (Int.toNat s) SV.dead)) (1 : Nat) SV.dead)))))
                              (1000 : Nat) then
                        bif (putW l s).fst == (0 : Int) then
                          bif
                              (putW l s).snd.fst ==
                                (↑(List.length
                                      (List.reverse
                                        (bitsL (Int.toNat (asInt (List.getD (cellsOf (List.getD l (Int.toNat s) SV.dead)) (0 : Nat) SV.dead)))
                                          (Int.toNat (asInt (List.getD (cellsOf (List.getD l (Int.toNat s) SV.dead)) (1 : Nat) SV.dead)))))) :
                                  Int) then
                            bif
                                decide (((0 : Nat) + List.length (putW l s).snd.snd) * (1 : Nat) ≤ (140737488355328 : Nat)) && decide ((0 : Nat) + List.length (putW l s).snd.snd ≤ (9223372036854775807 : Nat)) &&
                                  true then
                              bif
                                  List.all
                                      (List.reverse
                                        (bitsL (Int.toNat (asInt (List.getD (cellsOf (List.getD l (Int.toNat s) SV.dead)) (0 : Nat) SV.dead)))
                                          (Int.toNat (asInt (List.getD (cellsOf (List.getD l (Int.toNat s) SV.dead)) (1 : Nat) SV.dead)))))
                                      isB &&
                                    Nat.ble
                                      (List.length
                                        (List.reverse
                                          (bitsL (Int.toNat (asInt (List.getD (cellsOf (List.getD l (Int.toNat s) SV.dead)) (0 : Nat) SV.dead)))
                                            (Int.toNat (asInt (List.getD (cellsOf (List.getD l (Int.toNat s) SV.dead)) (1 : Nat) SV.dead))))))
                                      (1000 : Nat) then
                                bif
                                    ByteArray.toList (strOf ([] ++ (putW l s).snd.snd)) ==
                                      ByteArray.toList
                                        (bytesB
                                          (List.reverse
                                            (bitsL (Int.toNat (asInt (List.getD (cellsOf (List.getD l (Int.toNat s) SV.dead)) (0 : Nat) SV.dead)))
                                              (Int.toNat (asInt (List.getD (cellsOf (List.getD l (Int.toNat s) SV.dead)) (1 : Nat) SV.dead)))))) then
                                  some (SV.bool true)
                                else some (SV.bool false)
                              else none
                            else none
                          else some (SV.bool false)
                        else some (SV.bool false)
                      else none
                    else none
                else none
        else none
  else none := by kernel_rfl

end Sx

/-
  Layers 8 and 9 in plain numbers: what is put, octet by octet, is what the document has.
-/
set_option linter.unusedVariables false
namespace Sx
open Go Go.Proofs

theorem numB_bit : ∀ (l : List Bool) (t : Nat), Nat.testBit (numB l) t = l.getD t false
  | [], t => by simp [numB]
  | b :: l, 0 => by
    simp only [numB, List.getD_cons_zero]
    rw [Nat.testBit_zero]
    cases b <;> simp <;> omega
  | b :: l, t + 1 => by
    simp only [numB, List.getD_cons_succ]
    rw [Nat.testBit_succ, ← numB_bit l t]
    congr 1
    cases b <;> simp <;> omega

theorem turn_bit {v n i : Nat} (hn : n ≤ 32) (hi : i < n) : Nat.testBit (turnN v n) i = Nat.testBit v (n - 1 - i) := by
  unfold turnN
  rw [Nat.testBit_mod_two_pow, Nat.testBit_shiftRight, rev64_bit _ _ (by omega)]
  simp only [hi, decide_true, Bool.true_and]
  congr 1; omega

theorem whole_at {v n i : Nat} (hi : i < 8 * ((n + 7) / 8)) : (wholeL (bitsL v n).reverse)[i]? = some (.bool (decide (i < n) && Nat.testBit v (n - 1 - i))) := by
  have hl : (bitsL v n).reverse.length = n := by simp [bitsL]
  unfold wholeL
  by_cases h : i < n
  · rw [List.getElem?_append_left (by omega), List.getElem?_reverse (by simp [bitsL]; omega)]
    have : (bitsL v n).length = n := by simp [bitsL]
    rw [this]
    simp only [bitsL, List.getElem?_map, h, decide_true, Bool.true_and]
    rw [List.getElem?_range (by omega)]
    rfl
  · rw [List.getElem?_append_right (by omega), List.getElem?_replicate, if_pos (by omega)]
    simp [h]

theorem octets_eq {v n : Nat} (hn : n ≤ 32) : strOf (packL (turnN v n) n) = bytesB (bitsL v n).reverse := by
  have hl : (bitsL v n).reverse.length = n := by simp [bitsL]
  unfold strOf bytesB packL packK groups
  rw [hl]
  congr 2
  rw [List.map_map]
  apply List.map_congr_left
  intro j hj
  have hj := List.mem_range.1 hj
  simp only [Function.comp, asInt, Int.toNat_natCast]
  congr 1
  apply Nat.eq_of_testBit_eq
  intro t
  rw [numB_bit, Nat.testBit_mod_two_pow, Nat.testBit_shiftRight, Nat.testBit_mod_two_pow]
  simp only [List.getD, List.getElem?_map, List.getElem?_take, List.getElem?_drop]
  by_cases ht : t < 8
  · rw [if_pos ht, whole_at (by omega)]
    simp only [ht, decide_true, Bool.true_and, Option.map_some, Option.getD_some, asBool]
    by_cases h : 8 * j + t < n
    · rw [turn_bit hn h]
    · simp [h]
  · simp [ht]

theorem ofCells_agg (d : D) (cs : List SV) (h : d.isAgg = true) : ofCells d cs = .agg cs := by
  cases d <;> first | rfl | (simp [D.isAgg] at h)
/-- The list has codes. -/
def IsCodes (codes : List SV) : Prop := ∀ x, x ∈ codes → ∃ b n : Int, x = .agg [.int .u64 b, .int .i64 n] ∧ 0 ≤ b ∧ b ≤ 18446744073709551615
theorem code_at {codes : List SV} (h : IsCodes codes) (s : Int) : okU (cb codes s) = true := by
  unfold okU cb
  cases hq : codes[s.toNat]? with
  | none =>
    have : codes.getD s.toNat .dead = .dead := by simp [List.getD, hq]
    rw [this]; rfl
  | some x =>
    have : codes.getD s.toNat .dead = x := by simp [List.getD, hq]
    rw [this]
    obtain ⟨b, n, rfl, h1, h2⟩ := h x (List.mem_of_getElem? hq)
    show (decide (0 ≤ b) && Nat.ble b.toNat 18446744073709551615) = true
    simp only [h1, decide_true, Bool.true_and]
    exact Nat.ble_eq_true_of_le (by omega)
theorem codes_of {l : List SV} (h : WfV Try.prog (.lst 30 l)) : IsCodes l := by
  cases h with
  | lst e d xs hd hl ho hx =>
    intro x hm
    have hk : (tyOf Try.prog 30).map (fun d => (d.d.isAgg, d.cells)) = some (true, [.int .u64, .int .i64]) := by kernel_rfl
    rw [hd] at hk
    simp only [Option.map_some, Option.some.injEq, Prod.mk.injEq] at hk
    obtain ⟨hf, ht⟩ := ho x hm
    rw [hk.2] at ht
    rw [ofCells_agg _ _ hk.1] at hf
    have hw := hx x hm
    match hq : cellsOf x, ht with
    | [p, q], ht =>
      rw [hq] at hf hw
      simp only [tyCs, Bool.and_eq_true] at ht
      cases p <;> simp [tyC] at ht
      cases q <;> simp [tyC] at ht
      rename_i k b k' n
      obtain ⟨rfl, rfl⟩ := ht
      have hb := hw (.int .u64 b) (by simp)
      cases hb with
      | int _ _ hwf =>
        simp only [Lit.wf, Bool.and_eq_true, decide_eq_true_eq] at hwf
        exact ⟨b, n, hf, hwf.1, hwf.2⟩
    | [], ht => simp [tyCs] at ht
    | [_], ht => simp [tyCs] at ht
    | _ :: _ :: _ :: _, ht => simp [tyCs] at ht
theorem IsCodes.take {l : List SV} (h : IsCodes l) (n : Nat) : IsCodes (List.drop 0 (l.take n)) := fun x hx => h x (List.mem_of_mem_take (List.mem_of_mem_drop hx))
end Sx

/-
  Layer 9: the law is true of all codes and each number.
-/
set_option linter.unusedVariables false
namespace Sx
open Go Go.Proofs

theorem f3_run (l : List SV) (hc : IsCodes l) (s : Int) : evFun f3_X 0 Try.f3 (frz f3_X.Ty Try.f3) [.lst 30 l, .int .i64 s] [] [] = some (.bool true) := by
  have hcb : ∀ (codes : List SV) (s : Int), asInt (List.getD (cellsOf (List.getD codes (Int.toNat s) SV.dead)) 0 SV.dead) = cb codes s := fun _ _ => rfl
  have hcn : ∀ (codes : List SV) (s : Int), asInt (List.getD (cellsOf (List.getD codes (Int.toNat s) SV.dead)) 1 SV.dead) = cn codes s := fun _ _ => rfl
  rw [f3_eq]
  simp only [hcb, hcn]
  have hc' := hc.take 330
  have tb : (ByteArray.toList (strOf ([] ++ ([] : List SV))) == ByteArray.toList (bytesB [])) = true := by
    have : strOf ([] ++ ([] : List SV)) = bytesB [] := rfl
    rw [this]; exact beq_self_eq_true _
  have z0 : ((0 : Int) == ((0 : Nat) : Int)) = true := rfl
  have zl : (decide ((0 + ([] : List SV).length) * 1 ≤ 140737488355328) && decide (0 + ([] : List SV).length ≤ 9223372036854775807) && true) = true := by decide
  have body : ∀ codes : List SV, IsCodes codes → ∀ s : Int,
      (s < 0 → putW codes s = (4, 0, [])) ∧ ((codes.length : Int) ≤ s → putW codes s = (4, 0, [])) ∧
      (¬ s < 0 → ¬ (codes.length : Int) ≤ s → cb codes s = 0 → cn codes s = 0 → putW codes s = (11, 0, [])) ∧
      (¬ s < 0 → ¬ (codes.length : Int) ≤ s → ¬ (cb codes s = 0 ∧ cn codes s = 0) → cn codes s < 1 ∨ 15 < cn codes s → putW codes s = (8, 0, [])) ∧
      (¬ s < 0 → ¬ (codes.length : Int) ≤ s → ¬ (cn codes s < 1) → ¬ (15 < cn codes s) → (cb codes s).toNat >>> (cn codes s).toNat ≠ 0 → putW codes s = (8, 0, [])) ∧
      (¬ s < 0 → ¬ (codes.length : Int) ≤ s → ¬ (cn codes s < 1) → ¬ (15 < cn codes s) → (cb codes s).toNat >>> (cn codes s).toNat = 0 → putW codes s = (0, cn codes s, packL (turnN (cb codes s).toNat (cn codes s).toNat) (cn codes s).toNat)) := by
    intro codes hc s
    unfold putW
    refine ⟨fun h => by rw [if_pos (.inl h)], fun h => by rw [if_pos (.inr h)], fun h1 h2 h3 h4 => by rw [if_neg (by omega), if_pos ⟨h3, h4⟩], fun h1 h2 h3 h4 => by rw [if_neg (by omega), if_neg h3, if_pos h4], fun h1 h2 h3 h4 h5 => ?_, fun h1 h2 h3 h4 h5 => ?_⟩
    · have hr : rightI (cb codes s) (cn codes s) = 8 := by unfold rightI; rw [if_neg (by omega), if_neg h5]
      rw [if_neg (by omega), if_neg (by omega), if_neg (by omega), hr]
      unfold tN tL
      rw [hr]; rfl
    · have hr : rightI (cb codes s) (cn codes s) = 0 := by unfold rightI; rw [if_neg (by omega), if_pos h5]
      rw [if_neg (by omega), if_neg (by omega), if_neg (by omega), hr]
      unfold tN tL
      rw [hr]; rfl
  by_cases h : (l.length : Int) > 330
  have h330 : (330 : Int) ≤ l.length := by omega
  simp only [h, h330, decide_true, cond_true, Bool.and_self]
  generalize List.drop 0 (List.take 330 l) = codes at hc'
  rotate_left
  simp only [h, decide_false, cond_false]
  clear hc' h
  generalize hl : l = codes at hc
  have hc' := hc
  all_goals
    clear hc
    obtain ⟨b1, b2, b3, b4, b5, b6⟩ := body codes hc' s
    have hU := code_at hc' s
    have hU' : (decide (0 ≤ cb codes s) && Nat.ble (cb codes s).toNat 18446744073709551615) = true := hU
    rw [hU]
    simp only [cond_true]
    by_cases h1 : s < 0
    · rw [b1 h1]
      simp only [h1, decide_true, cond_true, z0, zl, tb, beq_self_eq_true]
    · by_cases h2 : (codes.length : Int) ≤ s
      · have h2' : s ≥ (codes.length : Int) := h2
        rw [b2 h2]
        simp only [h1, h2', decide_true, decide_false, cond_true, cond_false, z0, zl, tb, beq_self_eq_true]
      · have h2' : ¬ (s ≥ (codes.length : Int)) := h2
        have h3 : 0 ≤ s := by omega
        have h4 : s < (codes.length : Int) := by omega
        simp only [h1, h2', h3, h4, decide_true, decide_false, cond_true, cond_false, Bool.and_self]
        -- behind the first questions
        have tail : ¬ (cb codes s = 0 ∧ cn codes s = 0) → (bif decide (cn codes s < 1) then
              bif (putW codes s).fst == 8 then
                bif (putW codes s).snd.fst == ((0 : Nat) : Int) then
                  bif decide ((0 + List.length (putW codes s).snd.snd) * 1 ≤ 140737488355328) && decide (0 + List.length (putW codes s).snd.snd ≤ 9223372036854775807) && true then
                    bif ByteArray.toList (strOf ([] ++ (putW codes s).snd.snd)) == ByteArray.toList (bytesB []) then some (SV.bool true) else some (SV.bool false)
                  else none
                else some (SV.bool false)
              else some (SV.bool false)
            else
              bif decide (cn codes s > 15) then
                bif (putW codes s).fst == 8 then
                  bif (putW codes s).snd.fst == ((0 : Nat) : Int) then
                    bif decide ((0 + List.length (putW codes s).snd.snd) * 1 ≤ 140737488355328) && decide (0 + List.length (putW codes s).snd.snd ≤ 9223372036854775807) && true then
                      bif ByteArray.toList (strOf ([] ++ (putW codes s).snd.snd)) == ByteArray.toList (bytesB []) then some (SV.bool true) else some (SV.bool false)
                    else none
                  else some (SV.bool false)
                else some (SV.bool false)
              else
                bif decide (0 ≤ cb codes s) && Nat.ble (cb codes s).toNat 18446744073709551615 && decide (0 ≤ cn codes s) && decide (cn codes s ≤ 64) then
                  bif !((cb codes s).toNat >>> (cn codes s).toNat == 0) then
                    bif (putW codes s).fst == 8 then
                      bif (putW codes s).snd.fst == ((0 : Nat) : Int) then
                        bif decide ((0 + List.length (putW codes s).snd.snd) * 1 ≤ 140737488355328) && decide (0 + List.length (putW codes s).snd.snd ≤ 9223372036854775807) && true then
                          bif ByteArray.toList (strOf ([] ++ (putW codes s).snd.snd)) == ByteArray.toList (bytesB []) then some (SV.bool true) else some (SV.bool false)
                        else none
                      else some (SV.bool false)
                    else some (SV.bool false)
                  else
                    bif decide (0 ≤ cb codes s) && Nat.ble (cb codes s).toNat 18446744073709551615 && decide (0 ≤ cn codes s) && decide (cn codes s ≤ 64) then
                      bif List.all (bitsL (cb codes s).toNat (cn codes s).toNat) isB && Nat.ble (List.length (bitsL (cb codes s).toNat (cn codes s).toNat)) 1000 then
                        bif (putW codes s).fst == 0 then
                          bif (putW codes s).snd.fst == ((List.length (List.reverse (bitsL (cb codes s).toNat (cn codes s).toNat)) : Nat) : Int) then
                            bif decide ((0 + List.length (putW codes s).snd.snd) * 1 ≤ 140737488355328) && decide (0 + List.length (putW codes s).snd.snd ≤ 9223372036854775807) && true then
                              bif List.all (List.reverse (bitsL (cb codes s).toNat (cn codes s).toNat)) isB && Nat.ble (List.length (List.reverse (bitsL (cb codes s).toNat (cn codes s).toNat))) 1000 then
                                bif ByteArray.toList (strOf ([] ++ (putW codes s).snd.snd)) == ByteArray.toList (bytesB (List.reverse (bitsL (cb codes s).toNat (cn codes s).toNat))) then some (SV.bool true) else some (SV.bool false)
                              else none
                            else none
                          else some (SV.bool false)
                        else some (SV.bool false)
                      else none
                    else none
                else none) = some (SV.bool true) := by
          intro hne
          by_cases h5 : cn codes s < 1
          · rw [b4 h1 h2 hne (.inl h5)]
            simp only [h5, decide_true, cond_true, z0, zl, tb, beq_self_eq_true]
          · by_cases h6 : 15 < cn codes s
            · have h6' : cn codes s > 15 := h6
              rw [b4 h1 h2 hne (.inr h6)]
              simp only [h5, h6', decide_true, decide_false, cond_true, cond_false, z0, zl, tb, beq_self_eq_true]
            · have h6' : ¬ (cn codes s > 15) := h6
              have h7 : 0 ≤ cn codes s := by omega
              have h8 : cn codes s ≤ 64 := by omega
              simp only [h5, h6', hU', h7, h8, decide_true, decide_false, cond_true, cond_false, Bool.and_self]
              by_cases h9 : (cb codes s).toNat >>> (cn codes s).toNat = 0
              · have e9 : (!((cb codes s).toNat >>> (cn codes s).toNat == 0)) = false := by rw [h9]; rfl
                rw [b6 h1 h2 h5 h6 h9, e9]
                simp only [cond_false, List.nil_append]
                generalize hb : (cb codes s).toNat = b at *
                obtain ⟨n, hn⟩ := Int.eq_ofNat_of_zero_le h7
                rw [hn]
                simp only [Int.toNat_natCast]
                have hn15 : n ≤ 15 := by omega
                have len1 : (bitsL b n).length = n := by simp [bitsL]
                have all1 : (bitsL b n).all isB = true := by simp [bitsL, isB]
                have all2 : (bitsL b n).reverse.all isB = true := by rw [List.all_reverse]; exact all1
                have len2 : (bitsL b n).reverse.length = n := by simp [bitsL]
                have ble1 : Nat.ble n 1000 = true := Nat.ble_eq_true_of_le (by omega)
                have len3 : (packL (turnN b n) n).length = (n + 7) / 8 := packK_length _ _ _
                have d1 : (0 + (n + 7) / 8) * 1 ≤ 140737488355328 := by omega
                have d2 : 0 + (n + 7) / 8 ≤ 9223372036854775807 := by omega
                rw [octets_eq (by omega)]
                simp only [len1, all1, all2, len2, ble1, len3, d1, d2, decide_true, cond_true, Bool.and_self, beq_self_eq_true]
              · have e9 : (!((cb codes s).toNat >>> (cn codes s).toNat == 0)) = true := by
                  simp only [Bool.not_eq_true', beq_eq_false_iff_ne, ne_eq]; exact h9
                rw [b5 h1 h2 h5 h6 h9, e9]
                simp only [cond_true, z0, zl, tb, beq_self_eq_true]
        by_cases h5 : cb codes s = 0
        · have e5 : (cb codes s == 0) = true := by rw [h5]; rfl
          rw [e5]
          simp only [cond_true]
          by_cases h6 : cn codes s = 0
          · have e6 : (cn codes s == 0) = true := by rw [h6]; rfl
            rw [e6, b3 h1 h2 h5 h6]
            simp only [cond_true, z0, zl, tb, beq_self_eq_true]
          · have e6 : (cn codes s == 0) = false := by simpa using h6
            rw [e6]
            simp only [cond_false]
            exact tail (fun q => h6 q.2)
        · have e5 : (cb codes s == 0) = false := by simpa using h5
          rw [e5]
          simp only [cond_false]
          exact tail (fun q => h5 q.1)
end Sx
