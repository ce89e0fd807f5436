/-
  The seat's environment: its types, its globals, and the library's functions that are called, each by its contract.
-/
import Derived.Test.YtlkpldfdogjneaaEb
import Derived.Test.YtlkpldfdogjneaaShelf
import Derived.KernelRfl
import Derived.Lib.IndexAny
set_option linter.unusedVariables false
namespace Sx
open Go Go.Proofs

/-- What the globals hold. -/
def rG (w : World) : Prop := ∃ m, w.cell? ⟨0, 0, none⟩ = some (.int .i64 m)
noncomputable def rE : Env := envOf Try.prog 1 rG
theorem rE_ok : EnvOk rE := envOf_ok (fun w w' ⟨m, hm⟩ hb => ⟨m, by
  have := hb 0 (by omega)
  simp only [World.cell?] at hm ⊢
  rw [this]; exact hm⟩)

def gContains : List SV → Option (Bool × SV)
  | [.str a, .str b] => some (decide (a.size < 4294967281), .bool (Lib.contains a.data.toList b.data.toList))
  | _ => none
def gIndexByte : List SV → Option (Bool × SV)
  | [.str a, .int .u8 c] => some (true, .int .i64 (Lib.indexByte a.data.toList c.toNat.toUInt8))
  | _ => none
def gLastIndexByte : List SV → Option (Bool × SV)
  | [.str a, .int .u8 c] => some (decide (a.size < 4611686018427387904), .int .i64 (Lib.lastIndexByte a c))
  | _ => none
def gHasPrefix : List SV → Option (Bool × SV)
  | [.str a, .str b] => some (true, .bool (Lib.hasPrefix a.data.toList b.data.toList))
  | _ => none
def gCut : List SV → Option (Bool × SV)
  | [.str a, .str b] => some (decide (a.size < 4294967281), .tup [.str ⟨(Lib.cut a.data.toList b.data.toList).1.toArray⟩, .str ⟨(Lib.cut a.data.toList b.data.toList).2.1.toArray⟩, .bool (Lib.cut a.data.toList b.data.toList).2.2])
  | _ => none

theorem contains_ok : SpecOk rE 40 (.plain gContains) := by
  refine plain_of_calls rE_ok (fn := Try.f40) (by kernel_rfl) (by decide) (by rfl) (fun args sv h => ?_)
  unfold gContains at h
  split at h
  · rename_i a b
    simp only [Option.some.injEq, Prod.mk.injEq, decide_eq_true_eq] at h
    obtain ⟨h1, rfl⟩ := h
    refine ⟨[.string a, .string b], _, rfl, fun _ _ _ => rel_bool _, fun w ⟨_, m, hm⟩ => (Try.strings_Contains a b m w h1 hm).mono ?_⟩
    rintro e w' ⟨rfl, rfl⟩; exact ⟨rfl, Idle.refl _⟩
  · cases h
theorem indexByte_ok : SpecOk rE 41 (.plain gIndexByte) := by
  refine plain_of_calls rE_ok (fn := Try.f41) (by kernel_rfl) (by decide) (by rfl) (fun args sv h => ?_)
  unfold gIndexByte at h
  split at h
  · rename_i a b
    simp only [Option.some.injEq, Prod.mk.injEq, true_and] at h
    subst h
    refine ⟨[.string a, .int .u8 b], _, rfl, fun _ _ _ => rel_int _ _, fun w _ => (Try.strings_IndexByte a b w).mono ?_⟩
    rintro e w' ⟨rfl, rfl⟩; exact ⟨rfl, Idle.refl _⟩
  · cases h
theorem lastIndexByte_ok : SpecOk rE 44 (.plain gLastIndexByte) := by
  refine plain_of_calls rE_ok (fn := Try.f44) (by kernel_rfl) (by decide) (by rfl) (fun args sv h => ?_)
  unfold gLastIndexByte at h
  split at h
  · rename_i a b
    simp only [Option.some.injEq, Prod.mk.injEq, decide_eq_true_eq] at h
    obtain ⟨h1, rfl⟩ := h
    refine ⟨[.string a, .int .u8 b], _, rfl, fun _ _ _ => rel_int _ _, fun w _ => (Try.strings_LastIndexByte a b h1 w).mono ?_⟩
    rintro e w' ⟨rfl, rfl⟩; exact ⟨rfl, Idle.refl _⟩
  · cases h
theorem hasPrefix_ok : SpecOk rE 45 (.plain gHasPrefix) := by
  refine plain_of_calls rE_ok (fn := Try.f45) (by kernel_rfl) (by decide) (by rfl) (fun args sv h => ?_)
  unfold gHasPrefix at h
  split at h
  · rename_i a b
    simp only [Option.some.injEq, Prod.mk.injEq, true_and] at h
    subst h
    refine ⟨[.string a, .string b], _, rfl, fun _ _ _ => rel_bool _, fun w _ => (Try.strings_HasPrefix a b w).mono ?_⟩
    rintro e w' ⟨rfl, rfl⟩; exact ⟨rfl, Idle.refl _⟩
  · cases h
theorem cut_ok : SpecOk rE 63 (.plain gCut) := by
  refine plain_of_calls rE_ok (fn := Try.f63) (by kernel_rfl) (by decide) (by rfl) (fun args sv h => ?_)
  unfold gCut at h
  split at h
  · rename_i a b
    simp only [Option.some.injEq, Prod.mk.injEq, decide_eq_true_eq] at h
    obtain ⟨h1, rfl⟩ := h
    refine ⟨[.string a, .string b], .tuple #[.string ⟨(Lib.cut a.data.toList b.data.toList).1.toArray⟩, .string ⟨(Lib.cut a.data.toList b.data.toList).2.1.toArray⟩, .bool (Lib.cut a.data.toList b.data.toList).2.2], rfl, fun w ok ρ => rel_tup_vals rfl, fun w ⟨_, m, hm⟩ => (Try.strings_Cut a b m w h1 hm).mono ?_⟩
    rintro e w' ⟨rfl, n, rfl⟩; exact ⟨rfl, ⟨rfl, rfl, rfl, rfl⟩⟩
  · cases h

def rLib : List (Nat × Spec) := [(40, .plain gContains), (41, .plain gIndexByte), (44, .plain gLastIndexByte), (45, .plain gHasPrefix), (63, .plain gCut)]
theorem rLib_ok : SpecsOk rE (ofList rLib) := .cons contains_ok (.cons indexByte_ok (.cons lastIndexByte_ok (.cons hasPrefix_ok (.cons cut_ok .nil))))
theorem fx_ok {T : Specs} (h : SpecsOk rE T) (sm : List Nat) (live : Nat → List Nat × List (Nat × TypeId)) : FxOk rE ⟨tyOf Try.prog, T, sm, live⟩ := ⟨rE_ok, rfl, h, by kernel_rfl⟩
end Sx

/-
  What the executor says of functions: the normal forms, each compared by the kernel. (Printed by a program.)
-/
set_option linter.unusedVariables false
namespace Sx
open Go Go.Proofs
/-- The slots that are needed at the loops' heads of 'hamper/name.Is'. -/
noncomputable def f16_live : Nat → List Nat × List (Nat × TypeId) := fun h => bif Nat.beq h 4 then ([0, 29, 30], nilsOf (tyOf Try.prog) [(0, 9), (29, 3), (30, 3)]) else ([], [])
noncomputable def f16_X : Fx := ⟨tyOf Try.prog, ofList rLib, [], f16_live⟩
/-- The slots that are needed at the loops' heads of 'hamper/hamperref23.Is'. -/
noncomputable def f17_live : Nat → List Nat × List (Nat × TypeId) := fun h => bif Nat.beq h 2 then ([0, 3], nilsOf (tyOf Try.prog) [(0, 9), (3, 3)]) else ([], [])
noncomputable def f17_X : Fx := ⟨tyOf Try.prog, ofList rLib, [], f17_live⟩
/-- The slots that are needed at the loops' heads of 'hamper/name.inbox'. -/
noncomputable def f42_live : Nat → List Nat × List (Nat × TypeId) := fun h => bif Nat.beq h 6 then ([0, 6, 21, 22, 23], nilsOf (tyOf Try.prog) [(0, 9), (6, 35), (21, 35), (22, 3), (23, 3)]) else ([], [])
noncomputable def f42_X : Fx := ⟨tyOf Try.prog, ofList rLib, [], f42_live⟩
/-- The slots that are needed at the loops' heads of 'hamper/hamperref16.Cut'. -/
noncomputable def f64_live : Nat → List Nat × List (Nat × TypeId) := fun h => bif Nat.beq h 3 then ([0, 1, 5, 6], nilsOf (tyOf Try.prog) [(0, 9), (1, 5), (5, 107), (6, 3)]) else ([], [])
noncomputable def f64_X : Fx := ⟨tyOf Try.prog, ofList rLib, [], f64_live⟩
set_option maxRecDepth 100000
def f16_st4 (x0 : ByteArray) (x1 : Int) (x2 : Int) : St := {
  slots :=
    [SV.str x0, SV.dead, SV.dead, SV.dead, SV.dead, SV.dead, SV.dead, SV.dead, SV.dead, SV.dead, SV.dead, SV.dead, SV.dead, SV.dead, SV.dead, SV.dead, SV.dead, SV.dead, SV.dead, SV.dead, SV.dead, SV.dead, SV.dead,
      SV.dead, SV.dead, SV.dead, SV.dead, SV.dead, SV.dead, SV.int IntKind.i64 x1, SV.int IntKind.i64 x2, SV.dead, SV.dead, SV.dead, SV.dead, SV.dead, SV.dead, SV.dead, SV.dead, SV.dead, SV.dead, SV.dead, SV.dead,
      SV.dead, SV.dead, SV.dead, SV.dead, SV.dead, SV.dead, SV.dead, SV.dead],
  mem := [], used := [] : St }
noncomputable def f16_L4 (n m : Nat) (x0 : ByteArray) (x1 : Int) (x2 : Int) : Option SV := atLoop f16_X Try.f16 (frz f16_X.Ty Try.f16) n [.r, .r, .l, .r, .b] m (f16_st4 x0 x1 x2)
theorem f16_L4_eq (n m : Nat) (x0 : ByteArray) (x1 : Int) (x2 : Int) : f16_L4 n (m + 1) x0 x1 x2 = bif decide (x2 < x1) then
  bif decide ((0 : Int) ≤ x2) && decide (x2 < (↑(ByteArray.size x0) : Int)) then
    bif decide (bAt x0 x2 < (33 : Int)) then some (SV.bool false)
    else
      bif decide ((0 : Int) ≤ x2) && decide (x2 < (↑(ByteArray.size x0) : Int)) then
        bif decide (bAt x0 x2 > (126 : Int)) then some (SV.bool false)
        else
          bif decide ((0 : Int) ≤ x2) && decide (x2 < (↑(ByteArray.size x0) : Int)) then
            bif
                decide
                  (Lib.indexByte { data := #[(40 : UInt8), (41 : UInt8), (123 : UInt8), (125 : UInt8), (37 : UInt8), (42 : UInt8), (34 : UInt8), (92 : UInt8)] : ByteArray }.data.toList
                      (Nat.toUInt8 (Int.toNat (bAt x0 x2))) ≥
                    (0 : Int)) then
              some (SV.bool false)
            else f16_L4 n m x0 x1 (IntKind.wrap IntKind.i64 (x2 + (1 : Int)))
          else none
      else none
  else none
  else some (SV.bool true) := by kernel_rfl

theorem f16_eq (n : Nat) (s : ByteArray) : evFun f16_X n Try.f16 (frz f16_X.Ty Try.f16) [.str s] [] [] = bif ByteArray.toList s == ByteArray.toList { data := #[] : ByteArray } then some (SV.bool false)
  else
  bif decide ((↑(ByteArray.size s) : Int) > (60 : Int)) then some (SV.bool false)
  else
    bif decide ((0 : Int) < (↑(ByteArray.size s) : Int)) then
      bif bAt s (0 : Int) == (47 : Int) then some (SV.bool false)
      else
        bif decide ((0 : Int) ≤ IntKind.wrap IntKind.i64 ((↑(ByteArray.size s) : Int) - (1 : Int))) && decide (IntKind.wrap IntKind.i64 ((↑(ByteArray.size s) : Int) - (1 : Int)) < (↑(ByteArray.size s) : Int)) then
          bif bAt s (IntKind.wrap IntKind.i64 ((↑(ByteArray.size s) : Int) - (1 : Int))) == (47 : Int) then some (SV.bool false)
          else
            bif decide (ByteArray.size s < (4294967281 : Nat)) then
              bif Lib.contains s.data.toList { data := #[(47 : UInt8), (47 : UInt8)] : ByteArray }.data.toList then some (SV.bool false) else f16_L4 n n s (↑(ByteArray.size s) : Int) (0 : Int)
            else none
        else none
    else none := by kernel_rfl

def f17_st2 (x0 : ByteArray) (x1 : Int) : St := {
  slots :=
    [SV.str x0, SV.dead, SV.dead, SV.int IntKind.i64 x1, SV.dead, SV.dead, SV.dead, SV.dead, SV.dead, SV.dead, SV.dead, SV.dead, SV.dead, SV.dead, SV.dead, SV.dead, SV.dead, SV.dead, SV.dead, SV.dead, SV.dead, SV.dead,
      SV.dead, SV.dead, SV.dead, SV.dead, SV.dead, SV.dead, SV.dead, SV.dead, SV.dead, SV.dead, SV.dead, SV.dead, SV.dead, SV.dead, SV.dead, SV.dead, SV.dead, SV.dead, SV.dead, SV.dead, SV.dead, SV.dead, SV.dead,
      SV.dead, SV.dead, SV.dead, SV.dead, SV.dead, SV.dead, SV.dead, SV.dead, SV.dead, SV.dead, SV.dead, SV.dead, SV.dead, SV.dead, SV.dead, SV.dead, SV.dead, SV.dead, SV.dead, SV.dead, SV.dead, SV.dead, SV.dead,
      SV.dead, SV.dead, SV.dead, SV.dead, SV.dead, SV.dead, SV.dead, SV.dead, SV.dead, SV.dead, SV.dead, SV.dead],
  mem := [], used := [] : St }
noncomputable def f17_L2 (n m : Nat) (x0 : ByteArray) (x1 : Int) : Option SV := atLoop f17_X Try.f17 (frz f17_X.Ty Try.f17) n [.r, .l, .r, .b] m (f17_st2 x0 x1)
theorem f17_L2_eq (n m : Nat) (x0 : ByteArray) (x1 : Int) : f17_L2 n (m + 1) x0 x1 = bif decide (x1 < (↑(ByteArray.size x0) : Int)) then
  bif decide ((0 : Int) ≤ x1) && decide (x1 < (↑(ByteArray.size x0) : Int)) then
    bif decide (bAt x0 x1 < (33 : Int)) then some (SV.bool false)
    else
      bif decide (bAt x0 x1 > (126 : Int)) then some (SV.bool false)
      else
        bif bAt x0 x1 == (40 : Int) then some (SV.bool false)
        else
          bif bAt x0 x1 == (41 : Int) then some (SV.bool false)
          else
            bif bAt x0 x1 == (123 : Int) then some (SV.bool false)
            else
              bif bAt x0 x1 == (125 : Int) then some (SV.bool false)
              else
                bif bAt x0 x1 == (37 : Int) then some (SV.bool false)
                else
                  bif bAt x0 x1 == (42 : Int) then some (SV.bool false)
                  else
                    bif bAt x0 x1 == (34 : Int) then some (SV.bool false)
                    else
                      bif bAt x0 x1 == (92 : Int) then some (SV.bool false)
                      else
                        bif bAt x0 x1 == (47 : Int) then
                          bif x1 == (0 : Int) then some (SV.bool false)
                          else
                            bif x1 == IntKind.wrap IntKind.i64 ((↑(ByteArray.size x0) : Int) - (1 : Int)) then some (SV.bool false)
                            else
                              bif decide ((0 : Int) ≤ IntKind.wrap IntKind.i64 (x1 - (1 : Int))) && decide (IntKind.wrap IntKind.i64 (x1 - (1 : Int)) < (↑(ByteArray.size x0) : Int)) then
                                bif bAt x0 (IntKind.wrap IntKind.i64 (x1 - (1 : Int))) == (47 : Int) then some (SV.bool false) else f17_L2 n m x0 (IntKind.wrap IntKind.i64 (x1 + (1 : Int)))
                              else none
                        else f17_L2 n m x0 (IntKind.wrap IntKind.i64 (x1 + (1 : Int)))
  else none
  else bif decide ((1 : Int) ≤ (↑(ByteArray.size x0) : Int)) then some (SV.bool (decide ((↑(ByteArray.size x0) : Int) ≤ (60 : Int)))) else some (SV.bool false) := by kernel_rfl

theorem f17_eq (n : Nat) (s : ByteArray) : evFun f17_X n Try.f17 (frz f17_X.Ty Try.f17) [.str s] [] [] = f17_L2 n n s (0 : Int) := by kernel_rfl

def f42_st6 (x0 : ByteArray) (x1 : Int) (x2 : Int) (x3 : List SV) : St := {
  slots :=
    [SV.str x0, SV.dead, SV.dead, SV.dead, SV.dead, SV.dead, SV.row (100 : Nat), SV.dead, SV.dead, SV.dead, SV.dead, SV.dead, SV.dead, SV.dead, SV.dead, SV.dead, SV.dead, SV.dead, SV.dead, SV.dead, SV.dead,
      SV.row (100 : Nat), SV.int IntKind.i64 x1, SV.int IntKind.i64 x2, SV.dead, SV.dead, SV.dead, SV.dead, SV.dead, SV.dead, SV.dead, SV.dead, SV.dead, SV.dead, SV.dead, SV.dead, SV.dead, SV.dead, SV.dead, SV.dead,
      SV.dead, SV.dead, SV.dead, SV.dead, SV.dead, SV.dead, SV.dead],
  mem := [((100 : Nat), SObj.row (5 : Nat) x3)], used := [(100 : Nat)] : St }
noncomputable def f42_L6 (n m : Nat) (x0 : ByteArray) (x1 : Int) (x2 : Int) (x3 : List SV) : Option SV := atLoop f42_X Try.f42 (frz f42_X.Ty Try.f42) n [.r, .r, .r, .r, .l, .r, .b] m (f42_st6 x0 x1 x2 x3)
theorem f42_L6_eq (n m : Nat) (x0 : ByteArray) (x1 : Int) (x2 : Int) (x3 : List SV) : f42_L6 n (m + 1) x0 x1 x2 x3 = bif decide (x2 < x1) then
  bif decide ((0 : Int) ≤ x2) && decide (x2 < (↑(List.length x3) : Int)) then
    bif decide (asInt (List.getD (cellsOf (List.getD x3 (Int.toNat x2) SV.dead)) (0 : Nat) SV.dead) ≥ (97 : Int)) then
      bif decide (asInt (List.getD (cellsOf (List.getD x3 (Int.toNat x2) SV.dead)) (0 : Nat) SV.dead) ≤ (122 : Int)) then
        bif decide ((0 : Int) ≤ x2) && decide (x2 < (↑(List.length x3) : Int)) then
          f42_L6 n m x0 x1 (IntKind.wrap IntKind.i64 (x2 + (1 : Int)))
            (List.set x3 (Int.toNat x2) (SV.int IntKind.u8 (IntKind.wrap IntKind.u8 (asInt (List.getD (cellsOf (List.getD x3 (Int.toNat x2) SV.dead)) (0 : Nat) SV.dead) - (32 : Int)))))
        else none
      else f42_L6 n m x0 x1 (IntKind.wrap IntKind.i64 (x2 + (1 : Int))) x3
    else f42_L6 n m x0 x1 (IntKind.wrap IntKind.i64 (x2 + (1 : Int))) x3
  else none
  else
  bif !ByteArray.toList (strOf x3) == ByteArray.toList { data := #[(73 : UInt8), (78 : UInt8), (66 : UInt8), (79 : UInt8), (88 : UInt8)] : ByteArray } then some (SV.str x0)
  else
    bif decide ((5 : Int) ≤ (↑(ByteArray.size x0) : Int)) then
      bif Nat.ble ((5 : Nat) + ByteArray.size (ByteArray.extract x0 (5 : Nat) (Int.toNat (↑(ByteArray.size x0) : Int)))) (9223372036854775807 : Nat) then
        some (SV.str ({ data := #[(73 : UInt8), (78 : UInt8), (66 : UInt8), (79 : UInt8), (88 : UInt8)] : ByteArray } ++ ByteArray.extract x0 (5 : Nat) (Int.toNat (↑(ByteArray.size x0) : Int))))
      else none
    else none := by kernel_rfl

theorem f42_eq (n : Nat) (s : ByteArray) : evFun f42_X n Try.f42 (frz f42_X.Ty Try.f42) [.str s] [] [] = bif decide (ByteArray.size s < (4294967281 : Nat)) then
  bif (↑(ByteArray.size { data := List.toArray (Lib.cut s.data.toList { data := #[(47 : UInt8)] : ByteArray }.data.toList).fst : ByteArray }) : Int) != (5 : Int) then some (SV.str s)
  else
    bif decide (ByteArray.size { data := List.toArray (Lib.cut s.data.toList { data := #[(47 : UInt8)] : ByteArray }.data.toList).fst : ByteArray } ≤ (140737488355328 : Nat)) then
      f42_L6 n n s (↑(List.length (bytesOf { data := List.toArray (Lib.cut s.data.toList { data := #[(47 : UInt8)] : ByteArray }.data.toList).fst : ByteArray })) : Int) (0 : Int)
        (bytesOf { data := List.toArray (Lib.cut s.data.toList { data := #[(47 : UInt8)] : ByteArray }.data.toList).fst : ByteArray })
    else none
  else none := by kernel_rfl

def f64_st3 (x0 : ByteArray) (x1 : Int) (x2 : Int) (x3 : List SV) : St := {
  slots :=
    [SV.str x0, SV.int IntKind.u8 x1, SV.dead, SV.dead, SV.dead, SV.row (100 : Nat), SV.int IntKind.i64 x2, SV.dead, SV.dead, SV.dead, SV.dead, SV.dead, SV.dead, SV.dead, SV.dead, SV.dead, SV.dead, SV.dead, SV.dead,
      SV.dead, SV.dead, SV.dead, SV.dead, SV.dead, SV.dead, SV.dead, SV.dead, SV.dead, SV.dead, SV.dead, SV.dead, SV.dead, SV.dead, SV.dead, SV.dead, SV.dead],
  mem := [((100 : Nat), SObj.row (9 : Nat) x3)], used := [(100 : Nat)] : St }
noncomputable def f64_L3 (n m : Nat) (x0 : ByteArray) (x1 : Int) (x2 : Int) (x3 : List SV) : Option SV := atLoop f64_X Try.f64 (frz f64_X.Ty Try.f64) n [.r, .r, .l, .r, .b] m (f64_st3 x0 x1 x2 x3)
theorem f64_L3_eq (n m : Nat) (x0 : ByteArray) (x1 : Int) (x2 : Int) (x3 : List SV) : f64_L3 n (m + 1) x0 x1 x2 x3 = bif decide (x2 < (↑(ByteArray.size x0) : Int)) then
  bif decide ((0 : Int) ≤ x2) && decide (x2 < (↑(ByteArray.size x0) : Int)) then
    bif bAt x0 x2 == x1 then
      bif decide ((List.length x3 + (1 : Nat)) * (16 : Nat) ≤ (140737488355328 : Nat)) && decide (List.length x3 + (1 : Nat) ≤ (9223372036854775807 : Nat)) then
        f64_L3 n m x0 x1 (IntKind.wrap IntKind.i64 (x2 + (1 : Int))) (x3 ++ [SV.str { data := #[] : ByteArray }])
      else none
    else
      bif decide ((0 : Int) ≤ IntKind.wrap IntKind.i64 ((↑(List.length x3) : Int) - (1 : Int))) && decide (IntKind.wrap IntKind.i64 ((↑(List.length x3) : Int) - (1 : Int)) < (↑(List.length x3) : Int)) then
        bif
            decide ((0 : Int) ≤ IntKind.wrap IntKind.i64 (x2 + (1 : Int))) && decide (IntKind.wrap IntKind.i64 (x2 + (1 : Int)) ≤ (↑(ByteArray.size x0) : Int)) &&
              (decide ((0 : Int) ≤ x2) && decide (x2 ≤ IntKind.wrap IntKind.i64 (x2 + (1 : Int)))) then
          bif
              Nat.ble
                (ByteArray.size (asStr (List.getD (cellsOf (List.getD x3 (Int.toNat (IntKind.wrap IntKind.i64 ((↑(List.length x3) : Int) - (1 : Int)))) SV.dead)) (0 : Nat) SV.dead)) +
                  ByteArray.size (ByteArray.extract x0 (Int.toNat x2) (Int.toNat (IntKind.wrap IntKind.i64 (x2 + (1 : Int))))))
                (9223372036854775807 : Nat) then
            bif decide ((0 : Int) ≤ IntKind.wrap IntKind.i64 ((↑(List.length x3) : Int) - (1 : Int))) && decide (IntKind.wrap IntKind.i64 ((↑(List.length x3) : Int) - (1 : Int)) < (↑(List.length x3) : Int)) then
              f64_L3 n m x0 x1 (IntKind.wrap IntKind.i64 (x2 + (1 : Int)))
                (List.set x3 (Int.toNat (IntKind.wrap IntKind.i64 ((↑(List.length x3) : Int) - (1 : Int))))
                  (SV.str
                    (asStr (List.getD (cellsOf (List.getD x3 (Int.toNat (IntKind.wrap IntKind.i64 ((↑(List.length x3) : Int) - (1 : Int)))) SV.dead)) (0 : Nat) SV.dead) ++
                      ByteArray.extract x0 (Int.toNat x2) (Int.toNat (IntKind.wrap IntKind.i64 (x2 + (1 : Int)))))))
            else none
          else none
        else none
      else none
  else none
  else some (SV.lst (9 : Nat) x3) := by kernel_rfl

theorem f64_eq (n : Nat) (s : ByteArray) (c : Int) : evFun f64_X n Try.f64 (frz f64_X.Ty Try.f64) [.str s, .int .u8 c] [] [] = f64_L3 n n s c (0 : Int) [SV.str { data := #[] : ByteArray }] := by kernel_rfl

end Sx

/-
  name.Is and the document's Is: one specification of both.
-/
namespace Sx
open Go Go.Proofs

theorem wrap64 {x : Int} (h0 : -9223372036854775808 ≤ x) (h1 : x ≤ 9223372036854775807) : IntKind.wrap .i64 x = x := by
  simp only [IntKind.wrap, IntKind.signed, IntKind.bits]
  simp
  omega

theorem br_bool (b x y : Bool) : (bif b then some (SV.bool x) else some (SV.bool y)) = some (SV.bool (bif b then x else y)) := by cases b <;> rfl
theorem br_not (b y : Bool) : (bif b then false else y) = (!b && y) := by cases b <;> rfl

def okAt (s : ByteArray) (i : Int) : Bool :=
  !decide (bAt s i < 33) && !decide (bAt s i > 126) && !(bAt s i == 40) && !(bAt s i == 41) && !(bAt s i == 123) && !(bAt s i == 125) && !(bAt s i == 37) && !(bAt s i == 42) && !(bAt s i == 34) && !(bAt s i == 92) &&
  !(bAt s i == 47 && (i == 0 || i == (s.size : Int) - 1 || bAt s (i - 1) == 47))
def okFrom (s : ByteArray) : Nat → Int → Bool
  | 0, _ => true
  | k + 1, i => okAt s i && okFrom s k (i + 1)
def isS (s : ByteArray) : Bool := okFrom s s.size 0 && decide ((1 : Int) ≤ s.size) && decide ((s.size : Int) ≤ 60)

theorem f17_L2_is (n : Nat) (s : ByteArray) (hs : s.size < 4294967281) : ∀ (k m : Nat) (i : Int), 0 ≤ i → i + k = s.size → k < m → f17_L2 n m s i = some (.bool (okFrom s k i && decide ((1 : Int) ≤ s.size) && decide ((s.size : Int) ≤ 60)))
  | 0, m, i, h0, hi, hm => by
    obtain ⟨m, rfl⟩ : ∃ m', m = m' + 1 := ⟨m - 1, by omega⟩
    rw [f17_L2_eq]
    have : ¬ (i < (s.size : Int)) := by omega
    simp only [this, decide_false, cond_false, okFrom, Bool.true_and]
    by_cases h : (1 : Int) ≤ s.size <;> simp [h]
  | k + 1, m, i, h0, hi, hm => by
    obtain ⟨m, rfl⟩ : ∃ m', m = m' + 1 := ⟨m - 1, by omega⟩
    have ih := f17_L2_is n s hs k m (i + 1) (by omega) (by omega) (by omega)
    rw [f17_L2_eq]
    have h1 : i < (s.size : Int) := by omega
    have w1 : IntKind.wrap .i64 (i + 1) = i + 1 := wrap64 (by omega) (by omega)
    have w2 : IntKind.wrap .i64 ((s.size : Int) - 1) = (s.size : Int) - 1 := wrap64 (by omega) (by omega)
    have w3 : IntKind.wrap .i64 (i - 1) = i - 1 := wrap64 (by omega) (by omega)
    rw [w1, w2, w3, ih]
    simp only [h1, h0, decide_true, cond_true, Bool.and_true, okFrom, okAt]
    generalize bAt s i = c
    generalize bAt s (i - 1) = d
    have h2 : i ≠ 0 → (0 : Int) ≤ i - 1 := by omega
    have h3 : i - 1 < (s.size : Int) := by omega
    generalize okFrom s k (i + 1) = r
    generalize decide ((1 : Int) ≤ s.size) = p
    generalize decide ((s.size : Int) ≤ 60) = q
    have last : ∀ b x : Bool, (bif b then x else x) = x := fun b x => by cases b <;> rfl
    by_cases hz : i = 0
    · subst hz
      simp only [beq_self_eq_true, cond_true, br_bool, br_not, Bool.and_assoc, Bool.true_or, Bool.and_true]
    · have h2 := h2 hz
      have hz : (i == 0) = false := by simpa using hz
      simp only [h2, h3, hz, decide_true, Bool.and_true, cond_true, cond_false, Bool.false_or, br_bool, br_not, Bool.and_assoc]
      cases c == 47 <;> simp [Bool.and_assoc]

def gIs : List SV → Option (Bool × SV)
  | [.str s] => some (decide (s.size < 4294967281), .bool (isS s))
  | _ => none
theorem f17_ok : SpecOk rE 17 (.plain gIs) := by
  refine plain_of_run (fx_ok rLib_ok [] f17_live) (fn := Try.f17) (by kernel_rfl) (by decide) (by rfl) (fun args sv h => ?_)
  unfold gIs at h
  split at h
  · rename_i s
    simp only [Option.some.injEq, Prod.mk.injEq, decide_eq_true_eq] at h
    obtain ⟨h1, rfl⟩ := h
    refine ⟨rfl, rfl, s.size + 1, ?_⟩
    show evFun f17_X (s.size + 1) Try.f17 (frz f17_X.Ty Try.f17) [.str s] [] [] = _
    rw [f17_eq, f17_L2_is _ s h1 s.size _ 0 (by omega) (by omega) (by omega)]
    rfl
  · cases h

theorem contains_ss : ∀ l : List UInt8, Lib.contains l [47, 47] = true ↔ ∃ j : Nat, l[j]? = some 47 ∧ l[j + 1]? = some 47
  | [] => by simp [Lib.contains, Lib.index]
  | b :: l => by
    have ih := contains_ss l
    have hge := Lib.index_ge l [47, 47]
    have e : Lib.contains (b :: l) [47, 47] = ((b == 47 && l[0]? == some 47) || Lib.contains l [47, 47]) := by
      unfold Lib.contains
      rw [Lib.index]
      by_cases h : List.isPrefixOf [47, 47] (b :: l) = true
      · have : (b == 47 && l[0]? == some 47) = true := by
          cases l with
          | nil => simp [List.isPrefixOf] at h
          | cons c l => simp [List.isPrefixOf] at h ⊢; exact ⟨h.1.symm, h.2.symm⟩
        rw [if_pos h, this]; simp
      · have : (b == 47 && l[0]? == some 47) = false := by
          cases l with
          | nil => simp
          | cons c l => simp [List.isPrefixOf] at h ⊢; intro hb hc; exact h hb.symm hc.symm
        rw [if_neg h, this]
        by_cases h2 : Lib.index l [47, 47] = -1
        · simp [h2]
        · have : (Lib.index l [47, 47] == -1) = false := by simpa using h2
          rw [this]
          simp
          by_cases h3 : 0 ≤ Lib.index l [47, 47]
          · simp [h3]; omega
          · omega
    rw [e]
    simp only [Bool.or_eq_true, Bool.and_eq_true, beq_iff_eq, ih]
    constructor
    · rintro (⟨h1, h2⟩ | ⟨j, h1, h2⟩)
      · exact ⟨0, by simp [h1], by simpa using h2⟩
      · exact ⟨j + 1, by simpa using h1, by simpa using h2⟩
    · rintro ⟨j, h1, h2⟩
      cases j with
      | zero => left; simp at h1 h2; exact ⟨h1, by simpa using h2⟩
      | succ j => right; exact ⟨j, by simpa using h1, by simpa using h2⟩

def special8 (c : Int) : Bool := c == 40 || c == 41 || c == 123 || c == 125 || c == 37 || c == 42 || c == 34 || c == 92
theorem special_ix (c : UInt8) : decide (Lib.indexByte [40, 41, 123, 125, 37, 42, 34, 92] c ≥ 0) = special8 (c.toNat : Int) := by
  have key : ∀ k : UInt8, ((c.toNat : Int) == (k.toNat : Int)) = (c == k) := fun k => by
    rw [Bool.eq_iff_iff]; simp only [beq_iff_eq]
    constructor
    · intro h; exact UInt8.toNat_inj.1 (by omega)
    · intro h; subst h; rfl
  have k1 := key 40; have k2 := key 41; have k3 := key 123; have k4 := key 125; have k5 := key 37; have k6 := key 42; have k7 := key 34; have k8 := key 92
  simp only [show ((40 : UInt8).toNat : Int) = 40 from rfl, show ((41 : UInt8).toNat : Int) = 41 from rfl, show ((123 : UInt8).toNat : Int) = 123 from rfl, show ((125 : UInt8).toNat : Int) = 125 from rfl, show ((37 : UInt8).toNat : Int) = 37 from rfl, show ((42 : UInt8).toNat : Int) = 42 from rfl, show ((34 : UInt8).toNat : Int) = 34 from rfl, show ((92 : UInt8).toNat : Int) = 92 from rfl] at k1 k2 k3 k4 k5 k6 k7 k8
  unfold special8
  rw [k1, k2, k3, k4, k5, k6, k7, k8]
  have := Lib.contains_iff_indexByte [40, 41, 123, 125, 37, 42, 34, 92] c
  show decide (0 ≤ Lib.indexByte [40, 41, 123, 125, 37, 42, 34, 92] c) = _
  rw [← this]
  simp only [List.contains_cons, List.contains_nil, Bool.or_false, Bool.or_assoc]

theorem bAt_toUInt8 (s : ByteArray) (i : Int) : (((bAt s i).toNat.toUInt8).toNat : Int) = bAt s i := by
  unfold bAt
  generalize s.data.toList.getD i.toNat 0 = b
  have := b.toNat_lt
  simp
theorem okFrom_iff (s : ByteArray) : ∀ (k : Nat) (i : Int), okFrom s k i = true ↔ ∀ j : Nat, j < k → okAt s (i + j) = true
  | 0, i => by simp [okFrom]
  | k + 1, i => by
    simp only [okFrom, Bool.and_eq_true, okFrom_iff s k]
    constructor
    · rintro ⟨h1, h2⟩ j hj
      cases j with
      | zero => simpa using h1
      | succ j =>
        have := h2 j (by omega)
        have e : i + 1 + (j : Int) = i + ((j + 1 : Nat) : Int) := by omega
        rwa [e] at this
    · intro h
      refine ⟨by simpa using h 0 (by omega), fun j hj => ?_⟩
      have := h (j + 1) (by omega)
      have e : i + 1 + (j : Int) = i + ((j + 1 : Nat) : Int) := by omega
      rwa [e]
def okc (c : Int) : Bool := !decide (c < 33) && !decide (c > 126) && !special8 c
def chFrom (s : ByteArray) : Nat → Int → Bool
  | 0, _ => true
  | k + 1, i => okc (bAt s i) && chFrom s k (i + 1)
theorem chFrom_iff (s : ByteArray) : ∀ (k : Nat) (i : Int), chFrom s k i = true ↔ ∀ j : Nat, j < k → okc (bAt s (i + j)) = true
  | 0, i => by simp [chFrom]
  | k + 1, i => by
    simp only [chFrom, Bool.and_eq_true, chFrom_iff s k]
    constructor
    · rintro ⟨h1, h2⟩ j hj
      cases j with
      | zero => simpa using h1
      | succ j =>
        have := h2 j (by omega)
        have e : i + 1 + (j : Int) = i + ((j + 1 : Nat) : Int) := by omega
        rwa [e] at this
    · intro h
      refine ⟨by simpa using h 0 (by omega), fun j hj => ?_⟩
      have := h (j + 1) (by omega)
      have e : i + 1 + (j : Int) = i + ((j + 1 : Nat) : Int) := by omega
      rwa [e]

theorem f16_L4_is (n : Nat) (s : ByteArray) (hs : s.size < 4294967281) : ∀ (k m : Nat) (i : Int), 0 ≤ i → i + k = s.size → k < m → f16_L4 n m s s.size i = some (.bool (chFrom s k i))
  | 0, m, i, h0, hi, hm => by
    obtain ⟨m, rfl⟩ : ∃ m', m = m' + 1 := ⟨m - 1, by omega⟩
    rw [f16_L4_eq]
    have : ¬ (i < (s.size : Int)) := by omega
    simp only [this, decide_false, cond_false, chFrom]
  | k + 1, m, i, h0, hi, hm => by
    obtain ⟨m, rfl⟩ : ∃ m', m = m' + 1 := ⟨m - 1, by omega⟩
    have ih := f16_L4_is n s hs k m (i + 1) (by omega) (by omega) (by omega)
    rw [f16_L4_eq]
    have h1 : i < (s.size : Int) := by omega
    have w1 : IntKind.wrap .i64 (i + 1) = i + 1 := wrap64 (by omega) (by omega)
    have sp := special_ix (bAt s i).toNat.toUInt8
    rw [bAt_toUInt8] at sp
    rw [w1, ih]
    show (bif decide (i < (s.size : Int)) then _ else _) = _
    simp only [h1, h0, decide_true, cond_true, Bool.and_true, chFrom, okc]
    show (bif decide (bAt s i < 33) then some (SV.bool false) else bif decide (bAt s i > 126) then some (SV.bool false) else bif decide (Lib.indexByte [40, 41, 123, 125, 37, 42, 34, 92] (bAt s i).toNat.toUInt8 ≥ 0) then some (SV.bool false) else some (SV.bool (chFrom s k (i + 1)))) = _
    rw [sp]
    simp only [br_bool, br_not, Bool.and_assoc]

theorem getD_bAt (s : ByteArray) (j : Nat) : s.data.toList[j]? = some 47 ↔ j < s.size ∧ bAt s (j : Int) = 47 := by
  have hl : s.data.toList.length = s.size := by simp
  unfold bAt
  rw [Int.toNat_natCast, List.getD_eq_getElem?_getD]
  constructor
  · intro h
    have hj := (List.getElem?_eq_some_iff.1 h).1
    exact ⟨by omega, by rw [h]; rfl⟩
  · rintro ⟨h1, h2⟩
    have hj : j < s.data.toList.length := by omega
    rw [List.getElem?_eq_getElem hj] at h2 ⊢
    simp only [Option.getD_some] at h2
    congr 1
    apply UInt8.toNat_inj.1
    have : ((47 : UInt8).toNat : Int) = 47 := rfl
    omega

theorem okAt_iff (s : ByteArray) (i : Int) : okAt s i = true ↔ okc (bAt s i) = true ∧ (bAt s i = 47 → i ≠ 0 ∧ i ≠ (s.size : Int) - 1 ∧ bAt s (i - 1) ≠ 47) := by
  unfold okAt okc special8
  generalize bAt s i = c
  generalize bAt s (i - 1) = d
  simp only [Bool.and_eq_true, Bool.not_eq_true', Bool.or_eq_false_iff, Bool.and_eq_false_iff, beq_eq_false_iff_ne, decide_eq_false_iff_not, ne_eq]
  constructor
  · rintro ⟨⟨⟨⟨⟨⟨⟨⟨⟨⟨h1, h2⟩, h3⟩, h4⟩, h5⟩, h6⟩, h7⟩, h8⟩, h9⟩, h10⟩, h11⟩
    refine ⟨⟨⟨h1, h2⟩, ⟨⟨⟨⟨⟨⟨⟨h3, h4⟩, h5⟩, h6⟩, h7⟩, h8⟩, h9⟩, h10⟩⟩, fun hc => ?_⟩
    rcases h11 with h | ⟨⟨a, b⟩, c⟩
    · exact absurd hc h
    · exact ⟨a, b, c⟩
  · rintro ⟨⟨⟨h1, h2⟩, ⟨⟨⟨⟨⟨⟨⟨h3, h4⟩, h5⟩, h6⟩, h7⟩, h8⟩, h9⟩, h10⟩⟩, h11⟩
    refine ⟨⟨⟨⟨⟨⟨⟨⟨⟨⟨h1, h2⟩, h3⟩, h4⟩, h5⟩, h6⟩, h7⟩, h8⟩, h9⟩, h10⟩, ?_⟩
    by_cases hc : c = 47
    · obtain ⟨a, b, c⟩ := h11 hc
      exact .inr ⟨⟨a, b⟩, c⟩
    · exact .inl hc

theorem isS_eq (s : ByteArray) (h1 : 1 ≤ s.size) : isS s = (!decide ((s.size : Int) > 60) && (!(bAt s 0 == 47) && (!(bAt s ((s.size : Int) - 1) == 47) && (!Lib.contains s.data.toList [47, 47] && chFrom s s.size 0)))) := by
  rw [Bool.eq_iff_iff]
  unfold isS
  simp only [Bool.and_eq_true, Bool.not_eq_true', decide_eq_true_eq, decide_eq_false_iff_not, beq_eq_false_iff_ne, okFrom_iff, chFrom_iff, okAt_iff, Int.zero_add]
  have hc : Lib.contains s.data.toList [47, 47] = false ↔ ∀ j : Nat, j + 1 < s.size → bAt s (j : Int) = 47 → bAt s ((j + 1 : Nat) : Int) ≠ 47 := by
    rw [← Bool.not_eq_true, contains_ss]
    constructor
    · intro h j hj ha hb
      exact h ⟨j, (getD_bAt s j).2 ⟨by omega, ha⟩, (getD_bAt s (j + 1)).2 ⟨hj, hb⟩⟩
    · rintro h ⟨j, ha, hb⟩
      exact h j ((getD_bAt s (j + 1)).1 hb).1 ((getD_bAt s j).1 ha).2 ((getD_bAt s (j + 1)).1 hb).2
  rw [hc]
  constructor
  · rintro ⟨⟨h, _⟩, h60⟩
    refine ⟨by omega, fun h0 => ?_, fun hl => ?_, fun j hj ha hb => ?_, fun j hj => (h j hj).1⟩
    · have := (h 0 (by omega)).2
      simp only [Int.natCast_zero] at this
      exact (this h0).1 rfl
    · have := (h (s.size - 1) (by omega)).2
      have e : ((s.size - 1 : Nat) : Int) = (s.size : Int) - 1 := by omega
      rw [e] at this
      exact (this hl).2.1 rfl
    · have := ((h (j + 1) (by omega)).2 hb).2.2
      have e : ((j + 1 : Nat) : Int) - 1 = (j : Int) := by omega
      rw [e] at this
      exact this ha
  · rintro ⟨h60, h0, hl, hcc, hch⟩
    refine ⟨⟨fun j hj => ⟨hch j hj, fun h47 => ⟨fun e => ?_, fun e => ?_, fun e => ?_⟩⟩, by omega⟩, by omega⟩
    · rw [e] at h47; exact h0 h47
    · rw [e] at h47; exact hl h47
    · cases j with
      | zero => exact h0 h47
      | succ j =>
        have e2 : ((j + 1 : Nat) : Int) - 1 = (j : Int) := by omega
        rw [e2] at e
        exact hcc j hj e h47

theorem f16_ok : SpecOk rE 16 (.plain gIs) := by
  refine plain_of_run (fx_ok rLib_ok [] f16_live) (fn := Try.f16) (by kernel_rfl) (by decide) (by rfl) (fun args sv h => ?_)
  unfold gIs at h
  split at h
  · rename_i s
    simp only [Option.some.injEq, Prod.mk.injEq, decide_eq_true_eq] at h
    obtain ⟨h1, rfl⟩ := h
    refine ⟨rfl, rfl, s.size + 1, ?_⟩
    show evFun f16_X (s.size + 1) Try.f16 (frz f16_X.Ty Try.f16) [.str s] [] [] = _
    rw [f16_eq, f16_L4_is _ s h1 s.size _ 0 (by omega) (by omega) (by omega), Lib.toList_data, Lib.toList_data]
    show (bif s.data.toList == [] then _ else _) = _
    have hl : s.data.toList.length = s.size := by simp
    by_cases h0 : s.size = 0
    · have : s.data.toList = [] := List.eq_nil_of_length_eq_zero (by omega)
      have hf : isS s = false := by unfold isS; simp [h0]
      rw [hf]
      have : (s.data.toList == []) = true := by rw [this]; rfl
      rw [this]; rfl
    · have : (s.data.toList == []) = false := by
        cases hd : s.data.toList with
        | nil => rw [hd] at hl; simp at hl; omega
        | cons a l => rfl
      have w2 : IntKind.wrap .i64 ((s.size : Int) - 1) = (s.size : Int) - 1 := wrap64 (by omega) (by omega)
      have c1 : (0 : Int) < s.size := by omega
      have c2 : (0 : Int) ≤ (s.size : Int) - 1 := by omega
      have c3 : (s.size : Int) - 1 < s.size := by omega
      rw [this, w2, isS_eq s (by omega)]
      show (bif false then _ else bif decide ((s.size : Int) > 60) then some (SV.bool false) else bif decide ((0 : Int) < s.size) then (bif bAt s 0 == 47 then some (SV.bool false) else bif decide ((0 : Int) ≤ (s.size : Int) - 1) && decide ((s.size : Int) - 1 < s.size) then (bif bAt s ((s.size : Int) - 1) == 47 then some (SV.bool false) else bif decide (s.size < 4294967281) then (bif Lib.contains s.data.toList [47, 47] then some (SV.bool false) else some (SV.bool (chFrom s s.size 0))) else none) else none) else none) = _
      simp only [c1, c2, c3, h1, decide_true, cond_true, cond_false, Bool.and_true, br_bool, br_not]
  · cases h
end Sx

/-
  What the executor says of functions: the normal forms, each compared by the kernel. (Printed by a program.)
-/
set_option linter.unusedVariables false
namespace Sx
open Go Go.Proofs
/-- The slots that are needed at the loops' heads of 'hamper/hamperref16.small'. -/
noncomputable def f80_live : Nat → List Nat × List (Nat × TypeId) := fun h => ([], [])
noncomputable def f80_X : Fx := ⟨tyOf Try.prog, ofList rLib, [], f80_live⟩
/-- The slots that are needed at the loops' heads of 'hamper/hamperlaw23.few'. -/
noncomputable def f15_live : Nat → List Nat × List (Nat × TypeId) := fun h => ([], [])
noncomputable def f15_X : Fx := ⟨tyOf Try.prog, ofList rLib, [], f15_live⟩
set_option maxRecDepth 100000
theorem f80_eq (n : Nat) (c : Int) : evFun f80_X n Try.f80 (frz f80_X.Ty Try.f80) [.int .u8 c] [] [] = bif decide ((65 : Int) ≤ c) then bif decide (c ≤ (90 : Int)) then some (SV.int IntKind.u8 (IntKind.wrap IntKind.u8 (c + (32 : Int)))) else some (SV.int IntKind.u8 c) else some (SV.int IntKind.u8 c) := by kernel_rfl

theorem f15_eq (n : Nat) (s : ByteArray) : evFun f15_X n Try.f15 (frz f15_X.Ty Try.f15) [.str s] [] [] = bif decide ((↑(ByteArray.size s) : Int) > (70 : Int)) then bif decide ((70 : Int) ≤ (↑(ByteArray.size s) : Int)) && true then some (SV.str (ByteArray.extract s (0 : Nat) (70 : Nat))) else none else some (SV.str s) := by kernel_rfl

end Sx

/-
  Small functions: what is looked at of a text, small letters; and the table with both.
-/
namespace Sx
open Go Go.Proofs

def smallI (c : Int) : Int := if 65 ≤ c ∧ c ≤ 90 then c + 32 else c
def gSmall : List SV → Option (Bool × SV)
  | [.int .u8 c] => some (true, .int .u8 (smallI c))
  | _ => none
theorem wrap8 {x : Int} (h0 : 0 ≤ x) (h1 : x ≤ 255) : IntKind.wrap .u8 x = x := by
  simp only [IntKind.wrap, IntKind.signed, IntKind.bits]
  simp
  omega
theorem f80_ok : SpecOk rE 80 (.plain gSmall) := by
  refine plain_of_run (fx_ok rLib_ok [] f80_live) (fn := Try.f80) (by kernel_rfl) (by decide) (by rfl) (fun args sv h => ?_)
  unfold gSmall at h
  split at h
  · rename_i c
    simp only [Option.some.injEq, Prod.mk.injEq, true_and] at h
    subst h
    refine ⟨rfl, rfl, 0, ?_⟩
    show evFun f80_X 0 Try.f80 (frz f80_X.Ty Try.f80) [.int .u8 c] [] [] = _
    rw [f80_eq]
    unfold smallI
    by_cases h1 : 65 ≤ c
    · by_cases h2 : c ≤ 90
      · rw [wrap8 (by omega) (by omega)]
        simp [h1, h2]
      · simp [h1, h2]
    · simp [h1]
  · cases h

def fewS (s : ByteArray) : ByteArray := if 70 < s.size then s.extract 0 70 else s
def gFew : List SV → Option (Bool × SV)
  | [.str s] => some (true, .str (fewS s))
  | _ => none
theorem f15_ok : SpecOk rE 15 (.plain gFew) := by
  refine plain_of_run (fx_ok rLib_ok [] f15_live) (fn := Try.f15) (by kernel_rfl) (by decide) (by rfl) (fun args sv h => ?_)
  unfold gFew at h
  split at h
  · rename_i s
    simp only [Option.some.injEq, Prod.mk.injEq, true_and] at h
    subst h
    refine ⟨rfl, rfl, 0, ?_⟩
    show evFun f15_X 0 Try.f15 (frz f15_X.Ty Try.f15) [.str s] [] [] = _
    rw [f15_eq]
    unfold fewS
    by_cases h1 : 70 < s.size
    · have h2 : ((s.size : Int) > 70) := by omega
      have h3 : ((70 : Int) ≤ s.size) := by omega
      simp [h1, h2, h3]
    · have h2 : ¬ ((s.size : Int) > 70) := by omega
      simp only [h2, h1, decide_false, cond_false, if_false]
  · cases h

def rT1 : List (Nat × Spec) := (80, .plain gSmall) :: (15, .plain gFew) :: (16, .plain gIs) :: (17, .plain gIs) :: rLib
theorem rT1_ok : SpecsOk rE (ofList rT1) := .cons f80_ok (.cons f15_ok (.cons f16_ok (.cons f17_ok rLib_ok)))
end Sx

/-
  The document's Cut: a text at a sign.
-/
namespace Sx
open Go Go.Proofs

/-- A text out of its bytes. -/
def tx (l : List UInt8) : SV := .str ⟨l.toArray⟩
def cutL (c : UInt8) : List UInt8 → List (List UInt8)
  | [] => [[]]
  | b :: l => if b = c then [] :: cutL c l else match cutL c l with
    | h :: t => (b :: h) :: t
    | [] => [[b]]
def glue (a : List UInt8) : List (List UInt8) → List (List UInt8)
  | h :: t => (a ++ h) :: t
  | [] => [a]
theorem glue_nil (c : UInt8) (l : List UInt8) : glue [] (cutL c l) = cutL c l := by
  cases l with
  | nil => rfl
  | cons b l =>
    simp only [cutL]
    split
    · rfl
    · split <;> rfl
theorem glue_one (c : UInt8) (a : List UInt8) (b : UInt8) (l : List UInt8) (h : b ≠ c) : glue a (cutL c (b :: l)) = glue (a ++ [b]) (cutL c l) := by
  simp only [cutL, if_neg h]
  cases cutL c l <;> simp [glue]
theorem glue_cut (c : UInt8) (a : List UInt8) (l : List UInt8) : glue a (cutL c (c :: l)) = a :: cutL c l := by
  simp [cutL, glue]

theorem add_byte (a : List UInt8) (s : ByteArray) (i : Nat) (b : UInt8) (h : s.data.toList[i]? = some b) : (⟨a.toArray⟩ : ByteArray) ++ s.extract i (i + 1) = ⟨(a ++ [b]).toArray⟩ := by
  apply ByteArray.ext
  rw [ByteArray.data_append, ByteArray.data_extract]
  apply Array.ext'
  rw [Array.toList_append, Array.toList_extract]
  simp only [List.extract_eq_take_drop]
  have hj := (List.getElem?_eq_some_iff.1 h).1
  rw [List.drop_eq_getElem_cons hj]
  have e : s.data.toList[i] = b := by rw [List.getElem?_eq_getElem hj] at h; exact Option.some.inj h
  have e2 : i + 1 - i = 1 := by omega
  rw [e2, List.take_succ_cons, List.take_zero, e]

theorem drop_cons (s : ByteArray) (i : Nat) (h : i < s.size) : ∃ b, s.data.toList[i]? = some b ∧ s.data.toList.drop i = b :: s.data.toList.drop (i + 1) ∧ bAt s (i : Int) = (b.toNat : Int) := by
  have hl : s.data.toList.length = s.size := by simp
  have hj : i < s.data.toList.length := by omega
  refine ⟨s.data.toList[i], List.getElem?_eq_getElem hj, List.drop_eq_getElem_cons hj, ?_⟩
  unfold bAt
  rw [Int.toNat_natCast, List.getD_eq_getElem?_getD, List.getElem?_eq_getElem hj]
  rfl

theorem f64_L3_is (n : Nat) (s : ByteArray) (hs : s.size < 4294967281) (c : UInt8) : ∀ (k m i : Nat) (xs : List (List UInt8)) (cur : List UInt8), i + k = s.size → k < m → xs.length ≤ i → cur.length ≤ i →
    f64_L3 n m s (c.toNat : Int) (i : Int) ((xs ++ [cur]).map tx) = some (.lst 9 ((xs ++ glue cur (cutL c (s.data.toList.drop i))).map tx))
  | 0, m, i, xs, cur, hi, hm, hx, hc => by
    obtain ⟨m, rfl⟩ : ∃ m', m = m' + 1 := ⟨m - 1, by omega⟩
    rw [f64_L3_eq]
    have : ¬ ((i : Int) < (s.size : Int)) := by omega
    have hd : s.data.toList.drop i = [] := List.drop_of_length_le (by simp; omega)
    simp only [this, decide_false, cond_false, hd, cutL, glue, List.append_nil]
  | k + 1, m, i, xs, cur, hi, hm, hx, hc => by
    obtain ⟨m, rfl⟩ : ∃ m', m = m' + 1 := ⟨m - 1, by omega⟩
    obtain ⟨b, hb, hd, hat⟩ := drop_cons s i (by omega)
    have w1 : IntKind.wrap .i64 ((i : Int) + 1) = ((i + 1 : Nat) : Int) := by rw [wrap64 (by omega) (by omega)]; omega
    have hlen : ((xs ++ [cur]).map tx).length = xs.length + 1 := by simp
    have w2 : IntKind.wrap .i64 ((((xs ++ [cur]).map tx).length : Int) - 1) = (xs.length : Int) := by rw [hlen, wrap64 (by omega) (by omega)]; omega
    have hlast : ((xs ++ [cur]).map tx).getD xs.length .dead = tx cur := by simp [List.getD]
    rw [f64_L3_eq]
    have c1 : (i : Int) < (s.size : Int) := by omega
    have c2 : (0 : Int) ≤ (i : Int) := by omega
    rw [w1, w2, hat, hd]
    rw [Int.toNat_natCast, hlast, hlen]
    simp only [c1, c2, decide_true, cond_true, Bool.true_and]
    by_cases hbc : b = c
    · subst hbc
      have ih := f64_L3_is n s hs b k m (i + 1) (xs ++ [cur]) [] (by omega) (by omega) (by simp; omega) (by simp)
      have e1 : (xs.length + 1 + 1) * 16 ≤ 140737488355328 := by omega
      have e2 : xs.length + 1 + 1 ≤ 9223372036854775807 := by omega
      simp only [beq_self_eq_true, cond_true, e1, e2, decide_true, Bool.and_true, glue_cut]
      rw [glue_nil] at ih
      have : (xs ++ [cur]).map tx ++ [SV.str { data := #[] }] = ((xs ++ [cur]) ++ [[]]).map tx := by simp [tx]
      rw [this, ih]
      simp
    · have hne : ((b.toNat : Int) == (c.toNat : Int)) = false := by
        simp only [beq_eq_false_iff_ne, ne_eq]
        intro h
        exact hbc (UInt8.toNat_inj.1 (by omega))
      have ih := f64_L3_is n s hs c k m (i + 1) xs (cur ++ [b]) (by omega) (by omega) (by omega) (by simp; omega)
      rw [glue_one c cur b _ hbc]
      simp only [hne, cond_false]
      have d1 : (0 : Int) ≤ (xs.length : Int) := by omega
      have d2 : (xs.length : Int) < ((xs.length + 1 : Nat) : Int) := by omega
      have d3 : (0 : Int) ≤ ((i + 1 : Nat) : Int) := by omega
      have d4 : ((i + 1 : Nat) : Int) ≤ (s.size : Int) := by omega
      have d5 : (i : Int) ≤ ((i + 1 : Nat) : Int) := by omega
      have hcell : asStr ((cellsOf (tx cur)).getD 0 .dead) = ⟨cur.toArray⟩ := rfl
      have happ := add_byte cur s i b hb
      have d6 : Nat.ble ((⟨cur.toArray⟩ : ByteArray).size + (s.extract i (i + 1)).size) 9223372036854775807 = true := by
        apply Nat.ble_eq_true_of_le
        have h1 : (⟨cur.toArray⟩ : ByteArray).size = cur.length := by simp [ByteArray.size]
        have h2 : (s.extract i (i + 1)).size ≤ 1 := by rw [ByteArray.size_extract]; omega
        omega
      have hset : ((xs ++ [cur]).map tx).set xs.length (SV.str ⟨(cur ++ [b]).toArray⟩) = (xs ++ [cur ++ [b]]).map tx := by
        rw [List.map_append, List.map_append, List.set_append_right _ _ (by simp)]
        simp [tx]
      simp only [hcell, Int.toNat_natCast, happ, d1, d2, d3, d4, d5, d6, decide_true, cond_true, Bool.and_true, hset]
      exact ih

def gCut16 : List SV → Option (Bool × SV)
  | [.str s, .int .u8 c] => some (decide (s.size < 4294967281) && decide (0 ≤ c) && decide (c ≤ 255), .lst 9 ((cutL c.toNat.toUInt8 s.data.toList).map tx))
  | _ => none
theorem f64_ok : SpecOk rE 64 (.plain gCut16) := by
  refine plain_of_run (fx_ok rLib_ok [] f64_live) (fn := Try.f64) (by kernel_rfl) (by decide) (by rfl) (fun args sv h => ?_)
  unfold gCut16 at h
  split at h
  · rename_i s c
    simp only [Option.some.injEq, Prod.mk.injEq, Bool.and_eq_true, decide_eq_true_eq] at h
    obtain ⟨⟨⟨h1, h2⟩, h3⟩, rfl⟩ := h
    refine ⟨rfl, rfl, s.size + 1, ?_⟩
    show evFun f64_X (s.size + 1) Try.f64 (frz f64_X.Ty Try.f64) [.str s, .int .u8 c] [] [] = _
    have hc : ((c.toNat.toUInt8).toNat : Int) = c := by
      simp
      omega
    have := f64_L3_is (s.size + 1) s h1 c.toNat.toUInt8 s.size (s.size + 1) 0 [] [] (by omega) (by omega) (by simp) (by simp)
    rw [hc] at this
    rw [f64_eq]
    simp only [List.nil_append, glue_nil, List.drop_zero] at this
    exact this
  · cases h
end Sx

/-
  What the executor says of functions: the normal forms, each compared by the kernel. (Printed by a program.)
-/
set_option linter.unusedVariables false
namespace Sx
open Go Go.Proofs
/-- The slots that are needed at the loops' heads of 'hamper/hamperref16.Alike'. -/
noncomputable def f65_live : Nat → List Nat × List (Nat × TypeId) := fun h => bif Nat.beq h 4 then ([0, 1, 5], nilsOf (tyOf Try.prog) [(0, 9), (1, 9), (5, 3)]) else ([], [])
noncomputable def f65_X : Fx := ⟨tyOf Try.prog, ofList rT1, [], f65_live⟩
set_option maxRecDepth 100000
def f65_st4 (x0 : ByteArray) (x1 : ByteArray) (x2 : Int) : St := {
  slots :=
    [SV.str x0, SV.str x1, SV.dead, SV.dead, SV.dead, SV.int IntKind.i64 x2, SV.dead, SV.dead, SV.dead, SV.dead, SV.dead, SV.dead, SV.dead, SV.dead, SV.dead, SV.dead, SV.dead, SV.dead, SV.dead, SV.dead, SV.dead, SV.dead,
      SV.dead, SV.dead, SV.dead, SV.dead],
  mem := [], used := [] : St }
noncomputable def f65_L4 (n m : Nat) (x0 : ByteArray) (x1 : ByteArray) (x2 : Int) : Option SV := atLoop f65_X Try.f65 (frz f65_X.Ty Try.f65) n [.r, .r, .l, .r, .b] m (f65_st4 x0 x1 x2)
theorem f65_L4_eq (n m : Nat) (x0 : ByteArray) (x1 : ByteArray) (x2 : Int) : f65_L4 n (m + 1) x0 x1 x2 = bif decide (x2 < (↑(ByteArray.size x0) : Int)) then
  bif decide ((0 : Int) ≤ x2) && decide (x2 < (↑(ByteArray.size x0) : Int)) then
    bif decide ((0 : Int) ≤ x2) && decide (x2 < (↑(ByteArray.size x1) : Int)) then bif smallI (bAt x0 x2) != smallI (bAt x1 x2) then some (SV.bool false) else f65_L4 n m x0 x1 (IntKind.wrap IntKind.i64 (x2 + (1 : Int)))
    else none
  else none
  else some (SV.bool true) := by kernel_rfl

theorem f65_eq (n : Nat) (s : ByteArray) (t : ByteArray) : evFun f65_X n Try.f65 (frz f65_X.Ty Try.f65) [.str s, .str t] [] [] = bif (↑(ByteArray.size s) : Int) != (↑(ByteArray.size t) : Int) then some (SV.bool false) else f65_L4 n n s t (0 : Int) := by kernel_rfl

end Sx

/-
  The document's Alike: two texts alike but for great and small letters.
-/
namespace Sx
open Go Go.Proofs

def alFrom (a b : ByteArray) : Nat → Int → Bool
  | 0, _ => true
  | k + 1, i => (smallI (bAt a i) == smallI (bAt b i)) && alFrom a b k (i + 1)
def alikeB (a b : ByteArray) : Bool := ((a.size : Int) == (b.size : Int)) && alFrom a b a.size 0

theorem f65_L4_is (n : Nat) (a b : ByteArray) (hs : a.size < 4294967281) (hab : a.size = b.size) : ∀ (k m : Nat) (i : Int), 0 ≤ i → i + k = a.size → k < m → f65_L4 n m a b i = some (.bool (alFrom a b k i))
  | 0, m, i, h0, hi, hm => by
    obtain ⟨m, rfl⟩ : ∃ m', m = m' + 1 := ⟨m - 1, by omega⟩
    rw [f65_L4_eq]
    have : ¬ (i < (a.size : Int)) := by omega
    simp only [this, decide_false, cond_false, alFrom]
  | k + 1, m, i, h0, hi, hm => by
    obtain ⟨m, rfl⟩ : ∃ m', m = m' + 1 := ⟨m - 1, by omega⟩
    have ih := f65_L4_is n a b hs hab k m (i + 1) (by omega) (by omega) (by omega)
    have w1 : IntKind.wrap .i64 (i + 1) = i + 1 := wrap64 (by omega) (by omega)
    rw [f65_L4_eq, w1, ih]
    have h1 : i < (a.size : Int) := by omega
    have h2 : i < (b.size : Int) := by omega
    simp only [h0, h1, h2, decide_true, cond_true, Bool.and_true, alFrom, bne, br_bool, br_not, Bool.not_not]

def gAlike : List SV → Option (Bool × SV)
  | [.str a, .str b] => some (decide (a.size < 4294967281), .bool (alikeB a b))
  | _ => none
theorem f65_ok : SpecOk rE 65 (.plain gAlike) := by
  refine plain_of_run (fx_ok rT1_ok [] f65_live) (fn := Try.f65) (by kernel_rfl) (by decide) (by rfl) (fun args sv h => ?_)
  unfold gAlike at h
  split at h
  · rename_i a b
    simp only [Option.some.injEq, Prod.mk.injEq, decide_eq_true_eq] at h
    obtain ⟨h1, rfl⟩ := h
    refine ⟨rfl, rfl, a.size + 1, ?_⟩
    show evFun f65_X (a.size + 1) Try.f65 (frz f65_X.Ty Try.f65) [.str a, .str b] [] [] = _
    rw [f65_eq]
    unfold alikeB
    by_cases hab : a.size = b.size
    · rw [f65_L4_is _ a b h1 hab a.size _ 0 (by omega) (by omega) (by omega), hab]
      simp
    · have h2 : ((a.size : Int) == (b.size : Int)) = false := by
        simp only [beq_eq_false_iff_ne, ne_eq]; omega
      simp only [bne, h2, Bool.not_false, cond_true, Bool.false_and]
  · cases h

def rT2 : List (Nat × Spec) := (65, .plain gAlike) :: (64, .plain gCut16) :: rT1
theorem rT2_ok : SpecsOk rE (ofList rT2) := .cons f65_ok (.cons f64_ok rT1_ok)
end Sx

/-
  What the executor says of functions: the normal forms, each compared by the kernel. (Printed by a program.)
-/
set_option linter.unusedVariables false
namespace Sx
open Go Go.Proofs
/-- The slots that are needed at the loops' heads of 'hamper/hamperref23.Inbox'. -/
noncomputable def f43_live : Nat → List Nat × List (Nat × TypeId) := fun h => ([], [])
noncomputable def f43_X : Fx := ⟨tyOf Try.prog, ofList rT2, [], f43_live⟩
set_option maxRecDepth 100000
theorem f43_eq (n : Nat) (s : ByteArray) : evFun f43_X n Try.f43 (frz f43_X.Ty Try.f43) [.str s] [] [] = bif decide (ByteArray.size s < (4294967281 : Nat)) && true && true then
  bif decide ((0 : Int) < (↑(List.length (List.map tx (cutL (Nat.toUInt8 (47 : Nat)) s.data.toList))) : Int)) then
    bif decide (ByteArray.size (asStr (List.getD (cellsOf (List.getD (List.map tx (cutL (Nat.toUInt8 (47 : Nat)) s.data.toList)) (0 : Nat) SV.dead)) (0 : Nat) SV.dead)) < (4294967281 : Nat)) then
      bif
          alikeB (asStr (List.getD (cellsOf (List.getD (List.map tx (cutL (Nat.toUInt8 (47 : Nat)) s.data.toList)) (0 : Nat) SV.dead)) (0 : Nat) SV.dead))
            { data := #[(73 : UInt8), (78 : UInt8), (66 : UInt8), (79 : UInt8), (88 : UInt8)] : ByteArray } then
        bif decide ((5 : Int) ≤ (↑(ByteArray.size s) : Int)) then
          bif Nat.ble ((5 : Nat) + ByteArray.size (ByteArray.extract s (5 : Nat) (Int.toNat (↑(ByteArray.size s) : Int)))) (9223372036854775807 : Nat) then
            some (SV.str ({ data := #[(73 : UInt8), (78 : UInt8), (66 : UInt8), (79 : UInt8), (88 : UInt8)] : ByteArray } ++ ByteArray.extract s (5 : Nat) (Int.toNat (↑(ByteArray.size s) : Int))))
          else none
        else none
      else some (SV.str s)
    else none
  else none
  else none := by kernel_rfl

end Sx

/-
  A text whose first level is INBOX: the document's.
-/
namespace Sx
open Go Go.Proofs

def firstL (l : List UInt8) : List UInt8 := l.takeWhile (· != 47)
theorem cutL_cons (l : List UInt8) : ∃ t, cutL 47 l = firstL l :: t := by
  induction l with
  | nil => exact ⟨[], rfl⟩
  | cons b l ih =>
    obtain ⟨t, ht⟩ := ih
    simp only [cutL]
    by_cases h : b = 47
    · subst h
      rw [if_pos rfl]
      exact ⟨_, rfl⟩
    · rw [if_neg h, ht]
      refine ⟨t, ?_⟩
      have : (b != 47) = true := by simpa using h
      simp only [firstL, List.takeWhile_cons, this, if_true]
theorem firstL_le (l : List UInt8) : (firstL l).length ≤ l.length := (List.takeWhile_sublist _).length_le
def headB (s : ByteArray) : ByteArray := ⟨(firstL s.data.toList).toArray⟩
theorem headB_size (s : ByteArray) : (headB s).size ≤ s.size := by
  have := firstL_le s.data.toList
  simp only [headB, ByteArray.size, List.size_toArray]
  simpa using this
def inboxC : ByteArray := { data := #[73, 78, 66, 79, 88] }
def inboxS (s : ByteArray) : ByteArray := if alikeB (headB s) inboxC then inboxC ++ s.extract 5 s.size else s
theorem alike_five {a : ByteArray} (h : alikeB a inboxC = true) : a.size = 5 := by
  unfold alikeB at h
  simp only [Bool.and_eq_true, beq_iff_eq] at h
  have : inboxC.size = 5 := rfl
  omega

def gInbox : List SV → Option (Bool × SV)
  | [.str s] => some (decide (s.size < 4294967281), .str (inboxS s))
  | _ => none
theorem f43_ok : SpecOk rE 43 (.plain gInbox) := by
  refine plain_of_run (fx_ok rT2_ok [] f43_live) (fn := Try.f43) (by kernel_rfl) (by decide) (by rfl) (fun args sv h => ?_)
  unfold gInbox at h
  split at h
  · rename_i s
    simp only [Option.some.injEq, Prod.mk.injEq, decide_eq_true_eq] at h
    obtain ⟨h1, rfl⟩ := h
    refine ⟨rfl, rfl, 0, ?_⟩
    show evFun f43_X 0 Try.f43 (frz f43_X.Ty Try.f43) [.str s] [] [] = _
    rw [f43_eq]
    obtain ⟨t, ht⟩ := cutL_cons s.data.toList
    have ht : cutL (Nat.toUInt8 47) s.data.toList = firstL s.data.toList :: t := ht
    have hhead : asStr (((((cutL (Nat.toUInt8 47) s.data.toList).map tx).getD 0 .dead) |> cellsOf).getD 0 .dead) = headB s := by rw [ht]; rfl
    have hlen : (0 : Int) < (((cutL (Nat.toUInt8 47) s.data.toList).map tx).length : Int) := by rw [ht]; simp
    have hsz := headB_size s
    have h2 : (headB s).size < 4294967281 := by omega
    show (bif decide (s.size < 4294967281) && true && true then bif decide ((0 : Int) < (((cutL (Nat.toUInt8 47) s.data.toList).map tx).length : Int)) then _ else _ else _) = _
    simp only [hhead, hlen, h1, h2, decide_true, Bool.and_self, cond_true]
    show (bif alikeB (headB s) inboxC then bif decide ((5 : Int) ≤ (s.size : Int)) then bif Nat.ble (5 + (s.extract 5 s.size).size) 9223372036854775807 then some (SV.str (inboxC ++ s.extract 5 s.size)) else none else none else some (SV.str s)) = _
    unfold inboxS
    cases ha : alikeB (headB s) inboxC with
    | false => rfl
    | true =>
      have h5 := alike_five ha
      have c1 : (5 : Int) ≤ (s.size : Int) := by omega
      have c2 : Nat.ble (5 + (s.extract 5 s.size).size) 9223372036854775807 = true := by
        apply Nat.ble_eq_true_of_le
        rw [ByteArray.size_extract]; omega
      simp only [c1, c2, decide_true, cond_true, if_true]
  · cases h
end Sx

/-
  A text whose first level is INBOX: the program's.
-/
namespace Sx
open Go Go.Proofs

theorem cut_first (l : List UInt8) : (Lib.cut l [47]).1 = firstL l := by
  have key : ∀ l : List UInt8, (0 ≤ Lib.index l [47] → l.take (Lib.index l [47]).toNat = firstL l) ∧ (¬ 0 ≤ Lib.index l [47] → l = firstL l) := by
    intro l
    induction l with
    | nil => exact ⟨fun _ => by simp [firstL], fun _ => rfl⟩
    | cons b l ih =>
      have hge := Lib.index_ge l [47]
      rw [Lib.index]
      by_cases hb : b = 47
      · subst hb
        have : List.isPrefixOf [47] ((47 : UInt8) :: l) = true := by simp [List.isPrefixOf]
        rw [if_pos this]
        exact ⟨fun _ => rfl, fun h => absurd (Int.le_refl 0) h⟩
      · have : ¬ List.isPrefixOf [47] (b :: l) = true := by simp [List.isPrefixOf]; exact fun h => hb h.symm
        rw [if_neg this]
        have hbe : (b != 47) = true := by simpa using hb
        have hf : firstL (b :: l) = b :: firstL l := by simp only [firstL, List.takeWhile_cons, hbe, if_true]
        rw [hf]
        by_cases h2 : Lib.index l [47] = -1
        · rw [h2]
          refine ⟨fun h => by simp at h, fun _ => ?_⟩
          have := ih.2 (by omega)
          rw [← this]
        · have h3 : (Lib.index l [47] == -1) = false := by simpa using h2
          rw [h3]
          simp only [Bool.false_eq_true, if_false]
          refine ⟨fun _ => ?_, fun h => by omega⟩
          have e : (Lib.index l [47] + 1).toNat = (Lib.index l [47]).toNat + 1 := by omega
          rw [e, List.take_succ_cons, ih.1 (by omega)]
  unfold Lib.cut
  split
  · rename_i h; exact (key l).1 h
  · rename_i h; exact (key l).2 h

def up8 (b : UInt8) : UInt8 := if 97 ≤ b.toNat ∧ b.toNat ≤ 122 then b - 32 else b
def by8 (b : UInt8) : SV := .int .u8 (b.toNat : Int)
theorem up8_nat (b : UInt8) (h : 97 ≤ b.toNat ∧ b.toNat ≤ 122) : ((up8 b).toNat : Int) = (b.toNat : Int) - 32 := by
  unfold up8
  rw [if_pos h, UInt8.toNat_sub_of_le]
  · have : (32 : UInt8).toNat = 32 := rfl
    omega
  · rw [UInt8.le_iff_toNat_le]
    have : (32 : UInt8).toNat = 32 := rfl
    omega

/-- What follows the loop. -/
def tailIn (s : ByteArray) (l : List UInt8) : Option SV :=
  bif !(strOf (l.map by8)).toList == inboxC.toList then some (SV.str s)
  else bif decide ((5 : Int) ≤ (s.size : Int)) then (bif Nat.ble (inboxC.size + (s.extract (Int.toNat 5) (Int.toNat (s.size : Int))).size) 9223372036854775807 then some (SV.str (inboxC ++ s.extract 5 (Int.toNat (s.size : Int)))) else none) else none

theorem f42_L6_is (n : Nat) (s : ByteArray) : ∀ (rest done : List UInt8) (m : Nat), done.length + rest.length < 4294967281 → rest.length < m →
    f42_L6 n m s ((done.length + rest.length : Nat) : Int) (done.length : Int) ((done ++ rest).map by8) = tailIn s (done ++ rest.map up8)
  | [], done, m, hl, hm => by
    obtain ⟨m, rfl⟩ : ∃ m', m = m' + 1 := ⟨m - 1, by omega⟩
    rw [f42_L6_eq]
    have : ¬ ((done.length : Int) < ((done.length + ([] : List UInt8).length : Nat) : Int)) := by simp
    simp only [this, decide_false, cond_false, List.append_nil, List.map_nil]
    rfl
  | b :: rest, done, m, hl, hm => by
    obtain ⟨m, rfl⟩ : ∃ m', m = m' + 1 := ⟨m - 1, by omega⟩
    simp only [List.length_cons] at hl hm
    have ih := f42_L6_is n s rest (done ++ [up8 b]) m (by simp; omega) (by omega)
    have w1 : IntKind.wrap .i64 ((done.length : Int) + 1) = ((done.length + 1 : Nat) : Int) := by rw [wrap64 (by omega) (by omega)]; omega
    have hlen : ((done ++ b :: rest).map by8).length = done.length + (b :: rest).length := by simp
    have hget : asInt ((cellsOf (((done ++ b :: rest).map by8).getD done.length .dead)).getD 0 .dead) = (b.toNat : Int) := by
      simp [List.getD, by8, cellsOf, asInt]
    have c1 : (done.length : Int) < ((done.length + (b :: rest).length : Nat) : Int) := by simp; omega
    have c2 : (0 : Int) ≤ (done.length : Int) := by omega
    have el : (done ++ [up8 b]).length = done.length + 1 := by simp
    have el2 : done.length + 1 + rest.length = done.length + (b :: rest).length := by simp; omega
    rw [el, el2] at ih
    have er : done ++ (b :: rest).map up8 = done ++ [up8 b] ++ rest.map up8 := by simp
    rw [f42_L6_eq, w1, Int.toNat_natCast, hget, hlen, er]
    simp only [c1, c2, decide_true, cond_true, Bool.and_true]
    have same : ¬ (97 ≤ b.toNat ∧ b.toNat ≤ 122) → done ++ b :: rest = done ++ [up8 b] ++ rest := fun h => by unfold up8; rw [if_neg h]; simp
    by_cases h1 : 97 ≤ b.toNat
    · have g1 : ((b.toNat : Int) ≥ 97) := by omega
      simp only [g1, decide_true, cond_true]
      by_cases h2 : b.toNat ≤ 122
      · have g2 : ((b.toNat : Int) ≤ 122) := by omega
        simp only [g2, decide_true, cond_true]
        have hset : ((done ++ b :: rest).map by8).set done.length (SV.int .u8 (IntKind.wrap .u8 ((b.toNat : Int) - 32))) = (done ++ [up8 b] ++ rest).map by8 := by
          rw [wrap8 (by omega) (by omega), ← up8_nat b ⟨h1, h2⟩]
          rw [List.map_append, List.set_append_right _ _ (by simp)]
          simp [by8]
        rw [hset]; exact ih
      · have g2 : ¬ ((b.toNat : Int) ≤ 122) := by omega
        simp only [g2, decide_false, cond_false]
        rw [same (by omega)]; exact ih
    · have g1 : ¬ ((b.toNat : Int) ≥ 97) := by omega
      simp only [g1, decide_false, cond_false]
      rw [same (by omega)]; exact ih

theorem byte_eq (a t : UInt8) (h : 65 ≤ t.toNat ∧ t.toNat ≤ 90) : (up8 a == t) = (smallI (a.toNat : Int) == (t.toNat : Int) + 32) := by
  rw [Bool.eq_iff_iff]
  simp only [beq_iff_eq]
  by_cases h1 : 97 ≤ a.toNat ∧ a.toNat ≤ 122
  · have hu := up8_nat a h1
    have hs : smallI (a.toNat : Int) = a.toNat := by unfold smallI; rw [if_neg (by omega)]
    rw [hs]
    constructor
    · intro e; rw [e] at hu; omega
    · intro e; exact UInt8.toNat_inj.1 (by omega)
  · have hu : up8 a = a := by unfold up8; rw [if_neg h1]
    rw [hu]
    unfold smallI
    by_cases h2 : 65 ≤ (a.toNat : Int) ∧ (a.toNat : Int) ≤ 90
    · rw [if_pos h2]
      constructor
      · intro e; rw [e]
      · intro e; exact UInt8.toNat_inj.1 (by omega)
    · rw [if_neg h2]
      constructor
      · intro e; rw [e] at h2; omega
      · intro e; omega

theorem strOf_by8 (l : List UInt8) : strOf (l.map by8) = ⟨l.toArray⟩ := by
  unfold strOf
  congr 1
  rw [List.map_map]
  congr 1
  have : ((fun x => (asInt x).toNat.toUInt8) ∘ by8) = id := by
    funext b
    simp [by8, asInt]
  rw [this, List.map_id]

theorem alike_list (l : List UInt8) (h : l.length = 5) : (l.map up8 == [73, 78, 66, 79, 88]) = alikeB ⟨l.toArray⟩ inboxC := by
  match l, h with
  | [a, b, c, d, e], _ =>
    show _ = (((5 : Nat) : Int) == ((5 : Nat) : Int) && ((smallI (a.toNat : Int) == smallI 73) && ((smallI (b.toNat : Int) == smallI 78) && ((smallI (c.toNat : Int) == smallI 66) && ((smallI (d.toNat : Int) == smallI 79) && ((smallI (e.toNat : Int) == smallI 88) && true))))))
    have e1 := byte_eq a 73 (by decide)
    have e2 := byte_eq b 78 (by decide)
    have e3 := byte_eq c 66 (by decide)
    have e4 := byte_eq d 79 (by decide)
    have e5 := byte_eq e 88 (by decide)
    show ((up8 a == 73) && ((up8 b == 78) && ((up8 c == 66) && ((up8 d == 79) && ((up8 e == 88) && true))))) = _
    rw [e1, e2, e3, e4, e5]
    rfl

theorem f42_ok : SpecOk rE 42 (.plain gInbox) := by
  refine plain_of_run (fx_ok rLib_ok [] f42_live) (fn := Try.f42) (by kernel_rfl) (by decide) (by rfl) (fun args sv h => ?_)
  unfold gInbox at h
  split at h
  · rename_i s
    simp only [Option.some.injEq, Prod.mk.injEq, decide_eq_true_eq] at h
    obtain ⟨h1, rfl⟩ := h
    refine ⟨rfl, rfl, s.size + 1, ?_⟩
    show evFun f42_X (s.size + 1) Try.f42 (frz f42_X.Ty Try.f42) [.str s] [] [] = _
    rw [f42_eq]
    have hcut : (Lib.cut s.data.toList ({ data := #[47] } : ByteArray).data.toList).1 = firstL s.data.toList := cut_first _
    rw [hcut]
    have hsz := headB_size s
    have hln : (firstL s.data.toList).length = (headB s).size := by simp [headB, ByteArray.size]
    show (bif decide (s.size < 4294967281) then (bif ((headB s).size : Int) != 5 then some (SV.str s) else bif decide ((headB s).size ≤ 140737488355328) then f42_L6 (s.size + 1) (s.size + 1) s (((firstL s.data.toList).map by8).length : Int) 0 ((firstL s.data.toList).map by8) else none) else none) = _
    simp only [h1, decide_true, cond_true]
    unfold inboxS
    by_cases h5 : (headB s).size = 5
    · have c1 : (((headB s).size : Int) != 5) = false := by rw [h5]; rfl
      have c2 : (headB s).size ≤ 140737488355328 := by omega
      have hloop := f42_L6_is (s.size + 1) s (firstL s.data.toList) [] (s.size + 1) (by simp; omega) (by omega)
      simp only [List.length_nil, Nat.zero_add, List.nil_append] at hloop
      simp only [c1, c2, decide_true, cond_true, cond_false, List.length_map]
      rw [show (0 : Int) = ((0 : Nat) : Int) from rfl, hloop]
      unfold tailIn
      rw [strOf_by8, Lib.toList_data, Lib.toList_data]
      show (bif !((firstL s.data.toList).map up8 == [73, 78, 66, 79, 88]) then _ else _) = _
      rw [alike_list _ (by omega)]
      show (bif !alikeB (headB s) inboxC then _ else _) = _
      cases ha : alikeB (headB s) inboxC with
      | false => rfl
      | true =>
        have d1 : (5 : Int) ≤ (s.size : Int) := by omega
        have d2 : Nat.ble (inboxC.size + (s.extract (Int.toNat 5) s.size).size) 9223372036854775807 = true := by
          apply Nat.ble_eq_true_of_le
          rw [ByteArray.size_extract]
          have : inboxC.size = 5 := rfl
          omega
        simp only [d1, d2, decide_true, cond_true, Bool.not_true, cond_false, if_true, Int.toNat_natCast]
    · have c1 : (((headB s).size : Int) != 5) = true := by
        simp only [bne, Bool.not_eq_true', beq_eq_false_iff_ne, ne_eq]; omega
      have ha : alikeB (headB s) inboxC = false := by
        rw [← Bool.not_eq_true]; intro h; exact h5 (alike_five h)
      simp only [c1, cond_true, ha, Bool.false_eq_true, if_false]
  · cases h

def rT3 : List (Nat × Spec) := (42, .plain gInbox) :: (43, .plain gInbox) :: rT2
theorem rT3_ok : SpecsOk rE (ofList rT3) := .cons f42_ok (.cons f43_ok rT2_ok)
end Sx

/-
  What the executor says of functions: the normal forms, each compared by the kernel. (Printed by a program.)
-/
set_option linter.unusedVariables false
namespace Sx
open Go Go.Proofs
/-- The slots that are needed at the loops' heads of 'hamper/name.Told'. -/
noncomputable def f18_live : Nat → List Nat × List (Nat × TypeId) := fun h => ([], [])
noncomputable def f18_X : Fx := ⟨tyOf Try.prog, ofList rT3, [], f18_live⟩
/-- The slots that are needed at the loops' heads of 'hamper/hamperref23.Told'. -/
noncomputable def f19_live : Nat → List Nat × List (Nat × TypeId) := fun h => ([], [])
noncomputable def f19_X : Fx := ⟨tyOf Try.prog, ofList rT3, [], f19_live⟩
set_option maxRecDepth 100000
theorem f18_eq (n : Nat) (s : ByteArray) : evFun f18_X n Try.f18 (frz f18_X.Ty Try.f18) [.str s] [] [] = bif decide (ByteArray.size s < (4294967281 : Nat)) then bif !isS s then some (SV.str s) else bif decide (ByteArray.size s < (4294967281 : Nat)) then some (SV.str (inboxS s)) else none else none := by kernel_rfl

theorem f19_eq (n : Nat) (s : ByteArray) : evFun f19_X n Try.f19 (frz f19_X.Ty Try.f19) [.str s] [] [] = bif decide (ByteArray.size s < (4294967281 : Nat)) then bif isS s then bif decide (ByteArray.size s < (4294967281 : Nat)) then some (SV.str (inboxS s)) else none else some (SV.str s) else none := by kernel_rfl

end Sx

/-
  A name as it is told: the program's and the document's.
-/
namespace Sx
open Go Go.Proofs

def toldS (s : ByteArray) : ByteArray := if isS s then inboxS s else s
def gTold : List SV → Option (Bool × SV)
  | [.str s] => some (decide (s.size < 4294967281), .str (toldS s))
  | _ => none
theorem f18_ok : SpecOk rE 18 (.plain gTold) := by
  refine plain_of_run (fx_ok rT3_ok [] f18_live) (fn := Try.f18) (by kernel_rfl) (by decide) (by rfl) (fun args sv h => ?_)
  unfold gTold at h
  split at h
  · rename_i s
    simp only [Option.some.injEq, Prod.mk.injEq, decide_eq_true_eq] at h
    obtain ⟨h1, rfl⟩ := h
    refine ⟨rfl, rfl, 0, ?_⟩
    show evFun f18_X 0 Try.f18 (frz f18_X.Ty Try.f18) [.str s] [] [] = _
    rw [f18_eq]
    unfold toldS
    simp only [h1, decide_true, cond_true]
    cases isS s <;> rfl
  · cases h
theorem f19_ok : SpecOk rE 19 (.plain gTold) := by
  refine plain_of_run (fx_ok rT3_ok [] f19_live) (fn := Try.f19) (by kernel_rfl) (by decide) (by rfl) (fun args sv h => ?_)
  unfold gTold at h
  split at h
  · rename_i s
    simp only [Option.some.injEq, Prod.mk.injEq, decide_eq_true_eq] at h
    obtain ⟨h1, rfl⟩ := h
    refine ⟨rfl, rfl, 0, ?_⟩
    show evFun f19_X 0 Try.f19 (frz f19_X.Ty Try.f19) [.str s] [] [] = _
    rw [f19_eq]
    unfold toldS
    simp only [h1, decide_true, cond_true]
    cases isS s <;> rfl
  · cases h
def rT4 : List (Nat × Spec) := (18, .plain gTold) :: (19, .plain gTold) :: rT3
theorem rT4_ok : SpecsOk rE (ofList rT4) := .cons f18_ok (.cons f19_ok rT3_ok)
end Sx

/-
  What the executor says of functions: the normal forms, each compared by the kernel. (Printed by a program.)
-/
set_option linter.unusedVariables false
namespace Sx
open Go Go.Proofs
/-- The slots that are needed at the loops' heads of 'hamper/name.Up'. -/
noncomputable def f20_live : Nat → List Nat × List (Nat × TypeId) := fun h => ([], [])
noncomputable def f20_X : Fx := ⟨tyOf Try.prog, ofList rT4, [], f20_live⟩
/-- The slots that are needed at the loops' heads of 'hamper/hamperref23.Up'. -/
noncomputable def f21_live : Nat → List Nat × List (Nat × TypeId) := fun h => bif Nat.beq h 5 then ([3, 4], nilsOf (tyOf Try.prog) [(3, 9), (4, 3)]) else ([], [])
noncomputable def f21_X : Fx := ⟨tyOf Try.prog, ofList rT4, [], f21_live⟩
/-- The slots that are needed at the loops' heads of 'hamper/name.Under'. -/
noncomputable def f22_live : Nat → List Nat × List (Nat × TypeId) := fun h => ([], [])
noncomputable def f22_X : Fx := ⟨tyOf Try.prog, ofList rT4, [], f22_live⟩
/-- The slots that are needed at the loops' heads of 'hamper/hamperref23.Under'. -/
noncomputable def f23_live : Nat → List Nat × List (Nat × TypeId) := fun h => ([], [])
noncomputable def f23_X : Fx := ⟨tyOf Try.prog, ofList rT4, [], f23_live⟩
set_option maxRecDepth 100000
theorem f20_eq (n : Nat) (s : ByteArray) : evFun f20_X n Try.f20 (frz f20_X.Ty Try.f20) [.str s] [] [] = bif decide (ByteArray.size s < (4611686018427387904 : Nat)) then
  bif decide (ByteArray.size s < (4294967281 : Nat)) then
    bif !isS s then some (SV.str { data := #[] : ByteArray })
    else
      bif decide (Lib.lastIndexByte s (47 : Int) < (0 : Int)) then some (SV.str { data := #[] : ByteArray })
      else
        bif decide (ByteArray.size s < (4294967281 : Nat)) then
          bif decide ((0 : Int) ≤ Lib.lastIndexByte s (47 : Int)) && decide (Lib.lastIndexByte s (47 : Int) ≤ (↑(ByteArray.size (toldS s)) : Int)) && true then
            some (SV.str (ByteArray.extract (toldS s) (0 : Nat) (Int.toNat (Lib.lastIndexByte s (47 : Int)))))
          else none
        else none
  else none
  else none := by kernel_rfl

def f21_st5 (x0 : ByteArray) (x1 : Int) : St := {
  slots :=
    [SV.dead, SV.dead, SV.dead, SV.str x0, SV.int IntKind.i64 x1, SV.dead, SV.dead, SV.dead, SV.dead, SV.dead, SV.dead, SV.dead, SV.dead, SV.dead, SV.dead, SV.dead, SV.dead, SV.dead, SV.dead, SV.dead, SV.dead, SV.dead,
      SV.dead, SV.dead],
  mem := [], used := [] : St }
noncomputable def f21_L5 (n m : Nat) (x0 : ByteArray) (x1 : Int) : Option SV := atLoop f21_X Try.f21 (frz f21_X.Ty Try.f21) n [.r, .r, .r, .l, .r, .b] m (f21_st5 x0 x1)
theorem f21_L5_eq (n m : Nat) (x0 : ByteArray) (x1 : Int) : f21_L5 n (m + 1) x0 x1 = bif decide (x1 ≥ (0 : Int)) then
  bif decide ((0 : Int) ≤ x1) && decide (x1 < (↑(ByteArray.size x0) : Int)) then
    bif bAt x0 x1 == (47 : Int) then bif decide ((0 : Int) ≤ x1) && decide (x1 ≤ (↑(ByteArray.size x0) : Int)) && true then some (SV.str (ByteArray.extract x0 (0 : Nat) (Int.toNat x1))) else none
    else f21_L5 n m x0 (IntKind.wrap IntKind.i64 (x1 - (1 : Int)))
  else none
  else some (SV.str { data := #[] : ByteArray }) := by kernel_rfl

theorem f21_eq (n : Nat) (s : ByteArray) : evFun f21_X n Try.f21 (frz f21_X.Ty Try.f21) [.str s] [] [] = bif decide (ByteArray.size s < (4294967281 : Nat)) then
  bif !isS s then some (SV.str { data := #[] : ByteArray })
  else bif decide (ByteArray.size s < (4294967281 : Nat)) then f21_L5 n n (toldS s) (IntKind.wrap IntKind.i64 ((↑(ByteArray.size (toldS s)) : Int) - (1 : Int))) else none
  else none := by kernel_rfl

theorem f22_eq (n : Nat) (s : ByteArray) (t : ByteArray) : evFun f22_X n Try.f22 (frz f22_X.Ty Try.f22) [.str s, .str t] [] [] = bif decide (ByteArray.size s < (4294967281 : Nat)) then
  bif isS s then
    bif decide (ByteArray.size t < (4294967281 : Nat)) then
      bif isS t then
        bif decide (ByteArray.size s < (4294967281 : Nat)) then
          bif decide (ByteArray.size t < (4294967281 : Nat)) then
            bif Nat.ble (ByteArray.size (toldS t) + (1 : Nat)) (9223372036854775807 : Nat) then some (SV.bool (Lib.hasPrefix (toldS s).data.toList (toldS t ++ { data := #[(47 : UInt8)] : ByteArray }).data.toList))
            else none
          else none
        else none
      else some (SV.bool false)
    else none
  else some (SV.bool false)
  else none := by kernel_rfl

theorem f23_eq (n : Nat) (s : ByteArray) (t : ByteArray) : evFun f23_X n Try.f23 (frz f23_X.Ty Try.f23) [.str s, .str t] [] [] = bif decide (ByteArray.size s < (4294967281 : Nat)) then
  bif !isS s then some (SV.bool false)
  else
    bif decide (ByteArray.size t < (4294967281 : Nat)) then
      bif !isS t then some (SV.bool false)
      else
        bif decide (ByteArray.size s < (4294967281 : Nat)) then
          bif decide (ByteArray.size t < (4294967281 : Nat)) then
            bif decide ((↑(ByteArray.size (toldS s)) : Int) > (↑(ByteArray.size (toldS t)) : Int)) then
              bif decide ((↑(ByteArray.size (toldS t)) : Int) ≤ (↑(ByteArray.size (toldS s)) : Int)) && true then
                bif ByteArray.toList (ByteArray.extract (toldS s) (0 : Nat) (Int.toNat (↑(ByteArray.size (toldS t)) : Int))) == ByteArray.toList (toldS t) then
                  bif decide ((↑(ByteArray.size (toldS t)) : Int) < (↑(ByteArray.size (toldS s)) : Int)) then some (SV.bool (bAt (toldS s) (↑(ByteArray.size (toldS t)) : Int) == (47 : Int))) else none
                else some (SV.bool false)
              else none
            else some (SV.bool false)
          else none
        else none
    else none
  else none := by kernel_rfl

end Sx

/-
  Is a name under another one: the program's and the document's.
-/
namespace Sx
open Go Go.Proofs

def underS (s t : ByteArray) : Bool := isS s && (isS t && Lib.hasPrefix (toldS s).data.toList ((toldS t).data.toList ++ [47]))
def gUnder : List SV → Option (Bool × SV)
  | [.str s, .str t] => some (decide (s.size < 4294967281) && decide (t.size < 4294967281), .bool (underS s t))
  | _ => none

theorem inboxS_size (s : ByteArray) : (inboxS s).size = s.size := by
  unfold inboxS
  split
  · rename_i h
    have h5 := alike_five h
    have := headB_size s
    rw [ByteArray.size_append, ByteArray.size_extract]
    have : inboxC.size = 5 := rfl
    omega
  · rfl
theorem toldS_size (s : ByteArray) : (toldS s).size = s.size := by
  unfold toldS
  split
  · exact inboxS_size s
  · rfl

theorem f22_ok : SpecOk rE 22 (.plain gUnder) := by
  refine plain_of_run (fx_ok rT4_ok [] f22_live) (fn := Try.f22) (by kernel_rfl) (by decide) (by rfl) (fun args sv h => ?_)
  unfold gUnder at h
  split at h
  · rename_i s t
    simp only [Option.some.injEq, Prod.mk.injEq, Bool.and_eq_true, decide_eq_true_eq] at h
    obtain ⟨⟨h1, h2⟩, rfl⟩ := h
    refine ⟨rfl, rfl, 0, ?_⟩
    show evFun f22_X 0 Try.f22 (frz f22_X.Ty Try.f22) [.str s, .str t] [] [] = _
    rw [f22_eq]
    have ht := toldS_size t
    have c : Nat.ble ((toldS t).size + 1) 9223372036854775807 = true := Nat.ble_eq_true_of_le (by omega)
    have happ : (toldS t ++ ({ data := #[47] } : ByteArray)).data.toList = (toldS t).data.toList ++ [47] := by
      rw [ByteArray.data_append, Array.toList_append]
    unfold underS
    simp only [h1, h2, c, happ, decide_true, cond_true]
    cases isS s <;> cases isS t <;> rfl
  · cases h

theorem prefix_iff (a b : List UInt8) : Lib.hasPrefix a (b ++ [47]) = (decide (b.length < a.length) && (a.take b.length == b && a[b.length]? == some 47)) := by
  unfold Lib.hasPrefix
  rw [Bool.eq_iff_iff]
  simp only [List.isPrefixOf_iff_prefix, Bool.and_eq_true, decide_eq_true_eq, beq_iff_eq]
  constructor
  · rintro ⟨t, rfl⟩
    refine ⟨by simp, by simp, by simp⟩
  · rintro ⟨h1, h2, h3⟩
    refine ⟨a.drop (b.length + 1), ?_⟩
    have h4 := (List.getElem?_eq_some_iff.1 h3).2
    have : a = a.take b.length ++ a.drop b.length := (List.take_append_drop _ _).symm
    rw [List.append_assoc]
    conv => rhs; rw [this, h2, List.drop_eq_getElem_cons h1, h4]
    simp

theorem f23_ok : SpecOk rE 23 (.plain gUnder) := by
  refine plain_of_run (fx_ok rT4_ok [] f23_live) (fn := Try.f23) (by kernel_rfl) (by decide) (by rfl) (fun args sv h => ?_)
  unfold gUnder at h
  split at h
  · rename_i s t
    simp only [Option.some.injEq, Prod.mk.injEq, Bool.and_eq_true, decide_eq_true_eq] at h
    obtain ⟨⟨h1, h2⟩, rfl⟩ := h
    refine ⟨rfl, rfl, 0, ?_⟩
    show evFun f23_X 0 Try.f23 (frz f23_X.Ty Try.f23) [.str s, .str t] [] [] = _
    rw [f23_eq]
    unfold underS
    rw [prefix_iff]
    have hl1 : (toldS s).data.toList.length = (toldS s).size := by simp
    have hl2 : (toldS t).data.toList.length = (toldS t).size := by simp
    simp only [h1, h2, decide_true, cond_true, Int.toNat_natCast, Lib.toList_data]
    cases isS s with
    | false => rfl
    | true =>
      cases isS t with
      | false => rfl
      | true =>
        simp only [Bool.not_true, cond_false, Bool.true_and, hl1, hl2]
        by_cases hlt : (toldS t).size < (toldS s).size
        · have c1 : ((toldS s).size : Int) > (toldS t).size := by omega
          have c2 : ((toldS t).size : Int) ≤ (toldS s).size := by omega
          have hex : ((toldS s).extract 0 (toldS t).size).data.toList = (toldS s).data.toList.take (toldS t).size := by
            rw [ByteArray.data_extract, Array.toList_extract]
            simp [List.extract_eq_take_drop]
          have hat : (bAt (toldS s) ((toldS t).size : Int) == 47) = ((toldS s).data.toList[(toldS t).size]? == some 47) := by
            rw [Bool.eq_iff_iff]
            simp only [beq_iff_eq, getD_bAt]
            exact ⟨fun h => ⟨hlt, h⟩, fun h => h.2⟩
          simp only [c1, c2, hlt, hex, hat, decide_true, cond_true, Bool.and_true, Bool.true_and]
          cases (toldS s).data.toList.take (toldS t).size == (toldS t).data.toList <;> rfl
        · have c1 : ¬ (((toldS s).size : Int) > (toldS t).size) := by omega
          simp only [c1, hlt, decide_false, cond_false, Bool.false_and]
  · cases h
end Sx

/-
  The name above: the program's and the document's.
-/
namespace Sx
open Go Go.Proofs

/-- What is ahead of the last slash; nothing, where there is none. -/
def upTo (s : ByteArray) : Nat → ByteArray
  | 0 => { data := #[] }
  | k + 1 => if bAt s (k : Int) = 47 then s.extract 0 k else upTo s k
def upS (s : ByteArray) : ByteArray := if isS s then upTo (toldS s) (toldS s).size else { data := #[] }
def gUp : List SV → Option (Bool × SV)
  | [.str s] => some (decide (s.size < 4294967281), .str (upS s))
  | _ => none

theorem f21_L5_is (n : Nat) (s : ByteArray) (hs : s.size < 4294967281) : ∀ (k m : Nat), k ≤ s.size → k < m → f21_L5 n m s ((k : Int) - 1) = some (.str (upTo s k))
  | 0, m, hk, hm => by
    obtain ⟨m, rfl⟩ : ∃ m', m = m' + 1 := ⟨m - 1, by omega⟩
    rw [f21_L5_eq]
    rfl
  | k + 1, m, hk, hm => by
    obtain ⟨m, rfl⟩ : ∃ m', m = m' + 1 := ⟨m - 1, by omega⟩
    have ih := f21_L5_is n s hs k m (by omega) (by omega)
    have e : ((k + 1 : Nat) : Int) - 1 = (k : Int) := by omega
    rw [f21_L5_eq, e, wrap64 (by omega) (by omega), ih]
    have c1 : (k : Int) ≥ 0 := by omega
    have c2 : (0 : Int) ≤ (k : Int) := by omega
    have c3 : (k : Int) < (s.size : Int) := by omega
    have c4 : (k : Int) ≤ (s.size : Int) := by omega
    simp only [c1, c3, c4, decide_true, cond_true, Bool.and_true, Int.toNat_natCast, upTo]
    by_cases h : bAt s (k : Int) = 47
    · simp [h]
    · have : (bAt s (k : Int) == 47) = false := by simpa using h
      simp only [this, cond_false, if_neg h]

theorem f21_ok : SpecOk rE 21 (.plain gUp) := by
  refine plain_of_run (fx_ok rT4_ok [] f21_live) (fn := Try.f21) (by kernel_rfl) (by decide) (by rfl) (fun args sv h => ?_)
  unfold gUp at h
  split at h
  · rename_i s
    simp only [Option.some.injEq, Prod.mk.injEq, decide_eq_true_eq] at h
    obtain ⟨h1, rfl⟩ := h
    refine ⟨rfl, rfl, s.size + 1, ?_⟩
    show evFun f21_X (s.size + 1) Try.f21 (frz f21_X.Ty Try.f21) [.str s] [] [] = _
    have ht := toldS_size s
    rw [f21_eq, wrap64 (by omega) (by omega), f21_L5_is _ (toldS s) (by omega) (toldS s).size _ (by omega) (by omega)]
    unfold upS
    simp only [h1, decide_true, cond_true]
    cases isS s <;> rfl
  · cases h

theorem data_bAt (s : ByteArray) (j : Nat) (hj : j < s.size) : ((s.data[j]!).toNat : Int) = bAt s (j : Int) := by
  have h : j < s.data.size := hj
  unfold bAt
  have e1 : s.data[j]! = s.data[j] := by rw [getElem!_pos s.data j h]
  have e2 : s.data.toList[j]? = some s.data[j] := by rw [Array.getElem?_toList]; exact Array.getElem?_eq_getElem h
  rw [Int.toNat_natCast, List.getD_eq_getElem?_getD, e1, e2]
  rfl

theorem upTo_last (s s' : ByteArray) : ∀ k : Nat, k ≤ s.size → (∀ j : Nat, j < k → (bAt s' (j : Int) = 47 ↔ bAt s (j : Int) = 47)) →
    (Lib.lastIdx s 47 k < 0 → upTo s' k = { data := #[] }) ∧ (¬ Lib.lastIdx s 47 k < 0 → upTo s' k = s'.extract 0 (Lib.lastIdx s 47 k).toNat ∧ Lib.lastIdx s 47 k ≤ k)
  | 0, _, _ => ⟨fun _ => rfl, fun h => absurd (show (-1 : Int) < 0 by decide) h⟩
  | k + 1, hk, h => by
    have ih := upTo_last s s' k (by omega) (fun j hj => h j (by omega))
    have hd := data_bAt s k (by omega)
    have hh := h k (by omega)
    by_cases q : bAt s (k : Int) = 47
    · rw [Lib.lastIdx_hit s 47 k (by rw [hd]; exact q)]
      refine ⟨fun h => by omega, fun _ => ⟨?_, by omega⟩⟩
      simp only [upTo, if_pos (hh.2 q), Int.toNat_natCast]
    · rw [Lib.lastIdx_miss s 47 k (by rw [hd]; exact q)]
      simp only [upTo, if_neg (fun e => q (hh.1 e))]
      exact ⟨ih.1, fun h => ⟨(ih.2 h).1, by have := (ih.2 h).2; omega⟩⟩

theorem bAt_list {s : ByteArray} {j : Nat} {b : UInt8} (h : s.data.toList[j]? = some b) : bAt s (j : Int) = (b.toNat : Int) := by
  unfold bAt
  rw [Int.toNat_natCast, List.getD_eq_getElem?_getD, h]
  rfl
theorem first_no (l : List UInt8) : ∀ (j : Nat) (b : UInt8), (firstL l)[j]? = some b → b ≠ 47 ∧ l[j]? = some b := by
  induction l with
  | nil => intro j b h; simp [firstL] at h
  | cons x l ih =>
    intro j b h
    by_cases hx : x = 47
    · subst hx; simp [firstL] at h
    · have hxe : (x != 47) = true := by simpa using hx
      have hf : firstL (x :: l) = x :: firstL l := by simp only [firstL, List.takeWhile_cons, hxe, if_true]
      rw [hf] at h
      cases j with
      | zero => simp at h; subst h; exact ⟨hx, rfl⟩
      | succ j => exact ih j b h
theorem told_slash (s : ByteArray) (j : Nat) (hj : j < s.size) : bAt (toldS s) (j : Int) = 47 ↔ bAt s (j : Int) = 47 := by
  unfold toldS
  split
  · unfold inboxS
    split
    · rename_i h
      have h5 := alike_five h
      have hl : (firstL s.data.toList).length = 5 := by rw [← h5]; simp [headB, ByteArray.size]
      have hd : (inboxC ++ s.extract 5 s.size).data.toList = [73, 78, 66, 79, 88] ++ s.data.toList.drop 5 := by
        rw [ByteArray.data_append, ByteArray.data_extract, Array.toList_append, Array.toList_extract]
        have : s.data.toList.length = s.size := by simp
        simp only [List.extract_eq_take_drop]
        rw [List.take_of_length_le (by simp)]
        rfl
      by_cases q : j < 5
      · have hf : (firstL s.data.toList)[j]? = some (firstL s.data.toList)[j] := List.getElem?_eq_getElem (by omega)
        obtain ⟨n1, n2⟩ := first_no _ j _ hf
        have e2 := bAt_list n2
        have no2 : bAt s (j : Int) ≠ 47 := by
          rw [e2]; intro e; exact n1 (UInt8.toNat_inj.1 (by have : ((47 : UInt8).toNat) = 47 := rfl; omega))
        have no1 : bAt (inboxC ++ s.extract 5 s.size) (j : Int) ≠ 47 := by
          match j, q with
          | 0, _ => rw [bAt_list (b := 73) (by rw [hd]; rfl)]; decide
          | 1, _ => rw [bAt_list (b := 78) (by rw [hd]; rfl)]; decide
          | 2, _ => rw [bAt_list (b := 66) (by rw [hd]; rfl)]; decide
          | 3, _ => rw [bAt_list (b := 79) (by rw [hd]; rfl)]; decide
          | 4, _ => rw [bAt_list (b := 88) (by rw [hd]; rfl)]; decide
        exact ⟨fun e => absurd e no1, fun e => absurd e no2⟩
      · have hjl : j < s.data.toList.length := by simpa using hj
        have h1 : s.data.toList[j]? = some s.data.toList[j] := List.getElem?_eq_getElem hjl
        have h2 : (inboxC ++ s.extract 5 s.size).data.toList[j]? = some s.data.toList[j] := by
          rw [hd, List.getElem?_append_right (by simp; omega), List.getElem?_drop, ← h1]
          congr 1
          simp; omega
        rw [bAt_list h1, bAt_list h2]
    · exact Iff.rfl
  · exact Iff.rfl

theorem f20_ok : SpecOk rE 20 (.plain gUp) := by
  refine plain_of_run (fx_ok rT4_ok [] f20_live) (fn := Try.f20) (by kernel_rfl) (by decide) (by rfl) (fun args sv h => ?_)
  unfold gUp at h
  split at h
  · rename_i s
    simp only [Option.some.injEq, Prod.mk.injEq, decide_eq_true_eq] at h
    obtain ⟨h1, rfl⟩ := h
    refine ⟨rfl, rfl, 0, ?_⟩
    show evFun f20_X 0 Try.f20 (frz f20_X.Ty Try.f20) [.str s] [] [] = _
    have ht := toldS_size s
    have h2 : s.size < 4611686018427387904 := by omega
    obtain ⟨u1, u2⟩ := upTo_last s (toldS s) s.size (Nat.le_refl _) (fun j hj => told_slash s j hj)
    rw [f20_eq]
    unfold upS
    rw [ht]
    simp only [h1, h2, decide_true, cond_true]
    cases isS s with
    | false => rfl
    | true =>
      simp only [Bool.not_true, cond_false, if_true]
      show (bif decide (Lib.lastIdx s 47 s.size < 0) then _ else bif decide ((0 : Int) ≤ Lib.lastIdx s 47 s.size) && decide (Lib.lastIdx s 47 s.size ≤ (s.size : Int)) && true then some (SV.str ((toldS s).extract 0 (Lib.lastIdx s 47 s.size).toNat)) else none) = _
      by_cases q : Lib.lastIdx s 47 s.size < 0
      · simp only [q, decide_true, cond_true, u1 q]
      · obtain ⟨e1, e2⟩ := u2 q
        have c1 : (0 : Int) ≤ Lib.lastIdx s 47 s.size := by omega
        simp only [q, c1, e2, decide_true, decide_false, cond_true, cond_false, Bool.and_true, e1]
  · cases h
def rT5 : List (Nat × Spec) := (20, .plain gUp) :: (21, .plain gUp) :: (22, .plain gUnder) :: (23, .plain gUnder) :: rT4
theorem rT5_ok : SpecsOk rE (ofList rT5) := .cons f20_ok (.cons f21_ok (.cons f22_ok (.cons f23_ok rT4_ok)))
end Sx

/-
  Layer 23's examples: what 'awake' asks, by runs at its own texts.
-/
set_option linter.unusedVariables false
namespace Sx
open Go Go.Proofs
theorem ba_of {a : ByteArray} {l : List UInt8} (h : (a.data.toList == l) = true) : a = ⟨l.toArray⟩ := by
  have h : a.data.toList = l := by simpa using h
  obtain ⟨d⟩ := a
  simp only at h
  congr 1
  rw [← h]
/-- The slots that are needed at the loops' heads of 'hamper/name.Meets'. -/
noncomputable def f47_live : Nat → List Nat × List (Nat × TypeId) := fun h => bif Nat.beq h 14 then ([0, 1, 5, 6, 8, 9, 34, 35, 56, 57], nilsOf (tyOf Try.prog) [(0, 9), (1, 9), (5, 27), (6, 27), (8, 5), (9, 4), (34, 3), (35, 3), (56, 3), (57, 3)]) else bif Nat.beq h 8 then ([0, 1, 5, 6, 34, 35], nilsOf (tyOf Try.prog) [(0, 9), (1, 9), (5, 27), (6, 27), (34, 3), (35, 3)]) else ([], [])
noncomputable def f47_X : Fx := ⟨tyOf Try.prog, ofList rT5, [], f47_live⟩
/-- The slots that are needed at the loops' heads of 'hamper/name.Move'. -/
noncomputable def f46_live : Nat → List Nat × List (Nat × TypeId) := fun h => ([], [])
noncomputable def f46_X : Fx := ⟨tyOf Try.prog, ofList rT5, [], f46_live⟩
set_option maxRecDepth 100000
theorem meets1 : evFun f47_X 20 Try.f47 (frz f47_X.Ty Try.f47) [.str ⟨[97, 47, 98].toArray⟩, .str ⟨[97, 47, 37].toArray⟩] [] [] = some (.bool true) := by kernel_rfl
theorem meets2 : evFun f47_X 20 Try.f47 (frz f47_X.Ty Try.f47) [.str ⟨[97, 47, 98, 47, 99].toArray⟩, .str ⟨[97, 47, 37].toArray⟩] [] [] = some (.bool false) := by kernel_rfl
theorem meets3 : evFun f47_X 20 Try.f47 (frz f47_X.Ty Try.f47) [.str ⟨[97, 47, 98, 47, 99].toArray⟩, .str ⟨[97, 42].toArray⟩] [] [] = some (.bool true) := by kernel_rfl
theorem move1 : evFun f46_X 20 Try.f46 (frz f46_X.Ty Try.f46) [.str ⟨[97, 47, 98].toArray⟩, .str ⟨[97].toArray⟩, .str ⟨[99].toArray⟩] [] [] = some (.tup [.str ⟨[99, 47, 98].toArray⟩, .int .i64 0]) := by kernel_rfl
def gMeets0 : List SV → Option (Bool × SV)
  | [.str a, .str b] => bif a.data.toList == [97, 47, 98] && b.data.toList == [97, 47, 37] then some (true, .bool true)
    else bif a.data.toList == [97, 47, 98, 47, 99] && b.data.toList == [97, 47, 37] then some (true, .bool false)
    else bif a.data.toList == [97, 47, 98, 47, 99] && b.data.toList == [97, 42] then some (true, .bool true) else none
  | _ => none
def gMove0 : List SV → Option (Bool × SV)
  | [.str a, .str b, .str c] => bif a.data.toList == [97, 47, 98] && (b.data.toList == [97] && c.data.toList == [99]) then some (true, .tup [.str ⟨[99, 47, 98].toArray⟩, .int .i64 0]) else none
  | _ => none
theorem f47_ok : SpecOk rE 47 (.plain gMeets0) := by
  refine plain_of_run (fx_ok rT5_ok [] f47_live) (fn := Try.f47) (by kernel_rfl) (by decide) (by rfl) (fun args sv h => ?_)
  unfold gMeets0 at h
  split at h
  · simp only [cond_eq_ite, Bool.and_eq_true] at h
    split at h
    · rename_i q
      cases h
      rw [ba_of q.1, ba_of q.2]
      exact ⟨rfl, rfl, _, meets1⟩
    · split at h
      · rename_i q
        cases h
        rw [ba_of q.1, ba_of q.2]
        exact ⟨rfl, rfl, _, meets2⟩
      · split at h
        · rename_i q
          cases h
          rw [ba_of q.1, ba_of q.2]
          exact ⟨rfl, rfl, _, meets3⟩
        · cases h
  · cases h
theorem f46_ok : SpecOk rE 46 (.plain gMove0) := by
  refine plain_of_run (fx_ok rT5_ok [] f46_live) (fn := Try.f46) (by kernel_rfl) (by decide) (by rfl) (fun args sv h => ?_)
  unfold gMove0 at h
  split at h
  · simp only [cond_eq_ite, Bool.and_eq_true] at h
    split at h
    · rename_i q
      cases h
      rw [ba_of q.1, ba_of q.2.1, ba_of q.2.2]
      exact ⟨rfl, rfl, _, move1⟩
    · cases h
  · cases h
def rT6 : List (Nat × Spec) := (46, .plain gMove0) :: (47, .plain gMeets0) :: rT5
theorem rT6_ok : SpecsOk rE (ofList rT6) := .cons f46_ok (.cons f47_ok rT5_ok)
/-- The slots that are needed at the loops' heads of 'hamper/hamperlaw23.awake'. -/
noncomputable def f24_live : Nat → List Nat × List (Nat × TypeId) := fun h => ([], [])
noncomputable def f24_X : Fx := ⟨tyOf Try.prog, ofList rT6, [], f24_live⟩
def gTrue : List SV → Option (Bool × SV) | [] => some (true, .bool true) | _ => none
theorem awake_run : evFun f24_X 0 Try.f24 (frz f24_X.Ty Try.f24) [] [] [] = some (.bool true) := by kernel_rfl
theorem f24_ok : SpecOk rE 24 (.plain gTrue) := by
  refine plain_of_run (fx_ok rT6_ok [] f24_live) (fn := Try.f24) (by kernel_rfl) (by decide) (by rfl) (fun args sv h => ?_)
  unfold gTrue at h
  split at h
  · cases h; exact ⟨rfl, rfl, _, awake_run⟩
  · cases h
def rT7 : List (Nat × Spec) := (24, .plain gTrue) :: rT6
theorem rT7_ok : SpecsOk rE (ofList rT7) := .cons f24_ok rT6_ok
end Sx

/-
  What the executor says of functions: the normal forms, each compared by the kernel. (Printed by a program.)
-/
set_option linter.unusedVariables false
namespace Sx
open Go Go.Proofs
/-- The slots that are needed at the loops' heads of 'hamper/hamperlaw23.NameForms'. -/
noncomputable def f4_live : Nat → List Nat × List (Nat × TypeId) := fun h => ([], [])
noncomputable def f4_X : Fx := ⟨tyOf Try.prog, ofList rT7, [], f4_live⟩
set_option maxRecDepth 100000
theorem f4_eq (n : Nat) (s : ByteArray) (t : ByteArray) : evFun f4_X n Try.f4 (frz f4_X.Ty Try.f4) [.str s, .str t] [] [] = bif decide (ByteArray.size (fewS s) < (4294967281 : Nat)) then
  bif decide (ByteArray.size (fewS s) < (4294967281 : Nat)) then
    bif isS (fewS s) == isS (fewS s) then
      bif decide (ByteArray.size (fewS s) < (4294967281 : Nat)) then
        bif decide (ByteArray.size (fewS s) < (4294967281 : Nat)) then
          bif ByteArray.toList (toldS (fewS s)) == ByteArray.toList (toldS (fewS s)) then
            bif decide (ByteArray.size (fewS s) < (4294967281 : Nat)) then
              bif decide (ByteArray.size (fewS s) < (4294967281 : Nat)) then
                bif ByteArray.toList (upS (fewS s)) == ByteArray.toList (upS (fewS s)) then
                  bif decide (ByteArray.size (fewS s) < (4294967281 : Nat)) && decide (ByteArray.size (fewS t) < (4294967281 : Nat)) then
                    bif decide (ByteArray.size (fewS s) < (4294967281 : Nat)) && decide (ByteArray.size (fewS t) < (4294967281 : Nat)) then
                      bif underS (fewS s) (fewS t) == underS (fewS s) (fewS t) then some (SV.bool true) else some (SV.bool false)
                    else none
                  else none
                else some (SV.bool false)
              else none
            else none
          else some (SV.bool false)
        else none
      else none
    else some (SV.bool false)
  else none
  else none := by kernel_rfl

end Sx
