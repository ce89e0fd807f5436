/-
  The seat's environment: its types, its globals, and the library's functions that are called, each by its contract.
-/
import Derived.Test.YtlkpldfdogjneaaEc
import Derived.Test.YtlkpldfdogjneaaShelf
import Derived.KernelRfl
import Derived.Lib.IndexAny
import Derived.Test.YtlkpldfdogjneaaEd
set_option linter.unusedVariables false
set_option linter.unusedSimpArgs false
set_option linter.unusedVariables false
namespace Sx
open Go Go.Proofs

/-- What the globals hold. -/
def rG (w : World) : Prop := ∃ m, w.cell? ⟨0, 0, none⟩ = some (.int .i64 m)
noncomputable def rE : Env := envOf Try.prog 1 rG
theorem rE_ok : EnvOk rE := envOf_ok (fun w w' ⟨m, hm⟩ hb => ⟨m, by
  have := hb 0 (by omega)
  simp only [World.cell?] at hm ⊢
  rw [this]; exact hm⟩)

def gContains : List SV → Option (Bool × SV)
  | [.str a, .str b] => some (decide (a.size < 4294967281), .bool (Lib.contains a.data.toList b.data.toList))
  | _ => none
def gIndexByte : List SV → Option (Bool × SV)
  | [.str a, .int .u8 c] => some (true, .int .i64 (Lib.indexByte a.data.toList c.toNat.toUInt8))
  | _ => none
def gLastIndexByte : List SV → Option (Bool × SV)
  | [.str a, .int .u8 c] => some (decide (a.size < 4611686018427387904), .int .i64 (Lib.lastIndexByte a c))
  | _ => none
def gHasPrefix : List SV → Option (Bool × SV)
  | [.str a, .str b] => some (true, .bool (Lib.hasPrefix a.data.toList b.data.toList))
  | _ => none
def gCut : List SV → Option (Bool × SV)
  | [.str a, .str b] => some (decide (a.size < 4294967281), .tup [.str ⟨(Lib.cut a.data.toList b.data.toList).1.toArray⟩, .str ⟨(Lib.cut a.data.toList b.data.toList).2.1.toArray⟩, .bool (Lib.cut a.data.toList b.data.toList).2.2])
  | _ => none

theorem contains_ok : SpecOk rE 40 (.plain gContains) := by
  refine plain_of_calls rE_ok (fn := Try.f40) (by kernel_rfl) (by decide) (by rfl) (fun args sv h => ?_)
  unfold gContains at h
  split at h
  · rename_i a b
    simp only [Option.some.injEq, Prod.mk.injEq, decide_eq_true_eq] at h
    obtain ⟨h1, rfl⟩ := h
    refine ⟨[.string a, .string b], _, rfl, fun _ _ _ => rel_bool _, fun w ⟨_, m, hm⟩ => (Try.strings_Contains a b m w h1 hm).mono ?_⟩
    rintro e w' ⟨rfl, rfl⟩; exact ⟨rfl, Idle.refl _⟩
  · cases h
theorem indexByte_ok : SpecOk rE 41 (.plain gIndexByte) := by
  refine plain_of_calls rE_ok (fn := Try.f41) (by kernel_rfl) (by decide) (by rfl) (fun args sv h => ?_)
  unfold gIndexByte at h
  split at h
  · rename_i a b
    simp only [Option.some.injEq, Prod.mk.injEq, true_and] at h
    subst h
    refine ⟨[.string a, .int .u8 b], _, rfl, fun _ _ _ => rel_int _ _, fun w _ => (Try.strings_IndexByte a b w).mono ?_⟩
    rintro e w' ⟨rfl, rfl⟩; exact ⟨rfl, Idle.refl _⟩
  · cases h
theorem lastIndexByte_ok : SpecOk rE 44 (.plain gLastIndexByte) := by
  refine plain_of_calls rE_ok (fn := Try.f44) (by kernel_rfl) (by decide) (by rfl) (fun args sv h => ?_)
  unfold gLastIndexByte at h
  split at h
  · rename_i a b
    simp only [Option.some.injEq, Prod.mk.injEq, decide_eq_true_eq] at h
    obtain ⟨h1, rfl⟩ := h
    refine ⟨[.string a, .int .u8 b], _, rfl, fun _ _ _ => rel_int _ _, fun w _ => (Try.strings_LastIndexByte a b h1 w).mono ?_⟩
    rintro e w' ⟨rfl, rfl⟩; exact ⟨rfl, Idle.refl _⟩
  · cases h
theorem hasPrefix_ok : SpecOk rE 45 (.plain gHasPrefix) := by
  refine plain_of_calls rE_ok (fn := Try.f45) (by kernel_rfl) (by decide) (by rfl) (fun args sv h => ?_)
  unfold gHasPrefix at h
  split at h
  · rename_i a b
    simp only [Option.some.injEq, Prod.mk.injEq, true_and] at h
    subst h
    refine ⟨[.string a, .string b], _, rfl, fun _ _ _ => rel_bool _, fun w _ => (Try.strings_HasPrefix a b w).mono ?_⟩
    rintro e w' ⟨rfl, rfl⟩; exact ⟨rfl, Idle.refl _⟩
  · cases h
theorem cut_ok : SpecOk rE 63 (.plain gCut) := by
  refine plain_of_calls rE_ok (fn := Try.f63) (by kernel_rfl) (by decide) (by rfl) (fun args sv h => ?_)
  unfold gCut at h
  split at h
  · rename_i a b
    simp only [Option.some.injEq, Prod.mk.injEq, decide_eq_true_eq] at h
    obtain ⟨h1, rfl⟩ := h
    refine ⟨[.string a, .string b], .tuple #[.string ⟨(Lib.cut a.data.toList b.data.toList).1.toArray⟩, .string ⟨(Lib.cut a.data.toList b.data.toList).2.1.toArray⟩, .bool (Lib.cut a.data.toList b.data.toList).2.2], rfl, fun w ok ρ => rel_tup_vals rfl, fun w ⟨_, m, hm⟩ => (Try.strings_Cut a b m w h1 hm).mono ?_⟩
    rintro e w' ⟨rfl, n, rfl⟩; exact ⟨rfl, ⟨rfl, rfl, rfl, rfl⟩⟩
  · cases h

def rLib : List (Nat × Spec) := [(40, .plain gContains), (41, .plain gIndexByte), (44, .plain gLastIndexByte), (45, .plain gHasPrefix), (63, .plain gCut)]
theorem rLib_ok : SpecsOk rE (ofList rLib) := .cons contains_ok (.cons indexByte_ok (.cons lastIndexByte_ok (.cons hasPrefix_ok (.cons cut_ok .nil))))
theorem fx_ok {T : Specs} (h : SpecsOk rE T) (sm : List Nat) (live : Nat → List Nat × List (Nat × TypeId)) : FxOk rE ⟨tyOf Try.prog, T, sm, live⟩ := ⟨rE_ok, rfl, h, by kernel_rfl⟩
end Sx

/-
  What the executor says of functions: the normal forms, each compared by the kernel. (Printed by a program.)
-/
set_option linter.unusedVariables false
namespace Sx
open Go Go.Proofs
/-- The slots that are needed at the loops' heads of 'hamper/name.Is'. -/
noncomputable def f16_live : Nat → List Nat × List (Nat × TypeId) := fun h => bif Nat.beq h 4 then ([0, 29, 30], nilsOf (tyOf Try.prog) [(0, 9), (29, 3), (30, 3)]) else ([], [])
noncomputable def f16_X : Fx := ⟨tyOf Try.prog, ofList rLib, [], f16_live⟩
/-- The slots that are needed at the loops' heads of 'hamper/hamperref23.Is'. -/
noncomputable def f17_live : Nat → List Nat × List (Nat × TypeId) := fun h => bif Nat.beq h 2 then ([0, 3], nilsOf (tyOf Try.prog) [(0, 9), (3, 3)]) else ([], [])
noncomputable def f17_X : Fx := ⟨tyOf Try.prog, ofList rLib, [], f17_live⟩
/-- The slots that are needed at the loops' heads of 'hamper/name.inbox'. -/
noncomputable def f42_live : Nat → List Nat × List (Nat × TypeId) := fun h => bif Nat.beq h 6 then ([0, 6, 21, 22, 23], nilsOf (tyOf Try.prog) [(0, 9), (6, 35), (21, 35), (22, 3), (23, 3)]) else ([], [])
noncomputable def f42_X : Fx := ⟨tyOf Try.prog, ofList rLib, [], f42_live⟩
/-- The slots that are needed at the loops' heads of 'hamper/hamperref16.Cut'. -/
noncomputable def f64_live : Nat → List Nat × List (Nat × TypeId) := fun h => bif Nat.beq h 3 then ([0, 1, 5, 6], nilsOf (tyOf Try.prog) [(0, 9), (1, 5), (5, 107), (6, 3)]) else ([], [])
noncomputable def f64_X : Fx := ⟨tyOf Try.prog, ofList rLib, [], f64_live⟩
set_option maxRecDepth 100000
def f16_st4 (x0 : ByteArray) (x1 : Int) (x2 : Int) : St := {
  slots :=
    [SV.str x0, SV.dead, SV.dead, SV.dead, SV.dead, SV.dead, SV.dead, SV.dead, SV.dead, SV.dead, SV.dead, SV.dead, SV.dead, SV.dead, SV.dead, SV.dead, SV.dead, SV.dead, SV.dead, SV.dead, SV.dead, SV.dead, SV.dead,
      SV.dead, SV.dead, SV.dead, SV.dead, SV.dead, SV.dead, SV.int IntKind.i64 x1, SV.int IntKind.i64 x2, SV.dead, SV.dead, SV.dead, SV.dead, SV.dead, SV.dead, SV.dead, SV.dead, SV.dead, SV.dead, SV.dead, SV.dead,
      SV.dead, SV.dead, SV.dead, SV.dead, SV.dead, SV.dead, SV.dead, SV.dead],
  mem := [], used := [] : St }
noncomputable def f16_L4 (n m : Nat) (x0 : ByteArray) (x1 : Int) (x2 : Int) : Option SV := atLoop f16_X Try.f16 (frz f16_X.Ty Try.f16) n [.r, .r, .l, .r, .b] m (f16_st4 x0 x1 x2)
theorem f16_L4_eq (n m : Nat) (x0 : ByteArray) (x1 : Int) (x2 : Int) : f16_L4 n (m + 1) x0 x1 x2 = bif decide (x2 < x1) then
  bif decide ((0 : Int) ≤ x2) && decide (x2 < (↑(ByteArray.size x0) : Int)) then
    bif decide (bAt x0 x2 < (33 : Int)) then some (SV.bool false)
    else
      bif decide ((0 : Int) ≤ x2) && decide (x2 < (↑(ByteArray.size x0) : Int)) then
        bif decide (bAt x0 x2 > (126 : Int)) then some (SV.bool false)
        else
          bif decide ((0 : Int) ≤ x2) && decide (x2 < (↑(ByteArray.size x0) : Int)) then
            bif
                decide
                  (Lib.indexByte { data := #[(40 : UInt8), (41 : UInt8), (123 : UInt8), (125 : UInt8), (37 : UInt8), (42 : UInt8), (34 : UInt8), (92 : UInt8)] : ByteArray }.data.toList
                      (Nat.toUInt8 (Int.toNat (bAt x0 x2))) ≥
                    (0 : Int)) then
              some (SV.bool false)
            else f16_L4 n m x0 x1 (IntKind.wrap IntKind.i64 (x2 + (1 : Int)))
          else none
      else none
  else none
  else some (SV.bool true) := by kernel_rfl

theorem f16_eq (n : Nat) (s : ByteArray) : evFun f16_X n Try.f16 (frz f16_X.Ty Try.f16) [.str s] [] [] = bif ByteArray.toList s == ByteArray.toList { data := #[] : ByteArray } then some (SV.bool false)
  else
  bif decide ((↑(ByteArray.size s) : Int) > (60 : Int)) then some (SV.bool false)
  else
    bif decide ((0 : Int) < (↑(ByteArray.size s) : Int)) then
      bif bAt s (0 : Int) == (47 : Int) then some (SV.bool false)
      else
        bif decide ((0 : Int) ≤ IntKind.wrap IntKind.i64 ((↑(ByteArray.size s) : Int) - (1 : Int))) && decide (IntKind.wrap IntKind.i64 ((↑(ByteArray.size s) : Int) - (1 : Int)) < (↑(ByteArray.size s) : Int)) then
          bif bAt s (IntKind.wrap IntKind.i64 ((↑(ByteArray.size s) : Int) - (1 : Int))) == (47 : Int) then some (SV.bool false)
          else
            bif decide (ByteArray.size s < (4294967281 : Nat)) then
              bif Lib.contains s.data.toList { data := #[(47 : UInt8), (47 : UInt8)] : ByteArray }.data.toList then some (SV.bool false) else f16_L4 n n s (↑(ByteArray.size s) : Int) (0 : Int)
            else none
        else none
    else none := by kernel_rfl

def f17_st2 (x0 : ByteArray) (x1 : Int) : St := {
  slots :=
    [SV.str x0, SV.dead, SV.dead, SV.int IntKind.i64 x1, SV.dead, SV.dead, SV.dead, SV.dead, SV.dead, SV.dead, SV.dead, SV.dead, SV.dead, SV.dead, SV.dead, SV.dead, SV.dead, SV.dead, SV.dead, SV.dead, SV.dead, SV.dead,
      SV.dead, SV.dead, SV.dead, SV.dead, SV.dead, SV.dead, SV.dead, SV.dead, SV.dead, SV.dead, SV.dead, SV.dead, SV.dead, SV.dead, SV.dead, SV.dead, SV.dead, SV.dead, SV.dead, SV.dead, SV.dead, SV.dead, SV.dead,
      SV.dead, SV.dead, SV.dead, SV.dead, SV.dead, SV.dead, SV.dead, SV.dead, SV.dead, SV.dead, SV.dead, SV.dead, SV.dead, SV.dead, SV.dead, SV.dead, SV.dead, SV.dead, SV.dead, SV.dead, SV.dead, SV.dead, SV.dead,
      SV.dead, SV.dead, SV.dead, SV.dead, SV.dead, SV.dead, SV.dead, SV.dead, SV.dead, SV.dead, SV.dead, SV.dead],
  mem := [], used := [] : St }
noncomputable def f17_L2 (n m : Nat) (x0 : ByteArray) (x1 : Int) : Option SV := atLoop f17_X Try.f17 (frz f17_X.Ty Try.f17) n [.r, .l, .r, .b] m (f17_st2 x0 x1)
theorem f17_L2_eq (n m : Nat) (x0 : ByteArray) (x1 : Int) : f17_L2 n (m + 1) x0 x1 = bif decide (x1 < (↑(ByteArray.size x0) : Int)) then
  bif decide ((0 : Int) ≤ x1) && decide (x1 < (↑(ByteArray.size x0) : Int)) then
    bif decide (bAt x0 x1 < (33 : Int)) then some (SV.bool false)
    else
      bif decide (bAt x0 x1 > (126 : Int)) then some (SV.bool false)
      else
        bif bAt x0 x1 == (40 : Int) then some (SV.bool false)
        else
          bif bAt x0 x1 == (41 : Int) then some (SV.bool false)
          else
            bif bAt x0 x1 == (123 : Int) then some (SV.bool false)
            else
              bif bAt x0 x1 == (125 : Int) then some (SV.bool false)
              else
                bif bAt x0 x1 == (37 : Int) then some (SV.bool false)
                else
                  bif bAt x0 x1 == (42 : Int) then some (SV.bool false)
                  else
                    bif bAt x0 x1 == (34 : Int) then some (SV.bool false)
                    else
                      bif bAt x0 x1 == (92 : Int) then some (SV.bool false)
                      else
                        bif bAt x0 x1 == (47 : Int) then
                          bif x1 == (0 : Int) then some (SV.bool false)
                          else
                            bif x1 == IntKind.wrap IntKind.i64 ((↑(ByteArray.size x0) : Int) - (1 : Int)) then some (SV.bool false)
                            else
                              bif decide ((0 : Int) ≤ IntKind.wrap IntKind.i64 (x1 - (1 : Int))) && decide (IntKind.wrap IntKind.i64 (x1 - (1 : Int)) < (↑(ByteArray.size x0) : Int)) then
                                bif bAt x0 (IntKind.wrap IntKind.i64 (x1 - (1 : Int))) == (47 : Int) then some (SV.bool false) else f17_L2 n m x0 (IntKind.wrap IntKind.i64 (x1 + (1 : Int)))
                              else none
                        else f17_L2 n m x0 (IntKind.wrap IntKind.i64 (x1 + (1 : Int)))
  else none
  else bif decide ((1 : Int) ≤ (↑(ByteArray.size x0) : Int)) then some (SV.bool (decide ((↑(ByteArray.size x0) : Int) ≤ (60 : Int)))) else some (SV.bool false) := by kernel_rfl

theorem f17_eq (n : Nat) (s : ByteArray) : evFun f17_X n Try.f17 (frz f17_X.Ty Try.f17) [.str s] [] [] = f17_L2 n n s (0 : Int) := by kernel_rfl

def f42_st6 (x0 : ByteArray) (x1 : Int) (x2 : Int) (x3 : List SV) : St := {
  slots :=
    [SV.str x0, SV.dead, SV.dead, SV.dead, SV.dead, SV.dead, SV.row (100 : Nat), SV.dead, SV.dead, SV.dead, SV.dead, SV.dead, SV.dead, SV.dead, SV.dead, SV.dead, SV.dead, SV.dead, SV.dead, SV.dead, SV.dead,
      SV.row (100 : Nat), SV.int IntKind.i64 x1, SV.int IntKind.i64 x2, SV.dead, SV.dead, SV.dead, SV.dead, SV.dead, SV.dead, SV.dead, SV.dead, SV.dead, SV.dead, SV.dead, SV.dead, SV.dead, SV.dead, SV.dead, SV.dead,
      SV.dead, SV.dead, SV.dead, SV.dead, SV.dead, SV.dead, SV.dead],
  mem := [((100 : Nat), SObj.row (5 : Nat) x3)], used := [(100 : Nat)] : St }
noncomputable def f42_L6 (n m : Nat) (x0 : ByteArray) (x1 : Int) (x2 : Int) (x3 : List SV) : Option SV := atLoop f42_X Try.f42 (frz f42_X.Ty Try.f42) n [.r, .r, .r, .r, .l, .r, .b] m (f42_st6 x0 x1 x2 x3)
theorem f42_L6_eq (n m : Nat) (x0 : ByteArray) (x1 : Int) (x2 : Int) (x3 : List SV) : f42_L6 n (m + 1) x0 x1 x2 x3 = bif decide (x2 < x1) then
  bif decide ((0 : Int) ≤ x2) && decide (x2 < (↑(List.length x3) : Int)) then
    bif decide (asInt (List.getD (cellsOf (List.getD x3 (Int.toNat x2) SV.dead)) (0 : Nat) SV.dead) ≥ (97 : Int)) then
      bif decide (asInt (List.getD (cellsOf (List.getD x3 (Int.toNat x2) SV.dead)) (0 : Nat) SV.dead) ≤ (122 : Int)) then
        bif decide ((0 : Int) ≤ x2) && decide (x2 < (↑(List.length x3) : Int)) then
          f42_L6 n m x0 x1 (IntKind.wrap IntKind.i64 (x2 + (1 : Int)))
            (List.set x3 (Int.toNat x2) (SV.int IntKind.u8 (IntKind.wrap IntKind.u8 (asInt (List.getD (cellsOf (List.getD x3 (Int.toNat x2) SV.dead)) (0 : Nat) SV.dead) - (32 : Int)))))
        else none
      else f42_L6 n m x0 x1 (IntKind.wrap IntKind.i64 (x2 + (1 : Int))) x3
    else f42_L6 n m x0 x1 (IntKind.wrap IntKind.i64 (x2 + (1 : Int))) x3
  else none
  else
  bif !ByteArray.toList (strOf x3) == ByteArray.toList { data := #[(73 : UInt8), (78 : UInt8), (66 : UInt8), (79 : UInt8), (88 : UInt8)] : ByteArray } then some (SV.str x0)
  else
    bif decide ((5 : Int) ≤ (↑(ByteArray.size x0) : Int)) then
      bif Nat.ble ((5 : Nat) + ByteArray.size (ByteArray.extract x0 (5 : Nat) (Int.toNat (↑(ByteArray.size x0) : Int)))) (9223372036854775807 : Nat) then
        some (SV.str ({ data := #[(73 : UInt8), (78 : UInt8), (66 : UInt8), (79 : UInt8), (88 : UInt8)] : ByteArray } ++ ByteArray.extract x0 (5 : Nat) (Int.toNat (↑(ByteArray.size x0) : Int))))
      else none
    else none := by kernel_rfl

theorem f42_eq (n : Nat) (s : ByteArray) : evFun f42_X n Try.f42 (frz f42_X.Ty Try.f42) [.str s] [] [] = bif decide (ByteArray.size s < (4294967281 : Nat)) then
  bif (↑(ByteArray.size { data := List.toArray (Lib.cut s.data.toList { data := #[(47 : UInt8)] : ByteArray }.data.toList).fst : ByteArray }) : Int) != (5 : Int) then some (SV.str s)
  else
    bif decide (ByteArray.size { data := List.toArray (Lib.cut s.data.toList { data := #[(47 : UInt8)] : ByteArray }.data.toList).fst : ByteArray } ≤ (140737488355328 : Nat)) then
      f42_L6 n n s (↑(List.length (bytesOf { data := List.toArray (Lib.cut s.data.toList { data := #[(47 : UInt8)] : ByteArray }.data.toList).fst : ByteArray })) : Int) (0 : Int)
        (bytesOf { data := List.toArray (Lib.cut s.data.toList { data := #[(47 : UInt8)] : ByteArray }.data.toList).fst : ByteArray })
    else none
  else none := by kernel_rfl

def f64_st3 (x0 : ByteArray) (x1 : Int) (x2 : Int) (x3 : List SV) : St := {
  slots :=
    [SV.str x0, SV.int IntKind.u8 x1, SV.dead, SV.dead, SV.dead, SV.row (100 : Nat), SV.int IntKind.i64 x2, SV.dead, SV.dead, SV.dead, SV.dead, SV.dead, SV.dead, SV.dead, SV.dead, SV.dead, SV.dead, SV.dead, SV.dead,
      SV.dead, SV.dead, SV.dead, SV.dead, SV.dead, SV.dead, SV.dead, SV.dead, SV.dead, SV.dead, SV.dead, SV.dead, SV.dead, SV.dead, SV.dead, SV.dead, SV.dead],
  mem := [((100 : Nat), SObj.row (9 : Nat) x3)], used := [(100 : Nat)] : St }
noncomputable def f64_L3 (n m : Nat) (x0 : ByteArray) (x1 : Int) (x2 : Int) (x3 : List SV) : Option SV := atLoop f64_X Try.f64 (frz f64_X.Ty Try.f64) n [.r, .r, .l, .r, .b] m (f64_st3 x0 x1 x2 x3)
theorem f64_L3_eq (n m : Nat) (x0 : ByteArray) (x1 : Int) (x2 : Int) (x3 : List SV) : f64_L3 n (m + 1) x0 x1 x2 x3 = bif decide (x2 < (↑(ByteArray.size x0) : Int)) then
  bif decide ((0 : Int) ≤ x2) && decide (x2 < (↑(ByteArray.size x0) : Int)) then
    bif bAt x0 x2 == x1 then
      bif decide ((List.length x3 + (1 : Nat)) * (16 : Nat) ≤ (140737488355328 : Nat)) && decide (List.length x3 + (1 : Nat) ≤ (9223372036854775807 : Nat)) then
        f64_L3 n m x0 x1 (IntKind.wrap IntKind.i64 (x2 + (1 : Int))) (x3 ++ [SV.str { data := #[] : ByteArray }])
      else none
    else
      bif decide ((0 : Int) ≤ IntKind.wrap IntKind.i64 ((↑(List.length x3) : Int) - (1 : Int))) && decide (IntKind.wrap IntKind.i64 ((↑(List.length x3) : Int) - (1 : Int)) < (↑(List.length x3) : Int)) then
        bif
            decide ((0 : Int) ≤ IntKind.wrap IntKind.i64 (x2 + (1 : Int))) && decide (IntKind.wrap IntKind.i64 (x2 + (1 : Int)) ≤ (↑(ByteArray.size x0) : Int)) &&
              (decide ((0 : Int) ≤ x2) && decide (x2 ≤ IntKind.wrap IntKind.i64 (x2 + (1 : Int)))) then
          bif
              Nat.ble
                (ByteArray.size (asStr (List.getD (cellsOf (List.getD x3 (Int.toNat (IntKind.wrap IntKind.i64 ((↑(List.length x3) : Int) - (1 : Int)))) SV.dead)) (0 : Nat) SV.dead)) +
                  ByteArray.size (ByteArray.extract x0 (Int.toNat x2) (Int.toNat (IntKind.wrap IntKind.i64 (x2 + (1 : Int))))))
                (9223372036854775807 : Nat) then
            bif decide ((0 : Int) ≤ IntKind.wrap IntKind.i64 ((↑(List.length x3) : Int) - (1 : Int))) && decide (IntKind.wrap IntKind.i64 ((↑(List.length x3) : Int) - (1 : Int)) < (↑(List.length x3) : Int)) then
              f64_L3 n m x0 x1 (IntKind.wrap IntKind.i64 (x2 + (1 : Int)))
                (List.set x3 (Int.toNat (IntKind.wrap IntKind.i64 ((↑(List.length x3) : Int) - (1 : Int))))
                  (SV.str
                    (asStr (List.getD (cellsOf (List.getD x3 (Int.toNat (IntKind.wrap IntKind.i64 ((↑(List.length x3) : Int) - (1 : Int)))) SV.dead)) (0 : Nat) SV.dead) ++
                      ByteArray.extract x0 (Int.toNat x2) (Int.toNat (IntKind.wrap IntKind.i64 (x2 + (1 : Int)))))))
            else none
          else none
        else none
      else none
  else none
  else some (SV.lst (9 : Nat) x3) := by kernel_rfl

theorem f64_eq (n : Nat) (s : ByteArray) (c : Int) : evFun f64_X n Try.f64 (frz f64_X.Ty Try.f64) [.str s, .int .u8 c] [] [] = f64_L3 n n s c (0 : Int) [SV.str { data := #[] : ByteArray }] := by kernel_rfl

end Sx

/-
  name.Is and the document's Is: one specification of both.
-/
namespace Sx
open Go Go.Proofs

theorem wrap64 {x : Int} (h0 : -9223372036854775808 ≤ x) (h1 : x ≤ 9223372036854775807) : IntKind.wrap .i64 x = x := by
  simp only [IntKind.wrap, IntKind.signed, IntKind.bits]
  simp
  omega

theorem br_bool (b x y : Bool) : (bif b then some (SV.bool x) else some (SV.bool y)) = some (SV.bool (bif b then x else y)) := by cases b <;> rfl
theorem br_not (b y : Bool) : (bif b then false else y) = (!b && y) := by cases b <;> rfl

def okAt (s : ByteArray) (i : Int) : Bool :=
  !decide (bAt s i < 33) && !decide (bAt s i > 126) && !(bAt s i == 40) && !(bAt s i == 41) && !(bAt s i == 123) && !(bAt s i == 125) && !(bAt s i == 37) && !(bAt s i == 42) && !(bAt s i == 34) && !(bAt s i == 92) &&
  !(bAt s i == 47 && (i == 0 || i == (s.size : Int) - 1 || bAt s (i - 1) == 47))
def okFrom (s : ByteArray) : Nat → Int → Bool
  | 0, _ => true
  | k + 1, i => okAt s i && okFrom s k (i + 1)
def isS (s : ByteArray) : Bool := okFrom s s.size 0 && decide ((1 : Int) ≤ s.size) && decide ((s.size : Int) ≤ 60)

theorem f17_L2_is (n : Nat) (s : ByteArray) (hs : s.size < 4294967281) : ∀ (k m : Nat) (i : Int), 0 ≤ i → i + k = s.size → k < m → f17_L2 n m s i = some (.bool (okFrom s k i && decide ((1 : Int) ≤ s.size) && decide ((s.size : Int) ≤ 60)))
  | 0, m, i, h0, hi, hm => by
    obtain ⟨m, rfl⟩ : ∃ m', m = m' + 1 := ⟨m - 1, by omega⟩
    rw [f17_L2_eq]
    have : ¬ (i < (s.size : Int)) := by omega
    simp only [this, decide_false, cond_false, okFrom, Bool.true_and]
    by_cases h : (1 : Int) ≤ s.size <;> simp [h]
  | k + 1, m, i, h0, hi, hm => by
    obtain ⟨m, rfl⟩ : ∃ m', m = m' + 1 := ⟨m - 1, by omega⟩
    have ih := f17_L2_is n s hs k m (i + 1) (by omega) (by omega) (by omega)
    rw [f17_L2_eq]
    have h1 : i < (s.size : Int) := by omega
    have w1 : IntKind.wrap .i64 (i + 1) = i + 1 := wrap64 (by omega) (by omega)
    have w2 : IntKind.wrap .i64 ((s.size : Int) - 1) = (s.size : Int) - 1 := wrap64 (by omega) (by omega)
    have w3 : IntKind.wrap .i64 (i - 1) = i - 1 := wrap64 (by omega) (by omega)
    rw [w1, w2, w3, ih]
    simp only [h1, h0, decide_true, cond_true, Bool.and_true, okFrom, okAt]
    generalize bAt s i = c
    generalize bAt s (i - 1) = d
    have h2 : i ≠ 0 → (0 : Int) ≤ i - 1 := by omega
    have h3 : i - 1 < (s.size : Int) := by omega
    generalize okFrom s k (i + 1) = r
    generalize decide ((1 : Int) ≤ s.size) = p
    generalize decide ((s.size : Int) ≤ 60) = q
    have last : ∀ b x : Bool, (bif b then x else x) = x := fun b x => by cases b <;> rfl
    by_cases hz : i = 0
    · subst hz
      simp only [beq_self_eq_true, cond_true, br_bool, br_not, Bool.and_assoc, Bool.true_or, Bool.and_true]
    · have h2 := h2 hz
      have hz : (i == 0) = false := by simpa using hz
      simp only [h2, h3, hz, decide_true, Bool.and_true, cond_true, cond_false, Bool.false_or, br_bool, br_not, Bool.and_assoc]
      cases c == 47 <;> simp [Bool.and_assoc]

def gIs : List SV → Option (Bool × SV)
  | [.str s] => some (decide (s.size < 4294967281), .bool (isS s))
  | _ => none
theorem f17_ok : SpecOk rE 17 (.plain gIs) := by
  refine plain_of_run (fx_ok rLib_ok [] f17_live) (fn := Try.f17) (by kernel_rfl) (by decide) (by rfl) (fun args sv h => ?_)
  unfold gIs at h
  split at h
  · rename_i s
    simp only [Option.some.injEq, Prod.mk.injEq, decide_eq_true_eq] at h
    obtain ⟨h1, rfl⟩ := h
    refine ⟨rfl, rfl, s.size + 1, ?_⟩
    show evFun f17_X (s.size + 1) Try.f17 (frz f17_X.Ty Try.f17) [.str s] [] [] = _
    rw [f17_eq, f17_L2_is _ s h1 s.size _ 0 (by omega) (by omega) (by omega)]
    rfl
  · cases h

theorem contains_ss : ∀ l : List UInt8, Lib.contains l [47, 47] = true ↔ ∃ j : Nat, l[j]? = some 47 ∧ l[j + 1]? = some 47
  | [] => by simp [Lib.contains, Lib.index]
  | b :: l => by
    have ih := contains_ss l
    have hge := Lib.index_ge l [47, 47]
    have e : Lib.contains (b :: l) [47, 47] = ((b == 47 && l[0]? == some 47) || Lib.contains l [47, 47]) := by
      unfold Lib.contains
      rw [Lib.index]
      by_cases h : List.isPrefixOf [47, 47] (b :: l) = true
      · have : (b == 47 && l[0]? == some 47) = true := by
          cases l with
          | nil => simp [List.isPrefixOf] at h
          | cons c l => simp [List.isPrefixOf] at h ⊢; exact ⟨h.1.symm, h.2.symm⟩
        rw [if_pos h, this]; simp
      · have : (b == 47 && l[0]? == some 47) = false := by
          cases l with
          | nil => simp
          | cons c l => simp [List.isPrefixOf] at h ⊢; intro hb hc; exact h hb.symm hc.symm
        rw [if_neg h, this]
        by_cases h2 : Lib.index l [47, 47] = -1
        · simp [h2]
        · have : (Lib.index l [47, 47] == -1) = false := by simpa using h2
          rw [this]
          simp
          by_cases h3 : 0 ≤ Lib.index l [47, 47]
          · simp [h3]; omega
          · omega
    rw [e]
    simp only [Bool.or_eq_true, Bool.and_eq_true, beq_iff_eq, ih]
    constructor
    · rintro (⟨h1, h2⟩ | ⟨j, h1, h2⟩)
      · exact ⟨0, by simp [h1], by simpa using h2⟩
      · exact ⟨j + 1, by simpa using h1, by simpa using h2⟩
    · rintro ⟨j, h1, h2⟩
      cases j with
      | zero => left; simp at h1 h2; exact ⟨h1, by simpa using h2⟩
      | succ j => right; exact ⟨j, by simpa using h1, by simpa using h2⟩

def special8 (c : Int) : Bool := c == 40 || c == 41 || c == 123 || c == 125 || c == 37 || c == 42 || c == 34 || c == 92
theorem special_ix (c : UInt8) : decide (Lib.indexByte [40, 41, 123, 125, 37, 42, 34, 92] c ≥ 0) = special8 (c.toNat : Int) := by
  have key : ∀ k : UInt8, ((c.toNat : Int) == (k.toNat : Int)) = (c == k) := fun k => by
    rw [Bool.eq_iff_iff]; simp only [beq_iff_eq]
    constructor
    · intro h; exact UInt8.toNat_inj.1 (by omega)
    · intro h; subst h; rfl
  have k1 := key 40; have k2 := key 41; have k3 := key 123; have k4 := key 125; have k5 := key 37; have k6 := key 42; have k7 := key 34; have k8 := key 92
  simp only [show ((40 : UInt8).toNat : Int) = 40 from rfl, show ((41 : UInt8).toNat : Int) = 41 from rfl, show ((123 : UInt8).toNat : Int) = 123 from rfl, show ((125 : UInt8).toNat : Int) = 125 from rfl, show ((37 : UInt8).toNat : Int) = 37 from rfl, show ((42 : UInt8).toNat : Int) = 42 from rfl, show ((34 : UInt8).toNat : Int) = 34 from rfl, show ((92 : UInt8).toNat : Int) = 92 from rfl] at k1 k2 k3 k4 k5 k6 k7 k8
  unfold special8
  rw [k1, k2, k3, k4, k5, k6, k7, k8]
  have := Lib.contains_iff_indexByte [40, 41, 123, 125, 37, 42, 34, 92] c
  show decide (0 ≤ Lib.indexByte [40, 41, 123, 125, 37, 42, 34, 92] c) = _
  rw [← this]
  simp only [List.contains_cons, List.contains_nil, Bool.or_false, Bool.or_assoc]

theorem bAt_toUInt8 (s : ByteArray) (i : Int) : (((bAt s i).toNat.toUInt8).toNat : Int) = bAt s i := by
  unfold bAt
  generalize s.data.toList.getD i.toNat 0 = b
  have := b.toNat_lt
  simp
theorem okFrom_iff (s : ByteArray) : ∀ (k : Nat) (i : Int), okFrom s k i = true ↔ ∀ j : Nat, j < k → okAt s (i + j) = true
  | 0, i => by simp [okFrom]
  | k + 1, i => by
    simp only [okFrom, Bool.and_eq_true, okFrom_iff s k]
    constructor
    · rintro ⟨h1, h2⟩ j hj
      cases j with
      | zero => simpa using h1
      | succ j =>
        have := h2 j (by omega)
        have e : i + 1 + (j : Int) = i + ((j + 1 : Nat) : Int) := by omega
        rwa [e] at this
    · intro h
      refine ⟨by simpa using h 0 (by omega), fun j hj => ?_⟩
      have := h (j + 1) (by omega)
      have e : i + 1 + (j : Int) = i + ((j + 1 : Nat) : Int) := by omega
      rwa [e]
def okc (c : Int) : Bool := !decide (c < 33) && !decide (c > 126) && !special8 c
def chFrom (s : ByteArray) : Nat → Int → Bool
  | 0, _ => true
  | k + 1, i => okc (bAt s i) && chFrom s k (i + 1)
theorem chFrom_iff (s : ByteArray) : ∀ (k : Nat) (i : Int), chFrom s k i = true ↔ ∀ j : Nat, j < k → okc (bAt s (i + j)) = true
  | 0, i => by simp [chFrom]
  | k + 1, i => by
    simp only [chFrom, Bool.and_eq_true, chFrom_iff s k]
    constructor
    · rintro ⟨h1, h2⟩ j hj
      cases j with
      | zero => simpa using h1
      | succ j =>
        have := h2 j (by omega)
        have e : i + 1 + (j : Int) = i + ((j + 1 : Nat) : Int) := by omega
        rwa [e] at this
    · intro h
      refine ⟨by simpa using h 0 (by omega), fun j hj => ?_⟩
      have := h (j + 1) (by omega)
      have e : i + 1 + (j : Int) = i + ((j + 1 : Nat) : Int) := by omega
      rwa [e]

theorem f16_L4_is (n : Nat) (s : ByteArray) (hs : s.size < 4294967281) : ∀ (k m : Nat) (i : Int), 0 ≤ i → i + k = s.size → k < m → f16_L4 n m s s.size i = some (.bool (chFrom s k i))
  | 0, m, i, h0, hi, hm => by
    obtain ⟨m, rfl⟩ : ∃ m', m = m' + 1 := ⟨m - 1, by omega⟩
    rw [f16_L4_eq]
    have : ¬ (i < (s.size : Int)) := by omega
    simp only [this, decide_false, cond_false, chFrom]
  | k + 1, m, i, h0, hi, hm => by
    obtain ⟨m, rfl⟩ : ∃ m', m = m' + 1 := ⟨m - 1, by omega⟩
    have ih := f16_L4_is n s hs k m (i + 1) (by omega) (by omega) (by omega)
    rw [f16_L4_eq]
    have h1 : i < (s.size : Int) := by omega
    have w1 : IntKind.wrap .i64 (i + 1) = i + 1 := wrap64 (by omega) (by omega)
    have sp := special_ix (bAt s i).toNat.toUInt8
    rw [bAt_toUInt8] at sp
    rw [w1, ih]
    show (bif decide (i < (s.size : Int)) then _ else _) = _
    simp only [h1, h0, decide_true, cond_true, Bool.and_true, chFrom, okc]
    show (bif decide (bAt s i < 33) then some (SV.bool false) else bif decide (bAt s i > 126) then some (SV.bool false) else bif decide (Lib.indexByte [40, 41, 123, 125, 37, 42, 34, 92] (bAt s i).toNat.toUInt8 ≥ 0) then some (SV.bool false) else some (SV.bool (chFrom s k (i + 1)))) = _
    rw [sp]
    simp only [br_bool, br_not, Bool.and_assoc]

theorem getD_bAt (s : ByteArray) (j : Nat) : s.data.toList[j]? = some 47 ↔ j < s.size ∧ bAt s (j : Int) = 47 := by
  have hl : s.data.toList.length = s.size := by simp
  unfold bAt
  rw [Int.toNat_natCast, List.getD_eq_getElem?_getD]
  constructor
  · intro h
    have hj := (List.getElem?_eq_some_iff.1 h).1
    exact ⟨by omega, by rw [h]; rfl⟩
  · rintro ⟨h1, h2⟩
    have hj : j < s.data.toList.length := by omega
    rw [List.getElem?_eq_getElem hj] at h2 ⊢
    simp only [Option.getD_some] at h2
    congr 1
    apply UInt8.toNat_inj.1
    have : ((47 : UInt8).toNat : Int) = 47 := rfl
    omega

theorem okAt_iff (s : ByteArray) (i : Int) : okAt s i = true ↔ okc (bAt s i) = true ∧ (bAt s i = 47 → i ≠ 0 ∧ i ≠ (s.size : Int) - 1 ∧ bAt s (i - 1) ≠ 47) := by
  unfold okAt okc special8
  generalize bAt s i = c
  generalize bAt s (i - 1) = d
  simp only [Bool.and_eq_true, Bool.not_eq_true', Bool.or_eq_false_iff, Bool.and_eq_false_iff, beq_eq_false_iff_ne, decide_eq_false_iff_not, ne_eq]
  constructor
  · rintro ⟨⟨⟨⟨⟨⟨⟨⟨⟨⟨h1, h2⟩, h3⟩, h4⟩, h5⟩, h6⟩, h7⟩, h8⟩, h9⟩, h10⟩, h11⟩
    refine ⟨⟨⟨h1, h2⟩, ⟨⟨⟨⟨⟨⟨⟨h3, h4⟩, h5⟩, h6⟩, h7⟩, h8⟩, h9⟩, h10⟩⟩, fun hc => ?_⟩
    rcases h11 with h | ⟨⟨a, b⟩, c⟩
    · exact absurd hc h
    · exact ⟨a, b, c⟩
  · rintro ⟨⟨⟨h1, h2⟩, ⟨⟨⟨⟨⟨⟨⟨h3, h4⟩, h5⟩, h6⟩, h7⟩, h8⟩, h9⟩, h10⟩⟩, h11⟩
    refine ⟨⟨⟨⟨⟨⟨⟨⟨⟨⟨h1, h2⟩, h3⟩, h4⟩, h5⟩, h6⟩, h7⟩, h8⟩, h9⟩, h10⟩, ?_⟩
    by_cases hc : c = 47
    · obtain ⟨a, b, c⟩ := h11 hc
      exact .inr ⟨⟨a, b⟩, c⟩
    · exact .inl hc

theorem isS_eq (s : ByteArray) (h1 : 1 ≤ s.size) : isS s = (!decide ((s.size : Int) > 60) && (!(bAt s 0 == 47) && (!(bAt s ((s.size : Int) - 1) == 47) && (!Lib.contains s.data.toList [47, 47] && chFrom s s.size 0)))) := by
  rw [Bool.eq_iff_iff]
  unfold isS
  simp only [Bool.and_eq_true, Bool.not_eq_true', decide_eq_true_eq, decide_eq_false_iff_not, beq_eq_false_iff_ne, okFrom_iff, chFrom_iff, okAt_iff, Int.zero_add]
  have hc : Lib.contains s.data.toList [47, 47] = false ↔ ∀ j : Nat, j + 1 < s.size → bAt s (j : Int) = 47 → bAt s ((j + 1 : Nat) : Int) ≠ 47 := by
    rw [← Bool.not_eq_true, contains_ss]
    constructor
    · intro h j hj ha hb
      exact h ⟨j, (getD_bAt s j).2 ⟨by omega, ha⟩, (getD_bAt s (j + 1)).2 ⟨hj, hb⟩⟩
    · rintro h ⟨j, ha, hb⟩
      exact h j ((getD_bAt s (j + 1)).1 hb).1 ((getD_bAt s j).1 ha).2 ((getD_bAt s (j + 1)).1 hb).2
  rw [hc]
  constructor
  · rintro ⟨⟨h, _⟩, h60⟩
    refine ⟨by omega, fun h0 => ?_, fun hl => ?_, fun j hj ha hb => ?_, fun j hj => (h j hj).1⟩
    · have := (h 0 (by omega)).2
      simp only [Int.natCast_zero] at this
      exact (this h0).1 rfl
    · have := (h (s.size - 1) (by omega)).2
      have e : ((s.size - 1 : Nat) : Int) = (s.size : Int) - 1 := by omega
      rw [e] at this
      exact (this hl).2.1 rfl
    · have := ((h (j + 1) (by omega)).2 hb).2.2
      have e : ((j + 1 : Nat) : Int) - 1 = (j : Int) := by omega
      rw [e] at this
      exact this ha
  · rintro ⟨h60, h0, hl, hcc, hch⟩
    refine ⟨⟨fun j hj => ⟨hch j hj, fun h47 => ⟨fun e => ?_, fun e => ?_, fun e => ?_⟩⟩, by omega⟩, by omega⟩
    · rw [e] at h47; exact h0 h47
    · rw [e] at h47; exact hl h47
    · cases j with
      | zero => exact h0 h47
      | succ j =>
        have e2 : ((j + 1 : Nat) : Int) - 1 = (j : Int) := by omega
        rw [e2] at e
        exact hcc j hj e h47

theorem f16_ok : SpecOk rE 16 (.plain gIs) := by
  refine plain_of_run (fx_ok rLib_ok [] f16_live) (fn := Try.f16) (by kernel_rfl) (by decide) (by rfl) (fun args sv h => ?_)
  unfold gIs at h
  split at h
  · rename_i s
    simp only [Option.some.injEq, Prod.mk.injEq, decide_eq_true_eq] at h
    obtain ⟨h1, rfl⟩ := h
    refine ⟨rfl, rfl, s.size + 1, ?_⟩
    show evFun f16_X (s.size + 1) Try.f16 (frz f16_X.Ty Try.f16) [.str s] [] [] = _
    rw [f16_eq, f16_L4_is _ s h1 s.size _ 0 (by omega) (by omega) (by omega), Lib.toList_data, Lib.toList_data]
    show (bif s.data.toList == [] then _ else _) = _
    have hl : s.data.toList.length = s.size := by simp
    by_cases h0 : s.size = 0
    · have : s.data.toList = [] := List.eq_nil_of_length_eq_zero (by omega)
      have hf : isS s = false := by unfold isS; simp [h0]
      rw [hf]
      have : (s.data.toList == []) = true := by rw [this]; rfl
      rw [this]; rfl
    · have : (s.data.toList == []) = false := by
        cases hd : s.data.toList with
        | nil => rw [hd] at hl; simp at hl; omega
        | cons a l => rfl
      have w2 : IntKind.wrap .i64 ((s.size : Int) - 1) = (s.size : Int) - 1 := wrap64 (by omega) (by omega)
      have c1 : (0 : Int) < s.size := by omega
      have c2 : (0 : Int) ≤ (s.size : Int) - 1 := by omega
      have c3 : (s.size : Int) - 1 < s.size := by omega
      rw [this, w2, isS_eq s (by omega)]
      show (bif false then _ else bif decide ((s.size : Int) > 60) then some (SV.bool false) else bif decide ((0 : Int) < s.size) then (bif bAt s 0 == 47 then some (SV.bool false) else bif decide ((0 : Int) ≤ (s.size : Int) - 1) && decide ((s.size : Int) - 1 < s.size) then (bif bAt s ((s.size : Int) - 1) == 47 then some (SV.bool false) else bif decide (s.size < 4294967281) then (bif Lib.contains s.data.toList [47, 47] then some (SV.bool false) else some (SV.bool (chFrom s s.size 0))) else none) else none) else none) = _
      simp only [c1, c2, c3, h1, decide_true, cond_true, cond_false, Bool.and_true, br_bool, br_not]
  · cases h
end Sx

/-
  What the executor says of functions: the normal forms, each compared by the kernel. (Printed by a program.)
-/
set_option linter.unusedVariables false
namespace Sx
open Go Go.Proofs
/-- The slots that are needed at the loops' heads of 'hamper/hamperref16.small'. -/
noncomputable def f80_live : Nat → List Nat × List (Nat × TypeId) := fun h => ([], [])
noncomputable def f80_X : Fx := ⟨tyOf Try.prog, ofList rLib, [], f80_live⟩
/-- The slots that are needed at the loops' heads of 'hamper/hamperlaw23.few'. -/
noncomputable def f15_live : Nat → List Nat × List (Nat × TypeId) := fun h => ([], [])
noncomputable def f15_X : Fx := ⟨tyOf Try.prog, ofList rLib, [], f15_live⟩
set_option maxRecDepth 100000
theorem f80_eq (n : Nat) (c : Int) : evFun f80_X n Try.f80 (frz f80_X.Ty Try.f80) [.int .u8 c] [] [] = bif decide ((65 : Int) ≤ c) then bif decide (c ≤ (90 : Int)) then some (SV.int IntKind.u8 (IntKind.wrap IntKind.u8 (c + (32 : Int)))) else some (SV.int IntKind.u8 c) else some (SV.int IntKind.u8 c) := by kernel_rfl

theorem f15_eq (n : Nat) (s : ByteArray) : evFun f15_X n Try.f15 (frz f15_X.Ty Try.f15) [.str s] [] [] = bif decide ((↑(ByteArray.size s) : Int) > (70 : Int)) then bif decide ((70 : Int) ≤ (↑(ByteArray.size s) : Int)) && true then some (SV.str (ByteArray.extract s (0 : Nat) (70 : Nat))) else none else some (SV.str s) := by kernel_rfl

end Sx

/-
  Small functions: what is looked at of a text, small letters; and the table with both.
-/
namespace Sx
open Go Go.Proofs

def smallI (c : Int) : Int := if 65 ≤ c ∧ c ≤ 90 then c + 32 else c
def gSmall : List SV → Option (Bool × SV)
  | [.int .u8 c] => some (true, .int .u8 (smallI c))
  | _ => none
theorem wrap8 {x : Int} (h0 : 0 ≤ x) (h1 : x ≤ 255) : IntKind.wrap .u8 x = x := by
  simp only [IntKind.wrap, IntKind.signed, IntKind.bits]
  simp
  omega
theorem f80_ok : SpecOk rE 80 (.plain gSmall) := by
  refine plain_of_run (fx_ok rLib_ok [] f80_live) (fn := Try.f80) (by kernel_rfl) (by decide) (by rfl) (fun args sv h => ?_)
  unfold gSmall at h
  split at h
  · rename_i c
    simp only [Option.some.injEq, Prod.mk.injEq, true_and] at h
    subst h
    refine ⟨rfl, rfl, 0, ?_⟩
    show evFun f80_X 0 Try.f80 (frz f80_X.Ty Try.f80) [.int .u8 c] [] [] = _
    rw [f80_eq]
    unfold smallI
    by_cases h1 : 65 ≤ c
    · by_cases h2 : c ≤ 90
      · rw [wrap8 (by omega) (by omega)]
        simp [h1, h2]
      · simp [h1, h2]
    · simp [h1]
  · cases h

def fewS (s : ByteArray) : ByteArray := if 70 < s.size then s.extract 0 70 else s
def gFew : List SV → Option (Bool × SV)
  | [.str s] => some (true, .str (fewS s))
  | _ => none
theorem f15_ok : SpecOk rE 15 (.plain gFew) := by
  refine plain_of_run (fx_ok rLib_ok [] f15_live) (fn := Try.f15) (by kernel_rfl) (by decide) (by rfl) (fun args sv h => ?_)
  unfold gFew at h
  split at h
  · rename_i s
    simp only [Option.some.injEq, Prod.mk.injEq, true_and] at h
    subst h
    refine ⟨rfl, rfl, 0, ?_⟩
    show evFun f15_X 0 Try.f15 (frz f15_X.Ty Try.f15) [.str s] [] [] = _
    rw [f15_eq]
    unfold fewS
    by_cases h1 : 70 < s.size
    · have h2 : ((s.size : Int) > 70) := by omega
      have h3 : ((70 : Int) ≤ s.size) := by omega
      simp [h1, h2, h3]
    · have h2 : ¬ ((s.size : Int) > 70) := by omega
      simp only [h2, h1, decide_false, cond_false, if_false]
  · cases h

def rT1 : List (Nat × Spec) := (80, .plain gSmall) :: (15, .plain gFew) :: (16, .plain gIs) :: (17, .plain gIs) :: rLib
theorem rT1_ok : SpecsOk rE (ofList rT1) := .cons f80_ok (.cons f15_ok (.cons f16_ok (.cons f17_ok rLib_ok)))
end Sx

/-
  The document's Cut: a text at a sign.
-/
namespace Sx
open Go Go.Proofs

/-- A text out of its bytes. -/
def tx (l : List UInt8) : SV := .str ⟨l.toArray⟩
def cutL (c : UInt8) : List UInt8 → List (List UInt8)
  | [] => [[]]
  | b :: l => if b = c then [] :: cutL c l else match cutL c l with
    | h :: t => (b :: h) :: t
    | [] => [[b]]
def glue (a : List UInt8) : List (List UInt8) → List (List UInt8)
  | h :: t => (a ++ h) :: t
  | [] => [a]
theorem glue_nil (c : UInt8) (l : List UInt8) : glue [] (cutL c l) = cutL c l := by
  cases l with
  | nil => rfl
  | cons b l =>
    simp only [cutL]
    split
    · rfl
    · split <;> rfl
theorem glue_one (c : UInt8) (a : List UInt8) (b : UInt8) (l : List UInt8) (h : b ≠ c) : glue a (cutL c (b :: l)) = glue (a ++ [b]) (cutL c l) := by
  simp only [cutL, if_neg h]
  cases cutL c l <;> simp [glue]
theorem glue_cut (c : UInt8) (a : List UInt8) (l : List UInt8) : glue a (cutL c (c :: l)) = a :: cutL c l := by
  simp [cutL, glue]

theorem add_byte (a : List UInt8) (s : ByteArray) (i : Nat) (b : UInt8) (h : s.data.toList[i]? = some b) : (⟨a.toArray⟩ : ByteArray) ++ s.extract i (i + 1) = ⟨(a ++ [b]).toArray⟩ := by
  apply ByteArray.ext
  rw [ByteArray.data_append, ByteArray.data_extract]
  apply Array.ext'
  rw [Array.toList_append, Array.toList_extract]
  simp only [List.extract_eq_take_drop]
  have hj := (List.getElem?_eq_some_iff.1 h).1
  rw [List.drop_eq_getElem_cons hj]
  have e : s.data.toList[i] = b := by rw [List.getElem?_eq_getElem hj] at h; exact Option.some.inj h
  have e2 : i + 1 - i = 1 := by omega
  rw [e2, List.take_succ_cons, List.take_zero, e]

theorem drop_cons (s : ByteArray) (i : Nat) (h : i < s.size) : ∃ b, s.data.toList[i]? = some b ∧ s.data.toList.drop i = b :: s.data.toList.drop (i + 1) ∧ bAt s (i : Int) = (b.toNat : Int) := by
  have hl : s.data.toList.length = s.size := by simp
  have hj : i < s.data.toList.length := by omega
  refine ⟨s.data.toList[i], List.getElem?_eq_getElem hj, List.drop_eq_getElem_cons hj, ?_⟩
  unfold bAt
  rw [Int.toNat_natCast, List.getD_eq_getElem?_getD, List.getElem?_eq_getElem hj]
  rfl

theorem f64_L3_is (n : Nat) (s : ByteArray) (hs : s.size < 4294967281) (c : UInt8) : ∀ (k m i : Nat) (xs : List (List UInt8)) (cur : List UInt8), i + k = s.size → k < m → xs.length ≤ i → cur.length ≤ i →
    f64_L3 n m s (c.toNat : Int) (i : Int) ((xs ++ [cur]).map tx) = some (.lst 9 ((xs ++ glue cur (cutL c (s.data.toList.drop i))).map tx))
  | 0, m, i, xs, cur, hi, hm, hx, hc => by
    obtain ⟨m, rfl⟩ : ∃ m', m = m' + 1 := ⟨m - 1, by omega⟩
    rw [f64_L3_eq]
    have : ¬ ((i : Int) < (s.size : Int)) := by omega
    have hd : s.data.toList.drop i = [] := List.drop_of_length_le (by simp; omega)
    simp only [this, decide_false, cond_false, hd, cutL, glue, List.append_nil]
  | k + 1, m, i, xs, cur, hi, hm, hx, hc => by
    obtain ⟨m, rfl⟩ : ∃ m', m = m' + 1 := ⟨m - 1, by omega⟩
    obtain ⟨b, hb, hd, hat⟩ := drop_cons s i (by omega)
    have w1 : IntKind.wrap .i64 ((i : Int) + 1) = ((i + 1 : Nat) : Int) := by rw [wrap64 (by omega) (by omega)]; omega
    have hlen : ((xs ++ [cur]).map tx).length = xs.length + 1 := by simp
    have w2 : IntKind.wrap .i64 ((((xs ++ [cur]).map tx).length : Int) - 1) = (xs.length : Int) := by rw [hlen, wrap64 (by omega) (by omega)]; omega
    have hlast : ((xs ++ [cur]).map tx).getD xs.length .dead = tx cur := by simp [List.getD]
    rw [f64_L3_eq]
    have c1 : (i : Int) < (s.size : Int) := by omega
    have c2 : (0 : Int) ≤ (i : Int) := by omega
    rw [w1, w2, hat, hd]
    rw [Int.toNat_natCast, hlast, hlen]
    simp only [c1, c2, decide_true, cond_true, Bool.true_and]
    by_cases hbc : b = c
    · subst hbc
      have ih := f64_L3_is n s hs b k m (i + 1) (xs ++ [cur]) [] (by omega) (by omega) (by simp; omega) (by simp)
      have e1 : (xs.length + 1 + 1) * 16 ≤ 140737488355328 := by omega
      have e2 : xs.length + 1 + 1 ≤ 9223372036854775807 := by omega
      simp only [beq_self_eq_true, cond_true, e1, e2, decide_true, Bool.and_true, glue_cut]
      rw [glue_nil] at ih
      have : (xs ++ [cur]).map tx ++ [SV.str { data := #[] }] = ((xs ++ [cur]) ++ [[]]).map tx := by simp [tx]
      rw [this, ih]
      simp
    · have hne : ((b.toNat : Int) == (c.toNat : Int)) = false := by
        simp only [beq_eq_false_iff_ne, ne_eq]
        intro h
        exact hbc (UInt8.toNat_inj.1 (by omega))
      have ih := f64_L3_is n s hs c k m (i + 1) xs (cur ++ [b]) (by omega) (by omega) (by omega) (by simp; omega)
      rw [glue_one c cur b _ hbc]
      simp only [hne, cond_false]
      have d1 : (0 : Int) ≤ (xs.length : Int) := by omega
      have d2 : (xs.length : Int) < ((xs.length + 1 : Nat) : Int) := by omega
      have d3 : (0 : Int) ≤ ((i + 1 : Nat) : Int) := by omega
      have d4 : ((i + 1 : Nat) : Int) ≤ (s.size : Int) := by omega
      have d5 : (i : Int) ≤ ((i + 1 : Nat) : Int) := by omega
      have hcell : asStr ((cellsOf (tx cur)).getD 0 .dead) = ⟨cur.toArray⟩ := rfl
      have happ := add_byte cur s i b hb
      have d6 : Nat.ble ((⟨cur.toArray⟩ : ByteArray).size + (s.extract i (i + 1)).size) 9223372036854775807 = true := by
        apply Nat.ble_eq_true_of_le
        have h1 : (⟨cur.toArray⟩ : ByteArray).size = cur.length := by simp [ByteArray.size]
        have h2 : (s.extract i (i + 1)).size ≤ 1 := by rw [ByteArray.size_extract]; omega
        omega
      have hset : ((xs ++ [cur]).map tx).set xs.length (SV.str ⟨(cur ++ [b]).toArray⟩) = (xs ++ [cur ++ [b]]).map tx := by
        rw [List.map_append, List.map_append, List.set_append_right _ _ (by simp)]
        simp [tx]
      simp only [hcell, Int.toNat_natCast, happ, d1, d2, d3, d4, d5, d6, decide_true, cond_true, Bool.and_true, hset]
      exact ih

def gCut16 : List SV → Option (Bool × SV)
  | [.str s, .int .u8 c] => some (decide (s.size < 4294967281) && decide (0 ≤ c) && decide (c ≤ 255), .lst 9 ((cutL c.toNat.toUInt8 s.data.toList).map tx))
  | _ => none
theorem f64_ok : SpecOk rE 64 (.plain gCut16) := by
  refine plain_of_run (fx_ok rLib_ok [] f64_live) (fn := Try.f64) (by kernel_rfl) (by decide) (by rfl) (fun args sv h => ?_)
  unfold gCut16 at h
  split at h
  · rename_i s c
    simp only [Option.some.injEq, Prod.mk.injEq, Bool.and_eq_true, decide_eq_true_eq] at h
    obtain ⟨⟨⟨h1, h2⟩, h3⟩, rfl⟩ := h
    refine ⟨rfl, rfl, s.size + 1, ?_⟩
    show evFun f64_X (s.size + 1) Try.f64 (frz f64_X.Ty Try.f64) [.str s, .int .u8 c] [] [] = _
    have hc : ((c.toNat.toUInt8).toNat : Int) = c := by
      simp
      omega
    have := f64_L3_is (s.size + 1) s h1 c.toNat.toUInt8 s.size (s.size + 1) 0 [] [] (by omega) (by omega) (by simp) (by simp)
    rw [hc] at this
    rw [f64_eq]
    simp only [List.nil_append, glue_nil, List.drop_zero] at this
    exact this
  · cases h
end Sx

/-
  What the executor says of functions: the normal forms, each compared by the kernel. (Printed by a program.)
-/
set_option linter.unusedVariables false
namespace Sx
open Go Go.Proofs
set_option maxRecDepth 100000
/-- The slots that are needed at the loops' heads of 'hamper/hamperref29.sign'. -/
noncomputable def f72_live : Nat → List Nat × List (Nat × TypeId) := fun h => ([], [])
noncomputable def f72_X : Fx := ⟨tyOf Try.prog, ofList rLib, [], f72_live⟩
/-- The slots that are needed at the loops' heads of 'hamper/line.sign'. -/
noncomputable def f93_live : Nat → List Nat × List (Nat × TypeId) := fun h => ([], [])
noncomputable def f93_X : Fx := ⟨tyOf Try.prog, ofList rLib, [], f93_live⟩
/-- The slots that are needed at the loops' heads of '(*hamper/line.Reader).Waits'. -/
noncomputable def f30_live : Nat → List Nat × List (Nat × TypeId) := fun h => ([], [])
noncomputable def f30_X : Fx := ⟨tyOf Try.prog, ofList rLib, [], f30_live⟩
/-- The slots that are needed at the loops' heads of 'hamper/hamperref29.Toks'. -/
noncomputable def f53_live : Nat → List Nat × List (Nat × TypeId) := fun h => bif Nat.beq h 4 then ([0, 1, 5], nilsOf (tyOf Try.prog) [(0, 80), (1, 80), (5, 3)]) else ([], [])
noncomputable def f53_X : Fx := ⟨tyOf Try.prog, ofList rLib, [], f53_live⟩
/-- The slots that are needed at the loops' heads of 'hamper/hamperref16.Number'. -/
noncomputable def f71_live : Nat → List Nat × List (Nat × TypeId) := fun h => bif Nat.beq h 3 then ([0, 3, 4], nilsOf (tyOf Try.prog) [(0, 9), (3, 3), (4, 3)]) else ([], [])
noncomputable def f71_X : Fx := ⟨tyOf Try.prog, ofList rLib, [], f71_live⟩
/-- The slots that are needed at the loops' heads of 'hamper/hamperlaw29.chunks'. -/
noncomputable def f25_live : Nat → List Nat × List (Nat × TypeId) := fun h => bif Nat.beq h 6 then ([0, 3, 4, 5], nilsOf (tyOf Try.prog) [(0, 43), (3, 43), (4, 3), (5, 3)]) else ([], [])
noncomputable def f25_X : Fx := ⟨tyOf Try.prog, ofList rLib, [], f25_live⟩
/-- The slots that are needed at the loops' heads of 'internal/stringslite.HasSuffix'. -/
noncomputable def f90_live : Nat → List Nat × List (Nat × TypeId) := fun h => ([], [])
noncomputable def f90_X : Fx := ⟨tyOf Try.prog, ofList rLib, [], f90_live⟩
/-- The slots that are needed at the loops' heads of '(*hamper/line.Reader).end$1'. -/
noncomputable def f86_live : Nat → List Nat × List (Nat × TypeId) := fun h => ([], [])
noncomputable def f86_X : Fx := ⟨tyOf Try.prog, ofList rLib, [], f86_live⟩
/-- The slots that are needed at the loops' heads of 'hamper/line.New'. -/
noncomputable def f26_live : Nat → List Nat × List (Nat × TypeId) := fun h => ([], [])
noncomputable def f26_X (sm : List Nat) : Fx := ⟨tyOf Try.prog, ofList rLib, sm, f26_live⟩
def f72_T (c : Int) : Tr SV := Tr.br (decide ((33 : Int) ≤ c))
  (Tr.br (decide (c ≤ (126 : Int))) (Tr.br (c != (40 : Int)) (Tr.br (c != (41 : Int)) (Tr.leaf (SV.bool (c != (34 : Int)))) (Tr.leaf (SV.bool false))) (Tr.leaf (SV.bool false))) (Tr.leaf (SV.bool false)))
  (Tr.leaf (SV.bool false))
theorem f72_eq (fu : Nat) (c : Int) : evFun f72_X fu Try.f72 (frz f72_X.Ty Try.f72) [.int .u8 c] [] [] = (f72_T c).opt1 := by kernel_rfl

def f93_T (c : Int) : Tr SV := Tr.br (decide (c > (32 : Int)))
  (Tr.br (decide (c < (127 : Int))) (Tr.br (c != (40 : Int)) (Tr.br (c != (41 : Int)) (Tr.leaf (SV.bool (c != (34 : Int)))) (Tr.leaf (SV.bool false))) (Tr.leaf (SV.bool false))) (Tr.leaf (SV.bool false)))
  (Tr.leaf (SV.bool false))
theorem f93_eq (fu : Nat) (c : Int) : evFun f93_X fu Try.f93 (frz f93_X.Ty Try.f93) [.int .u8 c] [] [] = (f93_T c).opt1 := by kernel_rfl

def f30_T (p : List SV) (h : List SV) (o : Bool) (s : Int) (n : Int) (w : Int) : Tr SV := Tr.leaf (SV.int IntKind.i64 w)
theorem f30_eq (fu : Nat) (p : List SV) (h : List SV) (o : Bool) (s : Int) (n : Int) (w : Int) : evFun f30_X fu Try.f30 (frz f30_X.Ty Try.f30) [.adr [.lst 77 p, .lst 5 h, .bool o, .int .i64 s, .int .i64 n, .int .i64 w]] [] [] = (f30_T p h o s n w).opt1 := by kernel_rfl

def f53_st4 (x0 : List SV) (x1 : List SV) (x2 : Int) : St := St.mk
  [SV.lst (88 : Nat) x0, SV.lst (88 : Nat) x1, SV.dead, SV.dead, SV.dead, SV.int IntKind.i64 x2, SV.dead, SV.dead, SV.dead, SV.dead, SV.dead, SV.dead, SV.dead, SV.dead, SV.dead, SV.dead, SV.dead, SV.dead, SV.dead,
    SV.dead, SV.dead, SV.dead, SV.dead, SV.dead, SV.dead, SV.dead]
  [] []
noncomputable def f53_L4 (fu fm : Nat) (x0 : List SV) (x1 : List SV) (x2 : Int) : Option (SV) := atLoop f53_X Try.f53 (frz f53_X.Ty Try.f53) fu [.r, .r, .l, .r, .b] fm (f53_st4 x0 x1 x2)
theorem f53_L4_eq (fu fm : Nat) (x0 : List SV) (x1 : List SV) (x2 : Int) : f53_L4 fu (fm + 1) x0 x1 x2 = bif decide (x2 < (↑(List.length x0) : Int)) then
  bif decide ((0 : Int) ≤ x2) && decide (x2 < (↑(List.length x0) : Int)) then
    bif decide ((0 : Int) ≤ x2) && decide (x2 < (↑(List.length x1) : Int)) then
      bif
          !(asInt (List.getD (cellsOf (List.getD x0 (Int.toNat x2) SV.dead)) (0 : Nat) SV.dead) == asInt (List.getD (cellsOf (List.getD x1 (Int.toNat x2) SV.dead)) (0 : Nat) SV.dead) &&
              (asStr (List.getD (cellsOf (List.getD x0 (Int.toNat x2) SV.dead)) (1 : Nat) SV.dead) == asStr (List.getD (cellsOf (List.getD x1 (Int.toNat x2) SV.dead)) (1 : Nat) SV.dead) && true)) then
        some (SV.bool false)
      else f53_L4 fu fm x0 x1 (IntKind.wrap IntKind.i64 (x2 + (1 : Int)))
    else none
  else none
  else some (SV.bool true) := by kernel_rfl

theorem f53_eq (fu : Nat) (a : List SV) (b : List SV) : evFun f53_X fu Try.f53 (frz f53_X.Ty Try.f53) [.lst 88 a, .lst 88 b] [] [] = bif (↑(List.length a) : Int) != (↑(List.length b) : Int) then some (SV.bool false) else f53_L4 fu fu a b (0 : Int) := by kernel_rfl

def f71_st3 (x0 : ByteArray) (x1 : Int) (x2 : Int) : St := St.mk
  [SV.str x0, SV.dead, SV.dead, SV.int IntKind.i64 x1, SV.int IntKind.i64 x2, SV.dead, SV.dead, SV.dead, SV.dead, SV.dead, SV.dead, SV.dead, SV.dead, SV.dead, SV.dead, SV.dead, SV.dead, SV.dead, SV.dead, SV.dead,
    SV.dead, SV.dead, SV.dead, SV.dead, SV.dead, SV.dead, SV.dead, SV.dead, SV.dead, SV.dead, SV.dead, SV.dead]
  [] []
noncomputable def f71_L3 (fu fm : Nat) (x0 : ByteArray) (x1 : Int) (x2 : Int) : Option (SV) := atLoop f71_X Try.f71 (frz f71_X.Ty Try.f71) fu [.r, .r, .l, .r, .b] fm (f71_st3 x0 x1 x2)
theorem f71_L3_eq (fu fm : Nat) (x0 : ByteArray) (x1 : Int) (x2 : Int) : f71_L3 fu (fm + 1) x0 x1 x2 = bif decide (x2 < (↑(ByteArray.size x0) : Int)) then
  bif decide ((0 : Int) ≤ x2) && decide (x2 < (↑(ByteArray.size x0) : Int)) then
    bif decide (bAt x0 x2 < (48 : Int)) then some (SV.int IntKind.i64 (-1 : Int))
    else
      bif decide ((0 : Int) ≤ x2) && decide (x2 < (↑(ByteArray.size x0) : Int)) then
        bif decide (bAt x0 x2 > (57 : Int)) then some (SV.int IntKind.i64 (-1 : Int))
        else
          bif decide ((0 : Int) ≤ x2) && decide (x2 < (↑(ByteArray.size x0) : Int)) then
            f71_L3 fu fm x0 (IntKind.wrap IntKind.i64 (IntKind.wrap IntKind.i64 (IntKind.wrap IntKind.i64 (x1 * (10 : Int)) + IntKind.wrap IntKind.i64 (bAt x0 x2)) - (48 : Int)))
              (IntKind.wrap IntKind.i64 (x2 + (1 : Int)))
          else none
      else none
  else none
  else bif ByteArray.toList x0 == ByteArray.toList (ByteArray.mk #[]) then some (SV.int IntKind.i64 (-1 : Int)) else some (SV.int IntKind.i64 x1) := by kernel_rfl

theorem f71_eq (fu : Nat) (s : ByteArray) : evFun f71_X fu Try.f71 (frz f71_X.Ty Try.f71) [.str s] [] [] = f71_L3 fu fu s (0 : Int) (0 : Int) := by kernel_rfl

def f25_st6 (x0 : List SV) (x1 : Int) (x2 : Int) (x3 : List SV) : St := St.mk
  [SV.lst (35 : Nat) x0, SV.dead, SV.dead, SV.row (100 : Nat), SV.int IntKind.i64 x1, SV.int IntKind.i64 x2, SV.dead, SV.dead, SV.dead, SV.dead, SV.dead, SV.dead, SV.dead, SV.dead, SV.dead, SV.dead, SV.dead, SV.dead,
    SV.dead, SV.dead, SV.dead, SV.dead, SV.dead, SV.dead, SV.dead, SV.dead, SV.dead, SV.dead, SV.dead, SV.dead, SV.dead, SV.dead, SV.dead, SV.dead, SV.dead, SV.dead, SV.dead, SV.dead, SV.dead, SV.dead]
  [((100 : Nat), SObj.row (35 : Nat) x3)] [(100 : Nat)]
noncomputable def f25_L6 (fu fm : Nat) (x0 : List SV) (x1 : Int) (x2 : Int) (x3 : List SV) : Option (SV) := atLoop f25_X Try.f25 (frz f25_X.Ty Try.f25) fu [.r, .r, .r, .r, .l, .r, .b] fm (f25_st6 x0 x1 x2 x3)
theorem f25_L6_eq (fu fm : Nat) (x0 : List SV) (x1 : Int) (x2 : Int) (x3 : List SV) : f25_L6 fu (fm + 1) x0 x1 x2 x3 = bif decide (x2 < (↑(List.length x0) : Int)) then
  bif decide ((0 : Int) ≤ x2) && decide (x2 < (↑(List.length x0) : Int)) then
    bif decide (IntKind.wrap IntKind.i64 (x1 + (↑(List.length (asLst (List.getD (cellsOf (List.getD x0 (Int.toNat x2) SV.dead)) (0 : Nat) SV.dead))) : Int)) > (9000 : Int)) then
      bif
          decide ((0 : Int) ≤ IntKind.wrap IntKind.i64 ((9000 : Int) - x1)) &&
              decide (IntKind.wrap IntKind.i64 ((9000 : Int) - x1) ≤ (↑(List.length (asLst (List.getD (cellsOf (List.getD x0 (Int.toNat x2) SV.dead)) (0 : Nat) SV.dead))) : Int)) &&
            true then
        bif decide ((List.length x3 + (1 : Nat)) * (24 : Nat) ≤ (140737488355328 : Nat)) && decide (List.length x3 + (1 : Nat) ≤ (9223372036854775807 : Nat)) then
          f25_L6 fu fm x0
            (IntKind.wrap IntKind.i64
              (x1 +
                (↑(List.length (List.drop (0 : Nat) (List.take (Int.toNat (IntKind.wrap IntKind.i64 ((9000 : Int) - x1))) (asLst (List.getD (cellsOf (List.getD x0 (Int.toNat x2) SV.dead)) (0 : Nat) SV.dead))))) : Int)))
            (IntKind.wrap IntKind.i64 (x2 + (1 : Int)))
            (x3 ++ [SV.lst (5 : Nat) (List.drop (0 : Nat) (List.take (Int.toNat (IntKind.wrap IntKind.i64 ((9000 : Int) - x1))) (asLst (List.getD (cellsOf (List.getD x0 (Int.toNat x2) SV.dead)) (0 : Nat) SV.dead))))])
        else none
      else none
    else
      bif decide ((List.length x3 + (1 : Nat)) * (24 : Nat) ≤ (140737488355328 : Nat)) && decide (List.length x3 + (1 : Nat) ≤ (9223372036854775807 : Nat)) then
        f25_L6 fu fm x0 (IntKind.wrap IntKind.i64 (x1 + (↑(List.length (asLst (List.getD (cellsOf (List.getD x0 (Int.toNat x2) SV.dead)) (0 : Nat) SV.dead))) : Int))) (IntKind.wrap IntKind.i64 (x2 + (1 : Int)))
          (x3 ++ [SV.lst (5 : Nat) (asLst (List.getD (cellsOf (List.getD x0 (Int.toNat x2) SV.dead)) (0 : Nat) SV.dead))])
      else none
  else none
  else some (SV.lst (35 : Nat) x3) := by kernel_rfl

theorem f25_eq (fu : Nat) (l : List SV) : evFun f25_X fu Try.f25 (frz f25_X.Ty Try.f25) [.lst 35 l] [] [] = bif decide ((↑(List.length l) : Int) > (40 : Int)) then bif decide ((40 : Int) ≤ (↑(List.length l) : Int)) && true then f25_L6 fu fu (List.drop (0 : Nat) (List.take (40 : Nat) l)) (0 : Int) (0 : Int) [] else none
  else f25_L6 fu fu l (0 : Int) (0 : Int) [] := by kernel_rfl

def f90_T (s : ByteArray) (t : ByteArray) : Tr SV := Tr.br (decide ((↑(ByteArray.size s) : Int) ≥ (↑(ByteArray.size t) : Int)))
  (Tr.br
    (decide ((0 : Int) ≤ IntKind.wrap IntKind.i64 ((↑(ByteArray.size s) : Int) - (↑(ByteArray.size t) : Int))) &&
      decide (IntKind.wrap IntKind.i64 ((↑(ByteArray.size s) : Int) - (↑(ByteArray.size t) : Int)) ≤ (↑(ByteArray.size s) : Int)))
    (Tr.leaf
      (SV.bool (ByteArray.toList (ByteArray.extract s (Int.toNat (IntKind.wrap IntKind.i64 ((↑(ByteArray.size s) : Int) - (↑(ByteArray.size t) : Int)))) (Int.toNat (↑(ByteArray.size s) : Int))) == ByteArray.toList t)))
    Tr.no)
  (Tr.leaf (SV.bool false))
theorem f90_eq (fu : Nat) (s : ByteArray) (t : ByteArray) : evFun f90_X fu Try.f90 (frz f90_X.Ty Try.f90) [.str s, .str t] [] [] = (f90_T s t).opt1 := by kernel_rfl

def f86_T (b : Bool) (s : ByteArray) : Tr SV := Tr.br b (Tr.leaf (SV.bool true)) (Tr.leaf (SV.bool !ByteArray.toList s == ByteArray.toList (ByteArray.mk #[])))
theorem f86_eq (fu : Nat) (b : Bool) (s : ByteArray) : evFun f86_X fu Try.f86 (frz f86_X.Ty Try.f86) [.agg [.bool b, .str s]] [] [] = (f86_T b s).opt1 := by kernel_rfl

def f26_T  : Tr (SV × Mem) := Tr.leaf
  (SV.box (0 : Nat) (0 : Nat),
    [((0 : Nat), SObj.box (73 : Nat) [SV.row (1 : Nat), SV.row (2 : Nat), SV.bool false, SV.int IntKind.i64 (0 : Int), SV.int IntKind.i64 (0 : Int), SV.int IntKind.i64 (0 : Int)]), ((1 : Nat), SObj.row (77 : Nat) []),
      ((2 : Nat), SObj.row (5 : Nat) [])])
theorem f26_eq (fu : Nat)  : evFun (f26_X []) fu Try.f26 (finW (tyOf Try.prog) [] 0) [] [] [] = (f26_T ).opt := by kernel_rfl

def c26 : List SV → Mem → Tr (SV × Mem)
  | [], [] => squash (f26_T )
  | _, _ => .no
theorem f26_ok : SpecOk rE 26 (.wide (wideOf (tyOf Try.prog) c26)) :=
  wide_of_sq rE_ok (fun sm => ⟨fx_ok rLib_ok sm f26_live, rfl⟩) (fn := Try.f26) (by kernel_rfl) (by decide) (by rfl) (fun args m => by
    unfold c26
    split
    · exact .inr ⟨0, _, rfl, f26_eq 0 ⟩
    · exact .inl rfl)

def g72 : List SV → Option (Bool × SV)
  | [.int .u8 c] => gOf (f72_T c)
  | _ => none
theorem f72_ok : SpecOk rE 72 (.plain g72) :=
  plain_of_run (fx_ok rLib_ok [] f72_live) (fn := Try.f72) (by kernel_rfl) (by decide) (by rfl) (plain_of_g (f := 72) (fx_ok rLib_ok [] f72_live) (fn := Try.f72) (by kernel_rfl) (by decide) (by rfl) (fun args => by
    unfold g72
    split
    · exact .inr ⟨0, _, rfl, rfl, f72_eq 0 _⟩
    · exact .inl rfl))

def g93 : List SV → Option (Bool × SV)
  | [.int .u8 c] => gOf (f93_T c)
  | _ => none
theorem f93_ok : SpecOk rE 93 (.plain g93) :=
  plain_of_run (fx_ok rLib_ok [] f93_live) (fn := Try.f93) (by kernel_rfl) (by decide) (by rfl) (plain_of_g (f := 93) (fx_ok rLib_ok [] f93_live) (fn := Try.f93) (by kernel_rfl) (by decide) (by rfl) (fun args => by
    unfold g93
    split
    · exact .inr ⟨0, _, rfl, rfl, f93_eq 0 _⟩
    · exact .inl rfl))

def g30 : List SV → Option (Bool × SV)
  | [.adr [.lst 77 p, .lst 5 h, .bool o, .int .i64 s, .int .i64 n, .int .i64 w]] => gOf (f30_T p h o s n w)
  | _ => none
theorem f30_ok : SpecOk rE 30 (.look (lookOf (tyOf Try.prog) g30)) :=
  look_of_run (fx_ok rLib_ok [] f30_live) (fn := Try.f30) (by kernel_rfl) (by decide) (by rfl) (plain_of_g (f := 30) (fx_ok rLib_ok [] f30_live) (fn := Try.f30) (by kernel_rfl) (by decide) (by rfl) (fun args => by
    unfold g30
    split
    · exact .inr ⟨0, _, rfl, rfl, f30_eq 0 _ _ _ _ _ _⟩
    · exact .inl rfl))

def g90 : List SV → Option (Bool × SV)
  | [.str s, .str t] => gOf (f90_T s t)
  | _ => none
theorem f90_ok : SpecOk rE 90 (.plain g90) :=
  plain_of_run (fx_ok rLib_ok [] f90_live) (fn := Try.f90) (by kernel_rfl) (by decide) (by rfl) (plain_of_g (f := 90) (fx_ok rLib_ok [] f90_live) (fn := Try.f90) (by kernel_rfl) (by decide) (by rfl) (fun args => by
    unfold g90
    split
    · exact .inr ⟨0, _, rfl, rfl, f90_eq 0 _ _⟩
    · exact .inl rfl))

def g86 : List SV → Option (Bool × SV)
  | [.agg [.bool b, .str s]] => gOf (f86_T b s)
  | _ => none
theorem f86_ok : SpecOk rE 86 (.plain g86) :=
  plain_of_run (fx_ok rLib_ok [] f86_live) (fn := Try.f86) (by kernel_rfl) (by decide) (by rfl) (plain_of_g (f := 86) (fx_ok rLib_ok [] f86_live) (fn := Try.f86) (by kernel_rfl) (by decide) (by rfl) (fun args => by
    unfold g86
    split
    · exact .inr ⟨0, _, rfl, rfl, f86_eq 0 _ _⟩
    · exact .inl rfl))

end Sx

/-
  Layer 29, small functions: signs, numbers, what ends with what.
-/
set_option linter.unusedVariables false
namespace Sx
open Go Go.Proofs

/-- May an atom have an octet? -/
def signB (c : Int) : Bool := decide (32 < c) && decide (c < 127) && c != 40 && c != 41 && c != 34
def gSign : List SV → Option (Bool × SV)
  | [.int .u8 c] => some (true, .bool (signB c))
  | _ => none
theorem s72_ok : SpecOk rE 72 (.plain gSign) := by
  refine plain_of_run (fx_ok rLib_ok [] f72_live) (fn := Try.f72) (by kernel_rfl) (by decide) (by rfl) (fun args sv h => ?_)
  unfold gSign at h
  split at h
  · rename_i c
    simp only [Option.some.injEq, Prod.mk.injEq, true_and] at h
    subst h
    refine ⟨rfl, rfl, 0, ?_⟩
    show evFun f72_X 0 Try.f72 (frz f72_X.Ty Try.f72) [.int .u8 c] [] [] = _
    rw [f72_eq]
    unfold f72_T signB
    have e1 : decide ((33 : Int) ≤ c) = decide (32 < c) := by apply decide_eq_decide.2; omega
    have e2 : decide (c ≤ (126 : Int)) = decide (c < 127) := by apply decide_eq_decide.2; omega
    rw [e1, e2]
    cases decide (32 < c) <;> cases decide (c < 127) <;> cases c != 40 <;> cases c != 41 <;> cases c != 34 <;> rfl
  · cases h
theorem s93_ok : SpecOk rE 93 (.plain gSign) := by
  refine plain_of_run (fx_ok rLib_ok [] f93_live) (fn := Try.f93) (by kernel_rfl) (by decide) (by rfl) (fun args sv h => ?_)
  unfold gSign at h
  split at h
  · rename_i c
    simp only [Option.some.injEq, Prod.mk.injEq, true_and] at h
    subst h
    refine ⟨rfl, rfl, 0, ?_⟩
    show evFun f93_X 0 Try.f93 (frz f93_X.Ty Try.f93) [.int .u8 c] [] [] = _
    rw [f93_eq]
    unfold f93_T signB
    have e1 : decide (c > (32 : Int)) = decide (32 < c) := rfl
    rw [e1]
    cases decide (32 < c) <;> cases decide (c < 127) <;> cases c != 40 <;> cases c != 41 <;> cases c != 34 <;> rfl
  · cases h

def lA1 : List (Nat × Spec) := (72, .plain gSign) :: (93, .plain gSign) :: (64, .plain gCut16) :: rLib
theorem lA1_ok : SpecsOk rE (ofList lA1) := .cons s72_ok (.cons s93_ok (.cons f64_ok rLib_ok))
end Sx

/-
  Layer 29: the library's builder, of this seat.
-/
set_option linter.unusedVariables false
namespace Sx
open Go Go.Proofs
set_option maxRecDepth 100000

theorem s102_ok : SpecOk rE 102 (.plain gSame) := noEscape_ok (fn := Try.f102) (by kernel_rfl) (by decide) (by rfl) (by kernel_rfl) (by kernel_rfl)
theorem tyD5 : ∃ d, rE.Ty 5 = some d ∧ d.d = .int .u8 := by
  have h : (rE.Ty 5).map (·.d) = some (.int .u8) := by kernel_rfl
  cases hd : rE.Ty 5 with
  | none => rw [hd] at h; cases h
  | some d => rw [hd] at h; exact ⟨d, rfl, by simpa using h⟩
theorem s99_ok : SpecOk rE 99 (.wide (gString 136 5)) := by
  obtain ⟨d, h1, h2⟩ := tyD5
  exact string_ok rE_ok Try.lays169 Try.Builder_Extra_169 (fn := Try.f99) (by kernel_rfl) (by decide) (by rfl) h1 h2
noncomputable def lB0 : List (Nat × Spec) := (102, .plain gSame) :: (99, .wide (gString 136 5)) :: lA1
theorem lB0_ok : SpecsOk rE (ofList lB0) := .cons s102_ok (.cons s99_ok lA1_ok)
end Sx

/-
  What the executor says of functions: the normal forms, each compared by the kernel. (Printed by a program.)
-/
set_option linter.unusedVariables false
namespace Sx
open Go Go.Proofs
set_option maxRecDepth 100000
/-- The slots that are needed at the loops' heads of '(*strings.Builder).copyCheck'. -/
noncomputable def f101_live : Nat → List Nat × List (Nat × TypeId) := fun h => ([], [])
noncomputable def f101_X (sm : List Nat) : Fx := ⟨tyOf Try.prog, ofList lB0, sm, f101_live⟩
def f101a_T (l : List SV) : Tr (SV × Mem) := Tr.leaf (SV.tup [], [((0 : Nat), SObj.box (136 : Nat) [SV.box (0 : Nat) (0 : Nat), SV.row (2 : Nat)]), ((2 : Nat), SObj.row (5 : Nat) l)])
theorem f101a_eq (fu : Nat) (l : List SV) : evFun (f101_X [0]) fu Try.f101 (finW (tyOf Try.prog) [0] 2) [.box 0 0] [(0, .box 136 [.pnil, .row 1]), (1, .row 5 l)] [0, 1] = (f101a_T l).opt := by kernel_rfl

def f101b_T (l : List SV) : Tr (SV × Mem) := Tr.leaf (SV.tup [], [((0 : Nat), SObj.box (136 : Nat) [SV.box (0 : Nat) (0 : Nat), SV.row (2 : Nat)]), ((2 : Nat), SObj.row (5 : Nat) l)])
theorem f101b_eq (fu : Nat) (l : List SV) : evFun (f101_X [0]) fu Try.f101 (finW (tyOf Try.prog) [0] 2) [.box 0 0] [(0, .box 136 [.box 0 0, .row 1]), (1, .row 5 l)] [0, 1] = (f101b_T l).opt := by kernel_rfl

def c101 : List SV → Mem → Tr (SV × Mem)
  | [.box 0 0], [(0, .box 136 [.pnil, .row 1]), (1, .row 5 l)] => squash (f101a_T l)
  | [.box 0 0], [(0, .box 136 [.box 0 0, .row 1]), (1, .row 5 l)] => squash (f101b_T l)
  | _, _ => .no
theorem f101_ok : SpecOk rE 101 (.wide (wideOf (tyOf Try.prog) c101)) :=
  wide_of_sq rE_ok (fun sm => ⟨fx_ok lB0_ok sm f101_live, rfl⟩) (fn := Try.f101) (by kernel_rfl) (by decide) (by rfl) (fun args m => by
    unfold c101
    split
    · exact .inr ⟨0, _, rfl, f101a_eq 0 _⟩
    · exact .inr ⟨0, _, rfl, f101b_eq 0 _⟩
    · exact .inl rfl)

end Sx

/-
  Layer 29: the table with the builder's check.
-/
set_option linter.unusedVariables false
namespace Sx
open Go Go.Proofs
noncomputable def lB1 : List (Nat × Spec) := (101, .wide (wideOf (tyOf Try.prog) c101)) :: lB0
theorem lB1_ok : SpecsOk rE (ofList lB1) := .cons f101_ok lB0_ok
end Sx

/-
  What the executor says of functions: the normal forms, each compared by the kernel. (Printed by a program.)
-/
set_option linter.unusedVariables false
namespace Sx
open Go Go.Proofs
set_option maxRecDepth 100000
/-- The slots that are needed at the loops' heads of '(*strings.Builder).WriteByte'. -/
noncomputable def f100_live : Nat → List Nat × List (Nat × TypeId) := fun h => ([], [])
noncomputable def f100_X (sm : List Nat) : Fx := ⟨tyOf Try.prog, ofList lB1, sm, f100_live⟩
/-- The slots that are needed at the loops' heads of '(*hamper/line.cutter).atom'. -/
noncomputable def f96_live : Nat → List Nat × List (Nat × TypeId) := fun h => bif Nat.beq h 6 then ([0, 2, 4], nilsOf (tyOf Try.prog) [(0, 125), (2, 0), (4, 3)]) else bif Nat.beq h 2 then ([0, 2, 4], nilsOf (tyOf Try.prog) [(0, 125), (2, 0), (4, 3)]) else ([], [])
noncomputable def f96_X (sm : List Nat) : Fx := ⟨tyOf Try.prog, ofList lA1, sm, f96_live⟩
/-- The slots that are needed at the loops' heads of '(*hamper/line.cutter).one'. -/
noncomputable def f98_live : Nat → List Nat × List (Nat × TypeId) := fun h => ([], [])
noncomputable def f98_X (sm : List Nat) : Fx := ⟨tyOf Try.prog, ofList lA1, sm, f98_live⟩
def f100a_T (l : List SV) (c : Int) : Tr (SV × Mem) := Tr.br (decide ((List.length l + (1 : Nat)) * (1 : Nat) ≤ (140737488355328 : Nat)) && decide (List.length l + (1 : Nat) ≤ (9223372036854775807 : Nat)))
  (Tr.leaf (SV.opq Value.nilIface, [((0 : Nat), SObj.box (136 : Nat) [SV.box (0 : Nat) (0 : Nat), SV.row (2 : Nat)]), ((2 : Nat), SObj.row (5 : Nat) (l ++ [SV.int IntKind.u8 c]))])) Tr.no
theorem f100a_eq (fu : Nat) (l : List SV) (c : Int) : evFun (f100_X [0]) fu Try.f100 (finW (tyOf Try.prog) [0] 2) [.box 0 0, .int .u8 c] [(0, .box 136 [.pnil, .row 1]), (1, .row 5 l)] [0, 1] = (f100a_T l c).opt := by kernel_rfl

def f100b_T (l : List SV) (c : Int) : Tr (SV × Mem) := Tr.br (decide ((List.length l + (1 : Nat)) * (1 : Nat) ≤ (140737488355328 : Nat)) && decide (List.length l + (1 : Nat) ≤ (9223372036854775807 : Nat)))
  (Tr.leaf (SV.opq Value.nilIface, [((0 : Nat), SObj.box (136 : Nat) [SV.box (0 : Nat) (0 : Nat), SV.row (2 : Nat)]), ((2 : Nat), SObj.row (5 : Nat) (l ++ [SV.int IntKind.u8 c]))])) Tr.no
theorem f100b_eq (fu : Nat) (l : List SV) (c : Int) : evFun (f100_X [0]) fu Try.f100 (finW (tyOf Try.prog) [0] 2) [.box 0 0, .int .u8 c] [(0, .box 136 [.box 0 0, .row 1]), (1, .row 5 l)] [0, 1] = (f100b_T l c).opt := by kernel_rfl

def f96_st6 (x0 : Int) (x1 : ByteArray) (x2 : Int) (x3 : Int) (x4 : ByteArray) : St := St.mk
  [SV.box (0 : Nat) (0 : Nat), SV.dead, SV.box (100 : Nat) (0 : Nat), SV.dead, SV.int IntKind.i64 x0, SV.dead, SV.dead, SV.dead, SV.dead, SV.dead, SV.dead, SV.dead, SV.dead, SV.dead, SV.dead, SV.dead, SV.dead, SV.dead,
    SV.dead, SV.dead, SV.dead, SV.dead, SV.dead, SV.dead, SV.dead, SV.dead, SV.dead, SV.dead, SV.dead, SV.dead, SV.dead, SV.dead, SV.dead, SV.dead, SV.dead, SV.dead, SV.dead, SV.dead, SV.dead, SV.dead, SV.dead, SV.dead,
    SV.dead, SV.dead, SV.dead, SV.dead, SV.dead, SV.dead, SV.dead, SV.dead, SV.dead, SV.dead, SV.dead, SV.dead, SV.dead, SV.dead, SV.dead, SV.dead, SV.dead, SV.dead, SV.dead, SV.dead, SV.dead, SV.dead, SV.dead, SV.dead,
    SV.dead, SV.dead, SV.dead, SV.dead, SV.dead, SV.dead, SV.dead, SV.dead, SV.dead, SV.dead, SV.dead, SV.dead, SV.dead, SV.dead, SV.dead, SV.dead, SV.dead, SV.dead, SV.dead, SV.dead, SV.dead, SV.dead, SV.dead, SV.dead,
    SV.dead, SV.dead, SV.dead, SV.dead, SV.dead, SV.dead, SV.dead, SV.dead, SV.dead, SV.dead, SV.dead, SV.dead, SV.dead, SV.dead, SV.dead, SV.dead, SV.dead, SV.dead, SV.dead, SV.dead, SV.dead, SV.dead, SV.dead, SV.dead,
    SV.dead, SV.dead, SV.dead, SV.dead, SV.dead, SV.dead, SV.dead, SV.dead, SV.dead, SV.dead, SV.dead, SV.dead, SV.dead, SV.dead, SV.dead, SV.dead, SV.dead]
  [((0 : Nat), SObj.box (127 : Nat) [SV.str x1, SV.int IntKind.i64 x2]), ((100 : Nat), SObj.box (88 : Nat) [SV.int IntKind.i64 x3, SV.str x4])] [(0 : Nat), (100 : Nat)]
noncomputable def f96_L6 (fu fm : Nat) (k0 : Nat) (x0 : Int) (x1 : ByteArray) (x2 : Int) (x3 : Int) (x4 : ByteArray) : Option (Option (SV × Mem)) := atLoop (f96_X [0]) Try.f96 (finW (tyOf Try.prog) [0] 1) fu [.r, .b, .r, .r, .l, .b, .o k0, .r, .b, .r, .l, .r, .b] fm (f96_st6 x0 x1 x2 x3 x4)

def f96_st2 (x0 : Int) (x1 : ByteArray) (x2 : Int) (x3 : Int) (x4 : ByteArray) : St := St.mk
  [SV.box (0 : Nat) (0 : Nat), SV.dead, SV.box (100 : Nat) (0 : Nat), SV.dead, SV.int IntKind.i64 x0, SV.dead, SV.dead, SV.dead, SV.dead, SV.dead, SV.dead, SV.dead, SV.dead, SV.dead, SV.dead, SV.dead, SV.dead, SV.dead,
    SV.dead, SV.dead, SV.dead, SV.dead, SV.dead, SV.dead, SV.dead, SV.dead, SV.dead, SV.dead, SV.dead, SV.dead, SV.dead, SV.dead, SV.dead, SV.dead, SV.dead, SV.dead, SV.dead, SV.dead, SV.dead, SV.dead, SV.dead, SV.dead,
    SV.dead, SV.dead, SV.dead, SV.dead, SV.dead, SV.dead, SV.dead, SV.dead, SV.dead, SV.dead, SV.dead, SV.dead, SV.dead, SV.dead, SV.dead, SV.dead, SV.dead, SV.dead, SV.dead, SV.dead, SV.dead, SV.dead, SV.dead, SV.dead,
    SV.dead, SV.dead, SV.dead, SV.dead, SV.dead, SV.dead, SV.dead, SV.dead, SV.dead, SV.dead, SV.dead, SV.dead, SV.dead, SV.dead, SV.dead, SV.dead, SV.dead, SV.dead, SV.dead, SV.dead, SV.dead, SV.dead, SV.dead, SV.dead,
    SV.dead, SV.dead, SV.dead, SV.dead, SV.dead, SV.dead, SV.dead, SV.dead, SV.dead, SV.dead, SV.dead, SV.dead, SV.dead, SV.dead, SV.dead, SV.dead, SV.dead, SV.dead, SV.dead, SV.dead, SV.dead, SV.dead, SV.dead, SV.dead,
    SV.dead, SV.dead, SV.dead, SV.dead, SV.dead, SV.dead, SV.dead, SV.dead, SV.dead, SV.dead, SV.dead, SV.dead, SV.dead, SV.dead, SV.dead, SV.dead, SV.dead]
  [((0 : Nat), SObj.box (127 : Nat) [SV.str x1, SV.int IntKind.i64 x2]), ((100 : Nat), SObj.box (88 : Nat) [SV.int IntKind.i64 x3, SV.str x4])] [(0 : Nat), (100 : Nat)]
noncomputable def f96_L2 (fu fm : Nat) (x0 : Int) (x1 : ByteArray) (x2 : Int) (x3 : Int) (x4 : ByteArray) : Option (Option (SV × Mem)) := atLoop (f96_X [0]) Try.f96 (finW (tyOf Try.prog) [0] 1) fu [.r, .b, .r, .r, .l, .b] fm (f96_st2 x0 x1 x2 x3 x4)

theorem f96_L6_eq (fu fm : Nat) (k0 : Nat) (x0 : Int) (x1 : ByteArray) (x2 : Int) (x3 : Int) (x4 : ByteArray) : f96_L6 fu (fm + 1) k0 x0 x1 x2 x3 x4 = bif decide (x2 < (↑(ByteArray.size x1) : Int)) then
  bif decide ((0 : Int) ≤ x2) && decide (x2 < (↑(ByteArray.size x1) : Int)) then
    bif decide (bAt x1 x2 ≥ (32 : Int)) then
      bif decide ((0 : Int) ≤ x2) && decide (x2 < (↑(ByteArray.size x1) : Int)) then
        bif decide (bAt x1 x2 < (127 : Int)) then
          bif decide ((0 : Int) ≤ x2) && decide (x2 < (↑(ByteArray.size x1) : Int)) then
            bif bAt x1 x2 == (93 : Int) then f96_L2 fu k0 x0 x1 (IntKind.wrap IntKind.i64 (x2 + (1 : Int))) x3 x4 else f96_L6 fu fm k0 x0 x1 (IntKind.wrap IntKind.i64 (x2 + (1 : Int))) x3 x4
          else none
        else some (some (SV.tup [SV.agg [SV.int IntKind.i64 (0 : Int), SV.str (ByteArray.mk #[])], SV.bool false], [((0 : Nat), SObj.box (127 : Nat) [SV.str x1, SV.int IntKind.i64 x2])]))
      else none
    else some (some (SV.tup [SV.agg [SV.int IntKind.i64 (0 : Int), SV.str (ByteArray.mk #[])], SV.bool false], [((0 : Nat), SObj.box (127 : Nat) [SV.str x1, SV.int IntKind.i64 x2])]))
  else none
  else some (some (SV.tup [SV.agg [SV.int IntKind.i64 (0 : Int), SV.str (ByteArray.mk #[])], SV.bool false], [((0 : Nat), SObj.box (127 : Nat) [SV.str x1, SV.int IntKind.i64 x2])])) := by kernel_rfl

theorem f96_L2_eq (fu fm : Nat) (x0 : Int) (x1 : ByteArray) (x2 : Int) (x3 : Int) (x4 : ByteArray) : f96_L2 fu (fm + 1) x0 x1 x2 x3 x4 = bif decide (x2 < (↑(ByteArray.size x1) : Int)) then
  bif decide ((0 : Int) ≤ x2) && decide (x2 < (↑(ByteArray.size x1) : Int)) then
    bif signB (bAt x1 x2) then
      bif decide ((0 : Int) ≤ x2) && decide (x2 < (↑(ByteArray.size x1) : Int)) then
        bif bAt x1 x2 != (91 : Int) then f96_L2 fu fm x0 x1 (IntKind.wrap IntKind.i64 (x2 + (1 : Int))) x3 x4 else f96_L6 fu fu fm x0 x1 (IntKind.wrap IntKind.i64 (x2 + (1 : Int))) x3 x4
      else none
    else
      bif decide ((0 : Int) ≤ x2) && decide (x2 ≤ (↑(ByteArray.size x1) : Int)) && (decide ((0 : Int) ≤ x0) && decide (x0 ≤ x2)) then
        some
          (some
            (SV.tup [SV.agg [SV.int IntKind.i64 (0 : Int), SV.str (ByteArray.extract x1 (Int.toNat x0) (Int.toNat x2))], SV.bool (decide (x2 > x0))],
              [((0 : Nat), SObj.box (127 : Nat) [SV.str x1, SV.int IntKind.i64 x2])]))
      else none
  else none
  else
  bif decide ((0 : Int) ≤ x2) && decide (x2 ≤ (↑(ByteArray.size x1) : Int)) && (decide ((0 : Int) ≤ x0) && decide (x0 ≤ x2)) then
    some
      (some
        (SV.tup [SV.agg [SV.int IntKind.i64 (0 : Int), SV.str (ByteArray.extract x1 (Int.toNat x0) (Int.toNat x2))], SV.bool (decide (x2 > x0))], [((0 : Nat), SObj.box (127 : Nat) [SV.str x1, SV.int IntKind.i64 x2])]))
  else none := by kernel_rfl

theorem f96_eq (fu : Nat) (s : ByteArray) (a : Int) : evFun (f96_X [0]) fu Try.f96 (finW (tyOf Try.prog) [0] 1) [.box 0 0] [(0, .box 127 [.str s, .int .i64 a])] [0] = f96_L2 fu fu a s a (0 : Int) (ByteArray.mk #[]) := by kernel_rfl

def f98_T (s : ByteArray) (a : Int) : Tr (SV × Mem) := Tr.br (decide ((0 : Int) ≤ a) && decide (a < (↑(ByteArray.size s) : Int)))
  (Tr.br (bAt s a == (41 : Int))
    (Tr.leaf
      (SV.tup [SV.agg [SV.int IntKind.i64 (3 : Int), SV.str (ByteArray.mk #[(41 : UInt8)])], SV.bool true], [((0 : Nat), SObj.box (127 : Nat) [SV.str s, SV.int IntKind.i64 (IntKind.wrap IntKind.i64 (a + (1 : Int)))])]))
    (Tr.leaf
      (SV.tup [SV.agg [SV.int IntKind.i64 (2 : Int), SV.str (ByteArray.mk #[(40 : UInt8)])], SV.bool true], [((0 : Nat), SObj.box (127 : Nat) [SV.str s, SV.int IntKind.i64 (IntKind.wrap IntKind.i64 (a + (1 : Int)))])])))
  Tr.no
theorem f98_eq (fu : Nat) (s : ByteArray) (a : Int) : evFun (f98_X [0]) fu Try.f98 (finW (tyOf Try.prog) [0] 1) [.box 0 0] [(0, .box 127 [.str s, .int .i64 a])] [0] = (f98_T s a).opt := by kernel_rfl

def c100 : List SV → Mem → Tr (SV × Mem)
  | [.box 0 0, .int .u8 c], [(0, .box 136 [.pnil, .row 1]), (1, .row 5 l)] => squash (f100a_T l c)
  | [.box 0 0, .int .u8 c], [(0, .box 136 [.box 0 0, .row 1]), (1, .row 5 l)] => squash (f100b_T l c)
  | _, _ => .no
theorem f100_ok : SpecOk rE 100 (.wide (wideOf (tyOf Try.prog) c100)) :=
  wide_of_sq rE_ok (fun sm => ⟨fx_ok lB1_ok sm f100_live, rfl⟩) (fn := Try.f100) (by kernel_rfl) (by decide) (by rfl) (fun args m => by
    unfold c100
    split
    · exact .inr ⟨0, _, rfl, f100a_eq 0 _ _⟩
    · exact .inr ⟨0, _, rfl, f100b_eq 0 _ _⟩
    · exact .inl rfl)

def c98 : List SV → Mem → Tr (SV × Mem)
  | [.box 0 0], [(0, .box 127 [.str s, .int .i64 a])] => squash (f98_T s a)
  | _, _ => .no
theorem f98_ok : SpecOk rE 98 (.wide (wideOf (tyOf Try.prog) c98)) :=
  wide_of_sq rE_ok (fun sm => ⟨fx_ok lA1_ok sm f98_live, rfl⟩) (fn := Try.f98) (by kernel_rfl) (by decide) (by rfl) (fun args m => by
    unfold c98
    split
    · exact .inr ⟨0, _, rfl, f98_eq 0 _ _⟩
    · exact .inl rfl)

end Sx

/-
  Layer 29: the table with the builder.
-/
set_option linter.unusedVariables false
namespace Sx
open Go Go.Proofs
noncomputable def lB2 : List (Nat × Spec) := (100, .wide (wideOf (tyOf Try.prog) c100)) :: (98, .wide (wideOf (tyOf Try.prog) c98)) :: lB1
theorem lB2_ok : SpecsOk rE (ofList lB2) := .cons f100_ok (.cons f98_ok lB1_ok)
end Sx

/-
  What the executor says of functions: the normal forms, each compared by the kernel. (Printed by a program.)
-/
set_option linter.unusedVariables false
namespace Sx
open Go Go.Proofs
set_option maxRecDepth 100000
/-- The slots that are needed at the loops' heads of '(*hamper/line.cutter).quoted'. -/
noncomputable def f97_live : Nat → List Nat × List (Nat × TypeId) := fun h => bif Nat.beq h 3 then ([0, 2, 4], nilsOf (tyOf Try.prog) [(0, 125), (2, 0), (4, 0)]) else ([], [])
noncomputable def f97_X (sm : List Nat) : Fx := ⟨tyOf Try.prog, ofList lB2, sm, f97_live⟩
def f97_st3v1 (x0 : ByteArray) (x1 : Int) (x2 : Int) (x3 : ByteArray) (x4 : List SV) : St := St.mk
  [SV.box (0 : Nat) (0 : Nat), SV.dead, SV.box (100 : Nat) (0 : Nat), SV.dead, SV.box (101 : Nat) (0 : Nat), SV.dead, SV.dead, SV.dead, SV.dead, SV.dead, SV.dead, SV.dead, SV.dead, SV.dead, SV.dead, SV.dead, SV.dead,
    SV.dead, SV.dead, SV.dead, SV.dead, SV.dead, SV.dead, SV.dead, SV.dead, SV.dead, SV.dead, SV.dead, SV.dead, SV.dead, SV.dead, SV.dead, SV.dead, SV.dead, SV.dead, SV.dead, SV.dead, SV.dead, SV.dead, SV.dead, SV.dead,
    SV.dead, SV.dead, SV.dead, SV.dead, SV.dead, SV.dead, SV.dead, SV.dead, SV.dead, SV.dead, SV.dead, SV.dead, SV.dead, SV.dead, SV.dead, SV.dead, SV.dead, SV.dead, SV.dead, SV.dead, SV.dead, SV.dead, SV.dead, SV.dead,
    SV.dead, SV.dead, SV.dead, SV.dead, SV.dead, SV.dead, SV.dead, SV.dead, SV.dead, SV.dead, SV.dead, SV.dead, SV.dead, SV.dead, SV.dead, SV.dead, SV.dead, SV.dead, SV.dead, SV.dead, SV.dead, SV.dead, SV.dead, SV.dead,
    SV.dead, SV.dead, SV.dead, SV.dead, SV.dead, SV.dead, SV.dead, SV.dead, SV.dead, SV.dead, SV.dead, SV.dead, SV.dead, SV.dead, SV.dead, SV.dead, SV.dead, SV.dead, SV.dead, SV.dead, SV.dead, SV.dead, SV.dead, SV.dead,
    SV.dead, SV.dead, SV.dead]
  [((0 : Nat), SObj.box (127 : Nat) [SV.str x0, SV.int IntKind.i64 x1]), ((100 : Nat), SObj.box (88 : Nat) [SV.int IntKind.i64 x2, SV.str x3]),
    ((101 : Nat), SObj.box (136 : Nat) [SV.box (101 : Nat) (0 : Nat), SV.row (102 : Nat)]), ((102 : Nat), SObj.row (5 : Nat) x4)]
  [(0 : Nat), (100 : Nat), (101 : Nat), (102 : Nat)]
noncomputable def f97_L3v1 (fu fm : Nat) (x0 : ByteArray) (x1 : Int) (x2 : Int) (x3 : ByteArray) (x4 : List SV) : Option (Option (SV × Mem)) := atLoop (f97_X [0]) Try.f97 (finW (tyOf Try.prog) [0] 1) fu [.r, .r, .l, .r, .b] fm (f97_st3v1 x0 x1 x2 x3 x4)

def f97_st3 (x0 : ByteArray) (x1 : Int) (x2 : Int) (x3 : ByteArray) (x4 : List SV) : St := St.mk
  [SV.box (0 : Nat) (0 : Nat), SV.dead, SV.box (100 : Nat) (0 : Nat), SV.dead, SV.box (101 : Nat) (0 : Nat), SV.dead, SV.dead, SV.dead, SV.dead, SV.dead, SV.dead, SV.dead, SV.dead, SV.dead, SV.dead, SV.dead, SV.dead,
    SV.dead, SV.dead, SV.dead, SV.dead, SV.dead, SV.dead, SV.dead, SV.dead, SV.dead, SV.dead, SV.dead, SV.dead, SV.dead, SV.dead, SV.dead, SV.dead, SV.dead, SV.dead, SV.dead, SV.dead, SV.dead, SV.dead, SV.dead, SV.dead,
    SV.dead, SV.dead, SV.dead, SV.dead, SV.dead, SV.dead, SV.dead, SV.dead, SV.dead, SV.dead, SV.dead, SV.dead, SV.dead, SV.dead, SV.dead, SV.dead, SV.dead, SV.dead, SV.dead, SV.dead, SV.dead, SV.dead, SV.dead, SV.dead,
    SV.dead, SV.dead, SV.dead, SV.dead, SV.dead, SV.dead, SV.dead, SV.dead, SV.dead, SV.dead, SV.dead, SV.dead, SV.dead, SV.dead, SV.dead, SV.dead, SV.dead, SV.dead, SV.dead, SV.dead, SV.dead, SV.dead, SV.dead, SV.dead,
    SV.dead, SV.dead, SV.dead, SV.dead, SV.dead, SV.dead, SV.dead, SV.dead, SV.dead, SV.dead, SV.dead, SV.dead, SV.dead, SV.dead, SV.dead, SV.dead, SV.dead, SV.dead, SV.dead, SV.dead, SV.dead, SV.dead, SV.dead, SV.dead,
    SV.dead, SV.dead, SV.dead]
  [((0 : Nat), SObj.box (127 : Nat) [SV.str x0, SV.int IntKind.i64 x1]), ((100 : Nat), SObj.box (88 : Nat) [SV.int IntKind.i64 x2, SV.str x3]), ((101 : Nat), SObj.box (136 : Nat) [SV.pnil, SV.row (102 : Nat)]),
    ((102 : Nat), SObj.row (5 : Nat) x4)]
  [(0 : Nat), (100 : Nat), (101 : Nat), (102 : Nat)]
noncomputable def f97_L3 (fu fm : Nat) (x0 : ByteArray) (x1 : Int) (x2 : Int) (x3 : ByteArray) (x4 : List SV) : Option (Option (SV × Mem)) := atLoop (f97_X [0]) Try.f97 (finW (tyOf Try.prog) [0] 1) fu [.r, .r, .l, .r, .b] fm (f97_st3 x0 x1 x2 x3 x4)

theorem f97_L3v1_eq (fu fm : Nat) (x0 : ByteArray) (x1 : Int) (x2 : Int) (x3 : ByteArray) (x4 : List SV) : f97_L3v1 fu (fm + 1) x0 x1 x2 x3 x4 = bif decide (x1 < (↑(ByteArray.size x0) : Int)) then
  bif decide ((0 : Int) ≤ x1) && decide (x1 < (↑(ByteArray.size x0) : Int)) then
    bif bAt x0 x1 == (34 : Int) then
      bif octets x4 then
        some (some (SV.tup [SV.agg [SV.int IntKind.i64 (1 : Int), SV.str (strOf x4)], SV.bool true], [((0 : Nat), SObj.box (127 : Nat) [SV.str x0, SV.int IntKind.i64 (IntKind.wrap IntKind.i64 (x1 + (1 : Int)))])]))
      else none
    else
      bif decide (bAt x0 x1 < (32 : Int)) then
        some (some (SV.tup [SV.agg [SV.int IntKind.i64 (0 : Int), SV.str (ByteArray.mk #[])], SV.bool false], [((0 : Nat), SObj.box (127 : Nat) [SV.str x0, SV.int IntKind.i64 x1])]))
      else
        bif bAt x0 x1 == (127 : Int) then some (some (SV.tup [SV.agg [SV.int IntKind.i64 (0 : Int), SV.str (ByteArray.mk #[])], SV.bool false], [((0 : Nat), SObj.box (127 : Nat) [SV.str x0, SV.int IntKind.i64 x1])]))
        else
          bif bAt x0 x1 == (92 : Int) then
            bif IntKind.wrap IntKind.i64 (x1 + (1 : Int)) == (↑(ByteArray.size x0) : Int) then
              some
                (some
                  (SV.tup [SV.agg [SV.int IntKind.i64 (0 : Int), SV.str (ByteArray.mk #[])], SV.bool false],
                    [((0 : Nat), SObj.box (127 : Nat) [SV.str x0, SV.int IntKind.i64 (IntKind.wrap IntKind.i64 (x1 + (1 : Int)))])]))
            else
              bif decide ((0 : Int) ≤ IntKind.wrap IntKind.i64 (x1 + (1 : Int))) && decide (IntKind.wrap IntKind.i64 (x1 + (1 : Int)) < (↑(ByteArray.size x0) : Int)) then
                bif bAt x0 (IntKind.wrap IntKind.i64 (x1 + (1 : Int))) != (34 : Int) then
                  bif decide ((0 : Int) ≤ IntKind.wrap IntKind.i64 (x1 + (1 : Int))) && decide (IntKind.wrap IntKind.i64 (x1 + (1 : Int)) < (↑(ByteArray.size x0) : Int)) then
                    bif bAt x0 (IntKind.wrap IntKind.i64 (x1 + (1 : Int))) != (92 : Int) then
                      some
                        (some
                          (SV.tup [SV.agg [SV.int IntKind.i64 (0 : Int), SV.str (ByteArray.mk #[])], SV.bool false],
                            [((0 : Nat), SObj.box (127 : Nat) [SV.str x0, SV.int IntKind.i64 (IntKind.wrap IntKind.i64 (x1 + (1 : Int)))])]))
                    else
                      bif decide ((0 : Int) ≤ IntKind.wrap IntKind.i64 (x1 + (1 : Int))) && decide (IntKind.wrap IntKind.i64 (x1 + (1 : Int)) < (↑(ByteArray.size x0) : Int)) then
                        bif decide ((List.length x4 + (1 : Nat)) * (1 : Nat) ≤ (140737488355328 : Nat)) && decide (List.length x4 + (1 : Nat) ≤ (9223372036854775807 : Nat)) && true then
                          f97_L3v1 fu fm x0 (IntKind.wrap IntKind.i64 (IntKind.wrap IntKind.i64 (x1 + (1 : Int)) + (1 : Int))) x2 x3 (x4 ++ [SV.int IntKind.u8 (bAt x0 (IntKind.wrap IntKind.i64 (x1 + (1 : Int))))])
                        else none
                      else none
                  else none
                else
                  bif decide ((0 : Int) ≤ IntKind.wrap IntKind.i64 (x1 + (1 : Int))) && decide (IntKind.wrap IntKind.i64 (x1 + (1 : Int)) < (↑(ByteArray.size x0) : Int)) then
                    bif decide ((List.length x4 + (1 : Nat)) * (1 : Nat) ≤ (140737488355328 : Nat)) && decide (List.length x4 + (1 : Nat) ≤ (9223372036854775807 : Nat)) && true then
                      f97_L3v1 fu fm x0 (IntKind.wrap IntKind.i64 (IntKind.wrap IntKind.i64 (x1 + (1 : Int)) + (1 : Int))) x2 x3 (x4 ++ [SV.int IntKind.u8 (bAt x0 (IntKind.wrap IntKind.i64 (x1 + (1 : Int))))])
                    else none
                  else none
              else none
          else
            bif decide ((List.length x4 + (1 : Nat)) * (1 : Nat) ≤ (140737488355328 : Nat)) && decide (List.length x4 + (1 : Nat) ≤ (9223372036854775807 : Nat)) && true then
              f97_L3v1 fu fm x0 (IntKind.wrap IntKind.i64 (x1 + (1 : Int))) x2 x3 (x4 ++ [SV.int IntKind.u8 (bAt x0 x1)])
            else none
  else none
  else some (some (SV.tup [SV.agg [SV.int IntKind.i64 (0 : Int), SV.str (ByteArray.mk #[])], SV.bool false], [((0 : Nat), SObj.box (127 : Nat) [SV.str x0, SV.int IntKind.i64 x1])])) := by kernel_rfl

theorem f97_L3_eq (fu fm : Nat) (x0 : ByteArray) (x1 : Int) (x2 : Int) (x3 : ByteArray) (x4 : List SV) : f97_L3 fu (fm + 1) x0 x1 x2 x3 x4 = bif decide (x1 < (↑(ByteArray.size x0) : Int)) then
  bif decide ((0 : Int) ≤ x1) && decide (x1 < (↑(ByteArray.size x0) : Int)) then
    bif bAt x0 x1 == (34 : Int) then
      bif octets x4 then
        some (some (SV.tup [SV.agg [SV.int IntKind.i64 (1 : Int), SV.str (strOf x4)], SV.bool true], [((0 : Nat), SObj.box (127 : Nat) [SV.str x0, SV.int IntKind.i64 (IntKind.wrap IntKind.i64 (x1 + (1 : Int)))])]))
      else none
    else
      bif decide (bAt x0 x1 < (32 : Int)) then
        some (some (SV.tup [SV.agg [SV.int IntKind.i64 (0 : Int), SV.str (ByteArray.mk #[])], SV.bool false], [((0 : Nat), SObj.box (127 : Nat) [SV.str x0, SV.int IntKind.i64 x1])]))
      else
        bif bAt x0 x1 == (127 : Int) then some (some (SV.tup [SV.agg [SV.int IntKind.i64 (0 : Int), SV.str (ByteArray.mk #[])], SV.bool false], [((0 : Nat), SObj.box (127 : Nat) [SV.str x0, SV.int IntKind.i64 x1])]))
        else
          bif bAt x0 x1 == (92 : Int) then
            bif IntKind.wrap IntKind.i64 (x1 + (1 : Int)) == (↑(ByteArray.size x0) : Int) then
              some
                (some
                  (SV.tup [SV.agg [SV.int IntKind.i64 (0 : Int), SV.str (ByteArray.mk #[])], SV.bool false],
                    [((0 : Nat), SObj.box (127 : Nat) [SV.str x0, SV.int IntKind.i64 (IntKind.wrap IntKind.i64 (x1 + (1 : Int)))])]))
            else
              bif decide ((0 : Int) ≤ IntKind.wrap IntKind.i64 (x1 + (1 : Int))) && decide (IntKind.wrap IntKind.i64 (x1 + (1 : Int)) < (↑(ByteArray.size x0) : Int)) then
                bif bAt x0 (IntKind.wrap IntKind.i64 (x1 + (1 : Int))) != (34 : Int) then
                  bif decide ((0 : Int) ≤ IntKind.wrap IntKind.i64 (x1 + (1 : Int))) && decide (IntKind.wrap IntKind.i64 (x1 + (1 : Int)) < (↑(ByteArray.size x0) : Int)) then
                    bif bAt x0 (IntKind.wrap IntKind.i64 (x1 + (1 : Int))) != (92 : Int) then
                      some
                        (some
                          (SV.tup [SV.agg [SV.int IntKind.i64 (0 : Int), SV.str (ByteArray.mk #[])], SV.bool false],
                            [((0 : Nat), SObj.box (127 : Nat) [SV.str x0, SV.int IntKind.i64 (IntKind.wrap IntKind.i64 (x1 + (1 : Int)))])]))
                    else
                      bif decide ((0 : Int) ≤ IntKind.wrap IntKind.i64 (x1 + (1 : Int))) && decide (IntKind.wrap IntKind.i64 (x1 + (1 : Int)) < (↑(ByteArray.size x0) : Int)) then
                        bif decide ((List.length x4 + (1 : Nat)) * (1 : Nat) ≤ (140737488355328 : Nat)) && decide (List.length x4 + (1 : Nat) ≤ (9223372036854775807 : Nat)) && true then
                          f97_L3v1 fu fm x0 (IntKind.wrap IntKind.i64 (IntKind.wrap IntKind.i64 (x1 + (1 : Int)) + (1 : Int))) x2 x3 (x4 ++ [SV.int IntKind.u8 (bAt x0 (IntKind.wrap IntKind.i64 (x1 + (1 : Int))))])
                        else none
                      else none
                  else none
                else
                  bif decide ((0 : Int) ≤ IntKind.wrap IntKind.i64 (x1 + (1 : Int))) && decide (IntKind.wrap IntKind.i64 (x1 + (1 : Int)) < (↑(ByteArray.size x0) : Int)) then
                    bif decide ((List.length x4 + (1 : Nat)) * (1 : Nat) ≤ (140737488355328 : Nat)) && decide (List.length x4 + (1 : Nat) ≤ (9223372036854775807 : Nat)) && true then
                      f97_L3v1 fu fm x0 (IntKind.wrap IntKind.i64 (IntKind.wrap IntKind.i64 (x1 + (1 : Int)) + (1 : Int))) x2 x3 (x4 ++ [SV.int IntKind.u8 (bAt x0 (IntKind.wrap IntKind.i64 (x1 + (1 : Int))))])
                    else none
                  else none
              else none
          else
            bif decide ((List.length x4 + (1 : Nat)) * (1 : Nat) ≤ (140737488355328 : Nat)) && decide (List.length x4 + (1 : Nat) ≤ (9223372036854775807 : Nat)) && true then
              f97_L3v1 fu fm x0 (IntKind.wrap IntKind.i64 (x1 + (1 : Int))) x2 x3 (x4 ++ [SV.int IntKind.u8 (bAt x0 x1)])
            else none
  else none
  else some (some (SV.tup [SV.agg [SV.int IntKind.i64 (0 : Int), SV.str (ByteArray.mk #[])], SV.bool false], [((0 : Nat), SObj.box (127 : Nat) [SV.str x0, SV.int IntKind.i64 x1])])) := by kernel_rfl

theorem f97_eq (fu : Nat) (s : ByteArray) (a : Int) : evFun (f97_X [0]) fu Try.f97 (finW (tyOf Try.prog) [0] 1) [.box 0 0] [(0, .box 127 [.str s, .int .i64 a])] [0] = f97_L3 fu fu s (IntKind.wrap IntKind.i64 (a + (1 : Int))) (0 : Int) (ByteArray.mk #[]) [] := by kernel_rfl

end Sx

/-
  Layer 29: tokens in plain Lean: of a text's rest, the token that stands next.
-/
set_option linter.unusedVariables false
namespace Sx
open Go Go.Proofs

def sgn (c : UInt8) : Bool := signB (c.toNat : Int)
/-- An atom: is it fine, and its length; told whether a bracket is open. -/
def atmL : Bool → List UInt8 → Bool × Nat
  | o, [] => (!o, 0)
  | false, c :: r => if sgn c then ((atmL (c == 91) r).1, (atmL (c == 91) r).2 + 1) else (true, 0)
  | true, c :: r => if 32 ≤ c ∧ c < 127 then ((atmL (c != 93) r).1, (atmL (c != 93) r).2 + 1) else (false, 0)
/-- A string behind its first quote: the text, and how many octets are gone over. -/
def quoL : List UInt8 → List UInt8 → Option (List UInt8) × Nat
  | [], acc => (none, 0)
  | [c], acc => if c = 34 then (some acc, 1) else if c < 32 ∨ c = 127 then (none, 0) else (none, 1)
  | c :: d :: r, acc =>
    if c = 34 then (some acc, 1) else if c < 32 ∨ c = 127 then (none, 0)
    else if c = 92 then (if d = 34 ∨ d = 92 then ((quoL r (acc ++ [d])).1, (quoL r (acc ++ [d])).2 + 2) else (none, 1))
    else ((quoL (d :: r) (acc ++ [c])).1, (quoL (d :: r) (acc ++ [c])).2 + 1)

def dropI (s : ByteArray) (a : Int) : List UInt8 := s.data.toList.drop a.toNat
def atomN (s : ByteArray) (a : Int) : Int := a + (atmL false (dropI s a)).2
def atomB (s : ByteArray) (a : Int) : Bool := (atmL false (dropI s a)).1 && decide (a < atomN s a)
def atomS (s : ByteArray) (a : Int) : ByteArray := if (atmL false (dropI s a)).1 then s.extract a.toNat (atomN s a).toNat else ⟨#[]⟩
def quoN (s : ByteArray) (a : Int) : Int := a + 1 + (quoL (dropI s (a + 1)) []).2
def quoB (s : ByteArray) (a : Int) : Bool := (quoL (dropI s (a + 1)) []).1.isSome
def quoS (s : ByteArray) (a : Int) : ByteArray := ⟨((quoL (dropI s (a + 1)) []).1.getD []).toArray⟩
def quoK (s : ByteArray) (a : Int) : Int := if quoB s a then 1 else 0
/-- Is it a place of a text that is not too long? -/
def inText (s : ByteArray) (a : Int) : Bool := decide (0 ≤ a) && decide (a < (s.size : Int)) && decide (s.size < 4294967281)
def k96 : List SV → Mem → Tr (SV × Mem)
  | [.box 0 0], [(0, .box 127 [.str s, .int .i64 a])] => .br (inText s a) (.leaf (.tup [.agg [.int .i64 0, .str (atomS s a)], .bool (atomB s a)], [(0, .box 127 [.str s, .int .i64 (atomN s a)])])) .no
  | _, _ => .no
def k97 : List SV → Mem → Tr (SV × Mem)
  | [.box 0 0], [(0, .box 127 [.str s, .int .i64 a])] => .br (inText s a) (.leaf (.tup [.agg [.int .i64 (quoK s a), .str (quoS s a)], .bool (quoB s a)], [(0, .box 127 [.str s, .int .i64 (quoN s a)])])) .no
  | _, _ => .no
/-- The token that stands next. -/
def tokK (s : ByteArray) (a : Int) : Int := if bAt s a = 34 then quoK s a else if bAt s a = 40 then 2 else if bAt s a = 41 then 3 else 0
def tokS (s : ByteArray) (a : Int) : ByteArray := if bAt s a = 34 then quoS s a else if bAt s a = 40 then ⟨#[40]⟩ else if bAt s a = 41 then ⟨#[41]⟩ else atomS s a
def tokB (s : ByteArray) (a : Int) : Bool := if bAt s a = 34 then quoB s a else if bAt s a = 40 then true else if bAt s a = 41 then true else atomB s a
def tokN (s : ByteArray) (a : Int) : Int := if bAt s a = 34 then quoN s a else if bAt s a = 40 then a + 1 else if bAt s a = 41 then a + 1 else atomN s a
def k92 : List SV → Mem → Tr (SV × Mem)
  | [.box 0 0], [(0, .box 127 [.str s, .int .i64 a])] => .br (inText s a) (.leaf (.tup [.agg [.int .i64 (tokK s a), .str (tokS s a)], .bool (tokB s a)], [(0, .box 127 [.str s, .int .i64 (tokN s a)])])) .no
  | _, _ => .no
end Sx
namespace Sx
open Go Go.Proofs
/-- The kind of a token that is told. -/
def kindOf (x : SV) : Int := asInt ((cellsOf x).getD 0 .dead)
/-- Are the spaces those that are wanted ahead of a token of kind k, behind those of l? -/
noncomputable def wantB (l : List SV) (k n : Int) : Bool := bif (Nat.beq l.length 0) || (kindOf (l.getD (l.length - 1) .dead) == 2 || k == 3) then n == 0 else n == 1
def room24 (l : List SV) : Bool := decide (l.length < 4294967281)
noncomputable def k91 : List SV → Mem → Tr (SV × Mem)
  | [.agg [.int .i64 k, .str s], .box 0 0, .box 1 0], [(0, .box 80 [.row 2]), (1, .box 3 [.int .i64 n]), (2, .row 88 l)] => .br (room24 l) (.leaf (.bool (wantB l k n), [(0, .box 80 [.row 3]), (1, .box 3 [.int .i64 0]), (3, .row 88 (l ++ [.agg [.int .i64 k, .str s]]))])) .no
  | _, _ => .no
end Sx

/-
  Layer 29: an atom, as the program reads it.
-/
set_option linter.unusedVariables false
namespace Sx
open Go Go.Proofs
set_option maxRecDepth 100000

/-- What comes of an atom that began at a and was read up to i; told whether a bracket is open. -/
def atR (s : ByteArray) (a : Nat) (o : Bool) (i : Nat) : Option (Option (SV × Mem)) :=
  some (some (if (atmL o (s.data.toList.drop i)).1 then SV.tup [SV.agg [SV.int .i64 0, SV.str (s.extract a (i + (atmL o (s.data.toList.drop i)).2))], SV.bool (decide (a < i + (atmL o (s.data.toList.drop i)).2))]
    else SV.tup [SV.agg [SV.int .i64 0, SV.str ⟨#[]⟩], SV.bool false], [(0, SObj.box 127 [SV.str s, SV.int .i64 ((i + (atmL o (s.data.toList.drop i)).2 : Nat) : Int)])]))

theorem ltI (a b : Nat) : decide ((a : Int) < (b : Int)) = decide (a < b) := decide_eq_decide.2 (by omega)
theorem leI (a b : Nat) : decide ((a : Int) ≤ (b : Int)) = decide (a ≤ b) := decide_eq_decide.2 (by omega)

theorem atom_run (fu : Nat) (s : ByteArray) (hs : s.size < 4294967281) (a : Nat) (hfu : s.size < fu) : ∀ k i, i + k = s.size → a ≤ i →
    (∀ m, k < m → f96_L2 fu m (a : Int) s (i : Int) 0 ⟨#[]⟩ = atR s a false i) ∧ (∀ m k0, k < m → k ≤ k0 → f96_L6 fu m k0 (a : Int) s (i : Int) 0 ⟨#[]⟩ = atR s a true i)
  | 0, i, hi, ha => by
    have hd : s.data.toList.drop i = [] := List.drop_of_length_le (by simp; omega)
    have h1 : ¬ ((i : Int) < (s.size : Int)) := by omega
    have h2 : (i : Int) ≤ (s.size : Int) := by omega
    have h3 : (a : Int) ≤ (i : Int) := by omega
    have h4 : (0 : Int) ≤ (i : Int) := by omega
    have h5 : (0 : Int) ≤ (a : Int) := by omega
    refine ⟨fun m hm => ?_, fun m k0 hm hk => ?_⟩
    · obtain ⟨m, rfl⟩ : ∃ m', m = m' + 1 := ⟨m - 1, by omega⟩
      rw [f96_L2_eq]
      simp only [h1, h2, h3, h4, h5, decide_false, decide_true, cond_false, cond_true, Bool.and_true, atR, hd, atmL, Bool.not_false, Int.toNat_natCast, Nat.add_zero, if_true]
      have : decide ((i : Int) > (a : Int)) = decide (a < i) := ltI a i
      rw [this]
    · obtain ⟨m, rfl⟩ : ∃ m', m = m' + 1 := ⟨m - 1, by omega⟩
      rw [f96_L6_eq]
      simp [h1, atR, hd, atmL]
  | k + 1, i, hi, ha => by
    obtain ⟨b, hb, hd, hat⟩ := drop_cons s i (by omega)
    obtain ⟨ih1, ih2⟩ := atom_run fu s hs a hfu k (i + 1) (by omega) (by omega)
    have w1 : IntKind.wrap .i64 ((i : Int) + 1) = ((i + 1 : Nat) : Int) := by rw [wrap64 (by omega) (by omega)]; omega
    have h1 : (i : Int) < (s.size : Int) := by omega
    have h2 : (i : Int) ≤ (s.size : Int) := by omega
    have h3 : (a : Int) ≤ (i : Int) := by omega
    have h4 : (0 : Int) ≤ (i : Int) := by omega
    have h5 : (0 : Int) ≤ (a : Int) := by omega
    have nx : ∀ o o', atmL o (b :: s.data.toList.drop (i + 1)) = ((atmL o' (s.data.toList.drop (i + 1))).1, (atmL o' (s.data.toList.drop (i + 1))).2 + 1) → atR s a o' (i + 1) = atR s a o i := fun o o' h => by
      unfold atR
      rw [hd, h]
      simp only
      have : i + 1 + (atmL o' (s.data.toList.drop (i + 1))).2 = i + ((atmL o' (s.data.toList.drop (i + 1))).2 + 1) := by omega
      rw [this]
    have hbn : ∀ x : Nat, x < 256 → (((b.toNat : Int) == (x : Int)) = (b == x.toUInt8)) := fun x hx => by
      rw [Bool.eq_iff_iff]
      simp only [beq_iff_eq]
      constructor
      · intro h; apply UInt8.toNat_inj.1; simp; omega
      · intro h; rw [h]; simp; omega
    refine ⟨fun m hm => ?_, fun m k0 hm hk => ?_⟩
    · obtain ⟨m, rfl⟩ : ∃ m', m = m' + 1 := ⟨m - 1, by omega⟩
      rw [f96_L2_eq, hat, w1]
      simp only [h1, h2, h3, h4, h5, decide_true, cond_true, Bool.and_true]
      cases hsg : signB (b.toNat : Int) with
      | true =>
        have hsg' : sgn b = true := hsg
        simp only [cond_true]
        have e91 := hbn 91 (by decide)
        cases h91 : (b == 91) with
        | true =>
          have : ((b.toNat : Int) != 91) = false := by simp only [bne]; rw [show ((91 : Int)) = ((91 : Nat) : Int) from rfl, e91]; simp [show (91 : Nat).toUInt8 = (91 : UInt8) from rfl, h91]
          rw [this, cond_false, ih2 fu m (by omega) (by omega)]
          exact nx false true (by simp [atmL, hsg', h91])
        | false =>
          have : ((b.toNat : Int) != 91) = true := by simp only [bne]; rw [show ((91 : Int)) = ((91 : Nat) : Int) from rfl, e91]; simp [show (91 : Nat).toUInt8 = (91 : UInt8) from rfl, h91]
          rw [this, cond_true, ih1 m (by omega)]
          exact nx false false (by simp [atmL, hsg', h91])
      | false =>
        have hsg' : sgn b = false := hsg
        simp only [cond_false]
        have : atmL false (s.data.toList.drop i) = (true, 0) := by rw [hd]; simp [atmL, hsg']
        simp only [atR, this, if_true, Nat.add_zero, Int.toNat_natCast]
        have : decide ((i : Int) > (a : Int)) = decide (a < i) := ltI a i
        rw [this]
    · obtain ⟨m, rfl⟩ : ∃ m', m = m' + 1 := ⟨m - 1, by omega⟩
      rw [f96_L6_eq, hat, w1]
      simp only [h1, h4, decide_true, cond_true, Bool.and_true]
      by_cases c1 : (32 : Int) ≤ (b.toNat : Int)
      · have c1' : ((b.toNat : Int) ≥ 32) := c1
        by_cases c2 : (b.toNat : Int) < 127
        · have hr : (32 ≤ b ∧ b < 127) := by
            constructor
            · apply UInt8.le_iff_toNat_le.2; simp; omega
            · apply UInt8.lt_iff_toNat_lt.2; simp; omega
          have e93 := hbn 93 (by decide)
          simp only [c1', c2, decide_true, cond_true]
          cases h93 : (b == 93) with
          | true =>
            have : ((b.toNat : Int) == 93) = true := by rw [show ((93 : Int)) = ((93 : Nat) : Int) from rfl, e93]; exact h93
            rw [this, cond_true, ih1 k0 (by omega)]
            exact nx true false (by simp [atmL, hr, bne, h93])
          | false =>
            have : ((b.toNat : Int) == 93) = false := by rw [show ((93 : Int)) = ((93 : Nat) : Int) from rfl, e93]; exact h93
            rw [this, cond_false, ih2 m k0 (by omega) (by omega)]
            exact nx true true (by simp [atmL, hr, bne, h93])
        · have hr : ¬ (32 ≤ b ∧ b < 127) := fun q => by have := UInt8.lt_iff_toNat_lt.1 q.2; simp at this; omega
          have : atmL true (s.data.toList.drop i) = (false, 0) := by rw [hd]; simp [atmL, hr]
          simp [c1', c2, atR, this]
      · have c1' : ¬ ((b.toNat : Int) ≥ 32) := c1
        have hr : ¬ (32 ≤ b ∧ b < 127) := fun q => by have := UInt8.le_iff_toNat_le.1 q.1; simp at this; omega
        have : atmL true (s.data.toList.drop i) = (false, 0) := by rw [hd]; simp [atmL, hr]
        simp [c1', atR, this]

theorem s96_ok : SpecOk rE 96 (.wide (wideOf (tyOf Try.prog) k96)) := by
  refine wide_of_run rE_ok (fun sm => ⟨fx_ok lA1_ok sm f96_live, rfl⟩) (fn := Try.f96) (by kernel_rfl) (by decide) (by rfl) (fun args m x h => ?_)
  unfold k96 at h
  split at h
  · rename_i s a
    simp only [pickA, cond_eq_ite] at h
    split at h
    · rename_i hc
      cases h
      simp only [inText, Bool.and_eq_true, decide_eq_true_eq] at hc
      obtain ⟨⟨h0, h1⟩, h2⟩ := hc
      obtain ⟨n, rfl⟩ : ∃ n : Nat, a = n := ⟨a.toNat, by omega⟩
      refine ⟨s.size + 1, ?_⟩
      show evFun (f96_X [0]) (s.size + 1) Try.f96 (finW (tyOf Try.prog) [0] 1) [.box 0 0] [(0, .box 127 [.str s, .int .i64 (n : Int)])] [0] = _
      rw [f96_eq, (atom_run (s.size + 1) s h2 n (by omega) (s.size - n) n (by omega) (Nat.le_refl _)).1 _ (by omega)]
      unfold atR atomS atomB atomN dropI
      simp only [Int.toNat_natCast]
      have e1 : ((n : Int) + ((atmL false (s.data.toList.drop n)).2 : Int)) = ((n + (atmL false (s.data.toList.drop n)).2 : Nat) : Int) := by omega
      simp only [e1, ltI, Int.toNat_natCast]
      cases (atmL false (s.data.toList.drop n)).1 <;> simp
    · cases h
  · cases h
end Sx

/-
  Layer 29: a string in quotes, as the program reads it.
-/
set_option linter.unusedVariables false
namespace Sx
open Go Go.Proofs
set_option maxRecDepth 100000

/-- Octets as cells. -/
def bsv (l : List UInt8) : List SV := l.map fun b => .int .u8 (b.toNat : Int)
theorem bsv_octets : ∀ l : List UInt8, octets (bsv l) = true
  | [] => rfl
  | b :: l => by
    have := b.toNat_lt
    have ih := bsv_octets l
    show (decide (0 ≤ asInt (.int .u8 (b.toNat : Int))) && Nat.ble (asInt (.int .u8 (b.toNat : Int))).toNat 255 && octets (bsv l)) = true
    rw [ih]
    simp only [asInt, Int.toNat_natCast, Bool.and_true, Bool.and_eq_true]
    exact ⟨decide_eq_true (by omega), Nat.ble_eq_true_of_le (by omega)⟩
theorem bsv_str (l : List UInt8) : strOf (bsv l) = ⟨l.toArray⟩ := by
  unfold strOf bsv
  rw [List.map_map]
  congr 1
  congr 1
  conv => rhs; rw [← List.map_id l]
  apply List.map_congr_left
  intro b _
  show (asInt (.int .u8 (b.toNat : Int))).toNat.toUInt8 = b
  simp [asInt]
theorem bsv_add (l : List UInt8) (b : UInt8) : bsv l ++ [.int .u8 (b.toNat : Int)] = bsv (l ++ [b]) := by simp [bsv]
theorem bsv_len (l : List UInt8) : (bsv l).length = l.length := by simp [bsv]

theorem beqI (b : UInt8) (x : Nat) (hx : x < 256) : ((b.toNat : Int) == (x : Int)) = (b == x.toUInt8) := by
  rw [Bool.eq_iff_iff]
  simp only [beq_iff_eq]
  constructor
  · intro h; apply UInt8.toNat_inj.1; simp; omega
  · intro h; rw [h]; simp; omega

/-- What comes of a string that was read up to i. -/
def quR (s : ByteArray) (i : Nat) (acc : List UInt8) : Option (Option (SV × Mem)) :=
  some (some (SV.tup [SV.agg [SV.int .i64 (if (quoL (s.data.toList.drop i) acc).1.isSome then 1 else 0), SV.str ⟨((quoL (s.data.toList.drop i) acc).1.getD []).toArray⟩], SV.bool (quoL (s.data.toList.drop i) acc).1.isSome],
    [(0, SObj.box 127 [SV.str s, SV.int .i64 ((i + (quoL (s.data.toList.drop i) acc).2 : Nat) : Int)])]))

theorem quoL_plain {c : UInt8} (h1 : c ≠ 34) (h2 : ¬ (c < 32 ∨ c = 127)) (h3 : c ≠ 92) (r acc : List UInt8) : quoL (c :: r) acc = ((quoL r (acc ++ [c])).1, (quoL r (acc ++ [c])).2 + 1) := by
  cases r with
  | nil => simp [quoL, h1, h2]
  | cons d r => simp [quoL, h1, h2, h3]
theorem quoL_end (r acc : List UInt8) : quoL (34 :: r) acc = (some acc, 1) := by cases r <;> simp [quoL]
theorem quoL_bad {c : UInt8} (h1 : c ≠ 34) (h2 : c < 32 ∨ c = 127) (r acc : List UInt8) : quoL (c :: r) acc = (none, 0) := by cases r <;> simp [quoL, h1, h2]

theorem quo_run (fu : Nat) (s : ByteArray) (hs : s.size < 4294967281) (x2 : Int) (x3 : ByteArray) : ∀ n k i acc m, k ≤ n → i + k = s.size → acc.length ≤ i → k < m → f97_L3v1 fu m s (i : Int) x2 x3 (bsv acc) = quR s i acc
  | n, 0, i, acc, m, hn, hi, ha, hm => by
    obtain ⟨m, rfl⟩ : ∃ m', m = m' + 1 := ⟨m - 1, by omega⟩
    have hd : s.data.toList.drop i = [] := List.drop_of_length_le (by simp; omega)
    have h1 : ¬ ((i : Int) < (s.size : Int)) := by omega
    rw [f97_L3v1_eq]
    simp [h1, quR, hd, quoL]
  | n + 1, k + 1, i, acc, m, hn, hi, ha, hm => by
    obtain ⟨m, rfl⟩ : ∃ m', m = m' + 1 := ⟨m - 1, by omega⟩
    obtain ⟨b, hb, hd, hat⟩ := drop_cons s i (by omega)
    have w1 : IntKind.wrap .i64 ((i : Int) + 1) = ((i + 1 : Nat) : Int) := by rw [wrap64 (by omega) (by omega)]; omega
    have w2 : IntKind.wrap .i64 (((i + 1 : Nat) : Int) + 1) = ((i + 2 : Nat) : Int) := by rw [wrap64 (by omega) (by omega)]; omega
    have h1 : (i : Int) < (s.size : Int) := by omega
    have h4 : (0 : Int) ≤ (i : Int) := by omega
    have hroom : (decide (((bsv acc).length + 1) * 1 ≤ 140737488355328) && decide ((bsv acc).length + 1 ≤ 9223372036854775807) && true) = true := by
      rw [bsv_len]; simp; omega
    have e34 := beqI b 34 (by decide)
    have e127 := beqI b 127 (by decide)
    have e92 := beqI b 92 (by decide)
    simp only [show ((34 : Nat) : Int) = 34 from rfl, show ((127 : Nat) : Int) = 127 from rfl, show ((92 : Nat) : Int) = 92 from rfl, show (34 : Nat).toUInt8 = (34 : UInt8) from rfl, show (127 : Nat).toUInt8 = (127 : UInt8) from rfl, show (92 : Nat).toUInt8 = (92 : UInt8) from rfl] at e34 e127 e92
    have e32 : decide ((b.toNat : Int) < 32) = decide (b < 32) := decide_eq_decide.2 (by rw [UInt8.lt_iff_toNat_lt]; simp; omega)
    rw [f97_L3v1_eq, hat, w1, w2]
    simp only [h1, h4, decide_true, cond_true, Bool.and_true, e34, e127, e92, e32, bsv_octets, bsv_str]
    simp only [Bool.and_true] at hroom
    simp only [hroom, cond_true, bsv_add]
    by_cases c34 : b = 34
    · subst c34
      simp [quR, hd, quoL_end]
    · have n34 : (b == 34) = false := by simpa using c34
      rw [n34, cond_false]
      by_cases c32 : b < 32 ∨ b = 127
      · have hq := quoL_bad c34 c32 (s.data.toList.drop (i + 1)) acc
        rcases c32 with q | q
        · simp [q, quR, hd, hq]
        · subst q
          simp [quR, hd, hq]
      · have c1 : ¬ (b < 32) := fun q => c32 (.inl q)
        have c2 : (b == 127) = false := by
          have : b ≠ 127 := fun q => c32 (.inr q)
          simpa using this
        simp only [c1, c2, decide_false, cond_false]
        by_cases c92 : b = 92
        · subst c92
          simp only [beq_self_eq_true, cond_true]
          rcases Nat.lt_or_ge (i + 1) s.size with hlt | hge
          · obtain ⟨d, hb2, hd2, hat2⟩ := drop_cons s (i + 1) hlt
            have x1 : (((i + 1 : Nat) : Int) == (s.size : Int)) = false := by simp; omega
            have x2' : (0 : Int) ≤ ((i + 1 : Nat) : Int) := by omega
            have x3' : ((i + 1 : Nat) : Int) < (s.size : Int) := by omega
            have d34 := beqI d 34 (by decide)
            have d92 := beqI d 92 (by decide)
            simp only [show ((34 : Nat) : Int) = 34 from rfl, show ((92 : Nat) : Int) = 92 from rfl, show (34 : Nat).toUInt8 = (34 : UInt8) from rfl, show (92 : Nat).toUInt8 = (92 : UInt8) from rfl] at d34 d92
            rw [hat2, x1]
            simp only [cond_false, x2', x3', decide_true, Bool.and_true, cond_true, bne, d34, d92, bsv_add]
            obtain ⟨j, rfl⟩ : ∃ j, k = j + 1 := ⟨k - 1, by omega⟩
            have ih := quo_run fu s hs x2 x3 n j (i + 2) (acc ++ [d]) m (by omega) (by omega) (by simp; omega) (by omega)
            have fin : quoL (s.data.toList.drop i) acc = (if d = 34 ∨ d = 92 then ((quoL (s.data.toList.drop (i + 2)) (acc ++ [d])).1, (quoL (s.data.toList.drop (i + 2)) (acc ++ [d])).2 + 2) else (none, 1)) := by
              rw [hd, hd2]; simp [quoL]
            have good : d = 34 ∨ d = 92 → quR s (i + 2) (acc ++ [d]) = quR s i acc := fun q => by
              unfold quR
              rw [fin, if_pos q]
              simp only
              have : i + 2 + (quoL (s.data.toList.drop (i + 2)) (acc ++ [d])).2 = i + ((quoL (s.data.toList.drop (i + 2)) (acc ++ [d])).2 + 2) := by omega
              rw [this]
            by_cases q34 : d = 34
            · have : (d == 34) = true := by simpa using q34
              rw [this]
              simp only [Bool.not_true, cond_false]
              rw [ih]; exact good (.inl q34)
            · have t34 : (d == 34) = false := by simpa using q34
              rw [t34]
              simp only [Bool.not_false, cond_true]
              by_cases q92 : d = 92
              · have : (d == 92) = true := by simpa using q92
                rw [this]
                simp only [Bool.not_true, cond_false]
                rw [ih]; exact good (.inr q92)
              · have t92 : (d == 92) = false := by simpa using q92
                rw [t92]
                simp only [Bool.not_false, cond_true]
                have hno : ¬ (d = 34 ∨ d = 92) := fun q => q.elim q34 q92
                rw [if_neg hno] at fin
                simp [quR, fin]
          · have hke : k = 0 := by omega
            have x1 : (((i + 1 : Nat) : Int) == (s.size : Int)) = true := by simp; omega
            have hd2 : s.data.toList.drop (i + 1) = [] := List.drop_of_length_le (by simp; omega)
            rw [x1, cond_true]
            simp [quR, hd, hd2, quoL]
        · have n92 : (b == 92) = false := by simpa using c92
          rw [n92, cond_false]
          rw [quo_run fu s hs x2 x3 n k (i + 1) (acc ++ [b]) m (by omega) (by omega) (by simp; omega) (by omega)]
          unfold quR
          rw [hd, quoL_plain c34 c32 c92]
          simp only
          have : i + 1 + (quoL (s.data.toList.drop (i + 1)) (acc ++ [b])).2 = i + ((quoL (s.data.toList.drop (i + 1)) (acc ++ [b])).2 + 1) := by omega
          rw [this]

theorem s97_ok : SpecOk rE 97 (.wide (wideOf (tyOf Try.prog) k97)) := by
  refine wide_of_run rE_ok (fun sm => ⟨fx_ok lB2_ok sm f97_live, rfl⟩) (fn := Try.f97) (by kernel_rfl) (by decide) (by rfl) (fun args m x h => ?_)
  unfold k97 at h
  split at h
  · rename_i s a
    simp only [pickA, cond_eq_ite] at h
    split at h
    · rename_i hc
      cases h
      simp only [inText, Bool.and_eq_true, decide_eq_true_eq] at hc
      obtain ⟨⟨h0, h1⟩, h2⟩ := hc
      obtain ⟨n, rfl⟩ : ∃ n : Nat, a = n := ⟨a.toNat, by omega⟩
      refine ⟨s.size + 1, ?_⟩
      show evFun (f97_X [0]) (s.size + 1) Try.f97 (finW (tyOf Try.prog) [0] 1) [.box 0 0] [(0, .box 127 [.str s, .int .i64 (n : Int)])] [0] = _
      have w1 : IntKind.wrap .i64 ((n : Int) + 1) = ((n + 1 : Nat) : Int) := by rw [wrap64 (by omega) (by omega)]; omega
      have run := fun x2 x3 => quo_run (s.size + 1) s h2 x2 x3 (s.size - (n + 1)) (s.size - (n + 1)) (n + 1) [] (s.size + 1) (Nat.le_refl _) (by omega) (Nat.zero_le _) (by omega)
      have same : ∀ x1 x2 x3 x4, f97_L3 (s.size + 1) (s.size + 1) s x1 x2 x3 x4 = f97_L3v1 (s.size + 1) (s.size + 1) s x1 x2 x3 x4 := fun x1 x2 x3 x4 => by rw [f97_L3_eq, f97_L3v1_eq]
      rw [f97_eq, same, w1]
      have := run 0 ⟨#[]⟩
      rw [show bsv [] = [] from rfl] at this
      rw [this]
      unfold quR quoK quoB quoS quoN dropI
      have e0 : ((n : Int) + 1).toNat = n + 1 := by omega
      simp only [e0]
      have e1 : ((n : Int) + 1 + ((quoL (s.data.toList.drop (n + 1)) []).2 : Int)) = ((n + 1 + (quoL (s.data.toList.drop (n + 1)) []).2 : Nat) : Int) := by omega
      simp only [e1]
    · cases h
  · cases h
end Sx

/-
  Layer 29: the table with atoms and strings.
-/
set_option linter.unusedVariables false
namespace Sx
open Go Go.Proofs
noncomputable def lC1 : List (Nat × Spec) := (96, .wide (wideOf (tyOf Try.prog) k96)) :: (97, .wide (wideOf (tyOf Try.prog) k97)) :: lB2
theorem lC1_ok : SpecsOk rE (ofList lC1) := .cons s96_ok (.cons s97_ok lB2_ok)
end Sx

/-
  What the executor says of functions: the normal forms, each compared by the kernel. (Printed by a program.)
-/
set_option linter.unusedVariables false
namespace Sx
open Go Go.Proofs
set_option maxRecDepth 100000
/-- The slots that are needed at the loops' heads of '(*hamper/line.cutter).next'. -/
noncomputable def f92_live : Nat → List Nat × List (Nat × TypeId) := fun h => ([], [])
noncomputable def f92_X (sm : List Nat) : Fx := ⟨tyOf Try.prog, ofList lC1, sm, f92_live⟩
/-- The slots that are needed at the loops' heads of 'hamper/line.Tokens$1'. -/
noncomputable def f91_live : Nat → List Nat × List (Nat × TypeId) := fun h => ([], [])
noncomputable def f91_X (sm : List Nat) : Fx := ⟨tyOf Try.prog, ofList lB2, sm, f91_live⟩
theorem f92_eq (fu : Nat) (s : ByteArray) (a : Int) : evFun (f92_X [0]) fu Try.f92 (finW (tyOf Try.prog) [0] 1) [.box 0 0] [(0, .box 127 [.str s, .int .i64 a])] [0] = bif decide ((0 : Int) ≤ a) && decide (a < (↑(ByteArray.size s) : Int)) then
  bif bAt s a == (34 : Int) then
    bif inText s a then some (some (SV.tup [SV.agg [SV.int IntKind.i64 (quoK s a), SV.str (quoS s a)], SV.bool (quoB s a)], [((0 : Nat), SObj.box (127 : Nat) [SV.str s, SV.int IntKind.i64 (quoN s a)])])) else none
  else
    bif bAt s a == (40 : Int) then
      bif decide ((0 : Int) ≤ a) && decide (a < (↑(ByteArray.size s) : Int)) && bif bAt s a == (41 : Int) then true else true then
        some
          (some
            (SV.tup
                [SV.agg [SV.int IntKind.i64 (bif bAt s a == (41 : Int) then (3 : Int) else (2 : Int)), SV.str (bif bAt s a == (41 : Int) then ByteArray.mk #[(41 : UInt8)] else ByteArray.mk #[(40 : UInt8)])],
                  SV.bool (bif bAt s a == (41 : Int) then true else true)],
              [((0 : Nat),
                  SObj.box (127 : Nat)
                    [SV.str (bif bAt s a == (41 : Int) then s else s), SV.int IntKind.i64 (bif bAt s a == (41 : Int) then IntKind.wrap IntKind.i64 (a + (1 : Int)) else IntKind.wrap IntKind.i64 (a + (1 : Int)))])]))
      else none
    else
      bif bAt s a == (41 : Int) then
        bif decide ((0 : Int) ≤ a) && decide (a < (↑(ByteArray.size s) : Int)) && bif bAt s a == (41 : Int) then true else true then
          some
            (some
              (SV.tup
                  [SV.agg [SV.int IntKind.i64 (bif bAt s a == (41 : Int) then (3 : Int) else (2 : Int)), SV.str (bif bAt s a == (41 : Int) then ByteArray.mk #[(41 : UInt8)] else ByteArray.mk #[(40 : UInt8)])],
                    SV.bool (bif bAt s a == (41 : Int) then true else true)],
                [((0 : Nat),
                    SObj.box (127 : Nat)
                      [SV.str (bif bAt s a == (41 : Int) then s else s), SV.int IntKind.i64 (bif bAt s a == (41 : Int) then IntKind.wrap IntKind.i64 (a + (1 : Int)) else IntKind.wrap IntKind.i64 (a + (1 : Int)))])]))
        else none
      else
        bif inText s a then some (some (SV.tup [SV.agg [SV.int IntKind.i64 (0 : Int), SV.str (atomS s a)], SV.bool (atomB s a)], [((0 : Nat), SObj.box (127 : Nat) [SV.str s, SV.int IntKind.i64 (atomN s a)])])) else none
  else none := by kernel_rfl

theorem f91_eq (fu : Nat) (k : Int) (s : ByteArray) (l : List SV) (n : Int) : evFun (f91_X [0, 1]) fu Try.f91 (finW (tyOf Try.prog) [0, 1] 3) [.agg [.int .i64 k, .str s], .box 0 0, .box 1 0] [(0, .box 80 [.row 2]), (1, .box 3 [.int .i64 n]), (2, .row 88 l)] [0, 1, 2] = bif (↑(List.length l) : Int) == (0 : Int) then
  bif decide ((List.length l + (1 : Nat)) * (24 : Nat) ≤ (140737488355328 : Nat)) && decide (List.length l + (1 : Nat) ≤ (9223372036854775807 : Nat)) then
    some
      (some
        (SV.bool (n == (0 : Int)),
          [((0 : Nat), SObj.box (80 : Nat) [SV.row (3 : Nat)]), ((1 : Nat), SObj.box (3 : Nat) [SV.int IntKind.i64 (0 : Int)]), ((3 : Nat), SObj.row (88 : Nat) (l ++ [SV.agg [SV.int IntKind.i64 k, SV.str s]]))]))
  else none
  else
  bif decide ((0 : Int) ≤ IntKind.wrap IntKind.i64 ((↑(List.length l) : Int) - (1 : Int))) && decide (IntKind.wrap IntKind.i64 ((↑(List.length l) : Int) - (1 : Int)) < (↑(List.length l) : Int)) then
    bif asInt (List.getD (cellsOf (List.getD l (Int.toNat (IntKind.wrap IntKind.i64 ((↑(List.length l) : Int) - (1 : Int)))) SV.dead)) (0 : Nat) SV.dead) == (2 : Int) then
      bif decide ((List.length l + (1 : Nat)) * (24 : Nat) ≤ (140737488355328 : Nat)) && decide (List.length l + (1 : Nat) ≤ (9223372036854775807 : Nat)) then
        some
          (some
            (SV.bool (n == (0 : Int)),
              [((0 : Nat), SObj.box (80 : Nat) [SV.row (3 : Nat)]), ((1 : Nat), SObj.box (3 : Nat) [SV.int IntKind.i64 (0 : Int)]), ((3 : Nat), SObj.row (88 : Nat) (l ++ [SV.agg [SV.int IntKind.i64 k, SV.str s]]))]))
      else none
    else
      bif k == (3 : Int) then
        bif decide ((List.length l + (1 : Nat)) * (24 : Nat) ≤ (140737488355328 : Nat)) && decide (List.length l + (1 : Nat) ≤ (9223372036854775807 : Nat)) then
          some
            (some
              (SV.bool (n == (0 : Int)),
                [((0 : Nat), SObj.box (80 : Nat) [SV.row (3 : Nat)]), ((1 : Nat), SObj.box (3 : Nat) [SV.int IntKind.i64 (0 : Int)]), ((3 : Nat), SObj.row (88 : Nat) (l ++ [SV.agg [SV.int IntKind.i64 k, SV.str s]]))]))
        else none
      else
        bif decide ((List.length l + (1 : Nat)) * (24 : Nat) ≤ (140737488355328 : Nat)) && decide (List.length l + (1 : Nat) ≤ (9223372036854775807 : Nat)) then
          some
            (some
              (SV.bool (n == (1 : Int)),
                [((0 : Nat), SObj.box (80 : Nat) [SV.row (3 : Nat)]), ((1 : Nat), SObj.box (3 : Nat) [SV.int IntKind.i64 (0 : Int)]), ((3 : Nat), SObj.row (88 : Nat) (l ++ [SV.agg [SV.int IntKind.i64 k, SV.str s]]))]))
        else none
  else none := by kernel_rfl

end Sx

/-
  Layer 29: the token that stands next, and whether it fits.
-/
set_option linter.unusedVariables false
namespace Sx
open Go Go.Proofs
set_option maxRecDepth 100000

theorem s92_ok : SpecOk rE 92 (.wide (wideOf (tyOf Try.prog) k92)) := by
  refine wide_of_run rE_ok (fun sm => ⟨fx_ok lC1_ok sm f92_live, rfl⟩) (fn := Try.f92) (by kernel_rfl) (by decide) (by rfl) (fun args m x h => ?_)
  unfold k92 at h
  split at h
  · rename_i s a
    simp only [pickA, cond_eq_ite] at h
    split at h
    · rename_i hc
      cases h
      refine ⟨0, ?_⟩
      show evFun (f92_X [0]) 0 Try.f92 (finW (tyOf Try.prog) [0] 1) [.box 0 0] [(0, .box 127 [.str s, .int .i64 a])] [0] = _
      have hc' := hc
      simp only [inText, Bool.and_eq_true, decide_eq_true_eq] at hc'
      obtain ⟨⟨h0, h1⟩, h2⟩ := hc'
      have w1 : IntKind.wrap .i64 (a + 1) = a + 1 := wrap64 (by omega) (by omega)
      rw [f92_eq]
      simp only [hc, h0, h1, w1, decide_true, Bool.and_self, cond_true, Bool.true_and]
      unfold tokK tokS tokB tokN
      by_cases q34 : bAt s a = 34
      · simp [q34]
      · have t34 : (bAt s a == 34) = false := by simpa using q34
        by_cases q40 : bAt s a = 40
        · simp [q40]
        · have t40 : (bAt s a == 40) = false := by simpa using q40
          by_cases q41 : bAt s a = 41
          · simp [q41]
          · have t41 : (bAt s a == 41) = false := by simpa using q41
            simp [t34, t40, t41, q34, q40, q41]
    · cases h
  · cases h

theorem s91_ok : SpecOk rE 91 (.wide (wideOf (tyOf Try.prog) k91)) := by
  refine wide_of_run rE_ok (fun sm => ⟨fx_ok lB2_ok sm f91_live, rfl⟩) (fn := Try.f91) (by kernel_rfl) (by decide) (by rfl) (fun args m x h => ?_)
  unfold k91 at h
  split at h
  · rename_i k s n l
    simp only [pickA, cond_eq_ite] at h
    split at h
    · rename_i hc
      cases h
      refine ⟨0, ?_⟩
      show evFun (f91_X [0, 1]) 0 Try.f91 (finW (tyOf Try.prog) [0, 1] 3) [.agg [.int .i64 k, .str s], .box 0 0, .box 1 0] [(0, .box 80 [.row 2]), (1, .box 3 [.int .i64 n]), (2, .row 88 l)] [0, 1, 2] = _
      simp only [room24, decide_eq_true_eq] at hc
      have r1 : decide ((l.length + 1) * 24 ≤ 140737488355328) = true := decide_eq_true (by omega)
      have r2 : decide (l.length + 1 ≤ 9223372036854775807) = true := decide_eq_true (by omega)
      rw [f91_eq]
      simp only [r1, r2, Bool.and_self, cond_true]
      unfold wantB kindOf
      by_cases q0 : l.length = 0
      · have : Nat.beq l.length 0 = true := by rw [q0]; rfl
        simp [q0]
      · have t0 : ((l.length : Int) == 0) = false := by rw [beq_eq_false_iff_ne]; omega
        have t0' : Nat.beq l.length 0 = false := by
          cases hb : Nat.beq l.length 0 with
          | false => rfl
          | true => exact absurd (Nat.eq_of_beq_eq_true hb) q0
        have w1 : IntKind.wrap .i64 ((l.length : Int) - 1) = ((l.length - 1 : Nat) : Int) := by rw [wrap64 (by omega) (by omega)]; omega
        have b1 : decide ((0 : Int) ≤ ((l.length - 1 : Nat) : Int)) = true := decide_eq_true (by omega)
        have b2 : decide (((l.length - 1 : Nat) : Int) < (l.length : Int)) = true := decide_eq_true (by omega)
        rw [t0, t0', w1]
        simp only [b1, b2, Bool.and_self, cond_true, cond_false, Int.toNat_natCast, Bool.false_or]
        cases (asInt (List.getD (cellsOf (List.getD l (l.length - 1) SV.dead)) 0 SV.dead) == 2) <;> cases (k == 3) <;> rfl
    · cases h
  · cases h
noncomputable def lC2 : List (Nat × Spec) := (91, .wide (wideOf (tyOf Try.prog) k91)) :: (92, .wide (wideOf (tyOf Try.prog) k92)) :: lC1
theorem lC2_ok : SpecsOk rE (ofList lC2) := .cons s91_ok (.cons s92_ok lC1_ok)
end Sx

/-
  What the executor says of functions: the normal forms, each compared by the kernel. (Printed by a program.)
-/
set_option linter.unusedVariables false
namespace Sx
open Go Go.Proofs
set_option maxRecDepth 100000
/-- The slots that are needed at the loops' heads of 'hamper/line.Tokens'. -/
noncomputable def f83_live : Nat → List Nat × List (Nat × TypeId) := fun h => bif Nat.beq h 11 then ([4, 5, 6, 9, 13, 14, 15], nilsOf (tyOf Try.prog) [(4, 0), (5, 0), (6, 124), (9, 125), (13, 71), (14, 3), (15, 3)]) else bif Nat.beq h 5 then ([4, 5, 6, 13, 14, 15], nilsOf (tyOf Try.prog) [(4, 0), (5, 0), (6, 124), (13, 71), (14, 3), (15, 3)]) else ([], [])
noncomputable def f83_X (sm : List Nat) : Fx := ⟨tyOf Try.prog, ofList lC2, sm, f83_live⟩
def f83_st11 (x0 : Int) (x1 : Int) (x2 : List SV) (x3 : Int) (x4 : ByteArray) (x5 : Int) (x6 : List SV) : St := St.mk
  [SV.dead, SV.dead, SV.dead, SV.dead, SV.box (100 : Nat) (0 : Nat), SV.box (101 : Nat) (0 : Nat), SV.fn (Fn.func (91 : Nat)) [] [SV.box (100 : Nat) (0 : Nat), SV.box (101 : Nat) (0 : Nat)], SV.dead, SV.dead,
    SV.box (102 : Nat) (0 : Nat), SV.dead, SV.dead, SV.dead, SV.row (0 : Nat), SV.int IntKind.i64 x0, SV.int IntKind.i64 x1, SV.dead, SV.dead, SV.dead, SV.dead, SV.dead, SV.dead, SV.dead, SV.dead, SV.dead, SV.dead,
    SV.dead, SV.dead, SV.dead, SV.dead, SV.dead, SV.dead, SV.dead, SV.dead, SV.dead, SV.dead, SV.dead, SV.dead, SV.dead, SV.dead, SV.dead, SV.dead, SV.dead, SV.dead, SV.dead, SV.dead, SV.dead, SV.dead, SV.dead, SV.dead,
    SV.dead, SV.dead, SV.dead, SV.dead, SV.dead, SV.dead, SV.dead, SV.dead, SV.dead, SV.dead, SV.dead, SV.dead, SV.dead, SV.dead, SV.dead, SV.dead, SV.dead, SV.dead, SV.dead, SV.dead, SV.dead, SV.dead, SV.dead, SV.dead,
    SV.dead, SV.dead, SV.dead]
  [((0 : Nat), SObj.row (77 : Nat) x2), ((100 : Nat), SObj.box (80 : Nat) [SV.row (103 : Nat)]), ((101 : Nat), SObj.box (3 : Nat) [SV.int IntKind.i64 x3]),
    ((102 : Nat), SObj.box (127 : Nat) [SV.str x4, SV.int IntKind.i64 x5]), ((103 : Nat), SObj.row (88 : Nat) x6)]
  [(0 : Nat), (100 : Nat), (101 : Nat), (102 : Nat), (103 : Nat)]
noncomputable def f83_L11 (fu fm : Nat) (k0 : Nat) (x0 : Int) (x1 : Int) (x2 : List SV) (x3 : Int) (x4 : ByteArray) (x5 : Int) (x6 : List SV) : Option (Option (SV × Mem)) := atLoop (f83_X [0]) Try.f83 (finW (tyOf Try.prog) [0] 1) fu [.r, .r, .r, .r, .l, .r, .b, .o k0, .r, .r, .l, .b, .r, .r, .r, .b] fm (f83_st11 x0 x1 x2 x3 x4 x5 x6)

def f83_st5 (x0 : Int) (x1 : Int) (x2 : List SV) (x3 : Int) (x4 : List SV) : St := St.mk
  [SV.dead, SV.dead, SV.dead, SV.dead, SV.box (100 : Nat) (0 : Nat), SV.box (101 : Nat) (0 : Nat), SV.fn (Fn.func (91 : Nat)) [] [SV.box (100 : Nat) (0 : Nat), SV.box (101 : Nat) (0 : Nat)], SV.dead, SV.dead, SV.dead,
    SV.dead, SV.dead, SV.dead, SV.row (0 : Nat), SV.int IntKind.i64 x0, SV.int IntKind.i64 x1, SV.dead, SV.dead, SV.dead, SV.dead, SV.dead, SV.dead, SV.dead, SV.dead, SV.dead, SV.dead, SV.dead, SV.dead, SV.dead, SV.dead,
    SV.dead, SV.dead, SV.dead, SV.dead, SV.dead, SV.dead, SV.dead, SV.dead, SV.dead, SV.dead, SV.dead, SV.dead, SV.dead, SV.dead, SV.dead, SV.dead, SV.dead, SV.dead, SV.dead, SV.dead, SV.dead, SV.dead, SV.dead, SV.dead,
    SV.dead, SV.dead, SV.dead, SV.dead, SV.dead, SV.dead, SV.dead, SV.dead, SV.dead, SV.dead, SV.dead, SV.dead, SV.dead, SV.dead, SV.dead, SV.dead, SV.dead, SV.dead, SV.dead, SV.dead, SV.dead, SV.dead, SV.dead]
  [((0 : Nat), SObj.row (77 : Nat) x2), ((100 : Nat), SObj.box (80 : Nat) [SV.row (102 : Nat)]), ((101 : Nat), SObj.box (3 : Nat) [SV.int IntKind.i64 x3]), ((102 : Nat), SObj.row (88 : Nat) x4)]
  [(0 : Nat), (100 : Nat), (101 : Nat), (102 : Nat)]
noncomputable def f83_L5 (fu fm : Nat) (x0 : Int) (x1 : Int) (x2 : List SV) (x3 : Int) (x4 : List SV) : Option (Option (SV × Mem)) := atLoop (f83_X [0]) Try.f83 (finW (tyOf Try.prog) [0] 1) fu [.r, .r, .r, .r, .l, .r, .b] fm (f83_st5 x0 x1 x2 x3 x4)

theorem f83_L11_eq (fu fm : Nat) (k0 : Nat) (x0 : Int) (x1 : Int) (x2 : List SV) (x3 : Int) (x4 : ByteArray) (x5 : Int) (x6 : List SV) : f83_L11 fu (fm + 1) k0 x0 x1 x2 x3 x4 x5 x6 = bif decide (x5 < (↑(ByteArray.size x4) : Int)) then
  bif decide ((0 : Int) ≤ x5) && decide (x5 < (↑(ByteArray.size x4) : Int)) then
    bif bAt x4 x5 == (32 : Int) then f83_L11 fu fm k0 x0 x1 x2 (IntKind.wrap IntKind.i64 (x3 + (1 : Int))) x4 (IntKind.wrap IntKind.i64 (x5 + (1 : Int))) x6
    else
      bif inText x4 x5 then
        bif !tokB x4 x5 then some (some (SV.tup [SV.snil, SV.int IntKind.i64 (20 : Int)], [((0 : Nat), SObj.row (77 : Nat) x2)]))
        else
          bif room24 x6 then
            bif !wantB x6 (tokK x4 x5) x3 then some (some (SV.tup [SV.snil, SV.int IntKind.i64 (20 : Int)], [((0 : Nat), SObj.row (77 : Nat) x2)]))
            else f83_L11 fu fm k0 x0 x1 x2 (0 : Int) x4 (tokN x4 x5) (x6 ++ [SV.agg [SV.int IntKind.i64 (tokK x4 x5), SV.str (tokS x4 x5)]])
          else none
      else none
  else none
  else f83_L5 fu k0 x0 (IntKind.wrap IntKind.i64 (x1 + (1 : Int))) x2 x3 x6 := by kernel_rfl

theorem f83_L5_eq (fu fm : Nat) (x0 : Int) (x1 : Int) (x2 : List SV) (x3 : Int) (x4 : List SV) : f83_L5 fu (fm + 1) x0 x1 x2 x3 x4 = bif decide (x1 < x0) then
  bif decide ((0 : Int) ≤ x1) && decide (x1 < (↑(List.length x2) : Int)) then
    bif asBool (List.getD (cellsOf (List.getD x2 (Int.toNat x1) SV.dead)) (0 : Nat) SV.dead) then
      bif room24 x4 then
        bif !wantB x4 (1 : Int) x3 then some (some (SV.tup [SV.snil, SV.int IntKind.i64 (20 : Int)], [((0 : Nat), SObj.row (77 : Nat) x2)]))
        else
          f83_L5 fu fm x0 (IntKind.wrap IntKind.i64 (x1 + (1 : Int))) x2 (0 : Int)
            (x4 ++ [SV.agg [SV.int IntKind.i64 (1 : Int), SV.str (asStr (List.getD (cellsOf (List.getD x2 (Int.toNat x1) SV.dead)) (1 : Nat) SV.dead))]])
      else none
    else f83_L11 fu fu fm x0 x1 x2 x3 (asStr (List.getD (cellsOf (List.getD x2 (Int.toNat x1) SV.dead)) (1 : Nat) SV.dead)) (0 : Int) x4
  else none
  else
  bif decide (x3 > (0 : Int)) then some (some (SV.tup [SV.snil, SV.int IntKind.i64 (20 : Int)], [((0 : Nat), SObj.row (77 : Nat) x2)]))
  else some (some (SV.tup [SV.row (1 : Nat), SV.int IntKind.i64 (0 : Int)], [((0 : Nat), SObj.row (77 : Nat) x2), ((1 : Nat), SObj.row (88 : Nat) x4)])) := by kernel_rfl

theorem f83_eq (fu : Nat) (l : List SV) : evFun (f83_X [0]) fu Try.f83 (finW (tyOf Try.prog) [0] 1) [.row 0] [(0, .row 77 l)] [0] = f83_L5 fu fu (↑(List.length l) : Int) (0 : Int) l (0 : Int) [] := by kernel_rfl

end Sx

/-
  Layer 29: the program's tokens, in plain Lean.
-/
set_option linter.unusedVariables false
namespace Sx
open Go Go.Proofs
set_option maxRecDepth 100000

theorem atmL_len : ∀ (o : Bool) (l : List UInt8), (atmL o l).2 ≤ l.length
  | o, [] => by cases o <;> simp [atmL]
  | false, c :: r => by
    have := atmL_len (c == 91) r
    unfold atmL; split <;> simp <;> omega
  | true, c :: r => by
    have := atmL_len (c != 93) r
    unfold atmL; split <;> simp <;> omega
theorem quoL_len : ∀ (n : Nat) (l acc : List UInt8), l.length ≤ n → (quoL l acc).2 ≤ l.length
  | _, [], acc, _ => by simp [quoL]
  | _, [c], acc, _ => by
    unfold quoL; split
    · simp
    · split <;> simp
  | 0, c :: d :: r, acc, h => by simp at h
  | n + 1, c :: d :: r, acc, h => by
    simp only [List.length_cons] at h
    have h1 := quoL_len n r (acc ++ [d]) (by omega)
    have h2 := quoL_len n (d :: r) (acc ++ [c]) (by simp; omega)
    simp only [List.length_cons] at h2
    unfold quoL
    split
    · simp
    · split
      · simp
      · split
        · split
          · simp; omega
          · simp
        · simp; omega
theorem tokN_gt {s : ByteArray} {a : Int} (hb : tokB s a = true) : a < tokN s a := by
  unfold tokB at hb
  unfold tokN
  split
  · unfold quoN; omega
  · split
    · omega
    · split
      · omega
      · rename_i h1 h2 h3
        simp only [h1, h2, h3, if_false, atomB, Bool.and_eq_true, decide_eq_true_eq] at hb
        exact hb.2
theorem tokN_le {s : ByteArray} {a : Int} (h : inText s a = true) : tokN s a ≤ s.size := by
  simp only [inText, Bool.and_eq_true, decide_eq_true_eq] at h
  obtain ⟨⟨h0, h1⟩, h2⟩ := h
  unfold tokN
  split
  · unfold quoN dropI
    have := quoL_len _ (s.data.toList.drop (a + 1).toNat) [] (Nat.le_refl _)
    have h3 : (s.data.toList.drop (a + 1).toNat).length = s.size - (a + 1).toNat := by simp
    omega
  · split
    · omega
    · split
      · omega
      · unfold atomN dropI
        have := atmL_len false (s.data.toList.drop a.toNat)
        have h3 : (s.data.toList.drop a.toNat).length = s.size - a.toNat := by simp
        omega

def tokAt (s : ByteArray) (a : Int) : SV := .agg [.int .i64 (tokK s a), .str (tokS s a)]
/-- A text's tokens, behind what is there; so many steps at most. -/
noncomputable def pieceT (s : ByteArray) : Nat → Int → Int → List SV → Option (Int × List SV)
  | 0, _, _, _ => none
  | f + 1, a, n, out => bif decide (a < (s.size : Int)) then (bif bAt s a == 32 then pieceT s f (a + 1) (n + 1) out else bif tokB s a && wantB out (tokK s a) n then pieceT s f (tokN s a) 0 (out ++ [tokAt s a]) else none) else some (n, out)
def litP (p : SV) : Bool := asBool ((cellsOf p).getD 0 .dead)
def strP (p : SV) : ByteArray := asStr ((cellsOf p).getD 1 .dead)
noncomputable def piecesT : List SV → Int → List SV → Option (Int × List SV)
  | [], n, out => some (n, out)
  | p :: ps, n, out => bif litP p then (bif wantB out 1 n then piecesT ps 0 (out ++ [.agg [.int .i64 1, .str (strP p)]]) else none)
    else match pieceT (strP p) ((strP p).size + 1) 0 n out with
      | some (n', out') => piecesT ps n' out'
      | none => none
/-- The tokens of pieces; none: they are refused. -/
noncomputable def toksP (l : List SV) : Option (List SV) := match piecesT l 0 [] with
  | some (n, out) => bif decide (n > 0) then none else some out
  | none => none
def sumP : List SV → Nat
  | [] => 0
  | p :: ps => (strP p).size + 1 + sumP ps
def okP (l : List SV) : Bool := decide (sumP l < 4294967281)
end Sx

/-
  Layer 29: the program's Tokens comes to them.
-/
set_option linter.unusedVariables false
namespace Sx
open Go Go.Proofs
set_option maxRecDepth 100000

def tokBad (l : List SV) : Option (Option (SV × Mem)) := some (some (SV.tup [SV.snil, SV.int .i64 20], [(0, SObj.row 77 l)]))

theorem pieceT_size {s : ByteArray} (hs : s.size < 4294967281) : ∀ (N : Nat) (f : Nat) (a n : Int) (out : List SV) (n' : Int) (out' : List SV), (s.size : Int) - a ≤ N → 0 ≤ a → a ≤ s.size → 0 ≤ n → pieceT s f a n out = some (n', out') → 0 ≤ n' ∧ n' + out'.length ≤ n + out.length + ((s.size : Int) - a)
  | N, 0, a, n, out, n', out', hN, h0, h1, hn, h => by cases h
  | N, f + 1, a, n, out, n', out', hN, h0, h1, hn, h => by
    simp only [pieceT, cond_eq_ite] at h
    split at h
    · rename_i c1
      have c1 := of_decide_eq_true c1
      obtain ⟨M, rfl⟩ : ∃ M, N = M + 1 := ⟨N - 1, by omega⟩
      split at h
      · have := pieceT_size hs M f (a + 1) (n + 1) out n' out' (by omega) (by omega) (by omega) (by omega) h
        omega
      · split at h
        · rename_i c2
          simp only [Bool.and_eq_true] at c2
          have g1 := tokN_gt c2.1
          have g2 := tokN_le (s := s) (a := a) (by simp [inText, h0, c1, hs])
          have := pieceT_size hs M f (tokN s a) 0 (out ++ [tokAt s a]) n' out' (by omega) (by omega) (by omega) (by omega) h
          simp only [List.length_append, List.length_cons, List.length_nil] at this
          omega
        · cases h
    · simp only [Option.some.injEq, Prod.mk.injEq] at h
      obtain ⟨rfl, rfl⟩ := h
      omega

theorem L11_is (fu k0 : Nat) (x0 x1 : Int) (x2 : List SV) {s : ByteArray} (hs : s.size < 4294967281) : ∀ (N f m : Nat) (a n : Int) (out : List SV), (s.size : Int) - a ≤ N → N < f → N < m → 0 ≤ a → a ≤ s.size → 0 ≤ n → n + out.length + ((s.size : Int) - a) < 4294967281 →
    f83_L11 fu m k0 x0 x1 x2 n s a out = (match pieceT s f a n out with | some (n', out') => f83_L5 fu k0 x0 (IntKind.wrap .i64 (x1 + 1)) x2 n' out' | none => tokBad x2)
  | N, f, m, a, n, out, hN, hf, hm, h0, h1, hn, hb => by
    obtain ⟨f, rfl⟩ : ∃ f', f = f' + 1 := ⟨f - 1, by omega⟩
    obtain ⟨m, rfl⟩ : ∃ m', m = m' + 1 := ⟨m - 1, by omega⟩
    rw [f83_L11_eq]
    simp only [pieceT]
    by_cases c1 : a < (s.size : Int)
    · obtain ⟨M, rfl⟩ : ∃ M, N = M + 1 := ⟨N - 1, by omega⟩
      have w1 : IntKind.wrap .i64 (a + 1) = a + 1 := wrap64 (by omega) (by omega)
      have w2 : IntKind.wrap .i64 (n + 1) = n + 1 := wrap64 (by omega) (by omega)
      have hit : inText s a = true := by simp [inText, h0, c1, hs]
      have hroom : room24 out = true := by unfold room24; exact decide_eq_true (by omega)
      simp only [c1, h0, w1, w2, hit, hroom, decide_true, Bool.and_self, cond_true]
      cases c2 : (bAt s a == 32) with
      | true =>
        simp only [cond_true]
        exact L11_is fu k0 x0 x1 x2 hs M f m (a + 1) (n + 1) out (by omega) (by omega) (by omega) (by omega) (by omega) (by omega) (by omega)
      | false =>
        simp only [cond_false]
        cases c3 : tokB s a with
        | false => rfl
        | true =>
          simp only [Bool.not_true, cond_false, Bool.true_and]
          cases c4 : wantB out (tokK s a) n with
          | false => rfl
          | true =>
            simp only [Bool.not_true, cond_false, cond_true]
            have g1 := tokN_gt c3
            have g2 := tokN_le hit
            exact L11_is fu k0 x0 x1 x2 hs M f m (tokN s a) 0 (out ++ [tokAt s a]) (by omega) (by omega) (by omega) (by omega) (by omega) (by omega) (by simp only [List.length_append, List.length_cons, List.length_nil]; omega)
    · simp only [c1, decide_false, cond_false]
  termination_by N => N

theorem drop_at (l : List SV) (i : Nat) (h : i < l.length) : ∃ p, l.drop i = p :: l.drop (i + 1) ∧ l.getD i .dead = p := by
  refine ⟨l[i], List.drop_eq_getElem_cons h, ?_⟩
  rw [List.getD_eq_getElem?_getD, List.getElem?_eq_getElem h]; rfl

theorem L5_is (fu : Nat) (l : List SV) (hl : sumP l < 4294967281) (hfu : 4294967290 < fu) : ∀ (k i m : Nat) (n : Int) (out : List SV), i + k = l.length → k < m → 0 ≤ n → n + out.length + sumP (l.drop i) < 4294967281 → l.length < 4294967281 → (∀ j, sumP (l.drop j) ≤ sumP l) →
    f83_L5 fu m (l.length : Int) (i : Int) l n out = (match piecesT (l.drop i) n out with | some (n', out') => (bif decide (n' > 0) then tokBad l else some (some (SV.tup [SV.row 1, SV.int .i64 0], [(0, SObj.row 77 l), (1, SObj.row 88 out')]))) | none => tokBad l)
  | 0, i, m, n, out, hi, hm, hn, hb, hL, hS => by
    obtain ⟨m, rfl⟩ : ∃ m', m = m' + 1 := ⟨m - 1, by omega⟩
    have hd : l.drop i = [] := List.drop_of_length_le (by omega)
    have h1 : ¬ ((i : Int) < (l.length : Int)) := by omega
    rw [f83_L5_eq, hd]
    simp only [h1, decide_false, cond_false, piecesT]
    rfl
  | k + 1, i, m, n, out, hi, hm, hn, hb, hL, hS => by
    obtain ⟨m, rfl⟩ : ∃ m', m = m' + 1 := ⟨m - 1, by omega⟩
    obtain ⟨p, hd, hp⟩ := drop_at l i (by omega)
    have h1 : (i : Int) < (l.length : Int) := by omega
    have h2 : (0 : Int) ≤ (i : Int) := by omega
    have w1 : IntKind.wrap .i64 ((i : Int) + 1) = ((i + 1 : Nat) : Int) := by rw [wrap64 (by omega) (by omega)]; omega
    have hroom : room24 out = true := by unfold room24; exact decide_eq_true (by omega)
    rw [hd] at hb
    simp only [sumP] at hb
    rw [f83_L5_eq, hd]
    simp only [h1, h2, decide_true, Bool.and_self, cond_true, Int.toNat_natCast, hp, hroom, w1, piecesT]
    have e1 : asBool ((cellsOf p).getD 0 .dead) = litP p := rfl
    have e2 : asStr ((cellsOf p).getD 1 .dead) = strP p := rfl
    rw [e1, e2]
    cases hlit : litP p with
    | true =>
      simp only [cond_true]
      cases hw : wantB out 1 n with
      | false => rfl
      | true =>
        simp only [Bool.not_true, cond_false, cond_true]
        exact L5_is fu l hl hfu k (i + 1) m 0 _ (by omega) (by omega) (by omega) (by simp only [List.length_append, List.length_cons, List.length_nil]; omega) hL hS
    | false =>
      simp only [cond_false]
      have hs : (strP p).size < 4294967281 := by omega
      rw [L11_is fu m (l.length : Int) (i : Int) l hs (strP p).size ((strP p).size + 1) fu 0 n out (by omega) (by omega) (by omega) (by omega) (by omega) hn (by omega)]
      cases hq : pieceT (strP p) ((strP p).size + 1) 0 n out with
      | none => rfl
      | some r =>
        obtain ⟨n', out'⟩ := r
        simp only
        have := pieceT_size hs (strP p).size _ 0 n out n' out' (by omega) (by omega) (by omega) hn hq
        rw [w1]
        exact L5_is fu l hl hfu k (i + 1) m n' out' (by omega) (by omega) (by omega) (by omega) hL hS
end Sx

/-
  Layer 29: the program's Tokens, as a specification.
-/
set_option linter.unusedVariables false
namespace Sx
open Go Go.Proofs
set_option maxRecDepth 100000

theorem sumP_len : ∀ l : List SV, l.length ≤ sumP l
  | [] => Nat.le_refl _
  | p :: l => by have := sumP_len l; simp only [sumP, List.length_cons]; omega
theorem sumP_drop : ∀ (l : List SV) (j : Nat), sumP (l.drop j) ≤ sumP l
  | [], j => by simp
  | p :: l, 0 => Nat.le_refl _
  | p :: l, j + 1 => by have := sumP_drop l j; simp only [List.drop_succ_cons, sumP]; omega
noncomputable def toksB (l : List SV) : Bool := (toksP l).isSome
noncomputable def toksL (l : List SV) : List SV := (toksP l).getD []
noncomputable def k83 : List SV → Mem → Tr (SV × Mem)
  | [.row 0], [(0, .row 77 l)] => .br (okP l) (.br (toksB l) (.leaf (.tup [.row 1, .int .i64 0], [(0, .row 77 l), (1, .row 88 (toksL l))])) (.leaf (.tup [.snil, .int .i64 20], [(0, .row 77 l)]))) .no
  | _, _ => .no
theorem tokens_run (l : List SV) (h : sumP l < 4294967281) : evFun (f83_X [0]) 4294967300 Try.f83 (finW (tyOf Try.prog) [0] 1) [.row 0] [(0, .row 77 l)] [0] = (match toksP l with | some out => some (some (SV.tup [SV.row 1, SV.int .i64 0], [(0, SObj.row 77 l), (1, SObj.row 88 out)])) | none => tokBad l) := by
  have hl := sumP_len l
  rw [f83_eq]
  have := L5_is 4294967300 l h (by omega) l.length 0 4294967300 0 [] (by omega) (by omega) (by omega) (by simp; omega) (by omega) (sumP_drop l)
  rw [show ((0 : Nat) : Int) = 0 from rfl, List.drop_zero] at this
  rw [this]
  unfold toksP
  cases piecesT l 0 [] with
  | none => rfl
  | some r =>
    obtain ⟨n, out⟩ := r
    simp only
    cases decide (n > 0) <;> rfl
theorem s83_ok : SpecOk rE 83 (.wide (wideOf (tyOf Try.prog) k83)) := by
  refine wide_of_run rE_ok (fun sm => ⟨fx_ok lC2_ok sm f83_live, rfl⟩) (fn := Try.f83) (by kernel_rfl) (by decide) (by rfl) (fun args m x h => ?_)
  unfold k83 at h
  split at h
  · rename_i l
    simp only [pickA, cond_eq_ite] at h
    split at h
    · rename_i hc
      refine ⟨4294967300, ?_⟩
      show evFun (f83_X [0]) 4294967300 Try.f83 (finW (tyOf Try.prog) [0] 1) [.row 0] [(0, .row 77 l)] [0] = _
      rw [tokens_run l (of_decide_eq_true hc)]
      unfold toksB toksL at h
      cases ht : toksP l with
      | none =>
        rw [ht] at h
        simp at h
        subst h
        rfl
      | some out =>
        rw [ht] at h
        simp at h
        subst h
        rfl
    · cases h
  · cases h
end Sx

/-
  Layer 29: is a piece something?
-/
set_option linter.unusedVariables false
namespace Sx
open Go Go.Proofs
set_option maxRecDepth 100000
def someE (b : Bool) (s : ByteArray) : Bool := b || !(s.toList == ByteArray.toList ⟨#[]⟩)
def gP86 : List SV → Option (Bool × SV)
  | [.agg [.bool b, .str s]] => some (true, .bool (someE b s))
  | _ => none
theorem s86_ok : SpecOk rE 86 (.plain gP86) := by
  refine plain_of_run (fx_ok rLib_ok [] f86_live) (fn := Try.f86) (by kernel_rfl) (by decide) (by rfl) (fun args sv h => ?_)
  unfold gP86 at h
  split at h
  · rename_i b s
    simp only [Option.some.injEq, Prod.mk.injEq, true_and] at h
    subst h
    refine ⟨rfl, rfl, 0, ?_⟩
    show evFun f86_X 0 Try.f86 (frz f86_X.Ty Try.f86) [.agg [.bool b, .str s]] [] [] = _
    rw [f86_eq]
    unfold f86_T someE
    cases b <;> rfl
  · cases h
noncomputable def lD0 : List (Nat × Spec) := (86, .plain gP86) :: (90, .plain g90) :: lA1
theorem lD0_ok : SpecsOk rE (ofList lD0) := .cons s86_ok (.cons f90_ok lA1_ok)
end Sx

/-
  What the executor says of functions: the normal forms, each compared by the kernel. (Printed by a program.)
-/
set_option linter.unusedVariables false
namespace Sx
open Go Go.Proofs
set_option maxRecDepth 100000
/-- The slots that are needed at the loops' heads of 'slices.IndexFunc[[]hamper/api.Piece,hamper/api.Piece]'. -/
noncomputable def f94_live : Nat → List Nat × List (Nat × TypeId) := fun h => bif Nat.beq h 2 then ([0, 1, 7, 8], nilsOf (tyOf Try.prog) [(0, 71), (1, 122), (7, 3), (8, 3)]) else ([], [])
noncomputable def f94_X : Fx := ⟨tyOf Try.prog, ofList lD0, [], f94_live⟩
/-- The slots that are needed at the loops' heads of 'hamper/line.Tag'. -/
noncomputable def f84_live : Nat → List Nat × List (Nat × TypeId) := fun h => bif Nat.beq h 5 then ([3, 26, 27], nilsOf (tyOf Try.prog) [(3, 9), (26, 3), (27, 3)]) else ([], [])
noncomputable def f84_X : Fx := ⟨tyOf Try.prog, ofList lD0, [], f84_live⟩
def f94_st2 (x0 : List SV) (x1 : Int) (x2 : Int) : St := St.mk
  [SV.lst (77 : Nat) x0, SV.fn (Fn.func (86 : Nat)) [] [], SV.dead, SV.dead, SV.dead, SV.dead, SV.dead, SV.int IntKind.i64 x1, SV.int IntKind.i64 x2, SV.dead, SV.dead, SV.dead, SV.dead, SV.dead, SV.dead, SV.dead,
    SV.dead, SV.dead, SV.dead]
  [] []
noncomputable def f94_L2 (fu fm : Nat) (x0 : List SV) (x1 : Int) (x2 : Int) : Option (SV) := atLoop f94_X Try.f94 (frz f94_X.Ty Try.f94) fu [.r, .l, .r, .b] fm (f94_st2 x0 x1 x2)

theorem f94_L2_eq (fu fm : Nat) (x0 : List SV) (x1 : Int) (x2 : Int) : f94_L2 fu (fm + 1) x0 x1 x2 = bif decide (x2 < x1) then
  bif decide ((0 : Int) ≤ x2) && decide (x2 < (↑(List.length x0) : Int)) then
    bif someE (asBool (List.getD (cellsOf (List.getD x0 (Int.toNat x2) SV.dead)) (0 : Nat) SV.dead)) (asStr (List.getD (cellsOf (List.getD x0 (Int.toNat x2) SV.dead)) (1 : Nat) SV.dead)) then some (SV.int IntKind.i64 x2)
    else f94_L2 fu fm x0 x1 (IntKind.wrap IntKind.i64 (x2 + (1 : Int)))
  else none
  else some (SV.int IntKind.i64 (-1 : Int)) := by kernel_rfl

theorem f94_eq (fu : Nat) (l : List SV) : evFun f94_X fu Try.f94 (frz f94_X.Ty Try.f94) [.lst 77 l, .fn (.func 86) [] []] [] [] = f94_L2 fu fu l (↑(List.length l) : Int) (0 : Int) := by kernel_rfl

def f84_st5 (x0 : ByteArray) (x1 : Int) (x2 : Int) : St := St.mk
  [SV.dead, SV.dead, SV.dead, SV.str x0, SV.dead, SV.dead, SV.dead, SV.dead, SV.dead, SV.dead, SV.dead, SV.dead, SV.dead, SV.dead, SV.dead, SV.dead, SV.dead, SV.dead, SV.dead, SV.dead, SV.dead, SV.dead, SV.dead, SV.dead,
    SV.dead, SV.dead, SV.int IntKind.i64 x1, SV.int IntKind.i64 x2, SV.dead, SV.dead, SV.dead, SV.dead, SV.dead, SV.dead, SV.dead, SV.dead, SV.dead, SV.dead, SV.dead, SV.dead, SV.dead, SV.dead, SV.dead]
  [] []
noncomputable def f84_L5 (fu fm : Nat) (x0 : ByteArray) (x1 : Int) (x2 : Int) : Option (SV) := atLoop f84_X Try.f84 (frz f84_X.Ty Try.f84) fu [.r, .r, .r, .l, .r, .b] fm (f84_st5 x0 x1 x2)

theorem f84_L5_eq (fu fm : Nat) (x0 : ByteArray) (x1 : Int) (x2 : Int) : f84_L5 fu (fm + 1) x0 x1 x2 = bif decide (x2 < x1) then
  bif decide ((0 : Int) ≤ x2) && decide (x2 < (↑(ByteArray.size x0) : Int)) then
    bif !signB (bAt x0 x2) then some (SV.str (ByteArray.mk #[]))
    else
      bif decide ((0 : Int) ≤ x2) && decide (x2 < (↑(ByteArray.size x0) : Int)) then bif bAt x0 x2 == (91 : Int) then some (SV.str (ByteArray.mk #[])) else f84_L5 fu fm x0 x1 (IntKind.wrap IntKind.i64 (x2 + (1 : Int)))
      else none
  else none
  else some (SV.str x0) := by kernel_rfl

theorem f84_eq (fu : Nat) (l : List SV) : evFun f84_X fu Try.f84 (frz f84_X.Ty Try.f84) [.lst 77 l] [] [] = bif (↑(List.length l) : Int) == (0 : Int) then some (SV.str (ByteArray.mk #[]))
  else
  bif decide ((0 : Int) < (↑(List.length l) : Int)) then
    bif asBool (List.getD (cellsOf (List.getD l (0 : Nat) SV.dead)) (0 : Nat) SV.dead) then some (SV.str (ByteArray.mk #[]))
    else
      bif decide ((0 : Int) < (↑(List.length l) : Int)) then
        bif decide (ByteArray.size (asStr (List.getD (cellsOf (List.getD l (0 : Nat) SV.dead)) (1 : Nat) SV.dead)) < (4294967281 : Nat)) then
          f84_L5 fu fu (ByteArray.mk (List.toArray (Lib.cut (asStr (List.getD (cellsOf (List.getD l (0 : Nat) SV.dead)) (1 : Nat) SV.dead)).data.toList (ByteArray.mk #[(32 : UInt8)]).data.toList).fst))
            (↑(ByteArray.size (ByteArray.mk (List.toArray (Lib.cut (asStr (List.getD (cellsOf (List.getD l (0 : Nat) SV.dead)) (1 : Nat) SV.dead)).data.toList (ByteArray.mk #[(32 : UInt8)]).data.toList).fst))) : Int)
            (0 : Int)
        else none
      else none
  else none := by kernel_rfl

end Sx

/-
  Layer 29: is any piece something?
-/
set_option linter.unusedVariables false
namespace Sx
open Go Go.Proofs
set_option maxRecDepth 100000
def findE : List SV → Nat → Int
  | [], _ => -1
  | p :: r, i => bif someE (litP p) (strP p) then (i : Int) else findE r (i + 1)
theorem L94_is (fu : Nat) (l : List SV) (hL : l.length < 4294967281) : ∀ k i m, i + k = l.length → k < m → f94_L2 fu m l (l.length : Int) (i : Int) = some (.int .i64 (findE (l.drop i) i))
  | 0, i, m, hi, hm => by
    obtain ⟨m, rfl⟩ : ∃ m', m = m' + 1 := ⟨m - 1, by omega⟩
    have hd : l.drop i = [] := List.drop_of_length_le (by omega)
    have h1 : ¬ ((i : Int) < (l.length : Int)) := by omega
    rw [f94_L2_eq, hd]
    simp only [h1, decide_false, cond_false, findE]
  | k + 1, i, m, hi, hm => by
    obtain ⟨m, rfl⟩ : ∃ m', m = m' + 1 := ⟨m - 1, by omega⟩
    obtain ⟨p, hd, hp⟩ := drop_at l i (by omega)
    have h1 : (i : Int) < (l.length : Int) := by omega
    have h2 : (0 : Int) ≤ (i : Int) := by omega
    have w1 : IntKind.wrap .i64 ((i : Int) + 1) = ((i + 1 : Nat) : Int) := by rw [wrap64 (by omega) (by omega)]; omega
    rw [f94_L2_eq, hd]
    simp only [h1, h2, decide_true, Bool.and_self, cond_true, Int.toNat_natCast, hp, w1, findE]
    have e1 : asBool ((cellsOf p).getD 0 .dead) = litP p := rfl
    have e2 : asStr ((cellsOf p).getD 1 .dead) = strP p := rfl
    rw [e1, e2]
    cases someE (litP p) (strP p) with
    | true => rfl
    | false => exact L94_is fu l hL k (i + 1) m (by omega) (by omega)
def gIdx : List SV → Option (Bool × SV)
  | [.lst 77 l, .fn (.func 86) [] []] => some (decide (l.length < 4294967281), .int .i64 (findE l 0))
  | _ => none
theorem s94_ok : SpecOk rE 94 (.look (lookOf (tyOf Try.prog) gIdx)) := by
  refine look_of_run (fx_ok lD0_ok [] f94_live) (fn := Try.f94) (by kernel_rfl) (by decide) (by rfl) (fun args sv h => ?_)
  unfold gIdx at h
  split at h
  · rename_i l
    simp only [Option.some.injEq, Prod.mk.injEq, decide_eq_true_eq] at h
    obtain ⟨hL, rfl⟩ := h
    refine ⟨rfl, rfl, l.length + 1, ?_⟩
    show evFun f94_X (l.length + 1) Try.f94 (frz f94_X.Ty Try.f94) [.lst 77 l, .fn (.func 86) [] []] [] [] = _
    have := L94_is (l.length + 1) l hL l.length 0 (l.length + 1) (by omega) (by omega)
    rw [show ((0 : Nat) : Int) = 0 from rfl, List.drop_zero] at this
    rw [f94_eq, this]
  · cases h
/-- Is any of the pieces something? -/
def someP : List SV → Bool
  | [] => false
  | p :: r => someE (litP p) (strP p) || someP r
theorem findE_some : ∀ (l : List SV) (i : Nat), decide (findE l i ≥ 0) = someP l
  | [], i => rfl
  | p :: r, i => by
    have ih := findE_some r (i + 1)
    simp only [findE, someP]
    by_cases h : someE (litP p) (strP p) = true
    · simp [h]
    · have h := Bool.eq_false_iff.2 h
      simp only [h, cond_false, Bool.false_or]
      exact ih
noncomputable def lD1 : List (Nat × Spec) := (94, .look (lookOf (tyOf Try.prog) gIdx)) :: lD0
theorem lD1_ok : SpecsOk rE (ofList lD1) := .cons s94_ok lD0_ok
end Sx

/-
  What the executor says of functions: the normal forms, each compared by the kernel. (Printed by a program.)
-/
set_option linter.unusedVariables false
namespace Sx
open Go Go.Proofs
set_option maxRecDepth 100000
def gNum0 : List SV → Option (Bool × SV)
  | [.str s, .str t] => some (true, .bool (s.size == t.size))
  | _ => none
set_option maxRecDepth 100000
/-- The slots that are needed at the loops' heads of 'slices.ContainsFunc[[]hamper/api.Piece,hamper/api.Piece]'. -/
noncomputable def f85_live : Nat → List Nat × List (Nat × TypeId) := fun h => ([], [])
noncomputable def f85_X : Fx := ⟨tyOf Try.prog, ofList lD1, [], f85_live⟩
def f85_T (l : List SV) : Tr SV := Tr.br (decide (List.length l < (4294967281 : Nat))) (Tr.leaf (SV.bool (decide (findE l (0 : Nat) ≥ (0 : Int))))) Tr.no
theorem f85_eq (fu : Nat) (l : List SV) : evFun f85_X fu Try.f85 (frz f85_X.Ty Try.f85) [.lst 77 l, .fn (.func 86) [] []] [] [] = (f85_T l).opt1 := by kernel_rfl

def g85 : List SV → Option (Bool × SV)
  | [.lst 77 l, .fn (.func 86) [] []] => gOf (f85_T l)
  | _ => none
theorem f85_ok : SpecOk rE 85 (.look (lookOf (tyOf Try.prog) g85)) :=
  look_of_run (fx_ok lD1_ok [] f85_live) (fn := Try.f85) (by kernel_rfl) (by decide) (by rfl) (plain_of_g (f := 85) (fx_ok lD1_ok [] f85_live) (fn := Try.f85) (by kernel_rfl) (by decide) (by rfl) (fun args => by
    unfold g85
    split
    · exact .inr ⟨0, _, rfl, rfl, f85_eq 0 _⟩
    · exact .inl rfl))

end Sx

/-
  Layer 29: the atom with which pieces begin, the program's.
-/
set_option linter.unusedVariables false
namespace Sx
open Go Go.Proofs
set_option maxRecDepth 100000

theorem cut_one (c : UInt8) : ∀ l : List UInt8, (Lib.cut l [c]).1 = l.takeWhile (· != c)
  | [] => rfl
  | b :: l => by
    have ih := cut_one c l
    have hge := Lib.index_ge l [c]
    unfold Lib.cut at ih ⊢
    simp only [Lib.index, List.isPrefixOf, List.takeWhile]
    by_cases h : c = b
    · subst h; simp
    · have hcb : (c == b) = false := by simpa using h
      have hbc : (b != c) = true := by simp only [bne_iff_ne, ne_eq]; exact fun q => h q.symm
      simp only [hcb, Bool.false_and, Bool.false_eq_true, if_false, hbc]
      by_cases hn : Lib.index l [c] = -1
      · simp only [hn] at ih
        simp [hn] at ih ⊢
        exact ih
      · have h0 : 0 ≤ Lib.index l [c] := by omega
        have hb : (Lib.index l [c] == -1) = false := by simpa using hn
        simp only [h0, if_true] at ih
        have h1 : (0 : Int) ≤ Lib.index l [c] + 1 := by omega
        simp only [hb, Bool.false_eq_true, if_false, h1, if_true]
        have : (Lib.index l [c] + 1).toNat = (Lib.index l [c]).toNat + 1 := by omega
        rw [this, List.take_succ_cons, ih]
def tagH (s : ByteArray) : List UInt8 := s.data.toList.takeWhile (· != 32)
def tagC (b : UInt8) : Bool := sgn b && b != 91
/-- The atom with which pieces begin. -/
def tagP : List SV → ByteArray
  | [] => ⟨#[]⟩
  | p :: _ => bif litP p then ⟨#[]⟩ else bif (tagH (strP p)).all tagC then ⟨(tagH (strP p)).toArray⟩ else ⟨#[]⟩
theorem L84_is (fu : Nat) (s : ByteArray) (hs : s.size < 4294967281) : ∀ k i m, i + k = s.size → k < m → f84_L5 fu m s (s.size : Int) (i : Int) = some (.str (bif (s.data.toList.drop i).all tagC then s else ⟨#[]⟩))
  | 0, i, m, hi, hm => by
    obtain ⟨m, rfl⟩ : ∃ m', m = m' + 1 := ⟨m - 1, by omega⟩
    have hd : s.data.toList.drop i = [] := List.drop_of_length_le (by simp; omega)
    have h1 : ¬ ((i : Int) < (s.size : Int)) := by omega
    rw [f84_L5_eq, hd]
    simp only [h1, decide_false, cond_false, List.all_nil, cond_true]
  | k + 1, i, m, hi, hm => by
    obtain ⟨m, rfl⟩ : ∃ m', m = m' + 1 := ⟨m - 1, by omega⟩
    obtain ⟨b, hb, hd, hat⟩ := drop_cons s i (by omega)
    have h1 : (i : Int) < (s.size : Int) := by omega
    have h2 : (0 : Int) ≤ (i : Int) := by omega
    have w1 : IntKind.wrap .i64 ((i : Int) + 1) = ((i + 1 : Nat) : Int) := by rw [wrap64 (by omega) (by omega)]; omega
    have e91 := beqI b 91 (by decide)
    simp only [show ((91 : Nat) : Int) = 91 from rfl, show (91 : Nat).toUInt8 = (91 : UInt8) from rfl] at e91
    have ih := L84_is fu s hs k (i + 1) m (by omega) (by omega)
    rw [f84_L5_eq, hat, hd, w1]
    simp only [h1, h2, decide_true, Bool.and_self, cond_true, e91, List.all_cons, tagC]
    have e : signB (b.toNat : Int) = sgn b := rfl
    rw [e, ih]
    cases sgn b <;> cases h : (b == 91) <;> simp [bne, h, tagC]
def gTagP : List SV → Option (Bool × SV)
  | [.lst 77 l] => some (okP l, .str (tagP l))
  | _ => none
theorem s84_ok : SpecOk rE 84 (.look (lookOf (tyOf Try.prog) gTagP)) := by
  refine look_of_run (fx_ok lD0_ok [] f84_live) (fn := Try.f84) (by kernel_rfl) (by decide) (by rfl) (fun args sv h => ?_)
  unfold gTagP at h
  split at h
  · rename_i l
    simp only [Option.some.injEq, Prod.mk.injEq] at h
    obtain ⟨hL, rfl⟩ := h
    refine ⟨rfl, rfl, 4294967290, ?_⟩
    show evFun f84_X 4294967290 Try.f84 (frz f84_X.Ty Try.f84) [.lst 77 l] [] [] = _
    have hL : sumP l < 4294967281 := of_decide_eq_true hL
    rw [f84_eq]
    cases l with
    | nil => rfl
    | cons p r =>
      have hlen : (((p :: r).length : Int) == 0) = false := by rw [beq_eq_false_iff_ne]; simp only [List.length_cons]; omega
      have hlt : decide ((0 : Int) < ((p :: r).length : Int)) = true := decide_eq_true (by simp only [List.length_cons]; omega)
      have hg : List.getD (p :: r) 0 SV.dead = p := rfl
      simp only [sumP] at hL
      have hsz : decide ((strP p).size < 4294967281) = true := decide_eq_true (by omega)
      have e1 : asBool ((cellsOf p).getD 0 .dead) = litP p := rfl
      have e2 : asStr ((cellsOf p).getD 1 .dead) = strP p := rfl
      simp only [hlen, hlt, hg, e1, e2, hsz, cond_false, cond_true, tagP]
      cases litP p with
      | true => rfl
      | false =>
        simp only [cond_false]
        have hc : (Lib.cut (strP p).data.toList (ByteArray.mk #[(32 : UInt8)]).data.toList).fst = tagH (strP p) := cut_one 32 _
        rw [hc]
        have hle : (tagH (strP p)).length ≤ (strP p).size := by
          have := (List.takeWhile_prefix (p := (· != (32 : UInt8))) (l := (strP p).data.toList)).length_le
          simpa [tagH] using this
        have hs2 : (ByteArray.mk (tagH (strP p)).toArray).size = (tagH (strP p)).length := by simp [ByteArray.size]
        have := L84_is 4294967290 ⟨(tagH (strP p)).toArray⟩ (by rw [hs2]; omega) (tagH (strP p)).length 0 4294967290 (by rw [hs2]; omega) (by omega)
        rw [show ((0 : Nat) : Int) = 0 from rfl, List.drop_zero] at this
        rw [this]
  · cases h
end Sx
