/-
  What the executor says of functions: the normal forms, each compared by the kernel. (Printed by a program.)
-/
import Derived.Test.YtloejipleojnmaaGreatDoorPa
import Derived.KernelRfl
import Derived.Test.YtloejipleojnmaaGreatDoorEc
set_option linter.unusedVariables false
set_option linter.unusedSimpArgs false
set_option linter.unusedVariables false
namespace Sx
open Go Go.Proofs
set_option maxRecDepth 100000
/-- The slots that are needed at the loops' heads of 'hamper/hamperlaw20.Few'. -/
noncomputable def f5_live : Nat → List Nat × List (Nat × TypeId) := fun h => ([], [])
noncomputable def f5_X : Fx := ⟨tyOf Tryz.prog, ofList zLib, [], f5_live⟩
/-- The slots that are needed at the loops' heads of 'hamper/part.Kid'. -/
noncomputable def f7_live : Nat → List Nat × List (Nat × TypeId) := fun h => bif Nat.beq h 2 then ([1, 2, 9, 10, 11], nilsOf (tyOf Tryz.prog) [(1, 3), (2, 3), (9, 31), (10, 3), (11, 3)]) else ([], [])
noncomputable def f7_X : Fx := ⟨tyOf Tryz.prog, ofList zLib, [], f7_live⟩
/-- The slots that are needed at the loops' heads of 'hamper/hamperref20.Kid'. -/
noncomputable def f8_live : Nat → List Nat × List (Nat × TypeId) := fun h => bif Nat.beq h 3 then ([0, 1, 2, 7, 8], nilsOf (tyOf Tryz.prog) [(0, 31), (1, 3), (2, 3), (7, 58), (8, 3)]) else ([], [])
noncomputable def f8_X : Fx := ⟨tyOf Tryz.prog, ofList zLib, [], f8_live⟩
/-- The slots that are needed at the loops' heads of 'bytes.Count'. -/
noncomputable def f39_live : Nat → List Nat × List (Nat × TypeId) := fun h => bif Nat.beq h 6 then ([0, 1, 5], nilsOf (tyOf Tryz.prog) [(0, 22), (1, 22), (5, 3)]) else ([], [])
noncomputable def f39_X : Fx := ⟨tyOf Tryz.prog, ofList zLib, [], f39_live⟩
/-- The slots that are needed at the loops' heads of 'hamper/hamperref17.Cut'. -/
noncomputable def f62_live : Nat → List Nat × List (Nat × TypeId) := fun h => bif Nat.beq h 4 then ([0, 3, 4, 5], nilsOf (tyOf Tryz.prog) [(0, 9), (3, 39), (4, 3), (5, 3)]) else ([], [])
noncomputable def f62_X : Fx := ⟨tyOf Tryz.prog, ofList zLib, [], f62_live⟩
/-- The slots that are needed at the loops' heads of 'hamper/hamperref17.Empty'. -/
noncomputable def f63_live : Nat → List Nat × List (Nat × TypeId) := fun h => ([], [])
noncomputable def f63_X : Fx := ⟨tyOf Tryz.prog, ofList zLib, [], f63_live⟩
/-- The slots that are needed at the loops' heads of 'hamper/hamperref17.Blank'. -/
noncomputable def f106_live : Nat → List Nat × List (Nat × TypeId) := fun h => ([], [])
noncomputable def f106_X : Fx := ⟨tyOf Tryz.prog, ofList zLib, [], f106_live⟩
/-- The slots that are needed at the loops' heads of 'hamper/hamperref16.small'. -/
noncomputable def f108_live : Nat → List Nat × List (Nat × TypeId) := fun h => ([], [])
noncomputable def f108_X : Fx := ⟨tyOf Tryz.prog, ofList zLib, [], f108_live⟩
/-- The slots that are needed at the loops' heads of 'hamper/hamperref19.Token'. -/
noncomputable def f70_live : Nat → List Nat × List (Nat × TypeId) := fun h => bif Nat.beq h 2 then ([0, 3], nilsOf (tyOf Tryz.prog) [(0, 9), (3, 3)]) else ([], [])
noncomputable def f70_X : Fx := ⟨tyOf Tryz.prog, ofList zLib, [], f70_live⟩
/-- The slots that are needed at the loops' heads of 'hamper/hamperref19.small'. -/
noncomputable def f71_live : Nat → List Nat × List (Nat × TypeId) := fun h => bif Nat.beq h 3 then ([0, 3, 4], nilsOf (tyOf Tryz.prog) [(0, 9), (3, 9), (4, 3)]) else ([], [])
noncomputable def f71_X : Fx := ⟨tyOf Tryz.prog, ofList zLib, [], f71_live⟩
/-- The slots that are needed at the loops' heads of 'hamper/hamperref19.left'. -/
noncomputable def f110_live : Nat → List Nat × List (Nat × TypeId) := fun h => bif Nat.beq h 1 then ([0], nilsOf (tyOf Tryz.prog) [(0, 9)]) else ([], [])
noncomputable def f110_X : Fx := ⟨tyOf Tryz.prog, ofList zLib, [], f110_live⟩
/-- The slots that are needed at the loops' heads of 'hamper/hamperref19.Pieces'. -/
noncomputable def f67_live : Nat → List Nat × List (Nat × TypeId) := fun h => bif Nat.beq h 4 then ([0, 3, 4, 5], nilsOf (tyOf Tryz.prog) [(0, 9), (3, 39), (4, 4), (5, 3)]) else ([], [])
noncomputable def f67_X : Fx := ⟨tyOf Tryz.prog, ofList zLib, [], f67_live⟩
/-- The slots that are needed at the loops' heads of 'hamper/hamperref19.at'. -/
noncomputable def f69_live : Nat → List Nat × List (Nat × TypeId) := fun h => bif Nat.beq h 2 then ([0, 1, 5], nilsOf (tyOf Tryz.prog) [(0, 9), (1, 5), (5, 3)]) else ([], [])
noncomputable def f69_X : Fx := ⟨tyOf Tryz.prog, ofList zLib, [], f69_live⟩
/-- The slots that are needed at the loops' heads of 'hamper/hamperref20.bare'. -/
noncomputable def f74_live : Nat → List Nat × List (Nat × TypeId) := fun h => ([], [])
noncomputable def f74_X : Fx := ⟨tyOf Tryz.prog, ofList zLib, [], f74_live⟩
noncomputable def f5_T (b : List SV) : Tr SV := Tr.br (decide ((↑(List.length b) : Int) > (1200 : Int))) (Tr.br (decide ((1200 : Int) ≤ (↑(List.length b) : Int)) && true) (Tr.leaf (SV.lst (5 : Nat) (List.drop (0 : Nat) (List.take (1200 : Nat) b)))) Tr.no)
  (Tr.leaf (SV.lst (5 : Nat) b))
theorem f5_eq (fu : Nat) (b : List SV) : evFun f5_X fu Tryz.f5 (frz f5_X.Ty Tryz.f5) [.lst 5 b] [] [] = (f5_T b).opt1 := by kernel_rfl

def f7_st2 (x0 : Int) (x1 : Int) (x2 : List SV) (x3 : Int) (x4 : Int) : St := St.mk
  [SV.dead, SV.int IntKind.i64 x0, SV.int IntKind.i64 x1, SV.dead, SV.dead, SV.dead, SV.dead, SV.dead, SV.dead, SV.lst (27 : Nat) x2, SV.int IntKind.i64 x3, SV.int IntKind.i64 x4, SV.dead, SV.dead, SV.dead, SV.dead,
    SV.dead, SV.dead, SV.dead, SV.dead, SV.dead, SV.dead, SV.dead, SV.dead, SV.dead, SV.dead]
  [] []
noncomputable def f7_L2 (fu fm : Nat) (x0 : Int) (x1 : Int) (x2 : List SV) (x3 : Int) (x4 : Int) : Option (SV) := atLoop f7_X Tryz.f7 (frz f7_X.Ty Tryz.f7) fu [.r, .l, .r, .b] fm (f7_st2 x0 x1 x2 x3 x4)

theorem f7_L2_eq (fu fm : Nat) (x0 : Int) (x1 : Int) (x2 : List SV) (x3 : Int) (x4 : Int) : f7_L2 fu (fm + 1) x0 x1 x2 x3 x4 = bif decide (x4 < x3) then
  bif decide ((0 : Int) ≤ x4) && decide (x4 < (↑(List.length x2) : Int)) then
    bif asInt (List.getD (cellsOf (List.getD x2 (Int.toNat x4) SV.dead)) (7 : Nat) SV.dead) == x0 then
      bif IntKind.wrap IntKind.i64 (x1 - (1 : Int)) == (0 : Int) then some (SV.int IntKind.i64 x4) else f7_L2 fu fm x0 (IntKind.wrap IntKind.i64 (x1 - (1 : Int))) x2 x3 (IntKind.wrap IntKind.i64 (x4 + (1 : Int)))
    else f7_L2 fu fm x0 x1 x2 x3 (IntKind.wrap IntKind.i64 (x4 + (1 : Int)))
  else none
  else some (SV.int IntKind.i64 (-1 : Int)) := by kernel_rfl

theorem f7_eq (fu : Nat) (l : List SV) (i : Int) (n : Int) : evFun f7_X fu Tryz.f7 (frz f7_X.Ty Tryz.f7) [.lst 27 l, .int .i64 i, .int .i64 n] [] [] = f7_L2 fu fu i n l (↑(List.length l) : Int) (0 : Int) := by kernel_rfl

def f8_st3 (x0 : List SV) (x1 : Int) (x2 : Int) (x3 : Int) (x4 : List SV) : St := St.mk
  [SV.lst (27 : Nat) x0, SV.int IntKind.i64 x1, SV.int IntKind.i64 x2, SV.dead, SV.dead, SV.dead, SV.dead, SV.row (100 : Nat), SV.int IntKind.i64 x3, SV.dead, SV.dead, SV.dead, SV.dead, SV.dead, SV.dead, SV.dead,
    SV.dead, SV.dead, SV.dead, SV.dead, SV.dead, SV.dead, SV.dead, SV.dead, SV.dead, SV.dead, SV.dead, SV.dead, SV.dead, SV.dead, SV.dead, SV.dead, SV.dead, SV.dead, SV.dead, SV.dead, SV.dead, SV.dead, SV.dead]
  [((100 : Nat), SObj.row (3 : Nat) x4)] [(100 : Nat)]
noncomputable def f8_L3 (fu fm : Nat) (x0 : List SV) (x1 : Int) (x2 : Int) (x3 : Int) (x4 : List SV) : Option (SV) := atLoop f8_X Tryz.f8 (frz f8_X.Ty Tryz.f8) fu [.r, .r, .l, .r, .b] fm (f8_st3 x0 x1 x2 x3 x4)

theorem f8_L3_eq (fu fm : Nat) (x0 : List SV) (x1 : Int) (x2 : Int) (x3 : Int) (x4 : List SV) : f8_L3 fu (fm + 1) x0 x1 x2 x3 x4 = bif decide (x3 < (↑(List.length x0) : Int)) then
  bif decide ((0 : Int) ≤ x3) && decide (x3 < (↑(List.length x0) : Int)) then
    bif asInt (List.getD (cellsOf (List.getD x0 (Int.toNat x3) SV.dead)) (7 : Nat) SV.dead) == x1 then
      bif decide ((List.length x4 + (1 : Nat)) * (8 : Nat) ≤ (140737488355328 : Nat)) && decide (List.length x4 + (1 : Nat) ≤ (9223372036854775807 : Nat)) then
        f8_L3 fu fm x0 x1 x2 (IntKind.wrap IntKind.i64 (x3 + (1 : Int))) (x4 ++ [SV.int IntKind.i64 x3])
      else none
    else f8_L3 fu fm x0 x1 x2 (IntKind.wrap IntKind.i64 (x3 + (1 : Int))) x4
  else none
  else
  bif decide (x2 < (1 : Int)) then some (SV.int IntKind.i64 (-1 : Int))
  else
    bif decide (x2 > (↑(List.length x4) : Int)) then some (SV.int IntKind.i64 (-1 : Int))
    else
      bif decide ((0 : Int) ≤ IntKind.wrap IntKind.i64 (x2 - (1 : Int))) && decide (IntKind.wrap IntKind.i64 (x2 - (1 : Int)) < (↑(List.length x4) : Int)) then
        some (SV.int IntKind.i64 (asInt (List.getD (cellsOf (List.getD x4 (Int.toNat (IntKind.wrap IntKind.i64 (x2 - (1 : Int)))) SV.dead)) (0 : Nat) SV.dead)))
      else none := by kernel_rfl

theorem f8_eq (fu : Nat) (l : List SV) (i : Int) (n : Int) : evFun f8_X fu Tryz.f8 (frz f8_X.Ty Tryz.f8) [.lst 27 l, .int .i64 i, .int .i64 n] [] [] = f8_L3 fu fu l i n (0 : Int) [] := by kernel_rfl

noncomputable def f39_T (b : List SV) : Tr SV := Tr.leaf (SV.int IntKind.i64 (↑(Lib.countByte (octsOf b) (Nat.toUInt8 (10 : Nat))) : Int))
theorem f39_eq (fu : Nat) (b : List SV) : evFun f39_X fu Tryz.f39 (frz f39_X.Ty Tryz.f39) [.lst 5 b, .lst 5 [.int .u8 10]] [] [] = (f39_T b).opt1 := by kernel_rfl

def f62_st4 (x0 : ByteArray) (x1 : Int) (x2 : Int) (x3 : List SV) : St := St.mk
  [SV.str x0, SV.dead, SV.dead, SV.row (100 : Nat), SV.int IntKind.i64 x1, SV.int IntKind.i64 x2, SV.dead, SV.dead, SV.dead, SV.dead, SV.dead, SV.dead, SV.dead, SV.dead, SV.dead, SV.dead, SV.dead, SV.dead, SV.dead,
    SV.dead, SV.dead, SV.dead, SV.dead, SV.dead, SV.dead, SV.dead, SV.dead, SV.dead, SV.dead, SV.dead, SV.dead, SV.dead, SV.dead, SV.dead, SV.dead, SV.dead, SV.dead]
  [((100 : Nat), SObj.row (9 : Nat) x3)] [(100 : Nat)]
noncomputable def f62_L4 (fu fm : Nat) (x0 : ByteArray) (x1 : Int) (x2 : Int) (x3 : List SV) : Option (SV) := atLoop f62_X Tryz.f62 (frz f62_X.Ty Tryz.f62) fu [.r, .r, .r, .l, .r, .b] fm (f62_st4 x0 x1 x2 x3)

theorem f62_L4_eq (fu fm : Nat) (x0 : ByteArray) (x1 : Int) (x2 : Int) (x3 : List SV) : f62_L4 fu (fm + 1) x0 x1 x2 x3 = bif decide (x2 < (↑(ByteArray.size x0) : Int)) then
  bif decide ((0 : Int) ≤ x2) && decide (x2 < (↑(ByteArray.size x0) : Int)) then
    bif bAt x0 x2 == (10 : Int) then
      bif
          decide ((0 : Int) ≤ IntKind.wrap IntKind.i64 (x2 + (1 : Int))) && decide (IntKind.wrap IntKind.i64 (x2 + (1 : Int)) ≤ (↑(ByteArray.size x0) : Int)) &&
            (decide ((0 : Int) ≤ x1) && decide (x1 ≤ IntKind.wrap IntKind.i64 (x2 + (1 : Int)))) then
        bif decide ((List.length x3 + (1 : Nat)) * (16 : Nat) ≤ (140737488355328 : Nat)) && decide (List.length x3 + (1 : Nat) ≤ (9223372036854775807 : Nat)) then
          f62_L4 fu fm x0 (IntKind.wrap IntKind.i64 (x2 + (1 : Int))) (IntKind.wrap IntKind.i64 (x2 + (1 : Int)))
            (x3 ++ [SV.str (ByteArray.extract x0 (Int.toNat x1) (Int.toNat (IntKind.wrap IntKind.i64 (x2 + (1 : Int)))))])
        else none
      else none
    else f62_L4 fu fm x0 x1 (IntKind.wrap IntKind.i64 (x2 + (1 : Int))) x3
  else none
  else
  bif decide (x1 < (↑(ByteArray.size x0) : Int)) then
    bif decide ((0 : Int) ≤ x1) && decide (x1 ≤ (↑(ByteArray.size x0) : Int)) then
      bif decide ((List.length x3 + (1 : Nat)) * (16 : Nat) ≤ (140737488355328 : Nat)) && decide (List.length x3 + (1 : Nat) ≤ (9223372036854775807 : Nat)) then
        some (SV.lst (9 : Nat) (x3 ++ [SV.str (ByteArray.extract x0 (Int.toNat x1) (Int.toNat (↑(ByteArray.size x0) : Int)))]))
      else none
    else none
  else some (SV.lst (9 : Nat) x3) := by kernel_rfl

theorem f62_eq (fu : Nat) (s : ByteArray) : evFun f62_X fu Tryz.f62 (frz f62_X.Ty Tryz.f62) [.str s] [] [] = f62_L4 fu fu s (0 : Int) (0 : Int) [] := by kernel_rfl

noncomputable def f63_T (s : ByteArray) : Tr SV := Tr.br (ByteArray.toList s == ByteArray.toList (ByteArray.mk #[(10 : UInt8)])) (Tr.leaf (SV.bool true)) (Tr.leaf (SV.bool (ByteArray.toList s == ByteArray.toList (ByteArray.mk #[(13 : UInt8), (10 : UInt8)]))))
theorem f63_eq (fu : Nat) (s : ByteArray) : evFun f63_X fu Tryz.f63 (frz f63_X.Ty Tryz.f63) [.str s] [] [] = (f63_T s).opt1 := by kernel_rfl

noncomputable def f106_T (c : Int) : Tr SV := Tr.br (c == (32 : Int)) (Tr.leaf (SV.bool true)) (Tr.leaf (SV.bool (c == (9 : Int))))
theorem f106_eq (fu : Nat) (c : Int) : evFun f106_X fu Tryz.f106 (frz f106_X.Ty Tryz.f106) [.int .u8 c] [] [] = (f106_T c).opt1 := by kernel_rfl

noncomputable def f108_T (c : Int) : Tr SV := Tr.br (decide ((65 : Int) ≤ c)) (Tr.br (decide (c ≤ (90 : Int))) (Tr.leaf (SV.int IntKind.u8 (IntKind.wrap IntKind.u8 (c + (32 : Int))))) (Tr.leaf (SV.int IntKind.u8 c))) (Tr.leaf (SV.int IntKind.u8 c))
theorem f108_eq (fu : Nat) (c : Int) : evFun f108_X fu Tryz.f108 (frz f108_X.Ty Tryz.f108) [.int .u8 c] [] [] = (f108_T c).opt1 := by kernel_rfl

def f70_st2 (x0 : ByteArray) (x1 : Int) : St := St.mk
  [SV.str x0, SV.dead, SV.dead, SV.int IntKind.i64 x1, SV.dead, SV.dead, SV.dead, SV.dead, SV.dead, SV.dead, SV.dead, SV.dead, SV.dead, SV.dead, SV.dead, SV.dead, SV.dead, SV.dead, SV.dead, SV.dead, SV.dead, SV.dead,
    SV.dead, SV.dead, SV.dead, SV.dead, SV.dead, SV.dead, SV.dead, SV.dead, SV.dead, SV.dead, SV.dead, SV.dead, SV.dead, SV.dead, SV.dead, SV.dead, SV.dead, SV.dead]
  [] []
noncomputable def f70_L2 (fu fm : Nat) (x0 : ByteArray) (x1 : Int) : Option (SV) := atLoop f70_X Tryz.f70 (frz f70_X.Ty Tryz.f70) fu [.r, .l, .r, .b] fm (f70_st2 x0 x1)

theorem f70_L2_eq (fu fm : Nat) (x0 : ByteArray) (x1 : Int) : f70_L2 fu (fm + 1) x0 x1 = bif decide (x1 < (↑(ByteArray.size x0) : Int)) then
  bif decide ((0 : Int) ≤ x1) && decide (x1 < (↑(ByteArray.size x0) : Int)) then
    bif decide (bAt x0 x1 ≤ (32 : Int)) then some (SV.bool false)
    else
      bif decide (bAt x0 x1 ≥ (127 : Int)) then some (SV.bool false)
      else
        bif bAt x0 x1 == (40 : Int) then some (SV.bool false)
        else
          bif bAt x0 x1 == (41 : Int) then some (SV.bool false)
          else
            bif bAt x0 x1 == (60 : Int) then some (SV.bool false)
            else
              bif bAt x0 x1 == (62 : Int) then some (SV.bool false)
              else
                bif bAt x0 x1 == (64 : Int) then some (SV.bool false)
                else
                  bif bAt x0 x1 == (44 : Int) then some (SV.bool false)
                  else
                    bif bAt x0 x1 == (59 : Int) then some (SV.bool false)
                    else
                      bif bAt x0 x1 == (58 : Int) then some (SV.bool false)
                      else
                        bif bAt x0 x1 == (92 : Int) then some (SV.bool false)
                        else
                          bif bAt x0 x1 == (34 : Int) then some (SV.bool false)
                          else
                            bif bAt x0 x1 == (47 : Int) then some (SV.bool false)
                            else
                              bif bAt x0 x1 == (91 : Int) then some (SV.bool false)
                              else
                                bif bAt x0 x1 == (93 : Int) then some (SV.bool false)
                                else bif bAt x0 x1 == (63 : Int) then some (SV.bool false) else bif bAt x0 x1 == (61 : Int) then some (SV.bool false) else f70_L2 fu fm x0 (IntKind.wrap IntKind.i64 (x1 + (1 : Int)))
  else none
  else some (SV.bool (decide ((↑(ByteArray.size x0) : Int) > (0 : Int)))) := by kernel_rfl

theorem f70_eq (fu : Nat) (s : ByteArray) : evFun f70_X fu Tryz.f70 (frz f70_X.Ty Tryz.f70) [.str s] [] [] = f70_L2 fu fu s (0 : Int) := by kernel_rfl

def f71_st3 (x0 : ByteArray) (x1 : ByteArray) (x2 : Int) : St := St.mk
  [SV.str x0, SV.dead, SV.dead, SV.str x1, SV.int IntKind.i64 x2, SV.dead, SV.dead, SV.dead, SV.dead, SV.dead, SV.dead, SV.dead, SV.dead, SV.dead, SV.dead, SV.dead, SV.dead, SV.dead, SV.dead, SV.dead, SV.dead, SV.dead,
    SV.dead, SV.dead, SV.dead, SV.dead, SV.dead, SV.dead, SV.dead]
  [] []
noncomputable def f71_L3 (fu fm : Nat) (x0 : ByteArray) (x1 : ByteArray) (x2 : Int) : Option (SV) := atLoop f71_X Tryz.f71 (frz f71_X.Ty Tryz.f71) fu [.r, .r, .l, .r, .b] fm (f71_st3 x0 x1 x2)

theorem f71_L3_eq (fu fm : Nat) (x0 : ByteArray) (x1 : ByteArray) (x2 : Int) : f71_L3 fu (fm + 1) x0 x1 x2 = bif decide (x2 < (↑(ByteArray.size x0) : Int)) then
  bif decide ((0 : Int) ≤ x2) && decide (x2 < (↑(ByteArray.size x0) : Int)) then
    bif decide ((65 : Int) ≤ bAt x0 x2) then
      bif decide (bAt x0 x2 ≤ (90 : Int)) then
        bif Nat.ble (ByteArray.size x1 + (1 : Nat)) (9223372036854775807 : Nat) then
          f71_L3 fu fm x0 (x1 ++ strOf [SV.int IntKind.u8 (IntKind.wrap IntKind.u8 (bAt x0 x2 + (32 : Int)))]) (IntKind.wrap IntKind.i64 (x2 + (1 : Int)))
        else none
      else bif Nat.ble (ByteArray.size x1 + (1 : Nat)) (9223372036854775807 : Nat) then f71_L3 fu fm x0 (x1 ++ strOf [SV.int IntKind.u8 (bAt x0 x2)]) (IntKind.wrap IntKind.i64 (x2 + (1 : Int))) else none
    else bif Nat.ble (ByteArray.size x1 + (1 : Nat)) (9223372036854775807 : Nat) then f71_L3 fu fm x0 (x1 ++ strOf [SV.int IntKind.u8 (bAt x0 x2)]) (IntKind.wrap IntKind.i64 (x2 + (1 : Int))) else none
  else none
  else some (SV.str x1) := by kernel_rfl

theorem f71_eq (fu : Nat) (s : ByteArray) : evFun f71_X fu Tryz.f71 (frz f71_X.Ty Tryz.f71) [.str s] [] [] = f71_L3 fu fu s (ByteArray.mk #[]) (0 : Int) := by kernel_rfl

def f110_st1 (x0 : ByteArray) : St := St.mk [SV.str x0, SV.dead, SV.dead, SV.dead, SV.dead, SV.dead, SV.dead, SV.dead, SV.dead, SV.dead, SV.dead, SV.dead, SV.dead, SV.dead, SV.dead, SV.dead, SV.dead, SV.dead, SV.dead] [] []
noncomputable def f110_L1 (fu fm : Nat) (x0 : ByteArray) : Option (SV) := atLoop f110_X Tryz.f110 (frz f110_X.Ty Tryz.f110) fu [.r, .l, .b] fm (f110_st1 x0)

theorem f110_L1_eq (fu fm : Nat) (x0 : ByteArray) : f110_L1 fu (fm + 1) x0 = bif decide ((↑(ByteArray.size x0) : Int) > (0 : Int)) then
  bif decide ((0 : Int) < (↑(ByteArray.size x0) : Int)) then
    bif bAt x0 (0 : Int) == (32 : Int) then bif decide ((1 : Int) ≤ (↑(ByteArray.size x0) : Int)) then f110_L1 fu fm (ByteArray.extract x0 (1 : Nat) (Int.toNat (↑(ByteArray.size x0) : Int))) else none
    else
      bif decide ((0 : Int) < (↑(ByteArray.size x0) : Int)) then
        bif bAt x0 (0 : Int) == (9 : Int) then bif decide ((1 : Int) ≤ (↑(ByteArray.size x0) : Int)) then f110_L1 fu fm (ByteArray.extract x0 (1 : Nat) (Int.toNat (↑(ByteArray.size x0) : Int))) else none
        else some (SV.str x0)
      else none
  else none
  else some (SV.str x0) := by kernel_rfl

theorem f110_eq (fu : Nat) (s : ByteArray) : evFun f110_X fu Tryz.f110 (frz f110_X.Ty Tryz.f110) [.str s] [] [] = f110_L1 fu fu s := by kernel_rfl

def f67_st4 (x0 : ByteArray) (x1 : Bool) (x2 : Int) (x3 : List SV) : St := St.mk
  [SV.str x0, SV.dead, SV.dead, SV.row (100 : Nat), SV.bool x1, SV.int IntKind.i64 x2, SV.dead, SV.dead, SV.dead, SV.dead, SV.dead, SV.dead, SV.dead, SV.dead, SV.dead, SV.dead, SV.dead, SV.dead, SV.dead, SV.dead,
    SV.dead, SV.dead, SV.dead, SV.dead, SV.dead, SV.dead, SV.dead, SV.dead, SV.dead, SV.dead, SV.dead, SV.dead, SV.dead, SV.dead, SV.dead, SV.dead, SV.dead, SV.dead, SV.dead, SV.dead, SV.dead, SV.dead, SV.dead, SV.dead,
    SV.dead, SV.dead, SV.dead, SV.dead, SV.dead, SV.dead, SV.dead, SV.dead, SV.dead, SV.dead, SV.dead, SV.dead, SV.dead, SV.dead, SV.dead, SV.dead, SV.dead, SV.dead, SV.dead, SV.dead, SV.dead, SV.dead, SV.dead, SV.dead,
    SV.dead]
  [((100 : Nat), SObj.row (9 : Nat) x3)] [(100 : Nat)]
noncomputable def f67_L4 (fu fm : Nat) (x0 : ByteArray) (x1 : Bool) (x2 : Int) (x3 : List SV) : Option (SV) := atLoop f67_X Tryz.f67 (frz f67_X.Ty Tryz.f67) fu [.r, .r, .r, .l, .r, .b] fm (f67_st4 x0 x1 x2 x3)

theorem f67_L4_eq (fu fm : Nat) (x0 : ByteArray) (x1 : Bool) (x2 : Int) (x3 : List SV) : f67_L4 fu (fm + 1) x0 x1 x2 x3 = bif decide (x2 < (↑(ByteArray.size x0) : Int)) then
  bif
      decide ((0 : Int) ≤ IntKind.wrap IntKind.i64 (x2 + (1 : Int))) && decide (IntKind.wrap IntKind.i64 (x2 + (1 : Int)) ≤ (↑(ByteArray.size x0) : Int)) &&
        (decide ((0 : Int) ≤ x2) && decide (x2 ≤ IntKind.wrap IntKind.i64 (x2 + (1 : Int)))) then
    bif x1 then
      bif ByteArray.toList (ByteArray.extract x0 (Int.toNat x2) (Int.toNat (IntKind.wrap IntKind.i64 (x2 + (1 : Int))))) == ByteArray.toList (ByteArray.mk #[(92 : UInt8)]) then
        bif decide (IntKind.wrap IntKind.i64 (x2 + (1 : Int)) < (↑(ByteArray.size x0) : Int)) then
          bif decide ((0 : Int) ≤ IntKind.wrap IntKind.i64 ((↑(List.length x3) : Int) - (1 : Int))) && decide (IntKind.wrap IntKind.i64 ((↑(List.length x3) : Int) - (1 : Int)) < (↑(List.length x3) : Int)) then
            bif
                decide ((0 : Int) ≤ IntKind.wrap IntKind.i64 (x2 + (2 : Int))) && decide (IntKind.wrap IntKind.i64 (x2 + (2 : Int)) ≤ (↑(ByteArray.size x0) : Int)) &&
                  (decide ((0 : Int) ≤ x2) && decide (x2 ≤ IntKind.wrap IntKind.i64 (x2 + (2 : Int)))) then
              bif
                  Nat.ble
                    (ByteArray.size (asStr (List.getD (cellsOf (List.getD x3 (Int.toNat (IntKind.wrap IntKind.i64 ((↑(List.length x3) : Int) - (1 : Int)))) SV.dead)) (0 : Nat) SV.dead)) +
                      ByteArray.size (ByteArray.extract x0 (Int.toNat x2) (Int.toNat (IntKind.wrap IntKind.i64 (x2 + (2 : Int))))))
                    (9223372036854775807 : Nat) then
                bif decide ((0 : Int) ≤ IntKind.wrap IntKind.i64 ((↑(List.length x3) : Int) - (1 : Int))) && decide (IntKind.wrap IntKind.i64 ((↑(List.length x3) : Int) - (1 : Int)) < (↑(List.length x3) : Int)) then
                  f67_L4 fu fm x0 x1 (IntKind.wrap IntKind.i64 (IntKind.wrap IntKind.i64 (x2 + (1 : Int)) + (1 : Int)))
                    (List.set x3 (Int.toNat (IntKind.wrap IntKind.i64 ((↑(List.length x3) : Int) - (1 : Int))))
                      (SV.str
                        (asStr (List.getD (cellsOf (List.getD x3 (Int.toNat (IntKind.wrap IntKind.i64 ((↑(List.length x3) : Int) - (1 : Int)))) SV.dead)) (0 : Nat) SV.dead) ++
                          ByteArray.extract x0 (Int.toNat x2) (Int.toNat (IntKind.wrap IntKind.i64 (x2 + (2 : Int)))))))
                else none
              else none
            else none
          else none
        else
          bif ByteArray.toList (ByteArray.extract x0 (Int.toNat x2) (Int.toNat (IntKind.wrap IntKind.i64 (x2 + (1 : Int))))) == ByteArray.toList (ByteArray.mk #[(34 : UInt8)]) then
            bif ByteArray.toList (ByteArray.extract x0 (Int.toNat x2) (Int.toNat (IntKind.wrap IntKind.i64 (x2 + (1 : Int))))) == ByteArray.toList (ByteArray.mk #[(59 : UInt8)]) then
              bif !!x1 then
                bif decide ((List.length x3 + (1 : Nat)) * (16 : Nat) ≤ (140737488355328 : Nat)) && decide (List.length x3 + (1 : Nat) ≤ (9223372036854775807 : Nat)) then
                  f67_L4 fu fm x0 (!x1) (IntKind.wrap IntKind.i64 (x2 + (1 : Int))) (x3 ++ [SV.str (ByteArray.mk #[])])
                else none
              else
                bif decide ((0 : Int) ≤ IntKind.wrap IntKind.i64 ((↑(List.length x3) : Int) - (1 : Int))) && decide (IntKind.wrap IntKind.i64 ((↑(List.length x3) : Int) - (1 : Int)) < (↑(List.length x3) : Int)) then
                  bif
                      Nat.ble
                        (ByteArray.size (asStr (List.getD (cellsOf (List.getD x3 (Int.toNat (IntKind.wrap IntKind.i64 ((↑(List.length x3) : Int) - (1 : Int)))) SV.dead)) (0 : Nat) SV.dead)) +
                          ByteArray.size (ByteArray.extract x0 (Int.toNat x2) (Int.toNat (IntKind.wrap IntKind.i64 (x2 + (1 : Int))))))
                        (9223372036854775807 : Nat) then
                    bif decide ((0 : Int) ≤ IntKind.wrap IntKind.i64 ((↑(List.length x3) : Int) - (1 : Int))) && decide (IntKind.wrap IntKind.i64 ((↑(List.length x3) : Int) - (1 : Int)) < (↑(List.length x3) : Int)) then
                      f67_L4 fu fm x0 (!x1) (IntKind.wrap IntKind.i64 (x2 + (1 : Int)))
                        (List.set x3 (Int.toNat (IntKind.wrap IntKind.i64 ((↑(List.length x3) : Int) - (1 : Int))))
                          (SV.str
                            (asStr (List.getD (cellsOf (List.getD x3 (Int.toNat (IntKind.wrap IntKind.i64 ((↑(List.length x3) : Int) - (1 : Int)))) SV.dead)) (0 : Nat) SV.dead) ++
                              ByteArray.extract x0 (Int.toNat x2) (Int.toNat (IntKind.wrap IntKind.i64 (x2 + (1 : Int)))))))
                    else none
                  else none
                else none
            else
              bif decide ((0 : Int) ≤ IntKind.wrap IntKind.i64 ((↑(List.length x3) : Int) - (1 : Int))) && decide (IntKind.wrap IntKind.i64 ((↑(List.length x3) : Int) - (1 : Int)) < (↑(List.length x3) : Int)) then
                bif
                    Nat.ble
                      (ByteArray.size (asStr (List.getD (cellsOf (List.getD x3 (Int.toNat (IntKind.wrap IntKind.i64 ((↑(List.length x3) : Int) - (1 : Int)))) SV.dead)) (0 : Nat) SV.dead)) +
                        ByteArray.size (ByteArray.extract x0 (Int.toNat x2) (Int.toNat (IntKind.wrap IntKind.i64 (x2 + (1 : Int))))))
                      (9223372036854775807 : Nat) then
                  bif decide ((0 : Int) ≤ IntKind.wrap IntKind.i64 ((↑(List.length x3) : Int) - (1 : Int))) && decide (IntKind.wrap IntKind.i64 ((↑(List.length x3) : Int) - (1 : Int)) < (↑(List.length x3) : Int)) then
                    f67_L4 fu fm x0 (!x1) (IntKind.wrap IntKind.i64 (x2 + (1 : Int)))
                      (List.set x3 (Int.toNat (IntKind.wrap IntKind.i64 ((↑(List.length x3) : Int) - (1 : Int))))
                        (SV.str
                          (asStr (List.getD (cellsOf (List.getD x3 (Int.toNat (IntKind.wrap IntKind.i64 ((↑(List.length x3) : Int) - (1 : Int)))) SV.dead)) (0 : Nat) SV.dead) ++
                            ByteArray.extract x0 (Int.toNat x2) (Int.toNat (IntKind.wrap IntKind.i64 (x2 + (1 : Int)))))))
                  else none
                else none
              else none
          else
            bif ByteArray.toList (ByteArray.extract x0 (Int.toNat x2) (Int.toNat (IntKind.wrap IntKind.i64 (x2 + (1 : Int))))) == ByteArray.toList (ByteArray.mk #[(59 : UInt8)]) then
              bif !x1 then
                bif decide ((List.length x3 + (1 : Nat)) * (16 : Nat) ≤ (140737488355328 : Nat)) && decide (List.length x3 + (1 : Nat) ≤ (9223372036854775807 : Nat)) then
                  f67_L4 fu fm x0 x1 (IntKind.wrap IntKind.i64 (x2 + (1 : Int))) (x3 ++ [SV.str (ByteArray.mk #[])])
                else none
              else
                bif decide ((0 : Int) ≤ IntKind.wrap IntKind.i64 ((↑(List.length x3) : Int) - (1 : Int))) && decide (IntKind.wrap IntKind.i64 ((↑(List.length x3) : Int) - (1 : Int)) < (↑(List.length x3) : Int)) then
                  bif
                      Nat.ble
                        (ByteArray.size (asStr (List.getD (cellsOf (List.getD x3 (Int.toNat (IntKind.wrap IntKind.i64 ((↑(List.length x3) : Int) - (1 : Int)))) SV.dead)) (0 : Nat) SV.dead)) +
                          ByteArray.size (ByteArray.extract x0 (Int.toNat x2) (Int.toNat (IntKind.wrap IntKind.i64 (x2 + (1 : Int))))))
                        (9223372036854775807 : Nat) then
                    bif decide ((0 : Int) ≤ IntKind.wrap IntKind.i64 ((↑(List.length x3) : Int) - (1 : Int))) && decide (IntKind.wrap IntKind.i64 ((↑(List.length x3) : Int) - (1 : Int)) < (↑(List.length x3) : Int)) then
                      f67_L4 fu fm x0 x1 (IntKind.wrap IntKind.i64 (x2 + (1 : Int)))
                        (List.set x3 (Int.toNat (IntKind.wrap IntKind.i64 ((↑(List.length x3) : Int) - (1 : Int))))
                          (SV.str
                            (asStr (List.getD (cellsOf (List.getD x3 (Int.toNat (IntKind.wrap IntKind.i64 ((↑(List.length x3) : Int) - (1 : Int)))) SV.dead)) (0 : Nat) SV.dead) ++
                              ByteArray.extract x0 (Int.toNat x2) (Int.toNat (IntKind.wrap IntKind.i64 (x2 + (1 : Int)))))))
                    else none
                  else none
                else none
            else
              bif decide ((0 : Int) ≤ IntKind.wrap IntKind.i64 ((↑(List.length x3) : Int) - (1 : Int))) && decide (IntKind.wrap IntKind.i64 ((↑(List.length x3) : Int) - (1 : Int)) < (↑(List.length x3) : Int)) then
                bif
                    Nat.ble
                      (ByteArray.size (asStr (List.getD (cellsOf (List.getD x3 (Int.toNat (IntKind.wrap IntKind.i64 ((↑(List.length x3) : Int) - (1 : Int)))) SV.dead)) (0 : Nat) SV.dead)) +
                        ByteArray.size (ByteArray.extract x0 (Int.toNat x2) (Int.toNat (IntKind.wrap IntKind.i64 (x2 + (1 : Int))))))
                      (9223372036854775807 : Nat) then
                  bif decide ((0 : Int) ≤ IntKind.wrap IntKind.i64 ((↑(List.length x3) : Int) - (1 : Int))) && decide (IntKind.wrap IntKind.i64 ((↑(List.length x3) : Int) - (1 : Int)) < (↑(List.length x3) : Int)) then
                    f67_L4 fu fm x0 x1 (IntKind.wrap IntKind.i64 (x2 + (1 : Int)))
                      (List.set x3 (Int.toNat (IntKind.wrap IntKind.i64 ((↑(List.length x3) : Int) - (1 : Int))))
                        (SV.str
                          (asStr (List.getD (cellsOf (List.getD x3 (Int.toNat (IntKind.wrap IntKind.i64 ((↑(List.length x3) : Int) - (1 : Int)))) SV.dead)) (0 : Nat) SV.dead) ++
                            ByteArray.extract x0 (Int.toNat x2) (Int.toNat (IntKind.wrap IntKind.i64 (x2 + (1 : Int)))))))
                  else none
                else none
              else none
      else
        bif ByteArray.toList (ByteArray.extract x0 (Int.toNat x2) (Int.toNat (IntKind.wrap IntKind.i64 (x2 + (1 : Int))))) == ByteArray.toList (ByteArray.mk #[(34 : UInt8)]) then
          bif ByteArray.toList (ByteArray.extract x0 (Int.toNat x2) (Int.toNat (IntKind.wrap IntKind.i64 (x2 + (1 : Int))))) == ByteArray.toList (ByteArray.mk #[(59 : UInt8)]) then
            bif !!x1 then
              bif decide ((List.length x3 + (1 : Nat)) * (16 : Nat) ≤ (140737488355328 : Nat)) && decide (List.length x3 + (1 : Nat) ≤ (9223372036854775807 : Nat)) then
                f67_L4 fu fm x0 (!x1) (IntKind.wrap IntKind.i64 (x2 + (1 : Int))) (x3 ++ [SV.str (ByteArray.mk #[])])
              else none
            else
              bif decide ((0 : Int) ≤ IntKind.wrap IntKind.i64 ((↑(List.length x3) : Int) - (1 : Int))) && decide (IntKind.wrap IntKind.i64 ((↑(List.length x3) : Int) - (1 : Int)) < (↑(List.length x3) : Int)) then
                bif
                    Nat.ble
                      (ByteArray.size (asStr (List.getD (cellsOf (List.getD x3 (Int.toNat (IntKind.wrap IntKind.i64 ((↑(List.length x3) : Int) - (1 : Int)))) SV.dead)) (0 : Nat) SV.dead)) +
                        ByteArray.size (ByteArray.extract x0 (Int.toNat x2) (Int.toNat (IntKind.wrap IntKind.i64 (x2 + (1 : Int))))))
                      (9223372036854775807 : Nat) then
                  bif decide ((0 : Int) ≤ IntKind.wrap IntKind.i64 ((↑(List.length x3) : Int) - (1 : Int))) && decide (IntKind.wrap IntKind.i64 ((↑(List.length x3) : Int) - (1 : Int)) < (↑(List.length x3) : Int)) then
                    f67_L4 fu fm x0 (!x1) (IntKind.wrap IntKind.i64 (x2 + (1 : Int)))
                      (List.set x3 (Int.toNat (IntKind.wrap IntKind.i64 ((↑(List.length x3) : Int) - (1 : Int))))
                        (SV.str
                          (asStr (List.getD (cellsOf (List.getD x3 (Int.toNat (IntKind.wrap IntKind.i64 ((↑(List.length x3) : Int) - (1 : Int)))) SV.dead)) (0 : Nat) SV.dead) ++
                            ByteArray.extract x0 (Int.toNat x2) (Int.toNat (IntKind.wrap IntKind.i64 (x2 + (1 : Int)))))))
                  else none
                else none
              else none
          else
            bif decide ((0 : Int) ≤ IntKind.wrap IntKind.i64 ((↑(List.length x3) : Int) - (1 : Int))) && decide (IntKind.wrap IntKind.i64 ((↑(List.length x3) : Int) - (1 : Int)) < (↑(List.length x3) : Int)) then
              bif
                  Nat.ble
                    (ByteArray.size (asStr (List.getD (cellsOf (List.getD x3 (Int.toNat (IntKind.wrap IntKind.i64 ((↑(List.length x3) : Int) - (1 : Int)))) SV.dead)) (0 : Nat) SV.dead)) +
                      ByteArray.size (ByteArray.extract x0 (Int.toNat x2) (Int.toNat (IntKind.wrap IntKind.i64 (x2 + (1 : Int))))))
                    (9223372036854775807 : Nat) then
                bif decide ((0 : Int) ≤ IntKind.wrap IntKind.i64 ((↑(List.length x3) : Int) - (1 : Int))) && decide (IntKind.wrap IntKind.i64 ((↑(List.length x3) : Int) - (1 : Int)) < (↑(List.length x3) : Int)) then
                  f67_L4 fu fm x0 (!x1) (IntKind.wrap IntKind.i64 (x2 + (1 : Int)))
                    (List.set x3 (Int.toNat (IntKind.wrap IntKind.i64 ((↑(List.length x3) : Int) - (1 : Int))))
                      (SV.str
                        (asStr (List.getD (cellsOf (List.getD x3 (Int.toNat (IntKind.wrap IntKind.i64 ((↑(List.length x3) : Int) - (1 : Int)))) SV.dead)) (0 : Nat) SV.dead) ++
                          ByteArray.extract x0 (Int.toNat x2) (Int.toNat (IntKind.wrap IntKind.i64 (x2 + (1 : Int)))))))
                else none
              else none
            else none
        else
          bif ByteArray.toList (ByteArray.extract x0 (Int.toNat x2) (Int.toNat (IntKind.wrap IntKind.i64 (x2 + (1 : Int))))) == ByteArray.toList (ByteArray.mk #[(59 : UInt8)]) then
            bif !x1 then
              bif decide ((List.length x3 + (1 : Nat)) * (16 : Nat) ≤ (140737488355328 : Nat)) && decide (List.length x3 + (1 : Nat) ≤ (9223372036854775807 : Nat)) then
                f67_L4 fu fm x0 x1 (IntKind.wrap IntKind.i64 (x2 + (1 : Int))) (x3 ++ [SV.str (ByteArray.mk #[])])
              else none
            else
              bif decide ((0 : Int) ≤ IntKind.wrap IntKind.i64 ((↑(List.length x3) : Int) - (1 : Int))) && decide (IntKind.wrap IntKind.i64 ((↑(List.length x3) : Int) - (1 : Int)) < (↑(List.length x3) : Int)) then
                bif
                    Nat.ble
                      (ByteArray.size (asStr (List.getD (cellsOf (List.getD x3 (Int.toNat (IntKind.wrap IntKind.i64 ((↑(List.length x3) : Int) - (1 : Int)))) SV.dead)) (0 : Nat) SV.dead)) +
                        ByteArray.size (ByteArray.extract x0 (Int.toNat x2) (Int.toNat (IntKind.wrap IntKind.i64 (x2 + (1 : Int))))))
                      (9223372036854775807 : Nat) then
                  bif decide ((0 : Int) ≤ IntKind.wrap IntKind.i64 ((↑(List.length x3) : Int) - (1 : Int))) && decide (IntKind.wrap IntKind.i64 ((↑(List.length x3) : Int) - (1 : Int)) < (↑(List.length x3) : Int)) then
                    f67_L4 fu fm x0 x1 (IntKind.wrap IntKind.i64 (x2 + (1 : Int)))
                      (List.set x3 (Int.toNat (IntKind.wrap IntKind.i64 ((↑(List.length x3) : Int) - (1 : Int))))
                        (SV.str
                          (asStr (List.getD (cellsOf (List.getD x3 (Int.toNat (IntKind.wrap IntKind.i64 ((↑(List.length x3) : Int) - (1 : Int)))) SV.dead)) (0 : Nat) SV.dead) ++
                            ByteArray.extract x0 (Int.toNat x2) (Int.toNat (IntKind.wrap IntKind.i64 (x2 + (1 : Int)))))))
                  else none
                else none
              else none
          else
            bif decide ((0 : Int) ≤ IntKind.wrap IntKind.i64 ((↑(List.length x3) : Int) - (1 : Int))) && decide (IntKind.wrap IntKind.i64 ((↑(List.length x3) : Int) - (1 : Int)) < (↑(List.length x3) : Int)) then
              bif
                  Nat.ble
                    (ByteArray.size (asStr (List.getD (cellsOf (List.getD x3 (Int.toNat (IntKind.wrap IntKind.i64 ((↑(List.length x3) : Int) - (1 : Int)))) SV.dead)) (0 : Nat) SV.dead)) +
                      ByteArray.size (ByteArray.extract x0 (Int.toNat x2) (Int.toNat (IntKind.wrap IntKind.i64 (x2 + (1 : Int))))))
                    (9223372036854775807 : Nat) then
                bif decide ((0 : Int) ≤ IntKind.wrap IntKind.i64 ((↑(List.length x3) : Int) - (1 : Int))) && decide (IntKind.wrap IntKind.i64 ((↑(List.length x3) : Int) - (1 : Int)) < (↑(List.length x3) : Int)) then
                  f67_L4 fu fm x0 x1 (IntKind.wrap IntKind.i64 (x2 + (1 : Int)))
                    (List.set x3 (Int.toNat (IntKind.wrap IntKind.i64 ((↑(List.length x3) : Int) - (1 : Int))))
                      (SV.str
                        (asStr (List.getD (cellsOf (List.getD x3 (Int.toNat (IntKind.wrap IntKind.i64 ((↑(List.length x3) : Int) - (1 : Int)))) SV.dead)) (0 : Nat) SV.dead) ++
                          ByteArray.extract x0 (Int.toNat x2) (Int.toNat (IntKind.wrap IntKind.i64 (x2 + (1 : Int)))))))
                else none
              else none
            else none
    else
      bif ByteArray.toList (ByteArray.extract x0 (Int.toNat x2) (Int.toNat (IntKind.wrap IntKind.i64 (x2 + (1 : Int))))) == ByteArray.toList (ByteArray.mk #[(34 : UInt8)]) then
        bif ByteArray.toList (ByteArray.extract x0 (Int.toNat x2) (Int.toNat (IntKind.wrap IntKind.i64 (x2 + (1 : Int))))) == ByteArray.toList (ByteArray.mk #[(59 : UInt8)]) then
          bif !!x1 then
            bif decide ((List.length x3 + (1 : Nat)) * (16 : Nat) ≤ (140737488355328 : Nat)) && decide (List.length x3 + (1 : Nat) ≤ (9223372036854775807 : Nat)) then
              f67_L4 fu fm x0 (!x1) (IntKind.wrap IntKind.i64 (x2 + (1 : Int))) (x3 ++ [SV.str (ByteArray.mk #[])])
            else none
          else
            bif decide ((0 : Int) ≤ IntKind.wrap IntKind.i64 ((↑(List.length x3) : Int) - (1 : Int))) && decide (IntKind.wrap IntKind.i64 ((↑(List.length x3) : Int) - (1 : Int)) < (↑(List.length x3) : Int)) then
              bif
                  Nat.ble
                    (ByteArray.size (asStr (List.getD (cellsOf (List.getD x3 (Int.toNat (IntKind.wrap IntKind.i64 ((↑(List.length x3) : Int) - (1 : Int)))) SV.dead)) (0 : Nat) SV.dead)) +
                      ByteArray.size (ByteArray.extract x0 (Int.toNat x2) (Int.toNat (IntKind.wrap IntKind.i64 (x2 + (1 : Int))))))
                    (9223372036854775807 : Nat) then
                bif decide ((0 : Int) ≤ IntKind.wrap IntKind.i64 ((↑(List.length x3) : Int) - (1 : Int))) && decide (IntKind.wrap IntKind.i64 ((↑(List.length x3) : Int) - (1 : Int)) < (↑(List.length x3) : Int)) then
                  f67_L4 fu fm x0 (!x1) (IntKind.wrap IntKind.i64 (x2 + (1 : Int)))
                    (List.set x3 (Int.toNat (IntKind.wrap IntKind.i64 ((↑(List.length x3) : Int) - (1 : Int))))
                      (SV.str
                        (asStr (List.getD (cellsOf (List.getD x3 (Int.toNat (IntKind.wrap IntKind.i64 ((↑(List.length x3) : Int) - (1 : Int)))) SV.dead)) (0 : Nat) SV.dead) ++
                          ByteArray.extract x0 (Int.toNat x2) (Int.toNat (IntKind.wrap IntKind.i64 (x2 + (1 : Int)))))))
                else none
              else none
            else none
        else
          bif decide ((0 : Int) ≤ IntKind.wrap IntKind.i64 ((↑(List.length x3) : Int) - (1 : Int))) && decide (IntKind.wrap IntKind.i64 ((↑(List.length x3) : Int) - (1 : Int)) < (↑(List.length x3) : Int)) then
            bif
                Nat.ble
                  (ByteArray.size (asStr (List.getD (cellsOf (List.getD x3 (Int.toNat (IntKind.wrap IntKind.i64 ((↑(List.length x3) : Int) - (1 : Int)))) SV.dead)) (0 : Nat) SV.dead)) +
                    ByteArray.size (ByteArray.extract x0 (Int.toNat x2) (Int.toNat (IntKind.wrap IntKind.i64 (x2 + (1 : Int))))))
                  (9223372036854775807 : Nat) then
              bif decide ((0 : Int) ≤ IntKind.wrap IntKind.i64 ((↑(List.length x3) : Int) - (1 : Int))) && decide (IntKind.wrap IntKind.i64 ((↑(List.length x3) : Int) - (1 : Int)) < (↑(List.length x3) : Int)) then
                f67_L4 fu fm x0 (!x1) (IntKind.wrap IntKind.i64 (x2 + (1 : Int)))
                  (List.set x3 (Int.toNat (IntKind.wrap IntKind.i64 ((↑(List.length x3) : Int) - (1 : Int))))
                    (SV.str
                      (asStr (List.getD (cellsOf (List.getD x3 (Int.toNat (IntKind.wrap IntKind.i64 ((↑(List.length x3) : Int) - (1 : Int)))) SV.dead)) (0 : Nat) SV.dead) ++
                        ByteArray.extract x0 (Int.toNat x2) (Int.toNat (IntKind.wrap IntKind.i64 (x2 + (1 : Int)))))))
              else none
            else none
          else none
      else
        bif ByteArray.toList (ByteArray.extract x0 (Int.toNat x2) (Int.toNat (IntKind.wrap IntKind.i64 (x2 + (1 : Int))))) == ByteArray.toList (ByteArray.mk #[(59 : UInt8)]) then
          bif !x1 then
            bif decide ((List.length x3 + (1 : Nat)) * (16 : Nat) ≤ (140737488355328 : Nat)) && decide (List.length x3 + (1 : Nat) ≤ (9223372036854775807 : Nat)) then
              f67_L4 fu fm x0 x1 (IntKind.wrap IntKind.i64 (x2 + (1 : Int))) (x3 ++ [SV.str (ByteArray.mk #[])])
            else none
          else
            bif decide ((0 : Int) ≤ IntKind.wrap IntKind.i64 ((↑(List.length x3) : Int) - (1 : Int))) && decide (IntKind.wrap IntKind.i64 ((↑(List.length x3) : Int) - (1 : Int)) < (↑(List.length x3) : Int)) then
              bif
                  Nat.ble
                    (ByteArray.size (asStr (List.getD (cellsOf (List.getD x3 (Int.toNat (IntKind.wrap IntKind.i64 ((↑(List.length x3) : Int) - (1 : Int)))) SV.dead)) (0 : Nat) SV.dead)) +
                      ByteArray.size (ByteArray.extract x0 (Int.toNat x2) (Int.toNat (IntKind.wrap IntKind.i64 (x2 + (1 : Int))))))
                    (9223372036854775807 : Nat) then
                bif decide ((0 : Int) ≤ IntKind.wrap IntKind.i64 ((↑(List.length x3) : Int) - (1 : Int))) && decide (IntKind.wrap IntKind.i64 ((↑(List.length x3) : Int) - (1 : Int)) < (↑(List.length x3) : Int)) then
                  f67_L4 fu fm x0 x1 (IntKind.wrap IntKind.i64 (x2 + (1 : Int)))
                    (List.set x3 (Int.toNat (IntKind.wrap IntKind.i64 ((↑(List.length x3) : Int) - (1 : Int))))
                      (SV.str
                        (asStr (List.getD (cellsOf (List.getD x3 (Int.toNat (IntKind.wrap IntKind.i64 ((↑(List.length x3) : Int) - (1 : Int)))) SV.dead)) (0 : Nat) SV.dead) ++
                          ByteArray.extract x0 (Int.toNat x2) (Int.toNat (IntKind.wrap IntKind.i64 (x2 + (1 : Int)))))))
                else none
              else none
            else none
        else
          bif decide ((0 : Int) ≤ IntKind.wrap IntKind.i64 ((↑(List.length x3) : Int) - (1 : Int))) && decide (IntKind.wrap IntKind.i64 ((↑(List.length x3) : Int) - (1 : Int)) < (↑(List.length x3) : Int)) then
            bif
                Nat.ble
                  (ByteArray.size (asStr (List.getD (cellsOf (List.getD x3 (Int.toNat (IntKind.wrap IntKind.i64 ((↑(List.length x3) : Int) - (1 : Int)))) SV.dead)) (0 : Nat) SV.dead)) +
                    ByteArray.size (ByteArray.extract x0 (Int.toNat x2) (Int.toNat (IntKind.wrap IntKind.i64 (x2 + (1 : Int))))))
                  (9223372036854775807 : Nat) then
              bif decide ((0 : Int) ≤ IntKind.wrap IntKind.i64 ((↑(List.length x3) : Int) - (1 : Int))) && decide (IntKind.wrap IntKind.i64 ((↑(List.length x3) : Int) - (1 : Int)) < (↑(List.length x3) : Int)) then
                f67_L4 fu fm x0 x1 (IntKind.wrap IntKind.i64 (x2 + (1 : Int)))
                  (List.set x3 (Int.toNat (IntKind.wrap IntKind.i64 ((↑(List.length x3) : Int) - (1 : Int))))
                    (SV.str
                      (asStr (List.getD (cellsOf (List.getD x3 (Int.toNat (IntKind.wrap IntKind.i64 ((↑(List.length x3) : Int) - (1 : Int)))) SV.dead)) (0 : Nat) SV.dead) ++
                        ByteArray.extract x0 (Int.toNat x2) (Int.toNat (IntKind.wrap IntKind.i64 (x2 + (1 : Int)))))))
              else none
            else none
          else none
  else none
  else some (SV.lst (9 : Nat) x3) := by kernel_rfl

theorem f67_eq (fu : Nat) (s : ByteArray) : evFun f67_X fu Tryz.f67 (frz f67_X.Ty Tryz.f67) [.str s] [] [] = f67_L4 fu fu s false (0 : Int) [SV.str (ByteArray.mk #[])] := by kernel_rfl

def f69_st2 (x0 : ByteArray) (x1 : Int) (x2 : Int) : St := St.mk [SV.str x0, SV.int IntKind.u8 x1, SV.dead, SV.dead, SV.dead, SV.int IntKind.i64 x2, SV.dead, SV.dead, SV.dead, SV.dead, SV.dead, SV.dead, SV.dead, SV.dead, SV.dead, SV.dead, SV.dead, SV.dead] [] []
noncomputable def f69_L2 (fu fm : Nat) (x0 : ByteArray) (x1 : Int) (x2 : Int) : Option (SV) := atLoop f69_X Tryz.f69 (frz f69_X.Ty Tryz.f69) fu [.r, .l, .r, .b] fm (f69_st2 x0 x1 x2)

theorem f69_L2_eq (fu fm : Nat) (x0 : ByteArray) (x1 : Int) (x2 : Int) : f69_L2 fu (fm + 1) x0 x1 x2 = bif decide (x2 < (↑(ByteArray.size x0) : Int)) then
  bif decide ((0 : Int) ≤ x2) && decide (x2 < (↑(ByteArray.size x0) : Int)) then bif bAt x0 x2 == x1 then some (SV.int IntKind.i64 x2) else f69_L2 fu fm x0 x1 (IntKind.wrap IntKind.i64 (x2 + (1 : Int))) else none
  else some (SV.int IntKind.i64 (-1 : Int)) := by kernel_rfl

theorem f69_eq (fu : Nat) (s : ByteArray) (c : Int) : evFun f69_X fu Tryz.f69 (frz f69_X.Ty Tryz.f69) [.str s, .int .u8 c] [] [] = f69_L2 fu fu s c (0 : Int) := by kernel_rfl

noncomputable def f74_T (s : ByteArray) : Tr SV := Tr.br (decide ((↑(ByteArray.size s) : Int) > (0 : Int)))
  (Tr.br (decide ((0 : Int) ≤ IntKind.wrap IntKind.i64 ((↑(ByteArray.size s) : Int) - (1 : Int))) && decide (IntKind.wrap IntKind.i64 ((↑(ByteArray.size s) : Int) - (1 : Int)) < (↑(ByteArray.size s) : Int)))
    (Tr.br (bAt s (IntKind.wrap IntKind.i64 ((↑(ByteArray.size s) : Int) - (1 : Int))) == (10 : Int))
      (Tr.br (decide (IntKind.wrap IntKind.i64 ((↑(ByteArray.size s) : Int) - (1 : Int)) > (0 : Int)))
        (Tr.br
          (decide ((0 : Int) ≤ IntKind.wrap IntKind.i64 (IntKind.wrap IntKind.i64 ((↑(ByteArray.size s) : Int) - (1 : Int)) - (1 : Int))) &&
            decide (IntKind.wrap IntKind.i64 (IntKind.wrap IntKind.i64 ((↑(ByteArray.size s) : Int) - (1 : Int)) - (1 : Int)) < (↑(ByteArray.size s) : Int)))
          (Tr.br (bAt s (IntKind.wrap IntKind.i64 (IntKind.wrap IntKind.i64 ((↑(ByteArray.size s) : Int) - (1 : Int)) - (1 : Int))) == (13 : Int))
            (Tr.br
              (decide ((0 : Int) ≤ IntKind.wrap IntKind.i64 (IntKind.wrap IntKind.i64 ((↑(ByteArray.size s) : Int) - (1 : Int)) - (1 : Int))) &&
                  decide (IntKind.wrap IntKind.i64 (IntKind.wrap IntKind.i64 ((↑(ByteArray.size s) : Int) - (1 : Int)) - (1 : Int)) ≤ (↑(ByteArray.size s) : Int)) &&
                true)
              (Tr.leaf (SV.str (ByteArray.extract s (0 : Nat) (Int.toNat (IntKind.wrap IntKind.i64 (IntKind.wrap IntKind.i64 ((↑(ByteArray.size s) : Int) - (1 : Int)) - (1 : Int))))))) Tr.no)
            (Tr.br
              (decide ((0 : Int) ≤ IntKind.wrap IntKind.i64 ((↑(ByteArray.size s) : Int) - (1 : Int))) && decide (IntKind.wrap IntKind.i64 ((↑(ByteArray.size s) : Int) - (1 : Int)) ≤ (↑(ByteArray.size s) : Int)) && true)
              (Tr.leaf (SV.str (ByteArray.extract s (0 : Nat) (Int.toNat (IntKind.wrap IntKind.i64 ((↑(ByteArray.size s) : Int) - (1 : Int))))))) Tr.no))
          Tr.no)
        (Tr.br
          (decide ((0 : Int) ≤ IntKind.wrap IntKind.i64 ((↑(ByteArray.size s) : Int) - (1 : Int))) && decide (IntKind.wrap IntKind.i64 ((↑(ByteArray.size s) : Int) - (1 : Int)) ≤ (↑(ByteArray.size s) : Int)) && true)
          (Tr.leaf (SV.str (ByteArray.extract s (0 : Nat) (Int.toNat (IntKind.wrap IntKind.i64 ((↑(ByteArray.size s) : Int) - (1 : Int))))))) Tr.no))
      (Tr.br (decide ((↑(ByteArray.size s) : Int) ≤ (↑(ByteArray.size s) : Int)) && true) (Tr.leaf (SV.str (ByteArray.extract s (0 : Nat) (Int.toNat (↑(ByteArray.size s) : Int))))) Tr.no))
    Tr.no)
  (Tr.br (decide ((↑(ByteArray.size s) : Int) ≤ (↑(ByteArray.size s) : Int)) && true) (Tr.leaf (SV.str (ByteArray.extract s (0 : Nat) (Int.toNat (↑(ByteArray.size s) : Int))))) Tr.no)
theorem f74_eq (fu : Nat) (s : ByteArray) : evFun f74_X fu Tryz.f74 (frz f74_X.Ty Tryz.f74) [.str s] [] [] = (f74_T s).opt1 := by kernel_rfl

noncomputable def g5 : List SV → Option (Bool × SV)
  | [.lst 5 b] => gOf (f5_T b)
  | _ => none
theorem f5_ok : SpecOk zE 5 (.plain g5) :=
  plain_of_run (zfx_ok zLib_ok [] f5_live) (fn := Tryz.f5) (by kernel_rfl) (by decide) (by rfl) (plain_of_g (f := 5) (zfx_ok zLib_ok [] f5_live) (fn := Tryz.f5) (by kernel_rfl) (by decide) (by rfl) (fun args => by
    unfold g5
    split
    · exact .inr ⟨0, _, rfl, rfl, f5_eq 0 _⟩
    · exact .inl rfl))

noncomputable def g39 : List SV → Option (Bool × SV)
  | [.lst 5 b, .lst 5 [.int .u8 10]] => gOf (f39_T b)
  | _ => none
theorem f39_ok : SpecOk zE 39 (.look (lookOf (tyOf Tryz.prog) g39)) :=
  look_of_run (zfx_ok zLib_ok [] f39_live) (fn := Tryz.f39) (by kernel_rfl) (by decide) (by rfl) (plain_of_g (f := 39) (zfx_ok zLib_ok [] f39_live) (fn := Tryz.f39) (by kernel_rfl) (by decide) (by rfl) (fun args => by
    unfold g39
    split
    · exact .inr ⟨0, _, rfl, rfl, f39_eq 0 _⟩
    · exact .inl rfl))

noncomputable def g63 : List SV → Option (Bool × SV)
  | [.str s] => gOf (f63_T s)
  | _ => none
theorem f63_ok : SpecOk zE 63 (.plain g63) :=
  plain_of_run (zfx_ok zLib_ok [] f63_live) (fn := Tryz.f63) (by kernel_rfl) (by decide) (by rfl) (plain_of_g (f := 63) (zfx_ok zLib_ok [] f63_live) (fn := Tryz.f63) (by kernel_rfl) (by decide) (by rfl) (fun args => by
    unfold g63
    split
    · exact .inr ⟨0, _, rfl, rfl, f63_eq 0 _⟩
    · exact .inl rfl))

noncomputable def g106 : List SV → Option (Bool × SV)
  | [.int .u8 c] => gOf (f106_T c)
  | _ => none
theorem f106_ok : SpecOk zE 106 (.plain g106) :=
  plain_of_run (zfx_ok zLib_ok [] f106_live) (fn := Tryz.f106) (by kernel_rfl) (by decide) (by rfl) (plain_of_g (f := 106) (zfx_ok zLib_ok [] f106_live) (fn := Tryz.f106) (by kernel_rfl) (by decide) (by rfl) (fun args => by
    unfold g106
    split
    · exact .inr ⟨0, _, rfl, rfl, f106_eq 0 _⟩
    · exact .inl rfl))

noncomputable def g108 : List SV → Option (Bool × SV)
  | [.int .u8 c] => gOf (f108_T c)
  | _ => none
theorem f108_ok : SpecOk zE 108 (.plain g108) :=
  plain_of_run (zfx_ok zLib_ok [] f108_live) (fn := Tryz.f108) (by kernel_rfl) (by decide) (by rfl) (plain_of_g (f := 108) (zfx_ok zLib_ok [] f108_live) (fn := Tryz.f108) (by kernel_rfl) (by decide) (by rfl) (fun args => by
    unfold g108
    split
    · exact .inr ⟨0, _, rfl, rfl, f108_eq 0 _⟩
    · exact .inl rfl))

noncomputable def g74 : List SV → Option (Bool × SV)
  | [.str s] => gOf (f74_T s)
  | _ => none
theorem f74_ok : SpecOk zE 74 (.plain g74) :=
  plain_of_run (zfx_ok zLib_ok [] f74_live) (fn := Tryz.f74) (by kernel_rfl) (by decide) (by rfl) (plain_of_g (f := 74) (zfx_ok zLib_ok [] f74_live) (fn := Tryz.f74) (by kernel_rfl) (by decide) (by rfl) (fun args => by
    unfold g74
    split
    · exact .inr ⟨0, _, rfl, rfl, f74_eq 0 _⟩
    · exact .inl rfl))

end Sx

/-
  No more octets than are looked at; the n-th within a part; how many line feeds.
-/
set_option linter.unusedVariables false
set_option linter.unusedSimpArgs false
namespace Sx
open Go Go.Proofs

def gFew : List SV → Option (Bool × SV)
  | [.lst 5 l] => some (true, .lst 5 (l.take 1200))
  | _ => none
theorem zFew_ok : SpecOk zE 5 (.plain gFew) := by
  refine plain_of_run (zfx_ok zLib_ok [] f5_live) (fn := Tryz.f5) (by kernel_rfl) (by decide) (by rfl) (fun args sv h => ?_)
  unfold gFew at h
  split at h
  · rename_i l
    simp only [Option.some.injEq, Prod.mk.injEq, true_and] at h
    subst h
    refine ⟨rfl, rfl, 0, ?_⟩
    show evFun f5_X 0 Tryz.f5 (frz f5_X.Ty Tryz.f5) [.lst 5 l] [] [] = _
    rw [f5_eq]
    unfold f5_T
    by_cases h : (l.length : Int) > 1200
    · have h2 : (1200 : Int) ≤ (l.length : Int) := by omega
      simp only [decide_eq_true h, decide_eq_true h2, cond_true, Bool.and_true, Tr.opt1, List.drop_zero]
    · simp only [decide_eq_false h, cond_false, Tr.opt1]
      rw [List.take_of_length_le (by omega)]
  · cases h

theorem zgetD_at {l : List SV} {i : Nat} (hlt : i < l.length) : List.getD l i SV.dead = l[i] := by rw [List.getD_eq_getElem?_getD, List.getElem?_eq_getElem hlt]; rfl
def upZ (x : SV) : Int := asInt (List.getD (cellsOf x) 7 SV.dead)
/-- The places of those that are within one. -/
def kidsZ (i : Int) : List SV → Int → List Int
  | [], _ => []
  | x :: l, k => bif upZ x == i then k :: kidsZ i l (k + 1) else kidsZ i l (k + 1)
def nthZ (l : List Int) (n : Int) : Int := if 1 ≤ n ∧ n ≤ l.length then l.getD (n.toNat - 1) 0 else -1
def okN (n : Int) : Bool := decide (-9223372036854775808 ≤ n) && decide (n ≤ 9223372036854775807)
def gKid : List SV → Option (Bool × SV)
  | [.lst 27 l, .int .i64 i, .int .i64 n] => some (Nat.ble l.length 1000000 && okN n, .int .i64 (nthZ (kidsZ i l 0) n))
  | _ => none
theorem kidsZ_len (i : Int) : ∀ (l : List SV) (k : Int), (kidsZ i l k).length ≤ l.length
  | [], _ => Nat.le_refl _
  | x :: l, k => by
    simp only [kidsZ, cond_eq_ite]
    have := kidsZ_len i l (k + 1)
    split <;> simp <;> omega
theorem L7_is (fu : Nat) (l : List SV) (i : Int) (hl : l.length ≤ 1000000) : ∀ (k j m : Nat) (n : Int), j + k = l.length → k < m → -9223372036854775808 ≤ n → n ≤ 9223372036854775807 →
    f7_L2 fu m i n l (l.length : Int) (j : Int) = some (.int .i64 (nthZ (kidsZ i (l.drop j) j) n))
  | 0, j, m, n, hj, hm, hn, hn2 => by
    obtain ⟨m, rfl⟩ : ∃ m', m = m' + 1 := ⟨m - 1, by omega⟩
    have h1 : ¬ ((j : Int) < (l.length : Int)) := by omega
    rw [f7_L2_eq]
    simp only [h1, decide_false, cond_false]
    rw [List.drop_of_length_le (by omega)]
    unfold nthZ
    rw [if_neg (by simp [kidsZ]; omega)]
  | k + 1, j, m, n, hj, hm, hn, hn2 => by
    obtain ⟨m, rfl⟩ : ∃ m', m = m' + 1 := ⟨m - 1, by omega⟩
    have hlt : j < l.length := by omega
    have h1 : (j : Int) < (l.length : Int) := by omega
    have h2 : (0 : Int) ≤ (j : Int) := by omega
    have w1 : IntKind.wrap .i64 ((j : Int) + 1) = ((j + 1 : Nat) : Int) := by rw [wrap_i64 (by omega) (by omega)]; omega
    rw [f7_L2_eq, w1]
    simp only [h1, h2, decide_true, cond_true, Bool.and_self, Int.toNat_natCast, zgetD_at hlt]
    rw [List.drop_eq_getElem_cons hlt]
    have e1 : asInt (List.getD (cellsOf l[j]) 7 SV.dead) = upZ l[j] := rfl
    rw [e1]
    have e2 : ((j : Int) + 1) = ((j + 1 : Nat) : Int) := by omega
    simp only [kidsZ, e2]
    have hkl := kidsZ_len i (l.drop (j + 1)) ((j + 1 : Nat) : Int)
    have hdl : (l.drop (j + 1)).length ≤ 1000000 := by rw [List.length_drop]; omega
    cases hu : upZ l[j] == i with
    | false =>
      simp only [cond_false]
      exact L7_is fu l i hl k (j + 1) m n (by omega) (by omega) hn hn2
    | true =>
      simp only [cond_true]
      generalize hK : kidsZ i (l.drop (j + 1)) ((j + 1 : Nat) : Int) = K at hkl
      by_cases hlow : n = -9223372036854775808
      · have w2 : IntKind.wrap .i64 (n - 1) = 9223372036854775807 := by rw [hlow]; rfl
        rw [w2]
        have e3 : ((9223372036854775807 : Int) == 0) = false := by rfl
        rw [e3, cond_false, L7_is fu l i hl k (j + 1) m _ (by omega) (by omega) (by omega) (by omega), hK]
        unfold nthZ
        rw [if_neg (by omega), if_neg (by omega)]
      · have w2 : IntKind.wrap .i64 (n - 1) = n - 1 := wrap_i64 (by omega) (by omega)
        rw [w2]
        by_cases h0 : n = 1
        · subst h0
          have : ((1 : Int) - 1 == 0) = true := by rfl
          rw [this, cond_true]
          unfold nthZ
          rw [if_pos (by simp; omega)]
          rfl
        · have : (n - 1 == 0) = false := by simp; omega
          rw [this, cond_false, L7_is fu l i hl k (j + 1) m _ (by omega) (by omega) (by omega) (by omega), hK]
          unfold nthZ
          simp only [List.length_cons]
          by_cases c : 1 ≤ n - 1 ∧ n - 1 ≤ (K.length : Int)
          · rw [if_pos c, if_pos (by omega)]
            have : n.toNat - 1 = ((n - 1).toNat - 1) + 1 := by omega
            rw [this, List.getD_cons_succ]
          · rw [if_neg c, if_neg (by omega)]
theorem zKid_ok : SpecOk zE 7 (.plain gKid) := by
  refine plain_of_run (zfx_ok zLib_ok [] f7_live) (fn := Tryz.f7) (by kernel_rfl) (by decide) (by rfl) (fun args sv h => ?_)
  unfold gKid at h
  split at h
  · rename_i l i n
    simp only [Option.some.injEq, Prod.mk.injEq, Bool.and_eq_true] at h
    obtain ⟨⟨h1, h2⟩, rfl⟩ := h
    have h1 := Nat.le_of_ble_eq_true h1
    unfold okN at h2
    simp only [Bool.and_eq_true, decide_eq_true_eq] at h2
    refine ⟨rfl, rfl, 1000001, ?_⟩
    show evFun f7_X 1000001 Tryz.f7 (frz f7_X.Ty Tryz.f7) [.lst 27 l, .int .i64 i, .int .i64 n] [] [] = _
    rw [f7_eq]
    exact L7_is 1000001 l i h1 l.length 0 1000001 n (by omega) (by omega) h2.1 h2.2
  · cases h
def intsK (l : List Int) : List SV := l.map (SV.int .i64)
theorem intsK_len (l : List Int) : (intsK l).length = l.length := by simp [intsK]
theorem L8_is (fu : Nat) (l : List SV) (i n : Int) (hl : l.length ≤ 1000000) (hn : -9223372036854775808 ≤ n) (hn2 : n ≤ 9223372036854775807) : ∀ (k j m : Nat) (zs : List Int), j + k = l.length → k < m → zs.length ≤ j →
    f8_L3 fu m l i n (j : Int) (intsK zs) = some (.int .i64 (nthZ (zs ++ kidsZ i (l.drop j) j) n))
  | 0, j, m, zs, hj, hm, hz => by
    obtain ⟨m, rfl⟩ : ∃ m', m = m' + 1 := ⟨m - 1, by omega⟩
    have h1 : ¬ ((j : Int) < (l.length : Int)) := by omega
    rw [f8_L3_eq]
    simp only [h1, decide_false, cond_false, intsK_len]
    rw [List.drop_of_length_le (by omega)]
    unfold nthZ
    simp only [kidsZ, List.append_nil]
    by_cases c1 : n < 1
    · simp only [c1, decide_true, cond_true]
      rw [if_neg (by omega)]
    · by_cases c2 : n > (zs.length : Int)
      · simp only [c1, c2, decide_true, decide_false, cond_true, cond_false]
        rw [if_neg (by omega)]
      · have w2 : IntKind.wrap .i64 (n - 1) = n - 1 := wrap_i64 (by omega) (by omega)
        have h3 : (0 : Int) ≤ n - 1 := by omega
        have h4 : n - 1 < (zs.length : Int) := by omega
        simp only [c1, c2, w2, h3, h4, decide_true, decide_false, cond_true, cond_false, Bool.and_self]
        rw [if_pos (by omega)]
        have hlt : (n - 1).toNat < zs.length := by omega
        have e : n.toNat - 1 = (n - 1).toNat := by omega
        rw [e]
        have e1 : List.getD (intsK zs) (n - 1).toNat SV.dead = SV.int .i64 zs[(n - 1).toNat] := by
          rw [List.getD_eq_getElem?_getD, intsK, List.getElem?_map, List.getElem?_eq_getElem hlt]
          rfl
        have e2 : zs.getD (n - 1).toNat 0 = zs[(n - 1).toNat] := by
          rw [List.getD_eq_getElem?_getD, List.getElem?_eq_getElem hlt]
          rfl
        rw [e1, e2]
        rfl
  | k + 1, j, m, zs, hj, hm, hz => by
    obtain ⟨m, rfl⟩ : ∃ m', m = m' + 1 := ⟨m - 1, by omega⟩
    have hlt : j < l.length := by omega
    have h1 : (j : Int) < (l.length : Int) := by omega
    have h2 : (0 : Int) ≤ (j : Int) := by omega
    have w1 : IntKind.wrap .i64 ((j : Int) + 1) = ((j + 1 : Nat) : Int) := by rw [wrap_i64 (by omega) (by omega)]; omega
    have r1 : (zs.length + 1) * 8 ≤ 140737488355328 := by omega
    have r2 : zs.length + 1 ≤ 9223372036854775807 := by omega
    rw [f8_L3_eq, w1]
    simp only [h1, h2, decide_true, cond_true, Bool.and_self, Int.toNat_natCast, zgetD_at hlt, intsK_len, r1, r2]
    rw [List.drop_eq_getElem_cons hlt]
    have e1 : asInt (List.getD (cellsOf l[j]) 7 SV.dead) = upZ l[j] := rfl
    rw [e1]
    have e2 : ((j : Int) + 1) = ((j + 1 : Nat) : Int) := by omega
    simp only [kidsZ, e2]
    cases hu : upZ l[j] == i with
    | false =>
      simp only [cond_false]
      exact L8_is fu l i n hl hn hn2 k (j + 1) m zs (by omega) (by omega) (by omega)
    | true =>
      simp only [cond_true]
      rw [show intsK zs ++ [SV.int .i64 (j : Int)] = intsK (zs ++ [(j : Int)]) by simp [intsK]]
      rw [L8_is fu l i n hl hn hn2 k (j + 1) m _ (by omega) (by omega) (by simp; omega), List.append_assoc]
      rfl
theorem zRKid_ok : SpecOk zE 8 (.plain gKid) := by
  refine plain_of_run (zfx_ok zLib_ok [] f8_live) (fn := Tryz.f8) (by kernel_rfl) (by decide) (by rfl) (fun args sv h => ?_)
  unfold gKid at h
  split at h
  · rename_i l i n
    simp only [Option.some.injEq, Prod.mk.injEq, Bool.and_eq_true] at h
    obtain ⟨⟨h1, h2⟩, rfl⟩ := h
    have h1 := Nat.le_of_ble_eq_true h1
    unfold okN at h2
    simp only [Bool.and_eq_true, decide_eq_true_eq] at h2
    refine ⟨rfl, rfl, 1000001, ?_⟩
    show evFun f8_X 1000001 Tryz.f8 (frz f8_X.Ty Tryz.f8) [.lst 27 l, .int .i64 i, .int .i64 n] [] [] = _
    rw [f8_eq]
    have := L8_is 1000001 l i n h1 h2.1 h2.2 l.length 0 1000001 [] (by omega) (by omega) (by simp)
    rw [show ((0 : Nat) : Int) = 0 from rfl, List.drop_zero, List.nil_append] at this
    exact this
  · cases h
end Sx

/-
  A text's lines: there are some, none is empty, and their lengths add up to the text's.
-/
set_option linter.unusedVariables false
set_option linter.unusedSimpArgs false
namespace Sx
open Go Go.Proofs

/-- Texts that are not empty. -/
def LinesOk (l : List SV) : Prop := ∀ x ∈ l, ∃ t : ByteArray, x = .str t ∧ 0 < t.size
def sumS : List SV → Nat
  | [] => 0
  | x :: l => (asStr x).size + sumS l
theorem sumS_app : ∀ (l k : List SV), sumS (l ++ k) = sumS l + sumS k
  | [], k => by simp [sumS]
  | x :: l, k => by simp only [List.cons_append, sumS, sumS_app l k]; omega
theorem LinesOk.app {l k : List SV} (h : LinesOk l) (h' : LinesOk k) : LinesOk (l ++ k) := fun x hx => (List.mem_append.1 hx).elim (h x) (h' x)
theorem lines_one {t : ByteArray} (h : 0 < t.size) : LinesOk [.str t] := fun x hx => ⟨t, List.mem_singleton.1 hx, h⟩
theorem L62_is (fu : Nat) (s : ByteArray) (hs : s.size ≤ 1000000) : ∀ (k a i m : Nat) (out : List SV), i + k = s.size → k < m → a ≤ i → LinesOk out → sumS out = a → out.length ≤ a →
    ∃ l, f62_L4 fu m s (a : Int) (i : Int) out = some (.lst 9 l) ∧ LinesOk l ∧ sumS l = s.size ∧ l.length ≤ s.size
  | 0, a, i, m, out, hi, hm, ha, ho, hsum, hlen => by
    obtain ⟨m, rfl⟩ : ∃ m', m = m' + 1 := ⟨m - 1, by omega⟩
    have h1 : ¬ ((i : Int) < (s.size : Int)) := by omega
    have r1 : (out.length + 1) * 16 ≤ 140737488355328 := by omega
    have r2 : out.length + 1 ≤ 9223372036854775807 := by omega
    rw [f62_L4_eq]
    by_cases c : a < s.size
    · have h2 : (a : Int) < (s.size : Int) := by omega
      have h3 : (0 : Int) ≤ (a : Int) := by omega
      have h4 : (a : Int) ≤ (s.size : Int) := by omega
      have hsz : (s.extract a s.size).size = s.size - a := by rw [ByteArray.size_extract]; omega
      simp only [h1, h2, h3, h4, r1, r2, decide_true, decide_false, cond_true, cond_false, Bool.and_self, Int.toNat_natCast]
      refine ⟨_, rfl, ho.app (lines_one (by rw [hsz]; omega)), ?_, by simp; omega⟩
      rw [sumS_app]
      simp only [sumS, asStr, hsz]
      omega
    · have h2 : ¬ ((a : Int) < (s.size : Int)) := by omega
      simp only [h1, h2, decide_false, cond_false]
      exact ⟨_, rfl, ho, by omega, by omega⟩
  | k + 1, a, i, m, out, hi, hm, ha, ho, hsum, hlen => by
    obtain ⟨m, rfl⟩ : ∃ m', m = m' + 1 := ⟨m - 1, by omega⟩
    have h1 : (i : Int) < (s.size : Int) := by omega
    have h2 : (0 : Int) ≤ (i : Int) := by omega
    have h3 : (0 : Int) ≤ (a : Int) := by omega
    have w1 : IntKind.wrap .i64 ((i : Int) + 1) = ((i + 1 : Nat) : Int) := by rw [wrap_i64 (by omega) (by omega)]; omega
    have h4 : (0 : Int) ≤ ((i + 1 : Nat) : Int) := by omega
    have h5 : ((i + 1 : Nat) : Int) ≤ (s.size : Int) := by omega
    have h6 : (a : Int) ≤ ((i + 1 : Nat) : Int) := by omega
    have r1 : (out.length + 1) * 16 ≤ 140737488355328 := by omega
    have r2 : out.length + 1 ≤ 9223372036854775807 := by omega
    have hsz : (s.extract a (i + 1)).size = i + 1 - a := by rw [ByteArray.size_extract]; omega
    rw [f62_L4_eq, w1]
    simp only [h1, h2, h3, h4, h5, h6, r1, r2, decide_true, cond_true, Bool.and_self, Int.toNat_natCast]
    cases bAt s (i : Int) == 10 with
    | false =>
      simp only [cond_false]
      exact L62_is fu s hs k a (i + 1) m out (by omega) (by omega) (by omega) ho hsum hlen
    | true =>
      simp only [cond_true]
      refine L62_is fu s hs k (i + 1) (i + 1) m _ (by omega) (by omega) (by omega) (ho.app (lines_one (by rw [hsz]; omega))) ?_ (by simp; omega)
      rw [sumS_app]
      simp only [sumS, asStr, hsz]
      omega
/-- What the lines are: as the code tells them. -/
noncomputable def cutR (s : ByteArray) : Option SV := evFun f62_X 1000001 Tryz.f62 (frz f62_X.Ty Tryz.f62) [.str s] [] []
def lstV : Option SV → List SV | some (.lst _ l) => l | _ => []
theorem cutR_is (s : ByteArray) (hs : s.size ≤ 1000000) : cutR s = some (.lst 9 (lstV (cutR s))) ∧ LinesOk (lstV (cutR s)) ∧ sumS (lstV (cutR s)) = s.size ∧ (lstV (cutR s)).length ≤ s.size := by
  have := L62_is 1000001 s hs s.size 0 0 1000001 [] (by omega) (by omega) (by omega) (fun x hx => by cases hx) rfl (by simp)
  obtain ⟨l, h1, h2, h3, h4⟩ := this
  have e : cutR s = some (.lst 9 l) := (f62_eq 1000001 s).trans h1
  rw [e]
  exact ⟨rfl, h2, h3, h4⟩
noncomputable def gCutL : List SV → Option (Bool × SV)
  | [.str s] => some (Nat.ble s.size 1000000, .lst 9 (lstV (cutR s)))
  | _ => none
theorem zCutL_ok : SpecOk zE 62 (.plain gCutL) := by
  refine plain_of_run (zfx_ok zLib_ok [] f62_live) (fn := Tryz.f62) (by kernel_rfl) (by decide) (by rfl) (fun args sv h => ?_)
  unfold gCutL at h
  split at h
  · rename_i s
    simp only [Option.some.injEq, Prod.mk.injEq] at h
    obtain ⟨h1, rfl⟩ := h
    exact ⟨rfl, rfl, 1000001, (cutR_is s (Nat.le_of_ble_eq_true h1)).1⟩
  · cases h
/-! ### small ones -/
def gEmpty : List SV → Option (Bool × SV)
  | [.str s] => some (true, .bool (s.toList == [10] || s.toList == [13, 10]))
  | _ => none
def gBlank : List SV → Option (Bool × SV)
  | [.int .u8 c] => some (true, .bool (c == 32 || c == 9))
  | _ => none
theorem zBlank_ok : SpecOk zE 106 (.plain gBlank) := by
  refine plain_of_run (zfx_ok zLib_ok [] f106_live) (fn := Tryz.f106) (by kernel_rfl) (by decide) (by rfl) (fun args sv h => ?_)
  unfold gBlank at h
  split at h
  · rename_i c
    simp only [Option.some.injEq, Prod.mk.injEq, true_and] at h
    subst h
    refine ⟨rfl, rfl, 0, ?_⟩
    show evFun f106_X 0 Tryz.f106 (frz f106_X.Ty Tryz.f106) [.int .u8 c] [] [] = _
    rw [f106_eq]
    unfold f106_T
    cases c == 32 <;> rfl
  · cases h
end Sx

/-
  What the executor says of functions: the normal forms, each compared by the kernel. (Printed by a program.)
-/
set_option linter.unusedVariables false
namespace Sx
open Go Go.Proofs
noncomputable def zT4 : List (Nat × Spec) := (39, .look (lookOf (tyOf Tryz.prog) g39)) :: zLib
theorem zT4_ok : SpecsOk zE (ofList zT4) := .cons f39_ok zLib_ok
set_option maxRecDepth 100000
/-- The slots that are needed at the loops' heads of 'hamper/head.Lines'. -/
noncomputable def f19_live : Nat → List Nat × List (Nat × TypeId) := fun h => ([], [])
noncomputable def f19_X : Fx := ⟨tyOf Tryz.prog, ofList zT4, [], f19_live⟩
noncomputable def f19_T (b : List SV) : Tr SV := Tr.leaf (SV.int IntKind.i64 (↑(Lib.countByte (octsOf b) (Nat.toUInt8 (10 : Nat))) : Int))
theorem f19_eq (fu : Nat) (b : List SV) : evFun f19_X fu Tryz.f19 (frz f19_X.Ty Tryz.f19) [.lst 5 b] [] [] = (f19_T b).opt1 := by kernel_rfl

noncomputable def g19 : List SV → Option (Bool × SV)
  | [.lst 5 b] => gOf (f19_T b)
  | _ => none
theorem f19_ok : SpecOk zE 19 (.plain g19) :=
  plain_of_run (zfx_ok zT4_ok [] f19_live) (fn := Tryz.f19) (by kernel_rfl) (by decide) (by rfl) (plain_of_g (f := 19) (zfx_ok zT4_ok [] f19_live) (fn := Tryz.f19) (by kernel_rfl) (by decide) (by rfl) (fun args => by
    unfold g19
    split
    · exact .inr ⟨0, _, rfl, rfl, f19_eq 0 _⟩
    · exact .inl rfl))

end Sx

/-
  What the executor says of functions: the normal forms, each compared by the kernel. (Printed by a program.)
-/
set_option linter.unusedVariables false
namespace Sx
open Go Go.Proofs
noncomputable def zT5 : List (Nat × Spec) := (19, .plain g19) :: zT4
theorem zT5_ok : SpecsOk zE (ofList zT5) := .cons f19_ok zT4_ok
set_option maxRecDepth 100000
/-- The slots that are needed at the loops' heads of 'hamper/part.Lines'. -/
noncomputable def f9_live : Nat → List Nat × List (Nat × TypeId) := fun h => ([], [])
noncomputable def f9_X : Fx := ⟨tyOf Tryz.prog, ofList zT5, [], f9_live⟩
noncomputable def f9_T (b : List SV) (k : Int) (f : Int) (d : Int) (t : Int) (x : ByteArray) (y : ByteArray) (ps : List SV) (u : Int) (c : Int) : Tr SV := Tr.br (decide (d < (0 : Int))) (Tr.leaf (SV.int IntKind.i64 (0 : Int)))
  (Tr.br (decide (t < d)) (Tr.leaf (SV.int IntKind.i64 (0 : Int)))
    (Tr.br (decide (t > (↑(List.length b) : Int))) (Tr.leaf (SV.int IntKind.i64 (0 : Int)))
      (Tr.br (decide ((0 : Int) ≤ t) && decide (t ≤ (↑(List.length b) : Int)) && (decide ((0 : Int) ≤ d) && decide (d ≤ t)))
        (Tr.leaf (SV.int IntKind.i64 (↑(Lib.countByte (octsOf (List.drop (Int.toNat d) (List.take (Int.toNat t) b))) (Nat.toUInt8 (10 : Nat))) : Int))) Tr.no)))
theorem f9_eq (fu : Nat) (b : List SV) (k : Int) (f : Int) (d : Int) (t : Int) (x : ByteArray) (y : ByteArray) (ps : List SV) (u : Int) (c : Int) : evFun f9_X fu Tryz.f9 (frz f9_X.Ty Tryz.f9) [.lst 5 b, .agg [.int .i64 k, .int .i64 f, .int .i64 d, .int .i64 t, .str x, .str y, .lst 127 ps, .int .i64 u, .int .i64 c]] [] [] = (f9_T b k f d t x y ps u c).opt1 := by kernel_rfl

noncomputable def g9 : List SV → Option (Bool × SV)
  | [.lst 5 b, .agg [.int .i64 k, .int .i64 f, .int .i64 d, .int .i64 t, .str x, .str y, .lst 127 ps, .int .i64 u, .int .i64 c]] => gOf (f9_T b k f d t x y ps u c)
  | _ => none
theorem f9_ok : SpecOk zE 9 (.plain g9) :=
  plain_of_run (zfx_ok zT5_ok [] f9_live) (fn := Tryz.f9) (by kernel_rfl) (by decide) (by rfl) (plain_of_g (f := 9) (zfx_ok zT5_ok [] f9_live) (fn := Tryz.f9) (by kernel_rfl) (by decide) (by rfl) (fun args => by
    unfold g9
    split
    · exact .inr ⟨0, _, rfl, rfl, f9_eq 0 _ _ _ _ _ _ _ _ _ _⟩
    · exact .inl rfl))

end Sx

/-
  What the executor says of functions: the normal forms, each compared by the kernel. (Printed by a program.)
-/
set_option linter.unusedVariables false
namespace Sx
open Go Go.Proofs
noncomputable def zT6 : List (Nat × Spec) := (106, .plain gBlank) :: (62, .plain gCutL) :: (63, .plain g63) :: (108, .plain g108) :: zT5
theorem zT6_ok : SpecsOk zE (ofList zT6) := .cons zBlank_ok (.cons zCutL_ok (.cons f63_ok (.cons f108_ok zT5_ok)))
set_option maxRecDepth 100000
/-- The slots that are needed at the loops' heads of 'hamper/hamperref17.name'. -/
noncomputable def f107_live : Nat → List Nat × List (Nat × TypeId) := fun h => bif Nat.beq h 5 then ([0, 4, 5], nilsOf (tyOf Tryz.prog) [(0, 9), (4, 3), (5, 3)]) else bif Nat.beq h 2 then ([0, 4], nilsOf (tyOf Tryz.prog) [(0, 9), (4, 3)]) else ([], [])
noncomputable def f107_X : Fx := ⟨tyOf Tryz.prog, ofList zT6, [], f107_live⟩
/-- The slots that are needed at the loops' heads of 'hamper/hamperref17.Trim'. -/
noncomputable def f109_live : Nat → List Nat × List (Nat × TypeId) := fun h => bif Nat.beq h 3 then ([0], nilsOf (tyOf Tryz.prog) [(0, 9)]) else bif Nat.beq h 1 then ([0], nilsOf (tyOf Tryz.prog) [(0, 9)]) else ([], [])
noncomputable def f109_X : Fx := ⟨tyOf Tryz.prog, ofList zT6, [], f109_live⟩
/-- The slots that are needed at the loops' heads of 'hamper/hamperref17.Split'. -/
noncomputable def f34_live : Nat → List Nat × List (Nat × TypeId) := fun h => bif Nat.beq h 4 then ([3, 4, 5], nilsOf (tyOf Tryz.prog) [(3, 3), (4, 39), (5, 3)]) else ([], [])
noncomputable def f34_X : Fx := ⟨tyOf Tryz.prog, ofList zT6, [], f34_live⟩
/-- The slots that are needed at the loops' heads of 'hamper/hamperref16.Alike'. -/
noncomputable def f65_live : Nat → List Nat × List (Nat × TypeId) := fun h => bif Nat.beq h 4 then ([0, 1, 5], nilsOf (tyOf Tryz.prog) [(0, 9), (1, 9), (5, 3)]) else ([], [])
noncomputable def f65_X : Fx := ⟨tyOf Tryz.prog, ofList zT6, [], f65_live⟩
def f107_st5 (x0 : ByteArray) (x1 : Int) (x2 : Int) : St := St.mk
  [SV.str x0, SV.dead, SV.dead, SV.dead, SV.int IntKind.i64 x1, SV.int IntKind.i64 x2, SV.dead, SV.dead, SV.dead, SV.dead, SV.dead, SV.dead, SV.dead, SV.dead, SV.dead, SV.dead, SV.dead, SV.dead, SV.dead, SV.dead,
    SV.dead, SV.dead, SV.dead, SV.dead, SV.dead, SV.dead, SV.dead, SV.dead, SV.dead, SV.dead, SV.dead, SV.dead, SV.dead, SV.dead, SV.dead, SV.dead, SV.dead, SV.dead, SV.dead, SV.dead, SV.dead, SV.dead, SV.dead, SV.dead,
    SV.dead, SV.dead, SV.dead, SV.dead, SV.dead, SV.dead, SV.dead, SV.dead, SV.dead, SV.dead, SV.dead]
  [] []
noncomputable def f107_L5 (fu fm : Nat) (x0 : ByteArray) (x1 : Int) (x2 : Int) : Option (SV) := atLoop f107_X Tryz.f107 (frz f107_X.Ty Tryz.f107) fu [.r, .r, .r, .l, .r, .b] fm (f107_st5 x0 x1 x2)

def f107_st2 (x0 : ByteArray) (x1 : Int) : St := St.mk
  [SV.str x0, SV.dead, SV.dead, SV.dead, SV.int IntKind.i64 x1, SV.dead, SV.dead, SV.dead, SV.dead, SV.dead, SV.dead, SV.dead, SV.dead, SV.dead, SV.dead, SV.dead, SV.dead, SV.dead, SV.dead, SV.dead, SV.dead, SV.dead,
    SV.dead, SV.dead, SV.dead, SV.dead, SV.dead, SV.dead, SV.dead, SV.dead, SV.dead, SV.dead, SV.dead, SV.dead, SV.dead, SV.dead, SV.dead, SV.dead, SV.dead, SV.dead, SV.dead, SV.dead, SV.dead, SV.dead, SV.dead, SV.dead,
    SV.dead, SV.dead, SV.dead, SV.dead, SV.dead, SV.dead, SV.dead, SV.dead, SV.dead]
  [] []
noncomputable def f107_L2 (fu fm : Nat) (x0 : ByteArray) (x1 : Int) : Option (SV) := atLoop f107_X Tryz.f107 (frz f107_X.Ty Tryz.f107) fu [.r, .r, .l, .b] fm (f107_st2 x0 x1)

theorem f107_L5_eq (fu fm : Nat) (x0 : ByteArray) (x1 : Int) (x2 : Int) : f107_L5 fu (fm + 1) x0 x1 x2 = bif decide (x1 > (0 : Int)) then
  bif decide (x2 < (↑(ByteArray.size x0) : Int)) then
    bif decide ((0 : Int) ≤ x2) && decide (x2 < (↑(ByteArray.size x0) : Int)) then
      bif bAt x0 x2 == (58 : Int) then
        bif decide ((0 : Int) ≤ x1) && decide (x1 ≤ (↑(ByteArray.size x0) : Int)) && true then
          some (SV.tup [SV.str (ByteArray.extract x0 (0 : Nat) (Int.toNat x1)), SV.int IntKind.i64 (IntKind.wrap IntKind.i64 (x2 + (1 : Int)))])
        else none
      else
        bif decide ((0 : Int) ≤ x2) && decide (x2 < (↑(ByteArray.size x0) : Int)) then
          bif !(bAt x0 x2 == (32 : Int) || bAt x0 x2 == (9 : Int)) then some (SV.tup [SV.str (ByteArray.mk #[]), SV.int IntKind.i64 (0 : Int)]) else f107_L5 fu fm x0 x1 (IntKind.wrap IntKind.i64 (x2 + (1 : Int)))
        else none
    else none
  else some (SV.tup [SV.str (ByteArray.mk #[]), SV.int IntKind.i64 (0 : Int)])
  else some (SV.tup [SV.str (ByteArray.mk #[]), SV.int IntKind.i64 (0 : Int)]) := by kernel_rfl

theorem f107_L2_eq (fu fm : Nat) (x0 : ByteArray) (x1 : Int) : f107_L2 fu (fm + 1) x0 x1 = bif decide (x1 < (↑(ByteArray.size x0) : Int)) then
  bif decide ((0 : Int) ≤ x1) && decide (x1 < (↑(ByteArray.size x0) : Int)) then
    bif decide ((33 : Int) ≤ bAt x0 x1) then
      bif decide ((0 : Int) ≤ x1) && decide (x1 < (↑(ByteArray.size x0) : Int)) then
        bif decide (bAt x0 x1 ≤ (126 : Int)) then
          bif decide ((0 : Int) ≤ x1) && decide (x1 < (↑(ByteArray.size x0) : Int)) then bif bAt x0 x1 != (58 : Int) then f107_L2 fu fm x0 (IntKind.wrap IntKind.i64 (x1 + (1 : Int))) else f107_L5 fu fu x0 x1 x1 else none
        else f107_L5 fu fu x0 x1 x1
      else none
    else f107_L5 fu fu x0 x1 x1
  else none
  else f107_L5 fu fu x0 x1 x1 := by kernel_rfl

theorem f107_eq (fu : Nat) (s : ByteArray) : evFun f107_X fu Tryz.f107 (frz f107_X.Ty Tryz.f107) [.str s] [] [] = f107_L2 fu fu s (0 : Int) := by kernel_rfl

def f109_st3 (x0 : ByteArray) : St := St.mk
  [SV.str x0, SV.dead, SV.dead, SV.dead, SV.dead, SV.dead, SV.dead, SV.dead, SV.dead, SV.dead, SV.dead, SV.dead, SV.dead, SV.dead, SV.dead, SV.dead, SV.dead, SV.dead, SV.dead, SV.dead, SV.dead, SV.dead, SV.dead, SV.dead,
    SV.dead, SV.dead, SV.dead, SV.dead, SV.dead, SV.dead]
  [] []
noncomputable def f109_L3 (fu fm : Nat) (x0 : ByteArray) : Option (SV) := atLoop f109_X Tryz.f109 (frz f109_X.Ty Tryz.f109) fu [.r, .r, .l, .b] fm (f109_st3 x0)

def f109_st1 (x0 : ByteArray) : St := St.mk
  [SV.str x0, SV.dead, SV.dead, SV.dead, SV.dead, SV.dead, SV.dead, SV.dead, SV.dead, SV.dead, SV.dead, SV.dead, SV.dead, SV.dead, SV.dead, SV.dead, SV.dead, SV.dead, SV.dead, SV.dead, SV.dead, SV.dead, SV.dead, SV.dead,
    SV.dead, SV.dead, SV.dead, SV.dead, SV.dead, SV.dead]
  [] []
noncomputable def f109_L1 (fu fm : Nat) (x0 : ByteArray) : Option (SV) := atLoop f109_X Tryz.f109 (frz f109_X.Ty Tryz.f109) fu [.r, .l, .b] fm (f109_st1 x0)

theorem f109_L3_eq (fu fm : Nat) (x0 : ByteArray) : f109_L3 fu (fm + 1) x0 = bif decide ((↑(ByteArray.size x0) : Int) > (0 : Int)) then
  bif decide ((0 : Int) ≤ IntKind.wrap IntKind.i64 ((↑(ByteArray.size x0) : Int) - (1 : Int))) && decide (IntKind.wrap IntKind.i64 ((↑(ByteArray.size x0) : Int) - (1 : Int)) < (↑(ByteArray.size x0) : Int)) then
    bif bAt x0 (IntKind.wrap IntKind.i64 ((↑(ByteArray.size x0) : Int) - (1 : Int))) == (32 : Int) || bAt x0 (IntKind.wrap IntKind.i64 ((↑(ByteArray.size x0) : Int) - (1 : Int))) == (9 : Int) then
      bif
          decide ((0 : Int) ≤ IntKind.wrap IntKind.i64 ((↑(ByteArray.size x0) : Int) - (1 : Int))) && decide (IntKind.wrap IntKind.i64 ((↑(ByteArray.size x0) : Int) - (1 : Int)) ≤ (↑(ByteArray.size x0) : Int)) &&
            true then
        f109_L3 fu fm (ByteArray.extract x0 (0 : Nat) (Int.toNat (IntKind.wrap IntKind.i64 ((↑(ByteArray.size x0) : Int) - (1 : Int)))))
      else none
    else some (SV.str x0)
  else none
  else some (SV.str x0) := by kernel_rfl

theorem f109_L1_eq (fu fm : Nat) (x0 : ByteArray) : f109_L1 fu (fm + 1) x0 = bif decide ((↑(ByteArray.size x0) : Int) > (0 : Int)) then
  bif decide ((0 : Int) < (↑(ByteArray.size x0) : Int)) then
    bif bAt x0 (0 : Int) == (32 : Int) || bAt x0 (0 : Int) == (9 : Int) then
      bif decide ((1 : Int) ≤ (↑(ByteArray.size x0) : Int)) then f109_L1 fu fm (ByteArray.extract x0 (1 : Nat) (Int.toNat (↑(ByteArray.size x0) : Int))) else none
    else f109_L3 fu fu x0
  else none
  else f109_L3 fu fu x0 := by kernel_rfl

theorem f109_eq (fu : Nat) (s : ByteArray) : evFun f109_X fu Tryz.f109 (frz f109_X.Ty Tryz.f109) [.str s] [] [] = f109_L1 fu fu s := by kernel_rfl

def f34_st4 (x0 : Int) (x1 : List SV) (x2 : Int) : St := St.mk
  [SV.dead, SV.dead, SV.dead, SV.int IntKind.i64 x0, SV.lst (9 : Nat) x1, SV.int IntKind.i64 x2, SV.dead, SV.dead, SV.dead, SV.dead, SV.dead, SV.dead, SV.dead, SV.dead, SV.dead, SV.dead, SV.dead, SV.dead, SV.dead,
    SV.dead, SV.dead, SV.dead, SV.dead, SV.dead, SV.dead, SV.dead, SV.dead, SV.dead]
  [] []
noncomputable def f34_L4 (fu fm : Nat) (x0 : Int) (x1 : List SV) (x2 : Int) : Option (SV) := atLoop f34_X Tryz.f34 (frz f34_X.Ty Tryz.f34) fu [.r, .r, .r, .l, .r, .b] fm (f34_st4 x0 x1 x2)

theorem f34_L4_eq (fu fm : Nat) (x0 : Int) (x1 : List SV) (x2 : Int) : f34_L4 fu (fm + 1) x0 x1 x2 = bif decide (x2 < (↑(List.length x1) : Int)) then
  bif decide ((0 : Int) ≤ x2) && decide (x2 < (↑(List.length x1) : Int)) then
    bif decide ((0 : Int) ≤ x2) && decide (x2 < (↑(List.length x1) : Int)) then
      bif (bif ByteArray.toList (asStr (List.getD (cellsOf (List.getD x1 (Int.toNat x2) SV.dead)) (0 : Nat) SV.dead)) == ByteArray.toList (ByteArray.mk #[(10 : UInt8)]) then true else true) && true then
        bif
            bif ByteArray.toList (asStr (List.getD (cellsOf (List.getD x1 (Int.toNat x2) SV.dead)) (0 : Nat) SV.dead)) == ByteArray.toList (ByteArray.mk #[(10 : UInt8)]) then true
            else ByteArray.toList (asStr (List.getD (cellsOf (List.getD x1 (Int.toNat x2) SV.dead)) (0 : Nat) SV.dead)) == ByteArray.toList (ByteArray.mk #[(13 : UInt8), (10 : UInt8)]) then
          some (SV.int IntKind.i64 (IntKind.wrap IntKind.i64 (x0 + (↑(ByteArray.size (asStr (List.getD (cellsOf (List.getD x1 (Int.toNat x2) SV.dead)) (0 : Nat) SV.dead))) : Int))))
        else f34_L4 fu fm (IntKind.wrap IntKind.i64 (x0 + (↑(ByteArray.size (asStr (List.getD (cellsOf (List.getD x1 (Int.toNat x2) SV.dead)) (0 : Nat) SV.dead))) : Int))) x1 (IntKind.wrap IntKind.i64 (x2 + (1 : Int)))
      else none
    else none
  else none
  else some (SV.int IntKind.i64 x0) := by kernel_rfl

theorem f34_eq (fu : Nat) (s : ByteArray) : evFun f34_X fu Tryz.f34 (frz f34_X.Ty Tryz.f34) [.str s] [] [] = bif Nat.ble (ByteArray.size s) (1000000 : Nat) then f34_L4 fu fu (0 : Int) (lstV (cutR s)) (0 : Int) else none := by kernel_rfl

def f65_st4 (x0 : ByteArray) (x1 : ByteArray) (x2 : Int) : St := St.mk
  [SV.str x0, SV.str x1, SV.dead, SV.dead, SV.dead, SV.int IntKind.i64 x2, SV.dead, SV.dead, SV.dead, SV.dead, SV.dead, SV.dead, SV.dead, SV.dead, SV.dead, SV.dead, SV.dead, SV.dead, SV.dead, SV.dead, SV.dead, SV.dead,
    SV.dead, SV.dead, SV.dead, SV.dead]
  [] []
noncomputable def f65_L4 (fu fm : Nat) (x0 : ByteArray) (x1 : ByteArray) (x2 : Int) : Option (SV) := atLoop f65_X Tryz.f65 (frz f65_X.Ty Tryz.f65) fu [.r, .r, .l, .r, .b] fm (f65_st4 x0 x1 x2)

theorem f65_L4_eq (fu fm : Nat) (x0 : ByteArray) (x1 : ByteArray) (x2 : Int) : f65_L4 fu (fm + 1) x0 x1 x2 = bif decide (x2 < (↑(ByteArray.size x0) : Int)) then
  bif decide ((0 : Int) ≤ x2) && decide (x2 < (↑(ByteArray.size x0) : Int)) then
    bif (bif decide ((65 : Int) ≤ bAt x0 x2) then bif decide (bAt x0 x2 ≤ (90 : Int)) then true else true else true) && true then
      bif decide ((0 : Int) ≤ x2) && decide (x2 < (↑(ByteArray.size x1) : Int)) then
        bif (bif decide ((65 : Int) ≤ bAt x1 x2) then bif decide (bAt x1 x2 ≤ (90 : Int)) then true else true else true) && true then
          bif
              (bif decide ((65 : Int) ≤ bAt x0 x2) then bif decide (bAt x0 x2 ≤ (90 : Int)) then IntKind.wrap IntKind.u8 (bAt x0 x2 + (32 : Int)) else bAt x0 x2 else bAt x0 x2) !=
                bif decide ((65 : Int) ≤ bAt x1 x2) then bif decide (bAt x1 x2 ≤ (90 : Int)) then IntKind.wrap IntKind.u8 (bAt x1 x2 + (32 : Int)) else bAt x1 x2 else bAt x1 x2 then
            some (SV.bool false)
          else f65_L4 fu fm x0 x1 (IntKind.wrap IntKind.i64 (x2 + (1 : Int)))
        else none
      else none
    else none
  else none
  else some (SV.bool true) := by kernel_rfl

theorem f65_eq (fu : Nat) (a : ByteArray) (b : ByteArray) : evFun f65_X fu Tryz.f65 (frz f65_X.Ty Tryz.f65) [.str a, .str b] [] [] = bif (↑(ByteArray.size a) : Int) != (↑(ByteArray.size b) : Int) then some (SV.bool false) else f65_L4 fu fu a b (0 : Int) := by kernel_rfl

end Sx

/-
  The document's headers: that there is an answer, and of what shape.
-/
set_option linter.unusedVariables false
set_option linter.unusedSimpArgs false
namespace Sx
open Go Go.Proofs

/-- A text no longer than that. -/
def ShortS (n : Nat) (r : Option SV) : Prop := ∃ t : ByteArray, r = some (.str t) ∧ t.size ≤ n
theorem L109b_is (fu : Nat) : ∀ (k m : Nat) (s : ByteArray), s.size = k → k ≤ 1000000 → k < m → ShortS k (f109_L3 fu m s)
  | 0, m, s, hs, hk, hm => by
    obtain ⟨m, rfl⟩ : ∃ m', m = m' + 1 := ⟨m - 1, by omega⟩
    have h1 : ¬ ((s.size : Int) > 0) := by omega
    rw [f109_L3_eq]
    simp only [h1, decide_false, cond_false]
    exact ⟨s, rfl, by omega⟩
  | k + 1, m, s, hs, hk, hm => by
    obtain ⟨m, rfl⟩ : ∃ m', m = m' + 1 := ⟨m - 1, by omega⟩
    have h1 : (s.size : Int) > 0 := by omega
    have w1 : IntKind.wrap .i64 ((s.size : Int) - 1) = (k : Int) := by rw [wrap_i64 (by omega) (by omega)]; omega
    have h2 : (0 : Int) ≤ (k : Int) := by omega
    have h3 : (k : Int) < (s.size : Int) := by omega
    have h4 : (k : Int) ≤ (s.size : Int) := by omega
    have hsz : (s.extract 0 k).size = k := by rw [ByteArray.size_extract]; omega
    rw [f109_L3_eq, w1]
    simp only [h1, h2, h3, h4, decide_true, cond_true, Bool.and_self, Int.toNat_natCast]
    cases bAt s (k : Int) == 32 || bAt s (k : Int) == 9 with
    | true =>
      simp only [cond_true]
      obtain ⟨t, h5, h6⟩ := L109b_is fu k m (s.extract 0 k) hsz (by omega) (by omega)
      exact ⟨t, h5, by omega⟩
    | false => exact ⟨s, rfl, by omega⟩
theorem L109a_is (fu : Nat) (hfu : 1000000 < fu) : ∀ (k m : Nat) (s : ByteArray), s.size = k → k ≤ 1000000 → k < m → ShortS k (f109_L1 fu m s)
  | 0, m, s, hs, hk, hm => by
    obtain ⟨m, rfl⟩ : ∃ m', m = m' + 1 := ⟨m - 1, by omega⟩
    have h1 : ¬ ((s.size : Int) > 0) := by omega
    rw [f109_L1_eq]
    simp only [h1, decide_false, cond_false]
    exact L109b_is fu 0 fu s hs (by omega) (by omega)
  | k + 1, m, s, hs, hk, hm => by
    obtain ⟨m, rfl⟩ : ∃ m', m = m' + 1 := ⟨m - 1, by omega⟩
    have h1 : (s.size : Int) > 0 := by omega
    have h2 : (0 : Int) < (s.size : Int) := by omega
    have h3 : (1 : Int) ≤ (s.size : Int) := by omega
    have hsz : (s.extract 1 s.size).size = k := by rw [ByteArray.size_extract]; omega
    rw [f109_L1_eq]
    simp only [h1, h2, h3, decide_true, cond_true, Int.toNat_natCast]
    cases bAt s 0 == 32 || bAt s 0 == 9 with
    | true =>
      simp only [cond_true]
      obtain ⟨t, h5, h6⟩ := L109a_is fu hfu k m (s.extract 1 s.size) hsz (by omega) (by omega)
      exact ⟨t, h5, by omega⟩
    | false =>
      simp only [cond_false]
      exact L109b_is fu (k + 1) fu s hs hk (by omega)
noncomputable def trimR (s : ByteArray) : Option SV := evFun f109_X 1000001 Tryz.f109 (frz f109_X.Ty Tryz.f109) [.str s] [] []
def strV : Option SV → ByteArray | some (.str t) => t | _ => ⟨#[]⟩
theorem trimR_is (s : ByteArray) (hs : s.size ≤ 1000000) : trimR s = some (.str (strV (trimR s))) ∧ (strV (trimR s)).size ≤ s.size := by
  obtain ⟨t, h1, h2⟩ := L109a_is 1000001 (by omega) s.size 1000001 s rfl hs (by omega)
  have e : trimR s = some (.str t) := (f109_eq 1000001 s).trans h1
  rw [e]; exact ⟨rfl, h2⟩
noncomputable def gTrimR : List SV → Option (Bool × SV)
  | [.str s] => some (Nat.ble s.size 1000000, .str (strV (trimR s)))
  | _ => none
theorem zTrimR_ok : SpecOk zE 109 (.plain gTrimR) := by
  refine plain_of_run (zfx_ok zT6_ok [] f109_live) (fn := Tryz.f109) (by kernel_rfl) (by decide) (by rfl) (fun args sv h => ?_)
  unfold gTrimR at h
  split at h
  · rename_i s
    simp only [Option.some.injEq, Prod.mk.injEq] at h
    obtain ⟨h1, rfl⟩ := h
    exact ⟨rfl, rfl, 1000001, (trimR_is s (Nat.le_of_ble_eq_true h1)).1⟩
  · cases h
/-- A field's name, and the place behind its colon. -/
def NameOk (s : ByteArray) (r : Option SV) : Prop := ∃ (t : ByteArray) (n : Nat), r = some (.tup [.str t, .int .i64 n]) ∧ t.size ≤ s.size ∧ n ≤ s.size
theorem name_none (s : ByteArray) : NameOk s (some (SV.tup [SV.str (ByteArray.mk #[]), SV.int IntKind.i64 (0 : Int)])) := ⟨⟨#[]⟩, 0, rfl, Nat.zero_le _, Nat.zero_le _⟩
theorem L107b_is (fu : Nat) (s : ByteArray) (hs : s.size ≤ 1000000) (n : Nat) (hn : n ≤ s.size) : ∀ (k i m : Nat), i + k = s.size → k < m → NameOk s (f107_L5 fu m s (n : Int) (i : Int))
  | 0, i, m, hi, hm => by
    obtain ⟨m, rfl⟩ : ∃ m', m = m' + 1 := ⟨m - 1, by omega⟩
    have h1 : ¬ ((i : Int) < (s.size : Int)) := by omega
    rw [f107_L5_eq]
    simp only [h1, decide_false, cond_false]
    cases decide ((n : Int) > 0) <;> exact name_none s
  | k + 1, i, m, hi, hm => by
    obtain ⟨m, rfl⟩ : ∃ m', m = m' + 1 := ⟨m - 1, by omega⟩
    have h1 : (i : Int) < (s.size : Int) := by omega
    have h2 : (0 : Int) ≤ (i : Int) := by omega
    have h3 : (0 : Int) ≤ (n : Int) := by omega
    have h4 : (n : Int) ≤ (s.size : Int) := by omega
    have w1 : IntKind.wrap .i64 ((i : Int) + 1) = ((i + 1 : Nat) : Int) := by rw [wrap_i64 (by omega) (by omega)]; omega
    have ih := L107b_is fu s hs n hn k (i + 1) m (by omega) (by omega)
    rw [f107_L5_eq, w1]
    simp only [h1, h2, h3, h4, decide_true, cond_true, Bool.and_self, Int.toNat_natCast]
    cases decide ((n : Int) > 0) with
    | false => exact name_none s
    | true =>
      simp only [cond_true]
      cases bAt s (i : Int) == 58 with
      | true => exact ⟨_, i + 1, rfl, by rw [ByteArray.size_extract]; omega, by omega⟩
      | false =>
        simp only [cond_false]
        cases !(bAt s (i : Int) == 32 || bAt s (i : Int) == 9) with
        | true => exact name_none s
        | false => exact ih
theorem L107a_is (fu : Nat) (hfu : 1000000 < fu) (s : ByteArray) (hs : s.size ≤ 1000000) : ∀ (k i m : Nat), i + k = s.size → k < m → NameOk s (f107_L2 fu m s (i : Int))
  | 0, i, m, hi, hm => by
    obtain ⟨m, rfl⟩ : ∃ m', m = m' + 1 := ⟨m - 1, by omega⟩
    have h1 : ¬ ((i : Int) < (s.size : Int)) := by omega
    rw [f107_L2_eq]
    simp only [h1, decide_false, cond_false]
    exact L107b_is fu s hs i (by omega) 0 i fu (by omega) (by omega)
  | k + 1, i, m, hi, hm => by
    obtain ⟨m, rfl⟩ : ∃ m', m = m' + 1 := ⟨m - 1, by omega⟩
    have h1 : (i : Int) < (s.size : Int) := by omega
    have h2 : (0 : Int) ≤ (i : Int) := by omega
    have w1 : IntKind.wrap .i64 ((i : Int) + 1) = ((i + 1 : Nat) : Int) := by rw [wrap_i64 (by omega) (by omega)]; omega
    have ih := L107a_is fu hfu s hs k (i + 1) m (by omega) (by omega)
    have hb := L107b_is fu s hs i (by omega) (k + 1) i fu (by omega) (by omega)
    rw [f107_L2_eq, w1]
    simp only [h1, h2, decide_true, cond_true, Bool.and_self]
    cases decide (33 ≤ bAt s (i : Int)) with
    | false => exact hb
    | true =>
      simp only [cond_true]
      cases decide (bAt s (i : Int) ≤ 126) with
      | false => exact hb
      | true =>
        simp only [cond_true]
        cases bAt s (i : Int) != 58 with
        | false => exact hb
        | true => exact ih
noncomputable def nameR (s : ByteArray) : Option SV := evFun f107_X 1000001 Tryz.f107 (frz f107_X.Ty Tryz.f107) [.str s] [] []
def tupS : Option SV → ByteArray | some (.tup [.str t, _]) => t | _ => ⟨#[]⟩
def tupN : Option SV → Int | some (.tup [_, .int _ n]) => n | _ => 0
theorem nameR_is (s : ByteArray) (hs : s.size ≤ 1000000) : nameR s = some (.tup [.str (tupS (nameR s)), .int .i64 (tupN (nameR s))]) ∧ (tupS (nameR s)).size ≤ s.size ∧ 0 ≤ tupN (nameR s) ∧ tupN (nameR s) ≤ s.size := by
  obtain ⟨t, n, h1, h2, h3⟩ := L107a_is 1000001 (by omega) s hs s.size 0 1000001 (by omega) (by omega)
  have e : nameR s = some (.tup [.str t, .int .i64 n]) := (f107_eq 1000001 s).trans h1
  rw [e]
  exact ⟨rfl, h2, Int.natCast_nonneg n, Int.ofNat_le.2 h3⟩
noncomputable def gNameR : List SV → Option (Bool × SV)
  | [.str s] => some (Nat.ble s.size 1000000, .tup [.str (tupS (nameR s)), .int .i64 (tupN (nameR s))])
  | _ => none
theorem zNameR_ok : SpecOk zE 107 (.plain gNameR) := by
  refine plain_of_run (zfx_ok zT6_ok [] f107_live) (fn := Tryz.f107) (by kernel_rfl) (by decide) (by rfl) (fun args sv h => ?_)
  unfold gNameR at h
  split at h
  · rename_i s
    simp only [Option.some.injEq, Prod.mk.injEq] at h
    obtain ⟨h1, rfl⟩ := h
    exact ⟨rfl, rfl, 1000001, (nameR_is s (Nat.le_of_ble_eq_true h1)).1⟩
  · cases h
/-- How many octets a header has. -/
theorem bif_tt (b : Bool) : (bif b then true else true) = true := by cases b <;> rfl
theorem L34_is (fu : Nat) (l : List SV) (hok : LinesOk l) (hl : l.length ≤ 1000000) (hsum : sumS l ≤ 1000000) : ∀ (k i m a : Nat), i + k = l.length → k < m → a + sumS (l.drop i) = sumS l → ∃ n : Nat, f34_L4 fu m (a : Int) l (i : Int) = some (.int .i64 n) ∧ n ≤ sumS l
  | 0, i, m, a, hi, hm, ha => by
    obtain ⟨m, rfl⟩ : ∃ m', m = m' + 1 := ⟨m - 1, by omega⟩
    have h1 : ¬ ((i : Int) < (l.length : Int)) := by omega
    rw [f34_L4_eq]
    simp only [h1, decide_false, cond_false]
    exact ⟨a, rfl, by omega⟩
  | k + 1, i, m, a, hi, hm, ha => by
    obtain ⟨m, rfl⟩ : ∃ m', m = m' + 1 := ⟨m - 1, by omega⟩
    have hlt : i < l.length := by omega
    have h1 : (i : Int) < (l.length : Int) := by omega
    have h2 : (0 : Int) ≤ (i : Int) := by omega
    have w1 : IntKind.wrap .i64 ((i : Int) + 1) = ((i + 1 : Nat) : Int) := by rw [wrap_i64 (by omega) (by omega)]; omega
    rw [f34_L4_eq, w1]
    rw [List.drop_eq_getElem_cons hlt] at ha
    simp only [sumS] at ha
    simp only [h1, h2, decide_true, cond_true, Bool.and_self, Int.toNat_natCast, zgetD_at hlt]
    obtain ⟨t, ht, _⟩ := hok _ (List.getElem_mem hlt)
    rw [ht] at ha
    rw [ht]
    simp only [asStr] at ha
    have e1 : asStr (List.getD (cellsOf (SV.str t)) 0 SV.dead) = t := rfl
    have w2 : IntKind.wrap .i64 ((a : Int) + (t.size : Int)) = ((a + t.size : Nat) : Int) := by rw [wrap_i64 (by omega) (by omega)]; omega
    rw [e1, w2]
    simp only [bif_tt, Bool.and_self, cond_true]
    have ih := L34_is fu l hok hl hsum k (i + 1) m (a + t.size) (by omega) (by omega) (by omega)
    generalize (bif t.toList == ByteArray.toList (ByteArray.mk #[(10 : UInt8)]) then true else t.toList == ByteArray.toList (ByteArray.mk #[(13 : UInt8), (10 : UInt8)])) = c
    cases c with
    | true => exact ⟨a + t.size, rfl, by omega⟩
    | false => exact ih
noncomputable def splitR (s : ByteArray) : Option SV := evFun f34_X 1000001 Tryz.f34 (frz f34_X.Ty Tryz.f34) [.str s] [] []
def intV : Option SV → Int | some (.int _ n) => n | _ => 0
theorem splitR_is (s : ByteArray) (hs : s.size ≤ 1000000) : splitR s = some (.int .i64 (intV (splitR s))) ∧ 0 ≤ intV (splitR s) ∧ intV (splitR s) ≤ s.size := by
  obtain ⟨_, c2, c3, c4⟩ := cutR_is s hs
  obtain ⟨n, h1, h2⟩ := L34_is 1000001 (lstV (cutR s)) c2 (by omega) (by omega) (lstV (cutR s)).length 0 1000001 0 (by omega) (by omega) (by simp)
  have e : splitR s = some (.int .i64 n) := by
    refine (f34_eq 1000001 s).trans ?_
    rw [Nat.ble_eq_true_of_le hs, cond_true]
    exact h1
  rw [e]
  refine ⟨rfl, Int.natCast_nonneg n, ?_⟩
  show (n : Int) ≤ _
  omega
noncomputable def gSplitR : List SV → Option (Bool × SV)
  | [.str s] => some (Nat.ble s.size 1000000, .int .i64 (intV (splitR s)))
  | _ => none
theorem zSplitR_ok : SpecOk zE 34 (.plain gSplitR) := by
  refine plain_of_run (zfx_ok zT6_ok [] f34_live) (fn := Tryz.f34) (by kernel_rfl) (by decide) (by rfl) (fun args sv h => ?_)
  unfold gSplitR at h
  split at h
  · rename_i s
    simp only [Option.some.injEq, Prod.mk.injEq] at h
    obtain ⟨h1, rfl⟩ := h
    exact ⟨rfl, rfl, 1000001, (splitR_is s (Nat.le_of_ble_eq_true h1)).1⟩
  · cases h
end Sx

/-
  What the executor says of functions: the normal forms, each compared by the kernel. (Printed by a program.)
-/
set_option linter.unusedVariables false
namespace Sx
open Go Go.Proofs
noncomputable def zT7 : List (Nat × Spec) := (109, .plain gTrimR) :: (107, .plain gNameR) :: (34, .plain gSplitR) :: zT6
theorem zT7_ok : SpecsOk zE (ofList zT7) := .cons zTrimR_ok (.cons zNameR_ok (.cons zSplitR_ok zT6_ok))
set_option maxRecDepth 100000
/-- The slots that are needed at the loops' heads of 'hamper/hamperref17.Fields'. -/
noncomputable def f64_live : Nat → List Nat × List (Nat × TypeId) := fun h => bif Nat.beq h 6 then ([3, 4, 5, 6, 7], nilsOf (tyOf Tryz.prog) [(3, 119), (4, 39), (5, 3), (6, 4), (7, 3)]) else ([], [])
noncomputable def f64_X : Fx := ⟨tyOf Tryz.prog, ofList zT7, [], f64_live⟩
/-- The slots that are needed at the loops' heads of 'hamper/hamperref17.Text'. -/
noncomputable def f66_live : Nat → List Nat × List (Nat × TypeId) := fun h => bif Nat.beq h 4 then ([5, 6, 7], nilsOf (tyOf Tryz.prog) [(5, 9), (6, 39), (7, 3)]) else ([], [])
noncomputable def f66_X : Fx := ⟨tyOf Tryz.prog, ofList zT7, [], f66_live⟩
def f64_st6 (x0 : List SV) (x1 : Int) (x2 : Bool) (x3 : Int) (x4 : List SV) : St := St.mk
  [SV.dead, SV.dead, SV.dead, SV.row (100 : Nat), SV.lst (9 : Nat) x0, SV.int IntKind.i64 x1, SV.bool x2, SV.int IntKind.i64 x3, SV.dead, SV.dead, SV.dead, SV.dead, SV.dead, SV.dead, SV.dead, SV.dead, SV.dead, SV.dead,
    SV.dead, SV.dead, SV.dead, SV.dead, SV.dead, SV.dead, SV.dead, SV.dead, SV.dead, SV.dead, SV.dead, SV.dead, SV.dead, SV.dead, SV.dead, SV.dead, SV.dead, SV.dead, SV.dead, SV.dead, SV.dead, SV.dead, SV.dead, SV.dead,
    SV.dead, SV.dead, SV.dead, SV.dead, SV.dead, SV.dead, SV.dead, SV.dead, SV.dead, SV.dead, SV.dead, SV.dead, SV.dead, SV.dead, SV.dead, SV.dead, SV.dead, SV.dead, SV.dead, SV.dead, SV.dead, SV.dead, SV.dead, SV.dead,
    SV.dead, SV.dead, SV.dead, SV.dead, SV.dead, SV.dead, SV.dead, SV.dead, SV.dead, SV.dead, SV.dead, SV.dead, SV.dead, SV.dead, SV.dead, SV.dead, SV.dead]
  [((100 : Nat), SObj.row (123 : Nat) x4)] [(100 : Nat)]
noncomputable def f64_L6 (fu fm : Nat) (x0 : List SV) (x1 : Int) (x2 : Bool) (x3 : Int) (x4 : List SV) : Option (SV) := atLoop f64_X Tryz.f64 (frz f64_X.Ty Tryz.f64) fu [.r, .r, .r, .r, .r, .l, .r, .b] fm (f64_st6 x0 x1 x2 x3 x4)

theorem f64_L6_eq (fu fm : Nat) (x0 : List SV) (x1 : Int) (x2 : Bool) (x3 : Int) (x4 : List SV) : f64_L6 fu (fm + 1) x0 x1 x2 x3 x4 = bif decide (x3 < (↑(List.length x0) : Int)) then
  bif decide ((0 : Int) ≤ x3) && decide (x3 < (↑(List.length x0) : Int)) then
    bif (bif ByteArray.toList (asStr (List.getD (cellsOf (List.getD x0 (Int.toNat x3) SV.dead)) (0 : Nat) SV.dead)) == ByteArray.toList (ByteArray.mk #[(10 : UInt8)]) then true else true) && true then
      bif
          !bif ByteArray.toList (asStr (List.getD (cellsOf (List.getD x0 (Int.toNat x3) SV.dead)) (0 : Nat) SV.dead)) == ByteArray.toList (ByteArray.mk #[(10 : UInt8)]) then true
            else ByteArray.toList (asStr (List.getD (cellsOf (List.getD x0 (Int.toNat x3) SV.dead)) (0 : Nat) SV.dead)) == ByteArray.toList (ByteArray.mk #[(13 : UInt8), (10 : UInt8)]) then
        bif decide ((0 : Int) ≤ x3) && decide (x3 < (↑(List.length x0) : Int)) then
          bif decide ((0 : Int) < (↑(ByteArray.size (asStr (List.getD (cellsOf (List.getD x0 (Int.toNat x3) SV.dead)) (0 : Nat) SV.dead))) : Int)) then
            bif
                bAt (asStr (List.getD (cellsOf (List.getD x0 (Int.toNat x3) SV.dead)) (0 : Nat) SV.dead)) (0 : Int) == (32 : Int) ||
                  bAt (asStr (List.getD (cellsOf (List.getD x0 (Int.toNat x3) SV.dead)) (0 : Nat) SV.dead)) (0 : Int) == (9 : Int) then
              bif x2 then
                bif decide ((0 : Int) ≤ IntKind.wrap IntKind.i64 ((↑(List.length x4) : Int) - (1 : Int))) && decide (IntKind.wrap IntKind.i64 ((↑(List.length x4) : Int) - (1 : Int)) < (↑(List.length x4) : Int)) then
                  bif decide ((0 : Int) ≤ x3) && decide (x3 < (↑(List.length x0) : Int)) then
                    bif decide ((0 : Int) ≤ IntKind.wrap IntKind.i64 ((↑(List.length x4) : Int) - (1 : Int))) && decide (IntKind.wrap IntKind.i64 ((↑(List.length x4) : Int) - (1 : Int)) < (↑(List.length x4) : Int)) then
                      bif decide ((0 : Int) ≤ x3) && decide (x3 < (↑(List.length x0) : Int)) then
                        f64_L6 fu fm x0 (IntKind.wrap IntKind.i64 (x1 + (↑(ByteArray.size (asStr (List.getD (cellsOf (List.getD x0 (Int.toNat x3) SV.dead)) (0 : Nat) SV.dead))) : Int))) x2
                          (IntKind.wrap IntKind.i64 (x3 + (1 : Int)))
                          (List.set x4 (Int.toNat (IntKind.wrap IntKind.i64 ((↑(List.length x4) : Int) - (1 : Int))))
                            (SV.agg
                              [SV.str (asStr (List.getD (cellsOf (List.getD x4 (Int.toNat (IntKind.wrap IntKind.i64 ((↑(List.length x4) : Int) - (1 : Int)))) SV.dead)) (0 : Nat) SV.dead)),
                                SV.int IntKind.i64 (asInt (List.getD (cellsOf (List.getD x4 (Int.toNat (IntKind.wrap IntKind.i64 ((↑(List.length x4) : Int) - (1 : Int)))) SV.dead)) (1 : Nat) SV.dead)),
                                SV.int IntKind.i64
                                  (IntKind.wrap IntKind.i64
                                    (asInt (List.getD (cellsOf (List.getD x4 (Int.toNat (IntKind.wrap IntKind.i64 ((↑(List.length x4) : Int) - (1 : Int)))) SV.dead)) (2 : Nat) SV.dead) +
                                      (↑(ByteArray.size (asStr (List.getD (cellsOf (List.getD x0 (Int.toNat x3) SV.dead)) (0 : Nat) SV.dead))) : Int))),
                                SV.int IntKind.i64 (asInt (List.getD (cellsOf (List.getD x4 (Int.toNat (IntKind.wrap IntKind.i64 ((↑(List.length x4) : Int) - (1 : Int)))) SV.dead)) (3 : Nat) SV.dead))]))
                      else none
                    else none
                  else none
                else none
              else
                bif decide ((0 : Int) ≤ x3) && decide (x3 < (↑(List.length x0) : Int)) then
                  f64_L6 fu fm x0 (IntKind.wrap IntKind.i64 (x1 + (↑(ByteArray.size (asStr (List.getD (cellsOf (List.getD x0 (Int.toNat x3) SV.dead)) (0 : Nat) SV.dead))) : Int))) x2
                    (IntKind.wrap IntKind.i64 (x3 + (1 : Int))) x4
                else none
            else
              bif decide ((0 : Int) ≤ x3) && decide (x3 < (↑(List.length x0) : Int)) then
                bif Nat.ble (ByteArray.size (asStr (List.getD (cellsOf (List.getD x0 (Int.toNat x3) SV.dead)) (0 : Nat) SV.dead))) (1000000 : Nat) then
                  bif decide (tupN (nameR (asStr (List.getD (cellsOf (List.getD x0 (Int.toNat x3) SV.dead)) (0 : Nat) SV.dead))) > (0 : Int)) then
                    bif decide ((0 : Int) ≤ x3) && decide (x3 < (↑(List.length x0) : Int)) then
                      bif decide ((List.length x4 + (1 : Nat)) * (40 : Nat) ≤ (140737488355328 : Nat)) && decide (List.length x4 + (1 : Nat) ≤ (9223372036854775807 : Nat)) then
                        bif decide ((0 : Int) ≤ x3) && decide (x3 < (↑(List.length x0) : Int)) then
                          f64_L6 fu fm x0 (IntKind.wrap IntKind.i64 (x1 + (↑(ByteArray.size (asStr (List.getD (cellsOf (List.getD x0 (Int.toNat x3) SV.dead)) (0 : Nat) SV.dead))) : Int)))
                            (decide (tupN (nameR (asStr (List.getD (cellsOf (List.getD x0 (Int.toNat x3) SV.dead)) (0 : Nat) SV.dead))) > (0 : Int))) (IntKind.wrap IntKind.i64 (x3 + (1 : Int)))
                            (x4 ++
                              [SV.agg
                                  [SV.str (tupS (nameR (asStr (List.getD (cellsOf (List.getD x0 (Int.toNat x3) SV.dead)) (0 : Nat) SV.dead)))), SV.int IntKind.i64 x1,
                                    SV.int IntKind.i64 (IntKind.wrap IntKind.i64 (x1 + (↑(ByteArray.size (asStr (List.getD (cellsOf (List.getD x0 (Int.toNat x3) SV.dead)) (0 : Nat) SV.dead))) : Int))),
                                    SV.int IntKind.i64 (IntKind.wrap IntKind.i64 (x1 + tupN (nameR (asStr (List.getD (cellsOf (List.getD x0 (Int.toNat x3) SV.dead)) (0 : Nat) SV.dead)))))]])
                        else none
                      else none
                    else none
                  else
                    bif decide ((0 : Int) ≤ x3) && decide (x3 < (↑(List.length x0) : Int)) then
                      f64_L6 fu fm x0 (IntKind.wrap IntKind.i64 (x1 + (↑(ByteArray.size (asStr (List.getD (cellsOf (List.getD x0 (Int.toNat x3) SV.dead)) (0 : Nat) SV.dead))) : Int)))
                        (decide (tupN (nameR (asStr (List.getD (cellsOf (List.getD x0 (Int.toNat x3) SV.dead)) (0 : Nat) SV.dead))) > (0 : Int))) (IntKind.wrap IntKind.i64 (x3 + (1 : Int))) x4
                    else none
                else none
              else none
          else none
        else none
      else some (SV.lst (123 : Nat) x4)
    else none
  else none
  else some (SV.lst (123 : Nat) x4) := by kernel_rfl

theorem f64_eq (fu : Nat) (s : ByteArray) : evFun f64_X fu Tryz.f64 (frz f64_X.Ty Tryz.f64) [.str s] [] [] = bif Nat.ble (ByteArray.size s) (1000000 : Nat) then f64_L6 fu fu (lstV (cutR s)) (0 : Int) false (0 : Int) [] else none := by kernel_rfl

def f66_st4 (x0 : ByteArray) (x1 : List SV) (x2 : Int) : St := St.mk
  [SV.dead, SV.dead, SV.dead, SV.dead, SV.dead, SV.str x0, SV.lst (9 : Nat) x1, SV.int IntKind.i64 x2, SV.dead, SV.dead, SV.dead, SV.dead, SV.dead, SV.dead, SV.dead, SV.dead, SV.dead, SV.dead, SV.dead, SV.dead, SV.dead,
    SV.dead, SV.dead, SV.dead, SV.dead, SV.dead, SV.dead, SV.dead, SV.dead, SV.dead, SV.dead, SV.dead, SV.dead, SV.dead, SV.dead, SV.dead, SV.dead, SV.dead, SV.dead, SV.dead, SV.dead, SV.dead, SV.dead, SV.dead, SV.dead,
    SV.dead, SV.dead, SV.dead, SV.dead, SV.dead, SV.dead, SV.dead, SV.dead, SV.dead, SV.dead, SV.dead]
  [] []
noncomputable def f66_L4 (fu fm : Nat) (x0 : ByteArray) (x1 : List SV) (x2 : Int) : Option (SV) := atLoop f66_X Tryz.f66 (frz f66_X.Ty Tryz.f66) fu [.r, .r, .r, .l, .r, .b] fm (f66_st4 x0 x1 x2)

theorem f66_L4_eq (fu fm : Nat) (x0 : ByteArray) (x1 : List SV) (x2 : Int) : f66_L4 fu (fm + 1) x0 x1 x2 = bif decide (x2 < (↑(List.length x1) : Int)) then
  bif decide ((0 : Int) ≤ x2) && decide (x2 < (↑(List.length x1) : Int)) then
    bif
        decide ((0 : Int) ≤ IntKind.wrap IntKind.i64 ((↑(ByteArray.size (asStr (List.getD (cellsOf (List.getD x1 (Int.toNat x2) SV.dead)) (0 : Nat) SV.dead))) : Int) - (1 : Int))) &&
          decide
            (IntKind.wrap IntKind.i64 ((↑(ByteArray.size (asStr (List.getD (cellsOf (List.getD x1 (Int.toNat x2) SV.dead)) (0 : Nat) SV.dead))) : Int) - (1 : Int)) <
              (↑(ByteArray.size (asStr (List.getD (cellsOf (List.getD x1 (Int.toNat x2) SV.dead)) (0 : Nat) SV.dead))) : Int)) then
      bif
          bAt (asStr (List.getD (cellsOf (List.getD x1 (Int.toNat x2) SV.dead)) (0 : Nat) SV.dead))
              (IntKind.wrap IntKind.i64 ((↑(ByteArray.size (asStr (List.getD (cellsOf (List.getD x1 (Int.toNat x2) SV.dead)) (0 : Nat) SV.dead))) : Int) - (1 : Int))) ==
            (10 : Int) then
        bif
            decide ((0 : Int) ≤ IntKind.wrap IntKind.i64 ((↑(ByteArray.size (asStr (List.getD (cellsOf (List.getD x1 (Int.toNat x2) SV.dead)) (0 : Nat) SV.dead))) : Int) - (1 : Int))) &&
                decide
                  (IntKind.wrap IntKind.i64 ((↑(ByteArray.size (asStr (List.getD (cellsOf (List.getD x1 (Int.toNat x2) SV.dead)) (0 : Nat) SV.dead))) : Int) - (1 : Int)) ≤
                    (↑(ByteArray.size (asStr (List.getD (cellsOf (List.getD x1 (Int.toNat x2) SV.dead)) (0 : Nat) SV.dead))) : Int)) &&
              true then
          bif decide ((↑(ByteArray.size (asStr (List.getD (cellsOf (List.getD x1 (Int.toNat x2) SV.dead)) (0 : Nat) SV.dead))) : Int) > (1 : Int)) then
            bif
                decide ((0 : Int) ≤ IntKind.wrap IntKind.i64 ((↑(ByteArray.size (asStr (List.getD (cellsOf (List.getD x1 (Int.toNat x2) SV.dead)) (0 : Nat) SV.dead))) : Int) - (2 : Int))) &&
                  decide
                    (IntKind.wrap IntKind.i64 ((↑(ByteArray.size (asStr (List.getD (cellsOf (List.getD x1 (Int.toNat x2) SV.dead)) (0 : Nat) SV.dead))) : Int) - (2 : Int)) <
                      (↑(ByteArray.size
                            (ByteArray.extract (asStr (List.getD (cellsOf (List.getD x1 (Int.toNat x2) SV.dead)) (0 : Nat) SV.dead)) (0 : Nat)
                              (Int.toNat (IntKind.wrap IntKind.i64 ((↑(ByteArray.size (asStr (List.getD (cellsOf (List.getD x1 (Int.toNat x2) SV.dead)) (0 : Nat) SV.dead))) : Int) - (1 : Int)))))) :
                        Int)) then
              bif
                  bAt
                      (ByteArray.extract (asStr (List.getD (cellsOf (List.getD x1 (Int.toNat x2) SV.dead)) (0 : Nat) SV.dead)) (0 : Nat)
                        (Int.toNat (IntKind.wrap IntKind.i64 ((↑(ByteArray.size (asStr (List.getD (cellsOf (List.getD x1 (Int.toNat x2) SV.dead)) (0 : Nat) SV.dead))) : Int) - (1 : Int)))))
                      (IntKind.wrap IntKind.i64 ((↑(ByteArray.size (asStr (List.getD (cellsOf (List.getD x1 (Int.toNat x2) SV.dead)) (0 : Nat) SV.dead))) : Int) - (2 : Int))) ==
                    (13 : Int) then
                bif
                    decide ((0 : Int) ≤ IntKind.wrap IntKind.i64 ((↑(ByteArray.size (asStr (List.getD (cellsOf (List.getD x1 (Int.toNat x2) SV.dead)) (0 : Nat) SV.dead))) : Int) - (2 : Int))) &&
                        decide
                          (IntKind.wrap IntKind.i64 ((↑(ByteArray.size (asStr (List.getD (cellsOf (List.getD x1 (Int.toNat x2) SV.dead)) (0 : Nat) SV.dead))) : Int) - (2 : Int)) ≤
                            (↑(ByteArray.size
                                  (ByteArray.extract (asStr (List.getD (cellsOf (List.getD x1 (Int.toNat x2) SV.dead)) (0 : Nat) SV.dead)) (0 : Nat)
                                    (Int.toNat (IntKind.wrap IntKind.i64 ((↑(ByteArray.size (asStr (List.getD (cellsOf (List.getD x1 (Int.toNat x2) SV.dead)) (0 : Nat) SV.dead))) : Int) - (1 : Int)))))) :
                              Int)) &&
                      true then
                  bif
                      Nat.ble
                        (ByteArray.size x0 +
                          ByteArray.size
                            (ByteArray.extract
                              (ByteArray.extract (asStr (List.getD (cellsOf (List.getD x1 (Int.toNat x2) SV.dead)) (0 : Nat) SV.dead)) (0 : Nat)
                                (Int.toNat (IntKind.wrap IntKind.i64 ((↑(ByteArray.size (asStr (List.getD (cellsOf (List.getD x1 (Int.toNat x2) SV.dead)) (0 : Nat) SV.dead))) : Int) - (1 : Int)))))
                              (0 : Nat) (Int.toNat (IntKind.wrap IntKind.i64 ((↑(ByteArray.size (asStr (List.getD (cellsOf (List.getD x1 (Int.toNat x2) SV.dead)) (0 : Nat) SV.dead))) : Int) - (2 : Int))))))
                        (9223372036854775807 : Nat) then
                    f66_L4 fu fm
                      (x0 ++
                        ByteArray.extract
                          (ByteArray.extract (asStr (List.getD (cellsOf (List.getD x1 (Int.toNat x2) SV.dead)) (0 : Nat) SV.dead)) (0 : Nat)
                            (Int.toNat (IntKind.wrap IntKind.i64 ((↑(ByteArray.size (asStr (List.getD (cellsOf (List.getD x1 (Int.toNat x2) SV.dead)) (0 : Nat) SV.dead))) : Int) - (1 : Int)))))
                          (0 : Nat) (Int.toNat (IntKind.wrap IntKind.i64 ((↑(ByteArray.size (asStr (List.getD (cellsOf (List.getD x1 (Int.toNat x2) SV.dead)) (0 : Nat) SV.dead))) : Int) - (2 : Int)))))
                      x1 (IntKind.wrap IntKind.i64 (x2 + (1 : Int)))
                  else none
                else none
              else
                bif
                    Nat.ble
                      (ByteArray.size x0 +
                        ByteArray.size
                          (ByteArray.extract (asStr (List.getD (cellsOf (List.getD x1 (Int.toNat x2) SV.dead)) (0 : Nat) SV.dead)) (0 : Nat)
                            (Int.toNat (IntKind.wrap IntKind.i64 ((↑(ByteArray.size (asStr (List.getD (cellsOf (List.getD x1 (Int.toNat x2) SV.dead)) (0 : Nat) SV.dead))) : Int) - (1 : Int))))))
                      (9223372036854775807 : Nat) then
                  f66_L4 fu fm
                    (x0 ++
                      ByteArray.extract (asStr (List.getD (cellsOf (List.getD x1 (Int.toNat x2) SV.dead)) (0 : Nat) SV.dead)) (0 : Nat)
                        (Int.toNat (IntKind.wrap IntKind.i64 ((↑(ByteArray.size (asStr (List.getD (cellsOf (List.getD x1 (Int.toNat x2) SV.dead)) (0 : Nat) SV.dead))) : Int) - (1 : Int)))))
                    x1 (IntKind.wrap IntKind.i64 (x2 + (1 : Int)))
                else none
            else none
          else
            bif
                Nat.ble
                  (ByteArray.size x0 +
                    ByteArray.size
                      (ByteArray.extract (asStr (List.getD (cellsOf (List.getD x1 (Int.toNat x2) SV.dead)) (0 : Nat) SV.dead)) (0 : Nat)
                        (Int.toNat (IntKind.wrap IntKind.i64 ((↑(ByteArray.size (asStr (List.getD (cellsOf (List.getD x1 (Int.toNat x2) SV.dead)) (0 : Nat) SV.dead))) : Int) - (1 : Int))))))
                  (9223372036854775807 : Nat) then
              f66_L4 fu fm
                (x0 ++
                  ByteArray.extract (asStr (List.getD (cellsOf (List.getD x1 (Int.toNat x2) SV.dead)) (0 : Nat) SV.dead)) (0 : Nat)
                    (Int.toNat (IntKind.wrap IntKind.i64 ((↑(ByteArray.size (asStr (List.getD (cellsOf (List.getD x1 (Int.toNat x2) SV.dead)) (0 : Nat) SV.dead))) : Int) - (1 : Int)))))
                x1 (IntKind.wrap IntKind.i64 (x2 + (1 : Int)))
            else none
        else none
      else
        bif Nat.ble (ByteArray.size x0 + ByteArray.size (asStr (List.getD (cellsOf (List.getD x1 (Int.toNat x2) SV.dead)) (0 : Nat) SV.dead))) (9223372036854775807 : Nat) then
          f66_L4 fu fm (x0 ++ asStr (List.getD (cellsOf (List.getD x1 (Int.toNat x2) SV.dead)) (0 : Nat) SV.dead)) x1 (IntKind.wrap IntKind.i64 (x2 + (1 : Int)))
        else none
    else none
  else none
  else bif Nat.ble (ByteArray.size x0) (1000000 : Nat) then some (SV.str (strV (trimR x0))) else none := by kernel_rfl

theorem f66_eq (fu : Nat) (s : ByteArray) (x : ByteArray) (a : Int) (b : Int) (c : Int) : evFun f66_X fu Tryz.f66 (frz f66_X.Ty Tryz.f66) [.str s, .agg [.str x, .int .i64 a, .int .i64 b, .int .i64 c]] [] [] = bif decide ((0 : Int) ≤ b) && decide (b ≤ (↑(ByteArray.size s) : Int)) && (decide ((0 : Int) ≤ c) && decide (c ≤ b)) then
  bif Nat.ble (ByteArray.size (ByteArray.extract s (Int.toNat c) (Int.toNat b))) (1000000 : Nat) then f66_L4 fu fu (ByteArray.mk #[]) (lstV (cutR (ByteArray.extract s (Int.toNat c) (Int.toNat b)))) (0 : Int) else none
  else none := by kernel_rfl

end Sx

/-
  The document's headers: fields, and a field's text.
-/
set_option linter.unusedVariables false
set_option linter.unusedSimpArgs false
namespace Sx
open Go Go.Proofs

theorem cond_of {α : Type} {Q : α → Prop} {c : Bool} {a b : α} (h1 : c = true → Q a) (h2 : c = false → Q b) : Q (bif c then a else b) := by
  cases c
  · exact h2 rfl
  · exact h1 rfl
/-- A field: its text begins and ends within. -/
def FldOk (a : Nat) (x : SV) : Prop := ∃ (t : ByteArray) (f u v : Nat), x = .agg [.str t, .int .i64 f, .int .i64 u, .int .i64 v] ∧ t.size ≤ 1000000 ∧ v ≤ u ∧ f ≤ u ∧ u ≤ a
def FldsOk (a : Nat) (l : List SV) : Prop := ∀ x ∈ l, FldOk a x
theorem FldsOk.up {a b : Nat} {l : List SV} (h : FldsOk a l) (hab : a ≤ b) : FldsOk b l := fun x hx => by
  obtain ⟨t, f, u, v, h1, h2, h3, h4, h5⟩ := h x hx
  exact ⟨t, f, u, v, h1, h2, h3, h4, by omega⟩
theorem FldsOk.snoc {a : Nat} {l : List SV} {x : SV} (h : FldsOk a l) (hx : FldOk a x) : FldsOk a (l ++ [x]) := fun y hy =>
  (List.mem_append.1 hy).elim (h y) fun h1 => by rw [List.mem_singleton.1 h1]; exact hx
theorem FldsOk.set {a i : Nat} {l : List SV} {x : SV} (h : FldsOk a l) (hx : FldOk a x) : FldsOk a (l.set i x) := fun y hy =>
  (List.mem_or_eq_of_mem_set hy).elim (h y) fun h1 => by rw [h1]; exact hx
def FldR (n : Nat) (a : Nat) (r : Option SV) : Prop := ∃ l, r = some (.lst 123 l) ∧ FldsOk a l ∧ l.length ≤ n
theorem L64_is (fu : Nat) (l : List SV) (hok : LinesOk l) (hl : l.length ≤ 1000000) (hsum : sumS l ≤ 1000000) : ∀ (k i m a : Nat) (b : Bool) (out : List SV), i + k = l.length → k < m → a + sumS (l.drop i) = sumS l →
    FldsOk a out → out.length ≤ i → (b = true → 0 < out.length) → FldR l.length (sumS l) (f64_L6 fu m l (a : Int) b (i : Int) out)
  | 0, i, m, a, b, out, hi, hm, ha, ho, hlen, hb => by
    obtain ⟨m, rfl⟩ : ∃ m', m = m' + 1 := ⟨m - 1, by omega⟩
    have h1 : ¬ ((i : Int) < (l.length : Int)) := by omega
    rw [f64_L6_eq]
    simp only [h1, decide_false, cond_false]
    exact ⟨out, rfl, ho.up (by omega), by omega⟩
  | k + 1, i, m, a, b, out, hi, hm, ha, ho, hlen, hb => by
    obtain ⟨m, rfl⟩ : ∃ m', m = m' + 1 := ⟨m - 1, by omega⟩
    have hlt : i < l.length := by omega
    have h1 : (i : Int) < (l.length : Int) := by omega
    have h2 : (0 : Int) ≤ (i : Int) := by omega
    have w1 : IntKind.wrap .i64 ((i : Int) + 1) = ((i + 1 : Nat) : Int) := by rw [wrap_i64 (by omega) (by omega)]; omega
    rw [f64_L6_eq, w1]
    rw [List.drop_eq_getElem_cons hlt] at ha
    simp only [sumS] at ha
    simp only [h1, h2, decide_true, cond_true, Bool.and_self, Int.toNat_natCast, zgetD_at hlt]
    obtain ⟨t, ht, htp⟩ := hok _ (List.getElem_mem hlt)
    rw [ht] at ha
    rw [ht]
    simp only [asStr] at ha
    have e1 : asStr (List.getD (cellsOf (SV.str t)) 0 SV.dead) = t := rfl
    have w2 : IntKind.wrap .i64 ((a : Int) + (t.size : Int)) = ((a + t.size : Nat) : Int) := by rw [wrap_i64 (by omega) (by omega)]; omega
    have h3 : (0 : Int) < (t.size : Int) := by omega
    have hts : t.size ≤ 1000000 := by omega
    rw [e1, w2]
    simp only [bif_tt, Bool.and_self, cond_true, h3, decide_true, Nat.ble_eq_true_of_le hts]
    have ih := fun b out => L64_is fu l hok hl hsum k (i + 1) m (a + t.size) b out (by omega) (by omega) (by omega)
    refine cond_of (Q := FldR _ _) (fun _ => ?_) (fun _ => ⟨out, rfl, ho.up (by omega), by omega⟩)
    refine cond_of (Q := FldR _ _) (fun _ => ?_) (fun _ => ?_)
    · cases b with
      | false =>
        simp only [cond_false]
        exact ih false out (ho.up (by omega)) (by omega) (fun h => by cases h)
      | true =>
        have hpos := hb rfl
        have hlt2 : out.length - 1 < out.length := by omega
        have w3 : IntKind.wrap .i64 ((out.length : Int) - 1) = ((out.length - 1 : Nat) : Int) := by rw [wrap_i64 (by omega) (by omega)]; omega
        have h4 : (0 : Int) ≤ ((out.length - 1 : Nat) : Int) := by omega
        have h5 : ((out.length - 1 : Nat) : Int) < (out.length : Int) := by omega
        rw [w3]
        simp only [h4, h5, decide_true, cond_true, Bool.and_self, Int.toNat_natCast, zgetD_at hlt2]
        obtain ⟨t', f, u, v, q1, q2, q3, q4, q5⟩ := ho _ (List.getElem_mem hlt2)
        rw [q1]
        have e2 : asStr (List.getD (cellsOf (SV.agg [.str t', .int .i64 f, .int .i64 u, .int .i64 v])) 0 SV.dead) = t' := rfl
        have e3 : asInt (List.getD (cellsOf (SV.agg [.str t', .int .i64 f, .int .i64 u, .int .i64 v])) 1 SV.dead) = f := rfl
        have e4 : asInt (List.getD (cellsOf (SV.agg [.str t', .int .i64 f, .int .i64 u, .int .i64 v])) 2 SV.dead) = u := rfl
        have e5 : asInt (List.getD (cellsOf (SV.agg [.str t', .int .i64 f, .int .i64 u, .int .i64 v])) 3 SV.dead) = v := rfl
        have w4 : IntKind.wrap .i64 ((u : Int) + (t.size : Int)) = ((u + t.size : Nat) : Int) := by rw [wrap_i64 (by omega) (by omega)]; omega
        rw [e2, e3, e4, e5, w4]
        exact ih true _ ((ho.up (by omega)).set ⟨t', f, u + t.size, v, rfl, q2, by omega, by omega, by omega⟩) (by rw [List.length_set]; omega) (fun _ => by rw [List.length_set]; exact hpos)
    · obtain ⟨n1, n2, n3, n4⟩ := nameR_is t hts
      obtain ⟨nn, hnn⟩ : ∃ nn : Nat, tupN (nameR t) = nn := ⟨(tupN (nameR t)).toNat, by omega⟩
      rw [hnn]
      rw [hnn] at n4
      have w5 : IntKind.wrap .i64 ((a : Int) + (nn : Int)) = ((a + nn : Nat) : Int) := by rw [wrap_i64 (by omega) (by omega)]; omega
      have r1 : (out.length + 1) * 40 ≤ 140737488355328 := by omega
      have r2 : out.length + 1 ≤ 9223372036854775807 := by omega
      rw [w5]
      simp only [r1, r2, decide_true, cond_true, Bool.and_self]
      refine cond_of (Q := FldR _ _) (fun c => ?_) (fun c => ?_)
      · exact ih _ _ ((ho.up (by omega)).snoc ⟨_, a, a + t.size, a + nn, rfl, by omega, by omega, by omega, by omega⟩) (by simp; omega) (fun _ => by simp)
      · rw [c]
        exact ih false out (ho.up (by omega)) (by omega) (fun h => by cases h)
noncomputable def fieldsR (s : ByteArray) : Option SV := evFun f64_X 1000001 Tryz.f64 (frz f64_X.Ty Tryz.f64) [.str s] [] []
theorem fieldsR_is (s : ByteArray) (hs : s.size ≤ 1000000) : fieldsR s = some (.lst 123 (lstV (fieldsR s))) ∧ FldsOk s.size (lstV (fieldsR s)) ∧ (lstV (fieldsR s)).length ≤ 1000000 := by
  obtain ⟨_, c2, c3, c4⟩ := cutR_is s hs
  obtain ⟨l, h1, h2, h3⟩ := L64_is 1000001 (lstV (cutR s)) c2 (by omega) (by omega) (lstV (cutR s)).length 0 1000001 0 false [] (by omega) (by omega) (by simp) (fun x hx => by cases hx) (by simp) (fun h => by cases h)
  have e : fieldsR s = some (.lst 123 l) := by
    refine (f64_eq 1000001 s).trans ?_
    rw [Nat.ble_eq_true_of_le hs, cond_true]
    exact h1
  rw [e]
  rw [c3] at h2
  refine ⟨rfl, h2, ?_⟩
  show l.length ≤ _
  omega
noncomputable def gFieldsR : List SV → Option (Bool × SV)
  | [.str s] => some (Nat.ble s.size 1000000, .lst 123 (lstV (fieldsR s)))
  | _ => none
theorem zFieldsR_ok : SpecOk zE 64 (.plain gFieldsR) := by
  refine plain_of_run (zfx_ok zT7_ok [] f64_live) (fn := Tryz.f64) (by kernel_rfl) (by decide) (by rfl) (fun args sv h => ?_)
  unfold gFieldsR at h
  split at h
  · rename_i s
    simp only [Option.some.injEq, Prod.mk.injEq] at h
    obtain ⟨h1, rfl⟩ := h
    exact ⟨rfl, rfl, 1000001, (fieldsR_is s (Nat.le_of_ble_eq_true h1)).1⟩
  · cases h

/-! ### a field's text -/
theorem L66_is (fu : Nat) (l : List SV) (hok : LinesOk l) (hl : l.length ≤ 1000000) : ∀ (k i m : Nat) (out : ByteArray), i + k = l.length → k < m → out.size + sumS (l.drop i) ≤ 1000000 → ShortS 1000000 (f66_L4 fu m out l (i : Int))
  | 0, i, m, out, hi, hm, ha => by
    obtain ⟨m, rfl⟩ : ∃ m', m = m' + 1 := ⟨m - 1, by omega⟩
    have h1 : ¬ ((i : Int) < (l.length : Int)) := by omega
    have h2 : out.size ≤ 1000000 := by omega
    rw [f66_L4_eq]
    simp only [h1, decide_false, cond_false, Nat.ble_eq_true_of_le h2, cond_true]
    exact ⟨_, rfl, Nat.le_trans (trimR_is out h2).2 h2⟩
  | k + 1, i, m, out, hi, hm, ha => by
    obtain ⟨m, rfl⟩ : ∃ m', m = m' + 1 := ⟨m - 1, by omega⟩
    have hlt : i < l.length := by omega
    have h1 : (i : Int) < (l.length : Int) := by omega
    have h2 : (0 : Int) ≤ (i : Int) := by omega
    have w1 : IntKind.wrap .i64 ((i : Int) + 1) = ((i + 1 : Nat) : Int) := by rw [wrap_i64 (by omega) (by omega)]; omega
    rw [f66_L4_eq, w1]
    rw [List.drop_eq_getElem_cons hlt] at ha
    simp only [sumS] at ha
    simp only [h1, h2, decide_true, cond_true, Bool.and_self, Int.toNat_natCast, zgetD_at hlt]
    obtain ⟨t, ht, htp⟩ := hok _ (List.getElem_mem hlt)
    rw [ht] at ha
    rw [ht]
    simp only [asStr] at ha
    have e1 : asStr (List.getD (cellsOf (SV.str t)) 0 SV.dead) = t := rfl
    have w2 : IntKind.wrap .i64 ((t.size : Int) - 1) = ((t.size - 1 : Nat) : Int) := by rw [wrap_i64 (by omega) (by omega)]; omega
    have h3 : (0 : Int) ≤ ((t.size - 1 : Nat) : Int) := by omega
    have h4 : ((t.size - 1 : Nat) : Int) < (t.size : Int) := by omega
    have h5 : ((t.size - 1 : Nat) : Int) ≤ (t.size : Int) := by omega
    have z1 : (t.extract 0 (t.size - 1)).size = t.size - 1 := by rw [ByteArray.size_extract]; omega
    have ih := fun out => L66_is fu l hok hl k (i + 1) m out (by omega) (by omega)
    have y1 : out.size + t.size ≤ 9223372036854775807 := by omega
    have y2 : out.size + (t.size - 1) ≤ 9223372036854775807 := by omega
    rw [e1, w2]
    simp only [h3, h4, h5, decide_true, cond_true, Bool.and_self, Int.toNat_natCast, z1, Nat.ble_eq_true_of_le y1, Nat.ble_eq_true_of_le y2]
    refine cond_of (Q := ShortS _) (fun _ => ?_) (fun _ => ?_)
    · refine cond_of (Q := ShortS _) (fun c => ?_) (fun _ => ?_)
      · simp only [decide_eq_true_eq] at c
        have w3 : IntKind.wrap .i64 ((t.size : Int) - 2) = ((t.size - 2 : Nat) : Int) := by rw [wrap_i64 (by omega) (by omega)]; omega
        have h6 : (0 : Int) ≤ ((t.size - 2 : Nat) : Int) := by omega
        have h7 : ((t.size - 2 : Nat) : Int) < ((t.size - 1 : Nat) : Int) := by omega
        have h8 : ((t.size - 2 : Nat) : Int) ≤ ((t.size - 1 : Nat) : Int) := by omega
        have z2 : ((t.extract 0 (t.size - 1)).extract 0 (t.size - 2)).size = t.size - 2 := by rw [ByteArray.size_extract, z1]; omega
        have y3 : out.size + (t.size - 2) ≤ 9223372036854775807 := by omega
        rw [w3]
        simp only [h6, h7, h8, decide_true, cond_true, Bool.and_self, Int.toNat_natCast, z2, Nat.ble_eq_true_of_le y3]
        refine cond_of (Q := ShortS _) (fun _ => ?_) (fun _ => ?_)
        · exact ih _ (by rw [ByteArray.size_append, z2]; omega)
        · exact ih _ (by rw [ByteArray.size_append, z1]; omega)
      · exact ih _ (by rw [ByteArray.size_append, z1]; omega)
    · exact ih _ (by rw [ByteArray.size_append]; omega)
noncomputable def textR (s x : ByteArray) (a b c : Int) : Option SV := evFun f66_X 1000001 Tryz.f66 (frz f66_X.Ty Tryz.f66) [.str s, .agg [.str x, .int .i64 a, .int .i64 b, .int .i64 c]] [] []
theorem textR_is (s x : ByteArray) (a b c : Int) (hs : s.size ≤ 1000000) (h1 : 0 ≤ c) (h2 : c ≤ b) (h3 : b ≤ s.size) : textR s x a b c = some (.str (strV (textR s x a b c))) ∧ (strV (textR s x a b c)).size ≤ 1000000 := by
  have hz : (s.extract c.toNat b.toNat).size ≤ 1000000 := by rw [ByteArray.size_extract]; omega
  obtain ⟨_, c2, c3, c4⟩ := cutR_is (s.extract c.toNat b.toNat) hz
  obtain ⟨t, q1, q2⟩ := L66_is 1000001 (lstV (cutR (s.extract c.toNat b.toNat))) c2 (by omega) (lstV (cutR (s.extract c.toNat b.toNat))).length 0 1000001 ⟨#[]⟩ (by omega) (by omega) (by show 0 + _ ≤ _; simp only [List.drop_zero]; omega)
  have e : textR s x a b c = some (.str t) := by
    refine (f66_eq 1000001 s x a b c).trans ?_
    have h0 : (0 : Int) ≤ b := by omega
    simp only [h0, h1, h2, h3, decide_true, Bool.and_self, cond_true, Nat.ble_eq_true_of_le hz]
    exact q1
  rw [e]
  exact ⟨rfl, q2⟩
noncomputable def gTextR : List SV → Option (Bool × SV)
  | [.str s, .agg [.str x, .int .i64 a, .int .i64 b, .int .i64 c]] => some (Nat.ble s.size 1000000 && (decide (0 ≤ c) && (decide (c ≤ b) && decide (b ≤ s.size))), .str (strV (textR s x a b c)))
  | _ => none
theorem zTextR_ok : SpecOk zE 66 (.plain gTextR) := by
  refine plain_of_run (zfx_ok zT7_ok [] f66_live) (fn := Tryz.f66) (by kernel_rfl) (by decide) (by rfl) (fun args sv h => ?_)
  unfold gTextR at h
  split at h
  · rename_i s x a b c
    simp only [Option.some.injEq, Prod.mk.injEq, Bool.and_eq_true, decide_eq_true_eq] at h
    obtain ⟨⟨h1, h2, h3, h4⟩, rfl⟩ := h
    exact ⟨rfl, rfl, 1000001, (textR_is s x a b c (Nat.le_of_ble_eq_true h1) h2 h3 h4).1⟩
  · cases h

/-! ### alike -/
theorem L65_is (fu : Nat) (a b : ByteArray) (hab : a.size = b.size) (ha : a.size ≤ 1000000) : ∀ (k i m : Nat), i + k = a.size → k < m → ∃ c : Bool, f65_L4 fu m a b (i : Int) = some (.bool c)
  | 0, i, m, hi, hm => by
    obtain ⟨m, rfl⟩ : ∃ m', m = m' + 1 := ⟨m - 1, by omega⟩
    have h1 : ¬ ((i : Int) < (a.size : Int)) := by omega
    rw [f65_L4_eq]
    simp only [h1, decide_false, cond_false]
    exact ⟨_, rfl⟩
  | k + 1, i, m, hi, hm => by
    obtain ⟨m, rfl⟩ : ∃ m', m = m' + 1 := ⟨m - 1, by omega⟩
    have h1 : (i : Int) < (a.size : Int) := by omega
    have h2 : (0 : Int) ≤ (i : Int) := by omega
    have h3 : (i : Int) < (b.size : Int) := by omega
    have w1 : IntKind.wrap .i64 ((i : Int) + 1) = ((i + 1 : Nat) : Int) := by rw [wrap_i64 (by omega) (by omega)]; omega
    have t1 : ∀ (x y : Bool), (bif x then bif y then true else true else true) = true := by decide
    rw [f65_L4_eq, w1]
    simp only [h1, h2, h3, decide_true, cond_true, Bool.and_self, t1]
    exact cond_of (Q := fun r => ∃ c : Bool, r = some (SV.bool c)) (fun _ => ⟨_, rfl⟩) (fun _ => L65_is fu a b hab ha k (i + 1) m (by omega) (by omega))
noncomputable def alikeR (a b : ByteArray) : Option SV := evFun f65_X 1000001 Tryz.f65 (frz f65_X.Ty Tryz.f65) [.str a, .str b] [] []
def boolV : Option SV → Bool | some (.bool b) => b | _ => false
theorem alikeR_is (a b : ByteArray) (ha : a.size ≤ 1000000) : alikeR a b = some (.bool (boolV (alikeR a b))) := by
  obtain ⟨c, h⟩ : ∃ c : Bool, alikeR a b = some (.bool c) := by
    rw [show alikeR a b = _ from f65_eq 1000001 a b]
    refine cond_of (Q := fun r => ∃ c : Bool, r = some (SV.bool c)) (fun _ => ⟨_, rfl⟩) (fun h => ?_)
    have hab : a.size = b.size := by
      have : (a.size : Int) = (b.size : Int) := by simpa using h
      omega
    exact L65_is 1000001 a b hab ha a.size 0 1000001 (by omega) (by omega)
  rw [h]; rfl
noncomputable def gAlikeR : List SV → Option (Bool × SV)
  | [.str a, .str b] => some (Nat.ble a.size 1000000, .bool (boolV (alikeR a b)))
  | _ => none
theorem zAlikeR_ok : SpecOk zE 65 (.plain gAlikeR) := by
  refine plain_of_run (zfx_ok zT6_ok [] f65_live) (fn := Tryz.f65) (by kernel_rfl) (by decide) (by rfl) (fun args sv h => ?_)
  unfold gAlikeR at h
  split at h
  · rename_i a b
    simp only [Option.some.injEq, Prod.mk.injEq] at h
    obtain ⟨h1, rfl⟩ := h
    exact ⟨rfl, rfl, 1000001, alikeR_is a b (Nat.le_of_ble_eq_true h1)⟩
  · cases h
end Sx

/-
  The document's media types: tokens, small letters, blanks, pieces, places of signs: that there is an answer, and of what shape.
-/
set_option linter.unusedVariables false
set_option linter.unusedSimpArgs false
namespace Sx
open Go Go.Proofs

def BoolR (r : Option SV) : Prop := ∃ c : Bool, r = some (.bool c)
theorem L70_is (fu : Nat) (s : ByteArray) (hs : s.size ≤ 1000000) : ∀ (k i m : Nat), i + k = s.size → k < m → BoolR (f70_L2 fu m s (i : Int))
  | 0, i, m, hi, hm => by
    obtain ⟨m, rfl⟩ : ∃ m', m = m' + 1 := ⟨m - 1, by omega⟩
    have h1 : ¬ ((i : Int) < (s.size : Int)) := by omega
    rw [f70_L2_eq]
    simp only [h1, decide_false, cond_false]
    exact ⟨_, rfl⟩
  | k + 1, i, m, hi, hm => by
    obtain ⟨m, rfl⟩ : ∃ m', m = m' + 1 := ⟨m - 1, by omega⟩
    have h1 : (i : Int) < (s.size : Int) := by omega
    have h2 : (0 : Int) ≤ (i : Int) := by omega
    have w1 : IntKind.wrap .i64 ((i : Int) + 1) = ((i + 1 : Nat) : Int) := by rw [wrap_i64 (by omega) (by omega)]; omega
    rw [f70_L2_eq, w1]
    simp only [h1, h2, decide_true, cond_true, Bool.and_self]
    have ih := L70_is fu s hs k (i + 1) m (by omega) (by omega)
    have fin : ∀ (c : Bool) (r : Option SV), BoolR r → BoolR (bif c then some (.bool false) else r) := fun c r h => by cases c; exact h; exact ⟨_, rfl⟩
    repeat (first | exact ih | refine fin _ _ ?_)
noncomputable def tokR (s : ByteArray) : Option SV := evFun f70_X 1000001 Tryz.f70 (frz f70_X.Ty Tryz.f70) [.str s] [] []
theorem tokR_is (s : ByteArray) (hs : s.size ≤ 1000000) : tokR s = some (.bool (boolV (tokR s))) := by
  obtain ⟨c, h⟩ := L70_is 1000001 s hs s.size 0 1000001 (by omega) (by omega)
  have e : tokR s = some (.bool c) := (f70_eq 1000001 s).trans h
  rw [e]; rfl
noncomputable def gTokR : List SV → Option (Bool × SV)
  | [.str s] => some (Nat.ble s.size 1000000, .bool (boolV (tokR s)))
  | _ => none
theorem zTokR_ok : SpecOk zE 70 (.plain gTokR) := by
  refine plain_of_run (zfx_ok zLib_ok [] f70_live) (fn := Tryz.f70) (by kernel_rfl) (by decide) (by rfl) (fun args sv h => ?_)
  unfold gTokR at h
  split at h
  · rename_i s
    simp only [Option.some.injEq, Prod.mk.injEq] at h
    obtain ⟨h1, rfl⟩ := h
    exact ⟨rfl, rfl, 1000001, tokR_is s (Nat.le_of_ble_eq_true h1)⟩
  · cases h
theorem strOf_one (x : SV) : (strOf [x]).size = 1 := rfl
theorem L71_is (fu : Nat) (s : ByteArray) (hs : s.size ≤ 1000000) : ∀ (k i m : Nat) (t : ByteArray), i + k = s.size → k < m → t.size ≤ i → ShortS s.size (f71_L3 fu m s t (i : Int))
  | 0, i, m, t, hi, hm, ht => by
    obtain ⟨m, rfl⟩ : ∃ m', m = m' + 1 := ⟨m - 1, by omega⟩
    have h1 : ¬ ((i : Int) < (s.size : Int)) := by omega
    rw [f71_L3_eq]
    simp only [h1, decide_false, cond_false]
    exact ⟨_, rfl, by omega⟩
  | k + 1, i, m, t, hi, hm, ht => by
    obtain ⟨m, rfl⟩ : ∃ m', m = m' + 1 := ⟨m - 1, by omega⟩
    have h1 : (i : Int) < (s.size : Int) := by omega
    have h2 : (0 : Int) ≤ (i : Int) := by omega
    have h3 : t.size + 1 ≤ 9223372036854775807 := by omega
    have w1 : IntKind.wrap .i64 ((i : Int) + 1) = ((i + 1 : Nat) : Int) := by rw [wrap_i64 (by omega) (by omega)]; omega
    rw [f71_L3_eq, w1]
    simp only [h1, h2, decide_true, cond_true, Bool.and_self, Nat.ble_eq_true_of_le h3]
    have ih := fun x => L71_is fu s hs k (i + 1) m (t ++ strOf [x]) (by omega) (by omega) (by rw [ByteArray.size_append, strOf_one]; omega)
    exact cond_of (Q := ShortS _) (fun _ => cond_of (Q := ShortS _) (fun _ => ih _) (fun _ => ih _)) (fun _ => ih _)
noncomputable def smallR (s : ByteArray) : Option SV := evFun f71_X 1000001 Tryz.f71 (frz f71_X.Ty Tryz.f71) [.str s] [] []
theorem smallR_is (s : ByteArray) (hs : s.size ≤ 1000000) : smallR s = some (.str (strV (smallR s))) ∧ (strV (smallR s)).size ≤ s.size := by
  obtain ⟨t, h1, h2⟩ := L71_is 1000001 s hs s.size 0 1000001 ⟨#[]⟩ (by omega) (by omega) (Nat.le_refl _)
  have e : smallR s = some (.str t) := (f71_eq 1000001 s).trans h1
  rw [e]; exact ⟨rfl, h2⟩
noncomputable def gSmallR : List SV → Option (Bool × SV)
  | [.str s] => some (Nat.ble s.size 1000000, .str (strV (smallR s)))
  | _ => none
theorem zSmallR_ok : SpecOk zE 71 (.plain gSmallR) := by
  refine plain_of_run (zfx_ok zLib_ok [] f71_live) (fn := Tryz.f71) (by kernel_rfl) (by decide) (by rfl) (fun args sv h => ?_)
  unfold gSmallR at h
  split at h
  · rename_i s
    simp only [Option.some.injEq, Prod.mk.injEq] at h
    obtain ⟨h1, rfl⟩ := h
    exact ⟨rfl, rfl, 1000001, (smallR_is s (Nat.le_of_ble_eq_true h1)).1⟩
  · cases h
theorem L110_is (fu : Nat) : ∀ (k m : Nat) (s : ByteArray), s.size = k → k ≤ 1000000 → k < m → ShortS k (f110_L1 fu m s)
  | 0, m, s, hs, hk, hm => by
    obtain ⟨m, rfl⟩ : ∃ m', m = m' + 1 := ⟨m - 1, by omega⟩
    have h1 : ¬ ((s.size : Int) > 0) := by omega
    rw [f110_L1_eq]
    simp only [h1, decide_false, cond_false]
    exact ⟨s, rfl, by omega⟩
  | k + 1, m, s, hs, hk, hm => by
    obtain ⟨m, rfl⟩ : ∃ m', m = m' + 1 := ⟨m - 1, by omega⟩
    have h1 : (s.size : Int) > 0 := by omega
    have h2 : (0 : Int) < (s.size : Int) := by omega
    have h3 : (1 : Int) ≤ (s.size : Int) := by omega
    have hsz : (s.extract 1 s.size).size = k := by rw [ByteArray.size_extract]; omega
    rw [f110_L1_eq]
    simp only [h1, h2, h3, decide_true, cond_true, Int.toNat_natCast]
    have ih : ShortS (k + 1) (f110_L1 fu m (s.extract 1 s.size)) := by
      obtain ⟨t, h5, h6⟩ := L110_is fu k m (s.extract 1 s.size) hsz (by omega) (by omega)
      exact ⟨t, h5, by omega⟩
    exact cond_of (Q := ShortS _) (fun _ => ih) (fun _ => cond_of (Q := ShortS _) (fun _ => ih) (fun _ => ⟨s, rfl, by omega⟩))
noncomputable def leftR (s : ByteArray) : Option SV := evFun f110_X 1000001 Tryz.f110 (frz f110_X.Ty Tryz.f110) [.str s] [] []
theorem leftR_is (s : ByteArray) (hs : s.size ≤ 1000000) : leftR s = some (.str (strV (leftR s))) ∧ (strV (leftR s)).size ≤ s.size := by
  obtain ⟨t, h1, h2⟩ := L110_is 1000001 s.size 1000001 s rfl hs (by omega)
  have e : leftR s = some (.str t) := (f110_eq 1000001 s).trans h1
  rw [e]; exact ⟨rfl, h2⟩
noncomputable def gLeftR : List SV → Option (Bool × SV)
  | [.str s] => some (Nat.ble s.size 1000000, .str (strV (leftR s)))
  | _ => none
theorem zLeftR_ok : SpecOk zE 110 (.plain gLeftR) := by
  refine plain_of_run (zfx_ok zLib_ok [] f110_live) (fn := Tryz.f110) (by kernel_rfl) (by decide) (by rfl) (fun args sv h => ?_)
  unfold gLeftR at h
  split at h
  · rename_i s
    simp only [Option.some.injEq, Prod.mk.injEq] at h
    obtain ⟨h1, rfl⟩ := h
    exact ⟨rfl, rfl, 1000001, (leftR_is s (Nat.le_of_ble_eq_true h1)).1⟩
  · cases h
/-- A place, or -1. -/
def AtR (n : Nat) (r : Option SV) : Prop := ∃ k : Int, r = some (.int .i64 k) ∧ -1 ≤ k ∧ k < n
theorem L69_is (fu : Nat) (s : ByteArray) (c : Int) (hs : s.size ≤ 1000000) : ∀ (k i m : Nat), i + k = s.size → k < m → AtR s.size (f69_L2 fu m s c (i : Int))
  | 0, i, m, hi, hm => by
    obtain ⟨m, rfl⟩ : ∃ m', m = m' + 1 := ⟨m - 1, by omega⟩
    have h1 : ¬ ((i : Int) < (s.size : Int)) := by omega
    rw [f69_L2_eq]
    simp only [h1, decide_false, cond_false]
    exact ⟨_, rfl, by omega, by omega⟩
  | k + 1, i, m, hi, hm => by
    obtain ⟨m, rfl⟩ : ∃ m', m = m' + 1 := ⟨m - 1, by omega⟩
    have h1 : (i : Int) < (s.size : Int) := by omega
    have h2 : (0 : Int) ≤ (i : Int) := by omega
    have w1 : IntKind.wrap .i64 ((i : Int) + 1) = ((i + 1 : Nat) : Int) := by rw [wrap_i64 (by omega) (by omega)]; omega
    rw [f69_L2_eq, w1]
    simp only [h1, h2, decide_true, cond_true, Bool.and_self]
    exact cond_of (Q := AtR _) (fun _ => ⟨_, rfl, by omega, by omega⟩) (fun _ => L69_is fu s c hs k (i + 1) m (by omega) (by omega))
noncomputable def atR (s : ByteArray) (c : Int) : Option SV := evFun f69_X 1000001 Tryz.f69 (frz f69_X.Ty Tryz.f69) [.str s, .int .u8 c] [] []
theorem atR_is (s : ByteArray) (c : Int) (hs : s.size ≤ 1000000) : atR s c = some (.int .i64 (intV (atR s c))) ∧ -1 ≤ intV (atR s c) ∧ intV (atR s c) < s.size := by
  obtain ⟨n, h1, h2, h3⟩ := L69_is 1000001 s c hs s.size 0 1000001 (by omega) (by omega)
  have e : atR s c = some (.int .i64 n) := (f69_eq 1000001 s c).trans h1
  rw [e]; exact ⟨rfl, h2, h3⟩
noncomputable def gAtR : List SV → Option (Bool × SV)
  | [.str s, .int .u8 c] => some (Nat.ble s.size 1000000, .int .i64 (intV (atR s c)))
  | _ => none
theorem zAtR_ok : SpecOk zE 69 (.plain gAtR) := by
  refine plain_of_run (zfx_ok zLib_ok [] f69_live) (fn := Tryz.f69) (by kernel_rfl) (by decide) (by rfl) (fun args sv h => ?_)
  unfold gAtR at h
  split at h
  · rename_i s c
    simp only [Option.some.injEq, Prod.mk.injEq] at h
    obtain ⟨h1, rfl⟩ := h
    exact ⟨rfl, rfl, 1000001, (atR_is s c (Nat.le_of_ble_eq_true h1)).1⟩
  · cases h
/-! ### a line without its end -/
theorem opt1_br (c : Bool) (a b : Tr SV) : (Tr.br c a b).opt1 = bif c then a.opt1 else b.opt1 := by cases c <;> rfl
theorem short_ext (s : ByteArray) (n : Nat) : ShortS s.size (some (.str (s.extract 0 n))) := ⟨_, rfl, by rw [ByteArray.size_extract]; omega⟩
noncomputable def bareR (s : ByteArray) : Option SV := evFun f74_X 1000001 Tryz.f74 (frz f74_X.Ty Tryz.f74) [.str s] [] []
theorem bare_short (s : ByteArray) (hs : s.size ≤ 1000000) : ShortS s.size (bareR s) := by
  have e : bareR s = (f74_T s).opt1 := f74_eq 1000001 s
  rw [e]
  unfold f74_T
  simp only [opt1_br]
  refine cond_of (Q := ShortS _) (fun c => ?_) (fun c => ?_)
  · simp only [decide_eq_true_eq] at c
    have w1 : IntKind.wrap .i64 ((s.size : Int) - 1) = ((s.size - 1 : Nat) : Int) := by rw [wrap_i64 (by omega) (by omega)]; omega
    have h1 : (0 : Int) ≤ ((s.size - 1 : Nat) : Int) := by omega
    have h2 : ((s.size - 1 : Nat) : Int) < (s.size : Int) := by omega
    have h3 : ((s.size - 1 : Nat) : Int) ≤ (s.size : Int) := by omega
    have h4 : (s.size : Int) ≤ (s.size : Int) := by omega
    rw [w1]
    simp only [h1, h2, h3, h4, decide_true, Bool.and_self, cond_true]
    refine cond_of (Q := ShortS _) (fun _ => ?_) (fun _ => short_ext s _)
    refine cond_of (Q := ShortS _) (fun c => ?_) (fun _ => short_ext s _)
    simp only [decide_eq_true_eq] at c
    have w2 : IntKind.wrap .i64 (((s.size - 1 : Nat) : Int) - 1) = ((s.size - 2 : Nat) : Int) := by rw [wrap_i64 (by omega) (by omega)]; omega
    have h5 : (0 : Int) ≤ ((s.size - 2 : Nat) : Int) := by omega
    have h6 : ((s.size - 2 : Nat) : Int) < (s.size : Int) := by omega
    have h7 : ((s.size - 2 : Nat) : Int) ≤ (s.size : Int) := by omega
    rw [w2]
    simp only [h5, h6, h7, decide_true, Bool.and_self, cond_true]
    exact cond_of (Q := ShortS _) (fun _ => short_ext s _) (fun _ => short_ext s _)
  · have h4 : (s.size : Int) ≤ (s.size : Int) := by omega
    simp only [h4, decide_true, Bool.and_self, cond_true]
    exact short_ext s _
theorem bareR_is (s : ByteArray) (hs : s.size ≤ 1000000) : bareR s = some (.str (strV (bareR s))) ∧ (strV (bareR s)).size ≤ s.size := by
  obtain ⟨t, h1, h2⟩ := bare_short s hs
  rw [h1]; exact ⟨rfl, h2⟩
noncomputable def gBareR : List SV → Option (Bool × SV)
  | [.str s] => some (Nat.ble s.size 1000000, .str (strV (bareR s)))
  | _ => none
theorem zBareR_ok : SpecOk zE 74 (.plain gBareR) := by
  refine plain_of_run (zfx_ok zLib_ok [] f74_live) (fn := Tryz.f74) (by kernel_rfl) (by decide) (by rfl) (fun args sv h => ?_)
  unfold gBareR at h
  split at h
  · rename_i s
    simp only [Option.some.injEq, Prod.mk.injEq] at h
    obtain ⟨h1, rfl⟩ := h
    exact ⟨rfl, rfl, 1000001, (bareR_is s (Nat.le_of_ble_eq_true h1)).1⟩
  · cases h
/-! ### pieces -/
/-- Texts no longer than that; there is one at least. -/
def PcsOk (a : Nat) (l : List SV) : Prop := (∀ x ∈ l, ∃ t : ByteArray, x = .str t ∧ t.size ≤ a) ∧ 0 < l.length ∧ l.length ≤ a + 1
theorem PcsOk.snoc {a : Nat} {l : List SV} (h : PcsOk a l) : PcsOk (a + 1) (l ++ [SV.str (ByteArray.mk #[])]) := by
  refine ⟨fun x hx => ?_, by simp, by simp; exact h.2.2⟩
  rcases List.mem_append.1 hx with h1 | h1
  · obtain ⟨t, h2, h3⟩ := h.1 x h1
    exact ⟨t, h2, by omega⟩
  · exact ⟨_, List.mem_singleton.1 h1, Nat.zero_le _⟩
theorem PcsOk.set {a b i : Nat} {l : List SV} {t : ByteArray} (h : PcsOk a l) (hab : a ≤ b) (ht : t.size ≤ b) : PcsOk b (l.set i (.str t)) := by
  refine ⟨fun x hx => ?_, by rw [List.length_set]; exact h.2.1, by rw [List.length_set]; have := h.2.2; omega⟩
  rcases List.mem_or_eq_of_mem_set hx with h1 | h1
  · obtain ⟨t, h2, h3⟩ := h.1 x h1
    exact ⟨t, h2, by omega⟩
  · exact ⟨_, h1, ht⟩
def PcsR (n : Nat) (r : Option SV) : Prop := ∃ l, r = some (.lst 9 l) ∧ PcsOk n l
theorem PcsR.up {a b : Nat} {r : Option SV} (h : PcsR a r) (hab : a ≤ b) : PcsR b r := by
  obtain ⟨l, h1, h2, h3, h4⟩ := h
  exact ⟨l, h1, fun x hx => by obtain ⟨t, q1, q2⟩ := h2 x hx; exact ⟨t, q1, by omega⟩, h3, by omega⟩
theorem L67_is (fu : Nat) (s : ByteArray) (hs : s.size ≤ 1000000) : ∀ (K k i m : Nat) (b : Bool) (out : List SV), k ≤ K → i + k = s.size → k < m → PcsOk i out → PcsR s.size (f67_L4 fu m s b (i : Int) out)
  | _, 0, i, m, b, out, hK, hi, hm, ho => by
    obtain ⟨m, rfl⟩ : ∃ m', m = m' + 1 := ⟨m - 1, by omega⟩
    have h1 : ¬ ((i : Int) < (s.size : Int)) := by omega
    have : i = s.size := by omega
    subst this
    rw [f67_L4_eq]
    simp only [h1, decide_false, cond_false]
    exact ⟨out, rfl, ho⟩
  | 0, k + 1, _, _, _, _, hK, _, _, _ => by omega
  | K + 1, k + 1, i, m, b, out, hK, hi, hm, ho => by
    obtain ⟨m, rfl⟩ : ∃ m', m = m' + 1 := ⟨m - 1, by omega⟩
    obtain ⟨ho1, ho2, ho3⟩ := ho
    have h1 : (i : Int) < (s.size : Int) := by omega
    have h2 : (0 : Int) ≤ (i : Int) := by omega
    have w1 : IntKind.wrap .i64 ((i : Int) + 1) = ((i + 1 : Nat) : Int) := by rw [wrap_i64 (by omega) (by omega)]; omega
    have w2 : IntKind.wrap .i64 ((i : Int) + 2) = ((i + 2 : Nat) : Int) := by rw [wrap_i64 (by omega) (by omega)]; omega
    have w3 : IntKind.wrap .i64 (((i + 1 : Nat) : Int) + 1) = ((i + 2 : Nat) : Int) := by rw [wrap_i64 (by omega) (by omega)]; omega
    have w4 : IntKind.wrap .i64 ((out.length : Int) - 1) = ((out.length - 1 : Nat) : Int) := by rw [wrap_i64 (by omega) (by omega)]; omega
    have hlt : out.length - 1 < out.length := by omega
    have h3 : (0 : Int) ≤ ((i + 1 : Nat) : Int) := by omega
    have h4 : ((i + 1 : Nat) : Int) ≤ (s.size : Int) := by omega
    have h5 : (i : Int) ≤ ((i + 1 : Nat) : Int) := by omega
    have h6 : (0 : Int) ≤ ((out.length - 1 : Nat) : Int) := by omega
    have h7 : ((out.length - 1 : Nat) : Int) < (out.length : Int) := by omega
    have r1 : (out.length + 1) * 16 ≤ 140737488355328 := by omega
    have r2 : out.length + 1 ≤ 9223372036854775807 := by omega
    have z1 : (s.extract i (i + 1)).size = 1 := by rw [ByteArray.size_extract]; omega
    rw [f67_L4_eq, w1, w2, w3, w4]
    simp only [h1, h2, h3, h4, h5, h6, h7, r1, r2, decide_true, cond_true, Bool.and_self, Int.toNat_natCast, zgetD_at hlt, z1]
    obtain ⟨t, q1, q2⟩ := ho1 _ (List.getElem_mem hlt)
    rw [q1]
    have e1 : asStr (List.getD (cellsOf (SV.str t)) 0 SV.dead) = t := rfl
    have y1 : t.size + 1 ≤ 9223372036854775807 := by omega
    rw [e1]
    simp only [Nat.ble_eq_true_of_le y1, cond_true]
    have ihn : ∀ b, PcsR s.size (f67_L4 fu m s b ((i + 1 : Nat) : Int) (out ++ [SV.str (ByteArray.mk #[])])) := fun b => L67_is fu s hs K k (i + 1) m b _ (by omega) (by omega) (by omega) (PcsOk.snoc ⟨ho1, ho2, ho3⟩)
    have ihs : ∀ b, PcsR s.size (f67_L4 fu m s b ((i + 1 : Nat) : Int) (out.set (out.length - 1) (SV.str (t ++ s.extract i (i + 1))))) := fun b =>
      L67_is fu s hs K k (i + 1) m b _ (by omega) (by omega) (by omega) (PcsOk.set ⟨ho1, ho2, ho3⟩ (by omega) (by rw [ByteArray.size_append, z1]; omega))
    have hQ : ∀ b, PcsR s.size (bif (s.extract i (i + 1)).toList == ByteArray.toList (ByteArray.mk #[(59 : UInt8)]) then
        bif !b then f67_L4 fu m s b ((i + 1 : Nat) : Int) (out ++ [SV.str (ByteArray.mk #[])])
        else f67_L4 fu m s b ((i + 1 : Nat) : Int) (out.set (out.length - 1) (SV.str (t ++ s.extract i (i + 1))))
      else f67_L4 fu m s b ((i + 1 : Nat) : Int) (out.set (out.length - 1) (SV.str (t ++ s.extract i (i + 1))))) := fun b =>
      cond_of (Q := PcsR _) (fun _ => cond_of (Q := PcsR _) (fun _ => ihn b) (fun _ => ihs b)) (fun _ => ihs b)
    refine cond_of (Q := PcsR _) (fun _ => ?_) (fun _ => ?_)
    · refine cond_of (Q := PcsR _) (fun _ => ?_) (fun _ => ?_)
      · refine cond_of (Q := PcsR _) (fun c => ?_) (fun _ => ?_)
        · simp only [decide_eq_true_eq] at c
          have h8 : (0 : Int) ≤ ((i + 2 : Nat) : Int) := by omega
          have h9 : ((i + 2 : Nat) : Int) ≤ (s.size : Int) := by omega
          have h10 : (i : Int) ≤ ((i + 2 : Nat) : Int) := by omega
          have z2 : (s.extract i (i + 2)).size = 2 := by rw [ByteArray.size_extract]; omega
          have y2 : t.size + 2 ≤ 9223372036854775807 := by omega
          simp only [h8, h9, h10, decide_true, cond_true, Bool.and_self, z2, Nat.ble_eq_true_of_le y2]
          obtain ⟨k, rfl⟩ : ∃ k', k = k' + 1 := ⟨k - 1, by omega⟩
          exact L67_is fu s hs K k (i + 2) m b _ (by omega) (by omega) (by omega) (PcsOk.set ⟨ho1, ho2, ho3⟩ (by omega) (by rw [ByteArray.size_append, z2]; omega))
        · exact cond_of (Q := PcsR _) (fun _ => hQ _) (fun _ => hQ _)
      · exact cond_of (Q := PcsR _) (fun _ => hQ _) (fun _ => hQ _)
    · exact cond_of (Q := PcsR _) (fun _ => hQ _) (fun _ => hQ _)
noncomputable def piecesR (s : ByteArray) : Option SV := evFun f67_X 1000001 Tryz.f67 (frz f67_X.Ty Tryz.f67) [.str s] [] []
theorem piecesR_is (s : ByteArray) (hs : s.size ≤ 1000000) : piecesR s = some (.lst 9 (lstV (piecesR s))) ∧ PcsOk s.size (lstV (piecesR s)) := by
  obtain ⟨l, h1, h2⟩ := L67_is 1000001 s hs s.size s.size 0 1000001 false [SV.str (ByteArray.mk #[])] (Nat.le_refl _) (by omega) (by omega) ⟨fun x hx => ⟨_, List.mem_singleton.1 hx, Nat.zero_le _⟩, by simp, by simp⟩
  have e : piecesR s = some (.lst 9 l) := (f67_eq 1000001 s).trans h1
  rw [e]; exact ⟨rfl, h2⟩
noncomputable def gPiecesR : List SV → Option (Bool × SV)
  | [.str s] => some (Nat.ble s.size 1000000, .lst 9 (lstV (piecesR s)))
  | _ => none
theorem zPiecesR_ok : SpecOk zE 67 (.plain gPiecesR) := by
  refine plain_of_run (zfx_ok zLib_ok [] f67_live) (fn := Tryz.f67) (by kernel_rfl) (by decide) (by rfl) (fun args sv h => ?_)
  unfold gPiecesR at h
  split at h
  · rename_i s
    simp only [Option.some.injEq, Prod.mk.injEq] at h
    obtain ⟨h1, rfl⟩ := h
    exact ⟨rfl, rfl, 1000001, (piecesR_is s (Nat.le_of_ble_eq_true h1)).1⟩
  · cases h
end Sx

/-
  What the executor says of functions: the normal forms, each compared by the kernel. (Printed by a program.)
-/
set_option linter.unusedVariables false
namespace Sx
open Go Go.Proofs
noncomputable def zT8 : List (Nat × Spec) := (64, .plain gFieldsR) :: (66, .plain gTextR) :: (65, .plain gAlikeR) :: (110, .plain gLeftR) :: (69, .plain gAtR) :: (70, .plain gTokR) :: (71, .plain gSmallR) :: (67, .plain gPiecesR) :: (74, .plain gBareR) :: zT7
theorem zT8_ok : SpecsOk zE (ofList zT8) := .cons zFieldsR_ok (.cons zTextR_ok (.cons zAlikeR_ok (.cons zLeftR_ok (.cons zAtR_ok (.cons zTokR_ok (.cons zSmallR_ok (.cons zPiecesR_ok (.cons zBareR_ok zT7_ok))))))))
set_option maxRecDepth 100000
/-- The slots that are needed at the loops' heads of 'hamper/hamperref17.Find'. -/
noncomputable def f35_live : Nat → List Nat × List (Nat × TypeId) := fun h => bif Nat.beq h 3 then ([0, 1, 6, 7], nilsOf (tyOf Tryz.prog) [(0, 9), (1, 9), (6, 119), (7, 3)]) else ([], [])
noncomputable def f35_X : Fx := ⟨tyOf Tryz.prog, ofList zT8, [], f35_live⟩
/-- The slots that are needed at the loops' heads of 'hamper/hamperref19.trim'. -/
noncomputable def f68_live : Nat → List Nat × List (Nat × TypeId) := fun h => bif Nat.beq h 2 then ([0], nilsOf (tyOf Tryz.prog) [(0, 9)]) else ([], [])
noncomputable def f68_X : Fx := ⟨tyOf Tryz.prog, ofList zT8, [], f68_live⟩
/-- The slots that are needed at the loops' heads of 'hamper/hamperref19.value'. -/
noncomputable def f72_live : Nat → List Nat × List (Nat × TypeId) := fun h => bif Nat.beq h 12 then ([0, 3, 5], nilsOf (tyOf Tryz.prog) [(0, 9), (3, 9), (5, 3)]) else bif Nat.beq h 7 then ([0, 3, 4], nilsOf (tyOf Tryz.prog) [(0, 9), (3, 9), (4, 3)]) else ([], [])
noncomputable def f72_X : Fx := ⟨tyOf Tryz.prog, ofList zT8, [], f72_live⟩
/-- The slots that are needed at the loops' heads of 'hamper/hamperref19.Find'. -/
noncomputable def f37_live : Nat → List Nat × List (Nat × TypeId) := fun h => bif Nat.beq h 2 then ([1, 2, 6], nilsOf (tyOf Tryz.prog) [(1, 9), (2, 0), (6, 3)]) else ([], [])
noncomputable def f37_X : Fx := ⟨tyOf Tryz.prog, ofList zT8, [], f37_live⟩
/-- The slots that are needed at the loops' heads of 'hamper/hamperref20.parts'. -/
noncomputable def f73_live : Nat → List Nat × List (Nat × TypeId) := fun h => bif Nat.beq h 11 then ([5, 7, 8], nilsOf (tyOf Tryz.prog) [(5, 9), (7, 3), (8, 3)]) else ([], [])
noncomputable def f73_X : Fx := ⟨tyOf Tryz.prog, ofList zT8, [], f73_live⟩
def f35_st3 (x0 : ByteArray) (x1 : ByteArray) (x2 : List SV) (x3 : Int) : St := St.mk
  [SV.str x0, SV.str x1, SV.dead, SV.dead, SV.dead, SV.dead, SV.lst (123 : Nat) x2, SV.int IntKind.i64 x3, SV.dead, SV.dead, SV.dead, SV.dead, SV.dead, SV.dead, SV.dead, SV.dead, SV.dead, SV.dead, SV.dead, SV.dead,
    SV.dead, SV.dead, SV.dead, SV.dead, SV.dead, SV.dead, SV.dead, SV.dead, SV.dead]
  [] []
noncomputable def f35_L3 (fu fm : Nat) (x0 : ByteArray) (x1 : ByteArray) (x2 : List SV) (x3 : Int) : Option (SV) := atLoop f35_X Tryz.f35 (frz f35_X.Ty Tryz.f35) fu [.r, .r, .l, .r, .b] fm (f35_st3 x0 x1 x2 x3)

theorem f35_L3_eq (fu fm : Nat) (x0 : ByteArray) (x1 : ByteArray) (x2 : List SV) (x3 : Int) : f35_L3 fu (fm + 1) x0 x1 x2 x3 = bif decide (x3 < (↑(List.length x2) : Int)) then
  bif decide ((0 : Int) ≤ x3) && decide (x3 < (↑(List.length x2) : Int)) then
    bif Nat.ble (ByteArray.size (asStr (List.getD (cellsOf (List.getD x2 (Int.toNat x3) SV.dead)) (0 : Nat) SV.dead))) (1000000 : Nat) then
      bif boolV (alikeR (asStr (List.getD (cellsOf (List.getD x2 (Int.toNat x3) SV.dead)) (0 : Nat) SV.dead)) x1) then
        bif decide ((0 : Int) ≤ x3) && decide (x3 < (↑(List.length x2) : Int)) then
          bif
              Nat.ble (ByteArray.size x0) (1000000 : Nat) &&
                (decide ((0 : Int) ≤ asInt (List.getD (cellsOf (List.getD x2 (Int.toNat x3) SV.dead)) (3 : Nat) SV.dead)) &&
                  (decide (asInt (List.getD (cellsOf (List.getD x2 (Int.toNat x3) SV.dead)) (3 : Nat) SV.dead) ≤ asInt (List.getD (cellsOf (List.getD x2 (Int.toNat x3) SV.dead)) (2 : Nat) SV.dead)) &&
                    decide (asInt (List.getD (cellsOf (List.getD x2 (Int.toNat x3) SV.dead)) (2 : Nat) SV.dead) ≤ (↑(ByteArray.size x0) : Int)))) then
            some
              (SV.tup
                [SV.str
                    (strV
                      (textR x0 (asStr (List.getD (cellsOf (List.getD x2 (Int.toNat x3) SV.dead)) (0 : Nat) SV.dead)) (asInt (List.getD (cellsOf (List.getD x2 (Int.toNat x3) SV.dead)) (1 : Nat) SV.dead))
                        (asInt (List.getD (cellsOf (List.getD x2 (Int.toNat x3) SV.dead)) (2 : Nat) SV.dead)) (asInt (List.getD (cellsOf (List.getD x2 (Int.toNat x3) SV.dead)) (3 : Nat) SV.dead)))),
                  SV.bool true])
          else none
        else none
      else f35_L3 fu fm x0 x1 x2 (IntKind.wrap IntKind.i64 (x3 + (1 : Int)))
    else none
  else none
  else some (SV.tup [SV.str (ByteArray.mk #[]), SV.bool false]) := by kernel_rfl

theorem f35_eq (fu : Nat) (s : ByteArray) (n : ByteArray) : evFun f35_X fu Tryz.f35 (frz f35_X.Ty Tryz.f35) [.str s, .str n] [] [] = bif Nat.ble (ByteArray.size s) (1000000 : Nat) then f35_L3 fu fu s n (lstV (fieldsR s)) (0 : Int) else none := by kernel_rfl

def f68_st2 (x0 : ByteArray) : St := St.mk
  [SV.str x0, SV.dead, SV.dead, SV.dead, SV.dead, SV.dead, SV.dead, SV.dead, SV.dead, SV.dead, SV.dead, SV.dead, SV.dead, SV.dead, SV.dead, SV.dead, SV.dead, SV.dead, SV.dead, SV.dead, SV.dead, SV.dead, SV.dead, SV.dead,
    SV.dead, SV.dead, SV.dead, SV.dead, SV.dead, SV.dead]
  [] []
noncomputable def f68_L2 (fu fm : Nat) (x0 : ByteArray) : Option (SV) := atLoop f68_X Tryz.f68 (frz f68_X.Ty Tryz.f68) fu [.r, .r, .l, .b] fm (f68_st2 x0)

theorem f68_L2_eq (fu fm : Nat) (x0 : ByteArray) : f68_L2 fu (fm + 1) x0 = bif decide ((↑(ByteArray.size x0) : Int) > (0 : Int)) then
  bif decide ((0 : Int) ≤ IntKind.wrap IntKind.i64 ((↑(ByteArray.size x0) : Int) - (1 : Int))) && decide (IntKind.wrap IntKind.i64 ((↑(ByteArray.size x0) : Int) - (1 : Int)) < (↑(ByteArray.size x0) : Int)) then
    bif bAt x0 (IntKind.wrap IntKind.i64 ((↑(ByteArray.size x0) : Int) - (1 : Int))) == (32 : Int) then
      bif
          decide ((0 : Int) ≤ IntKind.wrap IntKind.i64 ((↑(ByteArray.size x0) : Int) - (1 : Int))) && decide (IntKind.wrap IntKind.i64 ((↑(ByteArray.size x0) : Int) - (1 : Int)) ≤ (↑(ByteArray.size x0) : Int)) &&
            true then
        f68_L2 fu fm (ByteArray.extract x0 (0 : Nat) (Int.toNat (IntKind.wrap IntKind.i64 ((↑(ByteArray.size x0) : Int) - (1 : Int)))))
      else none
    else
      bif decide ((0 : Int) ≤ IntKind.wrap IntKind.i64 ((↑(ByteArray.size x0) : Int) - (1 : Int))) && decide (IntKind.wrap IntKind.i64 ((↑(ByteArray.size x0) : Int) - (1 : Int)) < (↑(ByteArray.size x0) : Int)) then
        bif bAt x0 (IntKind.wrap IntKind.i64 ((↑(ByteArray.size x0) : Int) - (1 : Int))) == (9 : Int) then
          bif
              decide ((0 : Int) ≤ IntKind.wrap IntKind.i64 ((↑(ByteArray.size x0) : Int) - (1 : Int))) && decide (IntKind.wrap IntKind.i64 ((↑(ByteArray.size x0) : Int) - (1 : Int)) ≤ (↑(ByteArray.size x0) : Int)) &&
                true then
            f68_L2 fu fm (ByteArray.extract x0 (0 : Nat) (Int.toNat (IntKind.wrap IntKind.i64 ((↑(ByteArray.size x0) : Int) - (1 : Int)))))
          else none
        else some (SV.str x0)
      else none
  else none
  else some (SV.str x0) := by kernel_rfl

theorem f68_eq (fu : Nat) (s : ByteArray) : evFun f68_X fu Tryz.f68 (frz f68_X.Ty Tryz.f68) [.str s] [] [] = bif Nat.ble (ByteArray.size s) (1000000 : Nat) then f68_L2 fu fu (strV (leftR s)) else none := by kernel_rfl

def f72_st12 (x0 : ByteArray) (x1 : ByteArray) (x2 : Int) : St := St.mk
  [SV.str x0, SV.dead, SV.dead, SV.str x1, SV.dead, SV.int IntKind.i64 x2, SV.dead, SV.dead, SV.dead, SV.dead, SV.dead, SV.dead, SV.dead, SV.dead, SV.dead, SV.dead, SV.dead, SV.dead, SV.dead, SV.dead, SV.dead, SV.dead,
    SV.dead, SV.dead, SV.dead, SV.dead, SV.dead, SV.dead, SV.dead, SV.dead, SV.dead, SV.dead, SV.dead, SV.dead, SV.dead, SV.dead, SV.dead, SV.dead, SV.dead, SV.dead, SV.dead, SV.dead, SV.dead, SV.dead, SV.dead, SV.dead,
    SV.dead, SV.dead, SV.dead, SV.dead, SV.dead, SV.dead, SV.dead, SV.dead, SV.dead, SV.dead, SV.dead, SV.dead, SV.dead, SV.dead, SV.dead, SV.dead, SV.dead, SV.dead, SV.dead, SV.dead, SV.dead, SV.dead, SV.dead]
  [] []
noncomputable def f72_L12 (fu fm : Nat) (x0 : ByteArray) (x1 : ByteArray) (x2 : Int) : Option (SV) := atLoop f72_X Tryz.f72 (frz f72_X.Ty Tryz.f72) fu [.r, .r, .r, .r, .r, .l, .r, .b] fm (f72_st12 x0 x1 x2)

def f72_st7 (x0 : ByteArray) (x1 : ByteArray) (x2 : Int) : St := St.mk
  [SV.str x0, SV.dead, SV.dead, SV.str x1, SV.int IntKind.i64 x2, SV.dead, SV.dead, SV.dead, SV.dead, SV.dead, SV.dead, SV.dead, SV.dead, SV.dead, SV.dead, SV.dead, SV.dead, SV.dead, SV.dead, SV.dead, SV.dead, SV.dead,
    SV.dead, SV.dead, SV.dead, SV.dead, SV.dead, SV.dead, SV.dead, SV.dead, SV.dead, SV.dead, SV.dead, SV.dead, SV.dead, SV.dead, SV.dead, SV.dead, SV.dead, SV.dead, SV.dead, SV.dead, SV.dead, SV.dead, SV.dead, SV.dead,
    SV.dead, SV.dead, SV.dead, SV.dead, SV.dead, SV.dead, SV.dead, SV.dead, SV.dead, SV.dead, SV.dead, SV.dead, SV.dead, SV.dead, SV.dead, SV.dead, SV.dead, SV.dead, SV.dead, SV.dead, SV.dead, SV.dead, SV.dead]
  [] []
noncomputable def f72_L7 (fu fm : Nat) (x0 : ByteArray) (x1 : ByteArray) (x2 : Int) : Option (SV) := atLoop f72_X Tryz.f72 (frz f72_X.Ty Tryz.f72) fu [.r, .r, .r, .r, .l, .r, .t, .l, .r, .b] fm (f72_st7 x0 x1 x2)

theorem f72_L12_eq (fu fm : Nat) (x0 : ByteArray) (x1 : ByteArray) (x2 : Int) : f72_L12 fu (fm + 1) x0 x1 x2 = bif decide (x2 < (↑(ByteArray.size x0) : Int)) then
  bif decide ((0 : Int) ≤ x2) && decide (x2 < (↑(ByteArray.size x0) : Int)) then
    bif bAt x0 x2 == (34 : Int) then some (SV.str x1)
    else
      bif decide ((0 : Int) ≤ x2) && decide (x2 < (↑(ByteArray.size x0) : Int)) then
        bif bAt x0 x2 == (92 : Int) then
          bif IntKind.wrap IntKind.i64 (x2 + (1 : Int)) == (↑(ByteArray.size x0) : Int) then some (SV.str x1)
          else
            bif
                decide ((0 : Int) ≤ IntKind.wrap IntKind.i64 (IntKind.wrap IntKind.i64 (x2 + (1 : Int)) + (1 : Int))) &&
                    decide (IntKind.wrap IntKind.i64 (IntKind.wrap IntKind.i64 (x2 + (1 : Int)) + (1 : Int)) ≤ (↑(ByteArray.size x0) : Int)) &&
                  (decide ((0 : Int) ≤ IntKind.wrap IntKind.i64 (x2 + (1 : Int))) &&
                    decide (IntKind.wrap IntKind.i64 (x2 + (1 : Int)) ≤ IntKind.wrap IntKind.i64 (IntKind.wrap IntKind.i64 (x2 + (1 : Int)) + (1 : Int)))) then
              bif
                  Nat.ble
                    (ByteArray.size x1 +
                      ByteArray.size (ByteArray.extract x0 (Int.toNat (IntKind.wrap IntKind.i64 (x2 + (1 : Int)))) (Int.toNat (IntKind.wrap IntKind.i64 (IntKind.wrap IntKind.i64 (x2 + (1 : Int)) + (1 : Int))))))
                    (9223372036854775807 : Nat) then
                f72_L12 fu fm x0 (x1 ++ ByteArray.extract x0 (Int.toNat (IntKind.wrap IntKind.i64 (x2 + (1 : Int)))) (Int.toNat (IntKind.wrap IntKind.i64 (IntKind.wrap IntKind.i64 (x2 + (1 : Int)) + (1 : Int)))))
                  (IntKind.wrap IntKind.i64 (IntKind.wrap IntKind.i64 (x2 + (1 : Int)) + (1 : Int)))
              else none
            else none
        else
          bif
              decide ((0 : Int) ≤ IntKind.wrap IntKind.i64 (x2 + (1 : Int))) && decide (IntKind.wrap IntKind.i64 (x2 + (1 : Int)) ≤ (↑(ByteArray.size x0) : Int)) &&
                (decide ((0 : Int) ≤ x2) && decide (x2 ≤ IntKind.wrap IntKind.i64 (x2 + (1 : Int)))) then
            bif Nat.ble (ByteArray.size x1 + ByteArray.size (ByteArray.extract x0 (Int.toNat x2) (Int.toNat (IntKind.wrap IntKind.i64 (x2 + (1 : Int)))))) (9223372036854775807 : Nat) then
              f72_L12 fu fm x0 (x1 ++ ByteArray.extract x0 (Int.toNat x2) (Int.toNat (IntKind.wrap IntKind.i64 (x2 + (1 : Int))))) (IntKind.wrap IntKind.i64 (x2 + (1 : Int)))
            else none
          else none
      else none
  else none
  else some (SV.str x1) := by kernel_rfl

theorem f72_L7_eq (fu fm : Nat) (x0 : ByteArray) (x1 : ByteArray) (x2 : Int) : f72_L7 fu (fm + 1) x0 x1 x2 = bif decide (x2 < (↑(ByteArray.size x0) : Int)) then
  bif decide ((0 : Int) ≤ x2) && decide (x2 < (↑(ByteArray.size x0) : Int)) then
    bif bAt x0 x2 != (32 : Int) then
      bif decide ((0 : Int) ≤ x2) && decide (x2 < (↑(ByteArray.size x0) : Int)) then
        bif bAt x0 x2 != (9 : Int) then
          bif
              decide ((0 : Int) ≤ IntKind.wrap IntKind.i64 (x2 + (1 : Int))) && decide (IntKind.wrap IntKind.i64 (x2 + (1 : Int)) ≤ (↑(ByteArray.size x0) : Int)) &&
                (decide ((0 : Int) ≤ x2) && decide (x2 ≤ IntKind.wrap IntKind.i64 (x2 + (1 : Int)))) then
            bif Nat.ble (ByteArray.size x1 + ByteArray.size (ByteArray.extract x0 (Int.toNat x2) (Int.toNat (IntKind.wrap IntKind.i64 (x2 + (1 : Int)))))) (9223372036854775807 : Nat) then
              f72_L7 fu fm x0 (x1 ++ ByteArray.extract x0 (Int.toNat x2) (Int.toNat (IntKind.wrap IntKind.i64 (x2 + (1 : Int))))) (IntKind.wrap IntKind.i64 (x2 + (1 : Int)))
            else none
          else none
        else some (SV.str x1)
      else none
    else some (SV.str x1)
  else none
  else some (SV.str x1) := by kernel_rfl

theorem f72_eq (fu : Nat) (s : ByteArray) : evFun f72_X fu Tryz.f72 (frz f72_X.Ty Tryz.f72) [.str s] [] [] = bif Nat.ble (ByteArray.size s) (1000000 : Nat) then
  bif ByteArray.toList (strV (leftR s)) == ByteArray.toList (ByteArray.mk #[]) then some (SV.str (ByteArray.mk #[]))
  else
    bif decide ((0 : Int) < (↑(ByteArray.size (strV (leftR s))) : Int)) then
      bif bAt (strV (leftR s)) (0 : Int) != (34 : Int) then f72_L7 fu fu (strV (leftR s)) (ByteArray.mk #[]) (0 : Int) else f72_L12 fu fu (strV (leftR s)) (ByteArray.mk #[]) (1 : Int)
    else none
  else none := by kernel_rfl

def f37_st2 (x0 : ByteArray) (x1 : Int) (x2 : ByteArray) (x3 : ByteArray) (x4 : List SV) : St := St.mk
  [SV.dead, SV.str x0, SV.box (100 : Nat) (0 : Nat), SV.dead, SV.dead, SV.dead, SV.int IntKind.i64 x1, SV.dead, SV.dead, SV.dead, SV.dead, SV.dead, SV.dead, SV.dead, SV.dead, SV.dead, SV.dead, SV.dead, SV.dead, SV.dead,
    SV.dead, SV.dead, SV.dead, SV.dead, SV.dead, SV.dead, SV.dead, SV.dead]
  [((100 : Nat), SObj.box (25 : Nat) [SV.str x2, SV.str x3, SV.lst (127 : Nat) x4])] [(100 : Nat)]
noncomputable def f37_L2 (fu fm : Nat) (x0 : ByteArray) (x1 : Int) (x2 : ByteArray) (x3 : ByteArray) (x4 : List SV) : Option (SV) := atLoop f37_X Tryz.f37 (frz f37_X.Ty Tryz.f37) fu [.r, .l, .r, .b] fm (f37_st2 x0 x1 x2 x3 x4)

theorem f37_L2_eq (fu fm : Nat) (x0 : ByteArray) (x1 : Int) (x2 : ByteArray) (x3 : ByteArray) (x4 : List SV) : f37_L2 fu (fm + 1) x0 x1 x2 x3 x4 = bif decide (x1 < (↑(List.length x4) : Int)) then
  bif decide ((0 : Int) ≤ x1) && decide (x1 < (↑(List.length x4) : Int)) then
    bif ByteArray.toList (asStr (List.getD (cellsOf (List.getD x4 (Int.toNat x1) SV.dead)) (0 : Nat) SV.dead)) == ByteArray.toList x0 then
      bif decide ((0 : Int) ≤ x1) && decide (x1 < (↑(List.length x4) : Int)) then some (SV.tup [SV.str (asStr (List.getD (cellsOf (List.getD x4 (Int.toNat x1) SV.dead)) (1 : Nat) SV.dead)), SV.bool true]) else none
    else f37_L2 fu fm x0 (IntKind.wrap IntKind.i64 (x1 + (1 : Int))) x2 x3 x4
  else none
  else some (SV.tup [SV.str (ByteArray.mk #[]), SV.bool false]) := by kernel_rfl

theorem f37_eq (fu : Nat) (a : ByteArray) (b : ByteArray) (p : List SV) (n : ByteArray) : evFun f37_X fu Tryz.f37 (frz f37_X.Ty Tryz.f37) [.agg [.str a, .str b, .lst 127 p], .str n] [] [] = f37_L2 fu fu n (0 : Int) a b p := by kernel_rfl

def f73_st11 (x0 : ByteArray) (x1 : Int) (x2 : Int) : St := St.mk
  [SV.dead, SV.dead, SV.dead, SV.dead, SV.dead, SV.str x0, SV.dead, SV.int IntKind.i64 x1, SV.int IntKind.i64 x2, SV.dead, SV.dead, SV.dead, SV.dead, SV.dead, SV.dead, SV.dead, SV.dead, SV.dead, SV.dead, SV.dead,
    SV.dead, SV.dead, SV.dead, SV.dead, SV.dead, SV.dead, SV.dead, SV.dead, SV.dead, SV.dead, SV.dead, SV.dead, SV.dead, SV.dead, SV.dead, SV.dead, SV.dead, SV.dead, SV.dead, SV.dead, SV.dead, SV.dead, SV.dead, SV.dead,
    SV.dead, SV.dead, SV.dead, SV.dead, SV.dead, SV.dead, SV.dead, SV.dead]
  [] []
noncomputable def f73_L11 (fu fm : Nat) (x0 : ByteArray) (x1 : Int) (x2 : Int) : Option (SV) := atLoop f73_X Tryz.f73 (frz f73_X.Ty Tryz.f73) fu [.r, .r, .r, .r, .r, .r, .r, .l, .r, .b] fm (f73_st11 x0 x1 x2)

theorem f73_L11_eq (fu fm : Nat) (x0 : ByteArray) (x1 : Int) (x2 : Int) : f73_L11 fu (fm + 1) x0 x1 x2 = bif decide (x2 < (↑(ByteArray.size x0) : Int)) then
  bif decide ((0 : Int) ≤ x2) && decide (x2 < (↑(ByteArray.size x0) : Int)) then
    bif !(bAt x0 x2 == (32 : Int) || bAt x0 x2 == (9 : Int)) then some (SV.int IntKind.i64 (0 : Int)) else f73_L11 fu fm x0 x1 (IntKind.wrap IntKind.i64 (x2 + (1 : Int)))
  else none
  else some (SV.int IntKind.i64 x1) := by kernel_rfl

theorem f73_eq (fu : Nat) (s : ByteArray) (b : ByteArray) : evFun f73_X fu Tryz.f73 (frz f73_X.Ty Tryz.f73) [.str s, .str b] [] [] = bif Nat.ble (ByteArray.size s) (1000000 : Nat) then
  bif Nat.ble ((2 : Nat) + ByteArray.size b) (9223372036854775807 : Nat) then
    bif decide ((↑(ByteArray.size (strV (bareR s))) : Int) < (↑(ByteArray.size (ByteArray.mk #[(45 : UInt8), (45 : UInt8)] ++ b)) : Int)) then some (SV.int IntKind.i64 (0 : Int))
    else
      bif decide ((↑(ByteArray.size (ByteArray.mk #[(45 : UInt8), (45 : UInt8)] ++ b)) : Int) ≤ (↑(ByteArray.size (strV (bareR s))) : Int)) && true then
        bif
            !ByteArray.toList (ByteArray.extract (strV (bareR s)) (0 : Nat) (Int.toNat (↑(ByteArray.size (ByteArray.mk #[(45 : UInt8), (45 : UInt8)] ++ b)) : Int))) ==
                ByteArray.toList (ByteArray.mk #[(45 : UInt8), (45 : UInt8)] ++ b) then
          some (SV.int IntKind.i64 (0 : Int))
        else
          bif decide ((↑(ByteArray.size (ByteArray.mk #[(45 : UInt8), (45 : UInt8)] ++ b)) : Int) ≤ (↑(ByteArray.size (strV (bareR s))) : Int)) then
            bif
                decide
                  ((↑(ByteArray.size (ByteArray.extract (strV (bareR s)) (Int.toNat (↑(ByteArray.size (ByteArray.mk #[(45 : UInt8), (45 : UInt8)] ++ b)) : Int)) (Int.toNat (↑(ByteArray.size (strV (bareR s))) : Int)))) :
                      Int) ≥
                    (2 : Int)) then
              bif
                  decide
                      ((2 : Int) ≤
                        (↑(ByteArray.size
                              (ByteArray.extract (strV (bareR s)) (Int.toNat (↑(ByteArray.size (ByteArray.mk #[(45 : UInt8), (45 : UInt8)] ++ b)) : Int)) (Int.toNat (↑(ByteArray.size (strV (bareR s))) : Int)))) :
                          Int)) &&
                    true then
                bif
                    ByteArray.toList
                        (ByteArray.extract
                          (ByteArray.extract (strV (bareR s)) (Int.toNat (↑(ByteArray.size (ByteArray.mk #[(45 : UInt8), (45 : UInt8)] ++ b)) : Int)) (Int.toNat (↑(ByteArray.size (strV (bareR s))) : Int))) (0 : Nat)
                          (2 : Nat)) ==
                      ByteArray.toList (ByteArray.mk #[(45 : UInt8), (45 : UInt8)]) then
                  bif
                      decide
                        ((2 : Int) ≤
                          (↑(ByteArray.size
                                (ByteArray.extract (strV (bareR s)) (Int.toNat (↑(ByteArray.size (ByteArray.mk #[(45 : UInt8), (45 : UInt8)] ++ b)) : Int)) (Int.toNat (↑(ByteArray.size (strV (bareR s))) : Int)))) :
                            Int)) then
                    f73_L11 fu fu
                      (ByteArray.extract (ByteArray.extract (strV (bareR s)) (Int.toNat (↑(ByteArray.size (ByteArray.mk #[(45 : UInt8), (45 : UInt8)] ++ b)) : Int)) (Int.toNat (↑(ByteArray.size (strV (bareR s))) : Int)))
                        (2 : Nat)
                        (Int.toNat
                          (↑(ByteArray.size
                                (ByteArray.extract (strV (bareR s)) (Int.toNat (↑(ByteArray.size (ByteArray.mk #[(45 : UInt8), (45 : UInt8)] ++ b)) : Int)) (Int.toNat (↑(ByteArray.size (strV (bareR s))) : Int)))) :
                            Int)))
                      (2 : Int) (0 : Int)
                  else none
                else
                  f73_L11 fu fu (ByteArray.extract (strV (bareR s)) (Int.toNat (↑(ByteArray.size (ByteArray.mk #[(45 : UInt8), (45 : UInt8)] ++ b)) : Int)) (Int.toNat (↑(ByteArray.size (strV (bareR s))) : Int)))
                    (1 : Int) (0 : Int)
              else none
            else
              f73_L11 fu fu (ByteArray.extract (strV (bareR s)) (Int.toNat (↑(ByteArray.size (ByteArray.mk #[(45 : UInt8), (45 : UInt8)] ++ b)) : Int)) (Int.toNat (↑(ByteArray.size (strV (bareR s))) : Int))) (1 : Int)
                (0 : Int)
          else none
      else none
  else none
  else none := by kernel_rfl

end Sx

/-
  The document's headers and media types, further: Find, trim, value, Find of parameters, and whether a line parts.
-/
set_option linter.unusedVariables false
set_option linter.unusedSimpArgs false
namespace Sx
open Go Go.Proofs

def TsbR (r : Option SV) : Prop := ∃ (t : ByteArray) (b : Bool), r = some (.tup [.str t, .bool b]) ∧ t.size ≤ 1000000
theorem L35_is (fu : Nat) (s n : ByteArray) (l : List SV) (hs : s.size ≤ 1000000) (hl : l.length ≤ 1000000) (hok : FldsOk s.size l) : ∀ (k i m : Nat), i + k = l.length → k < m → TsbR (f35_L3 fu m s n l (i : Int))
  | 0, i, m, hi, hm => by
    obtain ⟨m, rfl⟩ : ∃ m', m = m' + 1 := ⟨m - 1, by omega⟩
    have h1 : ¬ ((i : Int) < (l.length : Int)) := by omega
    rw [f35_L3_eq]
    simp only [h1, decide_false, cond_false]
    exact ⟨_, _, rfl, Nat.zero_le _⟩
  | k + 1, i, m, hi, hm => by
    obtain ⟨m, rfl⟩ : ∃ m', m = m' + 1 := ⟨m - 1, by omega⟩
    have hlt : i < l.length := by omega
    have h1 : (i : Int) < (l.length : Int) := by omega
    have h2 : (0 : Int) ≤ (i : Int) := by omega
    have w1 : IntKind.wrap .i64 ((i : Int) + 1) = ((i + 1 : Nat) : Int) := by rw [wrap_i64 (by omega) (by omega)]; omega
    rw [f35_L3_eq, w1]
    simp only [h1, h2, decide_true, cond_true, Bool.and_self, Int.toNat_natCast, zgetD_at hlt]
    obtain ⟨t', f, u, v, q1, q2, q3, q4, q5⟩ := hok _ (List.getElem_mem hlt)
    rw [q1]
    have e2 : asStr (List.getD (cellsOf (SV.agg [.str t', .int .i64 f, .int .i64 u, .int .i64 v])) 0 SV.dead) = t' := rfl
    have e3 : asInt (List.getD (cellsOf (SV.agg [.str t', .int .i64 f, .int .i64 u, .int .i64 v])) 1 SV.dead) = f := rfl
    have e4 : asInt (List.getD (cellsOf (SV.agg [.str t', .int .i64 f, .int .i64 u, .int .i64 v])) 2 SV.dead) = u := rfl
    have e5 : asInt (List.getD (cellsOf (SV.agg [.str t', .int .i64 f, .int .i64 u, .int .i64 v])) 3 SV.dead) = v := rfl
    have g1 : (0 : Int) ≤ (v : Int) := by omega
    have g2 : (v : Int) ≤ (u : Int) := by omega
    have g3 : (u : Int) ≤ (s.size : Int) := by omega
    rw [e2, e3, e4, e5]
    simp only [g1, g2, g3, decide_true, Bool.and_self, cond_true, Nat.ble_eq_true_of_le q2, Nat.ble_eq_true_of_le hs]
    refine cond_of (Q := TsbR) (fun _ => ⟨_, _, rfl, (textR_is s t' f u v hs g1 g2 g3).2⟩) (fun _ => L35_is fu s n l hs hl hok k (i + 1) m (by omega) (by omega))
noncomputable def findR (s n : ByteArray) : Option SV := evFun f35_X 1000001 Tryz.f35 (frz f35_X.Ty Tryz.f35) [.str s, .str n] [] []
def tupB : Option SV → Bool | some (.tup [_, .bool b]) => b | _ => false
theorem findR_is (s n : ByteArray) (hs : s.size ≤ 1000000) : findR s n = some (.tup [.str (tupS (findR s n)), .bool (tupB (findR s n))]) ∧ (tupS (findR s n)).size ≤ 1000000 := by
  obtain ⟨_, c2, c3⟩ := fieldsR_is s hs
  obtain ⟨t, b, h1, h2⟩ := L35_is 1000001 s n (lstV (fieldsR s)) hs c3 c2 (lstV (fieldsR s)).length 0 1000001 (by omega) (by omega)
  have e : findR s n = some (.tup [.str t, .bool b]) := by
    refine (f35_eq 1000001 s n).trans ?_
    rw [Nat.ble_eq_true_of_le hs, cond_true]
    exact h1
  rw [e]; exact ⟨rfl, h2⟩
noncomputable def gFindR : List SV → Option (Bool × SV)
  | [.str s, .str n] => some (Nat.ble s.size 1000000, .tup [.str (tupS (findR s n)), .bool (tupB (findR s n))])
  | _ => none
theorem zFindR_ok : SpecOk zE 35 (.plain gFindR) := by
  refine plain_of_run (zfx_ok zT8_ok [] f35_live) (fn := Tryz.f35) (by kernel_rfl) (by decide) (by rfl) (fun args sv h => ?_)
  unfold gFindR at h
  split at h
  · rename_i s n
    simp only [Option.some.injEq, Prod.mk.injEq] at h
    obtain ⟨h1, rfl⟩ := h
    exact ⟨rfl, rfl, 1000001, (findR_is s n (Nat.le_of_ble_eq_true h1)).1⟩
  · cases h
/-! ### without blanks -/
theorem L68_is (fu : Nat) : ∀ (k m : Nat) (s : ByteArray), s.size = k → k ≤ 1000000 → k < m → ShortS k (f68_L2 fu m s)
  | 0, m, s, hs, hk, hm => by
    obtain ⟨m, rfl⟩ : ∃ m', m = m' + 1 := ⟨m - 1, by omega⟩
    have h1 : ¬ ((s.size : Int) > 0) := by omega
    rw [f68_L2_eq]
    simp only [h1, decide_false, cond_false]
    exact ⟨s, rfl, by omega⟩
  | k + 1, m, s, hs, hk, hm => by
    obtain ⟨m, rfl⟩ : ∃ m', m = m' + 1 := ⟨m - 1, by omega⟩
    have h1 : (s.size : Int) > 0 := by omega
    have w1 : IntKind.wrap .i64 ((s.size : Int) - 1) = (k : Int) := by rw [wrap_i64 (by omega) (by omega)]; omega
    have h2 : (0 : Int) ≤ (k : Int) := by omega
    have h3 : (k : Int) < (s.size : Int) := by omega
    have h4 : (k : Int) ≤ (s.size : Int) := by omega
    have hsz : (s.extract 0 k).size = k := by rw [ByteArray.size_extract]; omega
    rw [f68_L2_eq, w1]
    simp only [h1, h2, h3, h4, decide_true, cond_true, Bool.and_self, Int.toNat_natCast]
    have ih : ShortS (k + 1) (f68_L2 fu m (s.extract 0 k)) := by
      obtain ⟨t, h5, h6⟩ := L68_is fu k m (s.extract 0 k) hsz (by omega) (by omega)
      exact ⟨t, h5, by omega⟩
    exact cond_of (Q := ShortS _) (fun _ => ih) (fun _ => cond_of (Q := ShortS _) (fun _ => ih) (fun _ => ⟨s, rfl, by omega⟩))
noncomputable def trim2R (s : ByteArray) : Option SV := evFun f68_X 1000001 Tryz.f68 (frz f68_X.Ty Tryz.f68) [.str s] [] []
theorem trim2R_is (s : ByteArray) (hs : s.size ≤ 1000000) : trim2R s = some (.str (strV (trim2R s))) ∧ (strV (trim2R s)).size ≤ s.size := by
  obtain ⟨_, l2⟩ := leftR_is s hs
  obtain ⟨t, h1, h2⟩ := L68_is 1000001 (strV (leftR s)).size 1000001 (strV (leftR s)) rfl (by omega) (by omega)
  have e : trim2R s = some (.str t) := by
    refine (f68_eq 1000001 s).trans ?_
    rw [Nat.ble_eq_true_of_le hs, cond_true]
    exact h1
  rw [e]; exact ⟨rfl, Nat.le_trans h2 l2⟩
noncomputable def gTrim2R : List SV → Option (Bool × SV)
  | [.str s] => some (Nat.ble s.size 1000000, .str (strV (trim2R s)))
  | _ => none
theorem zTrim2R_ok : SpecOk zE 68 (.plain gTrim2R) := by
  refine plain_of_run (zfx_ok zT8_ok [] f68_live) (fn := Tryz.f68) (by kernel_rfl) (by decide) (by rfl) (fun args sv h => ?_)
  unfold gTrim2R at h
  split at h
  · rename_i s
    simp only [Option.some.injEq, Prod.mk.injEq] at h
    obtain ⟨h1, rfl⟩ := h
    exact ⟨rfl, rfl, 1000001, (trim2R_is s (Nat.le_of_ble_eq_true h1)).1⟩
  · cases h
/-! ### a value -/
theorem L72a_is (fu : Nat) (s : ByteArray) (hs : s.size ≤ 1000000) : ∀ (k i m : Nat) (t : ByteArray), i + k = s.size → k < m → t.size ≤ i → ShortS s.size (f72_L7 fu m s t (i : Int))
  | 0, i, m, t, hi, hm, ht => by
    obtain ⟨m, rfl⟩ : ∃ m', m = m' + 1 := ⟨m - 1, by omega⟩
    have h1 : ¬ ((i : Int) < (s.size : Int)) := by omega
    rw [f72_L7_eq]
    simp only [h1, decide_false, cond_false]
    exact ⟨_, rfl, by omega⟩
  | k + 1, i, m, t, hi, hm, ht => by
    obtain ⟨m, rfl⟩ : ∃ m', m = m' + 1 := ⟨m - 1, by omega⟩
    have h1 : (i : Int) < (s.size : Int) := by omega
    have h2 : (0 : Int) ≤ (i : Int) := by omega
    have w1 : IntKind.wrap .i64 ((i : Int) + 1) = ((i + 1 : Nat) : Int) := by rw [wrap_i64 (by omega) (by omega)]; omega
    have h3 : (0 : Int) ≤ ((i + 1 : Nat) : Int) := by omega
    have h4 : ((i + 1 : Nat) : Int) ≤ (s.size : Int) := by omega
    have h5 : (i : Int) ≤ ((i + 1 : Nat) : Int) := by omega
    have z1 : (s.extract i (i + 1)).size = 1 := by rw [ByteArray.size_extract]; omega
    have y1 : t.size + 1 ≤ 9223372036854775807 := by omega
    rw [f72_L7_eq, w1]
    simp only [h1, h2, h3, h4, h5, decide_true, cond_true, Bool.and_self, Int.toNat_natCast, z1, Nat.ble_eq_true_of_le y1]
    have st : ShortS s.size (some (.str t)) := ⟨t, rfl, by omega⟩
    exact cond_of (Q := ShortS _) (fun _ => cond_of (Q := ShortS _) (fun _ => L72a_is fu s hs k (i + 1) m _ (by omega) (by omega) (by rw [ByteArray.size_append, z1]; omega)) (fun _ => st)) (fun _ => st)
theorem L72b_is (fu : Nat) (s : ByteArray) (hs : s.size ≤ 1000000) : ∀ (K k i m : Nat) (t : ByteArray), k ≤ K → i + k = s.size → k < m → t.size ≤ i → ShortS s.size (f72_L12 fu m s t (i : Int))
  | _, 0, i, m, t, hK, hi, hm, ht => by
    obtain ⟨m, rfl⟩ : ∃ m', m = m' + 1 := ⟨m - 1, by omega⟩
    have h1 : ¬ ((i : Int) < (s.size : Int)) := by omega
    rw [f72_L12_eq]
    simp only [h1, decide_false, cond_false]
    exact ⟨_, rfl, by omega⟩
  | 0, k + 1, _, _, _, hK, _, _, _ => by omega
  | K + 1, k + 1, i, m, t, hK, hi, hm, ht => by
    obtain ⟨m, rfl⟩ : ∃ m', m = m' + 1 := ⟨m - 1, by omega⟩
    have h1 : (i : Int) < (s.size : Int) := by omega
    have h2 : (0 : Int) ≤ (i : Int) := by omega
    have w1 : IntKind.wrap .i64 ((i : Int) + 1) = ((i + 1 : Nat) : Int) := by rw [wrap_i64 (by omega) (by omega)]; omega
    have w2 : IntKind.wrap .i64 (((i + 1 : Nat) : Int) + 1) = ((i + 2 : Nat) : Int) := by rw [wrap_i64 (by omega) (by omega)]; omega
    have h3 : (0 : Int) ≤ ((i + 1 : Nat) : Int) := by omega
    have h4 : ((i + 1 : Nat) : Int) ≤ (s.size : Int) := by omega
    have h5 : (i : Int) ≤ ((i + 1 : Nat) : Int) := by omega
    have z1 : (s.extract i (i + 1)).size = 1 := by rw [ByteArray.size_extract]; omega
    have y1 : t.size + 1 ≤ 9223372036854775807 := by omega
    rw [f72_L12_eq, w1, w2]
    simp only [h1, h2, h3, h4, h5, decide_true, cond_true, Bool.and_self, Int.toNat_natCast, z1, Nat.ble_eq_true_of_le y1]
    have st : ShortS s.size (some (.str t)) := ⟨t, rfl, by omega⟩
    refine cond_of (Q := ShortS _) (fun _ => st) (fun _ => cond_of (Q := ShortS _) (fun _ => ?_) (fun _ => L72b_is fu s hs K k (i + 1) m _ (by omega) (by omega) (by omega) (by rw [ByteArray.size_append, z1]; omega)))
    refine cond_of (Q := ShortS _) (fun _ => st) (fun c => ?_)
    have c1 : i + 1 ≠ s.size := by
      intro q
      have : (((i + 1 : Nat) : Int) == (s.size : Int)) = true := by rw [q]; simp
      rw [this] at c; cases c
    have h6 : (0 : Int) ≤ ((i + 2 : Nat) : Int) := by omega
    have h7 : ((i + 2 : Nat) : Int) ≤ (s.size : Int) := by omega
    have h8 : ((i + 1 : Nat) : Int) ≤ ((i + 2 : Nat) : Int) := by omega
    have z2 : (s.extract (i + 1) (i + 2)).size = 1 := by rw [ByteArray.size_extract]; omega
    simp only [h6, h7, h8, decide_true, cond_true, Bool.and_self, z2, Nat.ble_eq_true_of_le y1]
    obtain ⟨k, rfl⟩ : ∃ k', k = k' + 1 := ⟨k - 1, by omega⟩
    exact L72b_is fu s hs K k (i + 2) m _ (by omega) (by omega) (by omega) (by rw [ByteArray.size_append, z2]; omega)
noncomputable def valueR (s : ByteArray) : Option SV := evFun f72_X 1000001 Tryz.f72 (frz f72_X.Ty Tryz.f72) [.str s] [] []
theorem empty_of {t : ByteArray} (h : ¬ 0 < t.size) : t.toList = ByteArray.toList (ByteArray.mk #[]) := by
  have : t = ByteArray.mk #[] := by
    rcases t with ⟨a⟩
    have : a = #[] := Array.eq_empty_of_size_eq_zero (by simp only [ByteArray.size] at h; omega)
    rw [this]
  rw [this]
theorem valueR_is (s : ByteArray) (hs : s.size ≤ 1000000) : valueR s = some (.str (strV (valueR s))) ∧ (strV (valueR s)).size ≤ 1000000 := by
  obtain ⟨_, l2⟩ := leftR_is s hs
  have main : ShortS 1000000 (valueR s) := by
    rw [show valueR s = _ from f72_eq 1000001 s]
    rw [Nat.ble_eq_true_of_le hs, cond_true]
    refine cond_of (Q := ShortS _) (fun _ => ⟨_, rfl, Nat.zero_le _⟩) (fun c => ?_)
    have hp : 0 < (strV (leftR s)).size := by
      by_cases hp : 0 < (strV (leftR s)).size
      · exact hp
      · rw [empty_of hp] at c; simp at c
    have h1 : (0 : Int) < ((strV (leftR s)).size : Int) := by omega
    simp only [h1, decide_true, cond_true]
    have up : ∀ r, ShortS (strV (leftR s)).size r → ShortS 1000000 r := fun r ⟨t, q1, q2⟩ => ⟨t, q1, by omega⟩
    refine cond_of (Q := ShortS _) (fun _ => up _ ?_) (fun _ => up _ ?_)
    · exact L72a_is 1000001 _ (by omega) (strV (leftR s)).size 0 1000001 ⟨#[]⟩ (by omega) (by omega) (Nat.le_refl _)
    · exact L72b_is 1000001 _ (by omega) (strV (leftR s)).size ((strV (leftR s)).size - 1) 1 1000001 ⟨#[]⟩ (by omega) (by omega) (by omega) (Nat.zero_le _)
  obtain ⟨t, h1, h2⟩ := main
  rw [h1]; exact ⟨rfl, h2⟩
noncomputable def gValueR : List SV → Option (Bool × SV)
  | [.str s] => some (Nat.ble s.size 1000000, .str (strV (valueR s)))
  | _ => none
theorem zValueR_ok : SpecOk zE 72 (.plain gValueR) := by
  refine plain_of_run (zfx_ok zT8_ok [] f72_live) (fn := Tryz.f72) (by kernel_rfl) (by decide) (by rfl) (fun args sv h => ?_)
  unfold gValueR at h
  split at h
  · rename_i s
    simp only [Option.some.injEq, Prod.mk.injEq] at h
    obtain ⟨h1, rfl⟩ := h
    exact ⟨rfl, rfl, 1000001, (valueR_is s (Nat.le_of_ble_eq_true h1)).1⟩
  · cases h
/-! ### a parameter -/
def ParsOk (p : List SV) : Prop := ∀ x ∈ p, ∃ n v : ByteArray, x = .agg [.str n, .str v] ∧ v.size ≤ 1000000
theorem L37_is (fu : Nat) (n a b : ByteArray) (p : List SV) (hl : p.length ≤ 1000000) : ∀ (k i m : Nat), i + k = p.length → k < m →
    ∃ (t : ByteArray) (c : Bool), f37_L2 fu m n (i : Int) a b p = some (.tup [.str t, .bool c]) ∧ (ParsOk p → t.size ≤ 1000000)
  | 0, i, m, hi, hm => by
    obtain ⟨m, rfl⟩ : ∃ m', m = m' + 1 := ⟨m - 1, by omega⟩
    have h1 : ¬ ((i : Int) < (p.length : Int)) := by omega
    rw [f37_L2_eq]
    simp only [h1, decide_false, cond_false]
    exact ⟨_, _, rfl, fun _ => Nat.zero_le _⟩
  | k + 1, i, m, hi, hm => by
    obtain ⟨m, rfl⟩ : ∃ m', m = m' + 1 := ⟨m - 1, by omega⟩
    have hlt : i < p.length := by omega
    have h1 : (i : Int) < (p.length : Int) := by omega
    have h2 : (0 : Int) ≤ (i : Int) := by omega
    have w1 : IntKind.wrap .i64 ((i : Int) + 1) = ((i + 1 : Nat) : Int) := by rw [wrap_i64 (by omega) (by omega)]; omega
    rw [f37_L2_eq, w1]
    simp only [h1, h2, decide_true, cond_true, Bool.and_self, Int.toNat_natCast, zgetD_at hlt]
    refine cond_of (Q := fun r => ∃ (t : ByteArray) (c : Bool), r = some (SV.tup [.str t, .bool c]) ∧ (ParsOk p → t.size ≤ 1000000)) (fun _ => ⟨_, _, rfl, fun ok => ?_⟩) (fun _ => L37_is fu n a b p hl k (i + 1) m (by omega) (by omega))
    obtain ⟨x, v, q1, q2⟩ := ok _ (List.getElem_mem hlt)
    rw [q1]
    exact q2
noncomputable def parR (a b : ByteArray) (p : List SV) (n : ByteArray) : Option SV := evFun f37_X 1000001 Tryz.f37 (frz f37_X.Ty Tryz.f37) [.agg [.str a, .str b, .lst 127 p], .str n] [] []
theorem parR_is (a b : ByteArray) (p : List SV) (n : ByteArray) (hl : p.length ≤ 1000000) : parR a b p n = some (.tup [.str (tupS (parR a b p n)), .bool (tupB (parR a b p n))]) ∧ (ParsOk p → (tupS (parR a b p n)).size ≤ 1000000) := by
  obtain ⟨t, c, h1, h2⟩ := L37_is 1000001 n a b p hl p.length 0 1000001 (by omega) (by omega)
  have e : parR a b p n = some (.tup [.str t, .bool c]) := (f37_eq 1000001 a b p n).trans h1
  rw [e]; exact ⟨rfl, h2⟩
noncomputable def gParR : List SV → Option (Bool × SV)
  | [.agg [.str a, .str b, .lst 127 p], .str n] => some (Nat.ble p.length 1000000, .tup [.str (tupS (parR a b p n)), .bool (tupB (parR a b p n))])
  | _ => none
theorem zParR_ok : SpecOk zE 37 (.plain gParR) := by
  refine plain_of_run (zfx_ok zT8_ok [] f37_live) (fn := Tryz.f37) (by kernel_rfl) (by decide) (by rfl) (fun args sv h => ?_)
  unfold gParR at h
  split at h
  · rename_i a b p n
    simp only [Option.some.injEq, Prod.mk.injEq] at h
    obtain ⟨h1, rfl⟩ := h
    exact ⟨rfl, rfl, 1000001, (parR_is a b p n (Nat.le_of_ble_eq_true h1)).1⟩
  · cases h
/-! ### whether a line parts -/
def IntR (r : Option SV) : Prop := ∃ k : Int, r = some (.int .i64 k)
theorem L73_is (fu : Nat) (s : ByteArray) (c : Int) (hs : s.size ≤ 1000000) : ∀ (k i m : Nat), i + k = s.size → k < m → IntR (f73_L11 fu m s c (i : Int))
  | 0, i, m, hi, hm => by
    obtain ⟨m, rfl⟩ : ∃ m', m = m' + 1 := ⟨m - 1, by omega⟩
    have h1 : ¬ ((i : Int) < (s.size : Int)) := by omega
    rw [f73_L11_eq]
    simp only [h1, decide_false, cond_false]
    exact ⟨_, rfl⟩
  | k + 1, i, m, hi, hm => by
    obtain ⟨m, rfl⟩ : ∃ m', m = m' + 1 := ⟨m - 1, by omega⟩
    have h1 : (i : Int) < (s.size : Int) := by omega
    have h2 : (0 : Int) ≤ (i : Int) := by omega
    have w1 : IntKind.wrap .i64 ((i : Int) + 1) = ((i + 1 : Nat) : Int) := by rw [wrap_i64 (by omega) (by omega)]; omega
    rw [f73_L11_eq, w1]
    simp only [h1, h2, decide_true, cond_true, Bool.and_self]
    exact cond_of (Q := IntR) (fun _ => ⟨_, rfl⟩) (fun _ => L73_is fu s c hs k (i + 1) m (by omega) (by omega))
noncomputable def kindR (s b : ByteArray) : Option SV := evFun f73_X 1000001 Tryz.f73 (frz f73_X.Ty Tryz.f73) [.str s, .str b] [] []
theorem kindR_is (s b : ByteArray) (hs : s.size ≤ 1000000) (hb : b.size ≤ 1000000) : kindR s b = some (.int .i64 (intV (kindR s b))) := by
  obtain ⟨_, l2⟩ := bareR_is s hs
  have main : IntR (kindR s b) := by
    rw [show kindR s b = _ from f73_eq 1000001 s b]
    have hb2 : 2 + b.size ≤ 9223372036854775807 := by omega
    simp only [Nat.ble_eq_true_of_le hs, Nat.ble_eq_true_of_le hb2, cond_true]
    generalize strV (bareR s) = t at l2 ⊢
    generalize ByteArray.mk #[(45 : UInt8), (45 : UInt8)] ++ b = g
    refine cond_of (Q := IntR) (fun _ => ⟨_, rfl⟩) (fun c => ?_)
    simp only [decide_eq_false_iff_not] at c
    have h1 : (g.size : Int) ≤ (t.size : Int) := by omega
    simp only [h1, decide_true, Bool.and_self, cond_true, Int.toNat_natCast]
    refine cond_of (Q := IntR) (fun _ => ⟨_, rfl⟩) (fun _ => ?_)
    have z1 : (t.extract g.size t.size).size ≤ 1000000 := by rw [ByteArray.size_extract]; omega
    have l0 : ∀ (u : ByteArray) (c : Int), u.size ≤ 1000000 → IntR (f73_L11 1000001 1000001 u c (0 : Int)) := fun u c hu => L73_is 1000001 u c hu u.size 0 1000001 (by omega) (by omega)
    refine cond_of (Q := IntR) (fun c => ?_) (fun _ => l0 _ _ z1)
    have h2 : (2 : Int) ≤ ((t.extract g.size t.size).size : Int) := of_decide_eq_true c
    simp only [h2, decide_true, Bool.and_self, cond_true]
    exact cond_of (Q := IntR) (fun _ => l0 _ _ (by rw [ByteArray.size_extract]; omega)) (fun _ => l0 _ _ z1)
  obtain ⟨k, h1⟩ := main
  rw [h1]; rfl
noncomputable def gKindR : List SV → Option (Bool × SV)
  | [.str s, .str b] => some (Nat.ble s.size 1000000 && Nat.ble b.size 1000000, .int .i64 (intV (kindR s b)))
  | _ => none
theorem zKindR_ok : SpecOk zE 73 (.plain gKindR) := by
  refine plain_of_run (zfx_ok zT8_ok [] f73_live) (fn := Tryz.f73) (by kernel_rfl) (by decide) (by rfl) (fun args sv h => ?_)
  unfold gKindR at h
  split at h
  · rename_i s b
    simp only [Option.some.injEq, Prod.mk.injEq, Bool.and_eq_true] at h
    obtain ⟨⟨h1, h2⟩, rfl⟩ := h
    exact ⟨rfl, rfl, 1000001, kindR_is s b (Nat.le_of_ble_eq_true h1) (Nat.le_of_ble_eq_true h2)⟩
  · cases h
end Sx

/-
  What the executor says of functions: the normal forms, each compared by the kernel. (Printed by a program.)
-/
set_option linter.unusedVariables false
namespace Sx
open Go Go.Proofs
noncomputable def zT9 : List (Nat × Spec) := (35, .plain gFindR) :: (68, .plain gTrim2R) :: (72, .plain gValueR) :: (37, .plain gParR) :: (73, .plain gKindR) :: zT8
theorem zT9_ok : SpecsOk zE (ofList zT9) := .cons zFindR_ok (.cons zTrim2R_ok (.cons zValueR_ok (.cons zParR_ok (.cons zKindR_ok zT8_ok))))
set_option maxRecDepth 100000
/-- The slots that are needed at the loops' heads of 'hamper/hamperref19.Read'. -/
noncomputable def f36_live : Nat → List Nat × List (Nat × TypeId) := fun h => bif Nat.beq h 10 then ([2, 3, 4, 7], nilsOf (tyOf Tryz.prog) [(2, 0), (3, 0), (4, 39), (7, 3)]) else ([], [])
noncomputable def f36_X : Fx := ⟨tyOf Tryz.prog, ofList zT9, [], f36_live⟩
/-- The slots that are needed at the loops' heads of 'hamper/hamperref20.Spans'. -/
noncomputable def f38_live : Nat → List Nat × List (Nat × TypeId) := fun h => bif Nat.beq h 6 then ([2, 3, 9, 10, 11, 12, 13], nilsOf (tyOf Tryz.prog) [(2, 3), (3, 9), (9, 96), (10, 39), (11, 3), (12, 3), (13, 3)]) else ([], [])
noncomputable def f38_X : Fx := ⟨tyOf Tryz.prog, ofList zT9, [], f38_live⟩
def f36_st10 (x0 : List SV) (x1 : Int) (x2 : ByteArray) (x3 : ByteArray) (x4 : ByteArray) (x5 : ByteArray) (x6 : List SV) (x7 : List SV) : St := St.mk
  [SV.dead, SV.dead, SV.box (100 : Nat) (0 : Nat), SV.box (101 : Nat) (0 : Nat), SV.lst (9 : Nat) x0, SV.dead, SV.dead, SV.int IntKind.i64 x1, SV.dead, SV.dead, SV.dead, SV.dead, SV.dead, SV.dead, SV.dead, SV.dead,
    SV.dead, SV.dead, SV.dead, SV.dead, SV.dead, SV.dead, SV.dead, SV.dead, SV.dead, SV.dead, SV.dead, SV.dead, SV.dead, SV.dead, SV.dead, SV.dead, SV.dead, SV.dead, SV.dead, SV.dead, SV.dead, SV.dead, SV.dead, SV.dead,
    SV.dead, SV.dead, SV.dead, SV.dead, SV.dead, SV.dead, SV.dead, SV.dead, SV.dead, SV.dead, SV.dead, SV.dead, SV.dead, SV.dead, SV.dead, SV.dead, SV.dead, SV.dead, SV.dead, SV.dead, SV.dead, SV.dead, SV.dead, SV.dead,
    SV.dead, SV.dead, SV.dead, SV.dead, SV.dead, SV.dead, SV.dead, SV.dead, SV.dead, SV.dead, SV.dead, SV.dead, SV.dead, SV.dead, SV.dead, SV.dead, SV.dead, SV.dead, SV.dead, SV.dead, SV.dead, SV.dead, SV.dead]
  [((100 : Nat), SObj.box (25 : Nat) [SV.str x2, SV.str x3, SV.row (102 : Nat)]), ((101 : Nat), SObj.box (25 : Nat) [SV.str x4, SV.str x5, SV.row (103 : Nat)]), ((102 : Nat), SObj.row (127 : Nat) x6),
    ((103 : Nat), SObj.row (127 : Nat) x7)]
  [(100 : Nat), (101 : Nat), (102 : Nat), (103 : Nat)]
noncomputable def f36_L10 (fu fm : Nat) (x0 : List SV) (x1 : Int) (x2 : ByteArray) (x3 : ByteArray) (x4 : ByteArray) (x5 : ByteArray) (x6 : List SV) (x7 : List SV) : Option (SV) := atLoop f36_X Tryz.f36 (frz f36_X.Ty Tryz.f36) fu [.r, .r, .r, .r, .r, .r, .r, .r, .l, .r, .b] fm (f36_st10 x0 x1 x2 x3 x4 x5 x6 x7)

theorem f36_L10_eq (fu fm : Nat) (x0 : List SV) (x1 : Int) (x2 : ByteArray) (x3 : ByteArray) (x4 : ByteArray) (x5 : ByteArray) (x6 : List SV) (x7 : List SV) : f36_L10 fu (fm + 1) x0 x1 x2 x3 x4 x5 x6 x7 = bif decide (x1 < (↑(List.length x0) : Int)) then
  bif decide ((0 : Int) ≤ x1) && decide (x1 < (↑(List.length x0) : Int)) then
    bif Nat.ble (ByteArray.size (asStr (List.getD (cellsOf (List.getD x0 (Int.toNat x1) SV.dead)) (0 : Nat) SV.dead))) (1000000 : Nat) then
      bif decide (intV (atR (asStr (List.getD (cellsOf (List.getD x0 (Int.toNat x1) SV.dead)) (0 : Nat) SV.dead)) (61 : Int)) < (0 : Int)) then
        f36_L10 fu fm x0 (IntKind.wrap IntKind.i64 (x1 + (1 : Int))) x2 x3 x4 x5 x6 x7
      else
        bif decide ((0 : Int) ≤ x1) && decide (x1 < (↑(List.length x0) : Int)) then
          bif
              decide ((0 : Int) ≤ intV (atR (asStr (List.getD (cellsOf (List.getD x0 (Int.toNat x1) SV.dead)) (0 : Nat) SV.dead)) (61 : Int))) &&
                  decide
                    (intV (atR (asStr (List.getD (cellsOf (List.getD x0 (Int.toNat x1) SV.dead)) (0 : Nat) SV.dead)) (61 : Int)) ≤
                      (↑(ByteArray.size (asStr (List.getD (cellsOf (List.getD x0 (Int.toNat x1) SV.dead)) (0 : Nat) SV.dead))) : Int)) &&
                true then
            bif
                Nat.ble
                  (ByteArray.size
                    (ByteArray.extract (asStr (List.getD (cellsOf (List.getD x0 (Int.toNat x1) SV.dead)) (0 : Nat) SV.dead)) (0 : Nat)
                      (Int.toNat (intV (atR (asStr (List.getD (cellsOf (List.getD x0 (Int.toNat x1) SV.dead)) (0 : Nat) SV.dead)) (61 : Int))))))
                  (1000000 : Nat) then
              bif
                  Nat.ble
                    (ByteArray.size
                      (strV
                        (trim2R
                          (ByteArray.extract (asStr (List.getD (cellsOf (List.getD x0 (Int.toNat x1) SV.dead)) (0 : Nat) SV.dead)) (0 : Nat)
                            (Int.toNat (intV (atR (asStr (List.getD (cellsOf (List.getD x0 (Int.toNat x1) SV.dead)) (0 : Nat) SV.dead)) (61 : Int))))))))
                    (1000000 : Nat) then
                bif
                    Nat.ble
                      (ByteArray.size
                        (strV
                          (smallR
                            (strV
                              (trim2R
                                (ByteArray.extract (asStr (List.getD (cellsOf (List.getD x0 (Int.toNat x1) SV.dead)) (0 : Nat) SV.dead)) (0 : Nat)
                                  (Int.toNat (intV (atR (asStr (List.getD (cellsOf (List.getD x0 (Int.toNat x1) SV.dead)) (0 : Nat) SV.dead)) (61 : Int))))))))))
                      (1000000 : Nat) then
                  bif
                      boolV
                        (tokR
                          (strV
                            (smallR
                              (strV
                                (trim2R
                                  (ByteArray.extract (asStr (List.getD (cellsOf (List.getD x0 (Int.toNat x1) SV.dead)) (0 : Nat) SV.dead)) (0 : Nat)
                                    (Int.toNat (intV (atR (asStr (List.getD (cellsOf (List.getD x0 (Int.toNat x1) SV.dead)) (0 : Nat) SV.dead)) (61 : Int)))))))))) then
                    bif decide ((0 : Int) ≤ x1) && decide (x1 < (↑(List.length x0) : Int)) then
                      bif
                          decide ((0 : Int) ≤ IntKind.wrap IntKind.i64 (intV (atR (asStr (List.getD (cellsOf (List.getD x0 (Int.toNat x1) SV.dead)) (0 : Nat) SV.dead)) (61 : Int)) + (1 : Int))) &&
                            decide
                              (IntKind.wrap IntKind.i64 (intV (atR (asStr (List.getD (cellsOf (List.getD x0 (Int.toNat x1) SV.dead)) (0 : Nat) SV.dead)) (61 : Int)) + (1 : Int)) ≤
                                (↑(ByteArray.size (asStr (List.getD (cellsOf (List.getD x0 (Int.toNat x1) SV.dead)) (0 : Nat) SV.dead))) : Int)) then
                        bif
                            Nat.ble
                              (ByteArray.size
                                (ByteArray.extract (asStr (List.getD (cellsOf (List.getD x0 (Int.toNat x1) SV.dead)) (0 : Nat) SV.dead))
                                  (Int.toNat (IntKind.wrap IntKind.i64 (intV (atR (asStr (List.getD (cellsOf (List.getD x0 (Int.toNat x1) SV.dead)) (0 : Nat) SV.dead)) (61 : Int)) + (1 : Int))))
                                  (Int.toNat (↑(ByteArray.size (asStr (List.getD (cellsOf (List.getD x0 (Int.toNat x1) SV.dead)) (0 : Nat) SV.dead))) : Int))))
                              (1000000 : Nat) then
                          bif decide ((List.length x7 + (1 : Nat)) * (32 : Nat) ≤ (140737488355328 : Nat)) && decide (List.length x7 + (1 : Nat) ≤ (9223372036854775807 : Nat)) then
                            f36_L10 fu fm x0 (IntKind.wrap IntKind.i64 (x1 + (1 : Int))) x2 x3 x4 x5 x6
                              (x7 ++
                                [SV.agg
                                    [SV.str
                                        (strV
                                          (smallR
                                            (strV
                                              (trim2R
                                                (ByteArray.extract (asStr (List.getD (cellsOf (List.getD x0 (Int.toNat x1) SV.dead)) (0 : Nat) SV.dead)) (0 : Nat)
                                                  (Int.toNat (intV (atR (asStr (List.getD (cellsOf (List.getD x0 (Int.toNat x1) SV.dead)) (0 : Nat) SV.dead)) (61 : Int))))))))),
                                      SV.str
                                        (strV
                                          (valueR
                                            (ByteArray.extract (asStr (List.getD (cellsOf (List.getD x0 (Int.toNat x1) SV.dead)) (0 : Nat) SV.dead))
                                              (Int.toNat (IntKind.wrap IntKind.i64 (intV (atR (asStr (List.getD (cellsOf (List.getD x0 (Int.toNat x1) SV.dead)) (0 : Nat) SV.dead)) (61 : Int)) + (1 : Int))))
                                              (Int.toNat (↑(ByteArray.size (asStr (List.getD (cellsOf (List.getD x0 (Int.toNat x1) SV.dead)) (0 : Nat) SV.dead))) : Int)))))]])
                          else none
                        else none
                      else none
                    else none
                  else f36_L10 fu fm x0 (IntKind.wrap IntKind.i64 (x1 + (1 : Int))) x2 x3 x4 x5 x6 x7
                else none
              else none
            else none
          else none
        else none
    else none
  else none
  else some (SV.agg [SV.str x4, SV.str x5, SV.lst (127 : Nat) x7]) := by kernel_rfl

theorem f36_eq (fu : Nat) (s : ByteArray) : evFun f36_X fu Tryz.f36 (frz f36_X.Ty Tryz.f36) [.str s] [] [] = bif Nat.ble (ByteArray.size s) (1000000 : Nat) then
  bif decide ((0 : Int) < (↑(List.length (lstV (piecesR s))) : Int)) then
    bif Nat.ble (ByteArray.size (asStr (List.getD (cellsOf (List.getD (lstV (piecesR s)) (0 : Nat) SV.dead)) (0 : Nat) SV.dead))) (1000000 : Nat) then
      bif Nat.ble (ByteArray.size (strV (trim2R (asStr (List.getD (cellsOf (List.getD (lstV (piecesR s)) (0 : Nat) SV.dead)) (0 : Nat) SV.dead))))) (1000000 : Nat) then
        bif decide (intV (atR (strV (trim2R (asStr (List.getD (cellsOf (List.getD (lstV (piecesR s)) (0 : Nat) SV.dead)) (0 : Nat) SV.dead)))) (47 : Int)) < (0 : Int)) then
          some
            (SV.agg
              [SV.str (ByteArray.mk #[(116 : UInt8), (101 : UInt8), (120 : UInt8), (116 : UInt8)]), SV.str (ByteArray.mk #[(112 : UInt8), (108 : UInt8), (97 : UInt8), (105 : UInt8), (110 : UInt8)]),
                SV.lst (127 : Nat) []])
        else
          bif
              decide ((0 : Int) ≤ intV (atR (strV (trim2R (asStr (List.getD (cellsOf (List.getD (lstV (piecesR s)) (0 : Nat) SV.dead)) (0 : Nat) SV.dead)))) (47 : Int))) &&
                  decide
                    (intV (atR (strV (trim2R (asStr (List.getD (cellsOf (List.getD (lstV (piecesR s)) (0 : Nat) SV.dead)) (0 : Nat) SV.dead)))) (47 : Int)) ≤
                      (↑(ByteArray.size (strV (trim2R (asStr (List.getD (cellsOf (List.getD (lstV (piecesR s)) (0 : Nat) SV.dead)) (0 : Nat) SV.dead))))) : Int)) &&
                true then
            bif
                Nat.ble
                  (ByteArray.size
                    (ByteArray.extract (strV (trim2R (asStr (List.getD (cellsOf (List.getD (lstV (piecesR s)) (0 : Nat) SV.dead)) (0 : Nat) SV.dead)))) (0 : Nat)
                      (Int.toNat (intV (atR (strV (trim2R (asStr (List.getD (cellsOf (List.getD (lstV (piecesR s)) (0 : Nat) SV.dead)) (0 : Nat) SV.dead)))) (47 : Int))))))
                  (1000000 : Nat) then
              bif
                  !boolV
                      (tokR
                        (ByteArray.extract (strV (trim2R (asStr (List.getD (cellsOf (List.getD (lstV (piecesR s)) (0 : Nat) SV.dead)) (0 : Nat) SV.dead)))) (0 : Nat)
                          (Int.toNat (intV (atR (strV (trim2R (asStr (List.getD (cellsOf (List.getD (lstV (piecesR s)) (0 : Nat) SV.dead)) (0 : Nat) SV.dead)))) (47 : Int)))))) then
                some
                  (SV.agg
                    [SV.str (ByteArray.mk #[(116 : UInt8), (101 : UInt8), (120 : UInt8), (116 : UInt8)]), SV.str (ByteArray.mk #[(112 : UInt8), (108 : UInt8), (97 : UInt8), (105 : UInt8), (110 : UInt8)]),
                      SV.lst (127 : Nat) []])
              else
                bif
                    decide ((0 : Int) ≤ IntKind.wrap IntKind.i64 (intV (atR (strV (trim2R (asStr (List.getD (cellsOf (List.getD (lstV (piecesR s)) (0 : Nat) SV.dead)) (0 : Nat) SV.dead)))) (47 : Int)) + (1 : Int))) &&
                      decide
                        (IntKind.wrap IntKind.i64 (intV (atR (strV (trim2R (asStr (List.getD (cellsOf (List.getD (lstV (piecesR s)) (0 : Nat) SV.dead)) (0 : Nat) SV.dead)))) (47 : Int)) + (1 : Int)) ≤
                          (↑(ByteArray.size (strV (trim2R (asStr (List.getD (cellsOf (List.getD (lstV (piecesR s)) (0 : Nat) SV.dead)) (0 : Nat) SV.dead))))) : Int)) then
                  bif
                      Nat.ble
                        (ByteArray.size
                          (ByteArray.extract (strV (trim2R (asStr (List.getD (cellsOf (List.getD (lstV (piecesR s)) (0 : Nat) SV.dead)) (0 : Nat) SV.dead))))
                            (Int.toNat (IntKind.wrap IntKind.i64 (intV (atR (strV (trim2R (asStr (List.getD (cellsOf (List.getD (lstV (piecesR s)) (0 : Nat) SV.dead)) (0 : Nat) SV.dead)))) (47 : Int)) + (1 : Int))))
                            (Int.toNat (↑(ByteArray.size (strV (trim2R (asStr (List.getD (cellsOf (List.getD (lstV (piecesR s)) (0 : Nat) SV.dead)) (0 : Nat) SV.dead))))) : Int))))
                        (1000000 : Nat) then
                    bif
                        !boolV
                            (tokR
                              (ByteArray.extract (strV (trim2R (asStr (List.getD (cellsOf (List.getD (lstV (piecesR s)) (0 : Nat) SV.dead)) (0 : Nat) SV.dead))))
                                (Int.toNat (IntKind.wrap IntKind.i64 (intV (atR (strV (trim2R (asStr (List.getD (cellsOf (List.getD (lstV (piecesR s)) (0 : Nat) SV.dead)) (0 : Nat) SV.dead)))) (47 : Int)) + (1 : Int))))
                                (Int.toNat (↑(ByteArray.size (strV (trim2R (asStr (List.getD (cellsOf (List.getD (lstV (piecesR s)) (0 : Nat) SV.dead)) (0 : Nat) SV.dead))))) : Int)))) then
                      some
                        (SV.agg
                          [SV.str (ByteArray.mk #[(116 : UInt8), (101 : UInt8), (120 : UInt8), (116 : UInt8)]), SV.str (ByteArray.mk #[(112 : UInt8), (108 : UInt8), (97 : UInt8), (105 : UInt8), (110 : UInt8)]),
                            SV.lst (127 : Nat) []])
                    else
                      bif
                          decide ((0 : Int) ≤ intV (atR (strV (trim2R (asStr (List.getD (cellsOf (List.getD (lstV (piecesR s)) (0 : Nat) SV.dead)) (0 : Nat) SV.dead)))) (47 : Int))) &&
                              decide
                                (intV (atR (strV (trim2R (asStr (List.getD (cellsOf (List.getD (lstV (piecesR s)) (0 : Nat) SV.dead)) (0 : Nat) SV.dead)))) (47 : Int)) ≤
                                  (↑(ByteArray.size (strV (trim2R (asStr (List.getD (cellsOf (List.getD (lstV (piecesR s)) (0 : Nat) SV.dead)) (0 : Nat) SV.dead))))) : Int)) &&
                            true then
                        bif
                            Nat.ble
                              (ByteArray.size
                                (ByteArray.extract (strV (trim2R (asStr (List.getD (cellsOf (List.getD (lstV (piecesR s)) (0 : Nat) SV.dead)) (0 : Nat) SV.dead)))) (0 : Nat)
                                  (Int.toNat (intV (atR (strV (trim2R (asStr (List.getD (cellsOf (List.getD (lstV (piecesR s)) (0 : Nat) SV.dead)) (0 : Nat) SV.dead)))) (47 : Int))))))
                              (1000000 : Nat) then
                          bif
                              decide
                                  ((0 : Int) ≤
                                    IntKind.wrap IntKind.i64 (intV (atR (strV (trim2R (asStr (List.getD (cellsOf (List.getD (lstV (piecesR s)) (0 : Nat) SV.dead)) (0 : Nat) SV.dead)))) (47 : Int)) + (1 : Int))) &&
                                decide
                                  (IntKind.wrap IntKind.i64 (intV (atR (strV (trim2R (asStr (List.getD (cellsOf (List.getD (lstV (piecesR s)) (0 : Nat) SV.dead)) (0 : Nat) SV.dead)))) (47 : Int)) + (1 : Int)) ≤
                                    (↑(ByteArray.size (strV (trim2R (asStr (List.getD (cellsOf (List.getD (lstV (piecesR s)) (0 : Nat) SV.dead)) (0 : Nat) SV.dead))))) : Int)) then
                            bif
                                Nat.ble
                                  (ByteArray.size
                                    (ByteArray.extract (strV (trim2R (asStr (List.getD (cellsOf (List.getD (lstV (piecesR s)) (0 : Nat) SV.dead)) (0 : Nat) SV.dead))))
                                      (Int.toNat
                                        (IntKind.wrap IntKind.i64 (intV (atR (strV (trim2R (asStr (List.getD (cellsOf (List.getD (lstV (piecesR s)) (0 : Nat) SV.dead)) (0 : Nat) SV.dead)))) (47 : Int)) + (1 : Int))))
                                      (Int.toNat (↑(ByteArray.size (strV (trim2R (asStr (List.getD (cellsOf (List.getD (lstV (piecesR s)) (0 : Nat) SV.dead)) (0 : Nat) SV.dead))))) : Int))))
                                  (1000000 : Nat) then
                              f36_L10 fu fu (lstV (piecesR s)) (1 : Int) (ByteArray.mk #[]) (ByteArray.mk #[])
                                (strV
                                  (smallR
                                    (ByteArray.extract (strV (trim2R (asStr (List.getD (cellsOf (List.getD (lstV (piecesR s)) (0 : Nat) SV.dead)) (0 : Nat) SV.dead)))) (0 : Nat)
                                      (Int.toNat (intV (atR (strV (trim2R (asStr (List.getD (cellsOf (List.getD (lstV (piecesR s)) (0 : Nat) SV.dead)) (0 : Nat) SV.dead)))) (47 : Int)))))))
                                (strV
                                  (smallR
                                    (ByteArray.extract (strV (trim2R (asStr (List.getD (cellsOf (List.getD (lstV (piecesR s)) (0 : Nat) SV.dead)) (0 : Nat) SV.dead))))
                                      (Int.toNat
                                        (IntKind.wrap IntKind.i64 (intV (atR (strV (trim2R (asStr (List.getD (cellsOf (List.getD (lstV (piecesR s)) (0 : Nat) SV.dead)) (0 : Nat) SV.dead)))) (47 : Int)) + (1 : Int))))
                                      (Int.toNat (↑(ByteArray.size (strV (trim2R (asStr (List.getD (cellsOf (List.getD (lstV (piecesR s)) (0 : Nat) SV.dead)) (0 : Nat) SV.dead))))) : Int)))))
                                [] []
                            else none
                          else none
                        else none
                      else none
                  else none
                else none
            else none
          else none
      else none
    else none
  else none
  else none := by kernel_rfl

def f38_st6 (x0 : Int) (x1 : ByteArray) (x2 : List SV) (x3 : Int) (x4 : Int) (x5 : Int) (x6 : List SV) : St := St.mk
  [SV.dead, SV.dead, SV.int IntKind.i64 x0, SV.str x1, SV.dead, SV.dead, SV.dead, SV.dead, SV.dead, SV.row (100 : Nat), SV.lst (9 : Nat) x2, SV.int IntKind.i64 x3, SV.int IntKind.i64 x4, SV.int IntKind.i64 x5, SV.dead,
    SV.dead, SV.dead, SV.dead, SV.dead, SV.dead, SV.dead, SV.dead, SV.dead, SV.dead, SV.dead, SV.dead, SV.dead, SV.dead, SV.dead, SV.dead, SV.dead, SV.dead, SV.dead, SV.dead, SV.dead, SV.dead, SV.dead, SV.dead, SV.dead,
    SV.dead, SV.dead, SV.dead, SV.dead, SV.dead, SV.dead, SV.dead, SV.dead, SV.dead, SV.dead, SV.dead, SV.dead, SV.dead, SV.dead, SV.dead, SV.dead, SV.dead, SV.dead, SV.dead, SV.dead, SV.dead, SV.dead, SV.dead, SV.dead,
    SV.dead, SV.dead, SV.dead, SV.dead, SV.dead, SV.dead, SV.dead, SV.dead, SV.dead, SV.dead, SV.dead, SV.dead, SV.dead, SV.dead, SV.dead, SV.dead, SV.dead, SV.dead, SV.dead, SV.dead, SV.dead, SV.dead, SV.dead, SV.dead,
    SV.dead]
  [((100 : Nat), SObj.row (99 : Nat) x6)] [(100 : Nat)]
noncomputable def f38_L6 (fu fm : Nat) (x0 : Int) (x1 : ByteArray) (x2 : List SV) (x3 : Int) (x4 : Int) (x5 : Int) (x6 : List SV) : Option (SV) := atLoop f38_X Tryz.f38 (frz f38_X.Ty Tryz.f38) fu [.r, .r, .r, .r, .r, .l, .r, .b] fm (f38_st6 x0 x1 x2 x3 x4 x5 x6)

theorem f38_L6_eq (fu fm : Nat) (x0 : Int) (x1 : ByteArray) (x2 : List SV) (x3 : Int) (x4 : Int) (x5 : Int) (x6 : List SV) : f38_L6 fu (fm + 1) x0 x1 x2 x3 x4 x5 x6 = bif decide (x5 < (↑(List.length x2) : Int)) then
  bif decide ((0 : Int) ≤ x5) && decide (x5 < (↑(List.length x2) : Int)) then
    bif Nat.ble (ByteArray.size (asStr (List.getD (cellsOf (List.getD x2 (Int.toNat x5) SV.dead)) (0 : Nat) SV.dead))) (1000000 : Nat) && Nat.ble (ByteArray.size x1) (1000000 : Nat) then
      bif decide (intV (kindR (asStr (List.getD (cellsOf (List.getD x2 (Int.toNat x5) SV.dead)) (0 : Nat) SV.dead)) x1) > (0 : Int)) then
        bif decide (x3 ≥ (0 : Int)) then
          bif decide (x4 > x3) then
            bif decide ((0 : Int) ≤ IntKind.wrap IntKind.i64 (x5 - (1 : Int))) && decide (IntKind.wrap IntKind.i64 (x5 - (1 : Int)) < (↑(List.length x2) : Int)) then
              bif decide ((0 : Int) ≤ IntKind.wrap IntKind.i64 (x5 - (1 : Int))) && decide (IntKind.wrap IntKind.i64 (x5 - (1 : Int)) < (↑(List.length x2) : Int)) then
                bif Nat.ble (ByteArray.size (asStr (List.getD (cellsOf (List.getD x2 (Int.toNat (IntKind.wrap IntKind.i64 (x5 - (1 : Int)))) SV.dead)) (0 : Nat) SV.dead))) (1000000 : Nat) then
                  bif decide ((List.length x6 + (1 : Nat)) * (16 : Nat) ≤ (140737488355328 : Nat)) && decide (List.length x6 + (1 : Nat) ≤ (9223372036854775807 : Nat)) then
                    bif decide ((0 : Int) ≤ x5) && decide (x5 < (↑(List.length x2) : Int)) then
                      bif intV (kindR (asStr (List.getD (cellsOf (List.getD x2 (Int.toNat x5) SV.dead)) (0 : Nat) SV.dead)) x1) == (2 : Int) then
                        some
                          (SV.lst (99 : Nat)
                            (x6 ++
                              [SV.agg
                                  [SV.int IntKind.i64 x3,
                                    SV.int IntKind.i64
                                      (IntKind.wrap IntKind.i64
                                        (IntKind.wrap IntKind.i64
                                            (x4 - (↑(ByteArray.size (asStr (List.getD (cellsOf (List.getD x2 (Int.toNat (IntKind.wrap IntKind.i64 (x5 - (1 : Int)))) SV.dead)) (0 : Nat) SV.dead))) : Int)) +
                                          (↑(ByteArray.size (strV (bareR (asStr (List.getD (cellsOf (List.getD x2 (Int.toNat (IntKind.wrap IntKind.i64 (x5 - (1 : Int)))) SV.dead)) (0 : Nat) SV.dead))))) : Int)))]]))
                      else
                        bif intV (kindR (asStr (List.getD (cellsOf (List.getD x2 (Int.toNat x5) SV.dead)) (0 : Nat) SV.dead)) x1) == (1 : Int) then
                          f38_L6 fu fm x0 x1 x2 (IntKind.wrap IntKind.i64 (x4 + (↑(ByteArray.size (asStr (List.getD (cellsOf (List.getD x2 (Int.toNat x5) SV.dead)) (0 : Nat) SV.dead))) : Int)))
                            (IntKind.wrap IntKind.i64 (x4 + (↑(ByteArray.size (asStr (List.getD (cellsOf (List.getD x2 (Int.toNat x5) SV.dead)) (0 : Nat) SV.dead))) : Int))) (IntKind.wrap IntKind.i64 (x5 + (1 : Int)))
                            (x6 ++
                              [SV.agg
                                  [SV.int IntKind.i64 x3,
                                    SV.int IntKind.i64
                                      (IntKind.wrap IntKind.i64
                                        (IntKind.wrap IntKind.i64
                                            (x4 - (↑(ByteArray.size (asStr (List.getD (cellsOf (List.getD x2 (Int.toNat (IntKind.wrap IntKind.i64 (x5 - (1 : Int)))) SV.dead)) (0 : Nat) SV.dead))) : Int)) +
                                          (↑(ByteArray.size (strV (bareR (asStr (List.getD (cellsOf (List.getD x2 (Int.toNat (IntKind.wrap IntKind.i64 (x5 - (1 : Int)))) SV.dead)) (0 : Nat) SV.dead))))) : Int)))]])
                        else
                          f38_L6 fu fm x0 x1 x2 x3 (IntKind.wrap IntKind.i64 (x4 + (↑(ByteArray.size (asStr (List.getD (cellsOf (List.getD x2 (Int.toNat x5) SV.dead)) (0 : Nat) SV.dead))) : Int)))
                            (IntKind.wrap IntKind.i64 (x5 + (1 : Int)))
                            (x6 ++
                              [SV.agg
                                  [SV.int IntKind.i64 x3,
                                    SV.int IntKind.i64
                                      (IntKind.wrap IntKind.i64
                                        (IntKind.wrap IntKind.i64
                                            (x4 - (↑(ByteArray.size (asStr (List.getD (cellsOf (List.getD x2 (Int.toNat (IntKind.wrap IntKind.i64 (x5 - (1 : Int)))) SV.dead)) (0 : Nat) SV.dead))) : Int)) +
                                          (↑(ByteArray.size (strV (bareR (asStr (List.getD (cellsOf (List.getD x2 (Int.toNat (IntKind.wrap IntKind.i64 (x5 - (1 : Int)))) SV.dead)) (0 : Nat) SV.dead))))) : Int)))]])
                    else none
                  else none
                else none
              else none
            else none
          else
            bif decide ((List.length x6 + (1 : Nat)) * (16 : Nat) ≤ (140737488355328 : Nat)) && decide (List.length x6 + (1 : Nat) ≤ (9223372036854775807 : Nat)) then
              bif decide ((0 : Int) ≤ x5) && decide (x5 < (↑(List.length x2) : Int)) then
                bif intV (kindR (asStr (List.getD (cellsOf (List.getD x2 (Int.toNat x5) SV.dead)) (0 : Nat) SV.dead)) x1) == (2 : Int) then
                  some (SV.lst (99 : Nat) (x6 ++ [SV.agg [SV.int IntKind.i64 x3, SV.int IntKind.i64 x3]]))
                else
                  bif intV (kindR (asStr (List.getD (cellsOf (List.getD x2 (Int.toNat x5) SV.dead)) (0 : Nat) SV.dead)) x1) == (1 : Int) then
                    f38_L6 fu fm x0 x1 x2 (IntKind.wrap IntKind.i64 (x4 + (↑(ByteArray.size (asStr (List.getD (cellsOf (List.getD x2 (Int.toNat x5) SV.dead)) (0 : Nat) SV.dead))) : Int)))
                      (IntKind.wrap IntKind.i64 (x4 + (↑(ByteArray.size (asStr (List.getD (cellsOf (List.getD x2 (Int.toNat x5) SV.dead)) (0 : Nat) SV.dead))) : Int))) (IntKind.wrap IntKind.i64 (x5 + (1 : Int)))
                      (x6 ++ [SV.agg [SV.int IntKind.i64 x3, SV.int IntKind.i64 x3]])
                  else
                    f38_L6 fu fm x0 x1 x2 x3 (IntKind.wrap IntKind.i64 (x4 + (↑(ByteArray.size (asStr (List.getD (cellsOf (List.getD x2 (Int.toNat x5) SV.dead)) (0 : Nat) SV.dead))) : Int)))
                      (IntKind.wrap IntKind.i64 (x5 + (1 : Int))) (x6 ++ [SV.agg [SV.int IntKind.i64 x3, SV.int IntKind.i64 x3]])
              else none
            else none
        else
          bif decide ((0 : Int) ≤ x5) && decide (x5 < (↑(List.length x2) : Int)) then
            bif intV (kindR (asStr (List.getD (cellsOf (List.getD x2 (Int.toNat x5) SV.dead)) (0 : Nat) SV.dead)) x1) == (2 : Int) then some (SV.lst (99 : Nat) x6)
            else
              bif intV (kindR (asStr (List.getD (cellsOf (List.getD x2 (Int.toNat x5) SV.dead)) (0 : Nat) SV.dead)) x1) == (1 : Int) then
                f38_L6 fu fm x0 x1 x2 (IntKind.wrap IntKind.i64 (x4 + (↑(ByteArray.size (asStr (List.getD (cellsOf (List.getD x2 (Int.toNat x5) SV.dead)) (0 : Nat) SV.dead))) : Int)))
                  (IntKind.wrap IntKind.i64 (x4 + (↑(ByteArray.size (asStr (List.getD (cellsOf (List.getD x2 (Int.toNat x5) SV.dead)) (0 : Nat) SV.dead))) : Int))) (IntKind.wrap IntKind.i64 (x5 + (1 : Int))) x6
              else
                f38_L6 fu fm x0 x1 x2 x3 (IntKind.wrap IntKind.i64 (x4 + (↑(ByteArray.size (asStr (List.getD (cellsOf (List.getD x2 (Int.toNat x5) SV.dead)) (0 : Nat) SV.dead))) : Int)))
                  (IntKind.wrap IntKind.i64 (x5 + (1 : Int))) x6
          else none
      else
        bif decide ((0 : Int) ≤ x5) && decide (x5 < (↑(List.length x2) : Int)) then
          bif intV (kindR (asStr (List.getD (cellsOf (List.getD x2 (Int.toNat x5) SV.dead)) (0 : Nat) SV.dead)) x1) == (2 : Int) then some (SV.lst (99 : Nat) x6)
          else
            bif intV (kindR (asStr (List.getD (cellsOf (List.getD x2 (Int.toNat x5) SV.dead)) (0 : Nat) SV.dead)) x1) == (1 : Int) then
              f38_L6 fu fm x0 x1 x2 (IntKind.wrap IntKind.i64 (x4 + (↑(ByteArray.size (asStr (List.getD (cellsOf (List.getD x2 (Int.toNat x5) SV.dead)) (0 : Nat) SV.dead))) : Int)))
                (IntKind.wrap IntKind.i64 (x4 + (↑(ByteArray.size (asStr (List.getD (cellsOf (List.getD x2 (Int.toNat x5) SV.dead)) (0 : Nat) SV.dead))) : Int))) (IntKind.wrap IntKind.i64 (x5 + (1 : Int))) x6
            else
              f38_L6 fu fm x0 x1 x2 x3 (IntKind.wrap IntKind.i64 (x4 + (↑(ByteArray.size (asStr (List.getD (cellsOf (List.getD x2 (Int.toNat x5) SV.dead)) (0 : Nat) SV.dead))) : Int)))
                (IntKind.wrap IntKind.i64 (x5 + (1 : Int))) x6
        else none
    else none
  else none
  else
  bif decide (x3 ≥ (0 : Int)) then
    bif decide ((List.length x6 + (1 : Nat)) * (16 : Nat) ≤ (140737488355328 : Nat)) && decide (List.length x6 + (1 : Nat) ≤ (9223372036854775807 : Nat)) then
      some (SV.lst (99 : Nat) (x6 ++ [SV.agg [SV.int IntKind.i64 x3, SV.int IntKind.i64 x0]]))
    else none
  else some (SV.lst (99 : Nat) x6) := by kernel_rfl

theorem f38_eq (fu : Nat) (s : ByteArray) (a : Int) (b : Int) (n : ByteArray) : evFun f38_X fu Tryz.f38 (frz f38_X.Ty Tryz.f38) [.str s, .int .i64 a, .int .i64 b, .str n] [] [] = bif decide ((0 : Int) ≤ b) && decide (b ≤ (↑(ByteArray.size s) : Int)) && (decide ((0 : Int) ≤ a) && decide (a ≤ b)) then
  bif Nat.ble (ByteArray.size (ByteArray.extract s (Int.toNat a) (Int.toNat b))) (1000000 : Nat) then f38_L6 fu fu b n (lstV (cutR (ByteArray.extract s (Int.toNat a) (Int.toNat b)))) (-1 : Int) a (0 : Int) [] else none
  else none := by kernel_rfl

end Sx

/-
  The document's media type of a text, and the parts of a body by a boundary.
-/
set_option linter.unusedVariables false
set_option linter.unusedSimpArgs false
namespace Sx
open Go Go.Proofs

theorem asStr_cell (t : ByteArray) : asStr (List.getD (cellsOf (SV.str t)) 0 SV.dead) = t := rfl
def MedR (r : Option SV) : Prop := ∃ (a b : ByteArray) (p : List SV), r = some (.agg [.str a, .str b, .lst 127 p]) ∧ ParsOk p ∧ p.length ≤ 1000000
theorem L36_is (fu : Nat) (l : List SV) (hok : ∀ x ∈ l, ∃ t : ByteArray, x = .str t ∧ t.size ≤ 1000000) (hl : l.length ≤ 1000001) (x2 x3 x4 x5 : ByteArray) (x6 : List SV) : ∀ (k i m : Nat) (out : List SV), i + k = l.length → k < m → ParsOk out → out.length + 1 ≤ i →
    MedR (f36_L10 fu m l (i : Int) x2 x3 x4 x5 x6 out)
  | 0, i, m, out, hi, hm, ho, hlen => by
    obtain ⟨m, rfl⟩ : ∃ m', m = m' + 1 := ⟨m - 1, by omega⟩
    have h1 : ¬ ((i : Int) < (l.length : Int)) := by omega
    rw [f36_L10_eq]
    simp only [h1, decide_false, cond_false]
    exact ⟨_, _, _, rfl, ho, by omega⟩
  | k + 1, i, m, out, hi, hm, ho, hlen => by
    obtain ⟨m, rfl⟩ : ∃ m', m = m' + 1 := ⟨m - 1, by omega⟩
    have hlt : i < l.length := by omega
    have h1 : (i : Int) < (l.length : Int) := by omega
    have h2 : (0 : Int) ≤ (i : Int) := by omega
    have w1 : IntKind.wrap .i64 ((i : Int) + 1) = ((i + 1 : Nat) : Int) := by rw [wrap_i64 (by omega) (by omega)]; omega
    have r1 : (out.length + 1) * 32 ≤ 140737488355328 := by omega
    have r2 : out.length + 1 ≤ 9223372036854775807 := by omega
    obtain ⟨t, ht, hts⟩ := hok _ (List.getElem_mem hlt)
    have ih := fun out => L36_is fu l hok hl x2 x3 x4 x5 x6 k (i + 1) m out (by omega) (by omega)
    obtain ⟨_, a2, a3⟩ := atR_is t 61 hts
    rw [f36_L10_eq, w1, Int.toNat_natCast, zgetD_at hlt, ht, asStr_cell]
    obtain ⟨n, hn⟩ : ∃ n, intV (atR t 61) = n := ⟨_, rfl⟩
    rw [hn] at a2 a3
    rw [hn]
    simp only [h1, h2, decide_true, cond_true, Bool.and_self, Nat.ble_eq_true_of_le hts]
    refine cond_of (Q := MedR) (fun _ => ih out ho (by omega)) (fun c => ?_)
    simp only [decide_eq_false_iff_not] at c
    obtain ⟨n, rfl⟩ : ∃ n' : Nat, n = n' := ⟨n.toNat, by omega⟩
    have w2 : IntKind.wrap .i64 ((n : Int) + 1) = ((n + 1 : Nat) : Int) := by rw [wrap_i64 (by omega) (by omega)]; omega
    have g1 : (0 : Int) ≤ (n : Int) := by omega
    have g2 : (n : Int) ≤ (t.size : Int) := by omega
    have g3 : (0 : Int) ≤ ((n + 1 : Nat) : Int) := by omega
    have g4 : ((n + 1 : Nat) : Int) ≤ (t.size : Int) := by omega
    have z1 : (t.extract 0 n).size ≤ 1000000 := by rw [ByteArray.size_extract]; omega
    have z2 := (trim2R_is _ z1).2
    have z3 : (strV (trim2R (t.extract 0 n))).size ≤ 1000000 := by omega
    have z4 := (smallR_is _ z3).2
    have z5 : (strV (smallR (strV (trim2R (t.extract 0 n))))).size ≤ 1000000 := by omega
    have z6 : (t.extract (n + 1) t.size).size ≤ 1000000 := by rw [ByteArray.size_extract]; omega
    rw [w2]
    simp only [g1, g2, g3, g4, r1, r2, decide_true, cond_true, Bool.and_self, Int.toNat_natCast, Nat.ble_eq_true_of_le z1, Nat.ble_eq_true_of_le z3, Nat.ble_eq_true_of_le z5, Nat.ble_eq_true_of_le z6]
    refine cond_of (Q := MedR) (fun _ => ih _ ?_ (by simp; omega)) (fun _ => ih out ho (by omega))
    intro x hx
    rcases List.mem_append.1 hx with q | q
    · exact ho x q
    · exact ⟨_, _, List.mem_singleton.1 q, (valueR_is _ z6).2⟩
noncomputable def readR (s : ByteArray) : Option SV := evFun f36_X 1000001 Tryz.f36 (frz f36_X.Ty Tryz.f36) [.str s] [] []
theorem read_med (s : ByteArray) (hs : s.size ≤ 1000000) : MedR (readR s) := by
  obtain ⟨_, p1, p2, p3⟩ := piecesR_is s hs
  rw [show readR s = _ from f36_eq 1000001 s]
  have hlt : 0 < (lstV (piecesR s)).length := p2
  obtain ⟨t, ht, hts⟩ := p1 _ (List.getElem_mem hlt)
  have hts : t.size ≤ 1000000 := by omega
  rw [zgetD_at hlt, ht, asStr_cell]
  have z0 := (trim2R_is t hts).2
  obtain ⟨x, hx⟩ : ∃ x, strV (trim2R t) = x := ⟨_, rfl⟩
  rw [hx] at z0
  rw [hx]
  have z1 : x.size ≤ 1000000 := by omega
  obtain ⟨_, a2, a3⟩ := atR_is x 47 z1
  obtain ⟨n, hn⟩ : ∃ n, intV (atR x 47) = n := ⟨_, rfl⟩
  rw [hn] at a2 a3
  rw [hn]
  have h0 : (0 : Int) < ((lstV (piecesR s)).length : Int) := by omega
  simp only [h0, decide_true, cond_true, Nat.ble_eq_true_of_le hs, Nat.ble_eq_true_of_le hts, Nat.ble_eq_true_of_le z1]
  have plainM : MedR (some (SV.agg [SV.str (ByteArray.mk #[(116 : UInt8), (101 : UInt8), (120 : UInt8), (116 : UInt8)]), SV.str (ByteArray.mk #[(112 : UInt8), (108 : UInt8), (97 : UInt8), (105 : UInt8), (110 : UInt8)]), SV.lst (127 : Nat) []])) :=
    ⟨_, _, _, rfl, fun x hx => (by cases hx), Nat.zero_le _⟩
  refine cond_of (Q := MedR) (fun _ => plainM) (fun c => ?_)
  simp only [decide_eq_false_iff_not] at c
  obtain ⟨n, rfl⟩ : ∃ n' : Nat, n = n' := ⟨n.toNat, by omega⟩
  have w2 : IntKind.wrap .i64 ((n : Int) + 1) = ((n + 1 : Nat) : Int) := by rw [wrap_i64 (by omega) (by omega)]; omega
  have g1 : (0 : Int) ≤ (n : Int) := by omega
  have g2 : (n : Int) ≤ (x.size : Int) := by omega
  have g3 : (0 : Int) ≤ ((n + 1 : Nat) : Int) := by omega
  have g4 : ((n + 1 : Nat) : Int) ≤ (x.size : Int) := by omega
  have y1 : (x.extract 0 n).size ≤ 1000000 := by rw [ByteArray.size_extract]; omega
  have y2 : (x.extract (n + 1) x.size).size ≤ 1000000 := by rw [ByteArray.size_extract]; omega
  rw [w2]
  simp only [g1, g2, g3, g4, decide_true, cond_true, Bool.and_self, Int.toNat_natCast, Nat.ble_eq_true_of_le y1, Nat.ble_eq_true_of_le y2]
  refine cond_of (Q := MedR) (fun _ => plainM) (fun _ => cond_of (Q := MedR) (fun _ => plainM) (fun _ => ?_))
  refine L36_is 1000001 (lstV (piecesR s)) (fun y hy => ?_) (by omega) _ _ _ _ _ ((lstV (piecesR s)).length - 1) 1 1000001 [] (by omega) (by omega) (fun y hy => by cases hy) (by simp)
  obtain ⟨u, q1, q2⟩ := p1 y hy
  exact ⟨u, q1, by omega⟩
def aggS (k : Nat) : Option SV → ByteArray | some (.agg l) => asStr (l.getD k .dead) | _ => ⟨#[]⟩
def aggL (k : Nat) : Option SV → List SV | some (.agg l) => (match l.getD k .dead with | .lst _ p => p | _ => []) | _ => []
theorem readR_is (s : ByteArray) (hs : s.size ≤ 1000000) : readR s = some (.agg [.str (aggS 0 (readR s)), .str (aggS 1 (readR s)), .lst 127 (aggL 2 (readR s))]) ∧ ParsOk (aggL 2 (readR s)) ∧ (aggL 2 (readR s)).length ≤ 1000000 := by
  obtain ⟨a, b, p, h1, h2, h3⟩ := read_med s hs
  rw [h1]; exact ⟨rfl, h2, h3⟩
noncomputable def gReadR : List SV → Option (Bool × SV)
  | [.str s] => some (Nat.ble s.size 1000000, .agg [.str (aggS 0 (readR s)), .str (aggS 1 (readR s)), .lst 127 (aggL 2 (readR s))])
  | _ => none
theorem zReadR_ok : SpecOk zE 36 (.plain gReadR) := by
  refine plain_of_run (zfx_ok zT9_ok [] f36_live) (fn := Tryz.f36) (by kernel_rfl) (by decide) (by rfl) (fun args sv h => ?_)
  unfold gReadR at h
  split at h
  · rename_i s
    simp only [Option.some.injEq, Prod.mk.injEq] at h
    obtain ⟨h1, rfl⟩ := h
    exact ⟨rfl, rfl, 1000001, (readR_is s (Nat.le_of_ble_eq_true h1)).1⟩
  · cases h
/-! ### spans -/
def SpOk (lo hi : Nat) (x : SV) : Prop := ∃ f u : Nat, x = .agg [.int .i64 f, .int .i64 u] ∧ lo ≤ f ∧ f ≤ u ∧ u ≤ hi
def SpsOk (lo hi : Nat) (l : List SV) : Prop := ∀ x ∈ l, SpOk lo hi x
theorem SpsOk.snoc {lo hi : Nat} {l : List SV} {x : SV} (h : SpsOk lo hi l) (hx : SpOk lo hi x) : SpsOk lo hi (l ++ [x]) := fun y hy =>
  (List.mem_append.1 hy).elim (h y) fun h1 => by rw [List.mem_singleton.1 h1]; exact hx
def SpR (lo hi : Nat) (r : Option SV) : Prop := ∃ l, r = some (.lst 99 l) ∧ SpsOk lo hi l ∧ l.length ≤ 1000001
/-- From where a part is: not yet, or a place at the end of a line. -/
def Begun (lo i a : Nat) (l : List SV) (b : Int) : Prop := b = -1 ∨ ∃ n : Nat, b = n ∧ lo ≤ n ∧ 1 ≤ i ∧ n ≤ a ∧ (n = a ∨ n + (asStr (List.getD l (i - 1) SV.dead)).size ≤ a)
theorem L38_is (fu : Nat) (l : List SV) (n : ByteArray) (hn : n.size ≤ 1000000) (lo hi : Nat) (hhi : hi ≤ 1000000) (hok : LinesOk l) (hl : l.length ≤ 1000000) : ∀ (k i m a : Nat) (b : Int) (out : List SV), i + k = l.length → k < m → lo ≤ a → a + sumS (l.drop i) = hi →
    Begun lo i a l b → SpsOk lo hi out → out.length ≤ i → SpR lo hi (f38_L6 fu m (hi : Int) n l b (a : Int) (i : Int) out)
  | 0, i, m, a, b, out, hi', hm, hlo, ha, hb, ho, hlen => by
    obtain ⟨m, rfl⟩ : ∃ m', m = m' + 1 := ⟨m - 1, by omega⟩
    have h1 : ¬ ((i : Int) < (l.length : Int)) := by omega
    have r1 : (out.length + 1) * 16 ≤ 140737488355328 := by omega
    have r2 : out.length + 1 ≤ 9223372036854775807 := by omega
    rw [f38_L6_eq]
    simp only [h1, r1, r2, decide_false, decide_true, Bool.and_self, cond_false, cond_true]
    refine cond_of (Q := SpR lo hi) (fun c => ?_) (fun _ => ⟨out, rfl, ho, by omega⟩)
    simp only [decide_eq_true_eq] at c
    rcases hb with q | ⟨f, rfl, q2, q3, q4, q5⟩
    · omega
    · exact ⟨_, rfl, ho.snoc ⟨f, hi, rfl, q2, by omega, by omega⟩, by simp; omega⟩
  | k + 1, i, m, a, b, out, hi', hm, hlo, ha, hb, ho, hlen => by
    obtain ⟨m, rfl⟩ : ∃ m', m = m' + 1 := ⟨m - 1, by omega⟩
    have hlt : i < l.length := by omega
    have h1 : (i : Int) < (l.length : Int) := by omega
    have h2 : (0 : Int) ≤ (i : Int) := by omega
    have w1 : IntKind.wrap .i64 ((i : Int) + 1) = ((i + 1 : Nat) : Int) := by rw [wrap_i64 (by omega) (by omega)]; omega
    have r1 : (out.length + 1) * 16 ≤ 140737488355328 := by omega
    have r2 : out.length + 1 ≤ 9223372036854775807 := by omega
    obtain ⟨t, ht, htp⟩ := hok _ (List.getElem_mem hlt)
    have hdrop := List.drop_eq_getElem_cons hlt
    rw [hdrop, ht] at ha
    simp only [sumS, asStr] at ha
    have hts : t.size ≤ 1000000 := by omega
    have hat : List.getD l i SV.dead = .str t := by rw [zgetD_at hlt, ht]
    have w2 : IntKind.wrap .i64 ((a : Int) + (t.size : Int)) = ((a + t.size : Nat) : Int) := by rw [wrap_i64 (by omega) (by omega)]; omega
    rw [f38_L6_eq, w1, Int.toNat_natCast, hat, asStr_cell, w2]
    have hsz : ∀ x, (asStr (List.getD l (i + 1 - 1) SV.dead)).size = x ↔ t.size = x := fun x => by rw [Nat.add_sub_cancel, hat]; exact Iff.rfl
    have hrest : ∀ out', SpsOk lo hi out' → out'.length ≤ i + 1 → SpR lo hi (bif intV (kindR t n) == (2 : Int) then some (SV.lst (99 : Nat) out') else bif intV (kindR t n) == (1 : Int) then f38_L6 fu m (hi : Int) n l ((a + t.size : Nat) : Int) ((a + t.size : Nat) : Int) ((i + 1 : Nat) : Int) out'
        else f38_L6 fu m (hi : Int) n l b ((a + t.size : Nat) : Int) ((i + 1 : Nat) : Int) out') := fun out' q1 q2 =>
      cond_of (Q := SpR lo hi) (fun _ => ⟨_, rfl, q1, by omega⟩) (fun _ => cond_of (Q := SpR lo hi)
        (fun _ => L38_is fu l n hn lo hi hhi hok hl k (i + 1) m (a + t.size) _ out' (by omega) (by omega) (by omega) (by omega) (.inr ⟨a + t.size, rfl, by omega, by omega, Nat.le_refl _, .inl rfl⟩) q1 q2)
        (fun _ => L38_is fu l n hn lo hi hhi hok hl k (i + 1) m (a + t.size) b out' (by omega) (by omega) (by omega) (by omega) (by
          rcases hb with q | ⟨f, rfl, p2, p3, p4, p5⟩
          · exact .inl q
          · refine .inr ⟨f, rfl, p2, by omega, by omega, .inr ?_⟩
            have e : (asStr (List.getD l (i + 1 - 1) SV.dead)).size = t.size := (hsz _).2 rfl
            rw [e]; omega) q1 q2))
    simp only [h1, h2, r1, r2, decide_true, cond_true, Bool.and_self, Nat.ble_eq_true_of_le hts, Nat.ble_eq_true_of_le hn]
    refine cond_of (Q := SpR lo hi) (fun _ => ?_) (fun _ => hrest out ho (by omega))
    refine cond_of (Q := SpR lo hi) (fun c => ?_) (fun _ => hrest out ho (by omega))
    simp only [decide_eq_true_eq] at c
    rcases hb with q | ⟨f, rfl, p2, p3, p4, p5⟩
    · omega
    refine cond_of (Q := SpR lo hi) (fun c => ?_) (fun _ => hrest _ (ho.snoc ⟨f, f, rfl, p2, Nat.le_refl _, by omega⟩) (by simp; omega))
    simp only [decide_eq_true_eq] at c
    have hlt2 : i - 1 < l.length := by omega
    obtain ⟨t2, ht2, htp2⟩ := hok _ (List.getElem_mem hlt2)
    have hat2 : List.getD l (i - 1) SV.dead = .str t2 := by rw [zgetD_at hlt2, ht2]
    rw [hat2] at p5
    simp only [asStr] at p5
    have hts2 : t2.size ≤ 1000000 := by omega
    have hb2 := (bareR_is t2 hts2).2
    obtain ⟨y, hy⟩ : ∃ y, (strV (bareR t2)).size = y := ⟨_, rfl⟩
    rw [hy] at hb2
    have w3 : IntKind.wrap .i64 ((i : Int) - 1) = ((i - 1 : Nat) : Int) := by rw [wrap_i64 (by omega) (by omega)]; omega
    have w4 : IntKind.wrap .i64 ((a : Int) - (t2.size : Int)) = ((a - t2.size : Nat) : Int) := by rw [wrap_i64 (by omega) (by omega)]; omega
    have w5 : IntKind.wrap .i64 (((a - t2.size : Nat) : Int) + (y : Int)) = ((a - t2.size + y : Nat) : Int) := by rw [wrap_i64 (by omega) (by omega)]; omega
    have g1 : (0 : Int) ≤ ((i - 1 : Nat) : Int) := by omega
    have g2 : ((i - 1 : Nat) : Int) < (l.length : Int) := by omega
    rw [w3]
    simp only [g1, g2, decide_true, Bool.and_self, cond_true, Int.toNat_natCast, hat2, asStr_cell, hy, w4, w5, Nat.ble_eq_true_of_le hts2]
    exact hrest _ (ho.snoc ⟨f, a - t2.size + y, rfl, p2, by omega, by omega⟩) (by simp; omega)
noncomputable def spansR (s : ByteArray) (a b : Int) (n : ByteArray) : Option SV := evFun f38_X 1000001 Tryz.f38 (frz f38_X.Ty Tryz.f38) [.str s, .int .i64 a, .int .i64 b, .str n] [] []
theorem spansR_is (s : ByteArray) (a b : Nat) (n : ByteArray) (hs : s.size ≤ 1000000) (hn : n.size ≤ 1000000) (hab : a ≤ b) (hb : b ≤ s.size) : spansR s a b n = some (.lst 99 (lstV (spansR s a b n))) ∧ SpsOk a b (lstV (spansR s a b n)) ∧ (lstV (spansR s a b n)).length ≤ 1000001 := by
  have hz : (s.extract a b).size = b - a := by rw [ByteArray.size_extract]; omega
  have hz2 : (s.extract a b).size ≤ 1000000 := by omega
  obtain ⟨_, c2, c3, c4⟩ := cutR_is (s.extract a b) hz2
  have main : SpR a b (spansR s a b n) := by
    rw [show spansR s a b n = _ from f38_eq 1000001 s a b n]
    have g1 : (0 : Int) ≤ (b : Int) := by omega
    have g2 : (b : Int) ≤ (s.size : Int) := by omega
    have g3 : (0 : Int) ≤ (a : Int) := by omega
    have g4 : (a : Int) ≤ (b : Int) := by omega
    simp only [g1, g2, g3, g4, decide_true, Bool.and_self, cond_true, Int.toNat_natCast, Nat.ble_eq_true_of_le hz2]
    exact L38_is 1000001 _ n hn a b (by omega) c2 (by omega) (lstV (cutR (s.extract a b))).length 0 1000001 a (-1) [] (by omega) (by omega) (Nat.le_refl _) (by rw [List.drop_zero, c3]; omega) (.inl rfl) (fun x hx => by cases hx) (Nat.le_refl _)
  obtain ⟨l, h1, h2, h3⟩ := main
  rw [h1]; exact ⟨rfl, h2, h3⟩
noncomputable def gSpansR : List SV → Option (Bool × SV)
  | [.str s, .int .i64 a, .int .i64 b, .str n] => some (Nat.ble s.size 1000000 && (Nat.ble n.size 1000000 && (decide (0 ≤ a) && (decide (a ≤ b) && decide (b ≤ s.size)))), .lst 99 (lstV (spansR s a b n)))
  | _ => none
theorem zSpansR_ok : SpecOk zE 38 (.plain gSpansR) := by
  refine plain_of_run (zfx_ok zT9_ok [] f38_live) (fn := Tryz.f38) (by kernel_rfl) (by decide) (by rfl) (fun args sv h => ?_)
  unfold gSpansR at h
  split at h
  · rename_i s a b n
    simp only [Option.some.injEq, Prod.mk.injEq, Bool.and_eq_true, decide_eq_true_eq] at h
    obtain ⟨⟨h1, h2, h3, h4, h5⟩, rfl⟩ := h
    obtain ⟨a, rfl⟩ : ∃ a' : Nat, a = a' := ⟨a.toNat, by omega⟩
    obtain ⟨b, rfl⟩ : ∃ b' : Nat, b = b' := ⟨b.toNat, by omega⟩
    exact ⟨rfl, rfl, 1000001, (spansR_is s a b n (Nat.le_of_ble_eq_true h1) (Nat.le_of_ble_eq_true h2) (by omega) (by omega)).1⟩
  · cases h
end Sx
