/-
  What the executor says of functions: the normal forms, each compared by the kernel. (Printed by a program.)
-/
import Derived.Test.YtlkpldfdogjneaaLb
import Derived.KernelRfl
set_option linter.unusedVariables false
set_option linter.unusedSimpArgs false
set_option linter.unusedVariables false
namespace Sx
open Go Go.Proofs
set_option maxRecDepth 100000
/-- The slots that are needed at the loops' heads of 'hamper/hamperref29.All'. -/
noncomputable def f28_live : Nat → List Nat × List (Nat × TypeId) := fun h => bif Nat.beq h 34 then ([0, 4, 5, 6, 9, 14, 15], nilsOf (tyOf Try.prog) [(0, 9), (4, 47), (5, 3), (6, 71), (9, 4), (14, 4), (15, 3)]) else bif Nat.beq h 7 then ([0, 4, 5, 6, 7, 8, 9, 10], nilsOf (tyOf Try.prog) [(0, 9), (4, 47), (5, 3), (6, 71), (7, 3), (8, 3), (9, 4), (10, 3)]) else bif Nat.beq h 6 then ([0, 4, 5, 6, 7, 8, 9], nilsOf (tyOf Try.prog) [(0, 9), (4, 47), (5, 3), (6, 71), (7, 3), (8, 3), (9, 4)]) else bif Nat.beq h 3 then ([0, 4, 5], nilsOf (tyOf Try.prog) [(0, 9), (4, 47), (5, 3)]) else ([], [])
noncomputable def f28_X : Fx := ⟨tyOf Try.prog, ofList lH0, [], f28_live⟩
def f28_st34 (x0 : ByteArray) (x1 : Int) (x2 : Bool) (x3 : Bool) (x4 : Int) (x5 : List SV) (x6 : List SV) : St := St.mk
  [SV.str x0, SV.dead, SV.dead, SV.dead, SV.row (100 : Nat), SV.int IntKind.i64 x1, SV.row (101 : Nat), SV.dead, SV.dead, SV.bool x2, SV.dead, SV.dead, SV.dead, SV.dead, SV.bool x3, SV.int IntKind.i64 x4, SV.dead,
    SV.dead, SV.dead, SV.dead, SV.dead, SV.dead, SV.dead, SV.dead, SV.dead, SV.dead, SV.dead, SV.dead, SV.dead, SV.dead, SV.dead, SV.dead, SV.dead, SV.dead, SV.dead, SV.dead, SV.dead, SV.dead, SV.dead, SV.dead, SV.dead,
    SV.dead, SV.dead, SV.dead, SV.dead, SV.dead, SV.dead, SV.dead, SV.dead, SV.dead, SV.dead, SV.dead, SV.dead, SV.dead, SV.dead, SV.dead, SV.dead, SV.dead, SV.dead, SV.dead, SV.dead, SV.dead, SV.dead, SV.dead, SV.dead,
    SV.dead, SV.dead, SV.dead, SV.dead, SV.dead, SV.dead, SV.dead, SV.dead, SV.dead, SV.dead, SV.dead, SV.dead, SV.dead, SV.dead, SV.dead, SV.dead, SV.dead, SV.dead, SV.dead, SV.dead, SV.dead, SV.dead, SV.dead, SV.dead,
    SV.dead, SV.dead, SV.dead, SV.dead, SV.dead, SV.dead, SV.dead, SV.dead, SV.dead, SV.dead, SV.dead, SV.dead, SV.dead, SV.dead, SV.dead, SV.dead, SV.dead, SV.dead, SV.dead, SV.dead, SV.dead, SV.dead, SV.dead, SV.dead,
    SV.dead, SV.dead, SV.dead, SV.dead, SV.dead, SV.dead, SV.dead, SV.dead, SV.dead, SV.dead, SV.dead, SV.dead, SV.dead, SV.dead, SV.dead, SV.dead, SV.dead, SV.dead, SV.dead, SV.dead, SV.dead, SV.dead, SV.dead, SV.dead,
    SV.dead, SV.dead, SV.dead, SV.dead, SV.dead, SV.dead, SV.dead, SV.dead, SV.dead, SV.dead, SV.dead, SV.dead, SV.dead, SV.dead, SV.dead, SV.dead, SV.dead, SV.dead, SV.dead, SV.dead, SV.dead, SV.dead, SV.dead, SV.dead,
    SV.dead, SV.dead, SV.dead, SV.dead, SV.dead, SV.dead, SV.dead, SV.dead, SV.dead, SV.dead]
  [((100 : Nat), SObj.row (82 : Nat) x5), ((101 : Nat), SObj.row (77 : Nat) x6)] [(100 : Nat), (101 : Nat)]
noncomputable def f28_L34 (fu fm : Nat) (k0 : Nat) (x0 : ByteArray) (x1 : Int) (x2 : Bool) (x3 : Bool) (x4 : Int) (x5 : List SV) (x6 : List SV) : Option (SV) := atLoop f28_X Try.f28 (frz f28_X.Ty Try.f28) fu [.r, .r, .r, .b, .o k0, .b, .r, .r, .r, .r, .r, .l, .r, .b] fm (f28_st34 x0 x1 x2 x3 x4 x5 x6)

def f28_st7 (x0 : ByteArray) (x1 : Int) (x2 : Int) (x3 : Int) (x4 : Bool) (x5 : Int) (x6 : List SV) (x7 : List SV) : St := St.mk
  [SV.str x0, SV.dead, SV.dead, SV.dead, SV.row (100 : Nat), SV.int IntKind.i64 x1, SV.row (101 : Nat), SV.int IntKind.i64 x2, SV.int IntKind.i64 x3, SV.bool x4, SV.int IntKind.i64 x5, SV.dead, SV.dead, SV.dead, SV.dead,
    SV.dead, SV.dead, SV.dead, SV.dead, SV.dead, SV.dead, SV.dead, SV.dead, SV.dead, SV.dead, SV.dead, SV.dead, SV.dead, SV.dead, SV.dead, SV.dead, SV.dead, SV.dead, SV.dead, SV.dead, SV.dead, SV.dead, SV.dead, SV.dead,
    SV.dead, SV.dead, SV.dead, SV.dead, SV.dead, SV.dead, SV.dead, SV.dead, SV.dead, SV.dead, SV.dead, SV.dead, SV.dead, SV.dead, SV.dead, SV.dead, SV.dead, SV.dead, SV.dead, SV.dead, SV.dead, SV.dead, SV.dead, SV.dead,
    SV.dead, SV.dead, SV.dead, SV.dead, SV.dead, SV.dead, SV.dead, SV.dead, SV.dead, SV.dead, SV.dead, SV.dead, SV.dead, SV.dead, SV.dead, SV.dead, SV.dead, SV.dead, SV.dead, SV.dead, SV.dead, SV.dead, SV.dead, SV.dead,
    SV.dead, SV.dead, SV.dead, SV.dead, SV.dead, SV.dead, SV.dead, SV.dead, SV.dead, SV.dead, SV.dead, SV.dead, SV.dead, SV.dead, SV.dead, SV.dead, SV.dead, SV.dead, SV.dead, SV.dead, SV.dead, SV.dead, SV.dead, SV.dead,
    SV.dead, SV.dead, SV.dead, SV.dead, SV.dead, SV.dead, SV.dead, SV.dead, SV.dead, SV.dead, SV.dead, SV.dead, SV.dead, SV.dead, SV.dead, SV.dead, SV.dead, SV.dead, SV.dead, SV.dead, SV.dead, SV.dead, SV.dead, SV.dead,
    SV.dead, SV.dead, SV.dead, SV.dead, SV.dead, SV.dead, SV.dead, SV.dead, SV.dead, SV.dead, SV.dead, SV.dead, SV.dead, SV.dead, SV.dead, SV.dead, SV.dead, SV.dead, SV.dead, SV.dead, SV.dead, SV.dead, SV.dead, SV.dead,
    SV.dead, SV.dead, SV.dead, SV.dead, SV.dead, SV.dead, SV.dead, SV.dead, SV.dead, SV.dead, SV.dead, SV.dead]
  [((100 : Nat), SObj.row (82 : Nat) x6), ((101 : Nat), SObj.row (77 : Nat) x7)] [(100 : Nat), (101 : Nat)]
noncomputable def f28_L7 (fu fm : Nat) (k0 k1 : Nat) (x0 : ByteArray) (x1 : Int) (x2 : Int) (x3 : Int) (x4 : Bool) (x5 : Int) (x6 : List SV) (x7 : List SV) : Option (SV) := atLoop f28_X Try.f28 (frz f28_X.Ty Try.f28) fu [.r, .r, .r, .b, .o k0, .b, .r, .r, .r, .l, .b, .o k1, .b, .r, .l, .b] fm (f28_st7 x0 x1 x2 x3 x4 x5 x6 x7)

def f28_st6 (x0 : ByteArray) (x1 : Int) (x2 : Int) (x3 : Int) (x4 : Bool) (x5 : List SV) (x6 : List SV) : St := St.mk
  [SV.str x0, SV.dead, SV.dead, SV.dead, SV.row (100 : Nat), SV.int IntKind.i64 x1, SV.row (101 : Nat), SV.int IntKind.i64 x2, SV.int IntKind.i64 x3, SV.bool x4, SV.dead, SV.dead, SV.dead, SV.dead, SV.dead, SV.dead,
    SV.dead, SV.dead, SV.dead, SV.dead, SV.dead, SV.dead, SV.dead, SV.dead, SV.dead, SV.dead, SV.dead, SV.dead, SV.dead, SV.dead, SV.dead, SV.dead, SV.dead, SV.dead, SV.dead, SV.dead, SV.dead, SV.dead, SV.dead, SV.dead,
    SV.dead, SV.dead, SV.dead, SV.dead, SV.dead, SV.dead, SV.dead, SV.dead, SV.dead, SV.dead, SV.dead, SV.dead, SV.dead, SV.dead, SV.dead, SV.dead, SV.dead, SV.dead, SV.dead, SV.dead, SV.dead, SV.dead, SV.dead, SV.dead,
    SV.dead, SV.dead, SV.dead, SV.dead, SV.dead, SV.dead, SV.dead, SV.dead, SV.dead, SV.dead, SV.dead, SV.dead, SV.dead, SV.dead, SV.dead, SV.dead, SV.dead, SV.dead, SV.dead, SV.dead, SV.dead, SV.dead, SV.dead, SV.dead,
    SV.dead, SV.dead, SV.dead, SV.dead, SV.dead, SV.dead, SV.dead, SV.dead, SV.dead, SV.dead, SV.dead, SV.dead, SV.dead, SV.dead, SV.dead, SV.dead, SV.dead, SV.dead, SV.dead, SV.dead, SV.dead, SV.dead, SV.dead, SV.dead,
    SV.dead, SV.dead, SV.dead, SV.dead, SV.dead, SV.dead, SV.dead, SV.dead, SV.dead, SV.dead, SV.dead, SV.dead, SV.dead, SV.dead, SV.dead, SV.dead, SV.dead, SV.dead, SV.dead, SV.dead, SV.dead, SV.dead, SV.dead, SV.dead,
    SV.dead, SV.dead, SV.dead, SV.dead, SV.dead, SV.dead, SV.dead, SV.dead, SV.dead, SV.dead, SV.dead, SV.dead, SV.dead, SV.dead, SV.dead, SV.dead, SV.dead, SV.dead, SV.dead, SV.dead, SV.dead, SV.dead, SV.dead, SV.dead,
    SV.dead, SV.dead, SV.dead, SV.dead, SV.dead, SV.dead, SV.dead, SV.dead, SV.dead, SV.dead, SV.dead]
  [((100 : Nat), SObj.row (82 : Nat) x5), ((101 : Nat), SObj.row (77 : Nat) x6)] [(100 : Nat), (101 : Nat)]
noncomputable def f28_L6 (fu fm : Nat) (k0 : Nat) (x0 : ByteArray) (x1 : Int) (x2 : Int) (x3 : Int) (x4 : Bool) (x5 : List SV) (x6 : List SV) : Option (SV) := atLoop f28_X Try.f28 (frz f28_X.Ty Try.f28) fu [.r, .r, .r, .b, .o k0, .b, .r, .r, .r, .l, .b] fm (f28_st6 x0 x1 x2 x3 x4 x5 x6)

def f28_st3 (x0 : ByteArray) (x1 : Int) (x2 : List SV) : St := St.mk
  [SV.str x0, SV.dead, SV.dead, SV.dead, SV.row (100 : Nat), SV.int IntKind.i64 x1, SV.dead, SV.dead, SV.dead, SV.dead, SV.dead, SV.dead, SV.dead, SV.dead, SV.dead, SV.dead, SV.dead, SV.dead, SV.dead, SV.dead, SV.dead,
    SV.dead, SV.dead, SV.dead, SV.dead, SV.dead, SV.dead, SV.dead, SV.dead, SV.dead, SV.dead, SV.dead, SV.dead, SV.dead, SV.dead, SV.dead, SV.dead, SV.dead, SV.dead, SV.dead, SV.dead, SV.dead, SV.dead, SV.dead, SV.dead,
    SV.dead, SV.dead, SV.dead, SV.dead, SV.dead, SV.dead, SV.dead, SV.dead, SV.dead, SV.dead, SV.dead, SV.dead, SV.dead, SV.dead, SV.dead, SV.dead, SV.dead, SV.dead, SV.dead, SV.dead, SV.dead, SV.dead, SV.dead, SV.dead,
    SV.dead, SV.dead, SV.dead, SV.dead, SV.dead, SV.dead, SV.dead, SV.dead, SV.dead, SV.dead, SV.dead, SV.dead, SV.dead, SV.dead, SV.dead, SV.dead, SV.dead, SV.dead, SV.dead, SV.dead, SV.dead, SV.dead, SV.dead, SV.dead,
    SV.dead, SV.dead, SV.dead, SV.dead, SV.dead, SV.dead, SV.dead, SV.dead, SV.dead, SV.dead, SV.dead, SV.dead, SV.dead, SV.dead, SV.dead, SV.dead, SV.dead, SV.dead, SV.dead, SV.dead, SV.dead, SV.dead, SV.dead, SV.dead,
    SV.dead, SV.dead, SV.dead, SV.dead, SV.dead, SV.dead, SV.dead, SV.dead, SV.dead, SV.dead, SV.dead, SV.dead, SV.dead, SV.dead, SV.dead, SV.dead, SV.dead, SV.dead, SV.dead, SV.dead, SV.dead, SV.dead, SV.dead, SV.dead,
    SV.dead, SV.dead, SV.dead, SV.dead, SV.dead, SV.dead, SV.dead, SV.dead, SV.dead, SV.dead, SV.dead, SV.dead, SV.dead, SV.dead, SV.dead, SV.dead, SV.dead, SV.dead, SV.dead, SV.dead, SV.dead, SV.dead, SV.dead, SV.dead,
    SV.dead, SV.dead, SV.dead, SV.dead, SV.dead, SV.dead]
  [((100 : Nat), SObj.row (82 : Nat) x2)] [(100 : Nat)]
noncomputable def f28_L3 (fu fm : Nat) (x0 : ByteArray) (x1 : Int) (x2 : List SV) : Option (SV) := atLoop f28_X Try.f28 (frz f28_X.Ty Try.f28) fu [.r, .r, .r, .b] fm (f28_st3 x0 x1 x2)

theorem f28_L34_eq (fu fm : Nat) (k0 : Nat) (x0 : ByteArray) (x1 : Int) (x2 : Bool) (x3 : Bool) (x4 : Int) (x5 : List SV) (x6 : List SV) : f28_L34 fu (fm + 1) k0 x0 x1 x2 x3 x4 x5 x6 = bif decide (x4 < (↑(List.length x6) : Int)) then
  bif x3 then f28_L34 fu fm k0 x0 x1 x2 true (IntKind.wrap IntKind.i64 (x4 + (1 : Int))) x5 x6
  else
    bif decide ((0 : Int) ≤ x4) && decide (x4 < (↑(List.length x6) : Int)) then
      bif asBool (List.getD (cellsOf (List.getD x6 (Int.toNat x4) SV.dead)) (0 : Nat) SV.dead) then f28_L34 fu fm k0 x0 x1 x2 true (IntKind.wrap IntKind.i64 (x4 + (1 : Int))) x5 x6
      else
        bif decide ((0 : Int) ≤ x4) && decide (x4 < (↑(List.length x6) : Int)) then
          f28_L34 fu fm k0 x0 x1 x2 (!ByteArray.toList (asStr (List.getD (cellsOf (List.getD x6 (Int.toNat x4) SV.dead)) (1 : Nat) SV.dead)) == ByteArray.toList (ByteArray.mk #[]))
            (IntKind.wrap IntKind.i64 (x4 + (1 : Int))) x5 x6
        else none
    else none
  else
  bif !x3 then f28_L3 fu k0 x0 x1 x5
  else
    bif okP x6 then
      bif !x2 then
        bif okP x6 then
          bif toksB x6 then
            bif decide ((List.length x5 + (1 : Nat)) * (48 : Nat) ≤ (140737488355328 : Nat)) && decide (List.length x5 + (1 : Nat) ≤ (9223372036854775807 : Nat)) then
              f28_L3 fu k0 x0 x1 (x5 ++ [SV.agg [SV.int IntKind.i64 (0 : Int), SV.str (tagP x6), SV.lst (88 : Nat) (toksL x6)]])
            else none
          else
            bif decide ((List.length x5 + (1 : Nat)) * (48 : Nat) ≤ (140737488355328 : Nat)) && decide (List.length x5 + (1 : Nat) ≤ (9223372036854775807 : Nat)) then
              f28_L3 fu k0 x0 x1 (x5 ++ [SV.agg [SV.int IntKind.i64 (2 : Int), SV.str (tagP x6), SV.lst (88 : Nat) []]])
            else none
        else none
      else
        bif decide ((List.length x5 + (1 : Nat)) * (48 : Nat) ≤ (140737488355328 : Nat)) && decide (List.length x5 + (1 : Nat) ≤ (9223372036854775807 : Nat)) then
          f28_L3 fu k0 x0 x1 (x5 ++ [SV.agg [SV.int IntKind.i64 (3 : Int), SV.str (tagP x6), SV.lst (88 : Nat) []]])
        else none
    else none := by kernel_rfl

theorem f28_L7_eq (fu fm : Nat) (k0 k1 : Nat) (x0 : ByteArray) (x1 : Int) (x2 : Int) (x3 : Int) (x4 : Bool) (x5 : Int) (x6 : List SV) (x7 : List SV) : f28_L7 fu (fm + 1) k0 k1 x0 x1 x2 x3 x4 x5 x6 x7 = bif decide (x5 < (↑(ByteArray.size x0) : Int)) then
  bif decide ((0 : Int) ≤ x5) && decide (x5 < (↑(ByteArray.size x0) : Int)) then
    bif bAt x0 x5 != (10 : Int) then f28_L7 fu fm k0 k1 x0 x1 x2 x3 x4 (IntKind.wrap IntKind.i64 (x5 + (1 : Int))) x6 x7
    else
      bif x5 == (↑(ByteArray.size x0) : Int) then some (SV.tup [SV.lst (82 : Nat) x6, SV.int IntKind.i64 (0 : Int)])
      else
        bif decide ((0 : Int) ≤ x5) && decide (x5 ≤ (↑(ByteArray.size x0) : Int)) && (decide ((0 : Int) ≤ x1) && decide (x1 ≤ x5)) then
          bif decide ((↑(ByteArray.size (ByteArray.extract x0 (Int.toNat x1) (Int.toNat x5))) : Int) > (0 : Int)) then
            bif
                decide ((0 : Int) ≤ IntKind.wrap IntKind.i64 ((↑(ByteArray.size (ByteArray.extract x0 (Int.toNat x1) (Int.toNat x5))) : Int) - (1 : Int))) &&
                  decide
                    (IntKind.wrap IntKind.i64 ((↑(ByteArray.size (ByteArray.extract x0 (Int.toNat x1) (Int.toNat x5))) : Int) - (1 : Int)) <
                      (↑(ByteArray.size (ByteArray.extract x0 (Int.toNat x1) (Int.toNat x5))) : Int)) then
              bif bAt (ByteArray.extract x0 (Int.toNat x1) (Int.toNat x5)) (IntKind.wrap IntKind.i64 ((↑(ByteArray.size (ByteArray.extract x0 (Int.toNat x1) (Int.toNat x5))) : Int) - (1 : Int))) == (13 : Int) then
                bif
                    decide ((0 : Int) ≤ IntKind.wrap IntKind.i64 ((↑(ByteArray.size (ByteArray.extract x0 (Int.toNat x1) (Int.toNat x5))) : Int) - (1 : Int))) &&
                        decide
                          (IntKind.wrap IntKind.i64 ((↑(ByteArray.size (ByteArray.extract x0 (Int.toNat x1) (Int.toNat x5))) : Int) - (1 : Int)) ≤
                            (↑(ByteArray.size (ByteArray.extract x0 (Int.toNat x1) (Int.toNat x5))) : Int)) &&
                      true then
                  bif
                      decide
                        (IntKind.wrap IntKind.i64
                            (x2 +
                              (↑(ByteArray.size
                                    (ByteArray.extract (ByteArray.extract x0 (Int.toNat x1) (Int.toNat x5)) (0 : Nat)
                                      (Int.toNat (IntKind.wrap IntKind.i64 ((↑(ByteArray.size (ByteArray.extract x0 (Int.toNat x1) (Int.toNat x5))) : Int) - (1 : Int)))))) :
                                Int)) >
                          (600 : Int)) then
                    bif
                        decide
                          ((↑(ByteArray.size
                                  (ByteArray.extract (ByteArray.extract x0 (Int.toNat x1) (Int.toNat x5)) (0 : Nat)
                                    (Int.toNat (IntKind.wrap IntKind.i64 ((↑(ByteArray.size (ByteArray.extract x0 (Int.toNat x1) (Int.toNat x5))) : Int) - (1 : Int)))))) :
                              Int) >
                            (602 : Int)) then
                      bif
                          decide
                              ((602 : Int) ≤
                                (↑(ByteArray.size
                                      (ByteArray.extract (ByteArray.extract x0 (Int.toNat x1) (Int.toNat x5)) (0 : Nat)
                                        (Int.toNat (IntKind.wrap IntKind.i64 ((↑(ByteArray.size (ByteArray.extract x0 (Int.toNat x1) (Int.toNat x5))) : Int) - (1 : Int)))))) :
                                  Int)) &&
                            true then
                        bif decide ((List.length x7 + (1 : Nat)) * (24 : Nat) ≤ (140737488355328 : Nat)) && decide (List.length x7 + (1 : Nat) ≤ (9223372036854775807 : Nat)) then
                          f28_L34 fu fu k0 x0 (IntKind.wrap IntKind.i64 (x5 + (1 : Int))) true false (0 : Int) x6
                            (x7 ++
                              [SV.agg
                                  [SV.bool false,
                                    SV.str
                                      (ByteArray.extract
                                        (ByteArray.extract (ByteArray.extract x0 (Int.toNat x1) (Int.toNat x5)) (0 : Nat)
                                          (Int.toNat (IntKind.wrap IntKind.i64 ((↑(ByteArray.size (ByteArray.extract x0 (Int.toNat x1) (Int.toNat x5))) : Int) - (1 : Int)))))
                                        (0 : Nat) (602 : Nat))]])
                        else none
                      else none
                    else
                      bif decide ((List.length x7 + (1 : Nat)) * (24 : Nat) ≤ (140737488355328 : Nat)) && decide (List.length x7 + (1 : Nat) ≤ (9223372036854775807 : Nat)) then
                        f28_L34 fu fu k0 x0 (IntKind.wrap IntKind.i64 (x5 + (1 : Int))) true false (0 : Int) x6
                          (x7 ++
                            [SV.agg
                                [SV.bool false,
                                  SV.str
                                    (ByteArray.extract (ByteArray.extract x0 (Int.toNat x1) (Int.toNat x5)) (0 : Nat)
                                      (Int.toNat (IntKind.wrap IntKind.i64 ((↑(ByteArray.size (ByteArray.extract x0 (Int.toNat x1) (Int.toNat x5))) : Int) - (1 : Int)))))]])
                      else none
                  else
                    bif
                        decide
                          (ByteArray.size
                              (ByteArray.extract (ByteArray.extract x0 (Int.toNat x1) (Int.toNat x5)) (0 : Nat)
                                (Int.toNat (IntKind.wrap IntKind.i64 ((↑(ByteArray.size (ByteArray.extract x0 (Int.toNat x1) (Int.toNat x5))) : Int) - (1 : Int))))) <
                            (4294967281 : Nat)) then
                      bif
                          decide
                              ((↑(annI
                                      (ByteArray.extract (ByteArray.extract x0 (Int.toNat x1) (Int.toNat x5)) (0 : Nat)
                                        (Int.toNat (IntKind.wrap IntKind.i64 ((↑(ByteArray.size (ByteArray.extract x0 (Int.toNat x1) (Int.toNat x5))) : Int) - (1 : Int)))))) :
                                  Int) ≤
                                (↑(ByteArray.size
                                      (ByteArray.extract (ByteArray.extract x0 (Int.toNat x1) (Int.toNat x5)) (0 : Nat)
                                        (Int.toNat (IntKind.wrap IntKind.i64 ((↑(ByteArray.size (ByteArray.extract x0 (Int.toNat x1) (Int.toNat x5))) : Int) - (1 : Int)))))) :
                                  Int)) &&
                            true then
                        bif decide ((List.length x7 + (1 : Nat)) * (24 : Nat) ≤ (140737488355328 : Nat)) && decide (List.length x7 + (1 : Nat) ≤ (9223372036854775807 : Nat)) then
                          bif
                              decide
                                (annN
                                    (ByteArray.extract (ByteArray.extract x0 (Int.toNat x1) (Int.toNat x5)) (0 : Nat)
                                      (Int.toNat (IntKind.wrap IntKind.i64 ((↑(ByteArray.size (ByteArray.extract x0 (Int.toNat x1) (Int.toNat x5))) : Int) - (1 : Int))))) <
                                  (0 : Int)) then
                            f28_L34 fu fu k0 x0 (IntKind.wrap IntKind.i64 (x5 + (1 : Int))) x4 false (0 : Int) x6
                              (x7 ++
                                [SV.agg
                                    [SV.bool false,
                                      SV.str
                                        (ByteArray.extract
                                          (ByteArray.extract (ByteArray.extract x0 (Int.toNat x1) (Int.toNat x5)) (0 : Nat)
                                            (Int.toNat (IntKind.wrap IntKind.i64 ((↑(ByteArray.size (ByteArray.extract x0 (Int.toNat x1) (Int.toNat x5))) : Int) - (1 : Int)))))
                                          (0 : Nat)
                                          (Int.toNat
                                            (↑(annI
                                                  (ByteArray.extract (ByteArray.extract x0 (Int.toNat x1) (Int.toNat x5)) (0 : Nat)
                                                    (Int.toNat (IntKind.wrap IntKind.i64 ((↑(ByteArray.size (ByteArray.extract x0 (Int.toNat x1) (Int.toNat x5))) : Int) - (1 : Int)))))) :
                                              Int)))]])
                          else
                            bif
                                decide
                                  (annN
                                      (ByteArray.extract (ByteArray.extract x0 (Int.toNat x1) (Int.toNat x5)) (0 : Nat)
                                        (Int.toNat (IntKind.wrap IntKind.i64 ((↑(ByteArray.size (ByteArray.extract x0 (Int.toNat x1) (Int.toNat x5))) : Int) - (1 : Int))))) >
                                    (4000 : Int)) then
                              f28_L34 fu fu k0 x0 (IntKind.wrap IntKind.i64 (x5 + (1 : Int))) true false (0 : Int) x6
                                (x7 ++
                                  [SV.agg
                                      [SV.bool false,
                                        SV.str
                                          (ByteArray.extract
                                            (ByteArray.extract (ByteArray.extract x0 (Int.toNat x1) (Int.toNat x5)) (0 : Nat)
                                              (Int.toNat (IntKind.wrap IntKind.i64 ((↑(ByteArray.size (ByteArray.extract x0 (Int.toNat x1) (Int.toNat x5))) : Int) - (1 : Int)))))
                                            (0 : Nat)
                                            (Int.toNat
                                              (↑(annI
                                                    (ByteArray.extract (ByteArray.extract x0 (Int.toNat x1) (Int.toNat x5)) (0 : Nat)
                                                      (Int.toNat (IntKind.wrap IntKind.i64 ((↑(ByteArray.size (ByteArray.extract x0 (Int.toNat x1) (Int.toNat x5))) : Int) - (1 : Int)))))) :
                                                Int)))]])
                            else
                              bif x3 == (4 : Int) then
                                f28_L34 fu fu k0 x0 (IntKind.wrap IntKind.i64 (x5 + (1 : Int))) true false (0 : Int) x6
                                  (x7 ++
                                    [SV.agg
                                        [SV.bool false,
                                          SV.str
                                            (ByteArray.extract
                                              (ByteArray.extract (ByteArray.extract x0 (Int.toNat x1) (Int.toNat x5)) (0 : Nat)
                                                (Int.toNat (IntKind.wrap IntKind.i64 ((↑(ByteArray.size (ByteArray.extract x0 (Int.toNat x1) (Int.toNat x5))) : Int) - (1 : Int)))))
                                              (0 : Nat)
                                              (Int.toNat
                                                (↑(annI
                                                      (ByteArray.extract (ByteArray.extract x0 (Int.toNat x1) (Int.toNat x5)) (0 : Nat)
                                                        (Int.toNat (IntKind.wrap IntKind.i64 ((↑(ByteArray.size (ByteArray.extract x0 (Int.toNat x1) (Int.toNat x5))) : Int) - (1 : Int)))))) :
                                                  Int)))]])
                              else
                                bif decide ((List.length x6 + (1 : Nat)) * (48 : Nat) ≤ (140737488355328 : Nat)) && decide (List.length x6 + (1 : Nat) ≤ (9223372036854775807 : Nat)) then
                                  bif
                                      decide
                                        (IntKind.wrap IntKind.i64 ((↑(ByteArray.size x0) : Int) - IntKind.wrap IntKind.i64 (x5 + (1 : Int))) <
                                          annN
                                            (ByteArray.extract (ByteArray.extract x0 (Int.toNat x1) (Int.toNat x5)) (0 : Nat)
                                              (Int.toNat (IntKind.wrap IntKind.i64 ((↑(ByteArray.size (ByteArray.extract x0 (Int.toNat x1) (Int.toNat x5))) : Int) - (1 : Int)))))) then
                                    some
                                      (SV.tup
                                        [SV.lst (82 : Nat) (x6 ++ [SV.agg [SV.int IntKind.i64 (1 : Int), SV.str (ByteArray.mk #[]), SV.lst (88 : Nat) []]]),
                                          SV.int IntKind.i64
                                            (IntKind.wrap IntKind.i64
                                              (annN
                                                  (ByteArray.extract (ByteArray.extract x0 (Int.toNat x1) (Int.toNat x5)) (0 : Nat)
                                                    (Int.toNat (IntKind.wrap IntKind.i64 ((↑(ByteArray.size (ByteArray.extract x0 (Int.toNat x1) (Int.toNat x5))) : Int) - (1 : Int))))) -
                                                IntKind.wrap IntKind.i64 ((↑(ByteArray.size x0) : Int) - IntKind.wrap IntKind.i64 (x5 + (1 : Int)))))])
                                  else
                                    bif
                                        decide
                                              ((0 : Int) ≤
                                                IntKind.wrap IntKind.i64
                                                  (IntKind.wrap IntKind.i64 (x5 + (1 : Int)) +
                                                    annN
                                                      (ByteArray.extract (ByteArray.extract x0 (Int.toNat x1) (Int.toNat x5)) (0 : Nat)
                                                        (Int.toNat (IntKind.wrap IntKind.i64 ((↑(ByteArray.size (ByteArray.extract x0 (Int.toNat x1) (Int.toNat x5))) : Int) - (1 : Int))))))) &&
                                            decide
                                              (IntKind.wrap IntKind.i64
                                                  (IntKind.wrap IntKind.i64 (x5 + (1 : Int)) +
                                                    annN
                                                      (ByteArray.extract (ByteArray.extract x0 (Int.toNat x1) (Int.toNat x5)) (0 : Nat)
                                                        (Int.toNat (IntKind.wrap IntKind.i64 ((↑(ByteArray.size (ByteArray.extract x0 (Int.toNat x1) (Int.toNat x5))) : Int) - (1 : Int)))))) ≤
                                                (↑(ByteArray.size x0) : Int)) &&
                                          (decide ((0 : Int) ≤ IntKind.wrap IntKind.i64 (x5 + (1 : Int))) &&
                                            decide
                                              (IntKind.wrap IntKind.i64 (x5 + (1 : Int)) ≤
                                                IntKind.wrap IntKind.i64
                                                  (IntKind.wrap IntKind.i64 (x5 + (1 : Int)) +
                                                    annN
                                                      (ByteArray.extract (ByteArray.extract x0 (Int.toNat x1) (Int.toNat x5)) (0 : Nat)
                                                        (Int.toNat (IntKind.wrap IntKind.i64 ((↑(ByteArray.size (ByteArray.extract x0 (Int.toNat x1) (Int.toNat x5))) : Int) - (1 : Int)))))))) then
                                      bif
                                          decide
                                              ((List.length
                                                      (x7 ++
                                                        [SV.agg
                                                            [SV.bool false,
                                                              SV.str
                                                                (ByteArray.extract
                                                                  (ByteArray.extract (ByteArray.extract x0 (Int.toNat x1) (Int.toNat x5)) (0 : Nat)
                                                                    (Int.toNat (IntKind.wrap IntKind.i64 ((↑(ByteArray.size (ByteArray.extract x0 (Int.toNat x1) (Int.toNat x5))) : Int) - (1 : Int)))))
                                                                  (0 : Nat)
                                                                  (Int.toNat
                                                                    (↑(annI
                                                                          (ByteArray.extract (ByteArray.extract x0 (Int.toNat x1) (Int.toNat x5)) (0 : Nat)
                                                                            (Int.toNat (IntKind.wrap IntKind.i64 ((↑(ByteArray.size (ByteArray.extract x0 (Int.toNat x1) (Int.toNat x5))) : Int) - (1 : Int)))))) :
                                                                      Int)))]]) +
                                                    (1 : Nat)) *
                                                  (24 : Nat) ≤
                                                (140737488355328 : Nat)) &&
                                            decide
                                              (List.length
                                                    (x7 ++
                                                      [SV.agg
                                                          [SV.bool false,
                                                            SV.str
                                                              (ByteArray.extract
                                                                (ByteArray.extract (ByteArray.extract x0 (Int.toNat x1) (Int.toNat x5)) (0 : Nat)
                                                                  (Int.toNat (IntKind.wrap IntKind.i64 ((↑(ByteArray.size (ByteArray.extract x0 (Int.toNat x1) (Int.toNat x5))) : Int) - (1 : Int)))))
                                                                (0 : Nat)
                                                                (Int.toNat
                                                                  (↑(annI
                                                                        (ByteArray.extract (ByteArray.extract x0 (Int.toNat x1) (Int.toNat x5)) (0 : Nat)
                                                                          (Int.toNat (IntKind.wrap IntKind.i64 ((↑(ByteArray.size (ByteArray.extract x0 (Int.toNat x1) (Int.toNat x5))) : Int) - (1 : Int)))))) :
                                                                    Int)))]]) +
                                                  (1 : Nat) ≤
                                                (9223372036854775807 : Nat)) then
                                        f28_L6 fu k1 k0 x0
                                          (IntKind.wrap IntKind.i64
                                            (IntKind.wrap IntKind.i64 (x5 + (1 : Int)) +
                                              annN
                                                (ByteArray.extract (ByteArray.extract x0 (Int.toNat x1) (Int.toNat x5)) (0 : Nat)
                                                  (Int.toNat (IntKind.wrap IntKind.i64 ((↑(ByteArray.size (ByteArray.extract x0 (Int.toNat x1) (Int.toNat x5))) : Int) - (1 : Int)))))))
                                          (IntKind.wrap IntKind.i64
                                            (x2 +
                                              (↑(ByteArray.size
                                                    (ByteArray.extract (ByteArray.extract x0 (Int.toNat x1) (Int.toNat x5)) (0 : Nat)
                                                      (Int.toNat (IntKind.wrap IntKind.i64 ((↑(ByteArray.size (ByteArray.extract x0 (Int.toNat x1) (Int.toNat x5))) : Int) - (1 : Int)))))) :
                                                Int)))
                                          (IntKind.wrap IntKind.i64 (x3 + (1 : Int))) x4 (x6 ++ [SV.agg [SV.int IntKind.i64 (1 : Int), SV.str (ByteArray.mk #[]), SV.lst (88 : Nat) []]])
                                          (x7 ++
                                              [SV.agg
                                                  [SV.bool false,
                                                    SV.str
                                                      (ByteArray.extract
                                                        (ByteArray.extract (ByteArray.extract x0 (Int.toNat x1) (Int.toNat x5)) (0 : Nat)
                                                          (Int.toNat (IntKind.wrap IntKind.i64 ((↑(ByteArray.size (ByteArray.extract x0 (Int.toNat x1) (Int.toNat x5))) : Int) - (1 : Int)))))
                                                        (0 : Nat)
                                                        (Int.toNat
                                                          (↑(annI
                                                                (ByteArray.extract (ByteArray.extract x0 (Int.toNat x1) (Int.toNat x5)) (0 : Nat)
                                                                  (Int.toNat (IntKind.wrap IntKind.i64 ((↑(ByteArray.size (ByteArray.extract x0 (Int.toNat x1) (Int.toNat x5))) : Int) - (1 : Int)))))) :
                                                            Int)))]] ++
                                            [SV.agg
                                                [SV.bool true,
                                                  SV.str
                                                    (ByteArray.extract x0 (Int.toNat (IntKind.wrap IntKind.i64 (x5 + (1 : Int))))
                                                      (Int.toNat
                                                        (IntKind.wrap IntKind.i64
                                                          (IntKind.wrap IntKind.i64 (x5 + (1 : Int)) +
                                                            annN
                                                              (ByteArray.extract (ByteArray.extract x0 (Int.toNat x1) (Int.toNat x5)) (0 : Nat)
                                                                (Int.toNat (IntKind.wrap IntKind.i64 ((↑(ByteArray.size (ByteArray.extract x0 (Int.toNat x1) (Int.toNat x5))) : Int) - (1 : Int)))))))))]])
                                      else none
                                    else none
                                else none
                        else none
                      else none
                    else none
                else none
              else
                bif decide (IntKind.wrap IntKind.i64 (x2 + (↑(ByteArray.size (ByteArray.extract x0 (Int.toNat x1) (Int.toNat x5))) : Int)) > (600 : Int)) then
                  bif decide ((↑(ByteArray.size (ByteArray.extract x0 (Int.toNat x1) (Int.toNat x5))) : Int) > (602 : Int)) then
                    bif decide ((602 : Int) ≤ (↑(ByteArray.size (ByteArray.extract x0 (Int.toNat x1) (Int.toNat x5))) : Int)) && true then
                      bif decide ((List.length x7 + (1 : Nat)) * (24 : Nat) ≤ (140737488355328 : Nat)) && decide (List.length x7 + (1 : Nat) ≤ (9223372036854775807 : Nat)) then
                        f28_L34 fu fu k0 x0 (IntKind.wrap IntKind.i64 (x5 + (1 : Int))) true false (0 : Int) x6
                          (x7 ++ [SV.agg [SV.bool false, SV.str (ByteArray.extract (ByteArray.extract x0 (Int.toNat x1) (Int.toNat x5)) (0 : Nat) (602 : Nat))]])
                      else none
                    else none
                  else
                    bif decide ((List.length x7 + (1 : Nat)) * (24 : Nat) ≤ (140737488355328 : Nat)) && decide (List.length x7 + (1 : Nat) ≤ (9223372036854775807 : Nat)) then
                      f28_L34 fu fu k0 x0 (IntKind.wrap IntKind.i64 (x5 + (1 : Int))) true false (0 : Int) x6 (x7 ++ [SV.agg [SV.bool false, SV.str (ByteArray.extract x0 (Int.toNat x1) (Int.toNat x5))]])
                    else none
                else
                  bif decide (ByteArray.size (ByteArray.extract x0 (Int.toNat x1) (Int.toNat x5)) < (4294967281 : Nat)) then
                    bif decide ((↑(annI (ByteArray.extract x0 (Int.toNat x1) (Int.toNat x5))) : Int) ≤ (↑(ByteArray.size (ByteArray.extract x0 (Int.toNat x1) (Int.toNat x5))) : Int)) && true then
                      bif decide ((List.length x7 + (1 : Nat)) * (24 : Nat) ≤ (140737488355328 : Nat)) && decide (List.length x7 + (1 : Nat) ≤ (9223372036854775807 : Nat)) then
                        bif decide (annN (ByteArray.extract x0 (Int.toNat x1) (Int.toNat x5)) < (0 : Int)) then
                          f28_L34 fu fu k0 x0 (IntKind.wrap IntKind.i64 (x5 + (1 : Int))) x4 false (0 : Int) x6
                            (x7 ++
                              [SV.agg
                                  [SV.bool false,
                                    SV.str (ByteArray.extract (ByteArray.extract x0 (Int.toNat x1) (Int.toNat x5)) (0 : Nat) (Int.toNat (↑(annI (ByteArray.extract x0 (Int.toNat x1) (Int.toNat x5))) : Int)))]])
                        else
                          bif decide (annN (ByteArray.extract x0 (Int.toNat x1) (Int.toNat x5)) > (4000 : Int)) then
                            f28_L34 fu fu k0 x0 (IntKind.wrap IntKind.i64 (x5 + (1 : Int))) true false (0 : Int) x6
                              (x7 ++
                                [SV.agg
                                    [SV.bool false,
                                      SV.str (ByteArray.extract (ByteArray.extract x0 (Int.toNat x1) (Int.toNat x5)) (0 : Nat) (Int.toNat (↑(annI (ByteArray.extract x0 (Int.toNat x1) (Int.toNat x5))) : Int)))]])
                          else
                            bif x3 == (4 : Int) then
                              f28_L34 fu fu k0 x0 (IntKind.wrap IntKind.i64 (x5 + (1 : Int))) true false (0 : Int) x6
                                (x7 ++
                                  [SV.agg
                                      [SV.bool false,
                                        SV.str (ByteArray.extract (ByteArray.extract x0 (Int.toNat x1) (Int.toNat x5)) (0 : Nat) (Int.toNat (↑(annI (ByteArray.extract x0 (Int.toNat x1) (Int.toNat x5))) : Int)))]])
                            else
                              bif decide ((List.length x6 + (1 : Nat)) * (48 : Nat) ≤ (140737488355328 : Nat)) && decide (List.length x6 + (1 : Nat) ≤ (9223372036854775807 : Nat)) then
                                bif decide (IntKind.wrap IntKind.i64 ((↑(ByteArray.size x0) : Int) - IntKind.wrap IntKind.i64 (x5 + (1 : Int))) < annN (ByteArray.extract x0 (Int.toNat x1) (Int.toNat x5))) then
                                  some
                                    (SV.tup
                                      [SV.lst (82 : Nat) (x6 ++ [SV.agg [SV.int IntKind.i64 (1 : Int), SV.str (ByteArray.mk #[]), SV.lst (88 : Nat) []]]),
                                        SV.int IntKind.i64
                                          (IntKind.wrap IntKind.i64
                                            (annN (ByteArray.extract x0 (Int.toNat x1) (Int.toNat x5)) - IntKind.wrap IntKind.i64 ((↑(ByteArray.size x0) : Int) - IntKind.wrap IntKind.i64 (x5 + (1 : Int)))))])
                                else
                                  bif
                                      decide ((0 : Int) ≤ IntKind.wrap IntKind.i64 (IntKind.wrap IntKind.i64 (x5 + (1 : Int)) + annN (ByteArray.extract x0 (Int.toNat x1) (Int.toNat x5)))) &&
                                          decide (IntKind.wrap IntKind.i64 (IntKind.wrap IntKind.i64 (x5 + (1 : Int)) + annN (ByteArray.extract x0 (Int.toNat x1) (Int.toNat x5))) ≤ (↑(ByteArray.size x0) : Int)) &&
                                        (decide ((0 : Int) ≤ IntKind.wrap IntKind.i64 (x5 + (1 : Int))) &&
                                          decide
                                            (IntKind.wrap IntKind.i64 (x5 + (1 : Int)) ≤
                                              IntKind.wrap IntKind.i64 (IntKind.wrap IntKind.i64 (x5 + (1 : Int)) + annN (ByteArray.extract x0 (Int.toNat x1) (Int.toNat x5))))) then
                                    bif
                                        decide
                                            ((List.length
                                                    (x7 ++
                                                      [SV.agg
                                                          [SV.bool false,
                                                            SV.str
                                                              (ByteArray.extract (ByteArray.extract x0 (Int.toNat x1) (Int.toNat x5)) (0 : Nat)
                                                                (Int.toNat (↑(annI (ByteArray.extract x0 (Int.toNat x1) (Int.toNat x5))) : Int)))]]) +
                                                  (1 : Nat)) *
                                                (24 : Nat) ≤
                                              (140737488355328 : Nat)) &&
                                          decide
                                            (List.length
                                                  (x7 ++
                                                    [SV.agg
                                                        [SV.bool false,
                                                          SV.str
                                                            (ByteArray.extract (ByteArray.extract x0 (Int.toNat x1) (Int.toNat x5)) (0 : Nat)
                                                              (Int.toNat (↑(annI (ByteArray.extract x0 (Int.toNat x1) (Int.toNat x5))) : Int)))]]) +
                                                (1 : Nat) ≤
                                              (9223372036854775807 : Nat)) then
                                      f28_L6 fu k1 k0 x0 (IntKind.wrap IntKind.i64 (IntKind.wrap IntKind.i64 (x5 + (1 : Int)) + annN (ByteArray.extract x0 (Int.toNat x1) (Int.toNat x5))))
                                        (IntKind.wrap IntKind.i64 (x2 + (↑(ByteArray.size (ByteArray.extract x0 (Int.toNat x1) (Int.toNat x5))) : Int))) (IntKind.wrap IntKind.i64 (x3 + (1 : Int))) x4
                                        (x6 ++ [SV.agg [SV.int IntKind.i64 (1 : Int), SV.str (ByteArray.mk #[]), SV.lst (88 : Nat) []]])
                                        (x7 ++
                                            [SV.agg
                                                [SV.bool false,
                                                  SV.str
                                                    (ByteArray.extract (ByteArray.extract x0 (Int.toNat x1) (Int.toNat x5)) (0 : Nat) (Int.toNat (↑(annI (ByteArray.extract x0 (Int.toNat x1) (Int.toNat x5))) : Int)))]] ++
                                          [SV.agg
                                              [SV.bool true,
                                                SV.str
                                                  (ByteArray.extract x0 (Int.toNat (IntKind.wrap IntKind.i64 (x5 + (1 : Int))))
                                                    (Int.toNat (IntKind.wrap IntKind.i64 (IntKind.wrap IntKind.i64 (x5 + (1 : Int)) + annN (ByteArray.extract x0 (Int.toNat x1) (Int.toNat x5))))))]])
                                    else none
                                  else none
                              else none
                      else none
                    else none
                  else none
            else none
          else
            bif decide (IntKind.wrap IntKind.i64 (x2 + (↑(ByteArray.size (ByteArray.extract x0 (Int.toNat x1) (Int.toNat x5))) : Int)) > (600 : Int)) then
              bif decide ((↑(ByteArray.size (ByteArray.extract x0 (Int.toNat x1) (Int.toNat x5))) : Int) > (602 : Int)) then
                bif decide ((602 : Int) ≤ (↑(ByteArray.size (ByteArray.extract x0 (Int.toNat x1) (Int.toNat x5))) : Int)) && true then
                  bif decide ((List.length x7 + (1 : Nat)) * (24 : Nat) ≤ (140737488355328 : Nat)) && decide (List.length x7 + (1 : Nat) ≤ (9223372036854775807 : Nat)) then
                    f28_L34 fu fu k0 x0 (IntKind.wrap IntKind.i64 (x5 + (1 : Int))) true false (0 : Int) x6
                      (x7 ++ [SV.agg [SV.bool false, SV.str (ByteArray.extract (ByteArray.extract x0 (Int.toNat x1) (Int.toNat x5)) (0 : Nat) (602 : Nat))]])
                  else none
                else none
              else
                bif decide ((List.length x7 + (1 : Nat)) * (24 : Nat) ≤ (140737488355328 : Nat)) && decide (List.length x7 + (1 : Nat) ≤ (9223372036854775807 : Nat)) then
                  f28_L34 fu fu k0 x0 (IntKind.wrap IntKind.i64 (x5 + (1 : Int))) true false (0 : Int) x6 (x7 ++ [SV.agg [SV.bool false, SV.str (ByteArray.extract x0 (Int.toNat x1) (Int.toNat x5))]])
                else none
            else
              bif decide (ByteArray.size (ByteArray.extract x0 (Int.toNat x1) (Int.toNat x5)) < (4294967281 : Nat)) then
                bif decide ((↑(annI (ByteArray.extract x0 (Int.toNat x1) (Int.toNat x5))) : Int) ≤ (↑(ByteArray.size (ByteArray.extract x0 (Int.toNat x1) (Int.toNat x5))) : Int)) && true then
                  bif decide ((List.length x7 + (1 : Nat)) * (24 : Nat) ≤ (140737488355328 : Nat)) && decide (List.length x7 + (1 : Nat) ≤ (9223372036854775807 : Nat)) then
                    bif decide (annN (ByteArray.extract x0 (Int.toNat x1) (Int.toNat x5)) < (0 : Int)) then
                      f28_L34 fu fu k0 x0 (IntKind.wrap IntKind.i64 (x5 + (1 : Int))) x4 false (0 : Int) x6
                        (x7 ++
                          [SV.agg
                              [SV.bool false, SV.str (ByteArray.extract (ByteArray.extract x0 (Int.toNat x1) (Int.toNat x5)) (0 : Nat) (Int.toNat (↑(annI (ByteArray.extract x0 (Int.toNat x1) (Int.toNat x5))) : Int)))]])
                    else
                      bif decide (annN (ByteArray.extract x0 (Int.toNat x1) (Int.toNat x5)) > (4000 : Int)) then
                        f28_L34 fu fu k0 x0 (IntKind.wrap IntKind.i64 (x5 + (1 : Int))) true false (0 : Int) x6
                          (x7 ++
                            [SV.agg
                                [SV.bool false,
                                  SV.str (ByteArray.extract (ByteArray.extract x0 (Int.toNat x1) (Int.toNat x5)) (0 : Nat) (Int.toNat (↑(annI (ByteArray.extract x0 (Int.toNat x1) (Int.toNat x5))) : Int)))]])
                      else
                        bif x3 == (4 : Int) then
                          f28_L34 fu fu k0 x0 (IntKind.wrap IntKind.i64 (x5 + (1 : Int))) true false (0 : Int) x6
                            (x7 ++
                              [SV.agg
                                  [SV.bool false,
                                    SV.str (ByteArray.extract (ByteArray.extract x0 (Int.toNat x1) (Int.toNat x5)) (0 : Nat) (Int.toNat (↑(annI (ByteArray.extract x0 (Int.toNat x1) (Int.toNat x5))) : Int)))]])
                        else
                          bif decide ((List.length x6 + (1 : Nat)) * (48 : Nat) ≤ (140737488355328 : Nat)) && decide (List.length x6 + (1 : Nat) ≤ (9223372036854775807 : Nat)) then
                            bif decide (IntKind.wrap IntKind.i64 ((↑(ByteArray.size x0) : Int) - IntKind.wrap IntKind.i64 (x5 + (1 : Int))) < annN (ByteArray.extract x0 (Int.toNat x1) (Int.toNat x5))) then
                              some
                                (SV.tup
                                  [SV.lst (82 : Nat) (x6 ++ [SV.agg [SV.int IntKind.i64 (1 : Int), SV.str (ByteArray.mk #[]), SV.lst (88 : Nat) []]]),
                                    SV.int IntKind.i64
                                      (IntKind.wrap IntKind.i64
                                        (annN (ByteArray.extract x0 (Int.toNat x1) (Int.toNat x5)) - IntKind.wrap IntKind.i64 ((↑(ByteArray.size x0) : Int) - IntKind.wrap IntKind.i64 (x5 + (1 : Int)))))])
                            else
                              bif
                                  decide ((0 : Int) ≤ IntKind.wrap IntKind.i64 (IntKind.wrap IntKind.i64 (x5 + (1 : Int)) + annN (ByteArray.extract x0 (Int.toNat x1) (Int.toNat x5)))) &&
                                      decide (IntKind.wrap IntKind.i64 (IntKind.wrap IntKind.i64 (x5 + (1 : Int)) + annN (ByteArray.extract x0 (Int.toNat x1) (Int.toNat x5))) ≤ (↑(ByteArray.size x0) : Int)) &&
                                    (decide ((0 : Int) ≤ IntKind.wrap IntKind.i64 (x5 + (1 : Int))) &&
                                      decide
                                        (IntKind.wrap IntKind.i64 (x5 + (1 : Int)) ≤ IntKind.wrap IntKind.i64 (IntKind.wrap IntKind.i64 (x5 + (1 : Int)) + annN (ByteArray.extract x0 (Int.toNat x1) (Int.toNat x5))))) then
                                bif
                                    decide
                                        ((List.length
                                                (x7 ++
                                                  [SV.agg
                                                      [SV.bool false,
                                                        SV.str
                                                          (ByteArray.extract (ByteArray.extract x0 (Int.toNat x1) (Int.toNat x5)) (0 : Nat)
                                                            (Int.toNat (↑(annI (ByteArray.extract x0 (Int.toNat x1) (Int.toNat x5))) : Int)))]]) +
                                              (1 : Nat)) *
                                            (24 : Nat) ≤
                                          (140737488355328 : Nat)) &&
                                      decide
                                        (List.length
                                              (x7 ++
                                                [SV.agg
                                                    [SV.bool false,
                                                      SV.str
                                                        (ByteArray.extract (ByteArray.extract x0 (Int.toNat x1) (Int.toNat x5)) (0 : Nat)
                                                          (Int.toNat (↑(annI (ByteArray.extract x0 (Int.toNat x1) (Int.toNat x5))) : Int)))]]) +
                                            (1 : Nat) ≤
                                          (9223372036854775807 : Nat)) then
                                  f28_L6 fu k1 k0 x0 (IntKind.wrap IntKind.i64 (IntKind.wrap IntKind.i64 (x5 + (1 : Int)) + annN (ByteArray.extract x0 (Int.toNat x1) (Int.toNat x5))))
                                    (IntKind.wrap IntKind.i64 (x2 + (↑(ByteArray.size (ByteArray.extract x0 (Int.toNat x1) (Int.toNat x5))) : Int))) (IntKind.wrap IntKind.i64 (x3 + (1 : Int))) x4
                                    (x6 ++ [SV.agg [SV.int IntKind.i64 (1 : Int), SV.str (ByteArray.mk #[]), SV.lst (88 : Nat) []]])
                                    (x7 ++
                                        [SV.agg
                                            [SV.bool false,
                                              SV.str
                                                (ByteArray.extract (ByteArray.extract x0 (Int.toNat x1) (Int.toNat x5)) (0 : Nat) (Int.toNat (↑(annI (ByteArray.extract x0 (Int.toNat x1) (Int.toNat x5))) : Int)))]] ++
                                      [SV.agg
                                          [SV.bool true,
                                            SV.str
                                              (ByteArray.extract x0 (Int.toNat (IntKind.wrap IntKind.i64 (x5 + (1 : Int))))
                                                (Int.toNat (IntKind.wrap IntKind.i64 (IntKind.wrap IntKind.i64 (x5 + (1 : Int)) + annN (ByteArray.extract x0 (Int.toNat x1) (Int.toNat x5))))))]])
                                else none
                              else none
                          else none
                  else none
                else none
              else none
        else none
  else none
  else
  bif x5 == (↑(ByteArray.size x0) : Int) then some (SV.tup [SV.lst (82 : Nat) x6, SV.int IntKind.i64 (0 : Int)])
  else
    bif decide ((0 : Int) ≤ x5) && decide (x5 ≤ (↑(ByteArray.size x0) : Int)) && (decide ((0 : Int) ≤ x1) && decide (x1 ≤ x5)) then
      bif decide ((↑(ByteArray.size (ByteArray.extract x0 (Int.toNat x1) (Int.toNat x5))) : Int) > (0 : Int)) then
        bif
            decide ((0 : Int) ≤ IntKind.wrap IntKind.i64 ((↑(ByteArray.size (ByteArray.extract x0 (Int.toNat x1) (Int.toNat x5))) : Int) - (1 : Int))) &&
              decide
                (IntKind.wrap IntKind.i64 ((↑(ByteArray.size (ByteArray.extract x0 (Int.toNat x1) (Int.toNat x5))) : Int) - (1 : Int)) <
                  (↑(ByteArray.size (ByteArray.extract x0 (Int.toNat x1) (Int.toNat x5))) : Int)) then
          bif bAt (ByteArray.extract x0 (Int.toNat x1) (Int.toNat x5)) (IntKind.wrap IntKind.i64 ((↑(ByteArray.size (ByteArray.extract x0 (Int.toNat x1) (Int.toNat x5))) : Int) - (1 : Int))) == (13 : Int) then
            bif
                decide ((0 : Int) ≤ IntKind.wrap IntKind.i64 ((↑(ByteArray.size (ByteArray.extract x0 (Int.toNat x1) (Int.toNat x5))) : Int) - (1 : Int))) &&
                    decide
                      (IntKind.wrap IntKind.i64 ((↑(ByteArray.size (ByteArray.extract x0 (Int.toNat x1) (Int.toNat x5))) : Int) - (1 : Int)) ≤
                        (↑(ByteArray.size (ByteArray.extract x0 (Int.toNat x1) (Int.toNat x5))) : Int)) &&
                  true then
              bif
                  decide
                    (IntKind.wrap IntKind.i64
                        (x2 +
                          (↑(ByteArray.size
                                (ByteArray.extract (ByteArray.extract x0 (Int.toNat x1) (Int.toNat x5)) (0 : Nat)
                                  (Int.toNat (IntKind.wrap IntKind.i64 ((↑(ByteArray.size (ByteArray.extract x0 (Int.toNat x1) (Int.toNat x5))) : Int) - (1 : Int)))))) :
                            Int)) >
                      (600 : Int)) then
                bif
                    decide
                      ((↑(ByteArray.size
                              (ByteArray.extract (ByteArray.extract x0 (Int.toNat x1) (Int.toNat x5)) (0 : Nat)
                                (Int.toNat (IntKind.wrap IntKind.i64 ((↑(ByteArray.size (ByteArray.extract x0 (Int.toNat x1) (Int.toNat x5))) : Int) - (1 : Int)))))) :
                          Int) >
                        (602 : Int)) then
                  bif
                      decide
                          ((602 : Int) ≤
                            (↑(ByteArray.size
                                  (ByteArray.extract (ByteArray.extract x0 (Int.toNat x1) (Int.toNat x5)) (0 : Nat)
                                    (Int.toNat (IntKind.wrap IntKind.i64 ((↑(ByteArray.size (ByteArray.extract x0 (Int.toNat x1) (Int.toNat x5))) : Int) - (1 : Int)))))) :
                              Int)) &&
                        true then
                    bif decide ((List.length x7 + (1 : Nat)) * (24 : Nat) ≤ (140737488355328 : Nat)) && decide (List.length x7 + (1 : Nat) ≤ (9223372036854775807 : Nat)) then
                      f28_L34 fu fu k0 x0 (IntKind.wrap IntKind.i64 (x5 + (1 : Int))) true false (0 : Int) x6
                        (x7 ++
                          [SV.agg
                              [SV.bool false,
                                SV.str
                                  (ByteArray.extract
                                    (ByteArray.extract (ByteArray.extract x0 (Int.toNat x1) (Int.toNat x5)) (0 : Nat)
                                      (Int.toNat (IntKind.wrap IntKind.i64 ((↑(ByteArray.size (ByteArray.extract x0 (Int.toNat x1) (Int.toNat x5))) : Int) - (1 : Int)))))
                                    (0 : Nat) (602 : Nat))]])
                    else none
                  else none
                else
                  bif decide ((List.length x7 + (1 : Nat)) * (24 : Nat) ≤ (140737488355328 : Nat)) && decide (List.length x7 + (1 : Nat) ≤ (9223372036854775807 : Nat)) then
                    f28_L34 fu fu k0 x0 (IntKind.wrap IntKind.i64 (x5 + (1 : Int))) true false (0 : Int) x6
                      (x7 ++
                        [SV.agg
                            [SV.bool false,
                              SV.str
                                (ByteArray.extract (ByteArray.extract x0 (Int.toNat x1) (Int.toNat x5)) (0 : Nat)
                                  (Int.toNat (IntKind.wrap IntKind.i64 ((↑(ByteArray.size (ByteArray.extract x0 (Int.toNat x1) (Int.toNat x5))) : Int) - (1 : Int)))))]])
                  else none
              else
                bif
                    decide
                      (ByteArray.size
                          (ByteArray.extract (ByteArray.extract x0 (Int.toNat x1) (Int.toNat x5)) (0 : Nat)
                            (Int.toNat (IntKind.wrap IntKind.i64 ((↑(ByteArray.size (ByteArray.extract x0 (Int.toNat x1) (Int.toNat x5))) : Int) - (1 : Int))))) <
                        (4294967281 : Nat)) then
                  bif
                      decide
                          ((↑(annI
                                  (ByteArray.extract (ByteArray.extract x0 (Int.toNat x1) (Int.toNat x5)) (0 : Nat)
                                    (Int.toNat (IntKind.wrap IntKind.i64 ((↑(ByteArray.size (ByteArray.extract x0 (Int.toNat x1) (Int.toNat x5))) : Int) - (1 : Int)))))) :
                              Int) ≤
                            (↑(ByteArray.size
                                  (ByteArray.extract (ByteArray.extract x0 (Int.toNat x1) (Int.toNat x5)) (0 : Nat)
                                    (Int.toNat (IntKind.wrap IntKind.i64 ((↑(ByteArray.size (ByteArray.extract x0 (Int.toNat x1) (Int.toNat x5))) : Int) - (1 : Int)))))) :
                              Int)) &&
                        true then
                    bif decide ((List.length x7 + (1 : Nat)) * (24 : Nat) ≤ (140737488355328 : Nat)) && decide (List.length x7 + (1 : Nat) ≤ (9223372036854775807 : Nat)) then
                      bif
                          decide
                            (annN
                                (ByteArray.extract (ByteArray.extract x0 (Int.toNat x1) (Int.toNat x5)) (0 : Nat)
                                  (Int.toNat (IntKind.wrap IntKind.i64 ((↑(ByteArray.size (ByteArray.extract x0 (Int.toNat x1) (Int.toNat x5))) : Int) - (1 : Int))))) <
                              (0 : Int)) then
                        f28_L34 fu fu k0 x0 (IntKind.wrap IntKind.i64 (x5 + (1 : Int))) x4 false (0 : Int) x6
                          (x7 ++
                            [SV.agg
                                [SV.bool false,
                                  SV.str
                                    (ByteArray.extract
                                      (ByteArray.extract (ByteArray.extract x0 (Int.toNat x1) (Int.toNat x5)) (0 : Nat)
                                        (Int.toNat (IntKind.wrap IntKind.i64 ((↑(ByteArray.size (ByteArray.extract x0 (Int.toNat x1) (Int.toNat x5))) : Int) - (1 : Int)))))
                                      (0 : Nat)
                                      (Int.toNat
                                        (↑(annI
                                              (ByteArray.extract (ByteArray.extract x0 (Int.toNat x1) (Int.toNat x5)) (0 : Nat)
                                                (Int.toNat (IntKind.wrap IntKind.i64 ((↑(ByteArray.size (ByteArray.extract x0 (Int.toNat x1) (Int.toNat x5))) : Int) - (1 : Int)))))) :
                                          Int)))]])
                      else
                        bif
                            decide
                              (annN
                                  (ByteArray.extract (ByteArray.extract x0 (Int.toNat x1) (Int.toNat x5)) (0 : Nat)
                                    (Int.toNat (IntKind.wrap IntKind.i64 ((↑(ByteArray.size (ByteArray.extract x0 (Int.toNat x1) (Int.toNat x5))) : Int) - (1 : Int))))) >
                                (4000 : Int)) then
                          f28_L34 fu fu k0 x0 (IntKind.wrap IntKind.i64 (x5 + (1 : Int))) true false (0 : Int) x6
                            (x7 ++
                              [SV.agg
                                  [SV.bool false,
                                    SV.str
                                      (ByteArray.extract
                                        (ByteArray.extract (ByteArray.extract x0 (Int.toNat x1) (Int.toNat x5)) (0 : Nat)
                                          (Int.toNat (IntKind.wrap IntKind.i64 ((↑(ByteArray.size (ByteArray.extract x0 (Int.toNat x1) (Int.toNat x5))) : Int) - (1 : Int)))))
                                        (0 : Nat)
                                        (Int.toNat
                                          (↑(annI
                                                (ByteArray.extract (ByteArray.extract x0 (Int.toNat x1) (Int.toNat x5)) (0 : Nat)
                                                  (Int.toNat (IntKind.wrap IntKind.i64 ((↑(ByteArray.size (ByteArray.extract x0 (Int.toNat x1) (Int.toNat x5))) : Int) - (1 : Int)))))) :
                                            Int)))]])
                        else
                          bif x3 == (4 : Int) then
                            f28_L34 fu fu k0 x0 (IntKind.wrap IntKind.i64 (x5 + (1 : Int))) true false (0 : Int) x6
                              (x7 ++
                                [SV.agg
                                    [SV.bool false,
                                      SV.str
                                        (ByteArray.extract
                                          (ByteArray.extract (ByteArray.extract x0 (Int.toNat x1) (Int.toNat x5)) (0 : Nat)
                                            (Int.toNat (IntKind.wrap IntKind.i64 ((↑(ByteArray.size (ByteArray.extract x0 (Int.toNat x1) (Int.toNat x5))) : Int) - (1 : Int)))))
                                          (0 : Nat)
                                          (Int.toNat
                                            (↑(annI
                                                  (ByteArray.extract (ByteArray.extract x0 (Int.toNat x1) (Int.toNat x5)) (0 : Nat)
                                                    (Int.toNat (IntKind.wrap IntKind.i64 ((↑(ByteArray.size (ByteArray.extract x0 (Int.toNat x1) (Int.toNat x5))) : Int) - (1 : Int)))))) :
                                              Int)))]])
                          else
                            bif decide ((List.length x6 + (1 : Nat)) * (48 : Nat) ≤ (140737488355328 : Nat)) && decide (List.length x6 + (1 : Nat) ≤ (9223372036854775807 : Nat)) then
                              bif
                                  decide
                                    (IntKind.wrap IntKind.i64 ((↑(ByteArray.size x0) : Int) - IntKind.wrap IntKind.i64 (x5 + (1 : Int))) <
                                      annN
                                        (ByteArray.extract (ByteArray.extract x0 (Int.toNat x1) (Int.toNat x5)) (0 : Nat)
                                          (Int.toNat (IntKind.wrap IntKind.i64 ((↑(ByteArray.size (ByteArray.extract x0 (Int.toNat x1) (Int.toNat x5))) : Int) - (1 : Int)))))) then
                                some
                                  (SV.tup
                                    [SV.lst (82 : Nat) (x6 ++ [SV.agg [SV.int IntKind.i64 (1 : Int), SV.str (ByteArray.mk #[]), SV.lst (88 : Nat) []]]),
                                      SV.int IntKind.i64
                                        (IntKind.wrap IntKind.i64
                                          (annN
                                              (ByteArray.extract (ByteArray.extract x0 (Int.toNat x1) (Int.toNat x5)) (0 : Nat)
                                                (Int.toNat (IntKind.wrap IntKind.i64 ((↑(ByteArray.size (ByteArray.extract x0 (Int.toNat x1) (Int.toNat x5))) : Int) - (1 : Int))))) -
                                            IntKind.wrap IntKind.i64 ((↑(ByteArray.size x0) : Int) - IntKind.wrap IntKind.i64 (x5 + (1 : Int)))))])
                              else
                                bif
                                    decide
                                          ((0 : Int) ≤
                                            IntKind.wrap IntKind.i64
                                              (IntKind.wrap IntKind.i64 (x5 + (1 : Int)) +
                                                annN
                                                  (ByteArray.extract (ByteArray.extract x0 (Int.toNat x1) (Int.toNat x5)) (0 : Nat)
                                                    (Int.toNat (IntKind.wrap IntKind.i64 ((↑(ByteArray.size (ByteArray.extract x0 (Int.toNat x1) (Int.toNat x5))) : Int) - (1 : Int))))))) &&
                                        decide
                                          (IntKind.wrap IntKind.i64
                                              (IntKind.wrap IntKind.i64 (x5 + (1 : Int)) +
                                                annN
                                                  (ByteArray.extract (ByteArray.extract x0 (Int.toNat x1) (Int.toNat x5)) (0 : Nat)
                                                    (Int.toNat (IntKind.wrap IntKind.i64 ((↑(ByteArray.size (ByteArray.extract x0 (Int.toNat x1) (Int.toNat x5))) : Int) - (1 : Int)))))) ≤
                                            (↑(ByteArray.size x0) : Int)) &&
                                      (decide ((0 : Int) ≤ IntKind.wrap IntKind.i64 (x5 + (1 : Int))) &&
                                        decide
                                          (IntKind.wrap IntKind.i64 (x5 + (1 : Int)) ≤
                                            IntKind.wrap IntKind.i64
                                              (IntKind.wrap IntKind.i64 (x5 + (1 : Int)) +
                                                annN
                                                  (ByteArray.extract (ByteArray.extract x0 (Int.toNat x1) (Int.toNat x5)) (0 : Nat)
                                                    (Int.toNat (IntKind.wrap IntKind.i64 ((↑(ByteArray.size (ByteArray.extract x0 (Int.toNat x1) (Int.toNat x5))) : Int) - (1 : Int)))))))) then
                                  bif
                                      decide
                                          ((List.length
                                                  (x7 ++
                                                    [SV.agg
                                                        [SV.bool false,
                                                          SV.str
                                                            (ByteArray.extract
                                                              (ByteArray.extract (ByteArray.extract x0 (Int.toNat x1) (Int.toNat x5)) (0 : Nat)
                                                                (Int.toNat (IntKind.wrap IntKind.i64 ((↑(ByteArray.size (ByteArray.extract x0 (Int.toNat x1) (Int.toNat x5))) : Int) - (1 : Int)))))
                                                              (0 : Nat)
                                                              (Int.toNat
                                                                (↑(annI
                                                                      (ByteArray.extract (ByteArray.extract x0 (Int.toNat x1) (Int.toNat x5)) (0 : Nat)
                                                                        (Int.toNat (IntKind.wrap IntKind.i64 ((↑(ByteArray.size (ByteArray.extract x0 (Int.toNat x1) (Int.toNat x5))) : Int) - (1 : Int)))))) :
                                                                  Int)))]]) +
                                                (1 : Nat)) *
                                              (24 : Nat) ≤
                                            (140737488355328 : Nat)) &&
                                        decide
                                          (List.length
                                                (x7 ++
                                                  [SV.agg
                                                      [SV.bool false,
                                                        SV.str
                                                          (ByteArray.extract
                                                            (ByteArray.extract (ByteArray.extract x0 (Int.toNat x1) (Int.toNat x5)) (0 : Nat)
                                                              (Int.toNat (IntKind.wrap IntKind.i64 ((↑(ByteArray.size (ByteArray.extract x0 (Int.toNat x1) (Int.toNat x5))) : Int) - (1 : Int)))))
                                                            (0 : Nat)
                                                            (Int.toNat
                                                              (↑(annI
                                                                    (ByteArray.extract (ByteArray.extract x0 (Int.toNat x1) (Int.toNat x5)) (0 : Nat)
                                                                      (Int.toNat (IntKind.wrap IntKind.i64 ((↑(ByteArray.size (ByteArray.extract x0 (Int.toNat x1) (Int.toNat x5))) : Int) - (1 : Int)))))) :
                                                                Int)))]]) +
                                              (1 : Nat) ≤
                                            (9223372036854775807 : Nat)) then
                                    f28_L6 fu k1 k0 x0
                                      (IntKind.wrap IntKind.i64
                                        (IntKind.wrap IntKind.i64 (x5 + (1 : Int)) +
                                          annN
                                            (ByteArray.extract (ByteArray.extract x0 (Int.toNat x1) (Int.toNat x5)) (0 : Nat)
                                              (Int.toNat (IntKind.wrap IntKind.i64 ((↑(ByteArray.size (ByteArray.extract x0 (Int.toNat x1) (Int.toNat x5))) : Int) - (1 : Int)))))))
                                      (IntKind.wrap IntKind.i64
                                        (x2 +
                                          (↑(ByteArray.size
                                                (ByteArray.extract (ByteArray.extract x0 (Int.toNat x1) (Int.toNat x5)) (0 : Nat)
                                                  (Int.toNat (IntKind.wrap IntKind.i64 ((↑(ByteArray.size (ByteArray.extract x0 (Int.toNat x1) (Int.toNat x5))) : Int) - (1 : Int)))))) :
                                            Int)))
                                      (IntKind.wrap IntKind.i64 (x3 + (1 : Int))) x4 (x6 ++ [SV.agg [SV.int IntKind.i64 (1 : Int), SV.str (ByteArray.mk #[]), SV.lst (88 : Nat) []]])
                                      (x7 ++
                                          [SV.agg
                                              [SV.bool false,
                                                SV.str
                                                  (ByteArray.extract
                                                    (ByteArray.extract (ByteArray.extract x0 (Int.toNat x1) (Int.toNat x5)) (0 : Nat)
                                                      (Int.toNat (IntKind.wrap IntKind.i64 ((↑(ByteArray.size (ByteArray.extract x0 (Int.toNat x1) (Int.toNat x5))) : Int) - (1 : Int)))))
                                                    (0 : Nat)
                                                    (Int.toNat
                                                      (↑(annI
                                                            (ByteArray.extract (ByteArray.extract x0 (Int.toNat x1) (Int.toNat x5)) (0 : Nat)
                                                              (Int.toNat (IntKind.wrap IntKind.i64 ((↑(ByteArray.size (ByteArray.extract x0 (Int.toNat x1) (Int.toNat x5))) : Int) - (1 : Int)))))) :
                                                        Int)))]] ++
                                        [SV.agg
                                            [SV.bool true,
                                              SV.str
                                                (ByteArray.extract x0 (Int.toNat (IntKind.wrap IntKind.i64 (x5 + (1 : Int))))
                                                  (Int.toNat
                                                    (IntKind.wrap IntKind.i64
                                                      (IntKind.wrap IntKind.i64 (x5 + (1 : Int)) +
                                                        annN
                                                          (ByteArray.extract (ByteArray.extract x0 (Int.toNat x1) (Int.toNat x5)) (0 : Nat)
                                                            (Int.toNat (IntKind.wrap IntKind.i64 ((↑(ByteArray.size (ByteArray.extract x0 (Int.toNat x1) (Int.toNat x5))) : Int) - (1 : Int)))))))))]])
                                  else none
                                else none
                            else none
                    else none
                  else none
                else none
            else none
          else
            bif decide (IntKind.wrap IntKind.i64 (x2 + (↑(ByteArray.size (ByteArray.extract x0 (Int.toNat x1) (Int.toNat x5))) : Int)) > (600 : Int)) then
              bif decide ((↑(ByteArray.size (ByteArray.extract x0 (Int.toNat x1) (Int.toNat x5))) : Int) > (602 : Int)) then
                bif decide ((602 : Int) ≤ (↑(ByteArray.size (ByteArray.extract x0 (Int.toNat x1) (Int.toNat x5))) : Int)) && true then
                  bif decide ((List.length x7 + (1 : Nat)) * (24 : Nat) ≤ (140737488355328 : Nat)) && decide (List.length x7 + (1 : Nat) ≤ (9223372036854775807 : Nat)) then
                    f28_L34 fu fu k0 x0 (IntKind.wrap IntKind.i64 (x5 + (1 : Int))) true false (0 : Int) x6
                      (x7 ++ [SV.agg [SV.bool false, SV.str (ByteArray.extract (ByteArray.extract x0 (Int.toNat x1) (Int.toNat x5)) (0 : Nat) (602 : Nat))]])
                  else none
                else none
              else
                bif decide ((List.length x7 + (1 : Nat)) * (24 : Nat) ≤ (140737488355328 : Nat)) && decide (List.length x7 + (1 : Nat) ≤ (9223372036854775807 : Nat)) then
                  f28_L34 fu fu k0 x0 (IntKind.wrap IntKind.i64 (x5 + (1 : Int))) true false (0 : Int) x6 (x7 ++ [SV.agg [SV.bool false, SV.str (ByteArray.extract x0 (Int.toNat x1) (Int.toNat x5))]])
                else none
            else
              bif decide (ByteArray.size (ByteArray.extract x0 (Int.toNat x1) (Int.toNat x5)) < (4294967281 : Nat)) then
                bif decide ((↑(annI (ByteArray.extract x0 (Int.toNat x1) (Int.toNat x5))) : Int) ≤ (↑(ByteArray.size (ByteArray.extract x0 (Int.toNat x1) (Int.toNat x5))) : Int)) && true then
                  bif decide ((List.length x7 + (1 : Nat)) * (24 : Nat) ≤ (140737488355328 : Nat)) && decide (List.length x7 + (1 : Nat) ≤ (9223372036854775807 : Nat)) then
                    bif decide (annN (ByteArray.extract x0 (Int.toNat x1) (Int.toNat x5)) < (0 : Int)) then
                      f28_L34 fu fu k0 x0 (IntKind.wrap IntKind.i64 (x5 + (1 : Int))) x4 false (0 : Int) x6
                        (x7 ++
                          [SV.agg
                              [SV.bool false, SV.str (ByteArray.extract (ByteArray.extract x0 (Int.toNat x1) (Int.toNat x5)) (0 : Nat) (Int.toNat (↑(annI (ByteArray.extract x0 (Int.toNat x1) (Int.toNat x5))) : Int)))]])
                    else
                      bif decide (annN (ByteArray.extract x0 (Int.toNat x1) (Int.toNat x5)) > (4000 : Int)) then
                        f28_L34 fu fu k0 x0 (IntKind.wrap IntKind.i64 (x5 + (1 : Int))) true false (0 : Int) x6
                          (x7 ++
                            [SV.agg
                                [SV.bool false,
                                  SV.str (ByteArray.extract (ByteArray.extract x0 (Int.toNat x1) (Int.toNat x5)) (0 : Nat) (Int.toNat (↑(annI (ByteArray.extract x0 (Int.toNat x1) (Int.toNat x5))) : Int)))]])
                      else
                        bif x3 == (4 : Int) then
                          f28_L34 fu fu k0 x0 (IntKind.wrap IntKind.i64 (x5 + (1 : Int))) true false (0 : Int) x6
                            (x7 ++
                              [SV.agg
                                  [SV.bool false,
                                    SV.str (ByteArray.extract (ByteArray.extract x0 (Int.toNat x1) (Int.toNat x5)) (0 : Nat) (Int.toNat (↑(annI (ByteArray.extract x0 (Int.toNat x1) (Int.toNat x5))) : Int)))]])
                        else
                          bif decide ((List.length x6 + (1 : Nat)) * (48 : Nat) ≤ (140737488355328 : Nat)) && decide (List.length x6 + (1 : Nat) ≤ (9223372036854775807 : Nat)) then
                            bif decide (IntKind.wrap IntKind.i64 ((↑(ByteArray.size x0) : Int) - IntKind.wrap IntKind.i64 (x5 + (1 : Int))) < annN (ByteArray.extract x0 (Int.toNat x1) (Int.toNat x5))) then
                              some
                                (SV.tup
                                  [SV.lst (82 : Nat) (x6 ++ [SV.agg [SV.int IntKind.i64 (1 : Int), SV.str (ByteArray.mk #[]), SV.lst (88 : Nat) []]]),
                                    SV.int IntKind.i64
                                      (IntKind.wrap IntKind.i64
                                        (annN (ByteArray.extract x0 (Int.toNat x1) (Int.toNat x5)) - IntKind.wrap IntKind.i64 ((↑(ByteArray.size x0) : Int) - IntKind.wrap IntKind.i64 (x5 + (1 : Int)))))])
                            else
                              bif
                                  decide ((0 : Int) ≤ IntKind.wrap IntKind.i64 (IntKind.wrap IntKind.i64 (x5 + (1 : Int)) + annN (ByteArray.extract x0 (Int.toNat x1) (Int.toNat x5)))) &&
                                      decide (IntKind.wrap IntKind.i64 (IntKind.wrap IntKind.i64 (x5 + (1 : Int)) + annN (ByteArray.extract x0 (Int.toNat x1) (Int.toNat x5))) ≤ (↑(ByteArray.size x0) : Int)) &&
                                    (decide ((0 : Int) ≤ IntKind.wrap IntKind.i64 (x5 + (1 : Int))) &&
                                      decide
                                        (IntKind.wrap IntKind.i64 (x5 + (1 : Int)) ≤ IntKind.wrap IntKind.i64 (IntKind.wrap IntKind.i64 (x5 + (1 : Int)) + annN (ByteArray.extract x0 (Int.toNat x1) (Int.toNat x5))))) then
                                bif
                                    decide
                                        ((List.length
                                                (x7 ++
                                                  [SV.agg
                                                      [SV.bool false,
                                                        SV.str
                                                          (ByteArray.extract (ByteArray.extract x0 (Int.toNat x1) (Int.toNat x5)) (0 : Nat)
                                                            (Int.toNat (↑(annI (ByteArray.extract x0 (Int.toNat x1) (Int.toNat x5))) : Int)))]]) +
                                              (1 : Nat)) *
                                            (24 : Nat) ≤
                                          (140737488355328 : Nat)) &&
                                      decide
                                        (List.length
                                              (x7 ++
                                                [SV.agg
                                                    [SV.bool false,
                                                      SV.str
                                                        (ByteArray.extract (ByteArray.extract x0 (Int.toNat x1) (Int.toNat x5)) (0 : Nat)
                                                          (Int.toNat (↑(annI (ByteArray.extract x0 (Int.toNat x1) (Int.toNat x5))) : Int)))]]) +
                                            (1 : Nat) ≤
                                          (9223372036854775807 : Nat)) then
                                  f28_L6 fu k1 k0 x0 (IntKind.wrap IntKind.i64 (IntKind.wrap IntKind.i64 (x5 + (1 : Int)) + annN (ByteArray.extract x0 (Int.toNat x1) (Int.toNat x5))))
                                    (IntKind.wrap IntKind.i64 (x2 + (↑(ByteArray.size (ByteArray.extract x0 (Int.toNat x1) (Int.toNat x5))) : Int))) (IntKind.wrap IntKind.i64 (x3 + (1 : Int))) x4
                                    (x6 ++ [SV.agg [SV.int IntKind.i64 (1 : Int), SV.str (ByteArray.mk #[]), SV.lst (88 : Nat) []]])
                                    (x7 ++
                                        [SV.agg
                                            [SV.bool false,
                                              SV.str
                                                (ByteArray.extract (ByteArray.extract x0 (Int.toNat x1) (Int.toNat x5)) (0 : Nat) (Int.toNat (↑(annI (ByteArray.extract x0 (Int.toNat x1) (Int.toNat x5))) : Int)))]] ++
                                      [SV.agg
                                          [SV.bool true,
                                            SV.str
                                              (ByteArray.extract x0 (Int.toNat (IntKind.wrap IntKind.i64 (x5 + (1 : Int))))
                                                (Int.toNat (IntKind.wrap IntKind.i64 (IntKind.wrap IntKind.i64 (x5 + (1 : Int)) + annN (ByteArray.extract x0 (Int.toNat x1) (Int.toNat x5))))))]])
                                else none
                              else none
                          else none
                  else none
                else none
              else none
        else none
      else
        bif decide (IntKind.wrap IntKind.i64 (x2 + (↑(ByteArray.size (ByteArray.extract x0 (Int.toNat x1) (Int.toNat x5))) : Int)) > (600 : Int)) then
          bif decide ((↑(ByteArray.size (ByteArray.extract x0 (Int.toNat x1) (Int.toNat x5))) : Int) > (602 : Int)) then
            bif decide ((602 : Int) ≤ (↑(ByteArray.size (ByteArray.extract x0 (Int.toNat x1) (Int.toNat x5))) : Int)) && true then
              bif decide ((List.length x7 + (1 : Nat)) * (24 : Nat) ≤ (140737488355328 : Nat)) && decide (List.length x7 + (1 : Nat) ≤ (9223372036854775807 : Nat)) then
                f28_L34 fu fu k0 x0 (IntKind.wrap IntKind.i64 (x5 + (1 : Int))) true false (0 : Int) x6
                  (x7 ++ [SV.agg [SV.bool false, SV.str (ByteArray.extract (ByteArray.extract x0 (Int.toNat x1) (Int.toNat x5)) (0 : Nat) (602 : Nat))]])
              else none
            else none
          else
            bif decide ((List.length x7 + (1 : Nat)) * (24 : Nat) ≤ (140737488355328 : Nat)) && decide (List.length x7 + (1 : Nat) ≤ (9223372036854775807 : Nat)) then
              f28_L34 fu fu k0 x0 (IntKind.wrap IntKind.i64 (x5 + (1 : Int))) true false (0 : Int) x6 (x7 ++ [SV.agg [SV.bool false, SV.str (ByteArray.extract x0 (Int.toNat x1) (Int.toNat x5))]])
            else none
        else
          bif decide (ByteArray.size (ByteArray.extract x0 (Int.toNat x1) (Int.toNat x5)) < (4294967281 : Nat)) then
            bif decide ((↑(annI (ByteArray.extract x0 (Int.toNat x1) (Int.toNat x5))) : Int) ≤ (↑(ByteArray.size (ByteArray.extract x0 (Int.toNat x1) (Int.toNat x5))) : Int)) && true then
              bif decide ((List.length x7 + (1 : Nat)) * (24 : Nat) ≤ (140737488355328 : Nat)) && decide (List.length x7 + (1 : Nat) ≤ (9223372036854775807 : Nat)) then
                bif decide (annN (ByteArray.extract x0 (Int.toNat x1) (Int.toNat x5)) < (0 : Int)) then
                  f28_L34 fu fu k0 x0 (IntKind.wrap IntKind.i64 (x5 + (1 : Int))) x4 false (0 : Int) x6
                    (x7 ++
                      [SV.agg [SV.bool false, SV.str (ByteArray.extract (ByteArray.extract x0 (Int.toNat x1) (Int.toNat x5)) (0 : Nat) (Int.toNat (↑(annI (ByteArray.extract x0 (Int.toNat x1) (Int.toNat x5))) : Int)))]])
                else
                  bif decide (annN (ByteArray.extract x0 (Int.toNat x1) (Int.toNat x5)) > (4000 : Int)) then
                    f28_L34 fu fu k0 x0 (IntKind.wrap IntKind.i64 (x5 + (1 : Int))) true false (0 : Int) x6
                      (x7 ++
                        [SV.agg
                            [SV.bool false, SV.str (ByteArray.extract (ByteArray.extract x0 (Int.toNat x1) (Int.toNat x5)) (0 : Nat) (Int.toNat (↑(annI (ByteArray.extract x0 (Int.toNat x1) (Int.toNat x5))) : Int)))]])
                  else
                    bif x3 == (4 : Int) then
                      f28_L34 fu fu k0 x0 (IntKind.wrap IntKind.i64 (x5 + (1 : Int))) true false (0 : Int) x6
                        (x7 ++
                          [SV.agg
                              [SV.bool false, SV.str (ByteArray.extract (ByteArray.extract x0 (Int.toNat x1) (Int.toNat x5)) (0 : Nat) (Int.toNat (↑(annI (ByteArray.extract x0 (Int.toNat x1) (Int.toNat x5))) : Int)))]])
                    else
                      bif decide ((List.length x6 + (1 : Nat)) * (48 : Nat) ≤ (140737488355328 : Nat)) && decide (List.length x6 + (1 : Nat) ≤ (9223372036854775807 : Nat)) then
                        bif decide (IntKind.wrap IntKind.i64 ((↑(ByteArray.size x0) : Int) - IntKind.wrap IntKind.i64 (x5 + (1 : Int))) < annN (ByteArray.extract x0 (Int.toNat x1) (Int.toNat x5))) then
                          some
                            (SV.tup
                              [SV.lst (82 : Nat) (x6 ++ [SV.agg [SV.int IntKind.i64 (1 : Int), SV.str (ByteArray.mk #[]), SV.lst (88 : Nat) []]]),
                                SV.int IntKind.i64
                                  (IntKind.wrap IntKind.i64
                                    (annN (ByteArray.extract x0 (Int.toNat x1) (Int.toNat x5)) - IntKind.wrap IntKind.i64 ((↑(ByteArray.size x0) : Int) - IntKind.wrap IntKind.i64 (x5 + (1 : Int)))))])
                        else
                          bif
                              decide ((0 : Int) ≤ IntKind.wrap IntKind.i64 (IntKind.wrap IntKind.i64 (x5 + (1 : Int)) + annN (ByteArray.extract x0 (Int.toNat x1) (Int.toNat x5)))) &&
                                  decide (IntKind.wrap IntKind.i64 (IntKind.wrap IntKind.i64 (x5 + (1 : Int)) + annN (ByteArray.extract x0 (Int.toNat x1) (Int.toNat x5))) ≤ (↑(ByteArray.size x0) : Int)) &&
                                (decide ((0 : Int) ≤ IntKind.wrap IntKind.i64 (x5 + (1 : Int))) &&
                                  decide
                                    (IntKind.wrap IntKind.i64 (x5 + (1 : Int)) ≤ IntKind.wrap IntKind.i64 (IntKind.wrap IntKind.i64 (x5 + (1 : Int)) + annN (ByteArray.extract x0 (Int.toNat x1) (Int.toNat x5))))) then
                            bif
                                decide
                                    ((List.length
                                            (x7 ++
                                              [SV.agg
                                                  [SV.bool false,
                                                    SV.str
                                                      (ByteArray.extract (ByteArray.extract x0 (Int.toNat x1) (Int.toNat x5)) (0 : Nat)
                                                        (Int.toNat (↑(annI (ByteArray.extract x0 (Int.toNat x1) (Int.toNat x5))) : Int)))]]) +
                                          (1 : Nat)) *
                                        (24 : Nat) ≤
                                      (140737488355328 : Nat)) &&
                                  decide
                                    (List.length
                                          (x7 ++
                                            [SV.agg
                                                [SV.bool false,
                                                  SV.str
                                                    (ByteArray.extract (ByteArray.extract x0 (Int.toNat x1) (Int.toNat x5)) (0 : Nat) (Int.toNat (↑(annI (ByteArray.extract x0 (Int.toNat x1) (Int.toNat x5))) : Int)))]]) +
                                        (1 : Nat) ≤
                                      (9223372036854775807 : Nat)) then
                              f28_L6 fu k1 k0 x0 (IntKind.wrap IntKind.i64 (IntKind.wrap IntKind.i64 (x5 + (1 : Int)) + annN (ByteArray.extract x0 (Int.toNat x1) (Int.toNat x5))))
                                (IntKind.wrap IntKind.i64 (x2 + (↑(ByteArray.size (ByteArray.extract x0 (Int.toNat x1) (Int.toNat x5))) : Int))) (IntKind.wrap IntKind.i64 (x3 + (1 : Int))) x4
                                (x6 ++ [SV.agg [SV.int IntKind.i64 (1 : Int), SV.str (ByteArray.mk #[]), SV.lst (88 : Nat) []]])
                                (x7 ++
                                    [SV.agg
                                        [SV.bool false,
                                          SV.str (ByteArray.extract (ByteArray.extract x0 (Int.toNat x1) (Int.toNat x5)) (0 : Nat) (Int.toNat (↑(annI (ByteArray.extract x0 (Int.toNat x1) (Int.toNat x5))) : Int)))]] ++
                                  [SV.agg
                                      [SV.bool true,
                                        SV.str
                                          (ByteArray.extract x0 (Int.toNat (IntKind.wrap IntKind.i64 (x5 + (1 : Int))))
                                            (Int.toNat (IntKind.wrap IntKind.i64 (IntKind.wrap IntKind.i64 (x5 + (1 : Int)) + annN (ByteArray.extract x0 (Int.toNat x1) (Int.toNat x5))))))]])
                            else none
                          else none
                      else none
              else none
            else none
          else none
    else none := by kernel_rfl

theorem f28_L6_eq (fu fm : Nat) (k0 : Nat) (x0 : ByteArray) (x1 : Int) (x2 : Int) (x3 : Int) (x4 : Bool) (x5 : List SV) (x6 : List SV) : f28_L6 fu (fm + 1) k0 x0 x1 x2 x3 x4 x5 x6 = f28_L7 fu fu k0 fm x0 x1 x2 x3 x4 x1 x5 x6 := by kernel_rfl

theorem f28_L3_eq (fu fm : Nat) (x0 : ByteArray) (x1 : Int) (x2 : List SV) : f28_L3 fu (fm + 1) x0 x1 x2 = f28_L6 fu fu fm x0 x1 (0 : Int) (0 : Int) false x2 [] := by kernel_rfl

theorem f28_eq (fu : Nat) (s : ByteArray) : evFun f28_X fu Try.f28 (frz f28_X.Ty Try.f28) [.str s] [] [] = f28_L3 fu fu s (0 : Int) [] := by kernel_rfl

end Sx

/-
  Layer 29: what the document makes of a line that is at its end, once for all lines. (Printed by a program.)
-/
set_option linter.unusedVariables false
set_option linter.unusedSimpArgs false
namespace Sx
open Go Go.Proofs
set_option maxRecDepth 100000
noncomputable def f28_K (fu k0 k1 : Nat) (x0 : ByteArray) (x2 x3 : Int) (x4 : Bool) (x5 : Int) (x6 x7 : List SV) (XX : ByteArray) : Option SV :=
  bif decide (IntKind.wrap IntKind.i64 (x2 + (↑(ByteArray.size XX) : Int)) > (600 : Int)) then bif decide ((↑(ByteArray.size XX) : Int) > (602 : Int)) then bif decide ((602 : Int) ≤ (↑(ByteArray.size XX) : Int)) && true then bif decide ((List.length x7 + (1 : Nat)) * (24 : Nat) ≤ (140737488355328 : Nat)) && decide (List.length x7 + (1 : Nat) ≤ (9223372036854775807 : Nat)) then f28_L34 fu fu k0 x0 (IntKind.wrap IntKind.i64 (x5 + (1 : Int))) true false (0 : Int) x6 (x7 ++ [SV.agg [SV.bool false, SV.str (ByteArray.extract XX (0 : Nat) (602 : Nat))]]) else none else none else bif decide ((List.length x7 + (1 : Nat)) * (24 : Nat) ≤ (140737488355328 : Nat)) && decide (List.length x7 + (1 : Nat) ≤ (9223372036854775807 : Nat)) then f28_L34 fu fu k0 x0 (IntKind.wrap IntKind.i64 (x5 + (1 : Int))) true false (0 : Int) x6 (x7 ++ [SV.agg [SV.bool false, SV.str XX]]) else none else bif decide (ByteArray.size XX < (4294967281 : Nat)) then bif decide ((↑(annI XX) : Int) ≤ (↑(ByteArray.size XX) : Int)) && true then bif decide ((List.length x7 + (1 : Nat)) * (24 : Nat) ≤ (140737488355328 : Nat)) && decide (List.length x7 + (1 : Nat) ≤ (9223372036854775807 : Nat)) then bif decide (annN XX < (0 : Int)) then f28_L34 fu fu k0 x0 (IntKind.wrap IntKind.i64 (x5 + (1 : Int))) x4 false (0 : Int) x6 (x7 ++ [SV.agg [SV.bool false, SV.str (ByteArray.extract XX (0 : Nat) (Int.toNat (↑(annI XX) : Int)))]]) else bif decide (annN XX > (4000 : Int)) then f28_L34 fu fu k0 x0 (IntKind.wrap IntKind.i64 (x5 + (1 : Int))) true false (0 : Int) x6 (x7 ++ [SV.agg [SV.bool false, SV.str (ByteArray.extract XX (0 : Nat) (Int.toNat (↑(annI XX) : Int)))]]) else bif x3 == (4 : Int) then f28_L34 fu fu k0 x0 (IntKind.wrap IntKind.i64 (x5 + (1 : Int))) true false (0 : Int) x6 (x7 ++ [SV.agg [SV.bool false, SV.str (ByteArray.extract XX (0 : Nat) (Int.toNat (↑(annI XX) : Int)))]]) else bif decide ((List.length x6 + (1 : Nat)) * (48 : Nat) ≤ (140737488355328 : Nat)) && decide (List.length x6 + (1 : Nat) ≤ (9223372036854775807 : Nat)) then bif decide (IntKind.wrap IntKind.i64 ((↑(ByteArray.size x0) : Int) - IntKind.wrap IntKind.i64 (x5 + (1 : Int))) < annN XX) then some (SV.tup [SV.lst (82 : Nat) (x6 ++ [SV.agg [SV.int IntKind.i64 (1 : Int), SV.str (ByteArray.mk #[]), SV.lst (88 : Nat) []]]), SV.int IntKind.i64 (IntKind.wrap IntKind.i64 (annN XX - IntKind.wrap IntKind.i64 ((↑(ByteArray.size x0) : Int) - IntKind.wrap IntKind.i64 (x5 + (1 : Int)))))]) else bif decide ((0 : Int) ≤ IntKind.wrap IntKind.i64 (IntKind.wrap IntKind.i64 (x5 + (1 : Int)) + annN XX)) && decide (IntKind.wrap IntKind.i64 (IntKind.wrap IntKind.i64 (x5 + (1 : Int)) + annN XX) ≤ (↑(ByteArray.size x0) : Int)) && (decide ((0 : Int) ≤ IntKind.wrap IntKind.i64 (x5 + (1 : Int))) && decide (IntKind.wrap IntKind.i64 (x5 + (1 : Int)) ≤ IntKind.wrap IntKind.i64 (IntKind.wrap IntKind.i64 (x5 + (1 : Int)) + annN XX))) then bif decide ((List.length (x7 ++ [SV.agg [SV.bool false, SV.str (ByteArray.extract XX (0 : Nat) (Int.toNat (↑(annI XX) : Int)))]]) + (1 : Nat)) * (24 : Nat) ≤ (140737488355328 : Nat)) && decide (List.length (x7 ++ [SV.agg [SV.bool false, SV.str (ByteArray.extract XX (0 : Nat) (Int.toNat (↑(annI XX) : Int)))]]) + (1 : Nat) ≤ (9223372036854775807 : Nat)) then f28_L6 fu k1 k0 x0 (IntKind.wrap IntKind.i64 (IntKind.wrap IntKind.i64 (x5 + (1 : Int)) + annN XX)) (IntKind.wrap IntKind.i64 (x2 + (↑(ByteArray.size XX) : Int))) (IntKind.wrap IntKind.i64 (x3 + (1 : Int))) x4 (x6 ++ [SV.agg [SV.int IntKind.i64 (1 : Int), SV.str (ByteArray.mk #[]), SV.lst (88 : Nat) []]]) (x7 ++ [SV.agg [SV.bool false, SV.str (ByteArray.extract XX (0 : Nat) (Int.toNat (↑(annI XX) : Int)))]] ++ [SV.agg [SV.bool true, SV.str (ByteArray.extract x0 (Int.toNat (IntKind.wrap IntKind.i64 (x5 + (1 : Int)))) (Int.toNat (IntKind.wrap IntKind.i64 (IntKind.wrap IntKind.i64 (x5 + (1 : Int)) + annN XX))))]]) else none else none else none else none else none else none
theorem f28_L7_K (fu fm : Nat) (k0 k1 : Nat) (x0 : ByteArray) (x1 : Int) (x2 : Int) (x3 : Int) (x4 : Bool) (x5 : Int) (x6 : List SV) (x7 : List SV) : f28_L7 fu (fm + 1) k0 k1 x0 x1 x2 x3 x4 x5 x6 x7 = bif decide (x5 < (↑(ByteArray.size x0) : Int)) then bif decide ((0 : Int) ≤ x5) && decide (x5 < (↑(ByteArray.size x0) : Int)) then bif bAt x0 x5 != (10 : Int) then f28_L7 fu fm k0 k1 x0 x1 x2 x3 x4 (IntKind.wrap IntKind.i64 (x5 + (1 : Int))) x6 x7 else bif x5 == (↑(ByteArray.size x0) : Int) then some (SV.tup [SV.lst (82 : Nat) x6, SV.int IntKind.i64 (0 : Int)]) else bif decide ((0 : Int) ≤ x5) && decide (x5 ≤ (↑(ByteArray.size x0) : Int)) && (decide ((0 : Int) ≤ x1) && decide (x1 ≤ x5)) then bif decide ((↑(ByteArray.size (ByteArray.extract x0 (Int.toNat x1) (Int.toNat x5))) : Int) > (0 : Int)) then bif decide ((0 : Int) ≤ IntKind.wrap IntKind.i64 ((↑(ByteArray.size (ByteArray.extract x0 (Int.toNat x1) (Int.toNat x5))) : Int) - (1 : Int))) && decide (IntKind.wrap IntKind.i64 ((↑(ByteArray.size (ByteArray.extract x0 (Int.toNat x1) (Int.toNat x5))) : Int) - (1 : Int)) < (↑(ByteArray.size (ByteArray.extract x0 (Int.toNat x1) (Int.toNat x5))) : Int)) then bif bAt (ByteArray.extract x0 (Int.toNat x1) (Int.toNat x5)) (IntKind.wrap IntKind.i64 ((↑(ByteArray.size (ByteArray.extract x0 (Int.toNat x1) (Int.toNat x5))) : Int) - (1 : Int))) == (13 : Int) then bif decide ((0 : Int) ≤ IntKind.wrap IntKind.i64 ((↑(ByteArray.size (ByteArray.extract x0 (Int.toNat x1) (Int.toNat x5))) : Int) - (1 : Int))) && decide (IntKind.wrap IntKind.i64 ((↑(ByteArray.size (ByteArray.extract x0 (Int.toNat x1) (Int.toNat x5))) : Int) - (1 : Int)) ≤ (↑(ByteArray.size (ByteArray.extract x0 (Int.toNat x1) (Int.toNat x5))) : Int)) && true then f28_K fu k0 k1 x0 x2 x3 x4 x5 x6 x7 (ByteArray.extract (ByteArray.extract x0 (Int.toNat x1) (Int.toNat x5)) (0 : Nat) (Int.toNat (IntKind.wrap IntKind.i64 ((↑(ByteArray.size (ByteArray.extract x0 (Int.toNat x1) (Int.toNat x5))) : Int) - (1 : Int))))) else none else f28_K fu k0 k1 x0 x2 x3 x4 x5 x6 x7 (ByteArray.extract x0 (Int.toNat x1) (Int.toNat x5)) else none else f28_K fu k0 k1 x0 x2 x3 x4 x5 x6 x7 (ByteArray.extract x0 (Int.toNat x1) (Int.toNat x5)) else none else none else bif x5 == (↑(ByteArray.size x0) : Int) then some (SV.tup [SV.lst (82 : Nat) x6, SV.int IntKind.i64 (0 : Int)]) else bif decide ((0 : Int) ≤ x5) && decide (x5 ≤ (↑(ByteArray.size x0) : Int)) && (decide ((0 : Int) ≤ x1) && decide (x1 ≤ x5)) then bif decide ((↑(ByteArray.size (ByteArray.extract x0 (Int.toNat x1) (Int.toNat x5))) : Int) > (0 : Int)) then bif decide ((0 : Int) ≤ IntKind.wrap IntKind.i64 ((↑(ByteArray.size (ByteArray.extract x0 (Int.toNat x1) (Int.toNat x5))) : Int) - (1 : Int))) && decide (IntKind.wrap IntKind.i64 ((↑(ByteArray.size (ByteArray.extract x0 (Int.toNat x1) (Int.toNat x5))) : Int) - (1 : Int)) < (↑(ByteArray.size (ByteArray.extract x0 (Int.toNat x1) (Int.toNat x5))) : Int)) then bif bAt (ByteArray.extract x0 (Int.toNat x1) (Int.toNat x5)) (IntKind.wrap IntKind.i64 ((↑(ByteArray.size (ByteArray.extract x0 (Int.toNat x1) (Int.toNat x5))) : Int) - (1 : Int))) == (13 : Int) then bif decide ((0 : Int) ≤ IntKind.wrap IntKind.i64 ((↑(ByteArray.size (ByteArray.extract x0 (Int.toNat x1) (Int.toNat x5))) : Int) - (1 : Int))) && decide (IntKind.wrap IntKind.i64 ((↑(ByteArray.size (ByteArray.extract x0 (Int.toNat x1) (Int.toNat x5))) : Int) - (1 : Int)) ≤ (↑(ByteArray.size (ByteArray.extract x0 (Int.toNat x1) (Int.toNat x5))) : Int)) && true then f28_K fu k0 k1 x0 x2 x3 x4 x5 x6 x7 (ByteArray.extract (ByteArray.extract x0 (Int.toNat x1) (Int.toNat x5)) (0 : Nat) (Int.toNat (IntKind.wrap IntKind.i64 ((↑(ByteArray.size (ByteArray.extract x0 (Int.toNat x1) (Int.toNat x5))) : Int) - (1 : Int))))) else none else f28_K fu k0 k1 x0 x2 x3 x4 x5 x6 x7 (ByteArray.extract x0 (Int.toNat x1) (Int.toNat x5)) else none else f28_K fu k0 k1 x0 x2 x3 x4 x5 x6 x7 (ByteArray.extract x0 (Int.toNat x1) (Int.toNat x5)) else none  :=
  f28_L7_eq fu fm k0 k1 x0 x1 x2 x3 x4 x5 x6 x7
end Sx

/-
  Layer 29: the same tokens are the same.
-/
set_option linter.unusedVariables false
set_option linter.unusedSimpArgs false
namespace Sx
open Go Go.Proofs
set_option maxRecDepth 100000
noncomputable def eqL (a b : List SV) : Bool := @decide (a = b) (Classical.propDecidable _)
theorem eqL_eq {a b : List SV} (h : eqL a b = true) : a = b := by
  unfold eqL at h
  exact @of_decide_eq_true _ (Classical.propDecidable _) h
theorem eqL_self (a : List SV) : eqL a a = true := by
  unfold eqL
  exact @decide_eq_true _ (Classical.propDecidable _) rfl
theorem ba_beq (s : ByteArray) : (s == s) = true := by
  cases s with
  | mk d =>
    show (d == d) = true
    simp
noncomputable def gToksE : List SV → Option (Bool × SV)
  | [.lst 88 a, .lst 88 b] => some (decide (a.length < 4294967281) && eqL a b, .bool true)
  | _ => none
theorem L53_is (fu : Nat) (a : List SV) (hs : a.length < 4294967281) : ∀ k i m, i + k = a.length → k < m → f53_L4 fu m a a (i : Int) = some (.bool true)
  | 0, i, m, hi, hm => by
    obtain ⟨m, rfl⟩ : ∃ m', m = m' + 1 := ⟨m - 1, by omega⟩
    have h1 : ¬ ((i : Int) < (a.length : Int)) := by omega
    rw [f53_L4_eq]
    simp only [h1, decide_false, cond_false]
  | k + 1, i, m, hi, hm => by
    obtain ⟨m, rfl⟩ : ∃ m', m = m' + 1 := ⟨m - 1, by omega⟩
    have h1 : (i : Int) < (a.length : Int) := by omega
    have h2 : (0 : Int) ≤ (i : Int) := by omega
    have w1 : IntKind.wrap .i64 ((i : Int) + 1) = ((i + 1 : Nat) : Int) := by rw [wrap64 (by omega) (by omega)]; omega
    have ih := L53_is fu a hs k (i + 1) m (by omega) (by omega)
    rw [f53_L4_eq, w1, ih]
    simp only [h1, h2, decide_true, Bool.and_self, cond_true, beq_self_eq_true, ba_beq, Bool.not_true, cond_false]
theorem s53_ok : SpecOk rE 53 (.plain gToksE) := by
  refine plain_of_run (fx_ok rLib_ok [] f53_live) (fn := Try.f53) (by kernel_rfl) (by decide) (by rfl) (fun args sv h => ?_)
  unfold gToksE at h
  split at h
  · rename_i a b
    simp only [Option.some.injEq, Prod.mk.injEq, Bool.and_eq_true, decide_eq_true_eq] at h
    obtain ⟨⟨hs, he⟩, rfl⟩ := h
    obtain rfl := eqL_eq he
    refine ⟨rfl, rfl, 4294967290, ?_⟩
    show evFun f53_X 4294967290 Try.f53 (frz f53_X.Ty Try.f53) [.lst 88 a, .lst 88 a] [] [] = _
    have := L53_is 4294967290 a hs a.length 0 4294967290 (by omega) (by omega)
    rw [show ((0 : Nat) : Int) = 0 from rfl] at this
    have e : ((a.length : Int) != (a.length : Int)) = false := by simp
    rw [f53_eq, this, e]
    rfl
  · cases h
noncomputable def lI0 : List (Nat × Spec) := (53, .plain gToksE) :: rLib
theorem lI0_ok : SpecsOk rE (ofList lI0) := .cons s53_ok rLib_ok
/-- The cells of chunks: octets. -/
def chunkB (x : SV) : List SV := asLst ((cellsOf x).getD 0 .dead)
/-- Chunks, no more of them than are looked at, and no more octets. -/
def chL : List SV → Int → List SV
  | [], _ => []
  | x :: r, all => bif decide (all + ((chunkB x).length : Int) > 9000) then .lst 5 ((chunkB x).take (9000 - all).toNat) :: chL r 9000 else .lst 5 (chunkB x) :: chL r (all + ((chunkB x).length : Int))
theorem L25_is (fu : Nat) (l : List SV) (hl : l.length ≤ 40) (hL : ∀ x ∈ l, (chunkB x).length < 140737488355329) : ∀ (k i m : Nat) (all : Int) (out : List SV), i + k = l.length → k < m → 0 ≤ all → all ≤ 9000 → out.length = i →
    f25_L6 fu m l all (i : Int) out = some (.lst 35 (out ++ chL (l.drop i) all))
  | 0, i, m, all, out, hi, hm, h0, h9, ho => by
    obtain ⟨m, rfl⟩ : ∃ m', m = m' + 1 := ⟨m - 1, by omega⟩
    have hd : l.drop i = [] := List.drop_of_length_le (by omega)
    have h1 : ¬ ((i : Int) < (l.length : Int)) := by omega
    rw [f25_L6_eq, hd]
    simp only [h1, decide_false, cond_false, chL, List.append_nil]
  | k + 1, i, m, all, out, hi, hm, h0, h9, ho => by
    obtain ⟨m, rfl⟩ : ∃ m', m = m' + 1 := ⟨m - 1, by omega⟩
    obtain ⟨x, hd, hx⟩ := drop_at l i (by omega)
    have hmem : x ∈ l := by
      have : x ∈ l.drop i := by rw [hd]; exact List.mem_cons_self
      exact List.mem_of_mem_drop this
    have hsz := hL x hmem
    have h1 : (i : Int) < (l.length : Int) := by omega
    have h2 : (0 : Int) ≤ (i : Int) := by omega
    have w1 : IntKind.wrap .i64 ((i : Int) + 1) = ((i + 1 : Nat) : Int) := by rw [wrap64 (by omega) (by omega)]; omega
    have w2 : IntKind.wrap .i64 (9000 - all) = 9000 - all := wrap64 (by omega) (by omega)
    have w3 : IntKind.wrap .i64 (all + ((chunkB x).length : Int)) = all + ((chunkB x).length : Int) := wrap64 (by omega) (by omega)
    have r1 : decide ((out.length + 1) * 24 ≤ 140737488355328) = true := decide_eq_true (by omega)
    have r2 : decide (out.length + 1 ≤ 9223372036854775807) = true := decide_eq_true (by omega)
    have e1 : asLst (List.getD (cellsOf x) 0 SV.dead) = chunkB x := rfl
    rw [f25_L6_eq, hd]
    simp only [h1, h2, decide_true, Bool.and_self, cond_true, Int.toNat_natCast, hx, e1, w1, w2, w3, r1, r2, List.drop_zero, chL]
    by_cases c : all + ((chunkB x).length : Int) > 9000
    · have b1 : (0 : Int) ≤ 9000 - all := by omega
      have b2 : 9000 - all ≤ ((chunkB x).length : Int) := by omega
      have hlen : ((chunkB x).take (9000 - all).toNat).length = (9000 - all).toNat := by rw [List.length_take]; omega
      have w4 : IntKind.wrap .i64 (all + ((9000 - all).toNat : Int)) = 9000 := by rw [wrap64 (by omega) (by omega)]; omega
      simp only [c, b1, b2, decide_true, Bool.and_self, cond_true, hlen, w4]
      rw [L25_is fu l hl hL k (i + 1) m 9000 _ (by omega) (by omega) (by omega) (by omega) (by simp [ho])]
      simp
    · simp only [c, decide_false, cond_false]
      rw [L25_is fu l hl hL k (i + 1) m _ _ (by omega) (by omega) (by omega) (by omega) (by simp [ho])]
      simp
def gCh : List SV → Option (Bool × SV)
  | [.lst 35 l] => some ((l.all fun x => decide ((chunkB x).length < 140737488355329)), .lst 35 (chL (l.take 40) 0))
  | _ => none
theorem ch_run (l : List SV) (hs : ∀ x ∈ l, (chunkB x).length < 140737488355329) : evFun f25_X 50 Try.f25 (frz f25_X.Ty Try.f25) [.lst 35 l] [] [] = some (.lst 35 (chL (l.take 40) 0)) := by
  rw [f25_eq]
  have hlt : (l.take 40).length ≤ 40 := by rw [List.length_take]; omega
  obtain ⟨l', hl'⟩ : ∃ l', l' = l.take 40 := ⟨_, rfl⟩
  have key : f25_L6 50 50 l' 0 0 [] = some (.lst 35 (chL l' 0)) := by
    rw [← hl'] at hlt
    have := L25_is 50 l' hlt (fun x hx => hs x (List.mem_of_mem_take (hl' ▸ hx))) l'.length 0 50 0 [] (by omega) (by omega) (by omega) (by omega) rfl
    rw [List.drop_zero, List.nil_append] at this
    exact this
  rw [← hl']
  by_cases c : (l.length : Int) > 40
  · have b : (40 : Int) ≤ (l.length : Int) := by omega
    rw [decide_eq_true c, decide_eq_true b, List.drop_zero, cond_true, Bool.and_self, cond_true]
    exact key
  · have e : l' = l := by rw [hl']; exact List.take_of_length_le (by omega)
    rw [decide_eq_false c, cond_false]
    rw [e] at key
    rw [e]
    exact key
theorem s25_ok : SpecOk rE 25 (.plain gCh) := by
  refine plain_of_run (fx_ok rLib_ok [] f25_live) (fn := Try.f25) (by kernel_rfl) (by decide) (by rfl) (fun args sv h => ?_)
  unfold gCh at h
  split at h
  · rename_i l
    simp only [Option.some.injEq, Prod.mk.injEq, List.all_eq_true, decide_eq_true_eq] at h
    obtain ⟨hs, rfl⟩ := h
    exact ⟨rfl, rfl, 50, ch_run l hs⟩
  · cases h
end Sx

/-
  Layer 29: the document's answer to all octets: what its loops come to.
-/
set_option linter.unusedVariables false
set_option linter.unusedSimpArgs false
namespace Sx
open Go Go.Proofs
set_option maxRecDepth 100000
theorem sufB_one (s : ByteArray) (c : UInt8) : sufB s ⟨#[c]⟩ = (decide (0 < s.size) && (bAt s ((s.size - 1 : Nat) : Int) == (c.toNat : Int))) := by
  have e1 : (⟨#[c]⟩ : ByteArray).size = 1 := rfl
  unfold sufB
  rw [e1]
  by_cases h : 0 < s.size
  · obtain ⟨b, hb, hd, hat⟩ := drop_cons s (s.size - 1) (by omega)
    have he : (s.extract (s.size - 1) s.size).data.toList = [b] := by
      simp only [ByteArray.data_extract, Array.toList_extract, List.extract_eq_take_drop]
      rw [hd, List.drop_of_length_le (by simp; omega)]
      have : s.size - (s.size - 1) = 1 := by omega
      rw [this]; rfl
    rw [decide_eq_true h, decide_eq_true (show 1 ≤ s.size by omega), hat]
    simp only [Bool.true_and, ByteArray.toList_eq, he]
    rw [Bool.eq_iff_iff]
    simp only [beq_iff_eq]
    constructor
    · intro q
      have : b = c := by simpa using q
      rw [this]
    · intro q
      have : b = c := by apply UInt8.toNat_inj.1; omega
      rw [this]
  · rw [decide_eq_false h, decide_eq_false (show ¬ 1 ≤ s.size by omega)]
    rfl
def cut602 (X : ByteArray) : ByteArray := bif decide (X.size > 602) then X.extract 0 602 else X
noncomputable def endF (l : List SV) (over : Bool) (out : List SV) : List SV := bif someP l then out ++ [inpOf l (bif over then 3 else 0)] else out
theorem L34_is (fu k0 : Nat) (s : ByteArray) (at' : Int) (over : Bool) (out l : List SV) (hP : sumP l < 4294967281) (ho : out.length < 4294967281) : ∀ (k i m : Nat) (x3 : Bool), i + k = l.length → k < m →
    f28_L34 fu m k0 s at' over x3 (i : Int) out l = f28_L3 fu k0 s at' (bif x3 || someP (l.drop i) then out ++ [inpOf l (bif over then 3 else 0)] else out)
  | 0, i, m, x3, hi, hm => by
    obtain ⟨m, rfl⟩ : ∃ m', m = m' + 1 := ⟨m - 1, by omega⟩
    have h1 : ¬ ((i : Int) < (l.length : Int)) := by omega
    have hok : okP l = true := decide_eq_true hP
    have r1 : decide ((out.length + 1) * 48 ≤ 140737488355328) = true := decide_eq_true (by omega)
    have r2 : decide (out.length + 1 ≤ 9223372036854775807) = true := decide_eq_true (by omega)
    rw [f28_L34_eq, List.drop_of_length_le (show l.length ≤ i by omega)]
    simp only [h1, decide_false, cond_false, hok, r1, r2, Bool.and_self, cond_true, someP, Bool.or_false]
    cases x3 with
    | false => rfl
    | true =>
      simp only [Bool.not_true, cond_false, cond_true]
      cases over with
      | true => rfl
      | false =>
        simp only [Bool.not_false, cond_true, cond_false]
        unfold inpOf
        cases ht : toksB l with
        | true => rfl
        | false => rw [toksL_none ht]; rfl
  | k + 1, i, m, x3, hi, hm => by
    obtain ⟨m, rfl⟩ : ∃ m', m = m' + 1 := ⟨m - 1, by omega⟩
    obtain ⟨p, hd, hp⟩ := drop_at l i (by omega)
    have hl := sumP_len l
    have h1 : (i : Int) < (l.length : Int) := by omega
    have h2 : (0 : Int) ≤ (i : Int) := by omega
    have w1 : IntKind.wrap .i64 ((i : Int) + 1) = ((i + 1 : Nat) : Int) := by rw [wrap64 (by omega) (by omega)]; omega
    have ih := fun x => L34_is fu k0 s at' over out l hP ho k (i + 1) m x (by omega) (by omega)
    have e1 : asBool ((cellsOf p).getD 0 .dead) = litP p := rfl
    have e2 : asStr ((cellsOf p).getD 1 .dead) = strP p := rfl
    rw [f28_L34_eq, hd, w1]
    simp only [h1, h2, decide_true, Bool.and_self, cond_true, Int.toNat_natCast, hp, ih, e1, e2, someP, someE]
    cases x3 with
    | true => rfl
    | false =>
      cases litP p with
      | true => rfl
      | false => rfl
noncomputable def kR (fu k0 k1 : Nat) (s : ByteArray) (sz n : Int) (e : Nat) (out l : List SV) (X : ByteArray) : Option SV :=
  if sz + (X.size : Int) > 600 then f28_L3 fu k0 s ((e + 1 : Nat) : Int) (endF (l ++ [pieceV false (cut602 X)]) true out)
  else if annN X < 0 then f28_L3 fu k0 s ((e + 1 : Nat) : Int) (endF (l ++ [pieceV false (annS X)]) false out)
  else if annN X > 4000 ∨ n = 4 then f28_L3 fu k0 s ((e + 1 : Nat) : Int) (endF (l ++ [pieceV false (annS X)]) true out)
  else if ((s.size - (e + 1) : Nat) : Int) < annN X then some (.tup [.lst 82 (out ++ [moreV]), .int .i64 (annN X - ((s.size - (e + 1) : Nat) : Int))])
  else f28_L6 fu k1 k0 s ((e + 1 + (annN X).toNat : Nat) : Int) (sz + (X.size : Int)) (n + 1) false (out ++ [moreV]) (l ++ [pieceV false (annS X)] ++ [pieceV true (s.extract (e + 1) (e + 1 + (annN X).toNat))])
theorem K_is (fu k0 k1 : Nat) (s : ByteArray) (sz n : Int) (e : Nat) (out l : List SV) (X : ByteArray) (hs : s.size < 1000000000) (he : e < s.size) (hX : X.size ≤ s.size) (h0 : 0 ≤ sz) (h1 : sz < 1000000000) (hn0 : 0 ≤ n) (hn1 : n < 1000000000) (hl : sumP l < 2000000010) (ho : out.length < 1000000010) (hfu : 4294967200 < fu) :
    f28_K fu k0 k1 s sz n false (e : Int) out l X = kR fu k0 k1 s sz n e out l X := by
  have hll := sumP_len l
  have w0 : IntKind.wrap .i64 (sz + (X.size : Int)) = sz + (X.size : Int) := wrap64 (by omega) (by omega)
  have w1 : IntKind.wrap .i64 ((e : Int) + 1) = ((e + 1 : Nat) : Int) := by rw [wrap64 (by omega) (by omega)]; omega
  have w2 : IntKind.wrap .i64 (n + 1) = n + 1 := wrap64 (by omega) (by omega)
  have w3 : IntKind.wrap .i64 ((s.size : Int) - ((e + 1 : Nat) : Int)) = ((s.size - (e + 1) : Nat) : Int) := by rw [wrap64 (by omega) (by omega)]; omega
  have r1 : decide ((l.length + 1) * 24 ≤ 140737488355328) = true := decide_eq_true (by omega)
  have r2 : decide (l.length + 1 ≤ 9223372036854775807) = true := decide_eq_true (by omega)
  have r3 : decide ((out.length + 1) * 48 ≤ 140737488355328) = true := decide_eq_true (by omega)
  have r4 : decide (out.length + 1 ≤ 9223372036854775807) = true := decide_eq_true (by omega)
  have hI := annI_le X
  have a1 : decide (X.size < 4294967281) = true := decide_eq_true (by omega)
  have a2 : decide ((annI X : Int) ≤ (X.size : Int)) = true := decide_eq_true (by omega)
  have hge := annN_ge X
  have eS : X.extract 0 (annI X) = annS X := rfl
  have ends : ∀ (q : SV) (over : Bool), (strP q).size ≤ X.size → f28_L34 fu fu k0 s ((e + 1 : Nat) : Int) over false 0 out (l ++ [q]) = f28_L3 fu k0 s ((e + 1 : Nat) : Int) (endF (l ++ [q]) over out) := fun q over hq => by
    have hlen := sumP_len (l ++ [q])
    have hsum := sumP_app l q
    have := L34_is fu k0 s ((e + 1 : Nat) : Int) over out (l ++ [q]) (by omega) (by omega) (l ++ [q]).length 0 fu false (by omega) (by omega)
    rw [show ((0 : Nat) : Int) = 0 from rfl, List.drop_zero, Bool.false_or] at this
    exact this
  have eA : ∀ Y : ByteArray, SV.agg [.bool false, .str Y] = pieceV false Y := fun _ => rfl
  have eB : ∀ Y : ByteArray, SV.agg [.bool true, .str Y] = pieceV true Y := fun _ => rfl
  have eM : SV.agg [SV.int .i64 1, SV.str ⟨#[]⟩, SV.lst 88 []] = moreV := rfl
  have hpX : ∀ Y : ByteArray, strP (pieceV false Y) = Y := fun _ => rfl
  unfold f28_K kR
  simp only [w0, w1, w2, w3, r1, r2, r3, r4, a1, a2, Bool.and_self, Bool.and_true, cond_true, Int.toNat_natCast, eS, eA, eB, eM]
  by_cases c1 : sz + (X.size : Int) > 600
  · rw [if_pos c1, decide_eq_true c1]
    simp only [cond_true]
    by_cases c2 : (X.size : Int) > 602
    · have b1 : (602 : Int) ≤ (X.size : Int) := by omega
      have ec : cut602 X = X.extract 0 602 := by unfold cut602; rw [decide_eq_true (show X.size > 602 by omega)]; rfl
      rw [decide_eq_true c2, decide_eq_true b1]
      simp only [cond_true]
      rw [ends _ _ (by rw [hpX, ByteArray.size_extract]; omega), ec]
    · have ec : cut602 X = X := by unfold cut602; rw [decide_eq_false (show ¬ X.size > 602 by omega)]; rfl
      rw [decide_eq_false c2]
      simp only [cond_false]
      rw [ends _ _ (by rw [hpX]; exact Nat.le_refl _), ec]
  · have hsz := annS_le X
    rw [if_neg c1, decide_eq_false c1]
    simp only [cond_false]
    by_cases c2 : annN X < 0
    · rw [if_pos c2, decide_eq_true c2]
      simp only [cond_true]
      rw [ends _ _ (by rw [hpX]; exact hsz)]
    · rw [if_neg c2, decide_eq_false c2]
      simp only [cond_false]
      by_cases c3 : annN X > 4000
      · rw [if_pos (.inl c3), decide_eq_true c3]
        simp only [cond_true]
        rw [ends _ _ (by rw [hpX]; exact hsz)]
      · rw [decide_eq_false c3]
        simp only [cond_false]
        by_cases c4 : n = 4
        · rw [if_pos (.inr c4), show (n == 4) = true from beq_iff_eq.2 c4]
          simp only [cond_true]
          rw [ends _ _ (by rw [hpX]; exact hsz)]
        · rw [if_neg (fun q => q.elim c3 c4), show (n == 4) = false from beq_eq_false_iff_ne.2 c4]
          simp only [cond_false]
          by_cases c5 : ((s.size - (e + 1) : Nat) : Int) < annN X
          · rw [if_pos c5, decide_eq_true c5]
            simp only [cond_true]
            rw [wrap64 (by omega) (by omega)]
          · rw [if_neg c5, decide_eq_false c5]
            simp only [cond_false]
            have w4 : IntKind.wrap .i64 (((e + 1 : Nat) : Int) + annN X) = ((e + 1 + (annN X).toNat : Nat) : Int) := by rw [wrap64 (by omega) (by omega)]; omega
            have hsum := sumP_app l (pieceV false (annS X))
            rw [hpX] at hsum
            have hlen := sumP_len (l ++ [pieceV false (annS X)])
            have r5 : decide (((l ++ [pieceV false (annS X)]).length + 1) * 24 ≤ 140737488355328) = true := decide_eq_true (by omega)
            have r6 : decide ((l ++ [pieceV false (annS X)]).length + 1 ≤ 9223372036854775807) = true := decide_eq_true (by omega)
            have q1 : decide ((0 : Int) ≤ ((e + 1 + (annN X).toNat : Nat) : Int)) = true := decide_eq_true (by omega)
            have q2 : decide (((e + 1 + (annN X).toNat : Nat) : Int) ≤ (s.size : Int)) = true := decide_eq_true (by omega)
            have q3 : decide ((0 : Int) ≤ ((e + 1 : Nat) : Int)) = true := decide_eq_true (by omega)
            have q4 : decide (((e + 1 : Nat) : Int) ≤ ((e + 1 + (annN X).toNat : Nat) : Int)) = true := decide_eq_true (by omega)
            simp only [w4, r5, r6, q1, q2, q3, q4, Bool.and_self, cond_true, Int.toNat_natCast]
def crB : ByteArray := ⟨#[13]⟩
theorem L7_is (fu k0 k1 : Nat) (s : ByteArray) (sz n : Int) (out l : List SV) (a : Nat) (hs : s.size < 1000000000) (h0 : 0 ≤ sz) (h1 : sz < 1000000000) (hn0 : 0 ≤ n) (hn1 : n < 1000000000) (hl : sumP l < 2000000010) (ho : out.length < 1000000010) (hfu : 4294967200 < fu) : ∀ (k i m : Nat), i + k = s.size → k < m → a ≤ i →
    f28_L7 fu m k0 k1 s (a : Int) sz n false (i : Int) out l = (match (s.data.toList.drop i).dropWhile (· != 10) with
      | [] => some (.tup [.lst 82 out, .int .i64 0])
      | _ :: r => kR fu k0 k1 s sz n (s.size - (r.length + 1)) out l (trimB (s.extract a (s.size - (r.length + 1))) crB))
  | 0, i, m, hi, hm, ha => by
    obtain ⟨m, rfl⟩ : ∃ m', m = m' + 1 := ⟨m - 1, by omega⟩
    have hd : s.data.toList.drop i = [] := List.drop_of_length_le (by simp; omega)
    have e1 : ¬ ((i : Int) < (s.size : Int)) := by omega
    have e2 : ((i : Int) == (s.size : Int)) = true := beq_iff_eq.2 (by omega)
    rw [f28_L7_K, hd]
    simp only [e1, e2, decide_false, cond_false, cond_true, List.dropWhile_nil]
  | k + 1, i, m, hi, hm, ha => by
    obtain ⟨m, rfl⟩ : ∃ m', m = m' + 1 := ⟨m - 1, by omega⟩
    obtain ⟨b, hb, hd, hat⟩ := drop_cons s i (by omega)
    have e1 : (i : Int) < (s.size : Int) := by omega
    have e2 : (0 : Int) ≤ (i : Int) := by omega
    have e3 : ((i : Int) == (s.size : Int)) = false := beq_eq_false_iff_ne.2 (by omega)
    have e4 : (i : Int) ≤ (s.size : Int) := by omega
    have e5 : (0 : Int) ≤ (a : Int) := by omega
    have e6 : (a : Int) ≤ (i : Int) := by omega
    have w1 : IntKind.wrap .i64 ((i : Int) + 1) = ((i + 1 : Nat) : Int) := by rw [wrap64 (by omega) (by omega)]; omega
    have e10 := beqI b 10 (by decide)
    simp only [show ((10 : Nat) : Int) = 10 from rfl, show (10 : Nat).toUInt8 = (10 : UInt8) from rfl] at e10
    rw [f28_L7_K, hat, hd, w1]
    simp only [e1, e2, e3, e4, e5, e6, decide_true, Bool.and_self, cond_true, cond_false, bne, e10, Int.toNat_natCast]
    by_cases c : b = 10
    · subst c
      simp only [beq_self_eq_true, Bool.not_true, cond_false, List.dropWhile]
      have hlen : (s.data.toList.drop (i + 1)).length = s.size - (i + 1) := by simp
      have hpos : s.size - ((s.data.toList.drop (i + 1)).length + 1) = i := by rw [hlen]; omega
      rw [hpos]
      obtain ⟨X, hX⟩ : ∃ X, s.extract a i = X := ⟨_, rfl⟩
      simp only [hX]
      have hXs : X.size ≤ s.size := by rw [← hX, ByteArray.size_extract]; omega
      have key : ∀ Y : ByteArray, Y.size ≤ s.size → f28_K fu k0 k1 s sz n false (i : Int) out l Y = kR fu k0 k1 s sz n i out l Y := fun Y hY => K_is fu k0 k1 s sz n i out l Y hs (by omega) hY h0 h1 hn0 hn1 hl ho hfu
      have hT := sufB_one X 13
      rw [show ((13 : UInt8).toNat : Int) = 13 from rfl] at hT
      unfold trimB crB
      rw [hT]
      have e1' : (⟨#[13]⟩ : ByteArray).size = 1 := rfl
      rw [e1']
      by_cases c0 : 0 < X.size
      · have g1 : (X.size : Int) > 0 := by omega
        have w2 : IntKind.wrap .i64 ((X.size : Int) - 1) = ((X.size - 1 : Nat) : Int) := by rw [wrap64 (by omega) (by omega)]; omega
        have g2 : (0 : Int) ≤ ((X.size - 1 : Nat) : Int) := by omega
        have g3 : ((X.size - 1 : Nat) : Int) < (X.size : Int) := by omega
        have g4 : ((X.size - 1 : Nat) : Int) ≤ (X.size : Int) := by omega
        rw [decide_eq_true c0]
        simp only [g1, w2, g2, g3, g4, decide_true, Bool.and_self, Bool.true_and, cond_true, Int.toNat_natCast]
        rw [key X hXs, key (X.extract 0 (X.size - 1)) (by rw [ByteArray.size_extract]; omega)]
        cases bAt X ((X.size - 1 : Nat) : Int) == 13 <;> rfl
      · have g1 : ¬ (X.size : Int) > 0 := by omega
        rw [decide_eq_false c0, decide_eq_false g1]
        simp only [Bool.false_and, cond_false]
        rw [key X hXs]
    · have e : (b == 10) = false := by simpa using c
      simp only [e, Bool.not_false, cond_true, List.dropWhile, bne]
      exact L7_is fu k0 k1 s sz n out l a hs h0 h1 hn0 hn1 hl ho hfu k (i + 1) m (by omega) (by omega) (by omega)
end Sx

/-
  Layer 29: the document's answer to all octets, in plain Lean, and as a specification.
-/
set_option linter.unusedVariables false
set_option linter.unusedSimpArgs false
namespace Sx
open Go Go.Proofs
set_option maxRecDepth 100000
def lineX (rest : List UInt8) : ByteArray := trimB ⟨(rest.takeWhile (· != 10)).toArray⟩ crB
/-- What comes of octets, behind pieces of a command that are there. -/
noncomputable def allF : Nat → List UInt8 → List SV → Int → Int → List SV → List SV × Int
  | 0, _, _, _, _, out => (out, 0)
  | f + 1, rest, l, sz, n, out => match rest.dropWhile (· != 10) with
    | [] => (out, 0)
    | _ :: r =>
      if sz + ((lineX rest).size : Int) > 600 then allF f r [] 0 0 (endF (l ++ [pieceV false (cut602 (lineX rest))]) true out)
      else if annN (lineX rest) < 0 then allF f r [] 0 0 (endF (l ++ [pieceV false (annS (lineX rest))]) false out)
      else if annN (lineX rest) > 4000 ∨ n = 4 then allF f r [] 0 0 (endF (l ++ [pieceV false (annS (lineX rest))]) true out)
      else if (r.length : Int) < annN (lineX rest) then (out ++ [moreV], annN (lineX rest) - (r.length : Int))
      else allF f (r.drop (annN (lineX rest)).toNat) (l ++ [pieceV false (annS (lineX rest))] ++ [pieceV true ⟨(r.take (annN (lineX rest)).toNat).toArray⟩]) (sz + ((lineX rest).size : Int)) (n + 1) (out ++ [moreV])
def rr (x : List SV × Int) : Option SV := some (.tup [.lst 82 x.1, .int .i64 x.2])
theorem endF_len (l : List SV) (over : Bool) (out : List SV) : (endF l over out).length ≤ out.length + 1 := by
  unfold endF
  cases someP l <;> simp
theorem split10 (rest : List UInt8) {c : UInt8} {r : List UInt8} (h : rest.dropWhile (· != 10) = c :: r) : rest = rest.takeWhile (· != 10) ++ 10 :: r := by
  have h1 := List.takeWhile_append_dropWhile (p := (· != (10 : UInt8))) (l := rest)
  have hc : c = 10 := by
    have := List.head?_dropWhile_not (p := (· != (10 : UInt8))) (l := rest)
    rw [h] at this
    simpa using this
  rw [h, hc] at h1
  exact h1.symm
theorem L6_is (fu : Nat) (s : ByteArray) (hs : s.size < 1000000000) (hfu : 4294967200 < fu) : ∀ (N a k0 m f : Nat) (sz n : Int) (out l : List SV), N < 1000000000 → a ≤ s.size → s.size - a ≤ N → N < m → N < k0 → N < f → 0 ≤ sz → sz ≤ a → 0 ≤ n → n ≤ a → sumP l ≤ 2 * a → out.length ≤ a →
    f28_L6 fu m k0 s (a : Int) sz n false out l = rr (allF f (s.data.toList.drop a) l sz n out)
  | N, a, k0, m, f, sz, n, out, l, hNN, ha, hN, hm, hk, hf, z0, z1, n0, n1, hl, ho => by
    obtain ⟨m, rfl⟩ : ∃ m', m = m' + 1 := ⟨m - 1, by omega⟩
    obtain ⟨k0, rfl⟩ : ∃ m', k0 = m' + 1 := ⟨k0 - 1, by omega⟩
    obtain ⟨f, rfl⟩ : ∃ m', f = m' + 1 := ⟨f - 1, by omega⟩
    rw [f28_L6_eq, L7_is fu (k0 + 1) m s sz n out l a hs z0 (by omega) n0 (by omega) (by omega) (by omega) hfu (s.size - a) a fu (by omega) (by omega) (Nat.le_refl _)]
    unfold allF
    cases hd : (s.data.toList.drop a).dropWhile (· != 10) with
    | nil => rfl
    | cons c r =>
      simp only
      have hsp := split10 _ hd
      generalize hx : lineX (s.data.toList.drop a) = X
      obtain ⟨tw, htw⟩ : ∃ tw, (s.data.toList.drop a).takeWhile (· != 10) = tw := ⟨_, rfl⟩
      rw [htw] at hsp
      have hlen : s.size - a = tw.length + (r.length + 1) := by
        have := congrArg List.length hsp
        simpa using this
      have he : s.size - (r.length + 1) = a + tw.length := by omega
      have hext : s.extract a (a + tw.length) = ⟨tw.toArray⟩ := by
        apply ByteArray.ext
        apply Array.toList_inj.1
        simp only [ByteArray.data_extract, Array.toList_extract, List.extract_eq_take_drop]
        rw [hsp, Nat.add_sub_cancel_left]
        simp
      have hX : trimB (s.extract a (a + tw.length)) crB = X := by rw [hext, ← hx]; unfold lineX; rw [htw]
      have hdr : s.data.toList.drop (a + tw.length + 1) = r := by
        have : s.data.toList.drop (a + tw.length + 1) = (s.data.toList.drop a).drop (tw.length + 1) := by rw [List.drop_drop]; congr 1
        rw [this, hsp]
        simp
      have hXl : X.size ≤ tw.length := by
        rw [← hX, hext]
        refine Nat.le_trans (trimB_le _ _) ?_
        simp [ByteArray.size]
      have hrl : s.size - (a + tw.length + 1) = r.length := by omega
      rw [he, hX]
      unfold kR
      rw [hrl]
      obtain ⟨M, rfl⟩ : ∃ M, N = M + 1 := ⟨N - 1, by omega⟩
      have ends : ∀ out' : List SV, out'.length ≤ out.length + 1 → f28_L3 fu (k0 + 1) s ((a + tw.length + 1 : Nat) : Int) out' = rr (allF f r [] 0 0 out') := fun out' h' => by
        rw [f28_L3_eq, ← hdr]
        exact L6_is fu s hs hfu M (a + tw.length + 1) k0 fu f 0 0 out' [] (by omega) (by omega) (by omega) (by omega) (by omega) (by omega) (by omega) (by omega) (by omega) (by omega) (by simp [sumP]) (by omega)
      by_cases c1 : sz + (X.size : Int) > 600
      · rw [if_pos c1, if_pos c1, ends _ (endF_len _ _ _)]
      · rw [if_neg c1, if_neg c1]
        by_cases c2 : annN X < 0
        · rw [if_pos c2, if_pos c2, ends _ (endF_len _ _ _)]
        · rw [if_neg c2, if_neg c2]
          by_cases c3 : annN X > 4000 ∨ n = 4
          · rw [if_pos c3, if_pos c3, ends _ (endF_len _ _ _)]
          · rw [if_neg c3, if_neg c3]
            by_cases c4 : (r.length : Int) < annN X
            · rw [if_pos c4, if_pos c4]; rfl
            · rw [if_neg c4, if_neg c4]
              obtain ⟨q, hq⟩ : ∃ q : Nat, annN X = q := ⟨(annN X).toNat, by omega⟩
              rw [hq]
              simp only [Int.toNat_natCast]
              have hext2 : s.extract (a + tw.length + 1) (a + tw.length + 1 + q) = ⟨(r.take q).toArray⟩ := by
                apply ByteArray.ext
                apply Array.toList_inj.1
                simp only [ByteArray.data_extract, Array.toList_extract, List.extract_eq_take_drop]
                rw [hdr, Nat.add_sub_cancel_left]
              have hdr2 : s.data.toList.drop (a + tw.length + 1 + q) = r.drop q := by
                rw [← hdr, List.drop_drop]
              have hsum := sumP_app (l ++ [pieceV false (annS X)]) (pieceV true ⟨(r.take q).toArray⟩)
              have hsum2 := sumP_app l (pieceV false (annS X))
              have e1 : (strP (pieceV true ⟨(r.take q).toArray⟩)).size = q := by
                show (⟨(r.take q).toArray⟩ : ByteArray).size = q
                simp only [ByteArray.size, List.size_toArray, List.length_take]; omega
              have e2 : (strP (pieceV false (annS X))).size ≤ X.size := annS_le X
              rw [hext2, ← hdr2]
              exact L6_is fu s hs hfu M (a + tw.length + 1 + q) (k0 + 1) m f _ _ _ _ (by omega) (by omega) (by omega) (by omega) (by omega) (by omega) (by omega) (by omega) (by omega) (by omega) (by omega) (by simp; omega)
  termination_by N => N
noncomputable def allL (s : List UInt8) : List SV × Int := allF (s.length + 1) s [] 0 0 []
noncomputable def gAll : List SV → Option (Bool × SV)
  | [.str s] => some (decide (s.size < 1000000000), .tup [.lst 82 (allL s.data.toList).1, .int .i64 (allL s.data.toList).2])
  | _ => none
theorem s28_ok : SpecOk rE 28 (.plain gAll) := by
  refine plain_of_run (fx_ok lH0_ok [] f28_live) (fn := Try.f28) (by kernel_rfl) (by decide) (by rfl) (fun args sv h => ?_)
  unfold gAll at h
  split at h
  · rename_i s
    simp only [Option.some.injEq, Prod.mk.injEq, decide_eq_true_eq] at h
    obtain ⟨hs, rfl⟩ := h
    refine ⟨rfl, rfl, 4294967290, ?_⟩
    show evFun f28_X 4294967290 Try.f28 (frz f28_X.Ty Try.f28) [.str s] [] [] = _
    have := L6_is 4294967290 s hs (by omega) s.size 0 4294967289 4294967290 (s.size + 1) 0 0 [] [] hs (by omega) (by omega) (by omega) (by omega) (by omega) (by omega) (by omega) (by omega) (by omega) (by simp [sumP]) (by simp)
    rw [show ((0 : Nat) : Int) = 0 from rfl, List.drop_zero] at this
    rw [f28_eq, show (4294967290 : Nat) = 4294967289 + 1 from rfl, f28_L3_eq]
    rw [show (4294967289 + 1 : Nat) = 4294967290 from rfl, this]
    unfold allL rr
    have : s.data.toList.length = s.size := by simp
    rw [this]
  · cases h
end Sx

/-
  What the executor says of functions: the normal forms, each compared by the kernel. (Printed by a program.)
-/
set_option linter.unusedVariables false
namespace Sx
open Go Go.Proofs
set_option maxRecDepth 100000
/-- The slots that are needed at the loops' heads of 'hamper/hamperref29.Same'. -/
noncomputable def f29_live : Nat → List Nat × List (Nat × TypeId) := fun h => bif Nat.beq h 4 then ([0, 1, 5], nilsOf (tyOf Try.prog) [(0, 47), (1, 47), (5, 3)]) else ([], [])
noncomputable def f29_X : Fx := ⟨tyOf Try.prog, ofList lI0, [], f29_live⟩
def f29_st4 (x0 : List SV) (x1 : List SV) (x2 : Int) : St := St.mk
  [SV.lst (82 : Nat) x0, SV.lst (82 : Nat) x1, SV.dead, SV.dead, SV.dead, SV.int IntKind.i64 x2, SV.dead, SV.dead, SV.dead, SV.dead, SV.dead, SV.dead, SV.dead, SV.dead, SV.dead, SV.dead, SV.dead, SV.dead, SV.dead,
    SV.dead, SV.dead, SV.dead, SV.dead, SV.dead, SV.dead, SV.dead, SV.dead, SV.dead, SV.dead, SV.dead, SV.dead, SV.dead, SV.dead, SV.dead, SV.dead, SV.dead, SV.dead, SV.dead, SV.dead, SV.dead, SV.dead, SV.dead, SV.dead,
    SV.dead, SV.dead, SV.dead, SV.dead, SV.dead, SV.dead, SV.dead, SV.dead, SV.dead, SV.dead, SV.dead, SV.dead]
  [] []
noncomputable def f29_L4 (fu fm : Nat) (x0 : List SV) (x1 : List SV) (x2 : Int) : Option (SV) := atLoop f29_X Try.f29 (frz f29_X.Ty Try.f29) fu [.r, .r, .l, .r, .b] fm (f29_st4 x0 x1 x2)

theorem f29_L4_eq (fu fm : Nat) (x0 : List SV) (x1 : List SV) (x2 : Int) : f29_L4 fu (fm + 1) x0 x1 x2 = bif decide (x2 < (↑(List.length x0) : Int)) then
  bif decide ((0 : Int) ≤ x2) && decide (x2 < (↑(List.length x0) : Int)) then
    bif decide ((0 : Int) ≤ x2) && decide (x2 < (↑(List.length x1) : Int)) then
      bif asInt (List.getD (cellsOf (List.getD x0 (Int.toNat x2) SV.dead)) (0 : Nat) SV.dead) != asInt (List.getD (cellsOf (List.getD x1 (Int.toNat x2) SV.dead)) (0 : Nat) SV.dead) then some (SV.bool false)
      else
        bif decide ((0 : Int) ≤ x2) && decide (x2 < (↑(List.length x0) : Int)) then
          bif decide ((0 : Int) ≤ x2) && decide (x2 < (↑(List.length x1) : Int)) then
            bif
                !ByteArray.toList (asStr (List.getD (cellsOf (List.getD x0 (Int.toNat x2) SV.dead)) (1 : Nat) SV.dead)) ==
                    ByteArray.toList (asStr (List.getD (cellsOf (List.getD x1 (Int.toNat x2) SV.dead)) (1 : Nat) SV.dead)) then
              some (SV.bool false)
            else
              bif decide ((0 : Int) ≤ x2) && decide (x2 < (↑(List.length x0) : Int)) then
                bif decide ((0 : Int) ≤ x2) && decide (x2 < (↑(List.length x1) : Int)) then
                  bif
                      decide (List.length (asLst (List.getD (cellsOf (List.getD x0 (Int.toNat x2) SV.dead)) (2 : Nat) SV.dead)) < (4294967281 : Nat)) &&
                        eqL (asLst (List.getD (cellsOf (List.getD x0 (Int.toNat x2) SV.dead)) (2 : Nat) SV.dead)) (asLst (List.getD (cellsOf (List.getD x1 (Int.toNat x2) SV.dead)) (2 : Nat) SV.dead)) then
                    f29_L4 fu fm x0 x1 (IntKind.wrap IntKind.i64 (x2 + (1 : Int)))
                  else none
                else none
              else none
          else none
        else none
    else none
  else none
  else some (SV.bool true) := by kernel_rfl

theorem f29_eq (fu : Nat) (a : List SV) (b : List SV) : evFun f29_X fu Try.f29 (frz f29_X.Ty Try.f29) [.lst 82 a, .lst 82 b] [] [] = bif (↑(List.length a) : Int) != (↑(List.length b) : Int) then some (SV.bool false) else f29_L4 fu fu a b (0 : Int) := by kernel_rfl

end Sx

/-
  Layer 29: the same inputs are the same.
-/
set_option linter.unusedVariables false
set_option linter.unusedSimpArgs false
namespace Sx
open Go Go.Proofs
set_option maxRecDepth 100000
def toksI (x : SV) : List SV := asLst (List.getD (cellsOf x) 2 SV.dead)
def okI (x : SV) : Bool := decide ((toksI x).length < 4294967281)
noncomputable def gSameI : List SV → Option (Bool × SV)
  | [.lst 82 a, .lst 82 b] => some (decide (a.length < 4294967281) && (a.all okI && eqL a b), .bool true)
  | _ => none
theorem L29_is (fu : Nat) (a : List SV) (hs : a.length < 4294967281) (hok : ∀ x ∈ a, okI x = true) : ∀ k i m, i + k = a.length → k < m → f29_L4 fu m a a (i : Int) = some (.bool true)
  | 0, i, m, hi, hm => by
    obtain ⟨m, rfl⟩ : ∃ m', m = m' + 1 := ⟨m - 1, by omega⟩
    have h1 : ¬ ((i : Int) < (a.length : Int)) := by omega
    rw [f29_L4_eq]
    simp only [h1, decide_false, cond_false]
  | k + 1, i, m, hi, hm => by
    obtain ⟨m, rfl⟩ : ∃ m', m = m' + 1 := ⟨m - 1, by omega⟩
    obtain ⟨x, hd, hx⟩ := drop_at a i (by omega)
    have hmem : x ∈ a := by
      have : x ∈ a.drop i := by rw [hd]; exact List.mem_cons_self
      exact List.mem_of_mem_drop this
    have hxok : decide ((asLst (List.getD (cellsOf x) 2 SV.dead)).length < 4294967281) = true := hok x hmem
    have h1 : (i : Int) < (a.length : Int) := by omega
    have h2 : (0 : Int) ≤ (i : Int) := by omega
    have w1 : IntKind.wrap .i64 ((i : Int) + 1) = ((i + 1 : Nat) : Int) := by rw [wrap64 (by omega) (by omega)]; omega
    have ih := L29_is fu a hs hok k (i + 1) m (by omega) (by omega)
    rw [f29_L4_eq, w1, ih]
    simp only [h1, h2, decide_true, Bool.and_self, cond_true, Int.toNat_natCast, hx, hxok, eqL_self, beq_self_eq_true, bne, Bool.not_true, cond_false]
theorem s29_ok : SpecOk rE 29 (.look (lookOf (tyOf Try.prog) gSameI)) := by
  refine look_of_run (fx_ok lI0_ok [] f29_live) (fn := Try.f29) (by kernel_rfl) (by decide) (by rfl) (fun args sv h => ?_)
  unfold gSameI at h
  split at h
  · rename_i a b
    simp only [Option.some.injEq, Prod.mk.injEq, Bool.and_eq_true, decide_eq_true_eq, List.all_eq_true] at h
    obtain ⟨⟨hs, hok, he⟩, rfl⟩ := h
    obtain rfl := eqL_eq he
    refine ⟨rfl, rfl, 4294967290, ?_⟩
    show evFun f29_X 4294967290 Try.f29 (frz f29_X.Ty Try.f29) [.lst 82 a, .lst 82 a] [] [] = _
    have := L29_is 4294967290 a hs hok a.length 0 4294967290 (by omega) (by omega)
    rw [show ((0 : Nat) : Int) = 0 from rfl] at this
    have e : ((a.length : Int) != (a.length : Int)) = false := by simp
    rw [f29_eq, this, e]
    rfl
  · cases h
end Sx

/-
  What the executor says of functions: the normal forms, each compared by the kernel. (Printed by a program.)
-/
set_option linter.unusedVariables false
namespace Sx
open Go Go.Proofs
set_option maxRecDepth 100000
noncomputable def lAw : List (Nat × Spec) := (27, .wide (wideOf (tyOf Try.prog) k27)) :: (26, .wide (wideOf (tyOf Try.prog) c26)) :: (30, .look (lookOf (tyOf Try.prog) g30)) :: rLib
theorem lAw_ok : SpecsOk rE (ofList lAw) := .cons s27_ok (.cons f26_ok (.cons f30_ok rLib_ok))
set_option maxRecDepth 100000
/-- 'hamper/hamperref29.Toks', as it runs. -/
noncomputable def r53_live : Nat → List Nat × List (Nat × TypeId) := fun h => bif Nat.beq h 4 then ([0, 1, 5], nilsOf (tyOf Try.prog) [(0, 80), (1, 80), (5, 3)]) else ([], [])
noncomputable def r53_X (sm : List Nat) : Fx := ⟨tyOf Try.prog, ofList lAw, sm, r53_live⟩
noncomputable def r53_s : Spec := .plain (plainRun (r53_X []) 50 Try.f53)
theorem r53_ok : SpecOk rE 53 r53_s := plain_of_self (fx_ok lAw_ok [] r53_live) (by kernel_rfl) (by decide) (by rfl) 50
noncomputable def lAw_53 : List (Nat × Spec) := (53, r53_s) :: lAw
theorem lAw_53_ok : SpecsOk rE (ofList lAw_53) := .cons r53_ok lAw_ok
/-- 'hamper/hamperref29.Same', as it runs. -/
noncomputable def r29_live : Nat → List Nat × List (Nat × TypeId) := fun h => bif Nat.beq h 4 then ([0, 1, 5], nilsOf (tyOf Try.prog) [(0, 47), (1, 47), (5, 3)]) else ([], [])
noncomputable def r29_X (sm : List Nat) : Fx := ⟨tyOf Try.prog, ofList lAw_53, sm, r29_live⟩
noncomputable def r29_s : Spec := .wide (wideOf (tyOf Try.prog) (coreRun r29_X (tyOf Try.prog) 50 Try.f29))
theorem r29_ok : SpecOk rE 29 r29_s := wide_of_self rE_ok (fun sm => ⟨fx_ok lAw_53_ok sm r29_live, rfl⟩) (by kernel_rfl) (by decide) (by rfl) 50
noncomputable def lAw_53_29 : List (Nat × Spec) := (29, r29_s) :: lAw_53
theorem lAw_53_29_ok : SpecsOk rE (ofList lAw_53_29) := .cons r29_ok lAw_53_ok
/-- The slots that are needed at the loops' heads of 'hamper/hamperlaw29.awake'. -/
noncomputable def f31_live : Nat → List Nat × List (Nat × TypeId) := fun h => ([], [])
noncomputable def f31_X : Fx := ⟨tyOf Try.prog, ofList lAw_53_29, [], f31_live⟩
theorem f31_eq (fu : Nat)  : evFun f31_X fu Try.f31 (frz f31_X.Ty Try.f31) [] [] [] = some (SV.bool true) := by kernel_rfl

end Sx

/-
  Layer 29: the chapter's examples hold; the table for the statement.
-/
set_option linter.unusedVariables false
set_option linter.unusedSimpArgs false
namespace Sx
open Go Go.Proofs
set_option maxRecDepth 100000
def gAw31 : List SV → Option (Bool × SV) | [] => some (true, .bool true) | _ => none
theorem s31_ok : SpecOk rE 31 (.plain gAw31) := by
  refine plain_of_run (fx_ok lAw_53_29_ok [] f31_live) (fn := Try.f31) (by kernel_rfl) (by decide) (by rfl) (fun args sv h => ?_)
  unfold gAw31 at h
  split at h
  · cases h; exact ⟨rfl, rfl, 0, f31_eq 0⟩
  · cases h
noncomputable def lJ0 : List (Nat × Spec) := (27, .wide (wideOf (tyOf Try.prog) k27)) :: (26, .wide (wideOf (tyOf Try.prog) c26)) :: (28, .plain gAll) :: (29, .look (lookOf (tyOf Try.prog) gSameI)) :: (30, .look (lookOf (tyOf Try.prog) g30)) :: (25, .plain gCh) :: (31, .plain gAw31) :: rLib
theorem lJ0_ok : SpecsOk rE (ofList lJ0) := .cons s27_ok (.cons f26_ok (.cons s28_ok (.cons s29_ok (.cons f30_ok (.cons s25_ok (.cons s31_ok rLib_ok))))))
end Sx

/-
  What the executor says of functions: the normal forms, each compared by the kernel. (Printed by a program.)
-/
set_option linter.unusedVariables false
namespace Sx
open Go Go.Proofs
set_option maxRecDepth 100000
/-- The slots that are needed at the loops' heads of 'hamper/hamperlaw29.LineFeeds'. -/
noncomputable def f5_live : Nat → List Nat × List (Nat × TypeId) := fun h => bif Nat.beq h 13 then ([0, 3, 4, 5, 6, 7, 8], nilsOf (tyOf Try.prog) [(0, 43), (3, 45), (4, 47), (5, 35), (6, 3), (7, 35), (8, 3)]) else bif Nat.beq h 8 then ([0, 3, 4, 5, 6], nilsOf (tyOf Try.prog) [(0, 43), (3, 45), (4, 47), (5, 35), (6, 3)]) else ([], [])
noncomputable def f5_X : Fx := ⟨tyOf Try.prog, ofList lJ0, [], f5_live⟩
def f5_st13 (x0 : List SV) (x1 : Int) (x2 : Int) (x3 : Bool) (x4 : Int) (x5 : Int) (x6 : Int) (x7 : List SV) (x8 : List SV) (x9 : List SV) (x10 : List SV) (x11 : List SV) : St := St.mk
  [SV.lst (35 : Nat) x0, SV.dead, SV.dead, SV.box (100 : Nat) (0 : Nat), SV.row (101 : Nat), SV.row (102 : Nat), SV.int IntKind.i64 x1, SV.row (103 : Nat), SV.int IntKind.i64 x2, SV.dead, SV.dead, SV.dead, SV.dead,
    SV.dead, SV.dead, SV.dead, SV.dead, SV.dead, SV.dead, SV.dead, SV.dead, SV.dead, SV.dead, SV.dead, SV.dead, SV.dead, SV.dead, SV.dead, SV.dead, SV.dead, SV.dead, SV.dead, SV.dead, SV.dead, SV.dead, SV.dead, SV.dead,
    SV.dead, SV.dead, SV.dead, SV.dead, SV.dead, SV.dead, SV.dead, SV.dead, SV.dead, SV.dead, SV.dead, SV.dead, SV.dead, SV.dead, SV.dead, SV.dead, SV.dead, SV.dead, SV.dead, SV.dead, SV.dead, SV.dead, SV.dead, SV.dead,
    SV.dead, SV.dead, SV.dead, SV.dead, SV.dead, SV.dead, SV.dead, SV.dead, SV.dead]
  [((100 : Nat), SObj.box (73 : Nat) [SV.row (104 : Nat), SV.row (105 : Nat), SV.bool x3, SV.int IntKind.i64 x4, SV.int IntKind.i64 x5, SV.int IntKind.i64 x6]), ((101 : Nat), SObj.row (82 : Nat) x7),
    ((102 : Nat), SObj.row (5 : Nat) x8), ((103 : Nat), SObj.row (5 : Nat) x9), ((104 : Nat), SObj.row (77 : Nat) x10), ((105 : Nat), SObj.row (5 : Nat) x11)]
  [(100 : Nat), (101 : Nat), (102 : Nat), (103 : Nat), (104 : Nat), (105 : Nat)]
noncomputable def f5_L13 (fu fm : Nat) (k0 : Nat) (x0 : List SV) (x1 : Int) (x2 : Int) (x3 : Bool) (x4 : Int) (x5 : Int) (x6 : Int) (x7 : List SV) (x8 : List SV) (x9 : List SV) (x10 : List SV) (x11 : List SV) : Option (SV) := atLoop f5_X Try.f5 (frz f5_X.Ty Try.f5) fu [.r, .r, .r, .r, .r, .r, .l, .r, .b, .o k0, .r, .l, .b, .r, .r, .l, .r, .b] fm (f5_st13 x0 x1 x2 x3 x4 x5 x6 x7 x8 x9 x10 x11)

def f5_st8 (x0 : List SV) (x1 : Int) (x2 : Bool) (x3 : Int) (x4 : Int) (x5 : Int) (x6 : List SV) (x7 : List SV) (x8 : List SV) (x9 : List SV) : St := St.mk
  [SV.lst (35 : Nat) x0, SV.dead, SV.dead, SV.box (100 : Nat) (0 : Nat), SV.row (101 : Nat), SV.row (102 : Nat), SV.int IntKind.i64 x1, SV.dead, SV.dead, SV.dead, SV.dead, SV.dead, SV.dead, SV.dead, SV.dead, SV.dead,
    SV.dead, SV.dead, SV.dead, SV.dead, SV.dead, SV.dead, SV.dead, SV.dead, SV.dead, SV.dead, SV.dead, SV.dead, SV.dead, SV.dead, SV.dead, SV.dead, SV.dead, SV.dead, SV.dead, SV.dead, SV.dead, SV.dead, SV.dead, SV.dead,
    SV.dead, SV.dead, SV.dead, SV.dead, SV.dead, SV.dead, SV.dead, SV.dead, SV.dead, SV.dead, SV.dead, SV.dead, SV.dead, SV.dead, SV.dead, SV.dead, SV.dead, SV.dead, SV.dead, SV.dead, SV.dead, SV.dead, SV.dead, SV.dead,
    SV.dead, SV.dead, SV.dead, SV.dead, SV.dead, SV.dead]
  [((100 : Nat), SObj.box (73 : Nat) [SV.row (103 : Nat), SV.row (104 : Nat), SV.bool x2, SV.int IntKind.i64 x3, SV.int IntKind.i64 x4, SV.int IntKind.i64 x5]), ((101 : Nat), SObj.row (82 : Nat) x6),
    ((102 : Nat), SObj.row (5 : Nat) x7), ((103 : Nat), SObj.row (77 : Nat) x8), ((104 : Nat), SObj.row (5 : Nat) x9)]
  [(100 : Nat), (101 : Nat), (102 : Nat), (103 : Nat), (104 : Nat)]
noncomputable def f5_L8 (fu fm : Nat) (x0 : List SV) (x1 : Int) (x2 : Bool) (x3 : Int) (x4 : Int) (x5 : Int) (x6 : List SV) (x7 : List SV) (x8 : List SV) (x9 : List SV) : Option (SV) := atLoop f5_X Try.f5 (frz f5_X.Ty Try.f5) fu [.r, .r, .r, .r, .r, .r, .l, .r, .b] fm (f5_st8 x0 x1 x2 x3 x4 x5 x6 x7 x8 x9)

theorem f5_L13_eq (fu fm : Nat) (k0 : Nat) (x0 : List SV) (x1 : Int) (x2 : Int) (x3 : Bool) (x4 : Int) (x5 : Int) (x6 : Int) (x7 : List SV) (x8 : List SV) (x9 : List SV) (x10 : List SV) (x11 : List SV) : f5_L13 fu (fm + 1) k0 x0 x1 x2 x3 x4 x5 x6 x7 x8 x9 x10 x11 = bif decide (x2 < (↑(List.length x9) : Int)) then
  bif decide ((0 : Int) ≤ x2) && decide (x2 < (↑(List.length x9) : Int)) then
    f5_L13 fu fm k0 x0 x1 (IntKind.wrap IntKind.i64 (x2 + (1 : Int))) x3 x4 x5 x6 x7 x8 (List.set x9 (Int.toNat x2) (SV.int IntKind.u8 (120 : Int))) x10 x11
  else none
  else
  bif decide ((0 : Int) ≤ x1) && decide (x1 < (↑(List.length x0) : Int)) then
    bif
        decide ((List.length x8 + List.length (asLst (List.getD (cellsOf (List.getD x0 (Int.toNat x1) SV.dead)) (0 : Nat) SV.dead))) * (1 : Nat) ≤ (140737488355328 : Nat)) &&
          decide (List.length x8 + List.length (asLst (List.getD (cellsOf (List.getD x0 (Int.toNat x1) SV.dead)) (0 : Nat) SV.dead)) ≤ (9223372036854775807 : Nat)) then
      bif decide (ByteArray.size (strOf (x8 ++ asLst (List.getD (cellsOf (List.getD x0 (Int.toNat x1) SV.dead)) (0 : Nat) SV.dead))) < (1000000000 : Nat)) then
        bif decide (List.length x7 < (4294967281 : Nat)) && (List.all x7 okI && eqL x7 (allL (strOf (x8 ++ asLst (List.getD (cellsOf (List.getD x0 (Int.toNat x1) SV.dead)) (0 : Nat) SV.dead))).data.toList).fst) then
          bif x6 != (allL (strOf (x8 ++ asLst (List.getD (cellsOf (List.getD x0 (Int.toNat x1) SV.dead)) (0 : Nat) SV.dead))).data.toList).snd then some (SV.bool false)
          else
            bif decide (x6 > (4000 : Int)) then some (SV.bool false)
            else f5_L8 fu k0 x0 (IntKind.wrap IntKind.i64 (x1 + (1 : Int))) x3 x4 x5 x6 x7 (x8 ++ asLst (List.getD (cellsOf (List.getD x0 (Int.toNat x1) SV.dead)) (0 : Nat) SV.dead)) x10 x11
        else none
      else none
    else none
  else none := by kernel_rfl

theorem f5_L8_eq (fu fm : Nat) (x0 : List SV) (x1 : Int) (x2 : Bool) (x3 : Int) (x4 : Int) (x5 : Int) (x6 : List SV) (x7 : List SV) (x8 : List SV) (x9 : List SV) : f5_L8 fu (fm + 1) x0 x1 x2 x3 x4 x5 x6 x7 x8 x9 = bif decide (x1 < (↑(List.length x0) : Int)) then
  bif decide ((0 : Int) ≤ x1) && decide (x1 < (↑(List.length x0) : Int)) then
    bif
        decide (((0 : Nat) + List.length (asLst (List.getD (cellsOf (List.getD x0 (Int.toNat x1) SV.dead)) (0 : Nat) SV.dead))) * (1 : Nat) ≤ (140737488355328 : Nat)) &&
          decide ((0 : Nat) + List.length (asLst (List.getD (cellsOf (List.getD x0 (Int.toNat x1) SV.dead)) (0 : Nat) SV.dead)) ≤ (9223372036854775807 : Nat)) then
      bif fdOk x8 x9 x3 x4 x5 ([] ++ asLst (List.getD (cellsOf (List.getD x0 (Int.toNat x1) SV.dead)) (0 : Nat) SV.dead)) then
        bif
            decide ((List.length x6 + List.length (fdR x8 x9 x2 x3 x4 x5 ([] ++ asLst (List.getD (cellsOf (List.getD x0 (Int.toNat x1) SV.dead)) (0 : Nat) SV.dead))).snd) * (48 : Nat) ≤ (140737488355328 : Nat)) &&
              decide (List.length x6 + List.length (fdR x8 x9 x2 x3 x4 x5 ([] ++ asLst (List.getD (cellsOf (List.getD x0 (Int.toNat x1) SV.dead)) (0 : Nat) SV.dead))).snd ≤ (9223372036854775807 : Nat)) then
          f5_L13 fu fu fm x0 x1 (0 : Int) (fdR x8 x9 x2 x3 x4 x5 ([] ++ asLst (List.getD (cellsOf (List.getD x0 (Int.toNat x1) SV.dead)) (0 : Nat) SV.dead))).fst.o
            (fdR x8 x9 x2 x3 x4 x5 ([] ++ asLst (List.getD (cellsOf (List.getD x0 (Int.toNat x1) SV.dead)) (0 : Nat) SV.dead))).fst.sz
            (fdR x8 x9 x2 x3 x4 x5 ([] ++ asLst (List.getD (cellsOf (List.getD x0 (Int.toNat x1) SV.dead)) (0 : Nat) SV.dead))).fst.n
            (fdR x8 x9 x2 x3 x4 x5 ([] ++ asLst (List.getD (cellsOf (List.getD x0 (Int.toNat x1) SV.dead)) (0 : Nat) SV.dead))).fst.w
            (x6 ++ (fdR x8 x9 x2 x3 x4 x5 ([] ++ asLst (List.getD (cellsOf (List.getD x0 (Int.toNat x1) SV.dead)) (0 : Nat) SV.dead))).snd) x7
            ([] ++ asLst (List.getD (cellsOf (List.getD x0 (Int.toNat x1) SV.dead)) (0 : Nat) SV.dead))
            (fdR x8 x9 x2 x3 x4 x5 ([] ++ asLst (List.getD (cellsOf (List.getD x0 (Int.toNat x1) SV.dead)) (0 : Nat) SV.dead))).fst.p
            (bsv (fdR x8 x9 x2 x3 x4 x5 ([] ++ asLst (List.getD (cellsOf (List.getD x0 (Int.toNat x1) SV.dead)) (0 : Nat) SV.dead))).fst.h)
        else none
      else none
    else none
  else none
  else some (SV.bool true) := by kernel_rfl

theorem f5_eq (fu : Nat) (l : List SV) : evFun f5_X fu Try.f5 (frz f5_X.Ty Try.f5) [.lst 35 l] [] [] = bif List.all l fun x => decide (List.length (chunkB x) < (140737488355329 : Nat)) then f5_L8 fu fu (chL (List.take (40 : Nat) l) (0 : Int)) (0 : Int) false (0 : Int) (0 : Int) (0 : Int) [] [] [] [] else none := by kernel_rfl

end Sx

/-
  Layer 29, the plain law: octet by octet the same comes as of all octets at once.
-/
set_option linter.unusedVariables false
set_option linter.unusedSimpArgs false
namespace Sx
open Go Go.Proofs
set_option maxRecDepth 100000
/-- A reader within a line of which y came. -/
def lineSt (p : List SV) (y : List UInt8) (sz n : Int) : Rd := ⟨p, y.take 602, decide (602 < y.length), sz, n, 0⟩
theorem step_line (p : List SV) (y : List UInt8) (sz n : Int) (c : UInt8) (hc : c ≠ 10) : stepR (lineSt p y sz n) c = (lineSt p (y ++ [c]) sz n, []) := by
  unfold stepR lineSt
  rw [if_neg (by simp), if_neg hc]
  by_cases h : 601 < (y.take 602).length
  · rw [if_pos h]
    have hl : 602 ≤ y.length := by rw [List.length_take] at h; omega
    have e1 : (y ++ [c]).take 602 = y.take 602 := by rw [List.take_append_of_le_length hl]
    have e2 : decide (602 < (y ++ [c]).length) = true := decide_eq_true (by simp; omega)
    rw [e1, e2]
  · rw [if_neg h]
    have hl : y.length ≤ 601 := by rw [List.length_take] at h; omega
    have e1 : (y ++ [c]).take 602 = y ++ [c] := List.take_of_length_le (by simp; omega)
    have e2 : y.take 602 = y := List.take_of_length_le (by omega)
    have e3 : decide (602 < (y ++ [c]).length) = decide (602 < y.length) := decide_eq_decide.2 (by simp; omega)
    rw [e1, e2, e3]
theorem feed_line (p : List SV) (sz n : Int) : ∀ (x y : List UInt8), (∀ c ∈ x, c ≠ 10) → feedR (lineSt p y sz n) x = (lineSt p (y ++ x) sz n, [])
  | [], y, _ => by simp [feedR]
  | c :: x, y, h => by
    have ih := feed_line p sz n x (y ++ [c]) (fun d hd => h d (List.mem_cons_of_mem _ hd))
    simp only [feedR]
    rw [step_line p y sz n c (h c List.mem_cons_self)]
    simp only
    rw [ih]
    simp
theorem feed_lit (p : List SV) (o : Bool) (sz n : Int) : ∀ (r h : List UInt8) (w : Int), (r.length : Int) < w → feedR ⟨p, h, o, sz, n, w⟩ r = (⟨p, h ++ r, o, sz, n, w - r.length⟩, [])
  | [], h, w, hw => by simp [feedR]
  | c :: r, h, w, hw => by
    have hw' : (r.length : Int) + 1 < w := by simpa using hw
    have ih := feed_lit p o sz n r (h ++ [c]) (w - 1) (by omega)
    have hs : stepR ⟨p, h, o, sz, n, w⟩ c = (⟨p, h ++ [c], o, sz, n, w - 1⟩, []) := by
      unfold stepR
      rw [if_pos (show 0 < w by omega), if_neg (show ¬ w = 1 by omega)]
    simp only [feedR, hs]
    rw [ih]
    simp only [List.append_assoc, List.cons_append, List.nil_append, Prod.mk.injEq, Rd.mk.injEq, true_and, and_true]
    simp; omega
theorem feed_lits (p : List SV) (o : Bool) (sz n : Int) : ∀ (r h : List UInt8) (w : Int), (r.length : Int) = w → 0 < w → feedR ⟨p, h, o, sz, n, w⟩ r = (⟨p ++ [pieceV true ⟨(h ++ r).toArray⟩], [], o, sz, n, 0⟩, [])
  | [], h, w, hw, h0 => by simp at hw; omega
  | [c], h, w, hw, h0 => by
    have hw : w = 1 := by simp at hw; omega
    subst hw
    have hs : stepR ⟨p, h, o, sz, n, 1⟩ c = (⟨p ++ [pieceV true (strOf (bsv (h ++ [c])))], [], o, sz, n, 0⟩, []) := by
      unfold stepR
      rw [if_pos (show (0 : Int) < 1 by omega), if_pos rfl]
    simp only [feedR, hs, bsv_str, List.append_nil]
  | c :: d :: r, h, w, hw, h0 => by
    have hw' : (r.length : Int) + 1 + 1 = w := by simpa using hw
    have ih := feed_lits p o sz n (d :: r) (h ++ [c]) (w - 1) (by simp; omega) (by omega)
    have hs : stepR ⟨p, h, o, sz, n, w⟩ c = (⟨p, h ++ [c], o, sz, n, w - 1⟩, []) := by
      unfold stepR
      rw [if_pos (show 0 < w by omega), if_neg (show ¬ w = 1 by omega)]
    rw [feedR, hs]
    simp only
    rw [ih]
    simp
def lineY (y : List UInt8) : ByteArray := trimB ⟨y.toArray⟩ crB
theorem trimB_cr (s : ByteArray) : trimB s crB = s ∧ True ∨ trimB s crB = s.extract 0 (s.size - 1) ∧ 0 < s.size := by
  unfold trimB
  cases h : sufB s crB with
  | false => exact .inl ⟨rfl, trivial⟩
  | true =>
    right
    have := suf_one s 13 h
    exact ⟨rfl, this.1⟩
theorem mk_size (y : List UInt8) : (⟨y.toArray⟩ : ByteArray).size = y.length := by simp [ByteArray.size]
theorem extract_mk (y : List UInt8) (n : Nat) : (⟨y.toArray⟩ : ByteArray).extract 0 n = ⟨(y.take n).toArray⟩ := by
  apply ByteArray.ext
  apply Array.toList_inj.1
  simp only [ByteArray.data_extract, Array.toList_extract, List.extract_eq_take_drop, Nat.sub_zero, List.drop_zero]
/-- What is kept of a line, at its end. -/
theorem lnX_line (y : List UInt8) : lnX (bsv (y.take 602)) (decide (602 < y.length)) = cut602 (lineY y) := by
  unfold lnX
  rw [bsv_str]
  by_cases h : 602 < y.length
  · rw [decide_eq_true h, cond_true]
    unfold cut602 lineY
    rcases trimB_cr ⟨y.toArray⟩ with ⟨e, _⟩ | ⟨e, _⟩
    · rw [e, mk_size, decide_eq_true (show y.length > 602 by omega), cond_true, extract_mk]
    · rw [e, mk_size, extract_mk, mk_size]
      by_cases h2 : y.length - 1 > 602
      · rw [decide_eq_true (by rw [List.length_take]; omega), cond_true, extract_mk, List.take_take]
        have : min 602 (y.length - 1) = 602 := by omega
        rw [this]
      · rw [decide_eq_false (by rw [List.length_take]; omega), cond_false]
        have : y.length - 1 = 602 := by omega
        rw [this]
  · rw [decide_eq_false h, cond_false, List.take_of_length_le (by omega)]
    have hle : (lineY y).size ≤ 602 := by
      exact Nat.le_trans (trimB_le _ _) (by rw [mk_size]; omega)
    unfold cut602
    rw [decide_eq_false (by omega), cond_false]
    rfl
theorem lnBad_line (y : List UInt8) (sz : Int) (h0 : 0 ≤ sz) : lnBad (bsv (y.take 602)) (decide (602 < y.length)) sz = decide (sz + ((lineY y).size : Int) > 600) := by
  unfold lnBad
  rw [lnX_line]
  have hc : (cut602 (lineY y)).size = min (lineY y).size 602 := by
    unfold cut602
    by_cases h : (lineY y).size > 602
    · rw [decide_eq_true h, cond_true, ByteArray.size_extract]; omega
    · rw [decide_eq_false h, cond_false]; omega
  rw [hc]
  by_cases h : 602 < y.length
  · have : 602 ≤ (lineY y).size := by
      unfold lineY
      rcases trimB_cr ⟨y.toArray⟩ with ⟨e, _⟩ | ⟨e, _⟩
      · rw [e, mk_size]; omega
      · rw [e, extract_mk, mk_size, mk_size, List.length_take]; omega
    rw [decide_eq_true h, Bool.true_or, decide_eq_true (by omega)]
  · rw [decide_eq_false h, Bool.false_or]
    exact decide_eq_decide.2 (by omega)
noncomputable def endO (l : List SV) (over : Bool) : List SV := bif someP l then [inpOf l (bif over then 3 else 0)] else []
theorem endF_endO (l : List SV) (over : Bool) (out : List SV) : endF l over out = out ++ endO l over := by
  unfold endF endO
  cases someP l <;> simp
/-- A line's end, in the document's words. -/
theorem step_end (p : List SV) (y : List UInt8) (sz n : Int) (h0 : 0 ≤ sz) : stepR (lineSt p y sz n) 10 =
    if sz + ((lineY y).size : Int) > 600 then (lineSt [] [] 0 0, endO (p ++ [pieceV false (cut602 (lineY y))]) true)
    else if annN (lineY y) < 0 then (lineSt [] [] 0 0, endO (p ++ [pieceV false (annS (lineY y))]) false)
    else if annN (lineY y) > 4000 ∨ n = 4 then (lineSt [] [] 0 0, endO (p ++ [pieceV false (annS (lineY y))]) true)
    else (⟨bif annN (lineY y) == 0 then p ++ [pieceV false (annS (lineY y))] ++ [pieceV true ⟨#[]⟩] else p ++ [pieceV false (annS (lineY y))], [], false, sz + ((lineY y).size : Int), n + 1, annN (lineY y)⟩, [moreV]) := by
  have hX := lnX_line y
  have hB := lnBad_line y sz h0
  have hgen : ∀ (q : List SV) (k : Int) (over : Bool), lnStay (bsv (y.take 602)) (decide (602 < y.length)) sz n = false → lnQ p (bsv (y.take 602)) (decide (602 < y.length)) sz = q → lnKind (bsv (y.take 602)) (decide (602 < y.length)) sz = (bif over then 3 else 0) → stepR (lineSt p y sz n) 10 = (lineSt [] [] 0 0, endO q over) := by
    intro q k over hst hq hk
    unfold stepR lineSt
    rw [if_neg (by simp), if_pos rfl]
    simp only [lnE, lnP, lnS, lnN, lnW, lnI, hst, hq, hk, Bool.false_or, cond_false]
    unfold endO
    cases someP q with
    | true => rfl
    | false => rfl
  have hQ : lnQ p (bsv (y.take 602)) (decide (602 < y.length)) sz = p ++ [pieceV false (bif decide (sz + ((lineY y).size : Int) > 600) then cut602 (lineY y) else annS (cut602 (lineY y)))] := by
    unfold lnQ
    rw [hB, hX]
  have hS : lnStay (bsv (y.take 602)) (decide (602 < y.length)) sz n = (!decide (sz + ((lineY y).size : Int) > 600) && (decide (0 ≤ annN (cut602 (lineY y))) && (decide (annN (cut602 (lineY y)) ≤ 4000) && !(n == 4)))) := by
    unfold lnStay
    rw [hB, hX]
  have hK : lnKind (bsv (y.take 602)) (decide (602 < y.length)) sz = bif decide (sz + ((lineY y).size : Int) > 600) then 3 else bif decide (annN (cut602 (lineY y)) < 0) then 0 else 3 := by
    unfold lnKind
    rw [hB, hX]
  by_cases c1 : sz + ((lineY y).size : Int) > 600
  · rw [if_pos c1]
    rw [decide_eq_true c1] at hQ hS hK
    exact hgen _ 0 true hS hQ hK
  · rw [if_neg c1]
    have hcut : cut602 (lineY y) = lineY y := by
      unfold cut602
      rw [decide_eq_false (show ¬ (lineY y).size > 602 by omega)]; rfl
    rw [decide_eq_false c1, hcut] at hQ hS hK
    simp only [cond_false, Bool.not_false, Bool.true_and] at hQ hS hK
    by_cases c2 : annN (lineY y) < 0
    · rw [if_pos c2]
      rw [decide_eq_false (show ¬ 0 ≤ annN (lineY y) by omega)] at hS
      rw [decide_eq_true c2] at hK
      exact hgen _ 0 false hS hQ hK
    · rw [if_neg c2]
      rw [decide_eq_false c2] at hK
      by_cases c3 : annN (lineY y) > 4000 ∨ n = 4
      · rw [if_pos c3]
        have hst : lnStay (bsv (y.take 602)) (decide (602 < y.length)) sz n = false := by
          rw [hS]
          rcases c3 with q | q
          · rw [decide_eq_false (show ¬ annN (lineY y) ≤ 4000 by omega)]; simp
          · subst q; simp
        exact hgen _ 0 true hst hQ hK
      · rw [if_neg c3]
        have hst : lnStay (bsv (y.take 602)) (decide (602 < y.length)) sz n = true := by
          have q1 : annN (lineY y) ≤ 4000 := by
            rcases Classical.em (annN (lineY y) > 4000) with q | q
            · exact absurd (.inl q) c3
            · omega
          have q2 : (n == 4) = false := beq_eq_false_iff_ne.2 (fun q => c3 (.inr q))
          rw [hS, decide_eq_true q1, decide_eq_true (show 0 ≤ annN (lineY y) by omega), q2]; rfl
        unfold stepR lineSt
        rw [if_neg (by simp), if_pos rfl]
        simp only [lnE, lnP, lnS, lnN, lnW, lnI, hst, hQ, hX, hcut, Bool.true_or, cond_true, if_true]
theorem feed_all : ∀ (f : Nat) (rest : List UInt8) (l : List SV) (sz n : Int) (out : List SV), rest.length < f → 0 ≤ sz →
    out ++ (feedR (lineSt l [] sz n) rest).2 = (allF f rest l sz n out).1 ∧ (feedR (lineSt l [] sz n) rest).1.w = (allF f rest l sz n out).2 ∧ (allF f rest l sz n out).2 ≤ 4000
  | 0, rest, l, sz, n, out, hf, h0 => by omega
  | f + 1, rest, l, sz, n, out, hf, h0 => by
    have htw : ∀ c ∈ rest.takeWhile (· != 10), c ≠ 10 := fun c hc => by
      have := List.all_takeWhile (p := (· != (10 : UInt8))) (l := rest)
      rw [List.all_eq_true] at this
      simpa using this c hc
    unfold allF
    cases hd : rest.dropWhile (· != 10) with
    | nil =>
      have h1 := List.takeWhile_append_dropWhile (p := (· != (10 : UInt8))) (l := rest)
      rw [hd, List.append_nil] at h1
      have h2 := feed_line l sz n (rest.takeWhile (· != 10)) [] htw
      rw [h1] at h2
      rw [h2]
      simp [lineSt]
    | cons c r =>
      simp only
      have hsp := split10 _ hd
      have hX : lineX rest = lineY (rest.takeWhile (· != 10)) := rfl
      generalize htwe : rest.takeWhile (· != 10) = tw at *
      have hlen : rest.length = tw.length + (r.length + 1) := by
        have := congrArg List.length hsp
        simpa using this
      have hfeed : feedR (lineSt l [] sz n) rest = ((feedR (stepR (lineSt l tw sz n) 10).1 r).1, (stepR (lineSt l tw sz n) 10).2 ++ (feedR (stepR (lineSt l tw sz n) 10).1 r).2) := by
        rw [hsp, feedR_app, feed_line l sz n tw [] htw]
        simp [feedR]
      rw [hfeed, step_end l tw sz n h0, hX]
      generalize lineY tw = X
      have ends : ∀ (q : List SV) (over : Bool), out ++ (endO q over ++ (feedR (lineSt [] [] 0 0) r).2) = (allF f r [] 0 0 (endF q over out)).1 ∧ (feedR (lineSt [] [] 0 0) r).1.w = (allF f r [] 0 0 (endF q over out)).2 ∧ (allF f r [] 0 0 (endF q over out)).2 ≤ 4000 := fun q over => by
        have := feed_all f r [] 0 0 (endF q over out) (by omega) (by omega)
        rw [endF_endO] at this ⊢
        rw [← List.append_assoc]
        exact this
      by_cases c1 : sz + (X.size : Int) > 600
      · rw [if_pos c1, if_pos c1]; exact ends _ _
      · rw [if_neg c1, if_neg c1]
        by_cases c2 : annN X < 0
        · rw [if_pos c2, if_pos c2]; exact ends _ _
        · rw [if_neg c2, if_neg c2]
          by_cases c3 : annN X > 4000 ∨ n = 4
          · rw [if_pos c3, if_pos c3]; exact ends _ _
          · rw [if_neg c3, if_neg c3]
            have q1 : annN X ≤ 4000 := by
              rcases Classical.em (annN X > 4000) with q | q
              · exact absurd (.inl q) c3
              · omega
            by_cases c4 : (r.length : Int) < annN X
            · rw [if_pos c4]
              have e0 : (annN X == 0) = false := beq_eq_false_iff_ne.2 (by omega)
              simp only [e0, cond_false]
              rw [feed_lit _ false _ _ r [] (annN X) c4]
              simp; omega
            · rw [if_neg c4]
              obtain ⟨k, hk⟩ : ∃ k : Nat, annN X = k := ⟨(annN X).toNat, by omega⟩
              rw [hk]
              simp only [Int.toNat_natCast]
              have key : feedR ⟨bif ((k : Int) == 0) then l ++ [pieceV false (annS X)] ++ [pieceV true ⟨#[]⟩] else l ++ [pieceV false (annS X)], [], false, sz + (X.size : Int), n + 1, (k : Int)⟩ (r.take k) = (lineSt (l ++ [pieceV false (annS X)] ++ [pieceV true ⟨(r.take k).toArray⟩]) [] (sz + (X.size : Int)) (n + 1), []) := by
                cases k with
                | zero => simp [feedR, lineSt]
                | succ k =>
                  have e0 : (((k + 1 : Nat) : Int) == 0) = false := beq_eq_false_iff_ne.2 (by omega)
                  rw [e0, cond_false, feed_lits _ false _ _ (r.take (k + 1)) [] _ (by rw [List.length_take]; omega) (by omega)]
                  rfl
              have hr : feedR ⟨bif ((k : Int) == 0) then l ++ [pieceV false (annS X)] ++ [pieceV true ⟨#[]⟩] else l ++ [pieceV false (annS X)], [], false, sz + (X.size : Int), n + 1, (k : Int)⟩ r = feedR (lineSt (l ++ [pieceV false (annS X)] ++ [pieceV true ⟨(r.take k).toArray⟩]) [] (sz + (X.size : Int)) (n + 1)) (r.drop k) := by
                conv => lhs; rw [← List.take_append_drop k r]
                rw [feedR_app, key]
                rfl
              rw [hr]
              have := feed_all f (r.drop k) (l ++ [pieceV false (annS X)] ++ [pieceV true ⟨(r.take k).toArray⟩]) (sz + (X.size : Int)) (n + 1) (out ++ [moreV]) (by rw [List.length_drop]; omega) (by omega)
              simp only [List.append_assoc] at this ⊢
              exact this
end Sx
