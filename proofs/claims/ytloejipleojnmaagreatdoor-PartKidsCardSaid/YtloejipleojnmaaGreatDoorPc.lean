/-
  What the executor says of functions: the normal forms, each compared by the kernel. (Printed by a program.)
-/
import Derived.Test.YtloejipleojnmaaGreatDoorPb
import Derived.Test.YtloejipleojnmaaGreatDoorEd
import Derived.KernelRfl
import Derived.Test.YtloejipleojnmaaGreatDoorPa
import Derived.Test.YtloejipleojnmaaGreatDoorEc
set_option linter.unusedVariables false
set_option linter.unusedSimpArgs false
set_option linter.unusedVariables false
namespace Sx
open Go Go.Proofs
/-- What a letter's parts come to, whatever it is. -/
def PF : Type := List SV → ByteArray → Int → Int → Int → Int → Bool → List SV
/-- What is called on the way, whatever it is. -/
structure PK where
  split : ByteArray → Int
  fS : ByteArray → ByteArray → ByteArray
  fB : ByteArray → ByteArray → Bool
  m1 : ByteArray → ByteArray
  m2 : ByteArray → ByteArray
  m3 : ByteArray → List SV
  pS : ByteArray → ByteArray → List SV → ByteArray → ByteArray
  pB : ByteArray → ByteArray → List SV → ByteArray → Bool
  sp : ByteArray → Int → Int → ByteArray → List SV
def kSplit (k : PK) : List SV → Option (Bool × SV)
  | [.str s] => some (Nat.ble s.size 1000000, .int .i64 (k.split s))
  | _ => none
def kFind (k : PK) : List SV → Option (Bool × SV)
  | [.str s, .str n] => some (Nat.ble s.size 1000000, .tup [.str (k.fS s n), .bool (k.fB s n)])
  | _ => none
def kRead (k : PK) : List SV → Option (Bool × SV)
  | [.str s] => some (Nat.ble s.size 1000000, .agg [.str (k.m1 s), .str (k.m2 s), .lst 127 (k.m3 s)])
  | _ => none
def kPar (k : PK) : List SV → Option (Bool × SV)
  | [.agg [.str a, .str b, .lst 127 p], .str n] => some (Nat.ble p.length 1000000, .tup [.str (k.pS a b p n), .bool (k.pB a b p n)])
  | _ => none
def kSpans (k : PK) : List SV → Option (Bool × SV)
  | [.str s, .int .i64 a, .int .i64 b, .str n] => some (Nat.ble s.size 1000000 && (Nat.ble n.size 1000000 && (decide (0 ≤ a) && (decide (a ≤ b) && decide (b ≤ s.size)))), .lst 99 (k.sp s a b n))
  | _ => none
def gdP (d : Nat) (l : List SV) (s : ByteArray) (a b u n : Int) : Bool :=
  Nat.ble l.length 64 && (Nat.ble s.size 1000000 && (decide (0 ≤ a) && (decide (a ≤ b) && (decide (b ≤ s.size) && (decide (-1 ≤ u) && (decide (u < l.length) && (decide (0 ≤ n) && (decide (n ≤ 6) && decide (7 ≤ n + d)))))))))
def gP (d : Nat) (h : PF) : List SV → Mem → Tr (SV × Mem)
  | [.row 0, .str s, .int .i64 a, .int .i64 b, .int .i64 u, .int .i64 n, .bool q], [(0, .row 27 l)] => .br (gdP d l s a b u n) (.br (Nat.ble 64 l.length) (.leaf (.row 0, [(0, .row 27 l)])) (.leaf (.row 1, [(1, .row 27 (h l s a b u n q))]))) .no
  | _, _ => .no
noncomputable def zTP (k : PK) (d : Nat) (h : PF) : List (Nat × Spec) := [(18, .wide (wideOf (tyOf Tryz.prog) (gP d h))), (34, .plain (kSplit k)), (35, .plain (kFind k)), (36, .plain (kRead k)), (37, .plain (kPar k)), (38, .plain (kSpans k))]
set_option maxRecDepth 100000
/-- The slots that are needed at the loops' heads of 'hamper/hamperref20.Parts'. -/
noncomputable def f18_live : Nat → List Nat × List (Nat × TypeId) := fun h => bif Nat.beq h 22 then ([0, 1, 5, 16, 19, 22, 23], nilsOf (tyOf Tryz.prog) [(0, 31), (1, 9), (5, 3), (16, 0), (19, 3), (22, 96), (23, 3)]) else bif Nat.beq h 13 then ([0, 1, 3, 5, 16, 19], nilsOf (tyOf Tryz.prog) [(0, 31), (1, 9), (3, 3), (5, 3), (16, 0), (19, 3)]) else bif Nat.beq h 11 then ([0, 1, 3, 4, 5, 16, 19], nilsOf (tyOf Tryz.prog) [(0, 31), (1, 9), (3, 3), (4, 3), (5, 3), (16, 0), (19, 3)]) else ([], [])
noncomputable def f18_X (k0 : PK) (d0 : Nat) (h0 : PF) (sm : List Nat) : Fx := ⟨tyOf Tryz.prog, ofList (zTP k0 d0 h0), sm, f18_live⟩
def f18_st22 (x0 : ByteArray) (x1 : Int) (x2 : Int) (x3 : List SV) (x4 : Int) (x5 : List SV) (x6 : Int) (x7 : Int) (x8 : Int) (x9 : Int) (x10 : ByteArray) (x11 : ByteArray) (x12 : List SV) (x13 : Int) (x14 : Int) : St := St.mk
  [SV.row (100 : Nat), SV.str x0, SV.dead, SV.dead, SV.dead, SV.int IntKind.i64 x1, SV.dead, SV.dead, SV.dead, SV.dead, SV.dead, SV.dead, SV.dead, SV.dead, SV.dead, SV.dead, SV.box (101 : Nat) (0 : Nat), SV.dead,
    SV.dead, SV.int IntKind.i64 x2, SV.dead, SV.dead, SV.lst (99 : Nat) x3, SV.int IntKind.i64 x4, SV.dead, SV.dead, SV.dead, SV.dead, SV.dead, SV.dead, SV.dead, SV.dead, SV.dead, SV.dead, SV.dead, SV.dead, SV.dead,
    SV.dead, SV.dead, SV.dead, SV.dead, SV.dead, SV.dead, SV.dead, SV.dead, SV.dead, SV.dead, SV.dead, SV.dead, SV.dead, SV.dead, SV.dead, SV.dead, SV.dead, SV.dead, SV.dead, SV.dead, SV.dead, SV.dead, SV.dead, SV.dead,
    SV.dead, SV.dead, SV.dead, SV.dead, SV.dead, SV.dead, SV.dead, SV.dead, SV.dead, SV.dead, SV.dead, SV.dead, SV.dead, SV.dead, SV.dead, SV.dead, SV.dead, SV.dead, SV.dead, SV.dead, SV.dead, SV.dead, SV.dead, SV.dead,
    SV.dead, SV.dead, SV.dead, SV.dead, SV.dead, SV.dead, SV.dead, SV.dead, SV.dead, SV.dead, SV.dead, SV.dead, SV.dead, SV.dead, SV.dead, SV.dead, SV.dead, SV.dead, SV.dead, SV.dead, SV.dead, SV.dead, SV.dead, SV.dead,
    SV.dead, SV.dead, SV.dead, SV.dead, SV.dead, SV.dead, SV.dead, SV.dead, SV.dead, SV.dead, SV.dead, SV.dead, SV.dead, SV.dead, SV.dead, SV.dead, SV.dead, SV.dead, SV.dead, SV.dead, SV.dead, SV.dead, SV.dead, SV.dead,
    SV.dead, SV.dead, SV.dead, SV.dead, SV.dead, SV.dead, SV.dead, SV.dead, SV.dead, SV.dead, SV.dead, SV.dead, SV.dead, SV.dead, SV.dead]
  [((100 : Nat), SObj.row (27 : Nat) x5),
    ((101 : Nat),
      SObj.box (27 : Nat) [SV.int IntKind.i64 x6, SV.int IntKind.i64 x7, SV.int IntKind.i64 x8, SV.int IntKind.i64 x9, SV.str x10, SV.str x11, SV.lst (127 : Nat) x12, SV.int IntKind.i64 x13, SV.int IntKind.i64 x14])]
  [(0 : Nat), (100 : Nat), (101 : Nat)]
noncomputable def f18_L22 (k0 : PK) (d0 : Nat) (h0 : PF) (fu fm : Nat) (x0 : ByteArray) (x1 : Int) (x2 : Int) (x3 : List SV) (x4 : Int) (x5 : List SV) (x6 : Int) (x7 : Int) (x8 : Int) (x9 : Int) (x10 : ByteArray) (x11 : ByteArray) (x12 : List SV) (x13 : Int) (x14 : Int) : Option (Option (SV × Mem)) := atLoopD (f18_X k0 d0 h0 [0]) [11, 13] Tryz.f18 (finW (tyOf Tryz.prog) [0] 1) fu [.r, .r, .r, .r, .r, .r, .r, .r, .r, .r, .r, .r, .r, .l, .r, .t, .r, .r, .b] fm (f18_st22 x0 x1 x2 x3 x4 x5 x6 x7 x8 x9 x10 x11 x12 x13 x14)

def f18_st13v1 (x0 : ByteArray) (x1 : Int) (x2 : Int) (x3 : Int) (x4 : List SV) (x5 : Int) (x6 : Int) (x7 : Int) (x8 : Int) (x9 : ByteArray) (x10 : ByteArray) (x11 : List SV) (x12 : Int) (x13 : Int) : St := St.mk
  [SV.row (100 : Nat), SV.str x0, SV.dead, SV.int IntKind.i64 x1, SV.dead, SV.int IntKind.i64 x2, SV.dead, SV.dead, SV.dead, SV.dead, SV.dead, SV.dead, SV.dead, SV.dead, SV.dead, SV.dead, SV.box (101 : Nat) (0 : Nat),
    SV.dead, SV.dead, SV.int IntKind.i64 x3, SV.dead, SV.dead, SV.dead, SV.dead, SV.dead, SV.dead, SV.dead, SV.dead, SV.dead, SV.dead, SV.dead, SV.dead, SV.dead, SV.dead, SV.dead, SV.dead, SV.dead, SV.dead, SV.dead,
    SV.dead, SV.dead, SV.dead, SV.dead, SV.dead, SV.dead, SV.dead, SV.dead, SV.dead, SV.dead, SV.dead, SV.dead, SV.dead, SV.dead, SV.dead, SV.dead, SV.dead, SV.dead, SV.dead, SV.dead, SV.dead, SV.dead, SV.dead, SV.dead,
    SV.dead, SV.dead, SV.dead, SV.dead, SV.dead, SV.dead, SV.dead, SV.dead, SV.dead, SV.dead, SV.dead, SV.dead, SV.dead, SV.dead, SV.dead, SV.dead, SV.dead, SV.dead, SV.dead, SV.dead, SV.dead, SV.dead, SV.dead, SV.dead,
    SV.dead, SV.dead, SV.dead, SV.dead, SV.dead, SV.dead, SV.dead, SV.dead, SV.dead, SV.dead, SV.dead, SV.dead, SV.dead, SV.dead, SV.dead, SV.dead, SV.dead, SV.dead, SV.dead, SV.dead, SV.dead, SV.dead, SV.dead, SV.dead,
    SV.dead, SV.dead, SV.dead, SV.dead, SV.dead, SV.dead, SV.dead, SV.dead, SV.dead, SV.dead, SV.dead, SV.dead, SV.dead, SV.dead, SV.dead, SV.dead, SV.dead, SV.dead, SV.dead, SV.dead, SV.dead, SV.dead, SV.dead, SV.dead,
    SV.dead, SV.dead, SV.dead, SV.dead, SV.dead, SV.dead, SV.dead, SV.dead, SV.dead, SV.dead, SV.dead, SV.dead, SV.dead]
  [((100 : Nat), SObj.row (27 : Nat) x4),
    ((101 : Nat),
      SObj.box (27 : Nat) [SV.int IntKind.i64 x5, SV.int IntKind.i64 x6, SV.int IntKind.i64 x7, SV.int IntKind.i64 x8, SV.str x9, SV.str x10, SV.lst (127 : Nat) x11, SV.int IntKind.i64 x12, SV.int IntKind.i64 x13])]
  [(0 : Nat), (100 : Nat), (101 : Nat)]
noncomputable def f18_L13v1 (k0 : PK) (d0 : Nat) (h0 : PF) (fu fm : Nat) (x0 : ByteArray) (x1 : Int) (x2 : Int) (x3 : Int) (x4 : List SV) (x5 : Int) (x6 : Int) (x7 : Int) (x8 : Int) (x9 : ByteArray) (x10 : ByteArray) (x11 : List SV) (x12 : Int) (x13 : Int) : Option (Option (SV × Mem)) := atLoopD (f18_X k0 d0 h0 [0]) [11, 13] Tryz.f18 (finW (tyOf Tryz.prog) [0] 1) fu [.r, .r, .r, .r, .r, .r, .r, .r, .r, .r] fm (f18_st13v1 x0 x1 x2 x3 x4 x5 x6 x7 x8 x9 x10 x11 x12 x13)

def f18_st13 (x0 : ByteArray) (x1 : Int) (x2 : Int) (x3 : Int) (x4 : List SV) (x5 : Int) (x6 : Int) (x7 : Int) (x8 : Int) (x9 : ByteArray) (x10 : ByteArray) (x11 : Int) (x12 : Int) (x13 : List SV) : St := St.mk
  [SV.row (100 : Nat), SV.str x0, SV.dead, SV.int IntKind.i64 x1, SV.dead, SV.int IntKind.i64 x2, SV.dead, SV.dead, SV.dead, SV.dead, SV.dead, SV.dead, SV.dead, SV.dead, SV.dead, SV.dead, SV.box (101 : Nat) (0 : Nat),
    SV.dead, SV.dead, SV.int IntKind.i64 x3, SV.dead, SV.dead, SV.dead, SV.dead, SV.dead, SV.dead, SV.dead, SV.dead, SV.dead, SV.dead, SV.dead, SV.dead, SV.dead, SV.dead, SV.dead, SV.dead, SV.dead, SV.dead, SV.dead,
    SV.dead, SV.dead, SV.dead, SV.dead, SV.dead, SV.dead, SV.dead, SV.dead, SV.dead, SV.dead, SV.dead, SV.dead, SV.dead, SV.dead, SV.dead, SV.dead, SV.dead, SV.dead, SV.dead, SV.dead, SV.dead, SV.dead, SV.dead, SV.dead,
    SV.dead, SV.dead, SV.dead, SV.dead, SV.dead, SV.dead, SV.dead, SV.dead, SV.dead, SV.dead, SV.dead, SV.dead, SV.dead, SV.dead, SV.dead, SV.dead, SV.dead, SV.dead, SV.dead, SV.dead, SV.dead, SV.dead, SV.dead, SV.dead,
    SV.dead, SV.dead, SV.dead, SV.dead, SV.dead, SV.dead, SV.dead, SV.dead, SV.dead, SV.dead, SV.dead, SV.dead, SV.dead, SV.dead, SV.dead, SV.dead, SV.dead, SV.dead, SV.dead, SV.dead, SV.dead, SV.dead, SV.dead, SV.dead,
    SV.dead, SV.dead, SV.dead, SV.dead, SV.dead, SV.dead, SV.dead, SV.dead, SV.dead, SV.dead, SV.dead, SV.dead, SV.dead, SV.dead, SV.dead, SV.dead, SV.dead, SV.dead, SV.dead, SV.dead, SV.dead, SV.dead, SV.dead, SV.dead,
    SV.dead, SV.dead, SV.dead, SV.dead, SV.dead, SV.dead, SV.dead, SV.dead, SV.dead, SV.dead, SV.dead, SV.dead, SV.dead]
  [((100 : Nat), SObj.row (27 : Nat) x4),
    ((101 : Nat),
      SObj.box (27 : Nat) [SV.int IntKind.i64 x5, SV.int IntKind.i64 x6, SV.int IntKind.i64 x7, SV.int IntKind.i64 x8, SV.str x9, SV.str x10, SV.row (102 : Nat), SV.int IntKind.i64 x11, SV.int IntKind.i64 x12]),
    ((102 : Nat), SObj.row (127 : Nat) x13)]
  [(0 : Nat), (100 : Nat), (101 : Nat), (102 : Nat)]
noncomputable def f18_L13 (k0 : PK) (d0 : Nat) (h0 : PF) (fu fm : Nat) (x0 : ByteArray) (x1 : Int) (x2 : Int) (x3 : Int) (x4 : List SV) (x5 : Int) (x6 : Int) (x7 : Int) (x8 : Int) (x9 : ByteArray) (x10 : ByteArray) (x11 : Int) (x12 : Int) (x13 : List SV) : Option (Option (SV × Mem)) := atLoopD (f18_X k0 d0 h0 [0]) [11, 13] Tryz.f18 (finW (tyOf Tryz.prog) [0] 1) fu [.r, .r, .r, .r, .r, .r, .r, .r, .r, .r] fm (f18_st13 x0 x1 x2 x3 x4 x5 x6 x7 x8 x9 x10 x11 x12 x13)

def f18_st11v1 (x0 : ByteArray) (x1 : Int) (x2 : Int) (x3 : Int) (x4 : Int) (x5 : List SV) (x6 : Int) (x7 : Int) (x8 : Int) (x9 : Int) (x10 : ByteArray) (x11 : ByteArray) (x12 : List SV) (x13 : Int) (x14 : Int) : St := St.mk
  [SV.row (100 : Nat), SV.str x0, SV.dead, SV.int IntKind.i64 x1, SV.int IntKind.i64 x2, SV.int IntKind.i64 x3, SV.dead, SV.dead, SV.dead, SV.dead, SV.dead, SV.dead, SV.dead, SV.dead, SV.dead, SV.dead,
    SV.box (101 : Nat) (0 : Nat), SV.dead, SV.dead, SV.int IntKind.i64 x4, SV.dead, SV.dead, SV.dead, SV.dead, SV.dead, SV.dead, SV.dead, SV.dead, SV.dead, SV.dead, SV.dead, SV.dead, SV.dead, SV.dead, SV.dead, SV.dead,
    SV.dead, SV.dead, SV.dead, SV.dead, SV.dead, SV.dead, SV.dead, SV.dead, SV.dead, SV.dead, SV.dead, SV.dead, SV.dead, SV.dead, SV.dead, SV.dead, SV.dead, SV.dead, SV.dead, SV.dead, SV.dead, SV.dead, SV.dead, SV.dead,
    SV.dead, SV.dead, SV.dead, SV.dead, SV.dead, SV.dead, SV.dead, SV.dead, SV.dead, SV.dead, SV.dead, SV.dead, SV.dead, SV.dead, SV.dead, SV.dead, SV.dead, SV.dead, SV.dead, SV.dead, SV.dead, SV.dead, SV.dead, SV.dead,
    SV.dead, SV.dead, SV.dead, SV.dead, SV.dead, SV.dead, SV.dead, SV.dead, SV.dead, SV.dead, SV.dead, SV.dead, SV.dead, SV.dead, SV.dead, SV.dead, SV.dead, SV.dead, SV.dead, SV.dead, SV.dead, SV.dead, SV.dead, SV.dead,
    SV.dead, SV.dead, SV.dead, SV.dead, SV.dead, SV.dead, SV.dead, SV.dead, SV.dead, SV.dead, SV.dead, SV.dead, SV.dead, SV.dead, SV.dead, SV.dead, SV.dead, SV.dead, SV.dead, SV.dead, SV.dead, SV.dead, SV.dead, SV.dead,
    SV.dead, SV.dead, SV.dead, SV.dead, SV.dead, SV.dead, SV.dead, SV.dead, SV.dead, SV.dead, SV.dead, SV.dead, SV.dead, SV.dead, SV.dead, SV.dead]
  [((100 : Nat), SObj.row (27 : Nat) x5),
    ((101 : Nat),
      SObj.box (27 : Nat) [SV.int IntKind.i64 x6, SV.int IntKind.i64 x7, SV.int IntKind.i64 x8, SV.int IntKind.i64 x9, SV.str x10, SV.str x11, SV.lst (127 : Nat) x12, SV.int IntKind.i64 x13, SV.int IntKind.i64 x14])]
  [(0 : Nat), (100 : Nat), (101 : Nat)]
noncomputable def f18_L11v1 (k0 : PK) (d0 : Nat) (h0 : PF) (fu fm : Nat) (x0 : ByteArray) (x1 : Int) (x2 : Int) (x3 : Int) (x4 : Int) (x5 : List SV) (x6 : Int) (x7 : Int) (x8 : Int) (x9 : Int) (x10 : ByteArray) (x11 : ByteArray) (x12 : List SV) (x13 : Int) (x14 : Int) : Option (Option (SV × Mem)) := atLoopD (f18_X k0 d0 h0 [0]) [11, 13] Tryz.f18 (finW (tyOf Tryz.prog) [0] 1) fu [.r, .r, .r, .r, .r, .r, .r, .r, .r] fm (f18_st11v1 x0 x1 x2 x3 x4 x5 x6 x7 x8 x9 x10 x11 x12 x13 x14)

def f18_st11 (x0 : ByteArray) (x1 : Int) (x2 : Int) (x3 : Int) (x4 : Int) (x5 : List SV) (x6 : Int) (x7 : Int) (x8 : Int) (x9 : Int) (x10 : ByteArray) (x11 : ByteArray) (x12 : Int) (x13 : Int) (x14 : List SV) : St := St.mk
  [SV.row (100 : Nat), SV.str x0, SV.dead, SV.int IntKind.i64 x1, SV.int IntKind.i64 x2, SV.int IntKind.i64 x3, SV.dead, SV.dead, SV.dead, SV.dead, SV.dead, SV.dead, SV.dead, SV.dead, SV.dead, SV.dead,
    SV.box (101 : Nat) (0 : Nat), SV.dead, SV.dead, SV.int IntKind.i64 x4, SV.dead, SV.dead, SV.dead, SV.dead, SV.dead, SV.dead, SV.dead, SV.dead, SV.dead, SV.dead, SV.dead, SV.dead, SV.dead, SV.dead, SV.dead, SV.dead,
    SV.dead, SV.dead, SV.dead, SV.dead, SV.dead, SV.dead, SV.dead, SV.dead, SV.dead, SV.dead, SV.dead, SV.dead, SV.dead, SV.dead, SV.dead, SV.dead, SV.dead, SV.dead, SV.dead, SV.dead, SV.dead, SV.dead, SV.dead, SV.dead,
    SV.dead, SV.dead, SV.dead, SV.dead, SV.dead, SV.dead, SV.dead, SV.dead, SV.dead, SV.dead, SV.dead, SV.dead, SV.dead, SV.dead, SV.dead, SV.dead, SV.dead, SV.dead, SV.dead, SV.dead, SV.dead, SV.dead, SV.dead, SV.dead,
    SV.dead, SV.dead, SV.dead, SV.dead, SV.dead, SV.dead, SV.dead, SV.dead, SV.dead, SV.dead, SV.dead, SV.dead, SV.dead, SV.dead, SV.dead, SV.dead, SV.dead, SV.dead, SV.dead, SV.dead, SV.dead, SV.dead, SV.dead, SV.dead,
    SV.dead, SV.dead, SV.dead, SV.dead, SV.dead, SV.dead, SV.dead, SV.dead, SV.dead, SV.dead, SV.dead, SV.dead, SV.dead, SV.dead, SV.dead, SV.dead, SV.dead, SV.dead, SV.dead, SV.dead, SV.dead, SV.dead, SV.dead, SV.dead,
    SV.dead, SV.dead, SV.dead, SV.dead, SV.dead, SV.dead, SV.dead, SV.dead, SV.dead, SV.dead, SV.dead, SV.dead, SV.dead, SV.dead, SV.dead, SV.dead]
  [((100 : Nat), SObj.row (27 : Nat) x5),
    ((101 : Nat),
      SObj.box (27 : Nat) [SV.int IntKind.i64 x6, SV.int IntKind.i64 x7, SV.int IntKind.i64 x8, SV.int IntKind.i64 x9, SV.str x10, SV.str x11, SV.row (102 : Nat), SV.int IntKind.i64 x12, SV.int IntKind.i64 x13]),
    ((102 : Nat), SObj.row (127 : Nat) x14)]
  [(0 : Nat), (100 : Nat), (101 : Nat), (102 : Nat)]
noncomputable def f18_L11 (k0 : PK) (d0 : Nat) (h0 : PF) (fu fm : Nat) (x0 : ByteArray) (x1 : Int) (x2 : Int) (x3 : Int) (x4 : Int) (x5 : List SV) (x6 : Int) (x7 : Int) (x8 : Int) (x9 : Int) (x10 : ByteArray) (x11 : ByteArray) (x12 : Int) (x13 : Int) (x14 : List SV) : Option (Option (SV × Mem)) := atLoopD (f18_X k0 d0 h0 [0]) [11, 13] Tryz.f18 (finW (tyOf Tryz.prog) [0] 1) fu [.r, .r, .r, .r, .r, .r, .r, .r, .r] fm (f18_st11 x0 x1 x2 x3 x4 x5 x6 x7 x8 x9 x10 x11 x12 x13 x14)

theorem f18_L22_eq (k0 : PK) (d0 : Nat) (h0 : PF) (fu fm : Nat) (x0 : ByteArray) (x1 : Int) (x2 : Int) (x3 : List SV) (x4 : Int) (x5 : List SV) (x6 : Int) (x7 : Int) (x8 : Int) (x9 : Int) (x10 : ByteArray) (x11 : ByteArray) (x12 : List SV) (x13 : Int) (x14 : Int) : f18_L22 k0 d0 h0 fu (fm + 1) x0 x1 x2 x3 x4 x5 x6 x7 x8 x9 x10 x11 x12 x13 x14 = bif decide (x4 < (↑(List.length x3) : Int)) then
  bif decide ((0 : Int) ≤ x2) && decide (x2 < (↑(List.length x5) : Int)) then
    bif decide ((0 : Int) ≤ x4) && decide (x4 < (↑(List.length x3) : Int)) then
      bif decide ((0 : Int) ≤ x4) && decide (x4 < (↑(List.length x3) : Int)) then
        bif
            gdP d0
              (List.set x5 (Int.toNat x2)
                (SV.agg
                  [SV.int IntKind.i64 (1 : Int), SV.int IntKind.i64 (asInt (List.getD (cellsOf (List.getD x5 (Int.toNat x2) SV.dead)) (1 : Nat) SV.dead)),
                    SV.int IntKind.i64 (asInt (List.getD (cellsOf (List.getD x5 (Int.toNat x2) SV.dead)) (2 : Nat) SV.dead)),
                    SV.int IntKind.i64 (asInt (List.getD (cellsOf (List.getD x5 (Int.toNat x2) SV.dead)) (3 : Nat) SV.dead)), SV.str (asStr (List.getD (cellsOf (List.getD x5 (Int.toNat x2) SV.dead)) (4 : Nat) SV.dead)),
                    SV.str (asStr (List.getD (cellsOf (List.getD x5 (Int.toNat x2) SV.dead)) (5 : Nat) SV.dead)), SV.lst (127 : Nat) (asLst (List.getD (cellsOf (List.getD x5 (Int.toNat x2) SV.dead)) (6 : Nat) SV.dead)),
                    SV.int IntKind.i64 (asInt (List.getD (cellsOf (List.getD x5 (Int.toNat x2) SV.dead)) (7 : Nat) SV.dead)),
                    SV.int IntKind.i64 (asInt (List.getD (cellsOf (List.getD x5 (Int.toNat x2) SV.dead)) (8 : Nat) SV.dead))]))
              x0 (asInt (List.getD (cellsOf (List.getD x3 (Int.toNat x4) SV.dead)) (0 : Nat) SV.dead)) (asInt (List.getD (cellsOf (List.getD x3 (Int.toNat x4) SV.dead)) (1 : Nat) SV.dead)) x2
              (IntKind.wrap IntKind.i64 (x1 + (1 : Int))) then
          bif
              Nat.ble (64 : Nat)
                (List.length
                  (List.set x5 (Int.toNat x2)
                    (SV.agg
                      [SV.int IntKind.i64 (1 : Int), SV.int IntKind.i64 (asInt (List.getD (cellsOf (List.getD x5 (Int.toNat x2) SV.dead)) (1 : Nat) SV.dead)),
                        SV.int IntKind.i64 (asInt (List.getD (cellsOf (List.getD x5 (Int.toNat x2) SV.dead)) (2 : Nat) SV.dead)),
                        SV.int IntKind.i64 (asInt (List.getD (cellsOf (List.getD x5 (Int.toNat x2) SV.dead)) (3 : Nat) SV.dead)),
                        SV.str (asStr (List.getD (cellsOf (List.getD x5 (Int.toNat x2) SV.dead)) (4 : Nat) SV.dead)), SV.str (asStr (List.getD (cellsOf (List.getD x5 (Int.toNat x2) SV.dead)) (5 : Nat) SV.dead)),
                        SV.lst (127 : Nat) (asLst (List.getD (cellsOf (List.getD x5 (Int.toNat x2) SV.dead)) (6 : Nat) SV.dead)),
                        SV.int IntKind.i64 (asInt (List.getD (cellsOf (List.getD x5 (Int.toNat x2) SV.dead)) (7 : Nat) SV.dead)),
                        SV.int IntKind.i64 (asInt (List.getD (cellsOf (List.getD x5 (Int.toNat x2) SV.dead)) (8 : Nat) SV.dead))]))) then
            f18_L22 k0 d0 h0 fu fm x0 x1 x2 x3 (IntKind.wrap IntKind.i64 (x4 + (1 : Int)))
              (List.set x5 (Int.toNat x2)
                (SV.agg
                  [SV.int IntKind.i64 (1 : Int), SV.int IntKind.i64 (asInt (List.getD (cellsOf (List.getD x5 (Int.toNat x2) SV.dead)) (1 : Nat) SV.dead)),
                    SV.int IntKind.i64 (asInt (List.getD (cellsOf (List.getD x5 (Int.toNat x2) SV.dead)) (2 : Nat) SV.dead)),
                    SV.int IntKind.i64 (asInt (List.getD (cellsOf (List.getD x5 (Int.toNat x2) SV.dead)) (3 : Nat) SV.dead)), SV.str (asStr (List.getD (cellsOf (List.getD x5 (Int.toNat x2) SV.dead)) (4 : Nat) SV.dead)),
                    SV.str (asStr (List.getD (cellsOf (List.getD x5 (Int.toNat x2) SV.dead)) (5 : Nat) SV.dead)), SV.lst (127 : Nat) (asLst (List.getD (cellsOf (List.getD x5 (Int.toNat x2) SV.dead)) (6 : Nat) SV.dead)),
                    SV.int IntKind.i64 (asInt (List.getD (cellsOf (List.getD x5 (Int.toNat x2) SV.dead)) (7 : Nat) SV.dead)),
                    SV.int IntKind.i64 (asInt (List.getD (cellsOf (List.getD x5 (Int.toNat x2) SV.dead)) (8 : Nat) SV.dead))]))
              x6 x7 x8 x9 x10 x11 x12 x13 x14
          else
            f18_L22 k0 d0 h0 fu fm x0 x1 x2 x3 (IntKind.wrap IntKind.i64 (x4 + (1 : Int)))
              (h0
                (List.set x5 (Int.toNat x2)
                  (SV.agg
                    [SV.int IntKind.i64 (1 : Int), SV.int IntKind.i64 (asInt (List.getD (cellsOf (List.getD x5 (Int.toNat x2) SV.dead)) (1 : Nat) SV.dead)),
                      SV.int IntKind.i64 (asInt (List.getD (cellsOf (List.getD x5 (Int.toNat x2) SV.dead)) (2 : Nat) SV.dead)),
                      SV.int IntKind.i64 (asInt (List.getD (cellsOf (List.getD x5 (Int.toNat x2) SV.dead)) (3 : Nat) SV.dead)),
                      SV.str (asStr (List.getD (cellsOf (List.getD x5 (Int.toNat x2) SV.dead)) (4 : Nat) SV.dead)), SV.str (asStr (List.getD (cellsOf (List.getD x5 (Int.toNat x2) SV.dead)) (5 : Nat) SV.dead)),
                      SV.lst (127 : Nat) (asLst (List.getD (cellsOf (List.getD x5 (Int.toNat x2) SV.dead)) (6 : Nat) SV.dead)),
                      SV.int IntKind.i64 (asInt (List.getD (cellsOf (List.getD x5 (Int.toNat x2) SV.dead)) (7 : Nat) SV.dead)),
                      SV.int IntKind.i64 (asInt (List.getD (cellsOf (List.getD x5 (Int.toNat x2) SV.dead)) (8 : Nat) SV.dead))]))
                x0 (asInt (List.getD (cellsOf (List.getD x3 (Int.toNat x4) SV.dead)) (0 : Nat) SV.dead)) (asInt (List.getD (cellsOf (List.getD x3 (Int.toNat x4) SV.dead)) (1 : Nat) SV.dead)) x2
                (IntKind.wrap IntKind.i64 (x1 + (1 : Int))) (ByteArray.toList x11 == ByteArray.toList (ByteArray.mk #[(100 : UInt8), (105 : UInt8), (103 : UInt8), (101 : UInt8), (115 : UInt8), (116 : UInt8)])))
              x6 x7 x8 x9 x10 x11 x12 x13 x14
        else none
      else none
    else none
  else none
  else some (some (SV.row (1 : Nat), [((1 : Nat), SObj.row (27 : Nat) x5)])) := by kernel_rfl

theorem f18_L13v1_eq (k0 : PK) (d0 : Nat) (h0 : PF) (fu fm : Nat) (x0 : ByteArray) (x1 : Int) (x2 : Int) (x3 : Int) (x4 : List SV) (x5 : Int) (x6 : Int) (x7 : Int) (x8 : Int) (x9 : ByteArray) (x10 : ByteArray) (x11 : List SV) (x12 : Int) (x13 : Int) : f18_L13v1 k0 d0 h0 fu (fm + 1) x0 x1 x2 x3 x4 x5 x6 x7 x8 x9 x10 x11 x12 x13 = bif decide (x2 > (5 : Int)) then some (some (SV.row (1 : Nat), [((1 : Nat), SObj.row (27 : Nat) x4)]))
  else
  bif ByteArray.toList x9 == ByteArray.toList (ByteArray.mk #[(109 : UInt8), (101 : UInt8), (115 : UInt8), (115 : UInt8), (97 : UInt8), (103 : UInt8), (101 : UInt8)]) then
    bif ByteArray.toList x10 == ByteArray.toList (ByteArray.mk #[(114 : UInt8), (102 : UInt8), (99 : UInt8), (56 : UInt8), (50 : UInt8), (50 : UInt8)]) then
      bif decide ((0 : Int) ≤ x3) && decide (x3 < (↑(List.length x4) : Int)) then
        bif
            gdP d0
              (List.set x4 (Int.toNat x3)
                (SV.agg
                  [SV.int IntKind.i64 (2 : Int), SV.int IntKind.i64 (asInt (List.getD (cellsOf (List.getD x4 (Int.toNat x3) SV.dead)) (1 : Nat) SV.dead)),
                    SV.int IntKind.i64 (asInt (List.getD (cellsOf (List.getD x4 (Int.toNat x3) SV.dead)) (2 : Nat) SV.dead)),
                    SV.int IntKind.i64 (asInt (List.getD (cellsOf (List.getD x4 (Int.toNat x3) SV.dead)) (3 : Nat) SV.dead)), SV.str (asStr (List.getD (cellsOf (List.getD x4 (Int.toNat x3) SV.dead)) (4 : Nat) SV.dead)),
                    SV.str (asStr (List.getD (cellsOf (List.getD x4 (Int.toNat x3) SV.dead)) (5 : Nat) SV.dead)), SV.lst (127 : Nat) (asLst (List.getD (cellsOf (List.getD x4 (Int.toNat x3) SV.dead)) (6 : Nat) SV.dead)),
                    SV.int IntKind.i64 (asInt (List.getD (cellsOf (List.getD x4 (Int.toNat x3) SV.dead)) (7 : Nat) SV.dead)),
                    SV.int IntKind.i64 (asInt (List.getD (cellsOf (List.getD x4 (Int.toNat x3) SV.dead)) (8 : Nat) SV.dead))]))
              x0 x7 x1 x3 (IntKind.wrap IntKind.i64 (x2 + (1 : Int))) then
          bif
              Nat.ble (64 : Nat)
                (List.length
                  (List.set x4 (Int.toNat x3)
                    (SV.agg
                      [SV.int IntKind.i64 (2 : Int), SV.int IntKind.i64 (asInt (List.getD (cellsOf (List.getD x4 (Int.toNat x3) SV.dead)) (1 : Nat) SV.dead)),
                        SV.int IntKind.i64 (asInt (List.getD (cellsOf (List.getD x4 (Int.toNat x3) SV.dead)) (2 : Nat) SV.dead)),
                        SV.int IntKind.i64 (asInt (List.getD (cellsOf (List.getD x4 (Int.toNat x3) SV.dead)) (3 : Nat) SV.dead)),
                        SV.str (asStr (List.getD (cellsOf (List.getD x4 (Int.toNat x3) SV.dead)) (4 : Nat) SV.dead)), SV.str (asStr (List.getD (cellsOf (List.getD x4 (Int.toNat x3) SV.dead)) (5 : Nat) SV.dead)),
                        SV.lst (127 : Nat) (asLst (List.getD (cellsOf (List.getD x4 (Int.toNat x3) SV.dead)) (6 : Nat) SV.dead)),
                        SV.int IntKind.i64 (asInt (List.getD (cellsOf (List.getD x4 (Int.toNat x3) SV.dead)) (7 : Nat) SV.dead)),
                        SV.int IntKind.i64 (asInt (List.getD (cellsOf (List.getD x4 (Int.toNat x3) SV.dead)) (8 : Nat) SV.dead))]))) then
            some
              (some
                (SV.row (1 : Nat),
                  [((1 : Nat),
                      SObj.row (27 : Nat)
                        (List.set x4 (Int.toNat x3)
                          (SV.agg
                            [SV.int IntKind.i64 (2 : Int), SV.int IntKind.i64 (asInt (List.getD (cellsOf (List.getD x4 (Int.toNat x3) SV.dead)) (1 : Nat) SV.dead)),
                              SV.int IntKind.i64 (asInt (List.getD (cellsOf (List.getD x4 (Int.toNat x3) SV.dead)) (2 : Nat) SV.dead)),
                              SV.int IntKind.i64 (asInt (List.getD (cellsOf (List.getD x4 (Int.toNat x3) SV.dead)) (3 : Nat) SV.dead)),
                              SV.str (asStr (List.getD (cellsOf (List.getD x4 (Int.toNat x3) SV.dead)) (4 : Nat) SV.dead)), SV.str (asStr (List.getD (cellsOf (List.getD x4 (Int.toNat x3) SV.dead)) (5 : Nat) SV.dead)),
                              SV.lst (127 : Nat) (asLst (List.getD (cellsOf (List.getD x4 (Int.toNat x3) SV.dead)) (6 : Nat) SV.dead)),
                              SV.int IntKind.i64 (asInt (List.getD (cellsOf (List.getD x4 (Int.toNat x3) SV.dead)) (7 : Nat) SV.dead)),
                              SV.int IntKind.i64 (asInt (List.getD (cellsOf (List.getD x4 (Int.toNat x3) SV.dead)) (8 : Nat) SV.dead))])))]))
          else
            some
              (some
                (SV.row (1 : Nat),
                  [((1 : Nat),
                      SObj.row (27 : Nat)
                        (h0
                          (List.set x4 (Int.toNat x3)
                            (SV.agg
                              [SV.int IntKind.i64 (2 : Int), SV.int IntKind.i64 (asInt (List.getD (cellsOf (List.getD x4 (Int.toNat x3) SV.dead)) (1 : Nat) SV.dead)),
                                SV.int IntKind.i64 (asInt (List.getD (cellsOf (List.getD x4 (Int.toNat x3) SV.dead)) (2 : Nat) SV.dead)),
                                SV.int IntKind.i64 (asInt (List.getD (cellsOf (List.getD x4 (Int.toNat x3) SV.dead)) (3 : Nat) SV.dead)),
                                SV.str (asStr (List.getD (cellsOf (List.getD x4 (Int.toNat x3) SV.dead)) (4 : Nat) SV.dead)), SV.str (asStr (List.getD (cellsOf (List.getD x4 (Int.toNat x3) SV.dead)) (5 : Nat) SV.dead)),
                                SV.lst (127 : Nat) (asLst (List.getD (cellsOf (List.getD x4 (Int.toNat x3) SV.dead)) (6 : Nat) SV.dead)),
                                SV.int IntKind.i64 (asInt (List.getD (cellsOf (List.getD x4 (Int.toNat x3) SV.dead)) (7 : Nat) SV.dead)),
                                SV.int IntKind.i64 (asInt (List.getD (cellsOf (List.getD x4 (Int.toNat x3) SV.dead)) (8 : Nat) SV.dead))]))
                          x0 x7 x1 x3 (IntKind.wrap IntKind.i64 (x2 + (1 : Int))) false))]))
        else none
      else none
    else
      bif Nat.ble (List.length x11) (1000000 : Nat) then
        bif ByteArray.toList x9 == ByteArray.toList (ByteArray.mk #[(109 : UInt8), (117 : UInt8), (108 : UInt8), (116 : UInt8), (105 : UInt8), (112 : UInt8), (97 : UInt8), (114 : UInt8), (116 : UInt8)]) then
          bif
              !ByteArray.toList (k0.pS x9 x10 x11 (ByteArray.mk #[(98 : UInt8), (111 : UInt8), (117 : UInt8), (110 : UInt8), (100 : UInt8), (97 : UInt8), (114 : UInt8), (121 : UInt8)])) ==
                  ByteArray.toList (ByteArray.mk #[]) then
            bif
                Nat.ble (ByteArray.size x0) (1000000 : Nat) &&
                  (Nat.ble (ByteArray.size (k0.pS x9 x10 x11 (ByteArray.mk #[(98 : UInt8), (111 : UInt8), (117 : UInt8), (110 : UInt8), (100 : UInt8), (97 : UInt8), (114 : UInt8), (121 : UInt8)]))) (1000000 : Nat) &&
                    (decide ((0 : Int) ≤ x7) && (decide (x7 ≤ x1) && decide (x1 ≤ (↑(ByteArray.size x0) : Int))))) then
              f18_L22 k0 d0 h0 fu fu x0 x2 x3 (k0.sp x0 x7 x1 (k0.pS x9 x10 x11 (ByteArray.mk #[(98 : UInt8), (111 : UInt8), (117 : UInt8), (110 : UInt8), (100 : UInt8), (97 : UInt8), (114 : UInt8), (121 : UInt8)]))) (0 : Int) x4
                x5 x6 x7 x8 x9 x10 x11 x12 x13
            else none
          else some (some (SV.row (1 : Nat), [((1 : Nat), SObj.row (27 : Nat) x4)]))
        else some (some (SV.row (1 : Nat), [((1 : Nat), SObj.row (27 : Nat) x4)]))
      else none
  else
    bif Nat.ble (List.length x11) (1000000 : Nat) then
      bif ByteArray.toList x9 == ByteArray.toList (ByteArray.mk #[(109 : UInt8), (117 : UInt8), (108 : UInt8), (116 : UInt8), (105 : UInt8), (112 : UInt8), (97 : UInt8), (114 : UInt8), (116 : UInt8)]) then
        bif
            !ByteArray.toList (k0.pS x9 x10 x11 (ByteArray.mk #[(98 : UInt8), (111 : UInt8), (117 : UInt8), (110 : UInt8), (100 : UInt8), (97 : UInt8), (114 : UInt8), (121 : UInt8)])) ==
                ByteArray.toList (ByteArray.mk #[]) then
          bif
              Nat.ble (ByteArray.size x0) (1000000 : Nat) &&
                (Nat.ble (ByteArray.size (k0.pS x9 x10 x11 (ByteArray.mk #[(98 : UInt8), (111 : UInt8), (117 : UInt8), (110 : UInt8), (100 : UInt8), (97 : UInt8), (114 : UInt8), (121 : UInt8)]))) (1000000 : Nat) &&
                  (decide ((0 : Int) ≤ x7) && (decide (x7 ≤ x1) && decide (x1 ≤ (↑(ByteArray.size x0) : Int))))) then
            f18_L22 k0 d0 h0 fu fu x0 x2 x3 (k0.sp x0 x7 x1 (k0.pS x9 x10 x11 (ByteArray.mk #[(98 : UInt8), (111 : UInt8), (117 : UInt8), (110 : UInt8), (100 : UInt8), (97 : UInt8), (114 : UInt8), (121 : UInt8)]))) (0 : Int) x4
              x5 x6 x7 x8 x9 x10 x11 x12 x13
          else none
        else some (some (SV.row (1 : Nat), [((1 : Nat), SObj.row (27 : Nat) x4)]))
      else some (some (SV.row (1 : Nat), [((1 : Nat), SObj.row (27 : Nat) x4)]))
    else none := by kernel_rfl

theorem f18_L13_eq (k0 : PK) (d0 : Nat) (h0 : PF) (fu fm : Nat) (x0 : ByteArray) (x1 : Int) (x2 : Int) (x3 : Int) (x4 : List SV) (x5 : Int) (x6 : Int) (x7 : Int) (x8 : Int) (x9 : ByteArray) (x10 : ByteArray) (x11 : Int) (x12 : Int) (x13 : List SV) : f18_L13 k0 d0 h0 fu (fm + 1) x0 x1 x2 x3 x4 x5 x6 x7 x8 x9 x10 x11 x12 x13 = bif decide (x2 > (5 : Int)) then some (some (SV.row (1 : Nat), [((1 : Nat), SObj.row (27 : Nat) x4)]))
  else
  bif ByteArray.toList x9 == ByteArray.toList (ByteArray.mk #[(109 : UInt8), (101 : UInt8), (115 : UInt8), (115 : UInt8), (97 : UInt8), (103 : UInt8), (101 : UInt8)]) then
    bif ByteArray.toList x10 == ByteArray.toList (ByteArray.mk #[(114 : UInt8), (102 : UInt8), (99 : UInt8), (56 : UInt8), (50 : UInt8), (50 : UInt8)]) then
      bif decide ((0 : Int) ≤ x3) && decide (x3 < (↑(List.length x4) : Int)) then
        bif
            gdP d0
              (List.set x4 (Int.toNat x3)
                (SV.agg
                  [SV.int IntKind.i64 (2 : Int), SV.int IntKind.i64 (asInt (List.getD (cellsOf (List.getD x4 (Int.toNat x3) SV.dead)) (1 : Nat) SV.dead)),
                    SV.int IntKind.i64 (asInt (List.getD (cellsOf (List.getD x4 (Int.toNat x3) SV.dead)) (2 : Nat) SV.dead)),
                    SV.int IntKind.i64 (asInt (List.getD (cellsOf (List.getD x4 (Int.toNat x3) SV.dead)) (3 : Nat) SV.dead)), SV.str (asStr (List.getD (cellsOf (List.getD x4 (Int.toNat x3) SV.dead)) (4 : Nat) SV.dead)),
                    SV.str (asStr (List.getD (cellsOf (List.getD x4 (Int.toNat x3) SV.dead)) (5 : Nat) SV.dead)), SV.lst (127 : Nat) (asLst (List.getD (cellsOf (List.getD x4 (Int.toNat x3) SV.dead)) (6 : Nat) SV.dead)),
                    SV.int IntKind.i64 (asInt (List.getD (cellsOf (List.getD x4 (Int.toNat x3) SV.dead)) (7 : Nat) SV.dead)),
                    SV.int IntKind.i64 (asInt (List.getD (cellsOf (List.getD x4 (Int.toNat x3) SV.dead)) (8 : Nat) SV.dead))]))
              x0 x7 x1 x3 (IntKind.wrap IntKind.i64 (x2 + (1 : Int))) then
          bif
              Nat.ble (64 : Nat)
                (List.length
                  (List.set x4 (Int.toNat x3)
                    (SV.agg
                      [SV.int IntKind.i64 (2 : Int), SV.int IntKind.i64 (asInt (List.getD (cellsOf (List.getD x4 (Int.toNat x3) SV.dead)) (1 : Nat) SV.dead)),
                        SV.int IntKind.i64 (asInt (List.getD (cellsOf (List.getD x4 (Int.toNat x3) SV.dead)) (2 : Nat) SV.dead)),
                        SV.int IntKind.i64 (asInt (List.getD (cellsOf (List.getD x4 (Int.toNat x3) SV.dead)) (3 : Nat) SV.dead)),
                        SV.str (asStr (List.getD (cellsOf (List.getD x4 (Int.toNat x3) SV.dead)) (4 : Nat) SV.dead)), SV.str (asStr (List.getD (cellsOf (List.getD x4 (Int.toNat x3) SV.dead)) (5 : Nat) SV.dead)),
                        SV.lst (127 : Nat) (asLst (List.getD (cellsOf (List.getD x4 (Int.toNat x3) SV.dead)) (6 : Nat) SV.dead)),
                        SV.int IntKind.i64 (asInt (List.getD (cellsOf (List.getD x4 (Int.toNat x3) SV.dead)) (7 : Nat) SV.dead)),
                        SV.int IntKind.i64 (asInt (List.getD (cellsOf (List.getD x4 (Int.toNat x3) SV.dead)) (8 : Nat) SV.dead))]))) then
            some
              (some
                (SV.row (1 : Nat),
                  [((1 : Nat),
                      SObj.row (27 : Nat)
                        (List.set x4 (Int.toNat x3)
                          (SV.agg
                            [SV.int IntKind.i64 (2 : Int), SV.int IntKind.i64 (asInt (List.getD (cellsOf (List.getD x4 (Int.toNat x3) SV.dead)) (1 : Nat) SV.dead)),
                              SV.int IntKind.i64 (asInt (List.getD (cellsOf (List.getD x4 (Int.toNat x3) SV.dead)) (2 : Nat) SV.dead)),
                              SV.int IntKind.i64 (asInt (List.getD (cellsOf (List.getD x4 (Int.toNat x3) SV.dead)) (3 : Nat) SV.dead)),
                              SV.str (asStr (List.getD (cellsOf (List.getD x4 (Int.toNat x3) SV.dead)) (4 : Nat) SV.dead)), SV.str (asStr (List.getD (cellsOf (List.getD x4 (Int.toNat x3) SV.dead)) (5 : Nat) SV.dead)),
                              SV.lst (127 : Nat) (asLst (List.getD (cellsOf (List.getD x4 (Int.toNat x3) SV.dead)) (6 : Nat) SV.dead)),
                              SV.int IntKind.i64 (asInt (List.getD (cellsOf (List.getD x4 (Int.toNat x3) SV.dead)) (7 : Nat) SV.dead)),
                              SV.int IntKind.i64 (asInt (List.getD (cellsOf (List.getD x4 (Int.toNat x3) SV.dead)) (8 : Nat) SV.dead))])))]))
          else
            some
              (some
                (SV.row (1 : Nat),
                  [((1 : Nat),
                      SObj.row (27 : Nat)
                        (h0
                          (List.set x4 (Int.toNat x3)
                            (SV.agg
                              [SV.int IntKind.i64 (2 : Int), SV.int IntKind.i64 (asInt (List.getD (cellsOf (List.getD x4 (Int.toNat x3) SV.dead)) (1 : Nat) SV.dead)),
                                SV.int IntKind.i64 (asInt (List.getD (cellsOf (List.getD x4 (Int.toNat x3) SV.dead)) (2 : Nat) SV.dead)),
                                SV.int IntKind.i64 (asInt (List.getD (cellsOf (List.getD x4 (Int.toNat x3) SV.dead)) (3 : Nat) SV.dead)),
                                SV.str (asStr (List.getD (cellsOf (List.getD x4 (Int.toNat x3) SV.dead)) (4 : Nat) SV.dead)), SV.str (asStr (List.getD (cellsOf (List.getD x4 (Int.toNat x3) SV.dead)) (5 : Nat) SV.dead)),
                                SV.lst (127 : Nat) (asLst (List.getD (cellsOf (List.getD x4 (Int.toNat x3) SV.dead)) (6 : Nat) SV.dead)),
                                SV.int IntKind.i64 (asInt (List.getD (cellsOf (List.getD x4 (Int.toNat x3) SV.dead)) (7 : Nat) SV.dead)),
                                SV.int IntKind.i64 (asInt (List.getD (cellsOf (List.getD x4 (Int.toNat x3) SV.dead)) (8 : Nat) SV.dead))]))
                          x0 x7 x1 x3 (IntKind.wrap IntKind.i64 (x2 + (1 : Int))) false))]))
        else none
      else none
    else none
  else none := by kernel_rfl

theorem f18_L11v1_eq (k0 : PK) (d0 : Nat) (h0 : PF) (fu fm : Nat) (x0 : ByteArray) (x1 : Int) (x2 : Int) (x3 : Int) (x4 : Int) (x5 : List SV) (x6 : Int) (x7 : Int) (x8 : Int) (x9 : Int) (x10 : ByteArray) (x11 : ByteArray) (x12 : List SV) (x13 : Int) (x14 : Int) : f18_L11v1 k0 d0 h0 fu (fm + 1) x0 x1 x2 x3 x4 x5 x6 x7 x8 x9 x10 x11 x12 x13 x14 = bif decide (x2 ≥ (0 : Int)) then
  bif decide ((0 : Int) ≤ x2) && decide (x2 < (↑(List.length x5) : Int)) then
    bif decide ((0 : Int) ≤ x2) && decide (x2 < (↑(List.length x5) : Int)) then
      f18_L13v1 k0 d0 h0 fu fu x0 x1 x3 x4
        (List.set x5 (Int.toNat x2)
          (SV.agg
            [SV.int IntKind.i64 (asInt (List.getD (cellsOf (List.getD x5 (Int.toNat x2) SV.dead)) (0 : Nat) SV.dead)),
              SV.int IntKind.i64 (asInt (List.getD (cellsOf (List.getD x5 (Int.toNat x2) SV.dead)) (1 : Nat) SV.dead)),
              SV.int IntKind.i64 (asInt (List.getD (cellsOf (List.getD x5 (Int.toNat x2) SV.dead)) (2 : Nat) SV.dead)),
              SV.int IntKind.i64 (asInt (List.getD (cellsOf (List.getD x5 (Int.toNat x2) SV.dead)) (3 : Nat) SV.dead)), SV.str (asStr (List.getD (cellsOf (List.getD x5 (Int.toNat x2) SV.dead)) (4 : Nat) SV.dead)),
              SV.str (asStr (List.getD (cellsOf (List.getD x5 (Int.toNat x2) SV.dead)) (5 : Nat) SV.dead)), SV.lst (127 : Nat) (asLst (List.getD (cellsOf (List.getD x5 (Int.toNat x2) SV.dead)) (6 : Nat) SV.dead)),
              SV.int IntKind.i64 (asInt (List.getD (cellsOf (List.getD x5 (Int.toNat x2) SV.dead)) (7 : Nat) SV.dead)),
              SV.int IntKind.i64 (IntKind.wrap IntKind.i64 (asInt (List.getD (cellsOf (List.getD x5 (Int.toNat x2) SV.dead)) (8 : Nat) SV.dead) + (1 : Int)))]))
        x6 x7 x8 x9 x10 x11 x12 x13 x14
    else none
  else none
  else f18_L13v1 k0 d0 h0 fu fu x0 x1 x3 x4 x5 x6 x7 x8 x9 x10 x11 x12 x13 x14 := by kernel_rfl

theorem f18_L11_eq (k0 : PK) (d0 : Nat) (h0 : PF) (fu fm : Nat) (x0 : ByteArray) (x1 : Int) (x2 : Int) (x3 : Int) (x4 : Int) (x5 : List SV) (x6 : Int) (x7 : Int) (x8 : Int) (x9 : Int) (x10 : ByteArray) (x11 : ByteArray) (x12 : Int) (x13 : Int) (x14 : List SV) : f18_L11 k0 d0 h0 fu (fm + 1) x0 x1 x2 x3 x4 x5 x6 x7 x8 x9 x10 x11 x12 x13 x14 = bif decide (x2 ≥ (0 : Int)) then
  bif decide ((0 : Int) ≤ x2) && decide (x2 < (↑(List.length x5) : Int)) then
    bif decide ((0 : Int) ≤ x2) && decide (x2 < (↑(List.length x5) : Int)) then
      f18_L13 k0 d0 h0 fu fu x0 x1 x3 x4
        (List.set x5 (Int.toNat x2)
          (SV.agg
            [SV.int IntKind.i64 (asInt (List.getD (cellsOf (List.getD x5 (Int.toNat x2) SV.dead)) (0 : Nat) SV.dead)),
              SV.int IntKind.i64 (asInt (List.getD (cellsOf (List.getD x5 (Int.toNat x2) SV.dead)) (1 : Nat) SV.dead)),
              SV.int IntKind.i64 (asInt (List.getD (cellsOf (List.getD x5 (Int.toNat x2) SV.dead)) (2 : Nat) SV.dead)),
              SV.int IntKind.i64 (asInt (List.getD (cellsOf (List.getD x5 (Int.toNat x2) SV.dead)) (3 : Nat) SV.dead)), SV.str (asStr (List.getD (cellsOf (List.getD x5 (Int.toNat x2) SV.dead)) (4 : Nat) SV.dead)),
              SV.str (asStr (List.getD (cellsOf (List.getD x5 (Int.toNat x2) SV.dead)) (5 : Nat) SV.dead)), SV.lst (127 : Nat) (asLst (List.getD (cellsOf (List.getD x5 (Int.toNat x2) SV.dead)) (6 : Nat) SV.dead)),
              SV.int IntKind.i64 (asInt (List.getD (cellsOf (List.getD x5 (Int.toNat x2) SV.dead)) (7 : Nat) SV.dead)),
              SV.int IntKind.i64 (IntKind.wrap IntKind.i64 (asInt (List.getD (cellsOf (List.getD x5 (Int.toNat x2) SV.dead)) (8 : Nat) SV.dead) + (1 : Int)))]))
        x6 x7 x8 x9 x10 x11 x12 x13 x14
    else none
  else none
  else f18_L13 k0 d0 h0 fu fu x0 x1 x3 x4 x5 x6 x7 x8 x9 x10 x11 x12 x13 x14 := by kernel_rfl

theorem f18_eq (k0 : PK) (d0 : Nat) (h0 : PF) (fu : Nat) (l : List SV) (s : ByteArray) (a : Int) (b : Int) (u : Int) (n : Int) (q : Bool) : evFunD (f18_X k0 d0 h0 [0]) [11, 13] fu Tryz.f18 (finW (tyOf Tryz.prog) [0] 1) [.row 0, .str s, .int .i64 a, .int .i64 b, .int .i64 u, .int .i64 n, .bool q] [(0, .row 27 l)] [0] = bif decide ((↑(List.length l) : Int) ≥ (64 : Int)) then some (some (SV.row (0 : Nat), [((0 : Nat), SObj.row (27 : Nat) l)]))
  else
  bif decide ((0 : Int) ≤ b) && decide (b ≤ (↑(ByteArray.size s) : Int)) && (decide ((0 : Int) ≤ a) && decide (a ≤ b)) then
    bif Nat.ble (ByteArray.size (ByteArray.extract s (Int.toNat a) (Int.toNat b))) (1000000 : Nat) then
      bif Nat.ble (ByteArray.size (ByteArray.extract s (Int.toNat a) (Int.toNat b))) (1000000 : Nat) then
        bif
            Nat.ble
              (ByteArray.size
                (k0.fS (ByteArray.extract s (Int.toNat a) (Int.toNat b))
                  (ByteArray.mk #[(67 : UInt8), (111 : UInt8), (110 : UInt8), (116 : UInt8), (101 : UInt8), (110 : UInt8), (116 : UInt8), (45 : UInt8), (84 : UInt8), (121 : UInt8), (112 : UInt8), (101 : UInt8)])))
              (1000000 : Nat) then
          bif
              !k0.fB (ByteArray.extract s (Int.toNat a) (Int.toNat b))
                  (ByteArray.mk #[(67 : UInt8), (111 : UInt8), (110 : UInt8), (116 : UInt8), (101 : UInt8), (110 : UInt8), (116 : UInt8), (45 : UInt8), (84 : UInt8), (121 : UInt8), (112 : UInt8), (101 : UInt8)]) then
            bif q then
              bif decide ((List.length l + (1 : Nat)) * (104 : Nat) ≤ (140737488355328 : Nat)) && decide (List.length l + (1 : Nat) ≤ (9223372036854775807 : Nat)) then
                f18_L11 k0 d0 h0 fu fu s b u n (↑(List.length l) : Int)
                  (l ++
                    [SV.agg
                        [SV.int IntKind.i64 (0 : Int), SV.int IntKind.i64 a, SV.int IntKind.i64 (IntKind.wrap IntKind.i64 (a + k0.split (ByteArray.extract s (Int.toNat a) (Int.toNat b)))), SV.int IntKind.i64 b,
                          SV.str (ByteArray.mk #[(109 : UInt8), (101 : UInt8), (115 : UInt8), (115 : UInt8), (97 : UInt8), (103 : UInt8), (101 : UInt8)]),
                          SV.str (ByteArray.mk #[(114 : UInt8), (102 : UInt8), (99 : UInt8), (56 : UInt8), (50 : UInt8), (50 : UInt8)]), SV.lst (127 : Nat) [], SV.int IntKind.i64 u, SV.int IntKind.i64 (0 : Int)]])
                  (0 : Int) a (IntKind.wrap IntKind.i64 (a + k0.split (ByteArray.extract s (Int.toNat a) (Int.toNat b)))) b
                  (ByteArray.mk #[(109 : UInt8), (101 : UInt8), (115 : UInt8), (115 : UInt8), (97 : UInt8), (103 : UInt8), (101 : UInt8)])
                  (ByteArray.mk #[(114 : UInt8), (102 : UInt8), (99 : UInt8), (56 : UInt8), (50 : UInt8), (50 : UInt8)]) u (0 : Int) []
              else none
            else
              bif decide ((List.length l + (1 : Nat)) * (104 : Nat) ≤ (140737488355328 : Nat)) && decide (List.length l + (1 : Nat) ≤ (9223372036854775807 : Nat)) then
                f18_L11v1 k0 d0 h0 fu fu s b u n (↑(List.length l) : Int)
                  (l ++
                    [SV.agg
                        [SV.int IntKind.i64 (0 : Int), SV.int IntKind.i64 a, SV.int IntKind.i64 (IntKind.wrap IntKind.i64 (a + k0.split (ByteArray.extract s (Int.toNat a) (Int.toNat b)))), SV.int IntKind.i64 b,
                          SV.str
                            (k0.m1
                              (k0.fS (ByteArray.extract s (Int.toNat a) (Int.toNat b))
                                (ByteArray.mk
                                  #[(67 : UInt8), (111 : UInt8), (110 : UInt8), (116 : UInt8), (101 : UInt8), (110 : UInt8), (116 : UInt8), (45 : UInt8), (84 : UInt8), (121 : UInt8), (112 : UInt8), (101 : UInt8)]))),
                          SV.str
                            (k0.m2
                              (k0.fS (ByteArray.extract s (Int.toNat a) (Int.toNat b))
                                (ByteArray.mk
                                  #[(67 : UInt8), (111 : UInt8), (110 : UInt8), (116 : UInt8), (101 : UInt8), (110 : UInt8), (116 : UInt8), (45 : UInt8), (84 : UInt8), (121 : UInt8), (112 : UInt8), (101 : UInt8)]))),
                          SV.lst (127 : Nat)
                            (k0.m3
                              (k0.fS (ByteArray.extract s (Int.toNat a) (Int.toNat b))
                                (ByteArray.mk
                                  #[(67 : UInt8), (111 : UInt8), (110 : UInt8), (116 : UInt8), (101 : UInt8), (110 : UInt8), (116 : UInt8), (45 : UInt8), (84 : UInt8), (121 : UInt8), (112 : UInt8), (101 : UInt8)]))),
                          SV.int IntKind.i64 u, SV.int IntKind.i64 (0 : Int)]])
                  (0 : Int) a (IntKind.wrap IntKind.i64 (a + k0.split (ByteArray.extract s (Int.toNat a) (Int.toNat b)))) b
                  (k0.m1
                    (k0.fS (ByteArray.extract s (Int.toNat a) (Int.toNat b))
                      (ByteArray.mk #[(67 : UInt8), (111 : UInt8), (110 : UInt8), (116 : UInt8), (101 : UInt8), (110 : UInt8), (116 : UInt8), (45 : UInt8), (84 : UInt8), (121 : UInt8), (112 : UInt8), (101 : UInt8)])))
                  (k0.m2
                    (k0.fS (ByteArray.extract s (Int.toNat a) (Int.toNat b))
                      (ByteArray.mk #[(67 : UInt8), (111 : UInt8), (110 : UInt8), (116 : UInt8), (101 : UInt8), (110 : UInt8), (116 : UInt8), (45 : UInt8), (84 : UInt8), (121 : UInt8), (112 : UInt8), (101 : UInt8)])))
                  (k0.m3
                    (k0.fS (ByteArray.extract s (Int.toNat a) (Int.toNat b))
                      (ByteArray.mk #[(67 : UInt8), (111 : UInt8), (110 : UInt8), (116 : UInt8), (101 : UInt8), (110 : UInt8), (116 : UInt8), (45 : UInt8), (84 : UInt8), (121 : UInt8), (112 : UInt8), (101 : UInt8)])))
                  u (0 : Int)
              else none
          else
            bif decide ((List.length l + (1 : Nat)) * (104 : Nat) ≤ (140737488355328 : Nat)) && decide (List.length l + (1 : Nat) ≤ (9223372036854775807 : Nat)) then
              f18_L11v1 k0 d0 h0 fu fu s b u n (↑(List.length l) : Int)
                (l ++
                  [SV.agg
                      [SV.int IntKind.i64 (0 : Int), SV.int IntKind.i64 a, SV.int IntKind.i64 (IntKind.wrap IntKind.i64 (a + k0.split (ByteArray.extract s (Int.toNat a) (Int.toNat b)))), SV.int IntKind.i64 b,
                        SV.str
                          (k0.m1
                            (k0.fS (ByteArray.extract s (Int.toNat a) (Int.toNat b))
                              (ByteArray.mk
                                #[(67 : UInt8), (111 : UInt8), (110 : UInt8), (116 : UInt8), (101 : UInt8), (110 : UInt8), (116 : UInt8), (45 : UInt8), (84 : UInt8), (121 : UInt8), (112 : UInt8), (101 : UInt8)]))),
                        SV.str
                          (k0.m2
                            (k0.fS (ByteArray.extract s (Int.toNat a) (Int.toNat b))
                              (ByteArray.mk
                                #[(67 : UInt8), (111 : UInt8), (110 : UInt8), (116 : UInt8), (101 : UInt8), (110 : UInt8), (116 : UInt8), (45 : UInt8), (84 : UInt8), (121 : UInt8), (112 : UInt8), (101 : UInt8)]))),
                        SV.lst (127 : Nat)
                          (k0.m3
                            (k0.fS (ByteArray.extract s (Int.toNat a) (Int.toNat b))
                              (ByteArray.mk
                                #[(67 : UInt8), (111 : UInt8), (110 : UInt8), (116 : UInt8), (101 : UInt8), (110 : UInt8), (116 : UInt8), (45 : UInt8), (84 : UInt8), (121 : UInt8), (112 : UInt8), (101 : UInt8)]))),
                        SV.int IntKind.i64 u, SV.int IntKind.i64 (0 : Int)]])
                (0 : Int) a (IntKind.wrap IntKind.i64 (a + k0.split (ByteArray.extract s (Int.toNat a) (Int.toNat b)))) b
                (k0.m1
                  (k0.fS (ByteArray.extract s (Int.toNat a) (Int.toNat b))
                    (ByteArray.mk #[(67 : UInt8), (111 : UInt8), (110 : UInt8), (116 : UInt8), (101 : UInt8), (110 : UInt8), (116 : UInt8), (45 : UInt8), (84 : UInt8), (121 : UInt8), (112 : UInt8), (101 : UInt8)])))
                (k0.m2
                  (k0.fS (ByteArray.extract s (Int.toNat a) (Int.toNat b))
                    (ByteArray.mk #[(67 : UInt8), (111 : UInt8), (110 : UInt8), (116 : UInt8), (101 : UInt8), (110 : UInt8), (116 : UInt8), (45 : UInt8), (84 : UInt8), (121 : UInt8), (112 : UInt8), (101 : UInt8)])))
                (k0.m3
                  (k0.fS (ByteArray.extract s (Int.toNat a) (Int.toNat b))
                    (ByteArray.mk #[(67 : UInt8), (111 : UInt8), (110 : UInt8), (116 : UInt8), (101 : UInt8), (110 : UInt8), (116 : UInt8), (45 : UInt8), (84 : UInt8), (121 : UInt8), (112 : UInt8), (101 : UInt8)])))
                u (0 : Int)
            else none
        else none
      else none
    else none
  else none := by kernel_rfl

def f18n_st22 (x0 : ByteArray) (x1 : Int) (x2 : Int) (x3 : List SV) (x4 : Int) (x5 : List SV) (x6 : Int) (x7 : Int) (x8 : Int) (x9 : Int) (x10 : ByteArray) (x11 : ByteArray) (x12 : List SV) (x13 : Int) (x14 : Int) : St := St.mk
  [SV.row (100 : Nat), SV.str x0, SV.dead, SV.dead, SV.dead, SV.int IntKind.i64 x1, SV.dead, SV.dead, SV.dead, SV.dead, SV.dead, SV.dead, SV.dead, SV.dead, SV.dead, SV.dead, SV.box (101 : Nat) (0 : Nat), SV.dead,
    SV.dead, SV.int IntKind.i64 x2, SV.dead, SV.dead, SV.lst (99 : Nat) x3, SV.int IntKind.i64 x4, SV.dead, SV.dead, SV.dead, SV.dead, SV.dead, SV.dead, SV.dead, SV.dead, SV.dead, SV.dead, SV.dead, SV.dead, SV.dead,
    SV.dead, SV.dead, SV.dead, SV.dead, SV.dead, SV.dead, SV.dead, SV.dead, SV.dead, SV.dead, SV.dead, SV.dead, SV.dead, SV.dead, SV.dead, SV.dead, SV.dead, SV.dead, SV.dead, SV.dead, SV.dead, SV.dead, SV.dead, SV.dead,
    SV.dead, SV.dead, SV.dead, SV.dead, SV.dead, SV.dead, SV.dead, SV.dead, SV.dead, SV.dead, SV.dead, SV.dead, SV.dead, SV.dead, SV.dead, SV.dead, SV.dead, SV.dead, SV.dead, SV.dead, SV.dead, SV.dead, SV.dead, SV.dead,
    SV.dead, SV.dead, SV.dead, SV.dead, SV.dead, SV.dead, SV.dead, SV.dead, SV.dead, SV.dead, SV.dead, SV.dead, SV.dead, SV.dead, SV.dead, SV.dead, SV.dead, SV.dead, SV.dead, SV.dead, SV.dead, SV.dead, SV.dead, SV.dead,
    SV.dead, SV.dead, SV.dead, SV.dead, SV.dead, SV.dead, SV.dead, SV.dead, SV.dead, SV.dead, SV.dead, SV.dead, SV.dead, SV.dead, SV.dead, SV.dead, SV.dead, SV.dead, SV.dead, SV.dead, SV.dead, SV.dead, SV.dead, SV.dead,
    SV.dead, SV.dead, SV.dead, SV.dead, SV.dead, SV.dead, SV.dead, SV.dead, SV.dead, SV.dead, SV.dead, SV.dead, SV.dead, SV.dead, SV.dead]
  [((100 : Nat), SObj.row (27 : Nat) x5),
    ((101 : Nat),
      SObj.box (27 : Nat) [SV.int IntKind.i64 x6, SV.int IntKind.i64 x7, SV.int IntKind.i64 x8, SV.int IntKind.i64 x9, SV.str x10, SV.str x11, SV.lst (127 : Nat) x12, SV.int IntKind.i64 x13, SV.int IntKind.i64 x14])]
  [(100 : Nat), (101 : Nat)]
noncomputable def f18n_L22 (k0 : PK) (d0 : Nat) (h0 : PF) (fu fm : Nat) (x0 : ByteArray) (x1 : Int) (x2 : Int) (x3 : List SV) (x4 : Int) (x5 : List SV) (x6 : Int) (x7 : Int) (x8 : Int) (x9 : Int) (x10 : ByteArray) (x11 : ByteArray) (x12 : List SV) (x13 : Int) (x14 : Int) : Option (Option (SV × Mem)) := atLoopD (f18_X k0 d0 h0 []) [11, 13] Tryz.f18 (finW (tyOf Tryz.prog) [] 0) fu [.r, .r, .r, .r, .r, .r, .r, .r, .r, .r, .r, .r, .r, .l, .r, .t, .r, .r, .b] fm (f18n_st22 x0 x1 x2 x3 x4 x5 x6 x7 x8 x9 x10 x11 x12 x13 x14)

def f18n_st13 (x0 : ByteArray) (x1 : Int) (x2 : Int) (x3 : Int) (x4 : List SV) (x5 : Int) (x6 : Int) (x7 : Int) (x8 : Int) (x9 : ByteArray) (x10 : ByteArray) (x11 : List SV) (x12 : Int) (x13 : Int) : St := St.mk
  [SV.row (100 : Nat), SV.str x0, SV.dead, SV.int IntKind.i64 x1, SV.dead, SV.int IntKind.i64 x2, SV.dead, SV.dead, SV.dead, SV.dead, SV.dead, SV.dead, SV.dead, SV.dead, SV.dead, SV.dead, SV.box (101 : Nat) (0 : Nat),
    SV.dead, SV.dead, SV.int IntKind.i64 x3, SV.dead, SV.dead, SV.dead, SV.dead, SV.dead, SV.dead, SV.dead, SV.dead, SV.dead, SV.dead, SV.dead, SV.dead, SV.dead, SV.dead, SV.dead, SV.dead, SV.dead, SV.dead, SV.dead,
    SV.dead, SV.dead, SV.dead, SV.dead, SV.dead, SV.dead, SV.dead, SV.dead, SV.dead, SV.dead, SV.dead, SV.dead, SV.dead, SV.dead, SV.dead, SV.dead, SV.dead, SV.dead, SV.dead, SV.dead, SV.dead, SV.dead, SV.dead, SV.dead,
    SV.dead, SV.dead, SV.dead, SV.dead, SV.dead, SV.dead, SV.dead, SV.dead, SV.dead, SV.dead, SV.dead, SV.dead, SV.dead, SV.dead, SV.dead, SV.dead, SV.dead, SV.dead, SV.dead, SV.dead, SV.dead, SV.dead, SV.dead, SV.dead,
    SV.dead, SV.dead, SV.dead, SV.dead, SV.dead, SV.dead, SV.dead, SV.dead, SV.dead, SV.dead, SV.dead, SV.dead, SV.dead, SV.dead, SV.dead, SV.dead, SV.dead, SV.dead, SV.dead, SV.dead, SV.dead, SV.dead, SV.dead, SV.dead,
    SV.dead, SV.dead, SV.dead, SV.dead, SV.dead, SV.dead, SV.dead, SV.dead, SV.dead, SV.dead, SV.dead, SV.dead, SV.dead, SV.dead, SV.dead, SV.dead, SV.dead, SV.dead, SV.dead, SV.dead, SV.dead, SV.dead, SV.dead, SV.dead,
    SV.dead, SV.dead, SV.dead, SV.dead, SV.dead, SV.dead, SV.dead, SV.dead, SV.dead, SV.dead, SV.dead, SV.dead, SV.dead]
  [((100 : Nat), SObj.row (27 : Nat) x4),
    ((101 : Nat),
      SObj.box (27 : Nat) [SV.int IntKind.i64 x5, SV.int IntKind.i64 x6, SV.int IntKind.i64 x7, SV.int IntKind.i64 x8, SV.str x9, SV.str x10, SV.lst (127 : Nat) x11, SV.int IntKind.i64 x12, SV.int IntKind.i64 x13])]
  [(100 : Nat), (101 : Nat)]
noncomputable def f18n_L13 (k0 : PK) (d0 : Nat) (h0 : PF) (fu fm : Nat) (x0 : ByteArray) (x1 : Int) (x2 : Int) (x3 : Int) (x4 : List SV) (x5 : Int) (x6 : Int) (x7 : Int) (x8 : Int) (x9 : ByteArray) (x10 : ByteArray) (x11 : List SV) (x12 : Int) (x13 : Int) : Option (Option (SV × Mem)) := atLoopD (f18_X k0 d0 h0 []) [11, 13] Tryz.f18 (finW (tyOf Tryz.prog) [] 0) fu [.r, .r, .r, .r, .r, .r, .r, .r, .r, .r] fm (f18n_st13 x0 x1 x2 x3 x4 x5 x6 x7 x8 x9 x10 x11 x12 x13)

def f18n_st11 (x0 : ByteArray) (x1 : Int) (x2 : Int) (x3 : Int) (x4 : Int) (x5 : List SV) (x6 : Int) (x7 : Int) (x8 : Int) (x9 : Int) (x10 : ByteArray) (x11 : ByteArray) (x12 : List SV) (x13 : Int) (x14 : Int) : St := St.mk
  [SV.row (100 : Nat), SV.str x0, SV.dead, SV.int IntKind.i64 x1, SV.int IntKind.i64 x2, SV.int IntKind.i64 x3, SV.dead, SV.dead, SV.dead, SV.dead, SV.dead, SV.dead, SV.dead, SV.dead, SV.dead, SV.dead,
    SV.box (101 : Nat) (0 : Nat), SV.dead, SV.dead, SV.int IntKind.i64 x4, SV.dead, SV.dead, SV.dead, SV.dead, SV.dead, SV.dead, SV.dead, SV.dead, SV.dead, SV.dead, SV.dead, SV.dead, SV.dead, SV.dead, SV.dead, SV.dead,
    SV.dead, SV.dead, SV.dead, SV.dead, SV.dead, SV.dead, SV.dead, SV.dead, SV.dead, SV.dead, SV.dead, SV.dead, SV.dead, SV.dead, SV.dead, SV.dead, SV.dead, SV.dead, SV.dead, SV.dead, SV.dead, SV.dead, SV.dead, SV.dead,
    SV.dead, SV.dead, SV.dead, SV.dead, SV.dead, SV.dead, SV.dead, SV.dead, SV.dead, SV.dead, SV.dead, SV.dead, SV.dead, SV.dead, SV.dead, SV.dead, SV.dead, SV.dead, SV.dead, SV.dead, SV.dead, SV.dead, SV.dead, SV.dead,
    SV.dead, SV.dead, SV.dead, SV.dead, SV.dead, SV.dead, SV.dead, SV.dead, SV.dead, SV.dead, SV.dead, SV.dead, SV.dead, SV.dead, SV.dead, SV.dead, SV.dead, SV.dead, SV.dead, SV.dead, SV.dead, SV.dead, SV.dead, SV.dead,
    SV.dead, SV.dead, SV.dead, SV.dead, SV.dead, SV.dead, SV.dead, SV.dead, SV.dead, SV.dead, SV.dead, SV.dead, SV.dead, SV.dead, SV.dead, SV.dead, SV.dead, SV.dead, SV.dead, SV.dead, SV.dead, SV.dead, SV.dead, SV.dead,
    SV.dead, SV.dead, SV.dead, SV.dead, SV.dead, SV.dead, SV.dead, SV.dead, SV.dead, SV.dead, SV.dead, SV.dead, SV.dead, SV.dead, SV.dead, SV.dead]
  [((100 : Nat), SObj.row (27 : Nat) x5),
    ((101 : Nat),
      SObj.box (27 : Nat) [SV.int IntKind.i64 x6, SV.int IntKind.i64 x7, SV.int IntKind.i64 x8, SV.int IntKind.i64 x9, SV.str x10, SV.str x11, SV.lst (127 : Nat) x12, SV.int IntKind.i64 x13, SV.int IntKind.i64 x14])]
  [(100 : Nat), (101 : Nat)]
noncomputable def f18n_L11 (k0 : PK) (d0 : Nat) (h0 : PF) (fu fm : Nat) (x0 : ByteArray) (x1 : Int) (x2 : Int) (x3 : Int) (x4 : Int) (x5 : List SV) (x6 : Int) (x7 : Int) (x8 : Int) (x9 : Int) (x10 : ByteArray) (x11 : ByteArray) (x12 : List SV) (x13 : Int) (x14 : Int) : Option (Option (SV × Mem)) := atLoopD (f18_X k0 d0 h0 []) [11, 13] Tryz.f18 (finW (tyOf Tryz.prog) [] 0) fu [.r, .r, .r, .r, .r, .r, .r, .r, .r] fm (f18n_st11 x0 x1 x2 x3 x4 x5 x6 x7 x8 x9 x10 x11 x12 x13 x14)

theorem f18n_L22_eq (k0 : PK) (d0 : Nat) (h0 : PF) (fu fm : Nat) (x0 : ByteArray) (x1 : Int) (x2 : Int) (x3 : List SV) (x4 : Int) (x5 : List SV) (x6 : Int) (x7 : Int) (x8 : Int) (x9 : Int) (x10 : ByteArray) (x11 : ByteArray) (x12 : List SV) (x13 : Int) (x14 : Int) : f18n_L22 k0 d0 h0 fu (fm + 1) x0 x1 x2 x3 x4 x5 x6 x7 x8 x9 x10 x11 x12 x13 x14 = bif decide (x4 < (↑(List.length x3) : Int)) then
  bif decide ((0 : Int) ≤ x2) && decide (x2 < (↑(List.length x5) : Int)) then
    bif decide ((0 : Int) ≤ x4) && decide (x4 < (↑(List.length x3) : Int)) then
      bif decide ((0 : Int) ≤ x4) && decide (x4 < (↑(List.length x3) : Int)) then
        bif
            gdP d0
              (List.set x5 (Int.toNat x2)
                (SV.agg
                  [SV.int IntKind.i64 (1 : Int), SV.int IntKind.i64 (asInt (List.getD (cellsOf (List.getD x5 (Int.toNat x2) SV.dead)) (1 : Nat) SV.dead)),
                    SV.int IntKind.i64 (asInt (List.getD (cellsOf (List.getD x5 (Int.toNat x2) SV.dead)) (2 : Nat) SV.dead)),
                    SV.int IntKind.i64 (asInt (List.getD (cellsOf (List.getD x5 (Int.toNat x2) SV.dead)) (3 : Nat) SV.dead)), SV.str (asStr (List.getD (cellsOf (List.getD x5 (Int.toNat x2) SV.dead)) (4 : Nat) SV.dead)),
                    SV.str (asStr (List.getD (cellsOf (List.getD x5 (Int.toNat x2) SV.dead)) (5 : Nat) SV.dead)), SV.lst (127 : Nat) (asLst (List.getD (cellsOf (List.getD x5 (Int.toNat x2) SV.dead)) (6 : Nat) SV.dead)),
                    SV.int IntKind.i64 (asInt (List.getD (cellsOf (List.getD x5 (Int.toNat x2) SV.dead)) (7 : Nat) SV.dead)),
                    SV.int IntKind.i64 (asInt (List.getD (cellsOf (List.getD x5 (Int.toNat x2) SV.dead)) (8 : Nat) SV.dead))]))
              x0 (asInt (List.getD (cellsOf (List.getD x3 (Int.toNat x4) SV.dead)) (0 : Nat) SV.dead)) (asInt (List.getD (cellsOf (List.getD x3 (Int.toNat x4) SV.dead)) (1 : Nat) SV.dead)) x2
              (IntKind.wrap IntKind.i64 (x1 + (1 : Int))) then
          bif
              Nat.ble (64 : Nat)
                (List.length
                  (List.set x5 (Int.toNat x2)
                    (SV.agg
                      [SV.int IntKind.i64 (1 : Int), SV.int IntKind.i64 (asInt (List.getD (cellsOf (List.getD x5 (Int.toNat x2) SV.dead)) (1 : Nat) SV.dead)),
                        SV.int IntKind.i64 (asInt (List.getD (cellsOf (List.getD x5 (Int.toNat x2) SV.dead)) (2 : Nat) SV.dead)),
                        SV.int IntKind.i64 (asInt (List.getD (cellsOf (List.getD x5 (Int.toNat x2) SV.dead)) (3 : Nat) SV.dead)),
                        SV.str (asStr (List.getD (cellsOf (List.getD x5 (Int.toNat x2) SV.dead)) (4 : Nat) SV.dead)), SV.str (asStr (List.getD (cellsOf (List.getD x5 (Int.toNat x2) SV.dead)) (5 : Nat) SV.dead)),
                        SV.lst (127 : Nat) (asLst (List.getD (cellsOf (List.getD x5 (Int.toNat x2) SV.dead)) (6 : Nat) SV.dead)),
                        SV.int IntKind.i64 (asInt (List.getD (cellsOf (List.getD x5 (Int.toNat x2) SV.dead)) (7 : Nat) SV.dead)),
                        SV.int IntKind.i64 (asInt (List.getD (cellsOf (List.getD x5 (Int.toNat x2) SV.dead)) (8 : Nat) SV.dead))]))) then
            f18n_L22 k0 d0 h0 fu fm x0 x1 x2 x3 (IntKind.wrap IntKind.i64 (x4 + (1 : Int)))
              (List.set x5 (Int.toNat x2)
                (SV.agg
                  [SV.int IntKind.i64 (1 : Int), SV.int IntKind.i64 (asInt (List.getD (cellsOf (List.getD x5 (Int.toNat x2) SV.dead)) (1 : Nat) SV.dead)),
                    SV.int IntKind.i64 (asInt (List.getD (cellsOf (List.getD x5 (Int.toNat x2) SV.dead)) (2 : Nat) SV.dead)),
                    SV.int IntKind.i64 (asInt (List.getD (cellsOf (List.getD x5 (Int.toNat x2) SV.dead)) (3 : Nat) SV.dead)), SV.str (asStr (List.getD (cellsOf (List.getD x5 (Int.toNat x2) SV.dead)) (4 : Nat) SV.dead)),
                    SV.str (asStr (List.getD (cellsOf (List.getD x5 (Int.toNat x2) SV.dead)) (5 : Nat) SV.dead)), SV.lst (127 : Nat) (asLst (List.getD (cellsOf (List.getD x5 (Int.toNat x2) SV.dead)) (6 : Nat) SV.dead)),
                    SV.int IntKind.i64 (asInt (List.getD (cellsOf (List.getD x5 (Int.toNat x2) SV.dead)) (7 : Nat) SV.dead)),
                    SV.int IntKind.i64 (asInt (List.getD (cellsOf (List.getD x5 (Int.toNat x2) SV.dead)) (8 : Nat) SV.dead))]))
              x6 x7 x8 x9 x10 x11 x12 x13 x14
          else
            f18n_L22 k0 d0 h0 fu fm x0 x1 x2 x3 (IntKind.wrap IntKind.i64 (x4 + (1 : Int)))
              (h0
                (List.set x5 (Int.toNat x2)
                  (SV.agg
                    [SV.int IntKind.i64 (1 : Int), SV.int IntKind.i64 (asInt (List.getD (cellsOf (List.getD x5 (Int.toNat x2) SV.dead)) (1 : Nat) SV.dead)),
                      SV.int IntKind.i64 (asInt (List.getD (cellsOf (List.getD x5 (Int.toNat x2) SV.dead)) (2 : Nat) SV.dead)),
                      SV.int IntKind.i64 (asInt (List.getD (cellsOf (List.getD x5 (Int.toNat x2) SV.dead)) (3 : Nat) SV.dead)),
                      SV.str (asStr (List.getD (cellsOf (List.getD x5 (Int.toNat x2) SV.dead)) (4 : Nat) SV.dead)), SV.str (asStr (List.getD (cellsOf (List.getD x5 (Int.toNat x2) SV.dead)) (5 : Nat) SV.dead)),
                      SV.lst (127 : Nat) (asLst (List.getD (cellsOf (List.getD x5 (Int.toNat x2) SV.dead)) (6 : Nat) SV.dead)),
                      SV.int IntKind.i64 (asInt (List.getD (cellsOf (List.getD x5 (Int.toNat x2) SV.dead)) (7 : Nat) SV.dead)),
                      SV.int IntKind.i64 (asInt (List.getD (cellsOf (List.getD x5 (Int.toNat x2) SV.dead)) (8 : Nat) SV.dead))]))
                x0 (asInt (List.getD (cellsOf (List.getD x3 (Int.toNat x4) SV.dead)) (0 : Nat) SV.dead)) (asInt (List.getD (cellsOf (List.getD x3 (Int.toNat x4) SV.dead)) (1 : Nat) SV.dead)) x2
                (IntKind.wrap IntKind.i64 (x1 + (1 : Int))) (ByteArray.toList x11 == ByteArray.toList (ByteArray.mk #[(100 : UInt8), (105 : UInt8), (103 : UInt8), (101 : UInt8), (115 : UInt8), (116 : UInt8)])))
              x6 x7 x8 x9 x10 x11 x12 x13 x14
        else none
      else none
    else none
  else none
  else some (some (SV.row (0 : Nat), [((0 : Nat), SObj.row (27 : Nat) x5)])) := by kernel_rfl

theorem f18n_L13_eq (k0 : PK) (d0 : Nat) (h0 : PF) (fu fm : Nat) (x0 : ByteArray) (x1 : Int) (x2 : Int) (x3 : Int) (x4 : List SV) (x5 : Int) (x6 : Int) (x7 : Int) (x8 : Int) (x9 : ByteArray) (x10 : ByteArray) (x11 : List SV) (x12 : Int) (x13 : Int) : f18n_L13 k0 d0 h0 fu (fm + 1) x0 x1 x2 x3 x4 x5 x6 x7 x8 x9 x10 x11 x12 x13 = bif decide (x2 > (5 : Int)) then some (some (SV.row (0 : Nat), [((0 : Nat), SObj.row (27 : Nat) x4)]))
  else
  bif ByteArray.toList x9 == ByteArray.toList (ByteArray.mk #[(109 : UInt8), (101 : UInt8), (115 : UInt8), (115 : UInt8), (97 : UInt8), (103 : UInt8), (101 : UInt8)]) then
    bif ByteArray.toList x10 == ByteArray.toList (ByteArray.mk #[(114 : UInt8), (102 : UInt8), (99 : UInt8), (56 : UInt8), (50 : UInt8), (50 : UInt8)]) then
      bif decide ((0 : Int) ≤ x3) && decide (x3 < (↑(List.length x4) : Int)) then
        bif
            gdP d0
              (List.set x4 (Int.toNat x3)
                (SV.agg
                  [SV.int IntKind.i64 (2 : Int), SV.int IntKind.i64 (asInt (List.getD (cellsOf (List.getD x4 (Int.toNat x3) SV.dead)) (1 : Nat) SV.dead)),
                    SV.int IntKind.i64 (asInt (List.getD (cellsOf (List.getD x4 (Int.toNat x3) SV.dead)) (2 : Nat) SV.dead)),
                    SV.int IntKind.i64 (asInt (List.getD (cellsOf (List.getD x4 (Int.toNat x3) SV.dead)) (3 : Nat) SV.dead)), SV.str (asStr (List.getD (cellsOf (List.getD x4 (Int.toNat x3) SV.dead)) (4 : Nat) SV.dead)),
                    SV.str (asStr (List.getD (cellsOf (List.getD x4 (Int.toNat x3) SV.dead)) (5 : Nat) SV.dead)), SV.lst (127 : Nat) (asLst (List.getD (cellsOf (List.getD x4 (Int.toNat x3) SV.dead)) (6 : Nat) SV.dead)),
                    SV.int IntKind.i64 (asInt (List.getD (cellsOf (List.getD x4 (Int.toNat x3) SV.dead)) (7 : Nat) SV.dead)),
                    SV.int IntKind.i64 (asInt (List.getD (cellsOf (List.getD x4 (Int.toNat x3) SV.dead)) (8 : Nat) SV.dead))]))
              x0 x7 x1 x3 (IntKind.wrap IntKind.i64 (x2 + (1 : Int))) then
          bif
              Nat.ble (64 : Nat)
                (List.length
                  (List.set x4 (Int.toNat x3)
                    (SV.agg
                      [SV.int IntKind.i64 (2 : Int), SV.int IntKind.i64 (asInt (List.getD (cellsOf (List.getD x4 (Int.toNat x3) SV.dead)) (1 : Nat) SV.dead)),
                        SV.int IntKind.i64 (asInt (List.getD (cellsOf (List.getD x4 (Int.toNat x3) SV.dead)) (2 : Nat) SV.dead)),
                        SV.int IntKind.i64 (asInt (List.getD (cellsOf (List.getD x4 (Int.toNat x3) SV.dead)) (3 : Nat) SV.dead)),
                        SV.str (asStr (List.getD (cellsOf (List.getD x4 (Int.toNat x3) SV.dead)) (4 : Nat) SV.dead)), SV.str (asStr (List.getD (cellsOf (List.getD x4 (Int.toNat x3) SV.dead)) (5 : Nat) SV.dead)),
                        SV.lst (127 : Nat) (asLst (List.getD (cellsOf (List.getD x4 (Int.toNat x3) SV.dead)) (6 : Nat) SV.dead)),
                        SV.int IntKind.i64 (asInt (List.getD (cellsOf (List.getD x4 (Int.toNat x3) SV.dead)) (7 : Nat) SV.dead)),
                        SV.int IntKind.i64 (asInt (List.getD (cellsOf (List.getD x4 (Int.toNat x3) SV.dead)) (8 : Nat) SV.dead))]))) then
            some
              (some
                (SV.row (0 : Nat),
                  [((0 : Nat),
                      SObj.row (27 : Nat)
                        (List.set x4 (Int.toNat x3)
                          (SV.agg
                            [SV.int IntKind.i64 (2 : Int), SV.int IntKind.i64 (asInt (List.getD (cellsOf (List.getD x4 (Int.toNat x3) SV.dead)) (1 : Nat) SV.dead)),
                              SV.int IntKind.i64 (asInt (List.getD (cellsOf (List.getD x4 (Int.toNat x3) SV.dead)) (2 : Nat) SV.dead)),
                              SV.int IntKind.i64 (asInt (List.getD (cellsOf (List.getD x4 (Int.toNat x3) SV.dead)) (3 : Nat) SV.dead)),
                              SV.str (asStr (List.getD (cellsOf (List.getD x4 (Int.toNat x3) SV.dead)) (4 : Nat) SV.dead)), SV.str (asStr (List.getD (cellsOf (List.getD x4 (Int.toNat x3) SV.dead)) (5 : Nat) SV.dead)),
                              SV.lst (127 : Nat) (asLst (List.getD (cellsOf (List.getD x4 (Int.toNat x3) SV.dead)) (6 : Nat) SV.dead)),
                              SV.int IntKind.i64 (asInt (List.getD (cellsOf (List.getD x4 (Int.toNat x3) SV.dead)) (7 : Nat) SV.dead)),
                              SV.int IntKind.i64 (asInt (List.getD (cellsOf (List.getD x4 (Int.toNat x3) SV.dead)) (8 : Nat) SV.dead))])))]))
          else
            some
              (some
                (SV.row (0 : Nat),
                  [((0 : Nat),
                      SObj.row (27 : Nat)
                        (h0
                          (List.set x4 (Int.toNat x3)
                            (SV.agg
                              [SV.int IntKind.i64 (2 : Int), SV.int IntKind.i64 (asInt (List.getD (cellsOf (List.getD x4 (Int.toNat x3) SV.dead)) (1 : Nat) SV.dead)),
                                SV.int IntKind.i64 (asInt (List.getD (cellsOf (List.getD x4 (Int.toNat x3) SV.dead)) (2 : Nat) SV.dead)),
                                SV.int IntKind.i64 (asInt (List.getD (cellsOf (List.getD x4 (Int.toNat x3) SV.dead)) (3 : Nat) SV.dead)),
                                SV.str (asStr (List.getD (cellsOf (List.getD x4 (Int.toNat x3) SV.dead)) (4 : Nat) SV.dead)), SV.str (asStr (List.getD (cellsOf (List.getD x4 (Int.toNat x3) SV.dead)) (5 : Nat) SV.dead)),
                                SV.lst (127 : Nat) (asLst (List.getD (cellsOf (List.getD x4 (Int.toNat x3) SV.dead)) (6 : Nat) SV.dead)),
                                SV.int IntKind.i64 (asInt (List.getD (cellsOf (List.getD x4 (Int.toNat x3) SV.dead)) (7 : Nat) SV.dead)),
                                SV.int IntKind.i64 (asInt (List.getD (cellsOf (List.getD x4 (Int.toNat x3) SV.dead)) (8 : Nat) SV.dead))]))
                          x0 x7 x1 x3 (IntKind.wrap IntKind.i64 (x2 + (1 : Int))) false))]))
        else none
      else none
    else
      bif Nat.ble (List.length x11) (1000000 : Nat) then
        bif ByteArray.toList x9 == ByteArray.toList (ByteArray.mk #[(109 : UInt8), (117 : UInt8), (108 : UInt8), (116 : UInt8), (105 : UInt8), (112 : UInt8), (97 : UInt8), (114 : UInt8), (116 : UInt8)]) then
          bif
              !ByteArray.toList (k0.pS x9 x10 x11 (ByteArray.mk #[(98 : UInt8), (111 : UInt8), (117 : UInt8), (110 : UInt8), (100 : UInt8), (97 : UInt8), (114 : UInt8), (121 : UInt8)])) ==
                  ByteArray.toList (ByteArray.mk #[]) then
            bif
                Nat.ble (ByteArray.size x0) (1000000 : Nat) &&
                  (Nat.ble (ByteArray.size (k0.pS x9 x10 x11 (ByteArray.mk #[(98 : UInt8), (111 : UInt8), (117 : UInt8), (110 : UInt8), (100 : UInt8), (97 : UInt8), (114 : UInt8), (121 : UInt8)]))) (1000000 : Nat) &&
                    (decide ((0 : Int) ≤ x7) && (decide (x7 ≤ x1) && decide (x1 ≤ (↑(ByteArray.size x0) : Int))))) then
              f18n_L22 k0 d0 h0 fu fu x0 x2 x3 (k0.sp x0 x7 x1 (k0.pS x9 x10 x11 (ByteArray.mk #[(98 : UInt8), (111 : UInt8), (117 : UInt8), (110 : UInt8), (100 : UInt8), (97 : UInt8), (114 : UInt8), (121 : UInt8)]))) (0 : Int)
                x4 x5 x6 x7 x8 x9 x10 x11 x12 x13
            else none
          else some (some (SV.row (0 : Nat), [((0 : Nat), SObj.row (27 : Nat) x4)]))
        else some (some (SV.row (0 : Nat), [((0 : Nat), SObj.row (27 : Nat) x4)]))
      else none
  else
    bif Nat.ble (List.length x11) (1000000 : Nat) then
      bif ByteArray.toList x9 == ByteArray.toList (ByteArray.mk #[(109 : UInt8), (117 : UInt8), (108 : UInt8), (116 : UInt8), (105 : UInt8), (112 : UInt8), (97 : UInt8), (114 : UInt8), (116 : UInt8)]) then
        bif
            !ByteArray.toList (k0.pS x9 x10 x11 (ByteArray.mk #[(98 : UInt8), (111 : UInt8), (117 : UInt8), (110 : UInt8), (100 : UInt8), (97 : UInt8), (114 : UInt8), (121 : UInt8)])) ==
                ByteArray.toList (ByteArray.mk #[]) then
          bif
              Nat.ble (ByteArray.size x0) (1000000 : Nat) &&
                (Nat.ble (ByteArray.size (k0.pS x9 x10 x11 (ByteArray.mk #[(98 : UInt8), (111 : UInt8), (117 : UInt8), (110 : UInt8), (100 : UInt8), (97 : UInt8), (114 : UInt8), (121 : UInt8)]))) (1000000 : Nat) &&
                  (decide ((0 : Int) ≤ x7) && (decide (x7 ≤ x1) && decide (x1 ≤ (↑(ByteArray.size x0) : Int))))) then
            f18n_L22 k0 d0 h0 fu fu x0 x2 x3 (k0.sp x0 x7 x1 (k0.pS x9 x10 x11 (ByteArray.mk #[(98 : UInt8), (111 : UInt8), (117 : UInt8), (110 : UInt8), (100 : UInt8), (97 : UInt8), (114 : UInt8), (121 : UInt8)]))) (0 : Int) x4
              x5 x6 x7 x8 x9 x10 x11 x12 x13
          else none
        else some (some (SV.row (0 : Nat), [((0 : Nat), SObj.row (27 : Nat) x4)]))
      else some (some (SV.row (0 : Nat), [((0 : Nat), SObj.row (27 : Nat) x4)]))
    else none := by kernel_rfl

theorem f18n_L11_eq (k0 : PK) (d0 : Nat) (h0 : PF) (fu fm : Nat) (x0 : ByteArray) (x1 : Int) (x2 : Int) (x3 : Int) (x4 : Int) (x5 : List SV) (x6 : Int) (x7 : Int) (x8 : Int) (x9 : Int) (x10 : ByteArray) (x11 : ByteArray) (x12 : List SV) (x13 : Int) (x14 : Int) : f18n_L11 k0 d0 h0 fu (fm + 1) x0 x1 x2 x3 x4 x5 x6 x7 x8 x9 x10 x11 x12 x13 x14 = bif decide (x2 ≥ (0 : Int)) then
  bif decide ((0 : Int) ≤ x2) && decide (x2 < (↑(List.length x5) : Int)) then
    bif decide ((0 : Int) ≤ x2) && decide (x2 < (↑(List.length x5) : Int)) then
      f18n_L13 k0 d0 h0 fu fu x0 x1 x3 x4
        (List.set x5 (Int.toNat x2)
          (SV.agg
            [SV.int IntKind.i64 (asInt (List.getD (cellsOf (List.getD x5 (Int.toNat x2) SV.dead)) (0 : Nat) SV.dead)),
              SV.int IntKind.i64 (asInt (List.getD (cellsOf (List.getD x5 (Int.toNat x2) SV.dead)) (1 : Nat) SV.dead)),
              SV.int IntKind.i64 (asInt (List.getD (cellsOf (List.getD x5 (Int.toNat x2) SV.dead)) (2 : Nat) SV.dead)),
              SV.int IntKind.i64 (asInt (List.getD (cellsOf (List.getD x5 (Int.toNat x2) SV.dead)) (3 : Nat) SV.dead)), SV.str (asStr (List.getD (cellsOf (List.getD x5 (Int.toNat x2) SV.dead)) (4 : Nat) SV.dead)),
              SV.str (asStr (List.getD (cellsOf (List.getD x5 (Int.toNat x2) SV.dead)) (5 : Nat) SV.dead)), SV.lst (127 : Nat) (asLst (List.getD (cellsOf (List.getD x5 (Int.toNat x2) SV.dead)) (6 : Nat) SV.dead)),
              SV.int IntKind.i64 (asInt (List.getD (cellsOf (List.getD x5 (Int.toNat x2) SV.dead)) (7 : Nat) SV.dead)),
              SV.int IntKind.i64 (IntKind.wrap IntKind.i64 (asInt (List.getD (cellsOf (List.getD x5 (Int.toNat x2) SV.dead)) (8 : Nat) SV.dead) + (1 : Int)))]))
        x6 x7 x8 x9 x10 x11 x12 x13 x14
    else none
  else none
  else f18n_L13 k0 d0 h0 fu fu x0 x1 x3 x4 x5 x6 x7 x8 x9 x10 x11 x12 x13 x14 := by kernel_rfl

theorem f18n_eq (k0 : PK) (d0 : Nat) (h0 : PF) (fu : Nat) (s : ByteArray) (b : Int) : evFunD (f18_X k0 d0 h0 []) [11, 13] fu Tryz.f18 (finW (tyOf Tryz.prog) [] 0) [.snil, .str s, .int .i64 0, .int .i64 b, .int .i64 (-1), .int .i64 0, .bool false] [] [] = bif decide ((0 : Int) ≤ b) && decide (b ≤ (↑(ByteArray.size s) : Int)) && decide ((0 : Int) ≤ b) then
  bif Nat.ble (ByteArray.size (ByteArray.extract s (0 : Nat) (Int.toNat b))) (1000000 : Nat) then
    bif Nat.ble (ByteArray.size (ByteArray.extract s (0 : Nat) (Int.toNat b))) (1000000 : Nat) then
      bif
          Nat.ble
            (ByteArray.size
              (k0.fS (ByteArray.extract s (0 : Nat) (Int.toNat b))
                (ByteArray.mk #[(67 : UInt8), (111 : UInt8), (110 : UInt8), (116 : UInt8), (101 : UInt8), (110 : UInt8), (116 : UInt8), (45 : UInt8), (84 : UInt8), (121 : UInt8), (112 : UInt8), (101 : UInt8)])))
            (1000000 : Nat) then
        bif
            !k0.fB (ByteArray.extract s (0 : Nat) (Int.toNat b))
                (ByteArray.mk #[(67 : UInt8), (111 : UInt8), (110 : UInt8), (116 : UInt8), (101 : UInt8), (110 : UInt8), (116 : UInt8), (45 : UInt8), (84 : UInt8), (121 : UInt8), (112 : UInt8), (101 : UInt8)]) then
          f18n_L11 k0 d0 h0 fu fu s b (-1 : Int) (0 : Int) (↑(0 : Nat) : Int)
            [SV.agg
                [SV.int IntKind.i64 (0 : Int), SV.int IntKind.i64 (0 : Int), SV.int IntKind.i64 (IntKind.wrap IntKind.i64 ((0 : Int) + k0.split (ByteArray.extract s (0 : Nat) (Int.toNat b)))), SV.int IntKind.i64 b,
                  SV.str
                    (k0.m1
                      (k0.fS (ByteArray.extract s (0 : Nat) (Int.toNat b))
                        (ByteArray.mk #[(67 : UInt8), (111 : UInt8), (110 : UInt8), (116 : UInt8), (101 : UInt8), (110 : UInt8), (116 : UInt8), (45 : UInt8), (84 : UInt8), (121 : UInt8), (112 : UInt8), (101 : UInt8)]))),
                  SV.str
                    (k0.m2
                      (k0.fS (ByteArray.extract s (0 : Nat) (Int.toNat b))
                        (ByteArray.mk #[(67 : UInt8), (111 : UInt8), (110 : UInt8), (116 : UInt8), (101 : UInt8), (110 : UInt8), (116 : UInt8), (45 : UInt8), (84 : UInt8), (121 : UInt8), (112 : UInt8), (101 : UInt8)]))),
                  SV.lst (127 : Nat)
                    (k0.m3
                      (k0.fS (ByteArray.extract s (0 : Nat) (Int.toNat b))
                        (ByteArray.mk #[(67 : UInt8), (111 : UInt8), (110 : UInt8), (116 : UInt8), (101 : UInt8), (110 : UInt8), (116 : UInt8), (45 : UInt8), (84 : UInt8), (121 : UInt8), (112 : UInt8), (101 : UInt8)]))),
                  SV.int IntKind.i64 (-1 : Int), SV.int IntKind.i64 (0 : Int)]]
            (0 : Int) (0 : Int) (IntKind.wrap IntKind.i64 ((0 : Int) + k0.split (ByteArray.extract s (0 : Nat) (Int.toNat b)))) b
            (k0.m1
              (k0.fS (ByteArray.extract s (0 : Nat) (Int.toNat b))
                (ByteArray.mk #[(67 : UInt8), (111 : UInt8), (110 : UInt8), (116 : UInt8), (101 : UInt8), (110 : UInt8), (116 : UInt8), (45 : UInt8), (84 : UInt8), (121 : UInt8), (112 : UInt8), (101 : UInt8)])))
            (k0.m2
              (k0.fS (ByteArray.extract s (0 : Nat) (Int.toNat b))
                (ByteArray.mk #[(67 : UInt8), (111 : UInt8), (110 : UInt8), (116 : UInt8), (101 : UInt8), (110 : UInt8), (116 : UInt8), (45 : UInt8), (84 : UInt8), (121 : UInt8), (112 : UInt8), (101 : UInt8)])))
            (k0.m3
              (k0.fS (ByteArray.extract s (0 : Nat) (Int.toNat b))
                (ByteArray.mk #[(67 : UInt8), (111 : UInt8), (110 : UInt8), (116 : UInt8), (101 : UInt8), (110 : UInt8), (116 : UInt8), (45 : UInt8), (84 : UInt8), (121 : UInt8), (112 : UInt8), (101 : UInt8)])))
            (-1 : Int) (0 : Int)
        else
          f18n_L11 k0 d0 h0 fu fu s b (-1 : Int) (0 : Int) (↑(0 : Nat) : Int)
            [SV.agg
                [SV.int IntKind.i64 (0 : Int), SV.int IntKind.i64 (0 : Int), SV.int IntKind.i64 (IntKind.wrap IntKind.i64 ((0 : Int) + k0.split (ByteArray.extract s (0 : Nat) (Int.toNat b)))), SV.int IntKind.i64 b,
                  SV.str
                    (k0.m1
                      (k0.fS (ByteArray.extract s (0 : Nat) (Int.toNat b))
                        (ByteArray.mk #[(67 : UInt8), (111 : UInt8), (110 : UInt8), (116 : UInt8), (101 : UInt8), (110 : UInt8), (116 : UInt8), (45 : UInt8), (84 : UInt8), (121 : UInt8), (112 : UInt8), (101 : UInt8)]))),
                  SV.str
                    (k0.m2
                      (k0.fS (ByteArray.extract s (0 : Nat) (Int.toNat b))
                        (ByteArray.mk #[(67 : UInt8), (111 : UInt8), (110 : UInt8), (116 : UInt8), (101 : UInt8), (110 : UInt8), (116 : UInt8), (45 : UInt8), (84 : UInt8), (121 : UInt8), (112 : UInt8), (101 : UInt8)]))),
                  SV.lst (127 : Nat)
                    (k0.m3
                      (k0.fS (ByteArray.extract s (0 : Nat) (Int.toNat b))
                        (ByteArray.mk #[(67 : UInt8), (111 : UInt8), (110 : UInt8), (116 : UInt8), (101 : UInt8), (110 : UInt8), (116 : UInt8), (45 : UInt8), (84 : UInt8), (121 : UInt8), (112 : UInt8), (101 : UInt8)]))),
                  SV.int IntKind.i64 (-1 : Int), SV.int IntKind.i64 (0 : Int)]]
            (0 : Int) (0 : Int) (IntKind.wrap IntKind.i64 ((0 : Int) + k0.split (ByteArray.extract s (0 : Nat) (Int.toNat b)))) b
            (k0.m1
              (k0.fS (ByteArray.extract s (0 : Nat) (Int.toNat b))
                (ByteArray.mk #[(67 : UInt8), (111 : UInt8), (110 : UInt8), (116 : UInt8), (101 : UInt8), (110 : UInt8), (116 : UInt8), (45 : UInt8), (84 : UInt8), (121 : UInt8), (112 : UInt8), (101 : UInt8)])))
            (k0.m2
              (k0.fS (ByteArray.extract s (0 : Nat) (Int.toNat b))
                (ByteArray.mk #[(67 : UInt8), (111 : UInt8), (110 : UInt8), (116 : UInt8), (101 : UInt8), (110 : UInt8), (116 : UInt8), (45 : UInt8), (84 : UInt8), (121 : UInt8), (112 : UInt8), (101 : UInt8)])))
            (k0.m3
              (k0.fS (ByteArray.extract s (0 : Nat) (Int.toNat b))
                (ByteArray.mk #[(67 : UInt8), (111 : UInt8), (110 : UInt8), (116 : UInt8), (101 : UInt8), (110 : UInt8), (116 : UInt8), (45 : UInt8), (84 : UInt8), (121 : UInt8), (112 : UInt8), (101 : UInt8)])))
            (-1 : Int) (0 : Int)
      else none
    else none
  else none
  else none := by kernel_rfl

end Sx

/-
  The document's parts of a letter: that there is an answer, of 64 parts at most.
-/
set_option linter.unusedVariables false
set_option linter.unusedSimpArgs false
namespace Sx
open Go Go.Proofs

/-- What is called answers within bounds. -/
structure KOk (k : PK) : Prop where
  split : ∀ s : ByteArray, s.size ≤ 1000000 → 0 ≤ k.split s ∧ k.split s ≤ s.size
  find : ∀ s n : ByteArray, s.size ≤ 1000000 → (k.fS s n).size ≤ 1000000
  read : ∀ s : ByteArray, s.size ≤ 1000000 → ParsOk (k.m3 s) ∧ (k.m3 s).length ≤ 1000000
  par : ∀ (a b : ByteArray) (p : List SV) (n : ByteArray), p.length ≤ 1000000 → ParsOk p → (k.pS a b p n).size ≤ 1000000
  sp : ∀ (s : ByteArray) (a b : Nat) (n : ByteArray), s.size ≤ 1000000 → n.size ≤ 1000000 → a ≤ b → b ≤ s.size → SpsOk a b (k.sp s a b n) ∧ (k.sp s a b n).length ≤ 1000001
def HOk (d : Nat) (h : PF) : Prop := ∀ (l : List SV) (s : ByteArray) (a b u n : Int) (q : Bool), gdP d l s a b u n = true → l.length < 64 → l.length ≤ (h l s a b u n q).length ∧ (h l s a b u n q).length ≤ 64
theorem gdP_true {d : Nat} {l : List SV} {s : ByteArray} {a b u n : Int} (h1 : l.length ≤ 64) (h2 : s.size ≤ 1000000) (h3 : 0 ≤ a) (h4 : a ≤ b) (h5 : b ≤ s.size) (h6 : -1 ≤ u) (h7 : u < l.length) (h8 : 0 ≤ n) (h9 : n ≤ 6) (h10 : 7 ≤ n + d) : gdP d l s a b u n = true := by
  unfold gdP
  simp only [Nat.ble_eq_true_of_le h1, Nat.ble_eq_true_of_le h2, decide_eq_true h3, decide_eq_true h4, decide_eq_true h5, decide_eq_true h6, decide_eq_true h7, decide_eq_true h8, decide_eq_true h9, decide_eq_true h10, Bool.and_self]
theorem of_gdP {d : Nat} {l : List SV} {s : ByteArray} {a b u n : Int} (h : gdP d l s a b u n = true) : l.length ≤ 64 ∧ s.size ≤ 1000000 ∧ 0 ≤ a ∧ a ≤ b ∧ b ≤ s.size ∧ -1 ≤ u ∧ u < l.length ∧ 0 ≤ n ∧ n ≤ 6 ∧ 7 ≤ n + d := by
  unfold gdP at h
  simp only [Bool.and_eq_true, decide_eq_true_eq] at h
  obtain ⟨h1, h2, h3, h4, h5, h6, h7, h8, h9, h10⟩ := h
  exact ⟨Nat.le_of_ble_eq_true h1, Nat.le_of_ble_eq_true h2, h3, h4, h5, h6, h7, h8, h9, h10⟩
def PtR (lo : Nat) (r : Option (Option (SV × Mem))) : Prop := ∃ l, r = some (some (.row 1, [(1, .row 27 l)])) ∧ lo ≤ l.length ∧ l.length ≤ 64
theorem PtR.down {a b : Nat} {r : Option (Option (SV × Mem))} (h : PtR a r) (hab : b ≤ a) : PtR b r := by
  obtain ⟨l, h1, h2, h3⟩ := h; exact ⟨l, h1, by omega, h3⟩
section
variable {k : PK} {d : Nat} {h : PF} (hk : KOk k) (hh : HOk d h) (fu : Nat) (hfu : 1000002 < fu) (s : ByteArray) (hs : s.size ≤ 1000000)
  include hh hs
theorem L22_is (n : Int) (hn : 0 ≤ n) (hn5 : n ≤ 5) (hnd : 7 ≤ n + d + 1) (i : Nat) (lo hi : Nat) (hhi : hi ≤ s.size) (sp : List SV) (hsp : SpsOk lo hi sp) (hl : sp.length ≤ 1000001) (x6 x7 x8 x9 : Int) (x10 x11 : ByteArray) (x12 : List SV) (x13 x14 : Int) : ∀ (K j m : Nat) (row : List SV), j + K = sp.length → K < m → i < row.length → row.length ≤ 64 →
    PtR row.length (f18_L22 k d h fu m s n (i : Int) sp (j : Int) row x6 x7 x8 x9 x10 x11 x12 x13 x14)
  | 0, j, m, row, hj, hm, hi1, hr => by
    obtain ⟨m, rfl⟩ : ∃ m', m = m' + 1 := ⟨m - 1, by omega⟩
    have h1 : ¬ ((j : Int) < (sp.length : Int)) := by omega
    rw [f18_L22_eq]
    simp only [h1, decide_false, cond_false]
    exact ⟨row, rfl, Nat.le_refl _, hr⟩
  | K + 1, j, m, row, hj, hm, hi1, hr => by
    obtain ⟨m, rfl⟩ : ∃ m', m = m' + 1 := ⟨m - 1, by omega⟩
    have hlt : j < sp.length := by omega
    have h1 : (j : Int) < (sp.length : Int) := by omega
    have h2 : (0 : Int) ≤ (j : Int) := by omega
    have h3 : (0 : Int) ≤ (i : Int) := by omega
    have h4 : (i : Int) < (row.length : Int) := by omega
    have w1 : IntKind.wrap .i64 ((j : Int) + 1) = ((j + 1 : Nat) : Int) := by rw [wrap_i64 (by omega) (by omega)]; omega
    have w2 : IntKind.wrap .i64 (n + 1) = n + 1 := wrap_i64 (by omega) (by omega)
    obtain ⟨f, u, q1, q2, q3, q4⟩ := hsp _ (List.getElem_mem hlt)
    have e1 : asInt (List.getD (cellsOf (SV.agg [.int .i64 f, .int .i64 u])) 0 SV.dead) = f := rfl
    have e2 : asInt (List.getD (cellsOf (SV.agg [.int .i64 f, .int .i64 u])) 1 SV.dead) = u := rfl
    rw [f18_L22_eq, w1, w2, Int.toNat_natCast j, zgetD_at hlt, q1, e1, e2]
    simp only [h1, h2, h3, h4, decide_true, cond_true, Bool.and_self]
    have key : ∀ row' : List SV, row'.length = row.length → PtR row.length (bif gdP d row' s f u i (n + 1) then bif Nat.ble 64 row'.length then f18_L22 k d h fu m s n (i : Int) sp ((j + 1 : Nat) : Int) row' x6 x7 x8 x9 x10 x11 x12 x13 x14
        else f18_L22 k d h fu m s n (i : Int) sp ((j + 1 : Nat) : Int) (h row' s f u i (n + 1) (x11.toList == ByteArray.toList (ByteArray.mk #[(100 : UInt8), (105 : UInt8), (103 : UInt8), (101 : UInt8), (115 : UInt8), (116 : UInt8)]))) x6 x7 x8 x9 x10 x11 x12 x13 x14 else none) := fun row' hr' => by
      have hg : gdP d row' s f u i (n + 1) = true := gdP_true (by omega) hs (by omega) (by omega) (by omega) (by omega) (by omega) (by omega) (by omega) (by omega)
      rw [hg, cond_true]
      refine cond_of (Q := PtR _) (fun c => ?_) (fun c => ?_)
      · exact (L22_is n hn hn5 hnd i lo hi hhi sp hsp hl x6 x7 x8 x9 x10 x11 x12 x13 x14 K (j + 1) m row' (by omega) (by omega) (by omega) (by omega)).down (by omega)
      · have hlt64 : row'.length < 64 := by
          rcases Nat.lt_or_ge row'.length 64 with q | q
          · exact q
          · rw [Nat.ble_eq_true_of_le q] at c; cases c
        have hb := hh row' s f u i (n + 1) (x11.toList == ByteArray.toList (ByteArray.mk #[(100 : UInt8), (105 : UInt8), (103 : UInt8), (101 : UInt8), (115 : UInt8), (116 : UInt8)])) hg hlt64
        exact (L22_is n hn hn5 hnd i lo hi hhi sp hsp hl x6 x7 x8 x9 x10 x11 x12 x13 x14 K (j + 1) m _ (by omega) (by omega) (by omega) (by omega)).down (by omega)
    exact key _ (by rw [List.length_set])
  include hk hfu
theorem L13v1_is (n : Int) (hn : 0 ≤ n) (hnd : 7 ≤ n + d + 1) (i b : Nat) (hb : b ≤ s.size) (row : List SV) (hi : i < row.length) (hr : row.length ≤ 64) (y : Nat) (hyb : y ≤ b) (x5 x6 x8 : Int) (x9 x10 : ByteArray) (p : List SV) (hp : ParsOk p) (hpl : p.length ≤ 1000000) (x12 x13 : Int) (m : Nat) :
    PtR row.length (f18_L13v1 k d h fu (m + 1) s (b : Int) n (i : Int) row x5 x6 (y : Int) x8 x9 x10 p x12 x13) := by
  rw [f18_L13v1_eq]
  have fin : PtR row.length (some (some (SV.row 1, [(1, SObj.row 27 row)]))) := ⟨row, rfl, Nat.le_refl _, hr⟩
  refine cond_of (Q := PtR _) (fun _ => fin) (fun c => ?_)
  have hn5 : n ≤ 5 := by have := of_decide_eq_false c; omega
  have h1 : (0 : Int) ≤ (i : Int) := by omega
  have h2 : (i : Int) < (row.length : Int) := by omega
  have h3 : (0 : Int) ≤ (y : Int) := by omega
  have h4 : (y : Int) ≤ (b : Int) := by omega
  have h5 : (b : Int) ≤ (s.size : Int) := by omega
  have w2 : IntKind.wrap .i64 (n + 1) = n + 1 := wrap_i64 (by omega) (by omega)
  have hpz := hk.par x9 x10 p (ByteArray.mk #[(98 : UInt8), (111 : UInt8), (117 : UInt8), (110 : UInt8), (100 : UInt8), (97 : UInt8), (114 : UInt8), (121 : UInt8)]) hpl hp
  obtain ⟨z, hz⟩ : ∃ z, k.pS x9 x10 p (ByteArray.mk #[(98 : UInt8), (111 : UInt8), (117 : UInt8), (110 : UInt8), (100 : UInt8), (97 : UInt8), (114 : UInt8), (121 : UInt8)]) = z := ⟨_, rfl⟩
  rw [hz] at hpz
  rw [w2, hz]
  simp only [h1, h2, h3, h4, h5, decide_true, cond_true, Bool.and_self, Nat.ble_eq_true_of_le hpl, Nat.ble_eq_true_of_le hs, Nat.ble_eq_true_of_le hpz]
  obtain ⟨s1, s2⟩ := hk.sp s y b z hs hpz hyb hb
  have multi : PtR row.length (bif x9.toList == ByteArray.toList (ByteArray.mk #[(109 : UInt8), (117 : UInt8), (108 : UInt8), (116 : UInt8), (105 : UInt8), (112 : UInt8), (97 : UInt8), (114 : UInt8), (116 : UInt8)]) then
      bif !z.toList == ByteArray.toList (ByteArray.mk #[]) then f18_L22 k d h fu fu s n (i : Int) (k.sp s (y : Int) (b : Int) z) (0 : Int) row x5 x6 (y : Int) x8 x9 x10 p x12 x13 else some (some (SV.row 1, [(1, SObj.row 27 row)]))
      else some (some (SV.row 1, [(1, SObj.row 27 row)]))) :=
    cond_of (Q := PtR _) (fun _ => cond_of (Q := PtR _) (fun _ => L22_is hh fu s hs n hn hn5 hnd i y b hb _ s1 s2 x5 x6 y x8 x9 x10 p x12 x13 (k.sp s y b z).length 0 fu row (by omega) (by omega) hi hr) (fun _ => fin)) (fun _ => fin)
  have key : ∀ row' : List SV, row'.length = row.length → PtR row.length (bif gdP d row' s y b i (n + 1) then bif Nat.ble 64 row'.length then some (some (SV.row 1, [(1, SObj.row 27 row')])) else some (some (SV.row 1, [(1, SObj.row 27 (h row' s y b i (n + 1) false))])) else none) := fun row' hr' => by
    have hg : gdP d row' s y b i (n + 1) = true := gdP_true (by omega) hs (by omega) (by omega) (by omega) (by omega) (by omega) (by omega) (by omega) (by omega)
    rw [hg, cond_true]
    refine cond_of (Q := PtR _) (fun c => ⟨row', rfl, by omega, by omega⟩) (fun c => ?_)
    have hlt64 : row'.length < 64 := by
      rcases Nat.lt_or_ge row'.length 64 with q | q
      · exact q
      · rw [Nat.ble_eq_true_of_le q] at c; cases c
    have hb := hh row' s y b i (n + 1) false hg hlt64
    exact ⟨_, rfl, by omega, by omega⟩
  exact cond_of (Q := PtR _) (fun _ => cond_of (Q := PtR _) (fun _ => key _ (by rw [List.length_set])) (fun _ => multi)) (fun _ => multi)
theorem L13_is (n : Int) (hn : 0 ≤ n) (hnd : 7 ≤ n + d + 1) (i b : Nat) (hb : b ≤ s.size) (row : List SV) (hi : i < row.length) (hr : row.length ≤ 64) (y : Nat) (hyb : y ≤ b) (x5 x6 x8 : Int) (p : List SV) (x12 x13 : Int) (m : Nat) :
    PtR row.length (f18_L13 k d h fu (m + 1) s (b : Int) n (i : Int) row x5 x6 (y : Int) x8 (ByteArray.mk #[(109 : UInt8), (101 : UInt8), (115 : UInt8), (115 : UInt8), (97 : UInt8), (103 : UInt8), (101 : UInt8)]) (ByteArray.mk #[(114 : UInt8), (102 : UInt8), (99 : UInt8), (56 : UInt8), (50 : UInt8), (50 : UInt8)]) x12 x13 p) := by
  have _k := hk
  have _f := hfu
  rw [f18_L13_eq]
  have fin : PtR row.length (some (some (SV.row 1, [(1, SObj.row 27 row)]))) := ⟨row, rfl, Nat.le_refl _, hr⟩
  refine cond_of (Q := PtR _) (fun _ => fin) (fun c => ?_)
  have hn5 : n ≤ 5 := by have := of_decide_eq_false c; omega
  have h1 : (0 : Int) ≤ (i : Int) := by omega
  have h2 : (i : Int) < (row.length : Int) := by omega
  have w2 : IntKind.wrap .i64 (n + 1) = n + 1 := wrap_i64 (by omega) (by omega)
  rw [w2]
  simp only [h1, h2, decide_true, cond_true, Bool.and_self, beq_self_eq_true]
  have key : ∀ row' : List SV, row'.length = row.length → PtR row.length (bif gdP d row' s y b i (n + 1) then bif Nat.ble 64 row'.length then some (some (SV.row 1, [(1, SObj.row 27 row')])) else some (some (SV.row 1, [(1, SObj.row 27 (h row' s y b i (n + 1) false))])) else none) := fun row' hr' => by
    have hg : gdP d row' s y b i (n + 1) = true := gdP_true (by omega) hs (by omega) (by omega) (by omega) (by omega) (by omega) (by omega) (by omega) (by omega)
    rw [hg, cond_true]
    refine cond_of (Q := PtR _) (fun c => ⟨row', rfl, by omega, by omega⟩) (fun c => ?_)
    have hlt64 : row'.length < 64 := by
      rcases Nat.lt_or_ge row'.length 64 with q | q
      · exact q
      · rw [Nat.ble_eq_true_of_le q] at c; cases c
    have hb := hh row' s y b i (n + 1) false hg hlt64
    exact ⟨_, rfl, by omega, by omega⟩
  exact key _ (by rw [List.length_set])
theorem L11v1_is (u n : Int) (hn : 0 ≤ n) (hnd : 7 ≤ n + d + 1) (i b : Nat) (hb : b ≤ s.size) (row : List SV) (hi : i < row.length) (hr : row.length ≤ 64) (hu : u < row.length) (y : Nat) (hyb : y ≤ b) (x6 x7 x9 : Int) (x10 x11 : ByteArray) (p : List SV) (hp : ParsOk p) (hpl : p.length ≤ 1000000) (x13 x14 : Int) (m m' : Nat) (hm : fu = m' + 1) :
    PtR row.length (f18_L11v1 k d h fu (m + 1) s (b : Int) u n (i : Int) row x6 x7 (y : Int) x9 x10 x11 p x13 x14) := by
  rw [f18_L11v1_eq]
  refine cond_of (Q := PtR _) (fun c => ?_) (fun c => ?_)
  · have hu0 : (0 : Int) ≤ u := of_decide_eq_true c
    simp only [hu0, hu, decide_true, cond_true, Bool.and_self]
    have key : ∀ row' : List SV, row'.length = row.length → PtR row.length (f18_L13v1 k d h fu fu s (b : Int) n (i : Int) row' x6 x7 (y : Int) x9 x10 x11 p x13 x14) := fun row' hr' => by
      have := L13v1_is hk hh fu hfu s hs n hn hnd i b hb row' (by omega) (by omega) y hyb x6 x7 x9 x10 x11 p hp hpl x13 x14 m'
      rw [← hm, hr'] at this
      exact this
    exact key _ List.length_set
  · have := L13v1_is hk hh fu hfu s hs n hn hnd i b hb row hi hr y hyb x6 x7 x9 x10 x11 p hp hpl x13 x14 m'
    rw [← hm] at this
    exact this
theorem L11_is (u n : Int) (hn : 0 ≤ n) (hnd : 7 ≤ n + d + 1) (i b : Nat) (hb : b ≤ s.size) (row : List SV) (hi : i < row.length) (hr : row.length ≤ 64) (hu : u < row.length) (y : Nat) (hyb : y ≤ b) (x6 x7 x9 : Int) (x13 x14 : Int) (p : List SV) (m m' : Nat) (hm : fu = m' + 1) :
    PtR row.length (f18_L11 k d h fu (m + 1) s (b : Int) u n (i : Int) row x6 x7 (y : Int) x9 (ByteArray.mk #[(109 : UInt8), (101 : UInt8), (115 : UInt8), (115 : UInt8), (97 : UInt8), (103 : UInt8), (101 : UInt8)]) (ByteArray.mk #[(114 : UInt8), (102 : UInt8), (99 : UInt8), (56 : UInt8), (50 : UInt8), (50 : UInt8)]) x13 x14 p) := by
  rw [f18_L11_eq]
  refine cond_of (Q := PtR _) (fun c => ?_) (fun c => ?_)
  · have hu0 : (0 : Int) ≤ u := of_decide_eq_true c
    simp only [hu0, hu, decide_true, cond_true, Bool.and_self]
    have key : ∀ row' : List SV, row'.length = row.length → PtR row.length (f18_L13 k d h fu fu s (b : Int) n (i : Int) row' x6 x7 (y : Int) x9 (ByteArray.mk #[(109 : UInt8), (101 : UInt8), (115 : UInt8), (115 : UInt8), (97 : UInt8), (103 : UInt8), (101 : UInt8)]) (ByteArray.mk #[(114 : UInt8), (102 : UInt8), (99 : UInt8), (56 : UInt8), (50 : UInt8), (50 : UInt8)]) x13 x14 p) := fun row' hr' => by
      have := L13_is hk hh fu hfu s hs n hn hnd i b hb row' (by omega) (by omega) y hyb x6 x7 x9 p x13 x14 m'
      rw [← hm, hr'] at this
      exact this
    exact key _ List.length_set
  · have := L13_is hk hh fu hfu s hs n hn hnd i b hb row hi hr y hyb x6 x7 x9 p x13 x14 m'
    rw [← hm] at this
    exact this
theorem f18_is (m' : Nat) (hm : fu = m' + 1) (l : List SV) (a b u n : Int) (q : Bool) (hg : gdP (d + 1) l s a b u n = true) (h64 : l.length < 64) : PtR l.length (evFunD (f18_X k d h [0]) [11, 13] fu Tryz.f18 (finW (tyOf Tryz.prog) [0] 1) [.row 0, .str s, .int .i64 a, .int .i64 b, .int .i64 u, .int .i64 n, .bool q] [(0, .row 27 l)] [0]) := by
  obtain ⟨g1, g2, g3, g4, g5, g6, g7, g8, g9, g10⟩ := of_gdP hg
  obtain ⟨a, rfl⟩ : ∃ a' : Nat, a = a' := ⟨a.toNat, by omega⟩
  obtain ⟨b, rfl⟩ : ∃ b' : Nat, b = b' := ⟨b.toNat, by omega⟩
  have hz : (s.extract a b).size = b - a := by rw [ByteArray.size_extract]; omega
  have hz2 : (s.extract a b).size ≤ 1000000 := by omega
  obtain ⟨p1, p2⟩ := hk.split _ hz2
  obtain ⟨y, hy⟩ : ∃ y : Nat, k.split (s.extract a b) = y := ⟨(k.split (s.extract a b)).toNat, by omega⟩
  rw [hy] at p1 p2
  have w1 : IntKind.wrap .i64 ((a : Int) + (y : Int)) = ((a + y : Nat) : Int) := by rw [wrap_i64 (by omega) (by omega)]; omega
  have hfz := hk.find (s.extract a b) (ByteArray.mk #[(67 : UInt8), (111 : UInt8), (110 : UInt8), (116 : UInt8), (101 : UInt8), (110 : UInt8), (116 : UInt8), (45 : UInt8), (84 : UInt8), (121 : UInt8), (112 : UInt8), (101 : UInt8)]) hz2
  obtain ⟨t, ht⟩ : ∃ t, k.fS (s.extract a b) (ByteArray.mk #[(67 : UInt8), (111 : UInt8), (110 : UInt8), (116 : UInt8), (101 : UInt8), (110 : UInt8), (116 : UInt8), (45 : UInt8), (84 : UInt8), (121 : UInt8), (112 : UInt8), (101 : UInt8)]) = t := ⟨_, rfl⟩
  rw [ht] at hfz
  obtain ⟨m1, m2⟩ := hk.read t hfz
  have h1 : ¬ ((l.length : Int) ≥ 64) := by omega
  have c1 : (0 : Int) ≤ (b : Int) := by omega
  have c2 : (0 : Int) ≤ (a : Int) := by omega
  have r1 : (l.length + 1) * 104 ≤ 140737488355328 := by omega
  have r2 : l.length + 1 ≤ 9223372036854775807 := by omega
  have len : ∀ x : SV, (l ++ [x]).length = l.length + 1 := fun x => by simp
  have one : ∀ (x : SV) (x6 x7 x9 : Int) (x10 x11 : ByteArray) (x13 x14 : Int), PtR l.length (f18_L11v1 k d h fu fu s (b : Int) u n (l.length : Int) (l ++ [x]) x6 x7 ((a + y : Nat) : Int) x9 x10 x11 (k.m3 t) x13 x14) := fun x x6 x7 x9 x10 x11 x13 x14 => by
    have := L11v1_is hk hh fu hfu s hs u n g8 (by omega) l.length b (by omega) (l ++ [x]) (by rw [len]; omega) (by rw [len]; omega) (by rw [len]; omega) (a + y) (by omega) x6 x7 x9 x10 x11 _ m1 m2 x13 x14 m' m' hm
    rw [← hm] at this
    exact this.down (by rw [len]; omega)
  have two : ∀ (x : SV) (x6 x7 x9 : Int) (x13 x14 : Int) (p : List SV), PtR l.length (f18_L11 k d h fu fu s (b : Int) u n (l.length : Int) (l ++ [x]) x6 x7 ((a + y : Nat) : Int) x9 (ByteArray.mk #[(109 : UInt8), (101 : UInt8), (115 : UInt8), (115 : UInt8), (97 : UInt8), (103 : UInt8), (101 : UInt8)]) (ByteArray.mk #[(114 : UInt8), (102 : UInt8), (99 : UInt8), (56 : UInt8), (50 : UInt8), (50 : UInt8)]) x13 x14 p) := fun x x6 x7 x9 x13 x14 p => by
    have := L11_is hk hh fu hfu s hs u n g8 (by omega) l.length b (by omega) (l ++ [x]) (by rw [len]; omega) (by rw [len]; omega) (by rw [len]; omega) (a + y) (by omega) x6 x7 x9 x13 x14 p m' m' hm
    rw [← hm] at this
    exact this.down (by rw [len]; omega)
  rw [f18_eq, Int.toNat_natCast a, Int.toNat_natCast b, hy, ht, w1]
  have d1 : decide ((l.length : Int) ≥ 64) = false := decide_eq_false h1
  have d2 : (decide ((0 : Int) ≤ (b : Int)) && decide ((b : Int) ≤ (s.size : Int)) && (decide ((0 : Int) ≤ (a : Int)) && decide ((a : Int) ≤ (b : Int)))) = true := by simp only [c1, c2, g4, g5, decide_true, Bool.and_self]
  have d3 : (decide ((l.length + 1) * 104 ≤ 140737488355328) && decide (l.length + 1 ≤ 9223372036854775807)) = true := by simp only [r1, r2, decide_true, Bool.and_self]
  rw [d1, cond_false, d2, cond_true, d3, cond_true, cond_true, Nat.ble_eq_true_of_le hz2, cond_true, cond_true, Nat.ble_eq_true_of_le hfz, cond_true]
  exact cond_of (Q := PtR _) (fun _ => cond_of (Q := PtR _) (fun _ => two _ _ _ _ _ _ _) (fun _ => one _ _ _ _ _ _ _ _)) (fun _ => one _ _ _ _ _ _ _ _)
end
end Sx

/-
  The document's parts of a letter, by the depth that is left.
-/
set_option linter.unusedVariables false
set_option linter.unusedSimpArgs false
set_option maxRecDepth 100000
namespace Sx
open Go Go.Proofs

noncomputable def K0 : PK where
  split s := intV (splitR s)
  fS s n := tupS (findR s n)
  fB s n := tupB (findR s n)
  m1 s := aggS 0 (readR s)
  m2 s := aggS 1 (readR s)
  m3 s := aggL 2 (readR s)
  pS a b p n := tupS (parR a b p n)
  pB a b p n := tupB (parR a b p n)
  sp s a b n := lstV (spansR s a b n)
theorem K0_ok : KOk K0 where
  split s hs := by dsimp only [K0]; exact (splitR_is s hs).2
  find s n hs := by dsimp only [K0]; exact (findR_is s n hs).2
  read s hs := by dsimp only [K0]; exact (readR_is s hs).2
  par a b p n hl hp := by dsimp only [K0]; exact (parR_is a b p n hl).2 hp
  sp s a b n hs hn hab hb := by dsimp only [K0]; exact (spansR_is s a b n hs hn hab hb).2
theorem k0_split : kSplit K0 = gSplitR := by funext a; unfold kSplit gSplitR; dsimp only [K0]; rfl
theorem k0_find : kFind K0 = gFindR := by funext a; unfold kFind gFindR; dsimp only [K0]; rfl
theorem k0_read : kRead K0 = gReadR := by funext a; unfold kRead gReadR; dsimp only [K0]; rfl
theorem k0_par : kPar K0 = gParR := by funext a; unfold kPar gParR; dsimp only [K0]; rfl
theorem k0_spans : kSpans K0 = gSpansR := by funext a; unfold kSpans gSpansR; dsimp only [K0]; rfl
theorem zTP_ok {d : Nat} {h : PF} (h18 : SpecOk zE 18 (.wide (wideOf (tyOf Tryz.prog) (gP d h)))) : SpecsOk zE (ofList (zTP K0 d h)) := by
  unfold zTP
  rw [k0_split, k0_find, k0_read, k0_par, k0_spans]
  exact .cons h18 (.cons zSplitR_ok (.cons zFindR_ok (.cons zReadR_ok (.cons zParR_ok (.cons zSpansR_ok .nil)))))
def partsV : Option (Option (SV × Mem)) → List SV | some (some (_, [(_, .row _ l)])) => l | _ => []
noncomputable def nextP (k : PK) (d : Nat) (h : PF) : PF := fun l s a b u n q => partsV (evFunD (f18_X k d h [0]) [11, 13] 1000010 Tryz.f18 (finW (tyOf Tryz.prog) [0] 1) [.row 0, .str s, .int .i64 a, .int .i64 b, .int .i64 u, .int .i64 n, .bool q] [(0, .row 27 l)] [0])
theorem next_is {k : PK} {d : Nat} {h : PF} (hk : KOk k) (hh : HOk d h) {l : List SV} {s : ByteArray} {a b u n : Int} {q : Bool} (hg : gdP (d + 1) l s a b u n = true) (h64 : l.length < 64) :
    evFunD (f18_X k d h [0]) [11, 13] 1000010 Tryz.f18 (finW (tyOf Tryz.prog) [0] 1) [.row 0, .str s, .int .i64 a, .int .i64 b, .int .i64 u, .int .i64 n, .bool q] [(0, .row 27 l)] [0] = some (some (.row 1, [(1, .row 27 (nextP k d h l s a b u n q))])) ∧
    l.length ≤ (nextP k d h l s a b u n q).length ∧ (nextP k d h l s a b u n q).length ≤ 64 := by
  obtain ⟨fu, hfu⟩ : ∃ fu, fu = 1000010 := ⟨_, rfl⟩
  unfold nextP
  rw [← hfu]
  obtain ⟨l', h1, h2, h3⟩ := f18_is hk hh fu (by omega) s (of_gdP hg).2.1 1000009 (by omega) l a b u n q hg h64
  rw [h1]
  exact ⟨rfl, h2, h3⟩
theorem next_ok {k : PK} {d : Nat} {h : PF} (hk : KOk k) (hh : HOk d h) : HOk (d + 1) (nextP k d h) := fun l s a b u n q hg h64 => (next_is hk hh hg h64).2
theorem zNext_ok {d : Nat} {h : PF} (hh : HOk d h) (h18 : SpecOk zE 18 (.wide (wideOf (tyOf Tryz.prog) (gP d h)))) : SpecOk zE 18 (.wide (wideOf (tyOf Tryz.prog) (gP (d + 1) (nextP K0 d h)))) := by
  refine wide_of_runD zE_ok (cs := [11, 13]) (X := fun sm => f18_X K0 d h sm) (fun sm => ⟨zfx_ok (zTP_ok h18) sm f18_live, rfl⟩) (fn := Tryz.f18) (by kernel_rfl) (by decide) (by rfl) (fun args m x hx => ?_)
  unfold gP at hx
  split at hx
  · rename_i s a b u n q l
    refine ⟨1000010, ?_⟩
    show evFunD (f18_X K0 d h [0]) [11, 13] 1000010 Tryz.f18 (finW (tyOf Tryz.prog) [0] 1) [.row 0, .str s, .int .i64 a, .int .i64 b, .int .i64 u, .int .i64 n, .bool q] [(0, .row 27 l)] [0] = some (some x)
    cases hg : gdP (d + 1) l s a b u n with
    | false => rw [hg] at hx; cases hx
    | true =>
      rw [hg] at hx
      simp only [pickA, cond_true] at hx
      rcases Nat.lt_or_ge l.length 64 with c | c
      · have : Nat.ble 64 l.length = false := by
          cases e : Nat.ble 64 l.length with
          | false => rfl
          | true => have := Nat.le_of_ble_eq_true e; omega
        rw [this, cond_false, Option.some.injEq] at hx
        rw [← hx]
        exact (next_is K0_ok hh hg c).1
      · rw [Nat.ble_eq_true_of_le c, cond_true, Option.some.injEq] at hx
        rw [← hx, f18_eq]
        have : decide ((l.length : Int) ≥ 64) = true := decide_eq_true (by omega)
        rw [this, cond_true]
  · cases hx
noncomputable def lvl : Nat → PF
  | 0 => fun l _ _ _ _ _ _ => l
  | d + 1 => nextP K0 d (lvl d)
theorem lvl_ok : ∀ d : Nat, HOk d (lvl d) ∧ SpecOk zE 18 (.wide (wideOf (tyOf Tryz.prog) (gP d (lvl d))))
  | 0 => by
    have no : ∀ (l : List SV) (s : ByteArray) (a b u n : Int), gdP 0 l s a b u n = false := fun l s a b u n => Bool.eq_false_iff.2 (fun hg => by have := of_gdP hg; omega)
    refine ⟨fun l s a b u n q hg => (by rw [no] at hg; cases hg), ?_⟩
    refine wide_of_run zE_ok (X := fun sm => ⟨tyOf Tryz.prog, ofList zT9, sm, f18_live⟩) (fun sm => ⟨zfx_ok zT9_ok sm f18_live, rfl⟩) (fn := Tryz.f18) (by kernel_rfl) (by decide) (by rfl) (fun args m x hx => ?_)
    unfold gP at hx
    split at hx
    · rw [no] at hx; cases hx
    · cases hx
  | d + 1 => ⟨next_ok K0_ok (lvl_ok d).1, zNext_ok (lvl_ok d).1 (lvl_ok d).2⟩
end Sx

/-
  The document's parts of a letter, from the beginning: of no parts at all.
-/
set_option linter.unusedVariables false
set_option linter.unusedSimpArgs false
set_option maxRecDepth 100000
namespace Sx
open Go Go.Proofs

def PtN (lo : Nat) (r : Option (Option (SV × Mem))) : Prop := ∃ l, r = some (some (.row 0, [(0, .row 27 l)])) ∧ lo ≤ l.length ∧ l.length ≤ 64
theorem PtN.down {a b : Nat} {r : Option (Option (SV × Mem))} (h : PtN a r) (hab : b ≤ a) : PtN b r := by
  obtain ⟨l, h1, h2, h3⟩ := h; exact ⟨l, h1, by omega, h3⟩
section
variable {k : PK} {d : Nat} {h : PF} (hk : KOk k) (hh : HOk d h) (fu : Nat) (hfu : 1000002 < fu) (s : ByteArray) (hs : s.size ≤ 1000000)
  include hh hs
theorem N22_is (n : Int) (hn : 0 ≤ n) (hn5 : n ≤ 5) (hnd : 7 ≤ n + d + 1) (i : Nat) (lo hi : Nat) (hhi : hi ≤ s.size) (sp : List SV) (hsp : SpsOk lo hi sp) (hl : sp.length ≤ 1000001) (x6 x7 x8 x9 : Int) (x10 x11 : ByteArray) (x12 : List SV) (x13 x14 : Int) : ∀ (K j m : Nat) (row : List SV), j + K = sp.length → K < m → i < row.length → row.length ≤ 64 →
    PtN row.length (f18n_L22 k d h fu m s n (i : Int) sp (j : Int) row x6 x7 x8 x9 x10 x11 x12 x13 x14)
  | 0, j, m, row, hj, hm, hi1, hr => by
    obtain ⟨m, rfl⟩ : ∃ m', m = m' + 1 := ⟨m - 1, by omega⟩
    have h1 : ¬ ((j : Int) < (sp.length : Int)) := by omega
    rw [f18n_L22_eq]
    simp only [h1, decide_false, cond_false]
    exact ⟨row, rfl, Nat.le_refl _, hr⟩
  | K + 1, j, m, row, hj, hm, hi1, hr => by
    obtain ⟨m, rfl⟩ : ∃ m', m = m' + 1 := ⟨m - 1, by omega⟩
    have hlt : j < sp.length := by omega
    have h1 : (j : Int) < (sp.length : Int) := by omega
    have h2 : (0 : Int) ≤ (j : Int) := by omega
    have h3 : (0 : Int) ≤ (i : Int) := by omega
    have h4 : (i : Int) < (row.length : Int) := by omega
    have w1 : IntKind.wrap .i64 ((j : Int) + 1) = ((j + 1 : Nat) : Int) := by rw [wrap_i64 (by omega) (by omega)]; omega
    have w2 : IntKind.wrap .i64 (n + 1) = n + 1 := wrap_i64 (by omega) (by omega)
    obtain ⟨f, u, q1, q2, q3, q4⟩ := hsp _ (List.getElem_mem hlt)
    have e1 : asInt (List.getD (cellsOf (SV.agg [.int .i64 f, .int .i64 u])) 0 SV.dead) = f := rfl
    have e2 : asInt (List.getD (cellsOf (SV.agg [.int .i64 f, .int .i64 u])) 1 SV.dead) = u := rfl
    rw [f18n_L22_eq, w1, w2, Int.toNat_natCast j, zgetD_at hlt, q1, e1, e2]
    simp only [h1, h2, h3, h4, decide_true, cond_true, Bool.and_self]
    have key : ∀ row' : List SV, row'.length = row.length → PtN row.length (bif gdP d row' s f u i (n + 1) then bif Nat.ble 64 row'.length then f18n_L22 k d h fu m s n (i : Int) sp ((j + 1 : Nat) : Int) row' x6 x7 x8 x9 x10 x11 x12 x13 x14
        else f18n_L22 k d h fu m s n (i : Int) sp ((j + 1 : Nat) : Int) (h row' s f u i (n + 1) (x11.toList == ByteArray.toList (ByteArray.mk #[(100 : UInt8), (105 : UInt8), (103 : UInt8), (101 : UInt8), (115 : UInt8), (116 : UInt8)]))) x6 x7 x8 x9 x10 x11 x12 x13 x14 else none) := fun row' hr' => by
      have hg : gdP d row' s f u i (n + 1) = true := gdP_true (by omega) hs (by omega) (by omega) (by omega) (by omega) (by omega) (by omega) (by omega) (by omega)
      rw [hg, cond_true]
      refine cond_of (Q := PtN _) (fun c => ?_) (fun c => ?_)
      · exact (N22_is n hn hn5 hnd i lo hi hhi sp hsp hl x6 x7 x8 x9 x10 x11 x12 x13 x14 K (j + 1) m row' (by omega) (by omega) (by omega) (by omega)).down (by omega)
      · have hlt64 : row'.length < 64 := by
          rcases Nat.lt_or_ge row'.length 64 with q | q
          · exact q
          · rw [Nat.ble_eq_true_of_le q] at c; cases c
        have hb := hh row' s f u i (n + 1) (x11.toList == ByteArray.toList (ByteArray.mk #[(100 : UInt8), (105 : UInt8), (103 : UInt8), (101 : UInt8), (115 : UInt8), (116 : UInt8)])) hg hlt64
        exact (N22_is n hn hn5 hnd i lo hi hhi sp hsp hl x6 x7 x8 x9 x10 x11 x12 x13 x14 K (j + 1) m _ (by omega) (by omega) (by omega) (by omega)).down (by omega)
    exact key _ (by rw [List.length_set])
  include hk hfu
theorem N13_is (n : Int) (hn : 0 ≤ n) (hnd : 7 ≤ n + d + 1) (i b : Nat) (hb : b ≤ s.size) (row : List SV) (hi : i < row.length) (hr : row.length ≤ 64) (y : Nat) (hyb : y ≤ b) (x5 x6 x8 : Int) (x9 x10 : ByteArray) (p : List SV) (hp : ParsOk p) (hpl : p.length ≤ 1000000) (x12 x13 : Int) (m : Nat) :
    PtN row.length (f18n_L13 k d h fu (m + 1) s (b : Int) n (i : Int) row x5 x6 (y : Int) x8 x9 x10 p x12 x13) := by
  rw [f18n_L13_eq]
  have fin : PtN row.length (some (some (SV.row 0, [(0, SObj.row 27 row)]))) := ⟨row, rfl, Nat.le_refl _, hr⟩
  refine cond_of (Q := PtN _) (fun _ => fin) (fun c => ?_)
  have hn5 : n ≤ 5 := by have := of_decide_eq_false c; omega
  have h1 : (0 : Int) ≤ (i : Int) := by omega
  have h2 : (i : Int) < (row.length : Int) := by omega
  have h3 : (0 : Int) ≤ (y : Int) := by omega
  have h4 : (y : Int) ≤ (b : Int) := by omega
  have h5 : (b : Int) ≤ (s.size : Int) := by omega
  have w2 : IntKind.wrap .i64 (n + 1) = n + 1 := wrap_i64 (by omega) (by omega)
  have hpz := hk.par x9 x10 p (ByteArray.mk #[(98 : UInt8), (111 : UInt8), (117 : UInt8), (110 : UInt8), (100 : UInt8), (97 : UInt8), (114 : UInt8), (121 : UInt8)]) hpl hp
  obtain ⟨z, hz⟩ : ∃ z, k.pS x9 x10 p (ByteArray.mk #[(98 : UInt8), (111 : UInt8), (117 : UInt8), (110 : UInt8), (100 : UInt8), (97 : UInt8), (114 : UInt8), (121 : UInt8)]) = z := ⟨_, rfl⟩
  rw [hz] at hpz
  rw [w2, hz]
  simp only [h1, h2, h3, h4, h5, decide_true, cond_true, Bool.and_self, Nat.ble_eq_true_of_le hpl, Nat.ble_eq_true_of_le hs, Nat.ble_eq_true_of_le hpz]
  obtain ⟨s1, s2⟩ := hk.sp s y b z hs hpz hyb hb
  have multi : PtN row.length (bif x9.toList == ByteArray.toList (ByteArray.mk #[(109 : UInt8), (117 : UInt8), (108 : UInt8), (116 : UInt8), (105 : UInt8), (112 : UInt8), (97 : UInt8), (114 : UInt8), (116 : UInt8)]) then
      bif !z.toList == ByteArray.toList (ByteArray.mk #[]) then f18n_L22 k d h fu fu s n (i : Int) (k.sp s (y : Int) (b : Int) z) (0 : Int) row x5 x6 (y : Int) x8 x9 x10 p x12 x13 else some (some (SV.row 0, [(0, SObj.row 27 row)]))
      else some (some (SV.row 0, [(0, SObj.row 27 row)]))) :=
    cond_of (Q := PtN _) (fun _ => cond_of (Q := PtN _) (fun _ => N22_is hh fu s hs n hn hn5 hnd i y b hb _ s1 s2 x5 x6 y x8 x9 x10 p x12 x13 (k.sp s y b z).length 0 fu row (by omega) (by omega) hi hr) (fun _ => fin)) (fun _ => fin)
  have key : ∀ row' : List SV, row'.length = row.length → PtN row.length (bif gdP d row' s y b i (n + 1) then bif Nat.ble 64 row'.length then some (some (SV.row 0, [(0, SObj.row 27 row')])) else some (some (SV.row 0, [(0, SObj.row 27 (h row' s y b i (n + 1) false))])) else none) := fun row' hr' => by
    have hg : gdP d row' s y b i (n + 1) = true := gdP_true (by omega) hs (by omega) (by omega) (by omega) (by omega) (by omega) (by omega) (by omega) (by omega)
    rw [hg, cond_true]
    refine cond_of (Q := PtN _) (fun c => ⟨row', rfl, by omega, by omega⟩) (fun c => ?_)
    have hlt64 : row'.length < 64 := by
      rcases Nat.lt_or_ge row'.length 64 with q | q
      · exact q
      · rw [Nat.ble_eq_true_of_le q] at c; cases c
    have hb := hh row' s y b i (n + 1) false hg hlt64
    exact ⟨_, rfl, by omega, by omega⟩
  exact cond_of (Q := PtN _) (fun _ => cond_of (Q := PtN _) (fun _ => key _ (by rw [List.length_set])) (fun _ => multi)) (fun _ => multi)
theorem N11_is (u n : Int) (hn : 0 ≤ n) (hnd : 7 ≤ n + d + 1) (i b : Nat) (hb : b ≤ s.size) (row : List SV) (hi : i < row.length) (hr : row.length ≤ 64) (hu : u < row.length) (y : Nat) (hyb : y ≤ b) (x6 x7 x9 : Int) (x10 x11 : ByteArray) (p : List SV) (hp : ParsOk p) (hpl : p.length ≤ 1000000) (x13 x14 : Int) (m m' : Nat) (hm : fu = m' + 1) :
    PtN row.length (f18n_L11 k d h fu (m + 1) s (b : Int) u n (i : Int) row x6 x7 (y : Int) x9 x10 x11 p x13 x14) := by
  rw [f18n_L11_eq]
  refine cond_of (Q := PtN _) (fun c => ?_) (fun c => ?_)
  · have hu0 : (0 : Int) ≤ u := of_decide_eq_true c
    simp only [hu0, hu, decide_true, cond_true, Bool.and_self]
    have key : ∀ row' : List SV, row'.length = row.length → PtN row.length (f18n_L13 k d h fu fu s (b : Int) n (i : Int) row' x6 x7 (y : Int) x9 x10 x11 p x13 x14) := fun row' hr' => by
      have := N13_is hk hh fu hfu s hs n hn hnd i b hb row' (by omega) (by omega) y hyb x6 x7 x9 x10 x11 p hp hpl x13 x14 m'
      rw [← hm, hr'] at this
      exact this
    exact key _ List.length_set
  · have := N13_is hk hh fu hfu s hs n hn hnd i b hb row hi hr y hyb x6 x7 x9 x10 x11 p hp hpl x13 x14 m'
    rw [← hm] at this
    exact this
theorem f18n_is (m' : Nat) (hm : fu = m' + 1) (hd : 7 ≤ d + 1) (b : Int) (hb0 : 0 ≤ b) (hb : b ≤ s.size) : PtN 0 (evFunD (f18_X k d h []) [11, 13] fu Tryz.f18 (finW (tyOf Tryz.prog) [] 0) [.snil, .str s, .int .i64 0, .int .i64 b, .int .i64 (-1), .int .i64 0, .bool false] [] []) := by
  obtain ⟨b, rfl⟩ : ∃ b' : Nat, b = b' := ⟨b.toNat, by omega⟩
  have hz : (s.extract 0 b).size = b := by rw [ByteArray.size_extract]; omega
  have hz2 : (s.extract 0 b).size ≤ 1000000 := by omega
  obtain ⟨p1, p2⟩ := hk.split _ hz2
  obtain ⟨y, hy⟩ : ∃ y : Nat, k.split (s.extract 0 b) = y := ⟨(k.split (s.extract 0 b)).toNat, by omega⟩
  rw [hy] at p1 p2
  have w1 : IntKind.wrap .i64 ((0 : Int) + (y : Int)) = (y : Int) := by rw [wrap_i64 (by omega) (by omega)]; omega
  have hfz := hk.find (s.extract 0 b) (ByteArray.mk #[(67 : UInt8), (111 : UInt8), (110 : UInt8), (116 : UInt8), (101 : UInt8), (110 : UInt8), (116 : UInt8), (45 : UInt8), (84 : UInt8), (121 : UInt8), (112 : UInt8), (101 : UInt8)]) hz2
  obtain ⟨t, ht⟩ : ∃ t, k.fS (s.extract 0 b) (ByteArray.mk #[(67 : UInt8), (111 : UInt8), (110 : UInt8), (116 : UInt8), (101 : UInt8), (110 : UInt8), (116 : UInt8), (45 : UInt8), (84 : UInt8), (121 : UInt8), (112 : UInt8), (101 : UInt8)]) = t := ⟨_, rfl⟩
  rw [ht] at hfz
  obtain ⟨m1, m2⟩ := hk.read t hfz
  have c1 : (0 : Int) ≤ (b : Int) := by omega
  have one : ∀ (x : SV) (x6 x7 x9 : Int) (x10 x11 : ByteArray) (x13 x14 : Int), PtN 0 (f18n_L11 k d h fu fu s (b : Int) (-1) 0 ((0 : Nat) : Int) [x] x6 x7 (y : Int) x9 x10 x11 (k.m3 t) x13 x14) := fun x x6 x7 x9 x10 x11 x13 x14 => by
    have := N11_is hk hh fu hfu s hs (-1) 0 (by omega) (by omega) 0 b (by omega) [x] (by simp) (by simp) (by simp) y (by omega) x6 x7 x9 x10 x11 _ m1 m2 x13 x14 m' m' hm
    rw [← hm] at this
    exact this.down (Nat.zero_le _)
  rw [f18n_eq, Int.toNat_natCast b, hy, ht, w1]
  simp only [c1, hb, decide_true, Bool.and_self, cond_true, Nat.ble_eq_true_of_le hz2, Nat.ble_eq_true_of_le hfz]
  exact cond_of (Q := PtN _) (fun _ => one _ _ _ _ _ _ _ _) (fun _ => one _ _ _ _ _ _ _ _)
end
/-- A letter's parts. -/
noncomputable def ofR (s : ByteArray) (b : Int) : List SV := partsV (evFunD (f18_X K0 6 (lvl 6) []) [11, 13] 1000010 Tryz.f18 (finW (tyOf Tryz.prog) [] 0) [.snil, .str s, .int .i64 0, .int .i64 b, .int .i64 (-1), .int .i64 0, .bool false] [] [])
theorem ofR_is (s : ByteArray) (b : Int) (hs : s.size ≤ 1000000) (hb0 : 0 ≤ b) (hb : b ≤ s.size) :
    evFunD (f18_X K0 6 (lvl 6) []) [11, 13] 1000010 Tryz.f18 (finW (tyOf Tryz.prog) [] 0) [.snil, .str s, .int .i64 0, .int .i64 b, .int .i64 (-1), .int .i64 0, .bool false] [] [] = some (some (.row 0, [(0, .row 27 (ofR s b))])) ∧ (ofR s b).length ≤ 64 := by
  obtain ⟨fu, hfu⟩ : ∃ fu, fu = 1000010 := ⟨_, rfl⟩
  unfold ofR
  rw [← hfu]
  obtain ⟨l', h1, h2, h3⟩ := f18n_is K0_ok (lvl_ok 6).1 fu (by omega) s hs 1000009 (by omega) (by omega) b hb0 hb
  rw [h1]
  exact ⟨rfl, h3⟩
def gO (h : ByteArray → Int → List SV) : List SV → Mem → Tr (SV × Mem)
  | [.snil, .str s, .int .i64 0, .int .i64 b, .int .i64 (-1), .int .i64 0, .bool false], [] => .br (Nat.ble s.size 1000000 && (decide (0 ≤ b) && decide (b ≤ s.size))) (.leaf (.row 0, [(0, .row 27 (h s b))])) .no
  | _, _ => .no
theorem zO_ok : SpecOk zE 18 (.wide (wideOf (tyOf Tryz.prog) (gO ofR))) := by
  refine wide_of_runD zE_ok (cs := [11, 13]) (X := fun sm => f18_X K0 6 (lvl 6) sm) (fun sm => ⟨zfx_ok (zTP_ok (lvl_ok 6).2) sm f18_live, rfl⟩) (fn := Tryz.f18) (by kernel_rfl) (by decide) (by rfl) (fun args m x hx => ?_)
  unfold gO at hx
  split at hx
  · rename_i s b
    refine ⟨1000010, ?_⟩
    show evFunD (f18_X K0 6 (lvl 6) []) [11, 13] 1000010 Tryz.f18 (finW (tyOf Tryz.prog) [] 0) [.snil, .str s, .int .i64 0, .int .i64 b, .int .i64 (-1), .int .i64 0, .bool false] [] [] = some (some x)
    simp only [pickA, cond_eq_ite] at hx
    split at hx
    · rename_i hg
      simp only [Bool.and_eq_true, decide_eq_true_eq] at hg
      simp only [Option.some.injEq] at hx
      rw [← hx]
      exact (ofR_is s b (Nat.le_of_ble_eq_true hg.1) hg.2.1 hg.2.2).1
    · cases hx
  · cases hx
end Sx

/-
  What the executor says of functions: the normal forms, each compared by the kernel. (Printed by a program.)
-/
set_option linter.unusedVariables false
namespace Sx
open Go Go.Proofs
noncomputable def zTO (h : ByteArray → Int → List SV) : List (Nat × Spec) := [(18, .wide (wideOf (tyOf Tryz.prog) (gO h)))]
set_option maxRecDepth 100000
/-- The slots that are needed at the loops' heads of 'hamper/hamperref20.Of'. -/
noncomputable def f6_live : Nat → List Nat × List (Nat × TypeId) := fun h => ([], [])
noncomputable def f6_X (h0 : ByteArray → Int → List SV) : Fx := ⟨tyOf Tryz.prog, ofList (zTO h0), [], f6_live⟩
theorem f6_eq (h0 : ByteArray → Int → List SV) (fu : Nat) (s : ByteArray) : evFun (f6_X h0) fu Tryz.f6 (frz (f6_X h0).Ty Tryz.f6) [.str s] [] [] = bif Nat.ble (ByteArray.size s) (1000000 : Nat) && decide ((↑(ByteArray.size s) : Int) ≤ (↑(ByteArray.size s) : Int)) then some (SV.lst (27 : Nat) (h0 s (↑(ByteArray.size s) : Int))) else none := by kernel_rfl

end Sx

/-
  The document's parts of a letter: as a specification.
-/
set_option linter.unusedVariables false
set_option linter.unusedSimpArgs false
set_option maxRecDepth 100000
namespace Sx
open Go Go.Proofs

noncomputable def ofP (s : ByteArray) : List SV := ofR s s.size
theorem ofP_len (s : ByteArray) (hs : s.size ≤ 1000000) : (ofP s).length ≤ 64 := (ofR_is s s.size hs (by omega) (by omega)).2
def kOf (h : ByteArray → List SV) : List SV → Option (Bool × SV)
  | [.str s] => some (Nat.ble s.size 1000000, .lst 27 (h s))
  | _ => none
theorem zTO_ok : SpecsOk zE (ofList (zTO ofR)) := .cons zO_ok .nil
theorem zOf_ok : SpecOk zE 6 (.plain (kOf ofP)) := by
  refine plain_of_run (zfx_ok zTO_ok [] f6_live) (fn := Tryz.f6) (by kernel_rfl) (by decide) (by rfl) (fun args sv h => ?_)
  unfold kOf at h
  split at h
  · rename_i s
    simp only [Option.some.injEq, Prod.mk.injEq] at h
    obtain ⟨h1, rfl⟩ := h
    refine ⟨rfl, rfl, 1000001, ?_⟩
    show evFun (f6_X ofR) 1000001 Tryz.f6 (frz (f6_X ofR).Ty Tryz.f6) [.str s] [] [] = _
    have h2 : (s.size : Int) ≤ (s.size : Int) := by omega
    rw [f6_eq, h1]
    simp only [h2, decide_true, Bool.and_self, cond_true]
    rfl
  · cases h
end Sx

/-
  What the executor says of functions: the normal forms, each compared by the kernel. (Printed by a program.)
-/
set_option linter.unusedVariables false
namespace Sx
open Go Go.Proofs
noncomputable def zTF (h : ByteArray → List SV) : List (Nat × Spec) := [(5, .plain gFew), (6, .plain (kOf h)), (7, .plain gKid), (8, .plain gKid), (9, .plain g9), (10, .plain gTrue)]
set_option maxRecDepth 100000
/-- The slots that are needed at the loops' heads of 'hamper/hamperlaw20.PartKids'. -/
noncomputable def f3_live : Nat → List Nat × List (Nat × TypeId) := fun h => bif Nat.beq h 6 then ([3, 4, 5, 6, 7, 8, 9], nilsOf (tyOf Tryz.prog) [(3, 22), (4, 3), (5, 3), (6, 0), (7, 31), (8, 3), (9, 3)]) else ([], [])
noncomputable def f3_X (h0 : ByteArray → List SV) : Fx := ⟨tyOf Tryz.prog, ofList (zTF h0), [], f3_live⟩
def f3_st6 (x0 : List SV) (x1 : Int) (x2 : Int) (x3 : List SV) (x4 : Int) (x5 : Int) (x6 : Int) (x7 : Int) (x8 : Int) (x9 : Int) (x10 : ByteArray) (x11 : ByteArray) (x12 : List SV) (x13 : Int) (x14 : Int) : St := St.mk
  [SV.dead, SV.dead, SV.dead, SV.lst (5 : Nat) x0, SV.int IntKind.i64 x1, SV.int IntKind.i64 x2, SV.box (100 : Nat) (0 : Nat), SV.lst (27 : Nat) x3, SV.int IntKind.i64 x4, SV.int IntKind.i64 x5, SV.dead, SV.dead,
    SV.dead, SV.dead, SV.dead, SV.dead, SV.dead, SV.dead, SV.dead, SV.dead, SV.dead, SV.dead, SV.dead, SV.dead, SV.dead, SV.dead, SV.dead, SV.dead, SV.dead, SV.dead, SV.dead, SV.dead, SV.dead, SV.dead, SV.dead, SV.dead,
    SV.dead, SV.dead, SV.dead, SV.dead, SV.dead, SV.dead, SV.dead, SV.dead, SV.dead, SV.dead, SV.dead, SV.dead, SV.dead, SV.dead, SV.dead, SV.dead, SV.dead, SV.dead, SV.dead, SV.dead, SV.dead, SV.dead, SV.dead, SV.dead,
    SV.dead, SV.dead, SV.dead, SV.dead, SV.dead, SV.dead, SV.dead, SV.dead, SV.dead, SV.dead, SV.dead, SV.dead, SV.dead]
  [((100 : Nat),
      SObj.box (27 : Nat) [SV.int IntKind.i64 x6, SV.int IntKind.i64 x7, SV.int IntKind.i64 x8, SV.int IntKind.i64 x9, SV.str x10, SV.str x11, SV.lst (127 : Nat) x12, SV.int IntKind.i64 x13, SV.int IntKind.i64 x14])]
  [(100 : Nat)]
noncomputable def f3_L6 (h0 : ByteArray → List SV) (fu fm : Nat) (x0 : List SV) (x1 : Int) (x2 : Int) (x3 : List SV) (x4 : Int) (x5 : Int) (x6 : Int) (x7 : Int) (x8 : Int) (x9 : Int) (x10 : ByteArray) (x11 : ByteArray) (x12 : List SV) (x13 : Int) (x14 : Int) : Option (SV) := atLoop (f3_X h0) Tryz.f3 (frz (f3_X h0).Ty Tryz.f3) fu [.r, .r, .r, .r, .l, .r, .t, .r, .b] fm (f3_st6 x0 x1 x2 x3 x4 x5 x6 x7 x8 x9 x10 x11 x12 x13 x14)

theorem f3_L6_eq (h0 : ByteArray → List SV) (fu fm : Nat) (x0 : List SV) (x1 : Int) (x2 : Int) (x3 : List SV) (x4 : Int) (x5 : Int) (x6 : Int) (x7 : Int) (x8 : Int) (x9 : Int) (x10 : ByteArray) (x11 : ByteArray) (x12 : List SV) (x13 : Int) (x14 : Int) : f3_L6 h0 fu (fm + 1) x0 x1 x2 x3 x4 x5 x6 x7 x8 x9 x10 x11 x12 x13 x14 = bif decide (x5 < x9) then
  bif decide ((0 : Int) ≤ x5) && decide (x5 < (↑(List.length x0) : Int)) then
    bif asInt (List.getD (cellsOf (List.getD x0 (Int.toNat x5) SV.dead)) (0 : Nat) SV.dead) == (10 : Int) then
      f3_L6 h0 fu fm x0 x1 x2 x3 (IntKind.wrap IntKind.i64 (x4 + (1 : Int))) (IntKind.wrap IntKind.i64 (x5 + (1 : Int))) x6 x7 x8 x9 x10 x11 x12 x13 x14
    else f3_L6 h0 fu fm x0 x1 x2 x3 x4 (IntKind.wrap IntKind.i64 (x5 + (1 : Int))) x6 x7 x8 x9 x10 x11 x12 x13 x14
  else none
  else
  bif Nat.ble (List.length x3) (1000000 : Nat) && okN x2 then
    bif Nat.ble (List.length x3) (1000000 : Nat) && okN x2 then
      bif nthZ (kidsZ x1 x3 (0 : Int)) x2 == nthZ (kidsZ x1 x3 (0 : Int)) x2 then
        bif
            (bif decide (x8 < (0 : Int)) then true
              else
                bif decide (x9 < x8) then true
                else bif decide (x9 > (↑(List.length x0) : Int)) then true else decide ((0 : Int) ≤ x9) && decide (x9 ≤ (↑(List.length x0) : Int)) && (decide ((0 : Int) ≤ x8) && decide (x8 ≤ x9)) && true) &&
              true then
          bif
              (bif decide (x8 < (0 : Int)) then (0 : Int)
                else
                  bif decide (x9 < x8) then (0 : Int)
                  else bif decide (x9 > (↑(List.length x0) : Int)) then (0 : Int) else (↑(Lib.countByte (octsOf (List.drop (Int.toNat x8) (List.take (Int.toNat x9) x0))) (Nat.toUInt8 (10 : Nat))) : Int)) ==
                x4 then
            some (SV.bool true)
          else some (SV.bool false)
        else none
      else some (SV.bool false)
    else none
  else none := by kernel_rfl

theorem f3_eq (h0 : ByteArray → List SV) (fu : Nat) (b : List SV) (i : Int) (n : Int) (k : Int) (f : Int) (d : Int) (t : Int) (x : ByteArray) (y : ByteArray) (ps : List SV) (u : Int) (c : Int) : evFun (f3_X h0) fu Tryz.f3 (frz (f3_X h0).Ty Tryz.f3) [.agg [.lst 5 b, .int .i64 i, .int .i64 n, .int .i64 k, .int .i64 f, .int .i64 d, .int .i64 t, .str x, .str y, .lst 127 ps, .int .i64 u, .int .i64 c]] [] [] = bif Nat.ble (ByteArray.size (strOf (List.take (1200 : Nat) b))) (1000000 : Nat) then
  bif decide ((0 : Int) ≤ d) then
    bif decide (d ≤ t) then
      bif decide (t ≤ (↑(List.length (List.take (1200 : Nat) b)) : Int)) then f3_L6 h0 fu fu (List.take (1200 : Nat) b) i n (h0 (strOf (List.take (1200 : Nat) b))) (0 : Int) d k f d t x y ps u c
      else
        bif Nat.ble (List.length (h0 (strOf (List.take (1200 : Nat) b)))) (1000000 : Nat) && okN n then
          bif Nat.ble (List.length (h0 (strOf (List.take (1200 : Nat) b)))) (1000000 : Nat) && okN n then
            bif nthZ (kidsZ i (h0 (strOf (List.take (1200 : Nat) b))) (0 : Int)) n == nthZ (kidsZ i (h0 (strOf (List.take (1200 : Nat) b))) (0 : Int)) n then
              bif
                  (bif decide (d < (0 : Int)) then true
                    else
                      bif decide (t < d) then true
                      else
                        bif decide (t > (↑(List.length (List.take (1200 : Nat) b)) : Int)) then true
                        else decide ((0 : Int) ≤ t) && decide (t ≤ (↑(List.length (List.take (1200 : Nat) b)) : Int)) && (decide ((0 : Int) ≤ d) && decide (d ≤ t)) && true) &&
                    true then
                bif
                    (bif decide (d < (0 : Int)) then (0 : Int)
                      else
                        bif decide (t < d) then (0 : Int)
                        else
                          bif decide (t > (↑(List.length (List.take (1200 : Nat) b)) : Int)) then (0 : Int)
                          else (↑(Lib.countByte (octsOf (List.drop (Int.toNat d) (List.take (Int.toNat t) (List.take (1200 : Nat) b)))) (Nat.toUInt8 (10 : Nat))) : Int)) ==
                      (0 : Int) then
                  some (SV.bool true)
                else some (SV.bool false)
              else none
            else some (SV.bool false)
          else none
        else none
    else
      bif Nat.ble (List.length (h0 (strOf (List.take (1200 : Nat) b)))) (1000000 : Nat) && okN n then
        bif Nat.ble (List.length (h0 (strOf (List.take (1200 : Nat) b)))) (1000000 : Nat) && okN n then
          bif nthZ (kidsZ i (h0 (strOf (List.take (1200 : Nat) b))) (0 : Int)) n == nthZ (kidsZ i (h0 (strOf (List.take (1200 : Nat) b))) (0 : Int)) n then
            bif
                (bif decide (d < (0 : Int)) then true
                  else
                    bif decide (t < d) then true
                    else
                      bif decide (t > (↑(List.length (List.take (1200 : Nat) b)) : Int)) then true
                      else decide ((0 : Int) ≤ t) && decide (t ≤ (↑(List.length (List.take (1200 : Nat) b)) : Int)) && (decide ((0 : Int) ≤ d) && decide (d ≤ t)) && true) &&
                  true then
              bif
                  (bif decide (d < (0 : Int)) then (0 : Int)
                    else
                      bif decide (t < d) then (0 : Int)
                      else
                        bif decide (t > (↑(List.length (List.take (1200 : Nat) b)) : Int)) then (0 : Int)
                        else (↑(Lib.countByte (octsOf (List.drop (Int.toNat d) (List.take (Int.toNat t) (List.take (1200 : Nat) b)))) (Nat.toUInt8 (10 : Nat))) : Int)) ==
                    (0 : Int) then
                some (SV.bool true)
              else some (SV.bool false)
            else none
          else some (SV.bool false)
        else none
      else none
  else
    bif Nat.ble (List.length (h0 (strOf (List.take (1200 : Nat) b)))) (1000000 : Nat) && okN n then
      bif Nat.ble (List.length (h0 (strOf (List.take (1200 : Nat) b)))) (1000000 : Nat) && okN n then
        bif nthZ (kidsZ i (h0 (strOf (List.take (1200 : Nat) b))) (0 : Int)) n == nthZ (kidsZ i (h0 (strOf (List.take (1200 : Nat) b))) (0 : Int)) n then
          bif
              (bif decide (d < (0 : Int)) then true
                else
                  bif decide (t < d) then true
                  else
                    bif decide (t > (↑(List.length (List.take (1200 : Nat) b)) : Int)) then true
                    else decide ((0 : Int) ≤ t) && decide (t ≤ (↑(List.length (List.take (1200 : Nat) b)) : Int)) && (decide ((0 : Int) ≤ d) && decide (d ≤ t)) && true) &&
                true then
            bif
                (bif decide (d < (0 : Int)) then (0 : Int)
                  else
                    bif decide (t < d) then (0 : Int)
                    else
                      bif decide (t > (↑(List.length (List.take (1200 : Nat) b)) : Int)) then (0 : Int)
                      else (↑(Lib.countByte (octsOf (List.drop (Int.toNat d) (List.take (Int.toNat t) (List.take (1200 : Nat) b)))) (Nat.toUInt8 (10 : Nat))) : Int)) ==
                  (0 : Int) then
              some (SV.bool true)
            else some (SV.bool false)
          else none
        else some (SV.bool false)
      else none
    else none
  else none := by kernel_rfl

end Sx

/-
  The law's run: for all that may come in, it returns true.
-/
set_option linter.unusedVariables false
set_option linter.unusedSimpArgs false
set_option maxRecDepth 100000
namespace Sx
open Go Go.Proofs

/-- Octets. -/
def OctsOk (l : List SV) : Prop := ∀ x ∈ l, ∃ n : Nat, x = .int .u8 n ∧ n < 256
theorem octs_of_wf {xs : List SV} (h : WfV Tryz.prog (.lst 5 xs)) : OctsOk xs := by
  intro x hx
  cases h with
  | lst e d xs hd hw ho hx2 =>
    have hc : (tyOf Tryz.prog 5).map (fun d => (d.d, d.cells)) = some (.int .u8, [.int .u8]) := by kernel_rfl
    rw [hd] at hc
    simp only [Option.map_some, Option.some.injEq, Prod.mk.injEq] at hc
    obtain ⟨h1, h2⟩ := ho x hx
    rw [hc.1] at h1
    rw [hc.2] at h2
    have h3 := hx2 x hx
    generalize cellsOf x = cs at h1 h2 h3
    match cs, h2 with
    | [c], h2 =>
      cases c <;> simp [tyCs, tyC] at h2
      rename_i k n
      subst h2
      have hwf := h3 (.int .u8 n) (by simp)
      cases hwf with
      | int _ _ hl =>
        have hb : 0 ≤ n ∧ n < 256 := by
          have h1 : IntKind.min .u8 = 0 := by rfl
          have h2 : IntKind.max .u8 = 255 := by rfl
          simp only [Lit.wf, Bool.and_eq_true, decide_eq_true_eq, h1, h2] at hl
          omega
        refine ⟨n.toNat, ?_, by omega⟩
        rw [h1]
        show SV.int .u8 n = _
        congr 1
        omega
    | [], h2 => simp [tyCs] at h2
    | _ :: _ :: _, h2 => simp [tyCs] at h2
def cntZ (l : List SV) : Nat := Lib.countByte (octsOf l) (Nat.toUInt8 10)
theorem cntZ_snoc (l : List SV) (n : Nat) (hn : n < 256) : cntZ (l ++ [.int .u8 n]) = bif (n : Int) == 10 then cntZ l + 1 else cntZ l := by
  unfold cntZ octsOf Lib.countByte
  simp only [List.map_append, List.map_cons, List.map_nil, List.count_append, asInt, Int.toNat_natCast]
  by_cases h : n = 10
  · subst h
    rfl
  · have h1 : ((n : Int) == 10) = false := by simp; omega
    rw [h1, cond_false]
    have : (Nat.toUInt8 n == Nat.toUInt8 10) = false := by
      simp only [beq_eq_false_iff_ne]
      intro e
      have := congrArg UInt8.toNat e
      simp only [Nat.toUInt8, UInt8.toNat_ofNat'] at this
      omega
    rw [List.count_cons, this]
    simp
theorem cntZ_le (l : List SV) : cntZ l ≤ l.length := by
  unfold cntZ Lib.countByte
  refine Nat.le_trans List.count_le_length ?_
  unfold octsOf; simp
theorem L6_is (h : ByteArray → List SV) (fu : Nat) (b : List SV) (hb : OctsOk b) (hbl : b.length ≤ 1200) (i n : Int) (hn : okN n = true) (l : List SV) (hl : l.length ≤ 1000000) (x6 x7 : Int) (d t : Nat) (hdt : d ≤ t) (htb : t ≤ b.length) (x10 x11 : ByteArray) (x12 : List SV) (x13 x14 : Int) : ∀ (K j m : Nat), j + K = t → K < m → d ≤ j →
    f3_L6 h fu m b i n l (cntZ ((b.take j).drop d) : Nat) (j : Int) x6 x7 (d : Int) (t : Int) x10 x11 x12 x13 x14 = some (.bool true)
  | 0, j, m, hj, hm, hd => by
    obtain ⟨m, rfl⟩ : ∃ m', m = m' + 1 := ⟨m - 1, by omega⟩
    have : j = t := by omega
    subst this
    have h1 : ¬ ((j : Int) < (j : Int)) := by omega
    have h2 : ¬ ((d : Int) < 0) := by omega
    have h3 : ¬ ((j : Int) < (d : Int)) := by omega
    have h4 : ¬ ((j : Int) > (b.length : Int)) := by omega
    have h5 : (0 : Int) ≤ (j : Int) := by omega
    have h6 : (j : Int) ≤ (b.length : Int) := by omega
    have h7 : (0 : Int) ≤ (d : Int) := by omega
    have h8 : (d : Int) ≤ (j : Int) := by omega
    rw [f3_L6_eq]
    simp only [h1, h2, h3, h4, h5, h6, h7, h8, decide_true, decide_false, cond_true, cond_false, Bool.and_self, Nat.ble_eq_true_of_le hl, hn, beq_self_eq_true, Int.toNat_natCast]
    have e : (Lib.countByte (octsOf (List.drop d (List.take j b))) (Nat.toUInt8 10)) = cntZ ((b.take j).drop d) := rfl
    rw [e]
    simp only [beq_self_eq_true, cond_true]
  | K + 1, j, m, hj, hm, hd => by
    obtain ⟨m, rfl⟩ : ∃ m', m = m' + 1 := ⟨m - 1, by omega⟩
    have hlt : j < b.length := by omega
    have h1 : (j : Int) < (t : Int) := by omega
    have h2 : (0 : Int) ≤ (j : Int) := by omega
    have h3 : (j : Int) < (b.length : Int) := by omega
    have w1 : IntKind.wrap .i64 ((j : Int) + 1) = ((j + 1 : Nat) : Int) := by rw [wrap_i64 (by omega) (by omega)]; omega
    obtain ⟨v, hv, hv2⟩ := hb _ (List.getElem_mem hlt)
    have ih := L6_is h fu b hb hbl i n hn l hl x6 x7 d t hdt htb x10 x11 x12 x13 x14 K (j + 1) m (by omega) (by omega) (by omega)
    have ed : (b.take (j + 1)).drop d = (b.take j).drop d ++ [.int .u8 v] := by
      rw [List.take_succ_eq_append_getElem hlt, hv, List.drop_append_of_le_length (by rw [List.length_take]; omega)]
    rw [ed, cntZ_snoc _ _ hv2] at ih
    have hc := cntZ_le ((b.take j).drop d)
    have hc2 : ((b.take j).drop d).length ≤ 1200 := by rw [List.length_drop, List.length_take]; omega
    have w2 : IntKind.wrap .i64 ((cntZ ((b.take j).drop d) : Int) + 1) = ((cntZ ((b.take j).drop d) + 1 : Nat) : Int) := by rw [wrap_i64 (by omega) (by omega)]; omega
    rw [f3_L6_eq, w1, w2]
    have e1 : asInt (List.getD (cellsOf (SV.int .u8 v)) 0 SV.dead) = v := rfl
    simp only [h1, h2, h3, decide_true, cond_true, Bool.and_self, Int.toNat_natCast, zgetD_at hlt, hv, e1]
    cases e : ((v : Int) == 10) with
    | true => rw [e, cond_true] at ih; rw [cond_true]; exact ih
    | false => rw [e, cond_false] at ih; rw [cond_false]; exact ih
theorem zTF_ok : SpecsOk zE (ofList (zTF ofP)) := .cons zFew_ok (.cons zOf_ok (.cons zKid_ok (.cons zRKid_ok (.cons f9_ok (.cons awake_ok .nil)))))
theorem size_strOf (l : List SV) : (strOf l).size = l.length := by unfold strOf; simp [ByteArray.size]
theorem f3_run (b : List SV) (hb : OctsOk b) (i n k f d t : Int) (hn : okN n = true) (x y : ByteArray) (ps : List SV) (u c : Int) :
    evFun (f3_X ofP) 1201 Tryz.f3 (frz (f3_X ofP).Ty Tryz.f3) [.agg [.lst 5 b, .int .i64 i, .int .i64 n, .int .i64 k, .int .i64 f, .int .i64 d, .int .i64 t, .str x, .str y, .lst 127 ps, .int .i64 u, .int .i64 c]] [] [] = some (.bool true) := by
  obtain ⟨b', hb'⟩ : ∃ b', b.take 1200 = b' := ⟨_, rfl⟩
  have hbl : b'.length ≤ 1200 := by rw [← hb', List.length_take]; omega
  have hbo : OctsOk b' := fun z hz => hb z (by rw [← hb'] at hz; exact List.mem_of_mem_take hz)
  have hsz : (strOf b').size ≤ 1000000 := by rw [size_strOf]; omega
  have hlen := ofP_len _ hsz
  rw [f3_eq, hb']
  obtain ⟨l, hl⟩ : ∃ l, ofP (strOf b') = l := ⟨_, rfl⟩
  rw [hl] at hlen
  rw [hl]
  have hl6 : l.length ≤ 1000000 := by omega
  simp only [Nat.ble_eq_true_of_le hsz, Nat.ble_eq_true_of_le hl6, hn, cond_true, Bool.and_self, beq_self_eq_true]
  by_cases c1 : 0 ≤ d
  · by_cases c2 : d ≤ t
    · by_cases c3 : t ≤ (b'.length : Int)
      · simp only [c1, c2, c3, decide_true, cond_true]
        obtain ⟨d, rfl⟩ : ∃ d' : Nat, d = d' := ⟨d.toNat, by omega⟩
        obtain ⟨t, rfl⟩ : ∃ t' : Nat, t = t' := ⟨t.toNat, by omega⟩
        have := L6_is ofP 1201 b' hbo hbl i n hn l hl6 k f d t (by omega) (by omega) x y ps u c (t - d) d 1201 (by omega) (by omega) (Nat.le_refl _)
        have e : cntZ ((b'.take d).drop d) = 0 := by
          rw [List.drop_of_length_le (by rw [List.length_take]; omega)]; rfl
        rw [e] at this
        exact this
      · have c4 : t > (b'.length : Int) := by omega
        have c5 : ¬ (d < 0) := by omega
        have c6 : ¬ (t < d) := by omega
        simp only [c1, c2, c3, c4, c5, c6, decide_true, decide_false, cond_true, cond_false, Bool.and_self, beq_self_eq_true]
    · have c5 : ¬ (d < 0) := by omega
      have c6 : t < d := by omega
      simp only [c1, c2, c5, c6, decide_true, decide_false, cond_true, cond_false, Bool.and_self, beq_self_eq_true]
  · have c5 : d < 0 := by omega
    simp only [c1, c5, decide_true, decide_false, cond_true, cond_false, Bool.and_self, beq_self_eq_true]
/-! ### the argument -/
theorem ArgOk.agg {P : Program} {t : TypeId} {x : SV} {ks : List CK} (h : ArgOk P t x) (hc : (tyOf P t).map (fun d => (d.d.isAgg, d.cells)) = some (true, ks)) : ∃ ss, x = .agg ss ∧ tyCs ks ss = true ∧ ∀ s, s ∈ ss → WfV P s := by
  obtain ⟨d, ss, hd, h, hw⟩ := h
  simp only [hd, Option.map_some, Option.some.injEq, Prod.mk.injEq] at hc
  rw [hc.2] at h
  refine ⟨ss, ?_, h, hw⟩
  have := hc.1
  unfold ofCells; cases hq : d.d <;> simp_all [D.isAgg]
theorem tyCs_cons {k : CK} {ks : List CK} {ss : List SV} (h : tyCs (k :: ks) ss = true) : ∃ s r, ss = s :: r ∧ tyC k s = true ∧ tyCs ks r = true := by
  cases ss with
  | nil => cases h
  | cons s r => simp only [tyCs, Bool.and_eq_true] at h; exact ⟨s, r, rfl, h.1, h.2⟩
theorem tyCs_nil {ss : List SV} (h : tyCs [] ss = true) : ss = [] := by cases ss with | nil => rfl | cons _ _ => cases h
theorem tyC_int {k : IntKind} {s : SV} (h : tyC (.int k) s = true) : ∃ n, s = .int k n := by
  cases s <;> simp [tyC] at h
  subst h; exact ⟨_, rfl⟩
theorem tyC_str {s : SV} (h : tyC .str s = true) : ∃ n, s = .str n := by cases s <;> simp [tyC] at h; exact ⟨_, rfl⟩
theorem tyC_lst {e : TypeId} {s : SV} (h : tyC (.slice e) s = true) : ∃ n, s = .lst e n := by
  cases s <;> simp [tyC] at h
  subst h; exact ⟨_, rfl⟩
theorem kid_arg {x : SV} (h : ArgOk Tryz.prog 29 x) : ∃ (b : List SV) (i n k f d t : Int) (p q : ByteArray) (ps : List SV) (u c : Int), x = .agg [.lst 5 b, .int .i64 i, .int .i64 n, .int .i64 k, .int .i64 f, .int .i64 d, .int .i64 t, .str p, .str q, .lst 127 ps, .int .i64 u, .int .i64 c] ∧ OctsOk b ∧ okN n = true := by
  obtain ⟨ss, rfl, h1, hw⟩ := h.agg (ks := [.slice 5, .int .i64, .int .i64, .int .i64, .int .i64, .int .i64, .int .i64, .str, .str, .slice 127, .int .i64, .int .i64]) (by kernel_rfl)
  obtain ⟨s, r, rfl, e, h2⟩ := tyCs_cons h1; obtain ⟨b, rfl⟩ := tyC_lst e
  obtain ⟨s, r, rfl, e, h3⟩ := tyCs_cons h2; obtain ⟨i, rfl⟩ := tyC_int e
  obtain ⟨s, r, rfl, e, h4⟩ := tyCs_cons h3; obtain ⟨n, rfl⟩ := tyC_int e
  obtain ⟨s, r, rfl, e, h5⟩ := tyCs_cons h4; obtain ⟨k, rfl⟩ := tyC_int e
  obtain ⟨s, r, rfl, e, h6⟩ := tyCs_cons h5; obtain ⟨f, rfl⟩ := tyC_int e
  obtain ⟨s, r, rfl, e, h7⟩ := tyCs_cons h6; obtain ⟨d, rfl⟩ := tyC_int e
  obtain ⟨s, r, rfl, e, h8⟩ := tyCs_cons h7; obtain ⟨t, rfl⟩ := tyC_int e
  obtain ⟨s, r, rfl, e, h9⟩ := tyCs_cons h8; obtain ⟨p, rfl⟩ := tyC_str e
  obtain ⟨s, r, rfl, e, h10⟩ := tyCs_cons h9; obtain ⟨q, rfl⟩ := tyC_str e
  obtain ⟨s, r, rfl, e, h11⟩ := tyCs_cons h10; obtain ⟨ps, rfl⟩ := tyC_lst e
  obtain ⟨s, r, rfl, e, h12⟩ := tyCs_cons h11; obtain ⟨u, rfl⟩ := tyC_int e
  obtain ⟨s, r, rfl, e, h13⟩ := tyCs_cons h12; obtain ⟨c, rfl⟩ := tyC_int e
  obtain rfl := tyCs_nil h13
  refine ⟨b, i, n, k, f, d, t, p, q, ps, u, c, rfl, octs_of_wf (hw _ (by simp)), ?_⟩
  have := hw (.int .i64 n) (by simp)
  cases this with
  | int _ _ hl =>
    have h1 : IntKind.min .i64 = -9223372036854775808 := by rfl
    have h2 : IntKind.max .i64 = 9223372036854775807 := by rfl
    simp only [Lit.wf, Bool.and_eq_true, decide_eq_true_eq, h1, h2] at hl
    unfold okN
    simp only [Bool.and_eq_true, decide_eq_true_eq]
    omega
end Sx
