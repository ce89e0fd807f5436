/-
  Layer 29: what ends with what.
-/
import Derived.Test.YtlkpldfdogjneaaLa
import Derived.KernelRfl
set_option linter.unusedVariables false
set_option linter.unusedSimpArgs false
set_option linter.unusedVariables false
namespace Sx
open Go Go.Proofs
set_option maxRecDepth 100000
/-- Does a text end with another one? -/
def sufB (s t : ByteArray) : Bool := decide (t.size ≤ s.size) && ((s.extract (s.size - t.size) s.size).toList == t.toList)
def gSuf : List SV → Option (Bool × SV)
  | [.str s, .str t] => some (decide (s.size < 4294967281), .bool (sufB s t))
  | _ => none
theorem s90_ok : SpecOk rE 90 (.plain gSuf) := by
  refine plain_of_run (fx_ok rLib_ok [] f90_live) (fn := Try.f90) (by kernel_rfl) (by decide) (by rfl) (fun args sv h => ?_)
  unfold gSuf at h
  split at h
  · rename_i s t
    simp only [Option.some.injEq, Prod.mk.injEq, decide_eq_true_eq] at h
    obtain ⟨hs, rfl⟩ := h
    refine ⟨rfl, rfl, 0, ?_⟩
    show evFun f90_X 0 Try.f90 (frz f90_X.Ty Try.f90) [.str s, .str t] [] [] = _
    rw [f90_eq]
    unfold f90_T sufB
    by_cases h1 : t.size ≤ s.size
    · have w1 : IntKind.wrap .i64 ((s.size : Int) - (t.size : Int)) = ((s.size - t.size : Nat) : Int) := by rw [wrap64 (by omega) (by omega)]; omega
      have a1 : ((s.size : Int) ≥ (t.size : Int)) := by omega
      have a2 : (0 : Int) ≤ ((s.size - t.size : Nat) : Int) := by omega
      have a3 : ((s.size - t.size : Nat) : Int) ≤ (s.size : Int) := by omega
      rw [w1]
      simp only [a1, a2, a3, h1, decide_true, Bool.and_self, Bool.true_and, Int.toNat_natCast, Tr.opt1, cond_true]
    · have a1 : ¬ ((s.size : Int) ≥ (t.size : Int)) := by omega
      simp only [a1, h1, decide_false, Bool.false_and, Tr.opt1, cond_false]
  · cases h
noncomputable def lE0 : List (Nat × Spec) := (90, .plain gSuf) :: lA1
theorem lE0_ok : SpecsOk rE (ofList lE0) := .cons s90_ok lA1_ok
end Sx

/-
  What the executor says of functions: the normal forms, each compared by the kernel. (Printed by a program.)
-/
set_option linter.unusedVariables false
namespace Sx
open Go Go.Proofs
set_option maxRecDepth 100000
/-- The slots that are needed at the loops' heads of 'strings.HasSuffix'. -/
noncomputable def f82_live : Nat → List Nat × List (Nat × TypeId) := fun h => ([], [])
noncomputable def f82_X : Fx := ⟨tyOf Try.prog, ofList lE0, [], f82_live⟩
/-- The slots that are needed at the loops' heads of 'internal/stringslite.TrimSuffix'. -/
noncomputable def f81_live : Nat → List Nat × List (Nat × TypeId) := fun h => ([], [])
noncomputable def f81_X : Fx := ⟨tyOf Try.prog, ofList lE0, [], f81_live⟩
theorem f82_eq (fu : Nat) (s : ByteArray) (t : ByteArray) : evFun f82_X fu Try.f82 (frz f82_X.Ty Try.f82) [.str s, .str t] [] [] = bif decide (ByteArray.size s < (4294967281 : Nat)) then some (SV.bool (sufB s t)) else none := by kernel_rfl

theorem f81_eq (fu : Nat) (s : ByteArray) (t : ByteArray) : evFun f81_X fu Try.f81 (frz f81_X.Ty Try.f81) [.str s, .str t] [] [] = bif decide (ByteArray.size s < (4294967281 : Nat)) then
  bif sufB s t then
    bif
        decide ((0 : Int) ≤ IntKind.wrap IntKind.i64 ((↑(ByteArray.size s) : Int) - (↑(ByteArray.size t) : Int))) &&
            decide (IntKind.wrap IntKind.i64 ((↑(ByteArray.size s) : Int) - (↑(ByteArray.size t) : Int)) ≤ (↑(ByteArray.size s) : Int)) &&
          true then
      some (SV.str (ByteArray.extract s (0 : Nat) (Int.toNat (IntKind.wrap IntKind.i64 ((↑(ByteArray.size s) : Int) - (↑(ByteArray.size t) : Int))))))
    else none
  else some (SV.str s)
  else none := by kernel_rfl

end Sx

/-
  Layer 29: HasSuffix, TrimSuffix.
-/
set_option linter.unusedVariables false
namespace Sx
open Go Go.Proofs
set_option maxRecDepth 100000
theorem s82_ok : SpecOk rE 82 (.plain gSuf) := by
  refine plain_of_run (fx_ok lE0_ok [] f82_live) (fn := Try.f82) (by kernel_rfl) (by decide) (by rfl) (fun args sv h => ?_)
  unfold gSuf at h
  split at h
  · rename_i s t
    simp only [Option.some.injEq, Prod.mk.injEq] at h
    obtain ⟨hs, rfl⟩ := h
    refine ⟨rfl, rfl, 0, ?_⟩
    show evFun f82_X 0 Try.f82 (frz f82_X.Ty Try.f82) [.str s, .str t] [] [] = _
    rw [f82_eq, hs]; rfl
  · cases h
def trimB (s t : ByteArray) : ByteArray := bif sufB s t then s.extract 0 (s.size - t.size) else s
def gTrimS : List SV → Option (Bool × SV)
  | [.str s, .str t] => some (decide (s.size < 4294967281), .str (trimB s t))
  | _ => none
theorem s81_ok : SpecOk rE 81 (.plain gTrimS) := by
  refine plain_of_run (fx_ok lE0_ok [] f81_live) (fn := Try.f81) (by kernel_rfl) (by decide) (by rfl) (fun args sv h => ?_)
  unfold gTrimS at h
  split at h
  · rename_i s t
    simp only [Option.some.injEq, Prod.mk.injEq] at h
    obtain ⟨hs, rfl⟩ := h
    refine ⟨rfl, rfl, 0, ?_⟩
    show evFun f81_X 0 Try.f81 (frz f81_X.Ty Try.f81) [.str s, .str t] [] [] = _
    rw [f81_eq, hs]
    unfold trimB
    have hs := of_decide_eq_true hs
    cases hb : sufB s t with
    | false => rfl
    | true =>
      have h1 : t.size ≤ s.size := by
        simp only [sufB, Bool.and_eq_true, decide_eq_true_eq] at hb
        exact hb.1
      have w1 : IntKind.wrap .i64 ((s.size : Int) - (t.size : Int)) = ((s.size - t.size : Nat) : Int) := by rw [wrap64 (by omega) (by omega)]; omega
      have a2 : (0 : Int) ≤ ((s.size - t.size : Nat) : Int) := by omega
      have a3 : ((s.size - t.size : Nat) : Int) ≤ (s.size : Int) := by omega
      rw [w1]
      simp only [a2, a3, decide_true, Bool.and_self, cond_true, Int.toNat_natCast]
  · cases h
noncomputable def lE1 : List (Nat × Spec) := (82, .plain gSuf) :: (81, .plain gTrimS) :: lE0
theorem lE1_ok : SpecsOk rE (ofList lE1) := .cons s82_ok (.cons s81_ok lE0_ok)
end Sx

/-
  What the executor says of functions: the normal forms, each compared by the kernel. (Printed by a program.)
-/
set_option linter.unusedVariables false
namespace Sx
open Go Go.Proofs
set_option maxRecDepth 100000
/-- The slots that are needed at the loops' heads of 'strings.TrimSuffix'. -/
noncomputable def f68_live : Nat → List Nat × List (Nat × TypeId) := fun h => ([], [])
noncomputable def f68_X : Fx := ⟨tyOf Try.prog, ofList lE1, [], f68_live⟩
/-- The slots that are needed at the loops' heads of 'hamper/line.announced'. -/
noncomputable def f69_live : Nat → List Nat × List (Nat × TypeId) := fun h => bif Nat.beq h 9 then ([0, 4, 5, 6, 35, 36], nilsOf (tyOf Try.prog) [(0, 9), (4, 3), (5, 9), (6, 3), (35, 3), (36, 3)]) else ([], [])
noncomputable def f69_X : Fx := ⟨tyOf Try.prog, ofList lE1, [], f69_live⟩
theorem f68_eq (fu : Nat) (s : ByteArray) (t : ByteArray) : evFun f68_X fu Try.f68 (frz f68_X.Ty Try.f68) [.str s, .str t] [] [] = bif decide (ByteArray.size s < (4294967281 : Nat)) then some (SV.str (trimB s t)) else none := by kernel_rfl

def f69_st9 (x0 : ByteArray) (x1 : Int) (x2 : ByteArray) (x3 : Int) (x4 : Int) (x5 : Int) : St := St.mk
  [SV.str x0, SV.dead, SV.dead, SV.dead, SV.int IntKind.i64 x1, SV.str x2, SV.int IntKind.i64 x3, SV.dead, SV.dead, SV.dead, SV.dead, SV.dead, SV.dead, SV.dead, SV.dead, SV.dead, SV.dead, SV.dead, SV.dead, SV.dead,
    SV.dead, SV.dead, SV.dead, SV.dead, SV.dead, SV.dead, SV.dead, SV.dead, SV.dead, SV.dead, SV.dead, SV.dead, SV.dead, SV.dead, SV.dead, SV.int IntKind.i64 x4, SV.int IntKind.i64 x5, SV.dead, SV.dead, SV.dead, SV.dead,
    SV.dead, SV.dead, SV.dead, SV.dead, SV.dead, SV.dead, SV.dead, SV.dead, SV.dead, SV.dead, SV.dead, SV.dead, SV.dead, SV.dead, SV.dead, SV.dead, SV.dead, SV.dead, SV.dead, SV.dead, SV.dead, SV.dead]
  [] []
noncomputable def f69_L9 (fu fm : Nat) (x0 : ByteArray) (x1 : Int) (x2 : ByteArray) (x3 : Int) (x4 : Int) (x5 : Int) : Option (SV) := atLoop f69_X Try.f69 (frz f69_X.Ty Try.f69) fu [.r, .r, .r, .r, .r, .r, .l, .r, .b] fm (f69_st9 x0 x1 x2 x3 x4 x5)

theorem f69_L9_eq (fu fm : Nat) (x0 : ByteArray) (x1 : Int) (x2 : ByteArray) (x3 : Int) (x4 : Int) (x5 : Int) : f69_L9 fu (fm + 1) x0 x1 x2 x3 x4 x5 = bif decide (x5 < x4) then
  bif decide ((0 : Int) ≤ x5) && decide (x5 < (↑(ByteArray.size x2) : Int)) then
    bif decide (bAt x2 x5 < (48 : Int)) then some (SV.tup [SV.int IntKind.i64 (-1 : Int), SV.str x0])
    else
      bif decide ((0 : Int) ≤ x5) && decide (x5 < (↑(ByteArray.size x2) : Int)) then
        bif decide (bAt x2 x5 > (57 : Int)) then some (SV.tup [SV.int IntKind.i64 (-1 : Int), SV.str x0])
        else
          bif decide ((0 : Int) ≤ x5) && decide (x5 < (↑(ByteArray.size x2) : Int)) then
            f69_L9 fu fm x0 x1 x2 (IntKind.wrap IntKind.i64 (IntKind.wrap IntKind.i64 ((10 : Int) * x3) + IntKind.wrap IntKind.i64 (IntKind.wrap IntKind.u8 (bAt x2 x5 - (48 : Int))))) x4
              (IntKind.wrap IntKind.i64 (x5 + (1 : Int)))
          else none
      else none
  else none
  else bif decide ((0 : Int) ≤ x1) && decide (x1 ≤ (↑(ByteArray.size x0) : Int)) && true then some (SV.tup [SV.int IntKind.i64 x3, SV.str (ByteArray.extract x0 (0 : Nat) (Int.toNat x1))]) else none := by kernel_rfl

theorem f69_eq (fu : Nat) (s : ByteArray) : evFun f69_X fu Try.f69 (frz f69_X.Ty Try.f69) [.str s] [] [] = bif decide (ByteArray.size s < (4611686018427387904 : Nat)) then
  bif decide (Lib.lastIndexByte s (123 : Int) < (0 : Int)) then some (SV.tup [SV.int IntKind.i64 (-1 : Int), SV.str s])
  else
    bif decide (ByteArray.size s < (4294967281 : Nat)) then
      bif !sufB s (ByteArray.mk #[(125 : UInt8)]) then some (SV.tup [SV.int IntKind.i64 (-1 : Int), SV.str s])
      else
        bif
            decide ((0 : Int) ≤ IntKind.wrap IntKind.i64 ((↑(ByteArray.size s) : Int) - (1 : Int))) && decide (IntKind.wrap IntKind.i64 ((↑(ByteArray.size s) : Int) - (1 : Int)) ≤ (↑(ByteArray.size s) : Int)) &&
              (decide ((0 : Int) ≤ IntKind.wrap IntKind.i64 (Lib.lastIndexByte s (123 : Int) + (1 : Int))) &&
                decide (IntKind.wrap IntKind.i64 (Lib.lastIndexByte s (123 : Int) + (1 : Int)) ≤ IntKind.wrap IntKind.i64 ((↑(ByteArray.size s) : Int) - (1 : Int)))) then
          bif
              decide
                ((↑(ByteArray.size
                        (ByteArray.extract s (Int.toNat (IntKind.wrap IntKind.i64 (Lib.lastIndexByte s (123 : Int) + (1 : Int)))) (Int.toNat (IntKind.wrap IntKind.i64 ((↑(ByteArray.size s) : Int) - (1 : Int)))))) :
                    Int) <
                  (1 : Int)) then
            some (SV.tup [SV.int IntKind.i64 (-1 : Int), SV.str s])
          else
            bif
                decide
                  ((↑(ByteArray.size
                          (ByteArray.extract s (Int.toNat (IntKind.wrap IntKind.i64 (Lib.lastIndexByte s (123 : Int) + (1 : Int)))) (Int.toNat (IntKind.wrap IntKind.i64 ((↑(ByteArray.size s) : Int) - (1 : Int)))))) :
                      Int) >
                    (9 : Int)) then
              some (SV.tup [SV.int IntKind.i64 (-1 : Int), SV.str s])
            else
              f69_L9 fu fu s (Lib.lastIndexByte s (123 : Int))
                (ByteArray.extract s (Int.toNat (IntKind.wrap IntKind.i64 (Lib.lastIndexByte s (123 : Int) + (1 : Int)))) (Int.toNat (IntKind.wrap IntKind.i64 ((↑(ByteArray.size s) : Int) - (1 : Int))))) (0 : Int)
                (↑(ByteArray.size
                      (ByteArray.extract s (Int.toNat (IntKind.wrap IntKind.i64 (Lib.lastIndexByte s (123 : Int) + (1 : Int)))) (Int.toNat (IntKind.wrap IntKind.i64 ((↑(ByteArray.size s) : Int) - (1 : Int)))))) :
                  Int)
                (0 : Int)
        else none
    else none
  else none := by kernel_rfl

end Sx

/-
  Layer 29: TrimSuffix; the number that a line announces, in plain Lean.
-/
set_option linter.unusedVariables false
namespace Sx
open Go Go.Proofs
set_option maxRecDepth 100000
theorem s68_ok : SpecOk rE 68 (.plain gTrimS) := by
  refine plain_of_run (fx_ok lE1_ok [] f68_live) (fn := Try.f68) (by kernel_rfl) (by decide) (by rfl) (fun args sv h => ?_)
  unfold gTrimS at h
  split at h
  · rename_i s t
    simp only [Option.some.injEq, Prod.mk.injEq] at h
    obtain ⟨hs, rfl⟩ := h
    refine ⟨rfl, rfl, 0, ?_⟩
    show evFun f68_X 0 Try.f68 (frz f68_X.Ty Try.f68) [.str s, .str t] [] [] = _
    rw [f68_eq, hs]; rfl
  · cases h
/-- A number's digits, behind what is read already. -/
def numL : List UInt8 → Nat → Option Nat
  | [], n => some n
  | c :: r, n => if 48 ≤ c ∧ c ≤ 57 then numL r (10 * n + (c.toNat - 48)) else none
/-- What a line announces, and where that begins. -/
def annO (s : ByteArray) : Option (Nat × Nat) :=
  let i := Lib.lastIndexByte s 123
  let d := (s.extract (i.toNat + 1) (s.size - 1)).data.toList
  if 0 ≤ i ∧ sufB s ⟨#[125]⟩ = true ∧ 1 ≤ d.length ∧ d.length ≤ 9 then (numL d 0).map (·, i.toNat) else none
def annN (s : ByteArray) : Int := match annO s with | some (n, _) => n | none => -1
def annI (s : ByteArray) : Nat := match annO s with | some (_, i) => i | none => s.size
end Sx

/-
  Layer 29: the number that a line announces, as the program reads it.
-/
set_option linter.unusedVariables false
namespace Sx
open Go Go.Proofs
set_option maxRecDepth 100000
theorem L69_is (fu : Nat) (s : ByteArray) (i : Nat) (hi : i ≤ s.size) (d : ByteArray) (hd9 : d.size ≤ 9) : ∀ (k j m n : Nat), j + k = d.size → k < m → n < 10 ^ j →
    f69_L9 fu m s (i : Int) d (n : Int) (d.size : Int) (j : Int) = (match numL (d.data.toList.drop j) n with | some v => some (.tup [.int .i64 (v : Int), .str (s.extract 0 i)]) | none => some (.tup [.int .i64 (-1), .str s]))
  | 0, j, m, n, hj, hm, hn => by
    obtain ⟨m, rfl⟩ : ∃ m', m = m' + 1 := ⟨m - 1, by omega⟩
    have hd : d.data.toList.drop j = [] := List.drop_of_length_le (by simp; omega)
    have h1 : ¬ ((j : Int) < (d.size : Int)) := by omega
    have h2 : (0 : Int) ≤ (i : Int) := by omega
    have h3 : (i : Int) ≤ (s.size : Int) := by omega
    rw [f69_L9_eq, hd]
    simp only [h1, h2, h3, decide_true, decide_false, Bool.and_self, cond_true, cond_false, numL, Int.toNat_natCast]
  | k + 1, j, m, n, hj, hm, hn => by
    obtain ⟨m, rfl⟩ : ∃ m', m = m' + 1 := ⟨m - 1, by omega⟩
    obtain ⟨b, hb, hd, hat⟩ := drop_cons d j (by omega)
    have h1 : (j : Int) < (d.size : Int) := by omega
    have h2 : (0 : Int) ≤ (j : Int) := by omega
    have w1 : IntKind.wrap .i64 ((j : Int) + 1) = ((j + 1 : Nat) : Int) := by rw [wrap64 (by omega) (by omega)]; omega
    have hp : 10 ^ j ≤ 10 ^ 9 := Nat.pow_le_pow_right (by decide) (by omega)
    have hp9 : (10 : Nat) ^ 9 = 1000000000 := by decide
    rw [hp9] at hp
    rw [f69_L9_eq, hat, hd, w1]
    simp only [h1, h2, decide_true, Bool.and_self, cond_true, numL]
    by_cases c1 : (b.toNat : Int) < 48
    · have hr : ¬ (48 ≤ b ∧ b ≤ 57) := fun q => by have := UInt8.le_iff_toNat_le.1 q.1; simp at this; omega
      simp only [c1, decide_true, cond_true, hr, if_false]
    · by_cases c2 : (b.toNat : Int) > 57
      · have hr : ¬ (48 ≤ b ∧ b ≤ 57) := fun q => by have := UInt8.le_iff_toNat_le.1 q.2; simp at this; omega
        simp only [c1, c2, decide_true, decide_false, cond_true, cond_false, hr, if_false]
      · have hr : (48 ≤ b ∧ b ≤ 57) := ⟨UInt8.le_iff_toNat_le.2 (by simp; omega), UInt8.le_iff_toNat_le.2 (by simp; omega)⟩
        have v1 : IntKind.wrap .u8 ((b.toNat : Int) - 48) = ((b.toNat - 48 : Nat) : Int) := by rw [wrap8 (by omega) (by omega)]; omega
        have v2 : IntKind.wrap .i64 ((b.toNat - 48 : Nat) : Int) = ((b.toNat - 48 : Nat) : Int) := wrap64 (by omega) (by omega)
        have v3 : IntKind.wrap .i64 ((10 : Int) * (n : Int)) = ((10 * n : Nat) : Int) := by rw [wrap64 (by omega) (by omega)]; omega
        have v4 : IntKind.wrap .i64 (((10 * n : Nat) : Int) + ((b.toNat - 48 : Nat) : Int)) = ((10 * n + (b.toNat - 48) : Nat) : Int) := by rw [wrap64 (by omega) (by omega)]; omega
        simp only [c1, c2, decide_false, cond_false, hr, and_self, if_true, v1, v2, v3, v4]
        exact L69_is fu s i hi d hd9 k (j + 1) m _ (by omega) (by omega) (by rw [Nat.pow_succ]; omega)
end Sx

/-
  Layer 29: the number that a line announces: what the program's function comes to.
-/
set_option linter.unusedVariables false
namespace Sx
open Go Go.Proofs
set_option maxRecDepth 100000
theorem suf_one (s : ByteArray) (c : UInt8) (h : sufB s ⟨#[c]⟩ = true) : 0 < s.size ∧ s.data.toList[s.size - 1]? = some c := by
  simp only [sufB, Bool.and_eq_true, decide_eq_true_eq, beq_iff_eq, ByteArray.toList_eq] at h
  obtain ⟨h1, h2⟩ := h
  have h1 : 1 ≤ s.size := h1
  refine ⟨by omega, ?_⟩
  have e : (s.extract (s.size - 1) s.size).data.toList = s.data.toList.drop (s.size - 1) := by
    simp only [ByteArray.data_extract, Array.toList_extract, List.extract_eq_take_drop]
    exact List.take_of_length_le (by simp)
  have h3 : s.data.toList.drop (s.size - 1) = [c] := by
    have : (⟨#[c]⟩ : ByteArray).size = 1 := rfl
    rw [← e]; exact h2
  have := congrArg (·[0]?) h3
  simpa [List.getElem?_drop] using this
theorem annO_le {s : ByteArray} {n i : Nat} (h : annO s = some (n, i)) : i ≤ s.size := by
  unfold annO at h
  simp only at h
  split at h
  · rcases Lib.lastIndexByte_spec s 123 with ⟨e, _⟩ | ⟨k, hk, e, _⟩
    · omega
    · cases hn : numL (s.extract ((Lib.lastIndexByte s 123).toNat + 1) (s.size - 1)).data.toList 0 with
      | none => rw [hn] at h; cases h
      | some v => rw [hn] at h; simp at h; omega
  · cases h
theorem annI_le (s : ByteArray) : annI s ≤ s.size := by
  unfold annI
  cases h : annO s with
  | none => exact Nat.le_refl _
  | some r => exact annO_le (n := r.1) (i := r.2) h
def annS (s : ByteArray) : ByteArray := s.extract 0 (annI s)
theorem extract_all (s : ByteArray) : s.extract 0 s.size = s := by
  apply ByteArray.ext
  simp
def gAnn : List SV → Option (Bool × SV)
  | [.str s] => some (decide (s.size < 4294967281), .tup [.int .i64 (annN s), .str (annS s)])
  | _ => none
theorem ann_run (s : ByteArray) (hs : s.size < 4294967281) : evFun f69_X 20 Try.f69 (frz f69_X.Ty Try.f69) [.str s] [] [] = some (.tup [.int .i64 (annN s), .str (annS s)]) := by
  rw [f69_eq]
  have a1 : s.size < 4611686018427387904 := by omega
  simp only [a1, hs, decide_true, cond_true]
  have hno : annO s = none → some (SV.tup [.int .i64 (annN s), .str (annS s)]) = some (SV.tup [.int .i64 (-1), .str s]) := fun h => by
    simp only [annN, annS, annI, h, extract_all]
  by_cases c1 : Lib.lastIndexByte s 123 < 0
  · simp only [c1, decide_true, cond_true]
    refine (hno ?_).symm
    unfold annO; simp only; rw [if_neg (fun q => by omega)]
  · simp only [c1, decide_false, cond_false]
    cases hb : sufB s ⟨#[125]⟩ with
    | false =>
      refine (hno ?_).symm
      unfold annO; simp only; rw [if_neg (fun q => by rw [hb] at q; exact absurd q.2.1 (by decide))]
    | true =>
      obtain ⟨h0, hlast⟩ := suf_one s 125 hb
      rcases Lib.lastIndexByte_spec s 123 with ⟨e, _⟩ | ⟨i, hi, e, hc, _⟩
      · omega
      · have hne : i ≠ s.size - 1 := fun q => by
          subst q
          have h4 : s.data[s.size - 1]! = 125 := by
            have : s.size - 1 < s.data.size := hi
            rw [getElem!_pos s.data _ this]
            have := Array.getElem?_toList (xs := s.data) (i := s.size - 1)
            rw [hlast, Array.getElem?_eq_getElem] at this
            simpa using this.symm
          rw [h4] at hc
          exact absurd hc (by decide)
        rw [e]
        have w1 : IntKind.wrap .i64 ((i : Int) + 1) = ((i + 1 : Nat) : Int) := by rw [wrap64 (by omega) (by omega)]; omega
        have w2 : IntKind.wrap .i64 ((s.size : Int) - 1) = ((s.size - 1 : Nat) : Int) := by rw [wrap64 (by omega) (by omega)]; omega
        rw [w1, w2]
        simp only [Int.toNat_natCast]
        have b1 : (0 : Int) ≤ ((s.size - 1 : Nat) : Int) := by omega
        have b2 : ((s.size - 1 : Nat) : Int) ≤ (s.size : Int) := by omega
        have b3 : (0 : Int) ≤ ((i + 1 : Nat) : Int) := by omega
        have b4 : ((i + 1 : Nat) : Int) ≤ ((s.size - 1 : Nat) : Int) := by omega
        simp only [b1, b2, b3, b4, decide_true, Bool.and_self, cond_true]
        obtain ⟨d, hd⟩ : ∃ d, s.extract (i + 1) (s.size - 1) = d := ⟨_, rfl⟩
        simp only [hd, Bool.not_true, cond_false]
        have hO : annO s = if 1 ≤ d.size ∧ d.size ≤ 9 then (numL d.data.toList 0).map (·, i) else none := by
          unfold annO
          simp only [e, hb, Int.toNat_natCast, hd]
          have : d.data.toList.length = d.size := by simp
          rw [this]
          have h0 : (0 : Int) ≤ (i : Int) := by omega
          simp only [h0, true_and]
        by_cases c2 : (d.size : Int) < 1
        · simp only [c2, decide_true, cond_true]
          refine (hno ?_).symm
          rw [hO, if_neg (by omega)]
        · simp only [c2, decide_false, cond_false]
          by_cases c3 : (d.size : Int) > 9
          · simp only [c3, decide_true, cond_true]
            refine (hno ?_).symm
            rw [hO, if_neg (by omega)]
          · simp only [c3, decide_false, cond_false]
            have := L69_is 20 s i (by omega) d (by omega) d.size 0 20 0 (by omega) (by omega) (by simp)
            rw [show ((0 : Nat) : Int) = 0 from rfl, List.drop_zero] at this
            rw [this]
            rw [if_pos (by omega)] at hO
            cases hn : numL d.data.toList 0 with
            | none => rw [hn] at hO; exact (hno hO).symm
            | some v =>
              rw [hn] at hO
              have hO : annO s = some (v, i) := hO
              simp only [annN, annS, annI, hO]
theorem s69_ok : SpecOk rE 69 (.plain gAnn) := by
  refine plain_of_run (fx_ok lE1_ok [] f69_live) (fn := Try.f69) (by kernel_rfl) (by decide) (by rfl) (fun args sv h => ?_)
  unfold gAnn at h
  split at h
  · rename_i s
    simp only [Option.some.injEq, Prod.mk.injEq] at h
    obtain ⟨hs, rfl⟩ := h
    exact ⟨rfl, rfl, 20, ann_run s (of_decide_eq_true hs)⟩
  · cases h
end Sx

/-
  Layer 29: the table for the reader's functions.
-/
set_option linter.unusedVariables false
namespace Sx
open Go Go.Proofs
set_option maxRecDepth 100000
def gSomeP : List SV → Option (Bool × SV)
  | [.lst 77 l, .fn (.func 86) [] []] => some (decide (l.length < 4294967281), .bool (someP l))
  | _ => none
theorem s85_ok : SpecOk rE 85 (.look (lookOf (tyOf Try.prog) gSomeP)) := by
  refine look_of_run (fx_ok lD1_ok [] f85_live) (fn := Try.f85) (by kernel_rfl) (by decide) (by rfl) (fun args sv h => ?_)
  unfold gSomeP at h
  split at h
  · rename_i l
    simp only [Option.some.injEq, Prod.mk.injEq] at h
    obtain ⟨hs, rfl⟩ := h
    refine ⟨rfl, rfl, 0, ?_⟩
    show evFun f85_X 0 Try.f85 (frz f85_X.Ty Try.f85) [.lst 77 l, .fn (.func 86) [] []] [] [] = _
    rw [f85_eq]
    unfold f85_T
    rw [findE_some, hs]
    rfl
  · cases h
noncomputable def lF0 : List (Nat × Spec) := (83, .wide (wideOf (tyOf Try.prog) k83)) :: (84, .look (lookOf (tyOf Try.prog) gTagP)) :: (85, .look (lookOf (tyOf Try.prog) gSomeP)) :: (69, .plain gAnn) :: (68, .plain gTrimS) :: lA1
theorem lF0_ok : SpecsOk rE (ofList lF0) := .cons s83_ok (.cons s84_ok (.cons s85_ok (.cons s69_ok (.cons s68_ok lA1_ok))))
end Sx

/-
  What the executor says of functions: the normal forms, each compared by the kernel. (Printed by a program.)
-/
set_option linter.unusedVariables false
namespace Sx
open Go Go.Proofs
set_option maxRecDepth 100000
/-- The slots that are needed at the loops' heads of '(*hamper/line.Reader).literal'. -/
noncomputable def f48_live : Nat → List Nat × List (Nat × TypeId) := fun h => ([], [])
noncomputable def f48_X (sm : List Nat) : Fx := ⟨tyOf Try.prog, ofList rLib, sm, f48_live⟩
/-- The slots that are needed at the loops' heads of '(*hamper/line.Reader).end'. -/
noncomputable def f70_live : Nat → List Nat × List (Nat × TypeId) := fun h => ([], [])
noncomputable def f70_X (sm : List Nat) : Fx := ⟨tyOf Try.prog, ofList lF0, sm, f70_live⟩
def f48_T (p : List SV) (h : List SV) (o : Bool) (sz : Int) (n : Int) (w : Int) (c : Int) : Tr (SV × Mem) := Tr.br (decide ((List.length h + (1 : Nat)) * (1 : Nat) ≤ (140737488355328 : Nat)) && decide (List.length h + (1 : Nat) ≤ (9223372036854775807 : Nat)))
  (Tr.br (IntKind.wrap IntKind.i64 (w - (1 : Int)) == (0 : Int))
    (Tr.br (decide ((List.length p + (1 : Nat)) * (24 : Nat) ≤ (140737488355328 : Nat)) && decide (List.length p + (1 : Nat) ≤ (9223372036854775807 : Nat)))
      (Tr.leaf
        (SV.tup [],
          [((0 : Nat), SObj.box (73 : Nat) [SV.row (3 : Nat), SV.row (4 : Nat), SV.bool o, SV.int IntKind.i64 sz, SV.int IntKind.i64 n, SV.int IntKind.i64 (IntKind.wrap IntKind.i64 (w - (1 : Int)))]),
            ((3 : Nat), SObj.row (77 : Nat) (p ++ [SV.agg [SV.bool true, SV.str (strOf (h ++ [SV.int IntKind.u8 c]))]])), ((4 : Nat), SObj.row (5 : Nat) [])]))
      Tr.no)
    (Tr.leaf
      (SV.tup [],
        [((0 : Nat), SObj.box (73 : Nat) [SV.row (3 : Nat), SV.row (4 : Nat), SV.bool o, SV.int IntKind.i64 sz, SV.int IntKind.i64 n, SV.int IntKind.i64 (IntKind.wrap IntKind.i64 (w - (1 : Int)))]),
          ((3 : Nat), SObj.row (77 : Nat) p), ((4 : Nat), SObj.row (5 : Nat) (h ++ [SV.int IntKind.u8 c]))])))
  Tr.no
theorem f48_eq (fu : Nat) (p : List SV) (h : List SV) (o : Bool) (sz : Int) (n : Int) (w : Int) (c : Int) : evFun (f48_X [0]) fu Try.f48 (finW (tyOf Try.prog) [0] 3) [.box 0 0, .int .u8 c] [(0, .box 73 [.row 1, .row 2, .bool o, .int .i64 sz, .int .i64 n, .int .i64 w]), (1, .row 77 p), (2, .row 5 h)] [0, 1, 2] = (f48_T p h o sz n w c).opt := by kernel_rfl

noncomputable def f70_T (p : List SV) (h : List SV) (o : Bool) (sz : Int) (n : Int) (w : Int) (k : Int) : Tr (SV × Mem) := Tr.br (okP p)
  (Tr.br (toksB p)
    (Tr.br (okP p)
      (Tr.br (k == (0 : Int))
        (Tr.br (decide (List.length p < (4294967281 : Nat)))
          (Tr.br (!someP p)
            (Tr.leaf
              (SV.snil,
                [((0 : Nat), SObj.box (73 : Nat) [SV.row (3 : Nat), SV.row (4 : Nat), SV.bool false, SV.int IntKind.i64 (0 : Int), SV.int IntKind.i64 (0 : Int), SV.int IntKind.i64 (0 : Int)]),
                  ((3 : Nat), SObj.row (77 : Nat) []), ((4 : Nat), SObj.row (5 : Nat) [])]))
            (Tr.leaf
              (SV.row (3 : Nat),
                [((0 : Nat), SObj.box (73 : Nat) [SV.row (4 : Nat), SV.row (5 : Nat), SV.bool false, SV.int IntKind.i64 (0 : Int), SV.int IntKind.i64 (0 : Int), SV.int IntKind.i64 (0 : Int)]),
                  ((3 : Nat), SObj.row (82 : Nat) [SV.agg [SV.int IntKind.i64 k, SV.str (tagP p), SV.lst (88 : Nat) (toksL p)]]), ((4 : Nat), SObj.row (77 : Nat) []), ((5 : Nat), SObj.row (5 : Nat) [])])))
          Tr.no)
        (Tr.br (decide (List.length p < (4294967281 : Nat)))
          (Tr.br (!someP p)
            (Tr.leaf
              (SV.snil,
                [((0 : Nat), SObj.box (73 : Nat) [SV.row (3 : Nat), SV.row (4 : Nat), SV.bool false, SV.int IntKind.i64 (0 : Int), SV.int IntKind.i64 (0 : Int), SV.int IntKind.i64 (0 : Int)]),
                  ((3 : Nat), SObj.row (77 : Nat) []), ((4 : Nat), SObj.row (5 : Nat) [])]))
            (Tr.leaf
              (SV.row (3 : Nat),
                [((0 : Nat), SObj.box (73 : Nat) [SV.row (4 : Nat), SV.row (5 : Nat), SV.bool false, SV.int IntKind.i64 (0 : Int), SV.int IntKind.i64 (0 : Int), SV.int IntKind.i64 (0 : Int)]),
                  ((3 : Nat), SObj.row (82 : Nat) [SV.agg [SV.int IntKind.i64 k, SV.str (tagP p), SV.lst (88 : Nat) []]]), ((4 : Nat), SObj.row (77 : Nat) []), ((5 : Nat), SObj.row (5 : Nat) [])])))
          Tr.no))
      Tr.no)
    (Tr.br (okP p)
      (Tr.br (k == (0 : Int))
        (Tr.br (decide (List.length p < (4294967281 : Nat)))
          (Tr.br (!someP p)
            (Tr.leaf
              (SV.snil,
                [((0 : Nat), SObj.box (73 : Nat) [SV.row (3 : Nat), SV.row (4 : Nat), SV.bool false, SV.int IntKind.i64 (0 : Int), SV.int IntKind.i64 (0 : Int), SV.int IntKind.i64 (0 : Int)]),
                  ((3 : Nat), SObj.row (77 : Nat) []), ((4 : Nat), SObj.row (5 : Nat) [])]))
            (Tr.leaf
              (SV.row (3 : Nat),
                [((0 : Nat), SObj.box (73 : Nat) [SV.row (4 : Nat), SV.row (5 : Nat), SV.bool false, SV.int IntKind.i64 (0 : Int), SV.int IntKind.i64 (0 : Int), SV.int IntKind.i64 (0 : Int)]),
                  ((3 : Nat), SObj.row (82 : Nat) [SV.agg [SV.int IntKind.i64 (2 : Int), SV.str (tagP p), SV.lst (88 : Nat) []]]), ((4 : Nat), SObj.row (77 : Nat) []), ((5 : Nat), SObj.row (5 : Nat) [])])))
          Tr.no)
        (Tr.br (decide (List.length p < (4294967281 : Nat)))
          (Tr.br (!someP p)
            (Tr.leaf
              (SV.snil,
                [((0 : Nat), SObj.box (73 : Nat) [SV.row (3 : Nat), SV.row (4 : Nat), SV.bool false, SV.int IntKind.i64 (0 : Int), SV.int IntKind.i64 (0 : Int), SV.int IntKind.i64 (0 : Int)]),
                  ((3 : Nat), SObj.row (77 : Nat) []), ((4 : Nat), SObj.row (5 : Nat) [])]))
            (Tr.leaf
              (SV.row (3 : Nat),
                [((0 : Nat), SObj.box (73 : Nat) [SV.row (4 : Nat), SV.row (5 : Nat), SV.bool false, SV.int IntKind.i64 (0 : Int), SV.int IntKind.i64 (0 : Int), SV.int IntKind.i64 (0 : Int)]),
                  ((3 : Nat), SObj.row (82 : Nat) [SV.agg [SV.int IntKind.i64 k, SV.str (tagP p), SV.lst (88 : Nat) []]]), ((4 : Nat), SObj.row (77 : Nat) []), ((5 : Nat), SObj.row (5 : Nat) [])])))
          Tr.no))
      Tr.no))
  Tr.no
theorem f70_eq (fu : Nat) (p : List SV) (h : List SV) (o : Bool) (sz : Int) (n : Int) (w : Int) (k : Int) : evFun (f70_X [0]) fu Try.f70 (finW (tyOf Try.prog) [0] 3) [.box 0 0, .int .i64 k] [(0, .box 73 [.row 1, .row 2, .bool o, .int .i64 sz, .int .i64 n, .int .i64 w]), (1, .row 77 p), (2, .row 5 h)] [0, 1, 2] = (f70_T p h o sz n w k).opt := by kernel_rfl

def c48 : List SV → Mem → Tr (SV × Mem)
  | [.box 0 0, .int .u8 c], [(0, .box 73 [.row 1, .row 2, .bool o, .int .i64 sz, .int .i64 n, .int .i64 w]), (1, .row 77 p), (2, .row 5 h)] => squash (f48_T p h o sz n w c)
  | _, _ => .no
theorem f48_ok : SpecOk rE 48 (.wide (wideOf (tyOf Try.prog) c48)) :=
  wide_of_sq rE_ok (fun sm => ⟨fx_ok rLib_ok sm f48_live, rfl⟩) (fn := Try.f48) (by kernel_rfl) (by decide) (by rfl) (fun args m => by
    unfold c48
    split
    · exact .inr ⟨0, _, rfl, f48_eq 0 _ _ _ _ _ _ _⟩
    · exact .inl rfl)

noncomputable def c70 : List SV → Mem → Tr (SV × Mem)
  | [.box 0 0, .int .i64 k], [(0, .box 73 [.row 1, .row 2, .bool o, .int .i64 sz, .int .i64 n, .int .i64 w]), (1, .row 77 p), (2, .row 5 h)] => squash (f70_T p h o sz n w k)
  | _, _ => .no
theorem f70_ok : SpecOk rE 70 (.wide (wideOf (tyOf Try.prog) c70)) :=
  wide_of_sq rE_ok (fun sm => ⟨fx_ok lF0_ok sm f70_live, rfl⟩) (fn := Try.f70) (by kernel_rfl) (by decide) (by rfl) (fun args m => by
    unfold c70
    split
    · exact .inr ⟨0, _, rfl, f70_eq 0 _ _ _ _ _ _ _⟩
    · exact .inl rfl)

end Sx

/-
  Layer 29: the reader's end and literal, as specifications.
-/
set_option linter.unusedVariables false
namespace Sx
open Go Go.Proofs
set_option maxRecDepth 100000
noncomputable def inpOf (p : List SV) (k : Int) : SV := .agg [.int .i64 (bif (k == 0) && !toksB p then 2 else k), .str (tagP p), .lst 88 (bif k == 0 then toksL p else [])]
noncomputable def k70 : List SV → Mem → Tr (SV × Mem)
  | [.box 0 0, .int .i64 k], [(0, .box 73 [.row 1, .row 2, .bool o, .int .i64 sz, .int .i64 n, .int .i64 w]), (1, .row 77 p), (2, .row 5 h)] =>
    .br (okP p) (.br (someP p) (.leaf (.row 3, [(0, .box 73 [.row 4, .row 5, .bool false, .int .i64 0, .int .i64 0, .int .i64 0]), (3, .row 82 [inpOf p k]), (4, .row 77 []), (5, .row 5 [])]))
      (.leaf (.snil, [(0, .box 73 [.row 3, .row 4, .bool false, .int .i64 0, .int .i64 0, .int .i64 0]), (3, .row 77 []), (4, .row 5 [])]))) .no
  | _, _ => .no
theorem toksL_none {p : List SV} (h : toksB p = false) : toksL p = [] := by
  unfold toksB at h
  unfold toksL
  cases ht : toksP p with
  | none => rfl
  | some v => rw [ht] at h; cases h
theorem s70_ok : SpecOk rE 70 (.wide (wideOf (tyOf Try.prog) k70)) := by
  refine wide_of_run rE_ok (fun sm => ⟨fx_ok lF0_ok sm f70_live, rfl⟩) (fn := Try.f70) (by kernel_rfl) (by decide) (by rfl) (fun args m x h => ?_)
  unfold k70 at h
  split at h
  · rename_i k o sz n w p hh
    simp only [pickA, cond_eq_ite] at h
    split at h
    · rename_i hc
      have hl := sumP_len p
      have hp : sumP p < 4294967281 := of_decide_eq_true hc
      have hlen : decide (p.length < 4294967281) = true := decide_eq_true (by omega)
      refine ⟨0, ?_⟩
      show evFun (f70_X [0]) 0 Try.f70 (finW (tyOf Try.prog) [0] 3) [.box 0 0, .int .i64 k] [(0, .box 73 [.row 1, .row 2, .bool o, .int .i64 sz, .int .i64 n, .int .i64 w]), (1, .row 77 p), (2, .row 5 hh)] [0, 1, 2] = _
      rw [f70_eq]
      unfold f70_T
      simp only [Tr.opt, hc, hlen, cond_true]
      unfold inpOf at h
      cases hs : someP p with
      | false =>
        rw [hs] at h
        simp at h
        subst h
        cases toksB p <;> cases k == (0 : Int) <;> rfl
      | true =>
        rw [hs] at h
        simp at h
        subst h
        cases ht : toksB p with
        | true => cases hk : k == (0 : Int) <;> simp [hk]
        | false =>
          cases hk : k == (0 : Int) with
          | true => simp [hk, toksL_none ht]
          | false => simp [hk]
    · cases h
  · cases h
noncomputable def k48 : List SV → Mem → Tr (SV × Mem)
  | [.box 0 0, .int .u8 c], [(0, .box 73 [.row 1, .row 2, .bool o, .int .i64 sz, .int .i64 n, .int .i64 w]), (1, .row 77 p), (2, .row 5 h)] =>
    .br (decide (h.length < 4294967281) && decide (p.length < 4294967281) && decide (1 ≤ w ∧ w < 4294967281)) (.br (w == 1) (.leaf (.tup [], [(0, .box 73 [.row 3, .row 4, .bool o, .int .i64 sz, .int .i64 n, .int .i64 0]), (3, .row 77 (p ++ [.agg [.bool true, .str (strOf (h ++ [.int .u8 c]))]])), (4, .row 5 [])]))
      (.leaf (.tup [], [(0, .box 73 [.row 3, .row 4, .bool o, .int .i64 sz, .int .i64 n, .int .i64 (w - 1)]), (3, .row 77 p), (4, .row 5 (h ++ [.int .u8 c]))]))) .no
  | _, _ => .no
theorem s48_ok : SpecOk rE 48 (.wide (wideOf (tyOf Try.prog) k48)) := by
  refine wide_of_run rE_ok (fun sm => ⟨fx_ok rLib_ok sm f48_live, rfl⟩) (fn := Try.f48) (by kernel_rfl) (by decide) (by rfl) (fun args m x h => ?_)
  unfold k48 at h
  split at h
  · rename_i c o sz n w p hh
    simp only [pickA, cond_eq_ite, Bool.and_eq_true, decide_eq_true_eq] at h
    split at h
    · rename_i hc
      obtain ⟨⟨h1, h2⟩, h3, h4⟩ := hc
      refine ⟨0, ?_⟩
      show evFun (f48_X [0]) 0 Try.f48 (finW (tyOf Try.prog) [0] 3) [.box 0 0, .int .u8 c] [(0, .box 73 [.row 1, .row 2, .bool o, .int .i64 sz, .int .i64 n, .int .i64 w]), (1, .row 77 p), (2, .row 5 hh)] [0, 1, 2] = _
      rw [f48_eq]
      unfold f48_T
      have w1 : IntKind.wrap .i64 (w - 1) = w - 1 := wrap64 (by omega) (by omega)
      have a1 : (hh.length + 1) * 1 ≤ 140737488355328 := by omega
      have a2 : hh.length + 1 ≤ 9223372036854775807 := by omega
      have a3 : (p.length + 1) * 24 ≤ 140737488355328 := by omega
      have a4 : p.length + 1 ≤ 9223372036854775807 := by omega
      simp only [Tr.opt, w1, a1, a2, a3, a4, decide_true, Bool.and_self, cond_true]
      by_cases q : w = 1
      · subst q
        simp at h
        subst h
        rfl
      · have e1 : (w == 1) = false := by simpa using q
        have e2 : (w - 1 == 0) = false := by rw [beq_eq_false_iff_ne]; omega
        rw [e1] at h
        simp at h
        subst h
        rw [e2]; rfl
    · cases h
  · cases h
noncomputable def lF1 : List (Nat × Spec) := (70, .wide (wideOf (tyOf Try.prog) k70)) :: (48, .wide (wideOf (tyOf Try.prog) k48)) :: lF0
theorem lF1_ok : SpecsOk rE (ofList lF1) := .cons s70_ok (.cons s48_ok lF0_ok)
end Sx

/-
  What the executor says of functions: the normal forms, each compared by the kernel. (Printed by a program.)
-/
set_option linter.unusedVariables false
namespace Sx
open Go Go.Proofs
set_option maxRecDepth 100000
/-- The slots that are needed at the loops' heads of '(*hamper/line.Reader).line'. -/
noncomputable def f49_live : Nat → List Nat × List (Nat × TypeId) := fun h => ([], [])
noncomputable def f49_X (sm : List Nat) : Fx := ⟨tyOf Try.prog, ofList lF1, sm, f49_live⟩
noncomputable def f49_T (p : List SV) (h : List SV) (o : Bool) (sz : Int) (n : Int) (w : Int) : Tr (SV × Mem) := Tr.br (!o)
  (Tr.br (decide (ByteArray.size (strOf h) < (4294967281 : Nat)))
    (Tr.br (decide (ByteArray.size (trimB (strOf h) (ByteArray.mk #[(13 : UInt8)])) < (4294967281 : Nat)))
      (Tr.br o
        (Tr.br (decide ((List.length p + (1 : Nat)) * (24 : Nat) ≤ (140737488355328 : Nat)) && decide (List.length p + (1 : Nat) ≤ (9223372036854775807 : Nat)))
          (Tr.br (okP (p ++ [SV.agg [SV.bool false, SV.str (trimB (strOf h) (ByteArray.mk #[(13 : UInt8)]))]]))
            (Tr.br (someP (p ++ [SV.agg [SV.bool false, SV.str (trimB (strOf h) (ByteArray.mk #[(13 : UInt8)]))]]))
              (Tr.leaf
                (SV.row (3 : Nat),
                  [((0 : Nat), SObj.box (73 : Nat) [SV.row (4 : Nat), SV.row (5 : Nat), SV.bool false, SV.int IntKind.i64 (0 : Int), SV.int IntKind.i64 (0 : Int), SV.int IntKind.i64 (0 : Int)]),
                    ((3 : Nat), SObj.row (82 : Nat) [SV.agg [SV.int IntKind.i64 (3 : Int), SV.str (tagP (p ++ [SV.agg [SV.bool false, SV.str (trimB (strOf h) (ByteArray.mk #[(13 : UInt8)]))]])), SV.lst (88 : Nat) []]]),
                    ((4 : Nat), SObj.row (77 : Nat) []), ((5 : Nat), SObj.row (5 : Nat) [])]))
              (Tr.leaf
                (SV.snil,
                  [((0 : Nat), SObj.box (73 : Nat) [SV.row (3 : Nat), SV.row (4 : Nat), SV.bool false, SV.int IntKind.i64 (0 : Int), SV.int IntKind.i64 (0 : Int), SV.int IntKind.i64 (0 : Int)]),
                    ((3 : Nat), SObj.row (77 : Nat) []), ((4 : Nat), SObj.row (5 : Nat) [])])))
            Tr.no)
          Tr.no)
        (Tr.br (decide (IntKind.wrap IntKind.i64 (sz + (↑(ByteArray.size (trimB (strOf h) (ByteArray.mk #[(13 : UInt8)]))) : Int)) > (600 : Int)))
          (Tr.br (decide ((List.length p + (1 : Nat)) * (24 : Nat) ≤ (140737488355328 : Nat)) && decide (List.length p + (1 : Nat) ≤ (9223372036854775807 : Nat)))
            (Tr.br (okP (p ++ [SV.agg [SV.bool false, SV.str (trimB (strOf h) (ByteArray.mk #[(13 : UInt8)]))]]))
              (Tr.br (someP (p ++ [SV.agg [SV.bool false, SV.str (trimB (strOf h) (ByteArray.mk #[(13 : UInt8)]))]]))
                (Tr.leaf
                  (SV.row (3 : Nat),
                    [((0 : Nat), SObj.box (73 : Nat) [SV.row (4 : Nat), SV.row (5 : Nat), SV.bool false, SV.int IntKind.i64 (0 : Int), SV.int IntKind.i64 (0 : Int), SV.int IntKind.i64 (0 : Int)]),
                      ((3 : Nat),
                        SObj.row (82 : Nat) [SV.agg [SV.int IntKind.i64 (3 : Int), SV.str (tagP (p ++ [SV.agg [SV.bool false, SV.str (trimB (strOf h) (ByteArray.mk #[(13 : UInt8)]))]])), SV.lst (88 : Nat) []]]),
                      ((4 : Nat), SObj.row (77 : Nat) []), ((5 : Nat), SObj.row (5 : Nat) [])]))
                (Tr.leaf
                  (SV.snil,
                    [((0 : Nat), SObj.box (73 : Nat) [SV.row (3 : Nat), SV.row (4 : Nat), SV.bool false, SV.int IntKind.i64 (0 : Int), SV.int IntKind.i64 (0 : Int), SV.int IntKind.i64 (0 : Int)]),
                      ((3 : Nat), SObj.row (77 : Nat) []), ((4 : Nat), SObj.row (5 : Nat) [])])))
              Tr.no)
            Tr.no)
          (Tr.br (decide ((List.length p + (1 : Nat)) * (24 : Nat) ≤ (140737488355328 : Nat)) && decide (List.length p + (1 : Nat) ≤ (9223372036854775807 : Nat)))
            (Tr.br (decide (annN (trimB (strOf h) (ByteArray.mk #[(13 : UInt8)])) < (0 : Int)))
              (Tr.br (okP (p ++ [SV.agg [SV.bool false, SV.str (annS (trimB (strOf h) (ByteArray.mk #[(13 : UInt8)])))]]))
                (Tr.br (someP (p ++ [SV.agg [SV.bool false, SV.str (annS (trimB (strOf h) (ByteArray.mk #[(13 : UInt8)])))]]))
                  (Tr.leaf
                    (SV.row (3 : Nat),
                      [((0 : Nat), SObj.box (73 : Nat) [SV.row (4 : Nat), SV.row (5 : Nat), SV.bool false, SV.int IntKind.i64 (0 : Int), SV.int IntKind.i64 (0 : Int), SV.int IntKind.i64 (0 : Int)]),
                        ((3 : Nat),
                          SObj.row (82 : Nat)
                            [SV.agg
                                [SV.int IntKind.i64 (bif !toksB (p ++ [SV.agg [SV.bool false, SV.str (annS (trimB (strOf h) (ByteArray.mk #[(13 : UInt8)])))]]) then (2 : Int) else (0 : Int)),
                                  SV.str (tagP (p ++ [SV.agg [SV.bool false, SV.str (annS (trimB (strOf h) (ByteArray.mk #[(13 : UInt8)])))]])),
                                  SV.lst (88 : Nat) (toksL (p ++ [SV.agg [SV.bool false, SV.str (annS (trimB (strOf h) (ByteArray.mk #[(13 : UInt8)])))]]))]]),
                        ((4 : Nat), SObj.row (77 : Nat) []), ((5 : Nat), SObj.row (5 : Nat) [])]))
                  (Tr.leaf
                    (SV.snil,
                      [((0 : Nat), SObj.box (73 : Nat) [SV.row (3 : Nat), SV.row (4 : Nat), SV.bool false, SV.int IntKind.i64 (0 : Int), SV.int IntKind.i64 (0 : Int), SV.int IntKind.i64 (0 : Int)]),
                        ((3 : Nat), SObj.row (77 : Nat) []), ((4 : Nat), SObj.row (5 : Nat) [])])))
                Tr.no)
              (Tr.br (decide (annN (trimB (strOf h) (ByteArray.mk #[(13 : UInt8)])) > (4000 : Int)))
                (Tr.br (okP (p ++ [SV.agg [SV.bool false, SV.str (annS (trimB (strOf h) (ByteArray.mk #[(13 : UInt8)])))]]))
                  (Tr.br (someP (p ++ [SV.agg [SV.bool false, SV.str (annS (trimB (strOf h) (ByteArray.mk #[(13 : UInt8)])))]]))
                    (Tr.leaf
                      (SV.row (3 : Nat),
                        [((0 : Nat), SObj.box (73 : Nat) [SV.row (4 : Nat), SV.row (5 : Nat), SV.bool false, SV.int IntKind.i64 (0 : Int), SV.int IntKind.i64 (0 : Int), SV.int IntKind.i64 (0 : Int)]),
                          ((3 : Nat),
                            SObj.row (82 : Nat)
                              [SV.agg [SV.int IntKind.i64 (3 : Int), SV.str (tagP (p ++ [SV.agg [SV.bool false, SV.str (annS (trimB (strOf h) (ByteArray.mk #[(13 : UInt8)])))]])), SV.lst (88 : Nat) []]]),
                          ((4 : Nat), SObj.row (77 : Nat) []), ((5 : Nat), SObj.row (5 : Nat) [])]))
                    (Tr.leaf
                      (SV.snil,
                        [((0 : Nat), SObj.box (73 : Nat) [SV.row (3 : Nat), SV.row (4 : Nat), SV.bool false, SV.int IntKind.i64 (0 : Int), SV.int IntKind.i64 (0 : Int), SV.int IntKind.i64 (0 : Int)]),
                          ((3 : Nat), SObj.row (77 : Nat) []), ((4 : Nat), SObj.row (5 : Nat) [])])))
                  Tr.no)
                (Tr.br (n == (4 : Int))
                  (Tr.br (okP (p ++ [SV.agg [SV.bool false, SV.str (annS (trimB (strOf h) (ByteArray.mk #[(13 : UInt8)])))]]))
                    (Tr.br (someP (p ++ [SV.agg [SV.bool false, SV.str (annS (trimB (strOf h) (ByteArray.mk #[(13 : UInt8)])))]]))
                      (Tr.leaf
                        (SV.row (3 : Nat),
                          [((0 : Nat), SObj.box (73 : Nat) [SV.row (4 : Nat), SV.row (5 : Nat), SV.bool false, SV.int IntKind.i64 (0 : Int), SV.int IntKind.i64 (0 : Int), SV.int IntKind.i64 (0 : Int)]),
                            ((3 : Nat),
                              SObj.row (82 : Nat)
                                [SV.agg [SV.int IntKind.i64 (3 : Int), SV.str (tagP (p ++ [SV.agg [SV.bool false, SV.str (annS (trimB (strOf h) (ByteArray.mk #[(13 : UInt8)])))]])), SV.lst (88 : Nat) []]]),
                            ((4 : Nat), SObj.row (77 : Nat) []), ((5 : Nat), SObj.row (5 : Nat) [])]))
                      (Tr.leaf
                        (SV.snil,
                          [((0 : Nat), SObj.box (73 : Nat) [SV.row (3 : Nat), SV.row (4 : Nat), SV.bool false, SV.int IntKind.i64 (0 : Int), SV.int IntKind.i64 (0 : Int), SV.int IntKind.i64 (0 : Int)]),
                            ((3 : Nat), SObj.row (77 : Nat) []), ((4 : Nat), SObj.row (5 : Nat) [])])))
                    Tr.no)
                  (Tr.br (annN (trimB (strOf h) (ByteArray.mk #[(13 : UInt8)])) == (0 : Int))
                    (Tr.br
                      (decide ((List.length (p ++ [SV.agg [SV.bool false, SV.str (annS (trimB (strOf h) (ByteArray.mk #[(13 : UInt8)])))]]) + (1 : Nat)) * (24 : Nat) ≤ (140737488355328 : Nat)) &&
                        decide (List.length (p ++ [SV.agg [SV.bool false, SV.str (annS (trimB (strOf h) (ByteArray.mk #[(13 : UInt8)])))]]) + (1 : Nat) ≤ (9223372036854775807 : Nat)))
                      (Tr.leaf
                        (SV.row (3 : Nat),
                          [((0 : Nat),
                              SObj.box (73 : Nat)
                                [SV.row (4 : Nat), SV.row (5 : Nat), SV.bool false, SV.int IntKind.i64 (IntKind.wrap IntKind.i64 (sz + (↑(ByteArray.size (trimB (strOf h) (ByteArray.mk #[(13 : UInt8)]))) : Int))),
                                  SV.int IntKind.i64 (IntKind.wrap IntKind.i64 (n + (1 : Int))), SV.int IntKind.i64 (annN (trimB (strOf h) (ByteArray.mk #[(13 : UInt8)])))]),
                            ((3 : Nat), SObj.row (82 : Nat) [SV.agg [SV.int IntKind.i64 (1 : Int), SV.str (ByteArray.mk #[]), SV.lst (88 : Nat) []]]),
                            ((4 : Nat), SObj.row (77 : Nat) (p ++ [SV.agg [SV.bool false, SV.str (annS (trimB (strOf h) (ByteArray.mk #[(13 : UInt8)])))]] ++ [SV.agg [SV.bool true, SV.str (ByteArray.mk #[])]])),
                            ((5 : Nat), SObj.row (5 : Nat) [])]))
                      Tr.no)
                    (Tr.leaf
                      (SV.row (3 : Nat),
                        [((0 : Nat),
                            SObj.box (73 : Nat)
                              [SV.row (4 : Nat), SV.row (5 : Nat), SV.bool false, SV.int IntKind.i64 (IntKind.wrap IntKind.i64 (sz + (↑(ByteArray.size (trimB (strOf h) (ByteArray.mk #[(13 : UInt8)]))) : Int))),
                                SV.int IntKind.i64 (IntKind.wrap IntKind.i64 (n + (1 : Int))), SV.int IntKind.i64 (annN (trimB (strOf h) (ByteArray.mk #[(13 : UInt8)])))]),
                          ((3 : Nat), SObj.row (82 : Nat) [SV.agg [SV.int IntKind.i64 (1 : Int), SV.str (ByteArray.mk #[]), SV.lst (88 : Nat) []]]),
                          ((4 : Nat), SObj.row (77 : Nat) (p ++ [SV.agg [SV.bool false, SV.str (annS (trimB (strOf h) (ByteArray.mk #[(13 : UInt8)])))]])), ((5 : Nat), SObj.row (5 : Nat) [])]))))))
            Tr.no)))
      Tr.no)
    Tr.no)
  (Tr.br (decide (ByteArray.size (strOf h) < (4294967281 : Nat)))
    (Tr.br o
      (Tr.br (decide ((List.length p + (1 : Nat)) * (24 : Nat) ≤ (140737488355328 : Nat)) && decide (List.length p + (1 : Nat) ≤ (9223372036854775807 : Nat)))
        (Tr.br (okP (p ++ [SV.agg [SV.bool false, SV.str (strOf h)]]))
          (Tr.br (someP (p ++ [SV.agg [SV.bool false, SV.str (strOf h)]]))
            (Tr.leaf
              (SV.row (3 : Nat),
                [((0 : Nat), SObj.box (73 : Nat) [SV.row (4 : Nat), SV.row (5 : Nat), SV.bool false, SV.int IntKind.i64 (0 : Int), SV.int IntKind.i64 (0 : Int), SV.int IntKind.i64 (0 : Int)]),
                  ((3 : Nat), SObj.row (82 : Nat) [SV.agg [SV.int IntKind.i64 (3 : Int), SV.str (tagP (p ++ [SV.agg [SV.bool false, SV.str (strOf h)]])), SV.lst (88 : Nat) []]]), ((4 : Nat), SObj.row (77 : Nat) []),
                  ((5 : Nat), SObj.row (5 : Nat) [])]))
            (Tr.leaf
              (SV.snil,
                [((0 : Nat), SObj.box (73 : Nat) [SV.row (3 : Nat), SV.row (4 : Nat), SV.bool false, SV.int IntKind.i64 (0 : Int), SV.int IntKind.i64 (0 : Int), SV.int IntKind.i64 (0 : Int)]),
                  ((3 : Nat), SObj.row (77 : Nat) []), ((4 : Nat), SObj.row (5 : Nat) [])])))
          Tr.no)
        Tr.no)
      (Tr.br (decide (IntKind.wrap IntKind.i64 (sz + (↑(ByteArray.size (strOf h)) : Int)) > (600 : Int)))
        (Tr.br (decide ((List.length p + (1 : Nat)) * (24 : Nat) ≤ (140737488355328 : Nat)) && decide (List.length p + (1 : Nat) ≤ (9223372036854775807 : Nat)))
          (Tr.br (okP (p ++ [SV.agg [SV.bool false, SV.str (strOf h)]]))
            (Tr.br (someP (p ++ [SV.agg [SV.bool false, SV.str (strOf h)]]))
              (Tr.leaf
                (SV.row (3 : Nat),
                  [((0 : Nat), SObj.box (73 : Nat) [SV.row (4 : Nat), SV.row (5 : Nat), SV.bool false, SV.int IntKind.i64 (0 : Int), SV.int IntKind.i64 (0 : Int), SV.int IntKind.i64 (0 : Int)]),
                    ((3 : Nat), SObj.row (82 : Nat) [SV.agg [SV.int IntKind.i64 (3 : Int), SV.str (tagP (p ++ [SV.agg [SV.bool false, SV.str (strOf h)]])), SV.lst (88 : Nat) []]]), ((4 : Nat), SObj.row (77 : Nat) []),
                    ((5 : Nat), SObj.row (5 : Nat) [])]))
              (Tr.leaf
                (SV.snil,
                  [((0 : Nat), SObj.box (73 : Nat) [SV.row (3 : Nat), SV.row (4 : Nat), SV.bool false, SV.int IntKind.i64 (0 : Int), SV.int IntKind.i64 (0 : Int), SV.int IntKind.i64 (0 : Int)]),
                    ((3 : Nat), SObj.row (77 : Nat) []), ((4 : Nat), SObj.row (5 : Nat) [])])))
            Tr.no)
          Tr.no)
        (Tr.br (decide ((List.length p + (1 : Nat)) * (24 : Nat) ≤ (140737488355328 : Nat)) && decide (List.length p + (1 : Nat) ≤ (9223372036854775807 : Nat)))
          (Tr.br (decide (annN (strOf h) < (0 : Int)))
            (Tr.br (okP (p ++ [SV.agg [SV.bool false, SV.str (annS (strOf h))]]))
              (Tr.br (someP (p ++ [SV.agg [SV.bool false, SV.str (annS (strOf h))]]))
                (Tr.leaf
                  (SV.row (3 : Nat),
                    [((0 : Nat), SObj.box (73 : Nat) [SV.row (4 : Nat), SV.row (5 : Nat), SV.bool false, SV.int IntKind.i64 (0 : Int), SV.int IntKind.i64 (0 : Int), SV.int IntKind.i64 (0 : Int)]),
                      ((3 : Nat),
                        SObj.row (82 : Nat)
                          [SV.agg
                              [SV.int IntKind.i64 (bif !toksB (p ++ [SV.agg [SV.bool false, SV.str (annS (strOf h))]]) then (2 : Int) else (0 : Int)),
                                SV.str (tagP (p ++ [SV.agg [SV.bool false, SV.str (annS (strOf h))]])), SV.lst (88 : Nat) (toksL (p ++ [SV.agg [SV.bool false, SV.str (annS (strOf h))]]))]]),
                      ((4 : Nat), SObj.row (77 : Nat) []), ((5 : Nat), SObj.row (5 : Nat) [])]))
                (Tr.leaf
                  (SV.snil,
                    [((0 : Nat), SObj.box (73 : Nat) [SV.row (3 : Nat), SV.row (4 : Nat), SV.bool false, SV.int IntKind.i64 (0 : Int), SV.int IntKind.i64 (0 : Int), SV.int IntKind.i64 (0 : Int)]),
                      ((3 : Nat), SObj.row (77 : Nat) []), ((4 : Nat), SObj.row (5 : Nat) [])])))
              Tr.no)
            (Tr.br (decide (annN (strOf h) > (4000 : Int)))
              (Tr.br (okP (p ++ [SV.agg [SV.bool false, SV.str (annS (strOf h))]]))
                (Tr.br (someP (p ++ [SV.agg [SV.bool false, SV.str (annS (strOf h))]]))
                  (Tr.leaf
                    (SV.row (3 : Nat),
                      [((0 : Nat), SObj.box (73 : Nat) [SV.row (4 : Nat), SV.row (5 : Nat), SV.bool false, SV.int IntKind.i64 (0 : Int), SV.int IntKind.i64 (0 : Int), SV.int IntKind.i64 (0 : Int)]),
                        ((3 : Nat), SObj.row (82 : Nat) [SV.agg [SV.int IntKind.i64 (3 : Int), SV.str (tagP (p ++ [SV.agg [SV.bool false, SV.str (annS (strOf h))]])), SV.lst (88 : Nat) []]]),
                        ((4 : Nat), SObj.row (77 : Nat) []), ((5 : Nat), SObj.row (5 : Nat) [])]))
                  (Tr.leaf
                    (SV.snil,
                      [((0 : Nat), SObj.box (73 : Nat) [SV.row (3 : Nat), SV.row (4 : Nat), SV.bool false, SV.int IntKind.i64 (0 : Int), SV.int IntKind.i64 (0 : Int), SV.int IntKind.i64 (0 : Int)]),
                        ((3 : Nat), SObj.row (77 : Nat) []), ((4 : Nat), SObj.row (5 : Nat) [])])))
                Tr.no)
              (Tr.br (n == (4 : Int))
                (Tr.br (okP (p ++ [SV.agg [SV.bool false, SV.str (annS (strOf h))]]))
                  (Tr.br (someP (p ++ [SV.agg [SV.bool false, SV.str (annS (strOf h))]]))
                    (Tr.leaf
                      (SV.row (3 : Nat),
                        [((0 : Nat), SObj.box (73 : Nat) [SV.row (4 : Nat), SV.row (5 : Nat), SV.bool false, SV.int IntKind.i64 (0 : Int), SV.int IntKind.i64 (0 : Int), SV.int IntKind.i64 (0 : Int)]),
                          ((3 : Nat), SObj.row (82 : Nat) [SV.agg [SV.int IntKind.i64 (3 : Int), SV.str (tagP (p ++ [SV.agg [SV.bool false, SV.str (annS (strOf h))]])), SV.lst (88 : Nat) []]]),
                          ((4 : Nat), SObj.row (77 : Nat) []), ((5 : Nat), SObj.row (5 : Nat) [])]))
                    (Tr.leaf
                      (SV.snil,
                        [((0 : Nat), SObj.box (73 : Nat) [SV.row (3 : Nat), SV.row (4 : Nat), SV.bool false, SV.int IntKind.i64 (0 : Int), SV.int IntKind.i64 (0 : Int), SV.int IntKind.i64 (0 : Int)]),
                          ((3 : Nat), SObj.row (77 : Nat) []), ((4 : Nat), SObj.row (5 : Nat) [])])))
                  Tr.no)
                (Tr.br (annN (strOf h) == (0 : Int))
                  (Tr.br
                    (decide ((List.length (p ++ [SV.agg [SV.bool false, SV.str (annS (strOf h))]]) + (1 : Nat)) * (24 : Nat) ≤ (140737488355328 : Nat)) &&
                      decide (List.length (p ++ [SV.agg [SV.bool false, SV.str (annS (strOf h))]]) + (1 : Nat) ≤ (9223372036854775807 : Nat)))
                    (Tr.leaf
                      (SV.row (3 : Nat),
                        [((0 : Nat),
                            SObj.box (73 : Nat)
                              [SV.row (4 : Nat), SV.row (5 : Nat), SV.bool false, SV.int IntKind.i64 (IntKind.wrap IntKind.i64 (sz + (↑(ByteArray.size (strOf h)) : Int))),
                                SV.int IntKind.i64 (IntKind.wrap IntKind.i64 (n + (1 : Int))), SV.int IntKind.i64 (annN (strOf h))]),
                          ((3 : Nat), SObj.row (82 : Nat) [SV.agg [SV.int IntKind.i64 (1 : Int), SV.str (ByteArray.mk #[]), SV.lst (88 : Nat) []]]),
                          ((4 : Nat), SObj.row (77 : Nat) (p ++ [SV.agg [SV.bool false, SV.str (annS (strOf h))]] ++ [SV.agg [SV.bool true, SV.str (ByteArray.mk #[])]])), ((5 : Nat), SObj.row (5 : Nat) [])]))
                    Tr.no)
                  (Tr.leaf
                    (SV.row (3 : Nat),
                      [((0 : Nat),
                          SObj.box (73 : Nat)
                            [SV.row (4 : Nat), SV.row (5 : Nat), SV.bool false, SV.int IntKind.i64 (IntKind.wrap IntKind.i64 (sz + (↑(ByteArray.size (strOf h)) : Int))),
                              SV.int IntKind.i64 (IntKind.wrap IntKind.i64 (n + (1 : Int))), SV.int IntKind.i64 (annN (strOf h))]),
                        ((3 : Nat), SObj.row (82 : Nat) [SV.agg [SV.int IntKind.i64 (1 : Int), SV.str (ByteArray.mk #[]), SV.lst (88 : Nat) []]]),
                        ((4 : Nat), SObj.row (77 : Nat) (p ++ [SV.agg [SV.bool false, SV.str (annS (strOf h))]])), ((5 : Nat), SObj.row (5 : Nat) [])]))))))
          Tr.no)))
    Tr.no)
theorem f49_eq (fu : Nat) (p : List SV) (h : List SV) (o : Bool) (sz : Int) (n : Int) (w : Int) : evFun (f49_X [0]) fu Try.f49 (finW (tyOf Try.prog) [0] 3) [.box 0 0] [(0, .box 73 [.row 1, .row 2, .bool o, .int .i64 sz, .int .i64 n, .int .i64 w]), (1, .row 77 p), (2, .row 5 h)] [0, 1, 2] = (f49_T p h o sz n w).opt := by kernel_rfl

noncomputable def c49 : List SV → Mem → Tr (SV × Mem)
  | [.box 0 0], [(0, .box 73 [.row 1, .row 2, .bool o, .int .i64 sz, .int .i64 n, .int .i64 w]), (1, .row 77 p), (2, .row 5 h)] => squash (f49_T p h o sz n w)
  | _, _ => .no
theorem f49_ok : SpecOk rE 49 (.wide (wideOf (tyOf Try.prog) c49)) :=
  wide_of_sq rE_ok (fun sm => ⟨fx_ok lF1_ok sm f49_live, rfl⟩) (fn := Try.f49) (by kernel_rfl) (by decide) (by rfl) (fun args m => by
    unfold c49
    split
    · exact .inr ⟨0, _, rfl, f49_eq 0 _ _ _ _ _ _⟩
    · exact .inl rfl)

end Sx

/-
  Layer 29: the reader's line, as a specification.
-/
set_option linter.unusedVariables false
namespace Sx
open Go Go.Proofs
set_option maxRecDepth 100000
def pieceV (b : Bool) (s : ByteArray) : SV := .agg [.bool b, .str s]
def moreV : SV := .agg [.int .i64 1, .str ⟨#[]⟩, .lst 88 []]
def lnX (h : List SV) (o : Bool) : ByteArray := bif o then strOf h else trimB (strOf h) ⟨#[13]⟩
def lnBad (h : List SV) (o : Bool) (sz : Int) : Bool := o || decide (sz + ((lnX h o).size : Int) > 600)
def lnQ (p h : List SV) (o : Bool) (sz : Int) : List SV := p ++ [pieceV false (bif lnBad h o sz then lnX h o else annS (lnX h o))]
def lnStay (h : List SV) (o : Bool) (sz n : Int) : Bool := !lnBad h o sz && (decide (0 ≤ annN (lnX h o)) && (decide (annN (lnX h o) ≤ 4000) && !(n == 4)))
def lnKind (h : List SV) (o : Bool) (sz : Int) : Int := bif lnBad h o sz then 3 else bif decide (annN (lnX h o) < 0) then 0 else 3
def lnE (p h : List SV) (o : Bool) (sz n : Int) : Bool := lnStay h o sz n || someP (lnQ p h o sz)
noncomputable def lnI (p h : List SV) (o : Bool) (sz n : Int) : SV := bif lnStay h o sz n then moreV else inpOf (lnQ p h o sz) (lnKind h o sz)
def lnP (p h : List SV) (o : Bool) (sz n : Int) : List SV := bif lnStay h o sz n then (bif annN (lnX h o) == 0 then lnQ p h o sz ++ [pieceV true ⟨#[]⟩] else lnQ p h o sz) else []
def lnS (h : List SV) (o : Bool) (sz n : Int) : Int := bif lnStay h o sz n then sz + ((lnX h o).size : Int) else 0
def lnN (h : List SV) (o : Bool) (sz n : Int) : Int := bif lnStay h o sz n then n + 1 else 0
def lnW (h : List SV) (o : Bool) (sz n : Int) : Int := bif lnStay h o sz n then annN (lnX h o) else 0
def lnOk (p h : List SV) (sz n : Int) : Bool := decide (sumP p + h.length + 3 < 4294967281) && (decide (0 ≤ sz) && decide (sz < 4294967281)) && (decide (0 ≤ n) && decide (n < 4294967281))
noncomputable def k49 : List SV → Mem → Tr (SV × Mem)
  | [.box 0 0], [(0, .box 73 [.row 1, .row 2, .bool o, .int .i64 sz, .int .i64 n, .int .i64 w]), (1, .row 77 p), (2, .row 5 h)] =>
    .br (lnOk p h sz n) (.br (lnE p h o sz n) (.leaf (.row 3, [(0, .box 73 [.row 4, .row 5, .bool false, .int .i64 (lnS h o sz n), .int .i64 (lnN h o sz n), .int .i64 (lnW h o sz n)]), (3, .row 82 [lnI p h o sz n]), (4, .row 77 (lnP p h o sz n)), (5, .row 5 [])]))
      (.leaf (.snil, [(0, .box 73 [.row 3, .row 4, .bool false, .int .i64 0, .int .i64 0, .int .i64 0]), (3, .row 77 []), (4, .row 5 [])]))) .no
  | _, _ => .no
theorem strOf_size (h : List SV) : (strOf h).size = h.length := by simp [strOf, ByteArray.size]
theorem trimB_le (s t : ByteArray) : (trimB s t).size ≤ s.size := by
  unfold trimB
  cases sufB s t <;> simp <;> omega
theorem lnX_le (h : List SV) (o : Bool) : (lnX h o).size ≤ h.length := by
  unfold lnX
  cases o
  · exact Nat.le_trans (trimB_le _ _) (by rw [strOf_size]; exact Nat.le_refl _)
  · simp [strOf_size]
theorem annS_le (s : ByteArray) : (annS s).size ≤ s.size := by
  unfold annS
  have := annI_le s
  simp only [ByteArray.size_extract]; omega
theorem sumP_app : ∀ (p : List SV) (x : SV), sumP (p ++ [x]) = sumP p + (strP x).size + 1
  | [], x => by simp [sumP]
  | y :: p, x => by have := sumP_app p x; simp only [List.cons_append, sumP, this]; omega
theorem lnQ_sum (p h : List SV) (o : Bool) (sz : Int) : sumP (lnQ p h o sz) ≤ sumP p + h.length + 1 := by
  unfold lnQ
  rw [sumP_app]
  have h1 := lnX_le h o
  have h2 := annS_le (lnX h o)
  have : (strP (pieceV false (bif lnBad h o sz then lnX h o else annS (lnX h o)))).size ≤ h.length := by
    show (bif lnBad h o sz then lnX h o else annS (lnX h o)).size ≤ h.length
    cases lnBad h o sz <;> simp <;> omega
  omega
theorem s49_ok : SpecOk rE 49 (.wide (wideOf (tyOf Try.prog) k49)) := by
  refine wide_of_run rE_ok (fun sm => ⟨fx_ok lF1_ok sm f49_live, rfl⟩) (fn := Try.f49) (by kernel_rfl) (by decide) (by rfl) (fun args m x h => ?_)
  unfold k49 at h
  split at h
  · rename_i o sz n w p hh
    simp only [pickA, cond_eq_ite] at h
    split at h
    · rename_i hc
      simp only [lnOk, Bool.and_eq_true, decide_eq_true_eq] at hc
      obtain ⟨⟨hs, hz0, hz1⟩, hn0, hn1⟩ := hc
      refine ⟨0, ?_⟩
      show evFun (f49_X [0]) 0 Try.f49 (finW (tyOf Try.prog) [0] 3) [.box 0 0] [(0, .box 73 [.row 1, .row 2, .bool o, .int .i64 sz, .int .i64 n, .int .i64 w]), (1, .row 77 p), (2, .row 5 hh)] [0, 1, 2] = _
      rw [f49_eq]
      unfold f49_T
      have hx := lnX_le hh o
      have hq := lnQ_sum p hh o sz
      have hl := sumP_len p
      have hlq := sumP_len (lnQ p hh o sz)
      have b0 : (strOf hh).size < 4294967281 := by rw [strOf_size]; omega
      have b1 : (trimB (strOf hh) ⟨#[13]⟩).size < 4294967281 := Nat.lt_of_le_of_lt (trimB_le _ _) b0
      have b2 : (p.length + 1) * 24 ≤ 140737488355328 := by omega
      have b3 : p.length + 1 ≤ 9223372036854775807 := by omega
      have w1 : IntKind.wrap .i64 (n + 1) = n + 1 := wrap64 (by omega) (by omega)
      have w2 : IntKind.wrap .i64 (sz + ((lnX hh o).size : Int)) = sz + ((lnX hh o).size : Int) := wrap64 (by omega) (by omega)
      have b4 : okP (lnQ p hh o sz) = true := decide_eq_true (by omega)
      have b5 : ((lnQ p hh o sz).length + 1) * 24 ≤ 140737488355328 := by omega
      have b6 : (lnQ p hh o sz).length + 1 ≤ 9223372036854775807 := by omega
      have b7 : decide (((lnQ p hh o sz).length + 1) * 24 ≤ 140737488355328) = true := decide_eq_true b5
      have b8 : decide ((lnQ p hh o sz).length + 1 ≤ 9223372036854775807) = true := decide_eq_true b6
      have hE : lnE p hh o sz n = (lnStay hh o sz n || someP (lnQ p hh o sz)) := rfl
      simp only [Tr.opt, b0, b1, b2, b3, w1, decide_true, Bool.and_self, cond_true]
      generalize hX : lnX hh o = X at *
      -- which way it goes
      cases ho : o with
      | true =>
        subst ho
        have eX : strOf hh = X := hX
        have hb : lnBad hh true sz = true := rfl
        have eQ : p ++ [SV.agg [SV.bool false, SV.str X]] = lnQ p hh true sz := by
          unfold lnQ; rw [hb, hX]; rfl
        have hst : lnStay hh true sz n = false := by unfold lnStay; rw [hb]; rfl
        simp only [eX, eQ, b4, Bool.not_true, cond_true, cond_false]
        rw [hE, hst] at h
        simp only [lnI, lnP, lnS, lnN, lnW, hst, lnKind, hb, cond_true, cond_false, Bool.false_or] at h
        cases hsm : someP (lnQ p hh true sz) with
        | true => rw [hsm] at h; simp at h; subst h; rfl
        | false => rw [hsm] at h; simp at h; subst h; rfl
      | false =>
        subst ho
        have eX : trimB (strOf hh) ⟨#[13]⟩ = X := hX
        simp only [eX, Bool.not_false, cond_true, cond_false, w2]
        by_cases c1 : sz + (X.size : Int) > 600
        · have hb : lnBad hh false sz = true := by unfold lnBad; rw [hX]; simp [c1]
          have eQ : p ++ [SV.agg [SV.bool false, SV.str X]] = lnQ p hh false sz := by
            unfold lnQ; rw [hb, hX]; rfl
          have hst : lnStay hh false sz n = false := by unfold lnStay; rw [hb]; rfl
          simp only [c1, eQ, b4, decide_true, cond_true]
          rw [hE, hst] at h
          simp only [lnI, lnP, lnS, lnN, lnW, hst, lnKind, hb, cond_true, cond_false, Bool.false_or] at h
          cases hsm : someP (lnQ p hh false sz) with
          | true => rw [hsm] at h; simp at h; subst h; rfl
          | false => rw [hsm] at h; simp at h; subst h; rfl
        · have hb : lnBad hh false sz = false := by unfold lnBad; rw [hX]; simp [c1]
          have eQ : p ++ [SV.agg [SV.bool false, SV.str (annS X)]] = lnQ p hh false sz := by
            unfold lnQ; rw [hb, hX]; rfl
          simp only [c1, eQ, b4, decide_true, decide_false, cond_true, cond_false]
          have hK : lnKind hh false sz = bif decide (annN X < 0) then 0 else 3 := by unfold lnKind; rw [hb, hX]; rfl
          have hS : lnStay hh false sz n = (decide (0 ≤ annN X) && (decide (annN X ≤ 4000) && !(n == 4))) := by unfold lnStay; rw [hb, hX]; rfl
          by_cases c2 : annN X < 0
          · have hst : lnStay hh false sz n = false := by
              rw [hS, show decide (0 ≤ annN X) = false from decide_eq_false (by omega)]; rfl
            simp only [c2, decide_true, cond_true]
            rw [hE, hst] at h
            simp only [lnI, lnP, lnS, lnN, lnW, hst, hK, c2, decide_true, cond_true, cond_false, Bool.false_or] at h
            cases hsm : someP (lnQ p hh false sz) with
            | true =>
              rw [hsm] at h; simp at h; subst h
              simp only [inpOf, beq_self_eq_true, Bool.true_and, cond_true]
            | false => rw [hsm] at h; simp at h; subst h; rfl
          · simp only [c2, decide_false, cond_false]
            by_cases c3 : annN X > 4000
            · have hst : lnStay hh false sz n = false := by
                rw [hS, show decide (annN X ≤ 4000) = false from decide_eq_false (by omega)]; simp
              simp only [c3, decide_true, cond_true]
              rw [hE, hst] at h
              simp only [lnI, lnP, lnS, lnN, lnW, hst, hK, c2, decide_false, cond_true, cond_false, Bool.false_or] at h
              cases hsm : someP (lnQ p hh false sz) with
              | true => rw [hsm] at h; simp at h; subst h; rfl
              | false => rw [hsm] at h; simp at h; subst h; rfl
            · simp only [c3, decide_false, cond_false]
              cases c4 : n == 4 with
              | true =>
                have hst : lnStay hh false sz n = false := by rw [hS, c4]; simp
                simp only [cond_true]
                rw [hE, hst] at h
                simp only [lnI, lnP, lnS, lnN, lnW, hst, hK, c2, decide_false, cond_true, cond_false, Bool.false_or] at h
                cases hsm : someP (lnQ p hh false sz) with
                | true => rw [hsm] at h; simp at h; subst h; rfl
                | false => rw [hsm] at h; simp at h; subst h; rfl
              | false =>
                have hst : lnStay hh false sz n = true := by
                  rw [hS, c4, show decide (annN X ≤ 4000) = true from decide_eq_true (by omega), show decide (0 ≤ annN X) = true from decide_eq_true (by omega)]; rfl
                simp only [cond_false]
                rw [hE, hst] at h
                simp only [lnI, lnP, lnS, lnN, lnW, hst, hX, cond_true, cond_false, Bool.true_or, if_true, Option.some.injEq] at h
                subst h
                cases c5 : annN X == 0 with
                | true => simp only [b7, b8, Bool.and_self, cond_true]; rfl
                | false => rfl
    · cases h
  · cases h
noncomputable def lF2 : List (Nat × Spec) := (49, .wide (wideOf (tyOf Try.prog) k49)) :: (48, .wide (wideOf (tyOf Try.prog) k48)) :: lF0
theorem lF2_ok : SpecsOk rE (ofList lF2) := .cons s49_ok (.cons s48_ok lF0_ok)
end Sx

/-
  What the executor says of functions: the normal forms, each compared by the kernel. (Printed by a program.)
-/
set_option linter.unusedVariables false
namespace Sx
open Go Go.Proofs
set_option maxRecDepth 100000
/-- The slots that are needed at the loops' heads of '(*hamper/line.Reader).Feed'. -/
noncomputable def f27_live : Nat → List Nat × List (Nat × TypeId) := fun h => bif Nat.beq h 3 then ([0, 5, 8, 9, 10], nilsOf (tyOf Try.prog) [(0, 45), (5, 47), (8, 35), (9, 3), (10, 3)]) else ([], [])
noncomputable def f27_X (sm : List Nat) : Fx := ⟨tyOf Try.prog, ofList lF2, sm, f27_live⟩
def f27_st3 (x0 : Int) (x1 : Int) (x2 : Bool) (x3 : Int) (x4 : Int) (x5 : Int) (x6 : List SV) (x7 : List SV) (x8 : List SV) (x9 : List SV) : St := St.mk
  [SV.box (0 : Nat) (0 : Nat), SV.dead, SV.dead, SV.dead, SV.dead, SV.row (100 : Nat), SV.dead, SV.dead, SV.row (1 : Nat), SV.int IntKind.i64 x0, SV.int IntKind.i64 x1, SV.dead, SV.dead, SV.dead, SV.dead, SV.dead,
    SV.dead, SV.dead, SV.dead, SV.dead, SV.dead, SV.dead, SV.dead, SV.dead, SV.dead, SV.dead, SV.dead, SV.dead, SV.dead, SV.dead, SV.dead, SV.dead, SV.dead, SV.dead, SV.dead, SV.dead, SV.dead, SV.dead, SV.dead, SV.dead,
    SV.dead, SV.dead, SV.dead, SV.dead, SV.dead, SV.dead, SV.dead, SV.dead, SV.dead, SV.dead, SV.dead, SV.dead]
  [((0 : Nat), SObj.box (73 : Nat) [SV.row (101 : Nat), SV.row (102 : Nat), SV.bool x2, SV.int IntKind.i64 x3, SV.int IntKind.i64 x4, SV.int IntKind.i64 x5]), ((1 : Nat), SObj.row (5 : Nat) x6),
    ((100 : Nat), SObj.row (82 : Nat) x7), ((101 : Nat), SObj.row (77 : Nat) x8), ((102 : Nat), SObj.row (5 : Nat) x9)]
  [(0 : Nat), (1 : Nat), (100 : Nat), (101 : Nat), (102 : Nat)]
noncomputable def f27_L3 (fu fm : Nat) (x0 : Int) (x1 : Int) (x2 : Bool) (x3 : Int) (x4 : Int) (x5 : Int) (x6 : List SV) (x7 : List SV) (x8 : List SV) (x9 : List SV) : Option (Option (SV × Mem)) := atLoop (f27_X [0, 1]) Try.f27 (finW (tyOf Try.prog) [0, 1] 4) fu [.r, .r, .l, .r, .b] fm (f27_st3 x0 x1 x2 x3 x4 x5 x6 x7 x8 x9)

theorem f27_L3_eq (fu fm : Nat) (x0 : Int) (x1 : Int) (x2 : Bool) (x3 : Int) (x4 : Int) (x5 : Int) (x6 : List SV) (x7 : List SV) (x8 : List SV) (x9 : List SV) : f27_L3 fu (fm + 1) x0 x1 x2 x3 x4 x5 x6 x7 x8 x9 = bif decide (x1 < x0) then
  bif decide ((0 : Int) ≤ x1) && decide (x1 < (↑(List.length x6) : Int)) then
    bif decide (x5 > (0 : Int)) then
      bif decide (List.length x9 < (4294967281 : Nat)) && decide (List.length x8 < (4294967281 : Nat)) && decide ((1 : Int) ≤ x5 ∧ x5 < (4294967281 : Int)) then
        bif x5 == (1 : Int) then
          f27_L3 fu fm x0 (IntKind.wrap IntKind.i64 (x1 + (1 : Int))) x2 x3 x4 (0 : Int) x6 x7
            (x8 ++ [SV.agg [SV.bool true, SV.str (strOf (x9 ++ [SV.int IntKind.u8 (asInt (List.getD (cellsOf (List.getD x6 (Int.toNat x1) SV.dead)) (0 : Nat) SV.dead))]))]]) []
        else
          f27_L3 fu fm x0 (IntKind.wrap IntKind.i64 (x1 + (1 : Int))) x2 x3 x4 (x5 - (1 : Int)) x6 x7 x8 (x9 ++ [SV.int IntKind.u8 (asInt (List.getD (cellsOf (List.getD x6 (Int.toNat x1) SV.dead)) (0 : Nat) SV.dead))])
      else none
    else
      bif asInt (List.getD (cellsOf (List.getD x6 (Int.toNat x1) SV.dead)) (0 : Nat) SV.dead) == (10 : Int) then
        bif lnOk x8 x9 x3 x4 then
          bif lnE x8 x9 x2 x3 x4 then
            bif decide ((List.length x7 + (1 : Nat)) * (48 : Nat) ≤ (140737488355328 : Nat)) && decide (List.length x7 + (1 : Nat) ≤ (9223372036854775807 : Nat)) then
              f27_L3 fu fm x0 (IntKind.wrap IntKind.i64 (x1 + (1 : Int))) false (lnS x9 x2 x3 x4) (lnN x9 x2 x3 x4) (lnW x9 x2 x3 x4) x6 (x7 ++ [lnI x8 x9 x2 x3 x4]) (lnP x8 x9 x2 x3 x4) []
            else none
          else
            bif decide ((List.length x7 + (0 : Nat)) * (48 : Nat) ≤ (140737488355328 : Nat)) && decide (List.length x7 + (0 : Nat) ≤ (9223372036854775807 : Nat)) then
              f27_L3 fu fm x0 (IntKind.wrap IntKind.i64 (x1 + (1 : Int))) false (0 : Int) (0 : Int) (0 : Int) x6 (x7 ++ []) [] []
            else none
        else none
      else
        bif decide ((↑(List.length x9) : Int) > (601 : Int)) then f27_L3 fu fm x0 (IntKind.wrap IntKind.i64 (x1 + (1 : Int))) true x3 x4 x5 x6 x7 x8 x9
        else
          bif decide ((List.length x9 + (1 : Nat)) * (1 : Nat) ≤ (140737488355328 : Nat)) && decide (List.length x9 + (1 : Nat) ≤ (9223372036854775807 : Nat)) then
            f27_L3 fu fm x0 (IntKind.wrap IntKind.i64 (x1 + (1 : Int))) x2 x3 x4 x5 x6 x7 x8 (x9 ++ [SV.int IntKind.u8 (asInt (List.getD (cellsOf (List.getD x6 (Int.toNat x1) SV.dead)) (0 : Nat) SV.dead))])
          else none
  else none
  else
  some
    (some
      (SV.row (4 : Nat),
        [((0 : Nat), SObj.box (73 : Nat) [SV.row (5 : Nat), SV.row (6 : Nat), SV.bool x2, SV.int IntKind.i64 x3, SV.int IntKind.i64 x4, SV.int IntKind.i64 x5]), ((1 : Nat), SObj.row (5 : Nat) x6),
          ((4 : Nat), SObj.row (82 : Nat) x7), ((5 : Nat), SObj.row (77 : Nat) x8), ((6 : Nat), SObj.row (5 : Nat) x9)])) := by kernel_rfl

theorem f27_eq (fu : Nat) (p : List SV) (h : List SV) (o : Bool) (sz : Int) (n : Int) (w : Int) (b : List SV) : evFun (f27_X [0, 1]) fu Try.f27 (finW (tyOf Try.prog) [0, 1] 4) [.box 0 0, .row 1] [(0, .box 73 [.row 2, .row 3, .bool o, .int .i64 sz, .int .i64 n, .int .i64 w]), (1, .row 5 b), (2, .row 77 p), (3, .row 5 h)] [0, 1, 2, 3] = f27_L3 fu fu (↑(List.length b) : Int) (0 : Int) o sz n w b [] p h := by kernel_rfl

end Sx

/-
  Layer 29: the reader in plain Lean, and Feed as a specification.
-/
set_option linter.unusedVariables false
namespace Sx
open Go Go.Proofs
set_option maxRecDepth 100000
/-- The octets that cells hold. -/
def octs (h : List SV) : List UInt8 := h.map fun x => (asInt x).toNat.toUInt8
def isB : SV → Bool
  | .int .u8 n => decide (0 ≤ n) && decide (n < 256)
  | _ => false
def isBs : List SV → Bool
  | [] => true
  | x :: r => isB x && isBs r
theorem isB_eq {x : SV} (h : isB x = true) : x = .int .u8 (((asInt x).toNat.toUInt8).toNat : Int) := by
  unfold isB at h
  split at h
  · rename_i n
    simp only [Bool.and_eq_true, decide_eq_true_eq] at h
    simp only [asInt]
    congr 1
    simp; omega
  · cases h
theorem isBs_eq : ∀ {h : List SV}, isBs h = true → h = bsv (octs h)
  | [], _ => rfl
  | x :: r, hh => by
    simp only [isBs, Bool.and_eq_true] at hh
    have h1 := isB_eq hh.1
    have h2 := isBs_eq hh.2
    show x :: r = SV.int .u8 (((asInt x).toNat.toUInt8).toNat : Int) :: bsv (octs r)
    rw [← h1, ← h2]
theorem octs_bsv (l : List UInt8) : octs (bsv l) = l := by
  unfold octs bsv
  rw [List.map_map]
  conv => rhs; rw [← List.map_id l]
  apply List.map_congr_left
  intro b _
  show (asInt (.int .u8 (b.toNat : Int))).toNat.toUInt8 = b
  simp [asInt]
theorem isBs_bsv : ∀ l : List UInt8, isBs (bsv l) = true
  | [] => rfl
  | b :: l => by
    have := b.toNat_lt
    have ih := isBs_bsv l
    show (isB (.int .u8 (b.toNat : Int)) && isBs (bsv l)) = true
    rw [ih]
    simp only [isB, Bool.and_true, Bool.and_eq_true, decide_eq_true_eq]
    omega
/-- A reader. -/
structure Rd where
  p : List SV
  h : List UInt8
  o : Bool
  sz : Int
  n : Int
  w : Int
/-- One octet more: the reader, and what came. -/
noncomputable def stepR (r : Rd) (c : UInt8) : Rd × List SV :=
  if 0 < r.w then (if r.w = 1 then ({ r with p := r.p ++ [pieceV true (strOf (bsv (r.h ++ [c])))], h := [], w := 0 }, []) else ({ r with h := r.h ++ [c], w := r.w - 1 }, []))
  else if c = 10 then
    (if lnE r.p (bsv r.h) r.o r.sz r.n = true then (⟨lnP r.p (bsv r.h) r.o r.sz r.n, [], false, lnS (bsv r.h) r.o r.sz r.n, lnN (bsv r.h) r.o r.sz r.n, lnW (bsv r.h) r.o r.sz r.n⟩, [lnI r.p (bsv r.h) r.o r.sz r.n]) else (⟨[], [], false, 0, 0, 0⟩, []))
  else if 601 < r.h.length then ({ r with o := true }, []) else ({ r with h := r.h ++ [c] }, [])
noncomputable def feedR (r : Rd) : List UInt8 → Rd × List SV
  | [] => (r, [])
  | c :: l => ((feedR (stepR r c).1 l).1, (stepR r c).2 ++ (feedR (stepR r c).1 l).2)
/-- What bounds a reader behind k octets. -/
def InvR (r : Rd) (k : Nat) : Prop := sumP r.p + r.h.length ≤ 3 * k ∧ (0 ≤ r.sz ∧ r.sz + (r.h.length : Int) ≤ k) ∧ (0 ≤ r.n ∧ r.n ≤ k) ∧ (0 ≤ r.w ∧ r.w ≤ 4000 + k)
theorem annN_ge (s : ByteArray) : -1 ≤ annN s := by
  unfold annN
  split <;> omega
theorem stepR_inv {r : Rd} {k : Nat} (h : InvR r k) (c : UInt8) : InvR (stepR r c).1 (k + 1) := by
  obtain ⟨h1, ⟨h2, h3⟩, ⟨h4, h5⟩, h6, h7⟩ := h
  unfold stepR
  split
  · split
    · refine ⟨?_, ⟨h2, ?_⟩, ⟨h4, by show r.n ≤ _; omega⟩, Int.le_refl _, by simp; omega⟩
      · show sumP (r.p ++ [_]) + 0 ≤ _
        rw [sumP_app]
        have : (strP (pieceV true (strOf (bsv (r.h ++ [c]))))).size = r.h.length + 1 := by
          show (strOf (bsv (r.h ++ [c]))).size = _
          rw [strOf_size, bsv_len]; simp
        omega
      · simp; omega
    · refine ⟨?_, ⟨h2, ?_⟩, ⟨h4, by show r.n ≤ _; omega⟩, by show 0 ≤ r.w - 1; omega, by show r.w - 1 ≤ _; omega⟩
      · simp; omega
      · simp; omega
  · split
    · split
      · have hX := lnX_le (bsv r.h) r.o
        have hQ := lnQ_sum r.p (bsv r.h) r.o r.sz
        rw [bsv_len] at hX hQ
        refine ⟨?_, ⟨?_, ?_⟩, ⟨?_, ?_⟩, ?_, ?_⟩
        · show sumP (lnP r.p (bsv r.h) r.o r.sz r.n) + 0 ≤ _
          unfold lnP
          cases lnStay (bsv r.h) r.o r.sz r.n
          · simp [sumP]
          · cases annN (lnX (bsv r.h) r.o) == 0
            · simp only [cond_true, cond_false]; omega
            · simp only [cond_true]
              rw [sumP_app]
              have : (strP (pieceV true ⟨#[]⟩)).size = 0 := rfl
              omega
        · show 0 ≤ lnS (bsv r.h) r.o r.sz r.n
          unfold lnS
          cases lnStay (bsv r.h) r.o r.sz r.n <;> simp <;> omega
        · show lnS (bsv r.h) r.o r.sz r.n + ((0 : Nat) : Int) ≤ _
          unfold lnS
          cases lnStay (bsv r.h) r.o r.sz r.n <;> simp <;> omega
        · show 0 ≤ lnN (bsv r.h) r.o r.sz r.n
          unfold lnN
          cases lnStay (bsv r.h) r.o r.sz r.n <;> simp <;> omega
        · show lnN (bsv r.h) r.o r.sz r.n ≤ _
          unfold lnN
          cases lnStay (bsv r.h) r.o r.sz r.n <;> simp <;> omega
        · show 0 ≤ lnW (bsv r.h) r.o r.sz r.n
          unfold lnW
          cases h : lnStay (bsv r.h) r.o r.sz r.n
          · simp
          · simp only [lnStay, Bool.and_eq_true, decide_eq_true_eq] at h
            simp; omega
        · show lnW (bsv r.h) r.o r.sz r.n ≤ _
          unfold lnW
          cases h : lnStay (bsv r.h) r.o r.sz r.n
          · simp; omega
          · simp only [lnStay, Bool.and_eq_true, decide_eq_true_eq] at h
            simp; omega
      · refine ⟨?_, ⟨?_, ?_⟩, ⟨?_, ?_⟩, ?_, ?_⟩ <;> simp [sumP] <;> omega
    · split
      · refine ⟨?_, ⟨h2, ?_⟩, ⟨h4, ?_⟩, h6, ?_⟩ <;> simp <;> omega
      · refine ⟨?_, ⟨h2, ?_⟩, ⟨h4, ?_⟩, h6, ?_⟩ <;> simp <;> omega
theorem stepR_out (r : Rd) (c : UInt8) : (stepR r c).2.length ≤ 1 := by
  unfold stepR
  split
  · split <;> simp
  · split
    · split <;> simp
    · split <;> simp
theorem feedR_inv : ∀ (l : List UInt8) {r : Rd} {k : Nat}, InvR r k → InvR (feedR r l).1 (k + l.length)
  | [], r, k, h => h
  | c :: l, r, k, h => by
    have := feedR_inv l (stepR_inv h c)
    rw [show k + (c :: l).length = k + 1 + l.length by simp; omega]
    exact this
theorem feedR_out : ∀ (l : List UInt8) (r : Rd), (feedR r l).2.length ≤ l.length
  | [], r => Nat.le_refl _
  | c :: l, r => by
    have := feedR_out l (stepR r c).1
    have h1 := stepR_out r c
    simp only [feedR, List.length_append, List.length_cons]; omega
theorem feedR_app : ∀ (l m : List UInt8) (r : Rd), feedR r (l ++ m) = ((feedR (feedR r l).1 m).1, (feedR r l).2 ++ (feedR (feedR r l).1 m).2)
  | [], m, r => by simp [feedR]
  | c :: l, m, r => by simp [feedR, feedR_app l m, List.append_assoc]
end Sx

/-
  Layer 29: Feed's loop, and Feed as a specification.
-/
set_option linter.unusedVariables false
namespace Sx
open Go Go.Proofs
set_option maxRecDepth 100000
theorem bsv_getD (b : List UInt8) (j : Nat) (h : j < b.length) : asInt (List.getD (cellsOf (List.getD (bsv b) j SV.dead)) 0 SV.dead) = ((b[j]'h).toNat : Int) := by
  have : List.getD (bsv b) j SV.dead = .int .u8 ((b[j]'h).toNat : Int) := by
    rw [List.getD_eq_getElem?_getD]
    simp [bsv, h]
  rw [this]; rfl
def rdMem (r : Rd) (b : List UInt8) (out : List SV) : Option (Option (SV × Mem)) :=
  some (some (SV.row 4, [(0, SObj.box 73 [SV.row 5, SV.row 6, SV.bool r.o, SV.int .i64 r.sz, SV.int .i64 r.n, SV.int .i64 r.w]), (1, SObj.row 5 (bsv b)), (4, SObj.row 82 out), (5, SObj.row 77 r.p), (6, SObj.row 5 (bsv r.h))]))
theorem L27_is (fu : Nat) (b : List UInt8) (hb : b.length < 1000000000) : ∀ (k j m : Nat) (r : Rd) (K : Nat) (out : List SV), j + k = b.length → k < m → InvR r K → K + k < 1000000000 → out.length + k < 4000000000 →
    f27_L3 fu m (b.length : Int) (j : Int) r.o r.sz r.n r.w (bsv b) out r.p (bsv r.h) = rdMem (feedR r (b.drop j)).1 b (out ++ (feedR r (b.drop j)).2)
  | 0, j, m, r, K, out, hj, hm, hI, hK, ho => by
    obtain ⟨m, rfl⟩ : ∃ m', m = m' + 1 := ⟨m - 1, by omega⟩
    have hd : b.drop j = [] := List.drop_of_length_le (by omega)
    have h1 : ¬ ((j : Int) < (b.length : Int)) := by omega
    rw [f27_L3_eq, hd]
    simp only [h1, decide_false, cond_false, feedR, List.append_nil]
    rfl
  | k + 1, j, m, r, K, out, hj, hm, hI, hK, ho => by
    obtain ⟨m, rfl⟩ : ∃ m', m = m' + 1 := ⟨m - 1, by omega⟩
    have hlt : j < b.length := by omega
    have hd : b.drop j = b[j] :: b.drop (j + 1) := List.drop_eq_getElem_cons hlt
    generalize hc : b[j] = c at hd
    have hg : asInt (List.getD (cellsOf (List.getD (bsv b) j SV.dead)) 0 SV.dead) = (c.toNat : Int) := by rw [bsv_getD b j hlt, hc]
    have h1 : (j : Int) < (b.length : Int) := by omega
    have h2 : (0 : Int) ≤ (j : Int) := by omega
    have h3 : (j : Int) < ((bsv b).length : Int) := by rw [bsv_len]; omega
    have w1 : IntKind.wrap .i64 ((j : Int) + 1) = ((j + 1 : Nat) : Int) := by rw [wrap64 (by omega) (by omega)]; omega
    have ih := fun r' out' hI' ho' => L27_is fu b hb k (j + 1) m r' (K + 1) out' (by omega) (by omega) hI' (by omega) ho'
    have hS := stepR_inv hI c
    obtain ⟨i1, ⟨i2, i3⟩, ⟨i4, i5⟩, i6, i7⟩ := hI
    have hl := sumP_len r.p
    rw [f27_L3_eq]
    simp only [h1, h2, h3, decide_true, Bool.and_self, cond_true, Int.toNat_natCast, hg, w1, bsv_add, hd, feedR, bsv_len]
    have fin : ∀ r' o', stepR r c = (r', o') → out.length + o'.length + k < 4000000000 → f27_L3 fu m (b.length : Int) ((j + 1 : Nat) : Int) r'.o r'.sz r'.n r'.w (bsv b) (out ++ o') r'.p (bsv r'.h) = rdMem (feedR (stepR r c).1 (b.drop (j + 1))).1 b (out ++ ((stepR r c).2 ++ (feedR (stepR r c).1 (b.drop (j + 1))).2)) := by
      intro r' o' hs hlen
      rw [hs] at hS
      have := ih r' (out ++ o') hS (by rw [List.length_append]; omega)
      rw [this, hs, List.append_assoc]
    by_cases c1 : r.w > 0
    · have a1 : decide (r.h.length < 4294967281) = true := decide_eq_true (by omega)
      have a2 : decide (r.p.length < 4294967281) = true := decide_eq_true (by omega)
      have a3 : decide (1 ≤ r.w ∧ r.w < 4294967281) = true := decide_eq_true ⟨by omega, by omega⟩
      simp only [c1, a1, a2, a3, decide_true, Bool.and_self, cond_true]
      by_cases c2 : r.w = 1
      · have e1 : (r.w == 1) = true := by simpa using c2
        rw [e1]
        have hs : stepR r c = ({ r with p := r.p ++ [pieceV true (strOf (bsv (r.h ++ [c])))], h := [], w := 0 }, []) := by
          unfold stepR; rw [if_pos c1, if_pos c2]
        have := fin _ _ hs (by simp; omega)
        rw [List.append_nil] at this
        exact this
      · have e1 : (r.w == 1) = false := by simpa using c2
        rw [e1]
        have hs : stepR r c = ({ r with h := r.h ++ [c], w := r.w - 1 }, []) := by
          unfold stepR; rw [if_pos c1, if_neg c2]
        have := fin _ _ hs (by simp; omega)
        rw [List.append_nil] at this
        exact this
    · simp only [c1, decide_false, cond_false]
      have e10 := beqI c 10 (by decide)
      simp only [show ((10 : Nat) : Int) = 10 from rfl, show (10 : Nat).toUInt8 = (10 : UInt8) from rfl] at e10
      rw [e10]
      by_cases c2 : c = 10
      · have e1 : (c == 10) = true := by simpa using c2
        have ok : lnOk r.p (bsv r.h) r.sz r.n = true := by
          simp only [lnOk, Bool.and_eq_true, decide_eq_true_eq, bsv_len]; omega
        rw [e1, ok]
        simp only [cond_true]
        have g1 : decide ((out.length + 1) * 48 ≤ 140737488355328) = true := decide_eq_true (by omega)
        have g2 : decide (out.length + 1 ≤ 9223372036854775807) = true := decide_eq_true (by omega)
        have g3 : decide ((out.length + 0) * 48 ≤ 140737488355328) = true := decide_eq_true (by omega)
        have g4 : decide (out.length + 0 ≤ 9223372036854775807) = true := decide_eq_true (by omega)
        simp only [g1, g2, g3, g4, Bool.and_self, cond_true]
        cases hE : lnE r.p (bsv r.h) r.o r.sz r.n with
        | true =>
          have hs : stepR r c = (⟨lnP r.p (bsv r.h) r.o r.sz r.n, [], false, lnS (bsv r.h) r.o r.sz r.n, lnN (bsv r.h) r.o r.sz r.n, lnW (bsv r.h) r.o r.sz r.n⟩, [lnI r.p (bsv r.h) r.o r.sz r.n]) := by
            unfold stepR; rw [if_neg c1, if_pos c2, if_pos hE]
          exact fin _ _ hs (by simp; omega)
        | false =>
          have hs : stepR r c = (⟨[], [], false, 0, 0, 0⟩, []) := by
            unfold stepR; rw [if_neg c1, if_pos c2, if_neg (by rw [hE]; decide)]
          exact fin _ _ hs (by simp; omega)
      · have e1 : (c == 10) = false := by simpa using c2
        rw [e1]
        simp only [cond_false]
        by_cases c3 : (r.h.length : Int) > 601
        · simp only [c3, decide_true, cond_true]
          have hs : stepR r c = ({ r with o := true }, []) := by
            unfold stepR; rw [if_neg c1, if_neg c2, if_pos (by omega)]
          have := fin _ _ hs (by simp; omega)
          rw [List.append_nil] at this
          exact this
        · have g1 : decide ((r.h.length + 1) * 1 ≤ 140737488355328) = true := decide_eq_true (by omega)
          have g2 : decide (r.h.length + 1 ≤ 9223372036854775807) = true := decide_eq_true (by omega)
          simp only [c3, decide_false, cond_false, g1, g2, Bool.and_self, cond_true]
          have hs : stepR r c = ({ r with h := r.h ++ [c] }, []) := by
            unfold stepR; rw [if_neg c1, if_neg c2, if_neg (by omega)]
          have := fin _ _ hs (by simp; omega)
          rw [List.append_nil] at this
          exact this
noncomputable def fdR (p h : List SV) (o : Bool) (sz n w : Int) (b : List SV) : Rd × List SV := feedR ⟨p, octs h, o, sz, n, w⟩ (octs b)
def fdOk (p h : List SV) (sz n w : Int) (b : List SV) : Bool := isBs h && (isBs b && (decide (sumP p + h.length + b.length < 100000000) && ((decide (0 ≤ sz) && decide (sz < 200000000)) && ((decide (0 ≤ n) && decide (n < 400000000)) && (decide (0 ≤ w) && decide (w < 400000000))))))
noncomputable def k27 : List SV → Mem → Tr (SV × Mem)
  | [.box 0 0, .row 1], [(0, .box 73 [.row 2, .row 3, .bool o, .int .i64 sz, .int .i64 n, .int .i64 w]), (1, .row 5 b), (2, .row 77 p), (3, .row 5 h)] =>
    .br (fdOk p h sz n w b) (.leaf (.row 4, [(0, .box 73 [.row 5, .row 6, .bool (fdR p h o sz n w b).1.o, .int .i64 (fdR p h o sz n w b).1.sz, .int .i64 (fdR p h o sz n w b).1.n, .int .i64 (fdR p h o sz n w b).1.w]), (1, .row 5 b), (4, .row 82 (fdR p h o sz n w b).2), (5, .row 77 (fdR p h o sz n w b).1.p), (6, .row 5 (bsv (fdR p h o sz n w b).1.h))])) .no
  | _, _ => .no
theorem s27_ok : SpecOk rE 27 (.wide (wideOf (tyOf Try.prog) k27)) := by
  refine wide_of_run rE_ok (fun sm => ⟨fx_ok lF2_ok sm f27_live, rfl⟩) (fn := Try.f27) (by kernel_rfl) (by decide) (by rfl) (fun args m x h => ?_)
  unfold k27 at h
  split at h
  · rename_i o sz n w b p hh
    simp only [pickA, cond_eq_ite] at h
    split at h
    · rename_i hc
      simp only [fdOk, Bool.and_eq_true, decide_eq_true_eq] at hc
      obtain ⟨hh1, hb1, hs, ⟨z0, z1⟩, ⟨n0, n1⟩, v0, v1⟩ := hc
      refine ⟨4294967290, ?_⟩
      show evFun (f27_X [0, 1]) 4294967290 Try.f27 (finW (tyOf Try.prog) [0, 1] 4) [.box 0 0, .row 1] [(0, .box 73 [.row 2, .row 3, .bool o, .int .i64 sz, .int .i64 n, .int .i64 w]), (1, .row 5 b), (2, .row 77 p), (3, .row 5 hh)] [0, 1, 2, 3] = _
      have eb := isBs_eq hb1
      have eh := isBs_eq hh1
      have lh : (octs hh).length = hh.length := by simp [octs]
      have lb : (octs b).length = b.length := by simp [octs]
      rw [f27_eq]
      have := L27_is 4294967290 (octs b) (by omega) (octs b).length 0 4294967290 ⟨p, octs hh, o, sz, n, w⟩ 400000000 [] (by omega) (by omega) ⟨by simp; omega, ⟨by simp; omega, by simp; omega⟩, ⟨by simp; omega, by simp; omega⟩, by simp; omega, by simp; omega⟩ (by omega) (by simp; omega)
      rw [← eb, ← eh, lb, show ((0 : Nat) : Int) = 0 from rfl, List.drop_zero, List.nil_append] at this
      rw [this]
      simp only [Option.some.injEq] at h
      subst h
      unfold rdMem fdR
      rw [← eb]
    · cases h
  · cases h
end Sx

/-
  What the executor says of functions: the normal forms, each compared by the kernel. (Printed by a program.)
-/
set_option linter.unusedVariables false
namespace Sx
open Go Go.Proofs
set_option maxRecDepth 100000
/-- A text's number: its digits; -1: none. -/
def numI (s : ByteArray) : Int := match numL s.data.toList 0 with | some n => bif s.size == 0 then -1 else (n : Int) | none => -1
def gNum : List SV → Option (Bool × SV)
  | [.str s] => some (decide (s.size < 10), .int .i64 (numI s))
  | _ => none
noncomputable def lX1 : List (Nat × Spec) := (71, .plain gNum) :: lA1
set_option maxRecDepth 100000
/-- The slots that are needed at the loops' heads of 'hamper/hamperref29.cut'. -/
noncomputable def f73_live : Nat → List Nat × List (Nat × TypeId) := fun h => bif Nat.beq h 23 then ([0, 1, 4, 9, 10], nilsOf (tyOf Try.prog) [(0, 9), (1, 3), (4, 0), (9, 3), (10, 4)]) else bif Nat.beq h 8 then ([0, 4, 6, 7], nilsOf (tyOf Try.prog) [(0, 9), (4, 0), (6, 9), (7, 3)]) else ([], [])
noncomputable def f73_X : Fx := ⟨tyOf Try.prog, ofList lA1, [], f73_live⟩
/-- The slots that are needed at the loops' heads of 'hamper/hamperref29.announced'. -/
noncomputable def f50_live : Nat → List Nat × List (Nat × TypeId) := fun h => bif Nat.beq h 4 then ([0, 4], nilsOf (tyOf Try.prog) [(0, 9), (4, 3)]) else ([], [])
noncomputable def f50_X : Fx := ⟨tyOf Try.prog, ofList lX1, [], f50_live⟩
def f73_st23 (x0 : ByteArray) (x1 : Int) (x2 : Int) (x3 : Bool) (x4 : Int) (x5 : ByteArray) : St := St.mk
  [SV.str x0, SV.int IntKind.i64 x1, SV.dead, SV.dead, SV.box (100 : Nat) (0 : Nat), SV.dead, SV.dead, SV.dead, SV.dead, SV.int IntKind.i64 x2, SV.bool x3, SV.dead, SV.dead, SV.dead, SV.dead, SV.dead, SV.dead, SV.dead,
    SV.dead, SV.dead, SV.dead, SV.dead, SV.dead, SV.dead, SV.dead, SV.dead, SV.dead, SV.dead, SV.dead, SV.dead, SV.dead, SV.dead, SV.dead, SV.dead, SV.dead, SV.dead, SV.dead, SV.dead, SV.dead, SV.dead, SV.dead, SV.dead,
    SV.dead, SV.dead, SV.dead, SV.dead, SV.dead, SV.dead, SV.dead, SV.dead, SV.dead, SV.dead, SV.dead, SV.dead, SV.dead, SV.dead, SV.dead, SV.dead, SV.dead, SV.dead, SV.dead, SV.dead, SV.dead, SV.dead, SV.dead, SV.dead,
    SV.dead, SV.dead, SV.dead, SV.dead, SV.dead, SV.dead, SV.dead, SV.dead, SV.dead, SV.dead, SV.dead, SV.dead, SV.dead, SV.dead, SV.dead, SV.dead, SV.dead, SV.dead, SV.dead, SV.dead, SV.dead, SV.dead, SV.dead, SV.dead,
    SV.dead, SV.dead, SV.dead, SV.dead, SV.dead, SV.dead, SV.dead, SV.dead, SV.dead, SV.dead, SV.dead, SV.dead, SV.dead, SV.dead, SV.dead, SV.dead, SV.dead, SV.dead, SV.dead, SV.dead, SV.dead, SV.dead, SV.dead, SV.dead,
    SV.dead, SV.dead, SV.dead, SV.dead, SV.dead, SV.dead, SV.dead, SV.dead, SV.dead, SV.dead, SV.dead, SV.dead, SV.dead, SV.dead, SV.dead, SV.dead, SV.dead, SV.dead, SV.dead]
  [((100 : Nat), SObj.box (88 : Nat) [SV.int IntKind.i64 x4, SV.str x5])] [(100 : Nat)]
noncomputable def f73_L23 (fu fm : Nat) (x0 : ByteArray) (x1 : Int) (x2 : Int) (x3 : Bool) (x4 : Int) (x5 : ByteArray) : Option (SV) := atLoop f73_X Try.f73 (frz f73_X.Ty Try.f73) fu [.r, .r, .r, .r, .r, .r, .l, .b] fm (f73_st23 x0 x1 x2 x3 x4 x5)

def f73_st8 (x0 : ByteArray) (x1 : ByteArray) (x2 : Int) (x3 : Int) (x4 : ByteArray) : St := St.mk
  [SV.str x0, SV.dead, SV.dead, SV.dead, SV.box (100 : Nat) (0 : Nat), SV.dead, SV.str x1, SV.int IntKind.i64 x2, SV.dead, SV.dead, SV.dead, SV.dead, SV.dead, SV.dead, SV.dead, SV.dead, SV.dead, SV.dead, SV.dead,
    SV.dead, SV.dead, SV.dead, SV.dead, SV.dead, SV.dead, SV.dead, SV.dead, SV.dead, SV.dead, SV.dead, SV.dead, SV.dead, SV.dead, SV.dead, SV.dead, SV.dead, SV.dead, SV.dead, SV.dead, SV.dead, SV.dead, SV.dead, SV.dead,
    SV.dead, SV.dead, SV.dead, SV.dead, SV.dead, SV.dead, SV.dead, SV.dead, SV.dead, SV.dead, SV.dead, SV.dead, SV.dead, SV.dead, SV.dead, SV.dead, SV.dead, SV.dead, SV.dead, SV.dead, SV.dead, SV.dead, SV.dead, SV.dead,
    SV.dead, SV.dead, SV.dead, SV.dead, SV.dead, SV.dead, SV.dead, SV.dead, SV.dead, SV.dead, SV.dead, SV.dead, SV.dead, SV.dead, SV.dead, SV.dead, SV.dead, SV.dead, SV.dead, SV.dead, SV.dead, SV.dead, SV.dead, SV.dead,
    SV.dead, SV.dead, SV.dead, SV.dead, SV.dead, SV.dead, SV.dead, SV.dead, SV.dead, SV.dead, SV.dead, SV.dead, SV.dead, SV.dead, SV.dead, SV.dead, SV.dead, SV.dead, SV.dead, SV.dead, SV.dead, SV.dead, SV.dead, SV.dead,
    SV.dead, SV.dead, SV.dead, SV.dead, SV.dead, SV.dead, SV.dead, SV.dead, SV.dead, SV.dead, SV.dead, SV.dead, SV.dead, SV.dead, SV.dead, SV.dead, SV.dead, SV.dead]
  [((100 : Nat), SObj.box (88 : Nat) [SV.int IntKind.i64 x3, SV.str x4])] [(100 : Nat)]
noncomputable def f73_L8 (fu fm : Nat) (x0 : ByteArray) (x1 : ByteArray) (x2 : Int) (x3 : Int) (x4 : ByteArray) : Option (SV) := atLoop f73_X Try.f73 (frz f73_X.Ty Try.f73) fu [.r, .r, .r, .l, .r, .t, .r, .l, .r, .b] fm (f73_st8 x0 x1 x2 x3 x4)

theorem f73_L23_eq (fu fm : Nat) (x0 : ByteArray) (x1 : Int) (x2 : Int) (x3 : Bool) (x4 : Int) (x5 : ByteArray) : f73_L23 fu (fm + 1) x0 x1 x2 x3 x4 x5 = bif decide (x2 < (↑(ByteArray.size x0) : Int)) then
  bif x3 then
    bif decide ((0 : Int) ≤ x2) && decide (x2 < (↑(ByteArray.size x0) : Int)) then
      bif decide (bAt x0 x2 < (32 : Int)) then some (SV.tup [SV.agg [SV.int IntKind.i64 (0 : Int), SV.str (ByteArray.mk #[])], SV.int IntKind.i64 (0 : Int)])
      else
        bif decide ((0 : Int) ≤ x2) && decide (x2 < (↑(ByteArray.size x0) : Int)) then
          bif decide (bAt x0 x2 > (126 : Int)) then some (SV.tup [SV.agg [SV.int IntKind.i64 (0 : Int), SV.str (ByteArray.mk #[])], SV.int IntKind.i64 (0 : Int)])
          else
            bif !x3 then
              bif decide ((0 : Int) ≤ x2) && decide (x2 < (↑(ByteArray.size x0) : Int)) then
                bif !signB (bAt x0 x2) then
                  bif x3 then some (SV.tup [SV.agg [SV.int IntKind.i64 (0 : Int), SV.str (ByteArray.mk #[])], SV.int IntKind.i64 (0 : Int)])
                  else
                    bif x2 == x1 then some (SV.tup [SV.agg [SV.int IntKind.i64 (0 : Int), SV.str (ByteArray.mk #[])], SV.int IntKind.i64 (0 : Int)])
                    else
                      bif decide ((0 : Int) ≤ x2) && decide (x2 ≤ (↑(ByteArray.size x0) : Int)) && (decide ((0 : Int) ≤ x1) && decide (x1 ≤ x2)) then
                        some (SV.tup [SV.agg [SV.int IntKind.i64 (0 : Int), SV.str (ByteArray.extract x0 (Int.toNat x1) (Int.toNat x2))], SV.int IntKind.i64 x2])
                      else none
                else
                  bif decide ((0 : Int) ≤ x2) && decide (x2 < (↑(ByteArray.size x0) : Int)) then
                    bif bAt x0 x2 == (91 : Int) then
                      bif decide ((0 : Int) ≤ x2) && decide (x2 < (↑(ByteArray.size x0) : Int)) then
                        bif bAt x0 x2 == (93 : Int) then f73_L23 fu fm x0 x1 (IntKind.wrap IntKind.i64 (x2 + (1 : Int))) false x4 x5 else f73_L23 fu fm x0 x1 (IntKind.wrap IntKind.i64 (x2 + (1 : Int))) true x4 x5
                      else none
                    else
                      bif decide ((0 : Int) ≤ x2) && decide (x2 < (↑(ByteArray.size x0) : Int)) then
                        bif bAt x0 x2 == (93 : Int) then f73_L23 fu fm x0 x1 (IntKind.wrap IntKind.i64 (x2 + (1 : Int))) false x4 x5 else f73_L23 fu fm x0 x1 (IntKind.wrap IntKind.i64 (x2 + (1 : Int))) x3 x4 x5
                      else none
                  else none
              else none
            else
              bif decide ((0 : Int) ≤ x2) && decide (x2 < (↑(ByteArray.size x0) : Int)) then
                bif bAt x0 x2 == (91 : Int) then
                  bif decide ((0 : Int) ≤ x2) && decide (x2 < (↑(ByteArray.size x0) : Int)) then
                    bif bAt x0 x2 == (93 : Int) then f73_L23 fu fm x0 x1 (IntKind.wrap IntKind.i64 (x2 + (1 : Int))) false x4 x5 else f73_L23 fu fm x0 x1 (IntKind.wrap IntKind.i64 (x2 + (1 : Int))) true x4 x5
                  else none
                else
                  bif decide ((0 : Int) ≤ x2) && decide (x2 < (↑(ByteArray.size x0) : Int)) then
                    bif bAt x0 x2 == (93 : Int) then f73_L23 fu fm x0 x1 (IntKind.wrap IntKind.i64 (x2 + (1 : Int))) false x4 x5 else f73_L23 fu fm x0 x1 (IntKind.wrap IntKind.i64 (x2 + (1 : Int))) x3 x4 x5
                  else none
              else none
        else none
    else none
  else
    bif !x3 then
      bif decide ((0 : Int) ≤ x2) && decide (x2 < (↑(ByteArray.size x0) : Int)) then
        bif !signB (bAt x0 x2) then
          bif x3 then some (SV.tup [SV.agg [SV.int IntKind.i64 (0 : Int), SV.str (ByteArray.mk #[])], SV.int IntKind.i64 (0 : Int)])
          else
            bif x2 == x1 then some (SV.tup [SV.agg [SV.int IntKind.i64 (0 : Int), SV.str (ByteArray.mk #[])], SV.int IntKind.i64 (0 : Int)])
            else
              bif decide ((0 : Int) ≤ x2) && decide (x2 ≤ (↑(ByteArray.size x0) : Int)) && (decide ((0 : Int) ≤ x1) && decide (x1 ≤ x2)) then
                some (SV.tup [SV.agg [SV.int IntKind.i64 (0 : Int), SV.str (ByteArray.extract x0 (Int.toNat x1) (Int.toNat x2))], SV.int IntKind.i64 x2])
              else none
        else
          bif decide ((0 : Int) ≤ x2) && decide (x2 < (↑(ByteArray.size x0) : Int)) then
            bif bAt x0 x2 == (91 : Int) then
              bif decide ((0 : Int) ≤ x2) && decide (x2 < (↑(ByteArray.size x0) : Int)) then
                bif bAt x0 x2 == (93 : Int) then f73_L23 fu fm x0 x1 (IntKind.wrap IntKind.i64 (x2 + (1 : Int))) false x4 x5 else f73_L23 fu fm x0 x1 (IntKind.wrap IntKind.i64 (x2 + (1 : Int))) true x4 x5
              else none
            else
              bif decide ((0 : Int) ≤ x2) && decide (x2 < (↑(ByteArray.size x0) : Int)) then
                bif bAt x0 x2 == (93 : Int) then f73_L23 fu fm x0 x1 (IntKind.wrap IntKind.i64 (x2 + (1 : Int))) false x4 x5 else f73_L23 fu fm x0 x1 (IntKind.wrap IntKind.i64 (x2 + (1 : Int))) x3 x4 x5
              else none
          else none
      else none
    else
      bif decide ((0 : Int) ≤ x2) && decide (x2 < (↑(ByteArray.size x0) : Int)) then
        bif bAt x0 x2 == (91 : Int) then
          bif decide ((0 : Int) ≤ x2) && decide (x2 < (↑(ByteArray.size x0) : Int)) then
            bif bAt x0 x2 == (93 : Int) then f73_L23 fu fm x0 x1 (IntKind.wrap IntKind.i64 (x2 + (1 : Int))) false x4 x5 else f73_L23 fu fm x0 x1 (IntKind.wrap IntKind.i64 (x2 + (1 : Int))) true x4 x5
          else none
        else
          bif decide ((0 : Int) ≤ x2) && decide (x2 < (↑(ByteArray.size x0) : Int)) then
            bif bAt x0 x2 == (93 : Int) then f73_L23 fu fm x0 x1 (IntKind.wrap IntKind.i64 (x2 + (1 : Int))) false x4 x5 else f73_L23 fu fm x0 x1 (IntKind.wrap IntKind.i64 (x2 + (1 : Int))) x3 x4 x5
          else none
      else none
  else
  bif x3 then some (SV.tup [SV.agg [SV.int IntKind.i64 (0 : Int), SV.str (ByteArray.mk #[])], SV.int IntKind.i64 (0 : Int)])
  else
    bif x2 == x1 then some (SV.tup [SV.agg [SV.int IntKind.i64 (0 : Int), SV.str (ByteArray.mk #[])], SV.int IntKind.i64 (0 : Int)])
    else
      bif decide ((0 : Int) ≤ x2) && decide (x2 ≤ (↑(ByteArray.size x0) : Int)) && (decide ((0 : Int) ≤ x1) && decide (x1 ≤ x2)) then
        some (SV.tup [SV.agg [SV.int IntKind.i64 (0 : Int), SV.str (ByteArray.extract x0 (Int.toNat x1) (Int.toNat x2))], SV.int IntKind.i64 x2])
      else none := by kernel_rfl

theorem f73_L8_eq (fu fm : Nat) (x0 : ByteArray) (x1 : ByteArray) (x2 : Int) (x3 : Int) (x4 : ByteArray) : f73_L8 fu (fm + 1) x0 x1 x2 x3 x4 = bif decide (x2 < (↑(ByteArray.size x0) : Int)) then
  bif decide ((0 : Int) ≤ x2) && decide (x2 < (↑(ByteArray.size x0) : Int)) then
    bif bAt x0 x2 == (34 : Int) then some (SV.tup [SV.agg [SV.int IntKind.i64 (1 : Int), SV.str x1], SV.int IntKind.i64 (IntKind.wrap IntKind.i64 (x2 + (1 : Int)))])
    else
      bif decide (bAt x0 x2 < (32 : Int)) then some (SV.tup [SV.agg [SV.int IntKind.i64 (0 : Int), SV.str (ByteArray.mk #[])], SV.int IntKind.i64 (0 : Int)])
      else
        bif bAt x0 x2 == (127 : Int) then some (SV.tup [SV.agg [SV.int IntKind.i64 (0 : Int), SV.str (ByteArray.mk #[])], SV.int IntKind.i64 (0 : Int)])
        else
          bif bAt x0 x2 == (92 : Int) then
            bif IntKind.wrap IntKind.i64 (x2 + (1 : Int)) == (↑(ByteArray.size x0) : Int) then some (SV.tup [SV.agg [SV.int IntKind.i64 (0 : Int), SV.str (ByteArray.mk #[])], SV.int IntKind.i64 (0 : Int)])
            else
              bif decide ((0 : Int) ≤ IntKind.wrap IntKind.i64 (x2 + (1 : Int))) && decide (IntKind.wrap IntKind.i64 (x2 + (1 : Int)) < (↑(ByteArray.size x0) : Int)) then
                bif bAt x0 (IntKind.wrap IntKind.i64 (x2 + (1 : Int))) != (34 : Int) then
                  bif decide ((0 : Int) ≤ IntKind.wrap IntKind.i64 (x2 + (1 : Int))) && decide (IntKind.wrap IntKind.i64 (x2 + (1 : Int)) < (↑(ByteArray.size x0) : Int)) then
                    bif bAt x0 (IntKind.wrap IntKind.i64 (x2 + (1 : Int))) != (92 : Int) then some (SV.tup [SV.agg [SV.int IntKind.i64 (0 : Int), SV.str (ByteArray.mk #[])], SV.int IntKind.i64 (0 : Int)])
                    else
                      bif
                          decide ((0 : Int) ≤ IntKind.wrap IntKind.i64 (IntKind.wrap IntKind.i64 (x2 + (1 : Int)) + (1 : Int))) &&
                              decide (IntKind.wrap IntKind.i64 (IntKind.wrap IntKind.i64 (x2 + (1 : Int)) + (1 : Int)) ≤ (↑(ByteArray.size x0) : Int)) &&
                            (decide ((0 : Int) ≤ IntKind.wrap IntKind.i64 (x2 + (1 : Int))) &&
                              decide (IntKind.wrap IntKind.i64 (x2 + (1 : Int)) ≤ IntKind.wrap IntKind.i64 (IntKind.wrap IntKind.i64 (x2 + (1 : Int)) + (1 : Int)))) then
                        bif
                            Nat.ble
                              (ByteArray.size x1 +
                                ByteArray.size
                                  (ByteArray.extract x0 (Int.toNat (IntKind.wrap IntKind.i64 (x2 + (1 : Int)))) (Int.toNat (IntKind.wrap IntKind.i64 (IntKind.wrap IntKind.i64 (x2 + (1 : Int)) + (1 : Int))))))
                              (9223372036854775807 : Nat) then
                          f73_L8 fu fm x0
                            (x1 ++ ByteArray.extract x0 (Int.toNat (IntKind.wrap IntKind.i64 (x2 + (1 : Int)))) (Int.toNat (IntKind.wrap IntKind.i64 (IntKind.wrap IntKind.i64 (x2 + (1 : Int)) + (1 : Int)))))
                            (IntKind.wrap IntKind.i64 (IntKind.wrap IntKind.i64 (x2 + (1 : Int)) + (1 : Int))) x3 x4
                        else none
                      else none
                  else none
                else
                  bif
                      decide ((0 : Int) ≤ IntKind.wrap IntKind.i64 (IntKind.wrap IntKind.i64 (x2 + (1 : Int)) + (1 : Int))) &&
                          decide (IntKind.wrap IntKind.i64 (IntKind.wrap IntKind.i64 (x2 + (1 : Int)) + (1 : Int)) ≤ (↑(ByteArray.size x0) : Int)) &&
                        (decide ((0 : Int) ≤ IntKind.wrap IntKind.i64 (x2 + (1 : Int))) &&
                          decide (IntKind.wrap IntKind.i64 (x2 + (1 : Int)) ≤ IntKind.wrap IntKind.i64 (IntKind.wrap IntKind.i64 (x2 + (1 : Int)) + (1 : Int)))) then
                    bif
                        Nat.ble
                          (ByteArray.size x1 +
                            ByteArray.size (ByteArray.extract x0 (Int.toNat (IntKind.wrap IntKind.i64 (x2 + (1 : Int)))) (Int.toNat (IntKind.wrap IntKind.i64 (IntKind.wrap IntKind.i64 (x2 + (1 : Int)) + (1 : Int))))))
                          (9223372036854775807 : Nat) then
                      f73_L8 fu fm x0 (x1 ++ ByteArray.extract x0 (Int.toNat (IntKind.wrap IntKind.i64 (x2 + (1 : Int)))) (Int.toNat (IntKind.wrap IntKind.i64 (IntKind.wrap IntKind.i64 (x2 + (1 : Int)) + (1 : Int)))))
                        (IntKind.wrap IntKind.i64 (IntKind.wrap IntKind.i64 (x2 + (1 : Int)) + (1 : Int))) x3 x4
                    else none
                  else none
              else none
          else
            bif
                decide ((0 : Int) ≤ IntKind.wrap IntKind.i64 (x2 + (1 : Int))) && decide (IntKind.wrap IntKind.i64 (x2 + (1 : Int)) ≤ (↑(ByteArray.size x0) : Int)) &&
                  (decide ((0 : Int) ≤ x2) && decide (x2 ≤ IntKind.wrap IntKind.i64 (x2 + (1 : Int)))) then
              bif Nat.ble (ByteArray.size x1 + ByteArray.size (ByteArray.extract x0 (Int.toNat x2) (Int.toNat (IntKind.wrap IntKind.i64 (x2 + (1 : Int)))))) (9223372036854775807 : Nat) then
                f73_L8 fu fm x0 (x1 ++ ByteArray.extract x0 (Int.toNat x2) (Int.toNat (IntKind.wrap IntKind.i64 (x2 + (1 : Int))))) (IntKind.wrap IntKind.i64 (x2 + (1 : Int))) x3 x4
              else none
            else none
  else none
  else some (SV.tup [SV.agg [SV.int IntKind.i64 (0 : Int), SV.str (ByteArray.mk #[])], SV.int IntKind.i64 (0 : Int)]) := by kernel_rfl

theorem f73_eq (fu : Nat) (s : ByteArray) (a : Int) : evFun f73_X fu Try.f73 (frz f73_X.Ty Try.f73) [.str s, .int .i64 a] [] [] = bif decide ((0 : Int) ≤ a) && decide (a < (↑(ByteArray.size s) : Int)) then
  bif bAt s a == (40 : Int) then some (SV.tup [SV.agg [SV.int IntKind.i64 (2 : Int), SV.str (ByteArray.mk #[(40 : UInt8)])], SV.int IntKind.i64 (IntKind.wrap IntKind.i64 (a + (1 : Int)))])
  else
    bif decide ((0 : Int) ≤ a) && decide (a < (↑(ByteArray.size s) : Int)) then
      bif bAt s a == (41 : Int) then some (SV.tup [SV.agg [SV.int IntKind.i64 (3 : Int), SV.str (ByteArray.mk #[(41 : UInt8)])], SV.int IntKind.i64 (IntKind.wrap IntKind.i64 (a + (1 : Int)))])
      else
        bif decide ((0 : Int) ≤ a) && decide (a < (↑(ByteArray.size s) : Int)) then
          bif bAt s a == (34 : Int) then f73_L8 fu fu s (ByteArray.mk #[]) (IntKind.wrap IntKind.i64 (a + (1 : Int))) (0 : Int) (ByteArray.mk #[]) else f73_L23 fu fu s a a false (0 : Int) (ByteArray.mk #[])
        else none
    else none
  else none := by kernel_rfl

def f50_st4 (x0 : ByteArray) (x1 : Int) : St := St.mk
  [SV.str x0, SV.dead, SV.dead, SV.dead, SV.int IntKind.i64 x1, SV.dead, SV.dead, SV.dead, SV.dead, SV.dead, SV.dead, SV.dead, SV.dead, SV.dead, SV.dead, SV.dead, SV.dead, SV.dead, SV.dead, SV.dead, SV.dead, SV.dead,
    SV.dead, SV.dead, SV.dead, SV.dead, SV.dead, SV.dead, SV.dead, SV.dead, SV.dead, SV.dead, SV.dead, SV.dead, SV.dead, SV.dead, SV.dead, SV.dead, SV.dead, SV.dead, SV.dead, SV.dead, SV.dead, SV.dead, SV.dead, SV.dead,
    SV.dead, SV.dead, SV.dead, SV.dead, SV.dead, SV.dead]
  [] []
noncomputable def f50_L4 (fu fm : Nat) (x0 : ByteArray) (x1 : Int) : Option (SV) := atLoop f50_X Try.f50 (frz f50_X.Ty Try.f50) fu [.r, .r, .l, .r, .b] fm (f50_st4 x0 x1)

theorem f50_L4_eq (fu fm : Nat) (x0 : ByteArray) (x1 : Int) : f50_L4 fu (fm + 1) x0 x1 = bif decide (x1 ≥ (0 : Int)) then
  bif decide ((0 : Int) ≤ x1) && decide (x1 < (↑(ByteArray.size x0) : Int)) then
    bif bAt x0 x1 == (123 : Int) then
      bif
          decide ((0 : Int) ≤ IntKind.wrap IntKind.i64 ((↑(ByteArray.size x0) : Int) - (1 : Int))) && decide (IntKind.wrap IntKind.i64 ((↑(ByteArray.size x0) : Int) - (1 : Int)) ≤ (↑(ByteArray.size x0) : Int)) &&
            (decide ((0 : Int) ≤ IntKind.wrap IntKind.i64 (x1 + (1 : Int))) && decide (IntKind.wrap IntKind.i64 (x1 + (1 : Int)) ≤ IntKind.wrap IntKind.i64 ((↑(ByteArray.size x0) : Int) - (1 : Int)))) then
        bif
            decide
              ((↑(ByteArray.size (ByteArray.extract x0 (Int.toNat (IntKind.wrap IntKind.i64 (x1 + (1 : Int)))) (Int.toNat (IntKind.wrap IntKind.i64 ((↑(ByteArray.size x0) : Int) - (1 : Int)))))) : Int) > (9 : Int)) then
          some (SV.tup [SV.int IntKind.i64 (-1 : Int), SV.int IntKind.i64 (↑(ByteArray.size x0) : Int)])
        else
          bif decide (ByteArray.size (ByteArray.extract x0 (Int.toNat (IntKind.wrap IntKind.i64 (x1 + (1 : Int)))) (Int.toNat (IntKind.wrap IntKind.i64 ((↑(ByteArray.size x0) : Int) - (1 : Int))))) < (10 : Nat)) then
            bif decide (numI (ByteArray.extract x0 (Int.toNat (IntKind.wrap IntKind.i64 (x1 + (1 : Int)))) (Int.toNat (IntKind.wrap IntKind.i64 ((↑(ByteArray.size x0) : Int) - (1 : Int))))) < (0 : Int)) then
              some (SV.tup [SV.int IntKind.i64 (-1 : Int), SV.int IntKind.i64 (↑(ByteArray.size x0) : Int)])
            else
              bif decide (ByteArray.size (ByteArray.extract x0 (Int.toNat (IntKind.wrap IntKind.i64 (x1 + (1 : Int)))) (Int.toNat (IntKind.wrap IntKind.i64 ((↑(ByteArray.size x0) : Int) - (1 : Int))))) < (10 : Nat)) then
                some
                  (SV.tup
                    [SV.int IntKind.i64 (numI (ByteArray.extract x0 (Int.toNat (IntKind.wrap IntKind.i64 (x1 + (1 : Int)))) (Int.toNat (IntKind.wrap IntKind.i64 ((↑(ByteArray.size x0) : Int) - (1 : Int)))))),
                      SV.int IntKind.i64 x1])
              else none
          else none
      else none
    else f50_L4 fu fm x0 (IntKind.wrap IntKind.i64 (x1 - (1 : Int)))
  else none
  else some (SV.tup [SV.int IntKind.i64 (-1 : Int), SV.int IntKind.i64 (↑(ByteArray.size x0) : Int)]) := by kernel_rfl

theorem f50_eq (fu : Nat) (s : ByteArray) : evFun f50_X fu Try.f50 (frz f50_X.Ty Try.f50) [.str s] [] [] = bif (↑(ByteArray.size s) : Int) == (0 : Int) then some (SV.tup [SV.int IntKind.i64 (-1 : Int), SV.int IntKind.i64 (↑(ByteArray.size s) : Int)])
  else
  bif decide ((0 : Int) ≤ IntKind.wrap IntKind.i64 ((↑(ByteArray.size s) : Int) - (1 : Int))) && decide (IntKind.wrap IntKind.i64 ((↑(ByteArray.size s) : Int) - (1 : Int)) < (↑(ByteArray.size s) : Int)) then
    bif bAt s (IntKind.wrap IntKind.i64 ((↑(ByteArray.size s) : Int) - (1 : Int))) != (125 : Int) then some (SV.tup [SV.int IntKind.i64 (-1 : Int), SV.int IntKind.i64 (↑(ByteArray.size s) : Int)])
    else f50_L4 fu fu s (IntKind.wrap IntKind.i64 ((↑(ByteArray.size s) : Int) - (2 : Int)))
  else none := by kernel_rfl

end Sx

/-
  Layer 29: the document's token at a place, and its number, are the program's.
-/
set_option linter.unusedVariables false
namespace Sx
open Go Go.Proofs
set_option maxRecDepth 100000
theorem L71_is (fu : Nat) (s : ByteArray) (hs : s.size ≤ 9) : ∀ (k j m n : Nat), j + k = s.size → k < m → n < 10 ^ j →
    f71_L3 fu m s (n : Int) (j : Int) = (match numL (s.data.toList.drop j) n with | some v => some (.int .i64 (bif s.size == 0 then -1 else (v : Int))) | none => some (.int .i64 (-1)))
  | 0, j, m, n, hj, hm, hn => by
    obtain ⟨m, rfl⟩ : ∃ m', m = m' + 1 := ⟨m - 1, by omega⟩
    have hd : s.data.toList.drop j = [] := List.drop_of_length_le (by simp; omega)
    have h1 : ¬ ((j : Int) < (s.size : Int)) := by omega
    rw [f71_L3_eq, hd]
    simp only [h1, decide_false, cond_false, numL]
    have e : (s.toList == ByteArray.toList ⟨#[]⟩) = (s.size == 0) := by
      rw [Bool.eq_iff_iff]
      simp only [beq_iff_eq, ByteArray.toList_eq]
      constructor
      · intro h; have := congrArg List.length h; simpa using this
      · intro h; exact List.eq_nil_of_length_eq_zero (by simpa using h)
    rw [e]
    cases s.size == 0 <;> rfl
  | k + 1, j, m, n, hj, hm, hn => by
    obtain ⟨m, rfl⟩ : ∃ m', m = m' + 1 := ⟨m - 1, by omega⟩
    obtain ⟨b, hb, hd, hat⟩ := drop_cons s j (by omega)
    have h1 : (j : Int) < (s.size : Int) := by omega
    have h2 : (0 : Int) ≤ (j : Int) := by omega
    have w1 : IntKind.wrap .i64 ((j : Int) + 1) = ((j + 1 : Nat) : Int) := by rw [wrap64 (by omega) (by omega)]; omega
    have hp : 10 ^ j ≤ 10 ^ 9 := Nat.pow_le_pow_right (by decide) (by omega)
    have hp9 : (10 : Nat) ^ 9 = 1000000000 := by decide
    rw [hp9] at hp
    rw [f71_L3_eq, hat, hd, w1]
    simp only [h1, h2, decide_true, Bool.and_self, cond_true, numL]
    have hb256 := b.toNat_lt
    by_cases c1 : (b.toNat : Int) < 48
    · have hr : ¬ (48 ≤ b ∧ b ≤ 57) := fun q => by have := UInt8.le_iff_toNat_le.1 q.1; simp at this; omega
      simp only [c1, decide_true, cond_true, hr, if_false]
    · by_cases c2 : (b.toNat : Int) > 57
      · have hr : ¬ (48 ≤ b ∧ b ≤ 57) := fun q => by have := UInt8.le_iff_toNat_le.1 q.2; simp at this; omega
        simp only [c1, c2, decide_true, decide_false, cond_true, cond_false, hr, if_false]
      · have hr : (48 ≤ b ∧ b ≤ 57) := ⟨UInt8.le_iff_toNat_le.2 (by simp; omega), UInt8.le_iff_toNat_le.2 (by simp; omega)⟩
        have v2 : IntKind.wrap .i64 (b.toNat : Int) = (b.toNat : Int) := wrap64 (by omega) (by omega)
        have v3 : IntKind.wrap .i64 ((n : Int) * 10) = ((10 * n : Nat) : Int) := by rw [wrap64 (by omega) (by omega)]; omega
        have v4 : IntKind.wrap .i64 (((10 * n : Nat) : Int) + (b.toNat : Int)) = ((10 * n + b.toNat : Nat) : Int) := by rw [wrap64 (by omega) (by omega)]; omega
        have v5 : IntKind.wrap .i64 (((10 * n + b.toNat : Nat) : Int) - 48) = ((10 * n + (b.toNat - 48) : Nat) : Int) := by rw [wrap64 (by omega) (by omega)]; omega
        simp only [c1, c2, decide_false, cond_false, hr, and_self, if_true, v2, v3, v4, v5]
        exact L71_is fu s hs k (j + 1) m _ (by omega) (by omega) (by rw [Nat.pow_succ]; omega)
theorem s71_ok : SpecOk rE 71 (.plain gNum) := by
  refine plain_of_run (fx_ok rLib_ok [] f71_live) (fn := Try.f71) (by kernel_rfl) (by decide) (by rfl) (fun args sv h => ?_)
  unfold gNum at h
  split at h
  · rename_i s
    simp only [Option.some.injEq, Prod.mk.injEq, decide_eq_true_eq] at h
    obtain ⟨hs, rfl⟩ := h
    refine ⟨rfl, rfl, 20, ?_⟩
    show evFun f71_X 20 Try.f71 (frz f71_X.Ty Try.f71) [.str s] [] [] = _
    have := L71_is 20 s (by omega) s.size 0 20 0 (by omega) (by omega) (by simp)
    rw [show ((0 : Nat) : Int) = 0 from rfl, List.drop_zero] at this
    rw [f71_eq, this]
    unfold numI
    cases numL s.data.toList 0 <;> rfl
  · cases h
theorem lX1_ok : SpecsOk rE (ofList lX1) := .cons s71_ok lA1_ok
/-- What is said of a '{' at i. -/
def annR (s : ByteArray) (i : Nat) : SV :=
  bif decide ((s.extract (i + 1) (s.size - 1)).size > 9) || decide (numI (s.extract (i + 1) (s.size - 1)) < 0) then .tup [.int .i64 (-1), .int .i64 s.size] else .tup [.int .i64 (numI (s.extract (i + 1) (s.size - 1))), .int .i64 i]
theorem L50_is (fu : Nat) (s : ByteArray) (hs : s.size < 4294967281) : ∀ (k m : Nat), k < s.size → k < m →
    f50_L4 fu m s ((k : Int) - 1) = some (if 0 ≤ Lib.lastIdx s 123 k then annR s (Lib.lastIdx s 123 k).toNat else .tup [.int .i64 (-1), .int .i64 s.size])
  | 0, m, hk, hm => by
    obtain ⟨m, rfl⟩ : ∃ m', m = m' + 1 := ⟨m - 1, by omega⟩
    rw [f50_L4_eq]
    rfl
  | k + 1, m, hk, hm => by
    obtain ⟨m, rfl⟩ : ∃ m', m = m' + 1 := ⟨m - 1, by omega⟩
    have e0 : ((k + 1 : Nat) : Int) - 1 = (k : Int) := by omega
    rw [f50_L4_eq, e0]
    have h0 : (k : Int) ≥ 0 := by omega
    have h1 : (0 : Int) ≤ (k : Int) := by omega
    have h2 : (k : Int) < (s.size : Int) := by omega
    have w0 : IntKind.wrap .i64 ((k : Int) - 1) = (k : Int) - 1 := wrap64 (by omega) (by omega)
    have w1 : IntKind.wrap .i64 ((k : Int) + 1) = ((k + 1 : Nat) : Int) := by rw [wrap64 (by omega) (by omega)]; omega
    have w2 : IntKind.wrap .i64 ((s.size : Int) - 1) = ((s.size - 1 : Nat) : Int) := by rw [wrap64 (by omega) (by omega)]; omega
    have hat : bAt s (k : Int) = ((s.data[k]!).toNat : Int) := by
      unfold bAt
      have : k < s.data.size := by simpa using (show k < s.size by omega)
      rw [getElem!_pos s.data k this, List.getD_eq_getElem?_getD, Int.toNat_natCast, Array.getElem?_toList, Array.getElem?_eq_getElem this]; rfl
    simp only [h0, h1, h2, decide_true, Bool.and_self, cond_true, w0, w1, w2, hat, Int.toNat_natCast]
    unfold Lib.lastIdx
    by_cases c : ((s.data[k]!).toNat : Int) = 123
    · have e : (((s.data[k]!).toNat : Int) == 123) = true := by simpa using c
      rw [e, if_pos c, if_pos h1]
      have b1 : (0 : Int) ≤ ((s.size - 1 : Nat) : Int) := by omega
      have b2 : ((s.size - 1 : Nat) : Int) ≤ (s.size : Int) := by omega
      have b3 : (0 : Int) ≤ ((k + 1 : Nat) : Int) := by omega
      have b4 : ((k + 1 : Nat) : Int) ≤ ((s.size - 1 : Nat) : Int) := by omega
      simp only [b1, b2, b3, b4, decide_true, Bool.and_self, cond_true, Int.toNat_natCast, annR]
      by_cases c3 : ((s.extract (k + 1) (s.size - 1)).size : Int) > 9
      · have c3' : (s.extract (k + 1) (s.size - 1)).size > 9 := by omega
        simp only [c3, c3', decide_true, cond_true, Bool.true_or]
      · have c3' : ¬ (s.extract (k + 1) (s.size - 1)).size > 9 := by omega
        have c4 : (s.extract (k + 1) (s.size - 1)).size < 10 := by omega
        simp only [c3, c3', c4, decide_true, decide_false, cond_true, cond_false, Bool.false_or]
        cases decide (numI (s.extract (k + 1) (s.size - 1)) < 0) <;> rfl
    · have e : (((s.data[k]!).toNat : Int) == 123) = false := by simpa using c
      rw [e, if_neg c]
      exact L50_is fu s hs k m (by omega) (by omega)
def gAnn50 : List SV → Option (Bool × SV)
  | [.str s] => some (decide (s.size < 4294967281), .tup [.int .i64 (annN s), .int .i64 (annI s)])
  | _ => none
theorem ann_none {s : ByteArray} (h : annO s = none) : SV.tup [.int .i64 (annN s), .int .i64 (annI s)] = .tup [.int .i64 (-1), .int .i64 s.size] := by
  simp only [annN, annI, h]
theorem s50_ok : SpecOk rE 50 (.plain gAnn50) := by
  refine plain_of_run (fx_ok lX1_ok [] f50_live) (fn := Try.f50) (by kernel_rfl) (by decide) (by rfl) (fun args sv h => ?_)
  unfold gAnn50 at h
  split at h
  · rename_i s
    simp only [Option.some.injEq, Prod.mk.injEq, decide_eq_true_eq] at h
    obtain ⟨hs, rfl⟩ := h
    refine ⟨rfl, rfl, 4294967290, ?_⟩
    show evFun f50_X 4294967290 Try.f50 (frz f50_X.Ty Try.f50) [.str s] [] [] = _
    rw [f50_eq]
    by_cases h0 : s.size = 0
    · have e : ((s.size : Int) == 0) = true := by simp [h0]
      rw [e]
      have hb : sufB s ⟨#[125]⟩ = false := by
        unfold sufB
        rw [show decide ((⟨#[125]⟩ : ByteArray).size ≤ s.size) = false from decide_eq_false (by rw [h0]; decide)]
        rfl
      have : annO s = none := by unfold annO; simp only; rw [if_neg (fun q => by rw [hb] at q; exact absurd q.2.1 (by decide))]
      rw [ann_none this]; rfl
    · have e : ((s.size : Int) == 0) = false := by rw [beq_eq_false_iff_ne]; omega
      rw [e]
      have w2 : IntKind.wrap .i64 ((s.size : Int) - 1) = ((s.size - 1 : Nat) : Int) := by rw [wrap64 (by omega) (by omega)]; omega
      have w3 : IntKind.wrap .i64 ((s.size : Int) - 2) = ((s.size - 1 : Nat) : Int) - 1 := by rw [wrap64 (by omega) (by omega)]; omega
      have b1 : (0 : Int) ≤ ((s.size - 1 : Nat) : Int) := by omega
      have b2 : ((s.size - 1 : Nat) : Int) < (s.size : Int) := by omega
      have hat : bAt s ((s.size - 1 : Nat) : Int) = ((s.data[s.size - 1]!).toNat : Int) := by
        unfold bAt
        have : s.size - 1 < s.data.size := by simpa using (show s.size - 1 < s.size by omega)
        rw [getElem!_pos s.data _ this, List.getD_eq_getElem?_getD, Int.toNat_natCast, Array.getElem?_toList, Array.getElem?_eq_getElem this]; rfl
      simp only [w2, w3, b1, b2, hat, decide_true, Bool.and_self, cond_true, cond_false]
      by_cases c : ((s.data[s.size - 1]!).toNat : Int) = 125
      · have e : (((s.data[s.size - 1]!).toNat : Int) != 125) = false := by simp [c]
        rw [e]
        simp only [cond_false]
        rw [L50_is 4294967290 s hs (s.size - 1) 4294967290 (by omega) (by omega)]
        have hlt : s.size - 1 < s.data.size := by simpa using (show s.size - 1 < s.size by omega)
        have hc : s.data[s.size - 1]! = 125 := by apply UInt8.toNat_inj.1; simp; omega
        have hl : Lib.lastIdx s 123 (s.size - 1) = Lib.lastIndexByte s 123 := by
          unfold Lib.lastIndexByte
          conv => rhs; rw [show s.size = s.size - 1 + 1 by omega]
          show _ = if ((s.data[s.size - 1]!).toNat : Int) = 123 then _ else _
          rw [if_neg (by rw [hc]; decide)]
        rw [hl]
        have hb : sufB s ⟨#[125]⟩ = true := by
          have e1 : (⟨#[125]⟩ : ByteArray).size = 1 := rfl
          unfold sufB
          rw [e1, show decide (1 ≤ s.size) = true from decide_eq_true (by omega)]
          simp only [Bool.true_and, beq_iff_eq, ByteArray.toList_eq]
          simp only [ByteArray.data_extract, Array.toList_extract, List.extract_eq_take_drop]
          rw [List.drop_eq_getElem_cons (by simpa using hlt)]
          have : s.data.toList[s.size - 1]'(by simpa using hlt) = 125 := by
            rw [getElem!_pos s.data _ hlt] at hc
            simpa using hc
          rw [this, List.drop_of_length_le (by simp; omega)]
          have : s.size - (s.size - 1) = 1 := by omega
          rw [this]; rfl
        rcases Lib.lastIndexByte_spec s 123 with ⟨e, _⟩ | ⟨i, hi, e, _, _⟩
        · rw [e]
          have : annO s = none := by unfold annO; simp only; rw [if_neg (by rw [e]; omega)]
          rw [ann_none this]; rfl
        · rw [e]
          have h0 : (0 : Int) ≤ (i : Int) := by omega
          rw [if_pos h0]
          simp only [Int.toNat_natCast]
          obtain ⟨d, hd⟩ : ∃ d, s.extract (i + 1) (s.size - 1) = d := ⟨_, rfl⟩
          have hO : annO s = if 1 ≤ d.size ∧ d.size ≤ 9 then (numL d.data.toList 0).map (·, i) else none := by
            unfold annO
            simp only [e, hb, Int.toNat_natCast, hd]
            have : d.data.toList.length = d.size := by simp
            rw [this]
            simp only [h0, true_and]
          unfold annR
          simp only [hd]
          by_cases c2 : d.size > 9
          · rw [if_neg (by omega)] at hO
            rw [ann_none hO, decide_eq_true c2]; rfl
          · rw [decide_eq_false c2]
            simp only [Bool.false_or]
            by_cases c3 : d.size = 0
            · rw [if_neg (by omega)] at hO
              have : numI d < 0 := by
                unfold numI
                have : d.data.toList = [] := List.eq_nil_of_length_eq_zero (by simpa using c3)
                rw [this]
                simp [numL, c3]
              rw [ann_none hO, decide_eq_true this]; rfl
            · rw [if_pos (by omega)] at hO
              have e0 : (d.size == 0) = false := by simpa using c3
              unfold numI
              cases hn : numL d.data.toList 0 with
              | none =>
                rw [hn] at hO
                rw [ann_none hO]; rfl
              | some v =>
                rw [hn] at hO
                have hO : annO s = some (v, i) := hO
                simp only [e0, cond_false]
                rw [decide_eq_false (by omega)]
                simp only [annN, annI, hO, cond_false]
      · have e : (((s.data[s.size - 1]!).toNat : Int) != 125) = true := by simpa using c
        rw [e]
        have hb : ¬ sufB s ⟨#[125]⟩ = true := fun q => by
          obtain ⟨h0, hlast⟩ := suf_one s 125 q
          have hlt : s.size - 1 < s.data.size := by simpa using (show s.size - 1 < s.size by omega)
          rw [getElem!_pos s.data _ hlt] at c
          have := Array.getElem?_toList (xs := s.data) (i := s.size - 1)
          rw [hlast, Array.getElem?_eq_getElem hlt] at this
          simp only [Option.some.injEq] at this
          rw [← this] at c
          exact c rfl
        have : annO s = none := by unfold annO; simp only; rw [if_neg (fun q => hb q.2.1)]
        rw [ann_none this]; rfl
  · cases h
end Sx

/-
  Layer 29: the document's token at a place is the program's.
-/
set_option linter.unusedVariables false
set_option linter.unusedSimpArgs false
namespace Sx
open Go Go.Proofs
set_option maxRecDepth 100000
theorem append_one (s : ByteArray) (i : Nat) (acc : List UInt8) (b : UInt8) (r : List UInt8) (h : s.data.toList.drop i = b :: r) : (⟨acc.toArray⟩ : ByteArray) ++ s.extract i (i + 1) = ⟨(acc ++ [b]).toArray⟩ := by
  apply ByteArray.ext
  apply Array.toList_inj.1
  simp only [ByteArray.data_append, ByteArray.data_extract, Array.toList_append, Array.toList_extract, List.extract_eq_take_drop, h]
  have : i + 1 - i = 1 := by omega
  rw [this]; rfl
theorem extract_one (s : ByteArray) (i : Nat) (h : i < s.size) : (s.extract i (i + 1)).size = 1 := by
  simp only [ByteArray.size_extract]; omega
def badT : Option SV := some (SV.tup [SV.agg [SV.int .i64 0, SV.str ⟨#[]⟩], SV.int .i64 0])
/-- What the reference makes of a string that was read up to i. -/
def quT (s : ByteArray) (i : Nat) (acc : List UInt8) : Option SV :=
  match (quoL (s.data.toList.drop i) acc).1 with
  | some t => some (SV.tup [SV.agg [SV.int .i64 1, SV.str ⟨t.toArray⟩], SV.int .i64 ((i + (quoL (s.data.toList.drop i) acc).2 : Nat) : Int)])
  | none => badT
theorem L8_is (fu : Nat) (s : ByteArray) (hs : s.size < 4294967281) (x3 : Int) (x4 : ByteArray) : ∀ n k i acc m, k ≤ n → i + k = s.size → acc.length ≤ i → k < m → f73_L8 fu m s ⟨acc.toArray⟩ (i : Int) x3 x4 = quT s i acc
  | n, 0, i, acc, m, hn, hi, ha, hm => by
    obtain ⟨m, rfl⟩ : ∃ m', m = m' + 1 := ⟨m - 1, by omega⟩
    have hd : s.data.toList.drop i = [] := List.drop_of_length_le (by simp; omega)
    have h1 : ¬ ((i : Int) < (s.size : Int)) := by omega
    rw [f73_L8_eq]
    simp [h1, quT, hd, quoL, badT]
  | n + 1, k + 1, i, acc, m, hn, hi, ha, hm => by
    obtain ⟨m, rfl⟩ : ∃ m', m = m' + 1 := ⟨m - 1, by omega⟩
    obtain ⟨b, hb, hd, hat⟩ := drop_cons s i (by omega)
    have w1 : IntKind.wrap .i64 ((i : Int) + 1) = ((i + 1 : Nat) : Int) := by rw [wrap64 (by omega) (by omega)]; omega
    have w2 : IntKind.wrap .i64 (((i + 1 : Nat) : Int) + 1) = ((i + 2 : Nat) : Int) := by rw [wrap64 (by omega) (by omega)]; omega
    have h1 : (i : Int) < (s.size : Int) := by omega
    have h4 : (0 : Int) ≤ (i : Int) := by omega
    have e34 := beqI b 34 (by decide)
    have e127 := beqI b 127 (by decide)
    have e92 := beqI b 92 (by decide)
    simp only [show ((34 : Nat) : Int) = 34 from rfl, show ((127 : Nat) : Int) = 127 from rfl, show ((92 : Nat) : Int) = 92 from rfl, show (34 : Nat).toUInt8 = (34 : UInt8) from rfl, show (127 : Nat).toUInt8 = (127 : UInt8) from rfl, show (92 : Nat).toUInt8 = (92 : UInt8) from rfl] at e34 e127 e92
    have e32 : decide ((b.toNat : Int) < 32) = decide (b < 32) := decide_eq_decide.2 (by rw [UInt8.lt_iff_toNat_lt]; simp; omega)
    rw [f73_L8_eq, hat, w1, w2]
    simp only [h1, h4, decide_true, cond_true, Bool.and_true, e34, e127, e92, e32, Int.toNat_natCast]
    by_cases c34 : b = 34
    · subst c34
      simp [quT, hd, quoL_end]
    · have n34 : (b == 34) = false := by simpa using c34
      rw [n34, cond_false]
      by_cases c32 : b < 32 ∨ b = 127
      · have hq := quoL_bad c34 c32 (s.data.toList.drop (i + 1)) acc
        rcases c32 with q | q
        · simp [q, quT, hd, hq, badT]
        · subst q
          simp [quT, hd, hq, badT]
      · have c1 : ¬ (b < 32) := fun q => c32 (.inl q)
        have c2 : (b == 127) = false := by
          have : b ≠ 127 := fun q => c32 (.inr q)
          simpa using this
        simp only [c1, c2, decide_false, cond_false]
        by_cases c92 : b = 92
        · subst c92
          simp only [beq_self_eq_true, cond_true]
          rcases Nat.lt_or_ge (i + 1) s.size with hlt | hge
          · obtain ⟨d, hb2, hd2, hat2⟩ := drop_cons s (i + 1) hlt
            have x1 : (((i + 1 : Nat) : Int) == (s.size : Int)) = false := by simp; omega
            have x2' : (0 : Int) ≤ ((i + 1 : Nat) : Int) := by omega
            have x3' : ((i + 1 : Nat) : Int) < (s.size : Int) := by omega
            have x4' : (0 : Int) ≤ ((i + 2 : Nat) : Int) := by omega
            have x5' : ((i + 2 : Nat) : Int) ≤ (s.size : Int) := by omega
            have x6' : ((i + 1 : Nat) : Int) ≤ ((i + 2 : Nat) : Int) := by omega
            have d34 := beqI d 34 (by decide)
            have d92 := beqI d 92 (by decide)
            simp only [show ((34 : Nat) : Int) = 34 from rfl, show ((92 : Nat) : Int) = 92 from rfl, show (34 : Nat).toUInt8 = (34 : UInt8) from rfl, show (92 : Nat).toUInt8 = (92 : UInt8) from rfl] at d34 d92
            have hsz : Nat.ble ((⟨acc.toArray⟩ : ByteArray).size + (s.extract (i + 1) (i + 2)).size) 9223372036854775807 = true := Nat.ble_eq_true_of_le (by
              rw [extract_one s (i + 1) hlt]
              have : (⟨acc.toArray⟩ : ByteArray).size = acc.length := by simp [ByteArray.size]
              omega)
            have hap := append_one s (i + 1) acc d _ hd2
            rw [hat2, x1]
            simp only [cond_false, x2', x3', x4', x5', x6', decide_true, Bool.and_self, Bool.and_true, cond_true, bne, d34, d92, hsz, hap]
            obtain ⟨j, rfl⟩ : ∃ j, k = j + 1 := ⟨k - 1, by omega⟩
            have ih := L8_is fu s hs x3 x4 n j (i + 2) (acc ++ [d]) m (by omega) (by omega) (by simp; omega) (by omega)
            have fin : quoL (s.data.toList.drop i) acc = (if d = 34 ∨ d = 92 then ((quoL (s.data.toList.drop (i + 2)) (acc ++ [d])).1, (quoL (s.data.toList.drop (i + 2)) (acc ++ [d])).2 + 2) else (none, 1)) := by
              rw [hd, hd2]; simp [quoL]
            have good : d = 34 ∨ d = 92 → quT s (i + 2) (acc ++ [d]) = quT s i acc := fun q => by
              unfold quT
              rw [fin, if_pos q]
              simp only
              have : i + 2 + (quoL (s.data.toList.drop (i + 2)) (acc ++ [d])).2 = i + ((quoL (s.data.toList.drop (i + 2)) (acc ++ [d])).2 + 2) := by omega
              rw [this]
            by_cases q34 : d = 34
            · have : (d == 34) = true := by simpa using q34
              rw [this]
              simp only [Bool.not_true, cond_false]
              rw [ih]; exact good (.inl q34)
            · have t34 : (d == 34) = false := by simpa using q34
              rw [t34]
              simp only [Bool.not_false, cond_true]
              by_cases q92 : d = 92
              · have : (d == 92) = true := by simpa using q92
                rw [this]
                simp only [Bool.not_true, cond_false]
                rw [ih]; exact good (.inr q92)
              · have t92 : (d == 92) = false := by simpa using q92
                rw [t92]
                simp only [Bool.not_false, cond_true]
                have hno : ¬ (d = 34 ∨ d = 92) := fun q => q.elim q34 q92
                rw [if_neg hno] at fin
                simp [quT, fin, badT]
          · have x1 : (((i + 1 : Nat) : Int) == (s.size : Int)) = true := by simp; omega
            rw [x1]
            have hd2 : s.data.toList.drop (i + 1) = [] := List.drop_of_length_le (by simp; omega)
            simp [quT, hd, hd2, quoL, badT]
        · have n92 : (b == 92) = false := by simpa using c92
          rw [n92]
          have x4' : (0 : Int) ≤ ((i + 1 : Nat) : Int) := by omega
          have x5' : ((i + 1 : Nat) : Int) ≤ (s.size : Int) := by omega
          have x6' : (i : Int) ≤ ((i + 1 : Nat) : Int) := by omega
          have hsz : Nat.ble ((⟨acc.toArray⟩ : ByteArray).size + (s.extract i (i + 1)).size) 9223372036854775807 = true := Nat.ble_eq_true_of_le (by
            rw [extract_one s i (by omega)]
            have : (⟨acc.toArray⟩ : ByteArray).size = acc.length := by simp [ByteArray.size]
            omega)
          have hap := append_one s i acc b _ hd
          simp only [cond_false, x4', x5', x6', decide_true, Bool.and_self, Bool.and_true, cond_true, hsz, hap]
          have ih := L8_is fu s hs x3 x4 n k (i + 1) (acc ++ [b]) m (by omega) (by omega) (by simp; omega) (by omega)
          rw [ih]
          unfold quT
          rw [hd, quoL_plain c34 c32 c92]
          simp only
          have : i + 1 + (quoL (s.data.toList.drop (i + 1)) (acc ++ [b])).2 = i + ((quoL (s.data.toList.drop (i + 1)) (acc ++ [b])).2 + 1) := by omega
          rw [this]
/-- What the reference makes of an atom from a on that was read up to i. -/
def atT (s : ByteArray) (a : Nat) (o : Bool) (i : Nat) : Option SV :=
  bif (atmL o (s.data.toList.drop i)).1 && decide (a < i + (atmL o (s.data.toList.drop i)).2) then some (SV.tup [SV.agg [SV.int .i64 0, SV.str (s.extract a (i + (atmL o (s.data.toList.drop i)).2))], SV.int .i64 ((i + (atmL o (s.data.toList.drop i)).2 : Nat) : Int)]) else badT
theorem atT_stop {s : ByteArray} {a : Nat} {o : Bool} {i : Nat} (h : atmL o (s.data.toList.drop i) = (true, 0)) (ha : a ≤ i) : atT s a o i = bif (i : Int) == (a : Int) then badT else some (SV.tup [SV.agg [SV.int .i64 0, SV.str (s.extract a i)], SV.int .i64 (i : Int)]) := by
  unfold atT
  rw [h]
  show (bif true && decide (a < i) then some (SV.tup [SV.agg [SV.int .i64 0, SV.str (s.extract a i)], SV.int .i64 (i : Int)]) else badT) = _
  by_cases c : i = a
  · rw [show ((i : Int) == (a : Int)) = true from beq_iff_eq.2 (by omega), decide_eq_false (show ¬ a < i by omega)]; rfl
  · rw [show ((i : Int) == (a : Int)) = false from beq_eq_false_iff_ne.2 (by omega), decide_eq_true (show a < i by omega)]; rfl
theorem L23_is (fu : Nat) (s : ByteArray) (hs : s.size < 4294967281) (a : Nat) (x4 : Int) (x5 : ByteArray) : ∀ k i m o, i + k = s.size → a ≤ i → k < m → f73_L23 fu m s (a : Int) (i : Int) o x4 x5 = atT s a o i
  | 0, i, m, o, hi, ha, hm => by
    obtain ⟨m, rfl⟩ : ∃ m', m = m' + 1 := ⟨m - 1, by omega⟩
    have hd : s.data.toList.drop i = [] := List.drop_of_length_le (by simp; omega)
    have h1 : ¬ ((i : Int) < (s.size : Int)) := by omega
    have h2 : (0 : Int) ≤ (i : Int) := by omega
    have h3 : (i : Int) ≤ (s.size : Int) := by omega
    have h4 : (0 : Int) ≤ (a : Int) := by omega
    have h5 : (a : Int) ≤ (i : Int) := by omega
    rw [f73_L23_eq]
    simp only [h1, h2, h3, h4, h5, decide_true, decide_false, cond_true, cond_false, Bool.and_self, Int.toNat_natCast]
    cases o with
    | true => unfold atT; rw [hd]; rfl
    | false => rw [atT_stop (by rw [hd]; rfl) ha]; rfl
  | k + 1, i, m, o, hi, ha, hm => by
    obtain ⟨m, rfl⟩ : ∃ m', m = m' + 1 := ⟨m - 1, by omega⟩
    obtain ⟨b, hb, hd, hat⟩ := drop_cons s i (by omega)
    have w1 : IntKind.wrap .i64 ((i : Int) + 1) = ((i + 1 : Nat) : Int) := by rw [wrap64 (by omega) (by omega)]; omega
    have h1 : (i : Int) < (s.size : Int) := by omega
    have h2 : (0 : Int) ≤ (i : Int) := by omega
    have h3 : (i : Int) ≤ (s.size : Int) := by omega
    have h4 : (0 : Int) ≤ (a : Int) := by omega
    have h5 : (a : Int) ≤ (i : Int) := by omega
    have e91 := beqI b 91 (by decide)
    have e93 := beqI b 93 (by decide)
    simp only [show ((91 : Nat) : Int) = 91 from rfl, show (91 : Nat).toUInt8 = (91 : UInt8) from rfl, show ((93 : Nat) : Int) = 93 from rfl, show (93 : Nat).toUInt8 = (93 : UInt8) from rfl] at e91 e93
    have eS : signB (b.toNat : Int) = sgn b := rfl
    have ih := fun o' => L23_is fu s hs a x4 x5 k (i + 1) m o' (by omega) (by omega) (by omega)
    have step : ∀ o', atmL o (b :: s.data.toList.drop (i + 1)) = ((atmL o' (s.data.toList.drop (i + 1))).1, (atmL o' (s.data.toList.drop (i + 1))).2 + 1) → atT s a o' (i + 1) = atT s a o i := fun o' h => by
      unfold atT
      rw [hd, h]
      simp only
      have : i + 1 + (atmL o' (s.data.toList.drop (i + 1))).2 = i + ((atmL o' (s.data.toList.drop (i + 1))).2 + 1) := by omega
      rw [this]
    rw [f73_L23_eq, hat, w1]
    simp only [h1, h2, h3, h4, h5, decide_true, cond_true, Bool.and_self, e91, e93, eS, ih, Int.toNat_natCast]
    cases o with
    | false =>
      simp only [cond_false, Bool.not_false, cond_true]
      cases hS : sgn b with
      | false =>
        simp only [Bool.not_false, cond_true]
        have hat : atmL false (b :: s.data.toList.drop (i + 1)) = (true, 0) := by simp [atmL, hS]
        rw [atT_stop (by rw [hd]; exact hat) ha]; rfl
      | true =>
        simp only [Bool.not_true, cond_false]
        have hat : atmL false (b :: s.data.toList.drop (i + 1)) = ((atmL (b == 91) (s.data.toList.drop (i + 1))).1, (atmL (b == 91) (s.data.toList.drop (i + 1))).2 + 1) := by simp [atmL, hS]
        rw [← step _ hat]
        by_cases c : b = 91
        · subst c; rfl
        · have e1 : (b == 91) = false := by simpa using c
          rw [e1]
          cases b == 93 <;> rfl
    | true =>
      simp only [Bool.not_true, cond_false, cond_true]
      by_cases c1 : (b.toNat : Int) < 32
      · have hr : ¬ (32 ≤ b ∧ b < 127) := fun q => by have := UInt8.le_iff_toNat_le.1 q.1; simp at this; omega
        have hat : atmL true (b :: s.data.toList.drop (i + 1)) = (false, 0) := by simp only [atmL, hr, if_false]
        unfold atT
        rw [hd, hat]
        simp only [c1, decide_true, cond_true, Bool.false_and, cond_false]; rfl
      · by_cases c2 : (b.toNat : Int) > 126
        · have hr : ¬ (32 ≤ b ∧ b < 127) := fun q => by have := UInt8.lt_iff_toNat_lt.1 q.2; simp at this; omega
          have hat : atmL true (b :: s.data.toList.drop (i + 1)) = (false, 0) := by simp only [atmL, hr, if_false]
          unfold atT
          rw [hd, hat]
          simp only [c1, c2, decide_true, decide_false, cond_true, Bool.false_and, cond_false]; rfl
        · have hr : (32 ≤ b ∧ b < 127) := ⟨UInt8.le_iff_toNat_le.2 (by simp; omega), UInt8.lt_iff_toNat_lt.2 (by simp; omega)⟩
          have hat : atmL true (b :: s.data.toList.drop (i + 1)) = ((atmL (b != 93) (s.data.toList.drop (i + 1))).1, (atmL (b != 93) (s.data.toList.drop (i + 1))).2 + 1) := by simp only [atmL, hr, and_self, if_true]
          simp only [c1, c2, decide_false, cond_false]
          rw [← step _ hat]
          by_cases c : b = 91
          · subst c; rfl
          · have e1 : (b == 91) = false := by simpa using c
            rw [e1]
            simp only [cond_false, bne]
            cases b == 93 <;> rfl
/-- The token at a place, and the place behind it; 0: there is none. -/
def gCutT : List SV → Option (Bool × SV)
  | [.str s, .int .i64 a] => some (inText s a, .tup [.agg [.int .i64 (bif tokB s a then tokK s a else 0), .str (bif tokB s a then tokS s a else ⟨#[]⟩)], .int .i64 (bif tokB s a then tokN s a else 0)])
  | _ => none
theorem s73_ok : SpecOk rE 73 (.plain gCutT) := by
  refine plain_of_run (fx_ok lA1_ok [] f73_live) (fn := Try.f73) (by kernel_rfl) (by decide) (by rfl) (fun args sv h => ?_)
  unfold gCutT at h
  split at h
  · rename_i s a
    simp only [Option.some.injEq, Prod.mk.injEq] at h
    obtain ⟨hc, rfl⟩ := h
    simp only [inText, Bool.and_eq_true, decide_eq_true_eq] at hc
    obtain ⟨⟨h0, h1⟩, hs⟩ := hc
    refine ⟨rfl, rfl, 4294967290, ?_⟩
    show evFun f73_X 4294967290 Try.f73 (frz f73_X.Ty Try.f73) [.str s, .int .i64 a] [] [] = _
    obtain ⟨i, rfl⟩ : ∃ i : Nat, a = i := ⟨a.toNat, by omega⟩
    have w1 : IntKind.wrap .i64 ((i : Int) + 1) = ((i + 1 : Nat) : Int) := by rw [wrap64 (by omega) (by omega)]; omega
    rw [f73_eq, w1]
    have hq := L8_is 4294967290 s hs 0 ⟨#[]⟩ (s.size - (i + 1)) (s.size - (i + 1)) (i + 1) [] 4294967290 (Nat.le_refl _) (by omega) (by simp) (by omega)
    have ha := L23_is 4294967290 s hs i 0 ⟨#[]⟩ (s.size - i) i 4294967290 false (by omega) (by omega) (by omega)
    rw [ha, hq]
    simp only [h0, h1, decide_true, Bool.and_self, cond_true]
    have e1 : ((i : Int) + 1).toNat = i + 1 := by omega
    by_cases c40 : bAt s (i : Int) = 40
    · have e : (bAt s (i : Int) == 40) = true := by simpa using c40
      rw [e]
      have c34 : ¬ bAt s (i : Int) = 34 := by omega
      simp only [tokB, tokK, tokS, tokN, c34, c40, if_true, if_false, cond_true]
      rfl
    · have e : (bAt s (i : Int) == 40) = false := by simpa using c40
      rw [e]
      by_cases c41 : bAt s (i : Int) = 41
      · have e : (bAt s (i : Int) == 41) = true := by simpa using c41
        rw [e]
        have c34 : ¬ bAt s (i : Int) = 34 := by omega
        simp only [tokB, tokK, tokS, tokN, c34, c40, c41, if_true, if_false, cond_true, cond_false]
        rfl
      · have e : (bAt s (i : Int) == 41) = false := by simpa using c41
        rw [e]
        by_cases c34 : bAt s (i : Int) = 34
        · have e : (bAt s (i : Int) == 34) = true := by simpa using c34
          rw [e]
          simp only [tokB, tokK, tokS, tokN, c34, if_true, cond_true, cond_false]
          unfold quT quoB quoK quoS quoN quoB dropI
          rw [e1]
          cases hq : (quoL (s.data.toList.drop (i + 1)) []).1 with
          | none => rfl
          | some t =>
            simp only [Option.isSome_some, if_true, cond_true, Option.getD_some]
            congr 5
        · have e : (bAt s (i : Int) == 34) = false := by simpa using c34
          rw [e]
          simp only [tokB, tokK, tokS, tokN, c34, c40, c41, if_false, cond_false]
          unfold atT atomB atomN atomS dropI atomN dropI
          simp only [Int.toNat_natCast]
          have e2 : decide ((i : Int) < (i : Int) + ((atmL false (s.data.toList.drop i)).2 : Int)) = decide (i < i + (atmL false (s.data.toList.drop i)).2) := decide_eq_decide.2 (by omega)
          have e3 : ((i : Int) + ((atmL false (s.data.toList.drop i)).2 : Int)).toNat = i + (atmL false (s.data.toList.drop i)).2 := by omega
          rw [e2, e3]
          cases h4 : (atmL false (s.data.toList.drop i)).1 with
          | false => rfl
          | true =>
            cases h5 : decide (i < i + (atmL false (s.data.toList.drop i)).2) with
            | false => rfl
            | true => rfl
  · cases h
noncomputable def lG0 : List (Nat × Spec) := (73, .plain gCutT) :: (50, .plain gAnn50) :: lX1
theorem lG0_ok : SpecsOk rE (ofList lG0) := .cons s73_ok (.cons s50_ok lX1_ok)
end Sx

/-
  What the executor says of functions: the normal forms, each compared by the kernel. (Printed by a program.)
-/
set_option linter.unusedVariables false
namespace Sx
open Go Go.Proofs
set_option maxRecDepth 100000
/-- The slots that are needed at the loops' heads of 'hamper/hamperref29.Tokens'. -/
noncomputable def f52_live : Nat → List Nat × List (Nat × TypeId) := fun h => bif Nat.beq h 26 then ([4, 5, 11], nilsOf (tyOf Try.prog) [(4, 80), (5, 59), (11, 3)]) else bif Nat.beq h 12 then ([0, 4, 5, 6, 7, 8], nilsOf (tyOf Try.prog) [(0, 71), (4, 80), (5, 59), (6, 3), (7, 3), (8, 3)]) else bif Nat.beq h 5 then ([0, 4, 5, 6, 7], nilsOf (tyOf Try.prog) [(0, 71), (4, 80), (5, 59), (6, 3), (7, 3)]) else ([], [])
noncomputable def f52_X (sm : List Nat) : Fx := ⟨tyOf Try.prog, ofList lG0, sm, f52_live⟩
/-- The slots that are needed at the loops' heads of 'hamper/hamperref29.Tag'. -/
noncomputable def f51_live : Nat → List Nat × List (Nat × TypeId) := fun h => bif Nat.beq h 5 then ([3, 4], nilsOf (tyOf Try.prog) [(3, 9), (4, 3)]) else ([], [])
noncomputable def f51_X : Fx := ⟨tyOf Try.prog, ofList lG0, [], f51_live⟩
def f52_st26 (x0 : Int) (x1 : List SV) (x2 : List SV) (x3 : List SV) : St := St.mk
  [SV.dead, SV.dead, SV.dead, SV.dead, SV.row (100 : Nat), SV.row (101 : Nat), SV.dead, SV.dead, SV.dead, SV.dead, SV.dead, SV.int IntKind.i64 x0, SV.dead, SV.dead, SV.dead, SV.dead, SV.dead, SV.dead, SV.dead, SV.dead,
    SV.dead, SV.dead, SV.dead, SV.dead, SV.dead, SV.dead, SV.dead, SV.dead, SV.dead, SV.dead, SV.dead, SV.dead, SV.dead, SV.dead, SV.dead, SV.dead, SV.dead, SV.dead, SV.dead, SV.dead, SV.dead, SV.dead, SV.dead, SV.dead,
    SV.dead, SV.dead, SV.dead, SV.dead, SV.dead, SV.dead, SV.dead, SV.dead, SV.dead, SV.dead, SV.dead, SV.dead, SV.dead, SV.dead, SV.dead, SV.dead, SV.dead, SV.dead, SV.dead, SV.dead, SV.dead, SV.dead, SV.dead, SV.dead,
    SV.dead, SV.dead, SV.dead, SV.dead, SV.dead, SV.dead, SV.dead, SV.dead, SV.dead, SV.dead, SV.dead, SV.dead, SV.dead, SV.dead, SV.dead, SV.dead, SV.dead, SV.dead, SV.dead, SV.dead, SV.dead, SV.dead, SV.dead, SV.dead,
    SV.dead, SV.dead, SV.dead, SV.dead, SV.dead, SV.dead, SV.dead, SV.dead, SV.dead, SV.dead, SV.dead, SV.dead, SV.dead, SV.dead, SV.dead, SV.dead, SV.dead, SV.dead, SV.dead, SV.dead]
  [((0 : Nat), SObj.row (77 : Nat) x1), ((100 : Nat), SObj.row (88 : Nat) x2), ((101 : Nat), SObj.row (3 : Nat) x3)] [(0 : Nat), (100 : Nat), (101 : Nat)]
noncomputable def f52_L26 (fu fm : Nat) (x0 : Int) (x1 : List SV) (x2 : List SV) (x3 : List SV) : Option (Option (SV × Mem)) := atLoop (f52_X [0]) Try.f52 (finW (tyOf Try.prog) [0] 1) fu [.r, .r, .r, .r, .r, .r, .l, .r, .b] fm (f52_st26 x0 x1 x2 x3)

def f52_st12 (x0 : Int) (x1 : Int) (x2 : Int) (x3 : List SV) (x4 : List SV) (x5 : List SV) : St := St.mk
  [SV.row (0 : Nat), SV.dead, SV.dead, SV.dead, SV.row (100 : Nat), SV.row (101 : Nat), SV.int IntKind.i64 x0, SV.int IntKind.i64 x1, SV.int IntKind.i64 x2, SV.dead, SV.dead, SV.dead, SV.dead, SV.dead, SV.dead, SV.dead,
    SV.dead, SV.dead, SV.dead, SV.dead, SV.dead, SV.dead, SV.dead, SV.dead, SV.dead, SV.dead, SV.dead, SV.dead, SV.dead, SV.dead, SV.dead, SV.dead, SV.dead, SV.dead, SV.dead, SV.dead, SV.dead, SV.dead, SV.dead, SV.dead,
    SV.dead, SV.dead, SV.dead, SV.dead, SV.dead, SV.dead, SV.dead, SV.dead, SV.dead, SV.dead, SV.dead, SV.dead, SV.dead, SV.dead, SV.dead, SV.dead, SV.dead, SV.dead, SV.dead, SV.dead, SV.dead, SV.dead, SV.dead, SV.dead,
    SV.dead, SV.dead, SV.dead, SV.dead, SV.dead, SV.dead, SV.dead, SV.dead, SV.dead, SV.dead, SV.dead, SV.dead, SV.dead, SV.dead, SV.dead, SV.dead, SV.dead, SV.dead, SV.dead, SV.dead, SV.dead, SV.dead, SV.dead, SV.dead,
    SV.dead, SV.dead, SV.dead, SV.dead, SV.dead, SV.dead, SV.dead, SV.dead, SV.dead, SV.dead, SV.dead, SV.dead, SV.dead, SV.dead, SV.dead, SV.dead, SV.dead, SV.dead, SV.dead, SV.dead, SV.dead, SV.dead, SV.dead, SV.dead]
  [((0 : Nat), SObj.row (77 : Nat) x3), ((100 : Nat), SObj.row (88 : Nat) x4), ((101 : Nat), SObj.row (3 : Nat) x5)] [(0 : Nat), (100 : Nat), (101 : Nat)]
noncomputable def f52_L12 (fu fm : Nat) (k0 : Nat) (x0 : Int) (x1 : Int) (x2 : Int) (x3 : List SV) (x4 : List SV) (x5 : List SV) : Option (Option (SV × Mem)) := atLoop (f52_X [0]) Try.f52 (finW (tyOf Try.prog) [0] 1) fu [.r, .r, .r, .r, .l, .r, .b, .o k0, .r, .l, .b, .r, .r, .b] fm (f52_st12 x0 x1 x2 x3 x4 x5)

def f52_st5 (x0 : Int) (x1 : Int) (x2 : List SV) (x3 : List SV) (x4 : List SV) : St := St.mk
  [SV.row (0 : Nat), SV.dead, SV.dead, SV.dead, SV.row (100 : Nat), SV.row (101 : Nat), SV.int IntKind.i64 x0, SV.int IntKind.i64 x1, SV.dead, SV.dead, SV.dead, SV.dead, SV.dead, SV.dead, SV.dead, SV.dead, SV.dead,
    SV.dead, SV.dead, SV.dead, SV.dead, SV.dead, SV.dead, SV.dead, SV.dead, SV.dead, SV.dead, SV.dead, SV.dead, SV.dead, SV.dead, SV.dead, SV.dead, SV.dead, SV.dead, SV.dead, SV.dead, SV.dead, SV.dead, SV.dead, SV.dead,
    SV.dead, SV.dead, SV.dead, SV.dead, SV.dead, SV.dead, SV.dead, SV.dead, SV.dead, SV.dead, SV.dead, SV.dead, SV.dead, SV.dead, SV.dead, SV.dead, SV.dead, SV.dead, SV.dead, SV.dead, SV.dead, SV.dead, SV.dead, SV.dead,
    SV.dead, SV.dead, SV.dead, SV.dead, SV.dead, SV.dead, SV.dead, SV.dead, SV.dead, SV.dead, SV.dead, SV.dead, SV.dead, SV.dead, SV.dead, SV.dead, SV.dead, SV.dead, SV.dead, SV.dead, SV.dead, SV.dead, SV.dead, SV.dead,
    SV.dead, SV.dead, SV.dead, SV.dead, SV.dead, SV.dead, SV.dead, SV.dead, SV.dead, SV.dead, SV.dead, SV.dead, SV.dead, SV.dead, SV.dead, SV.dead, SV.dead, SV.dead, SV.dead, SV.dead, SV.dead, SV.dead, SV.dead]
  [((0 : Nat), SObj.row (77 : Nat) x2), ((100 : Nat), SObj.row (88 : Nat) x3), ((101 : Nat), SObj.row (3 : Nat) x4)] [(0 : Nat), (100 : Nat), (101 : Nat)]
noncomputable def f52_L5 (fu fm : Nat) (x0 : Int) (x1 : Int) (x2 : List SV) (x3 : List SV) (x4 : List SV) : Option (Option (SV × Mem)) := atLoop (f52_X [0]) Try.f52 (finW (tyOf Try.prog) [0] 1) fu [.r, .r, .r, .r, .l, .r, .b] fm (f52_st5 x0 x1 x2 x3 x4)

theorem f52_L26_eq (fu fm : Nat) (x0 : Int) (x1 : List SV) (x2 : List SV) (x3 : List SV) : f52_L26 fu (fm + 1) x0 x1 x2 x3 = bif decide (x0 < (↑(List.length x2) : Int)) then
  bif x0 == (0 : Int) then
    bif decide ((0 : Int) ≤ x0) && decide (x0 < (↑(List.length x3) : Int)) then
      bif asInt (List.getD (cellsOf (List.getD x3 (Int.toNat x0) SV.dead)) (0 : Nat) SV.dead) != (0 : Int) then some (some (SV.tup [SV.snil, SV.int IntKind.i64 (20 : Int)], [((0 : Nat), SObj.row (77 : Nat) x1)]))
      else f52_L26 fu fm (IntKind.wrap IntKind.i64 (x0 + (1 : Int))) x1 x2 x3
    else none
  else
    bif decide ((0 : Int) ≤ IntKind.wrap IntKind.i64 (x0 - (1 : Int))) && decide (IntKind.wrap IntKind.i64 (x0 - (1 : Int)) < (↑(List.length x2) : Int)) then
      bif asInt (List.getD (cellsOf (List.getD x2 (Int.toNat (IntKind.wrap IntKind.i64 (x0 - (1 : Int)))) SV.dead)) (0 : Nat) SV.dead) == (2 : Int) then
        bif decide ((0 : Int) ≤ x0) && decide (x0 < (↑(List.length x3) : Int)) then
          bif asInt (List.getD (cellsOf (List.getD x3 (Int.toNat x0) SV.dead)) (0 : Nat) SV.dead) != (0 : Int) then some (some (SV.tup [SV.snil, SV.int IntKind.i64 (20 : Int)], [((0 : Nat), SObj.row (77 : Nat) x1)]))
          else f52_L26 fu fm (IntKind.wrap IntKind.i64 (x0 + (1 : Int))) x1 x2 x3
        else none
      else
        bif decide ((0 : Int) ≤ x0) && decide (x0 < (↑(List.length x2) : Int)) then
          bif asInt (List.getD (cellsOf (List.getD x2 (Int.toNat x0) SV.dead)) (0 : Nat) SV.dead) == (3 : Int) then
            bif decide ((0 : Int) ≤ x0) && decide (x0 < (↑(List.length x3) : Int)) then
              bif asInt (List.getD (cellsOf (List.getD x3 (Int.toNat x0) SV.dead)) (0 : Nat) SV.dead) != (0 : Int) then some (some (SV.tup [SV.snil, SV.int IntKind.i64 (20 : Int)], [((0 : Nat), SObj.row (77 : Nat) x1)]))
              else f52_L26 fu fm (IntKind.wrap IntKind.i64 (x0 + (1 : Int))) x1 x2 x3
            else none
          else
            bif decide ((0 : Int) ≤ x0) && decide (x0 < (↑(List.length x3) : Int)) then
              bif asInt (List.getD (cellsOf (List.getD x3 (Int.toNat x0) SV.dead)) (0 : Nat) SV.dead) != (1 : Int) then some (some (SV.tup [SV.snil, SV.int IntKind.i64 (20 : Int)], [((0 : Nat), SObj.row (77 : Nat) x1)]))
              else f52_L26 fu fm (IntKind.wrap IntKind.i64 (x0 + (1 : Int))) x1 x2 x3
            else none
        else none
    else none
  else some (some (SV.tup [SV.row (1 : Nat), SV.int IntKind.i64 (0 : Int)], [((0 : Nat), SObj.row (77 : Nat) x1), ((1 : Nat), SObj.row (88 : Nat) x2)])) := by kernel_rfl

theorem f52_L12_eq (fu fm : Nat) (k0 : Nat) (x0 : Int) (x1 : Int) (x2 : Int) (x3 : List SV) (x4 : List SV) (x5 : List SV) : f52_L12 fu (fm + 1) k0 x0 x1 x2 x3 x4 x5 = bif decide ((0 : Int) ≤ x1) && decide (x1 < (↑(List.length x3) : Int)) then
  bif decide (x2 < (↑(ByteArray.size (asStr (List.getD (cellsOf (List.getD x3 (Int.toNat x1) SV.dead)) (1 : Nat) SV.dead))) : Int)) then
    bif decide ((0 : Int) ≤ x1) && decide (x1 < (↑(List.length x3) : Int)) then
      bif decide ((0 : Int) ≤ x2) && decide (x2 < (↑(ByteArray.size (asStr (List.getD (cellsOf (List.getD x3 (Int.toNat x1) SV.dead)) (1 : Nat) SV.dead))) : Int)) then
        bif bAt (asStr (List.getD (cellsOf (List.getD x3 (Int.toNat x1) SV.dead)) (1 : Nat) SV.dead)) x2 == (32 : Int) then
          f52_L12 fu fm k0 (IntKind.wrap IntKind.i64 (x0 + (1 : Int))) x1 (IntKind.wrap IntKind.i64 (x2 + (1 : Int))) x3 x4 x5
        else
          bif decide ((0 : Int) ≤ x1) && decide (x1 < (↑(List.length x3) : Int)) then
            bif inText (asStr (List.getD (cellsOf (List.getD x3 (Int.toNat x1) SV.dead)) (1 : Nat) SV.dead)) x2 then
              bif
                  (bif tokB (asStr (List.getD (cellsOf (List.getD x3 (Int.toNat x1) SV.dead)) (1 : Nat) SV.dead)) x2 then tokN (asStr (List.getD (cellsOf (List.getD x3 (Int.toNat x1) SV.dead)) (1 : Nat) SV.dead)) x2
                    else (0 : Int)) ==
                    (0 : Int) then
                some (some (SV.tup [SV.snil, SV.int IntKind.i64 (20 : Int)], [((0 : Nat), SObj.row (77 : Nat) x3)]))
              else
                bif decide ((List.length x4 + (1 : Nat)) * (24 : Nat) ≤ (140737488355328 : Nat)) && decide (List.length x4 + (1 : Nat) ≤ (9223372036854775807 : Nat)) then
                  bif decide ((List.length x5 + (1 : Nat)) * (8 : Nat) ≤ (140737488355328 : Nat)) && decide (List.length x5 + (1 : Nat) ≤ (9223372036854775807 : Nat)) then
                    f52_L12 fu fm k0 (0 : Int) x1
                      (bif tokB (asStr (List.getD (cellsOf (List.getD x3 (Int.toNat x1) SV.dead)) (1 : Nat) SV.dead)) x2 then tokN (asStr (List.getD (cellsOf (List.getD x3 (Int.toNat x1) SV.dead)) (1 : Nat) SV.dead)) x2
                      else (0 : Int))
                      x3
                      (x4 ++
                        [SV.agg
                            [SV.int IntKind.i64
                                (bif tokB (asStr (List.getD (cellsOf (List.getD x3 (Int.toNat x1) SV.dead)) (1 : Nat) SV.dead)) x2 then
                                  tokK (asStr (List.getD (cellsOf (List.getD x3 (Int.toNat x1) SV.dead)) (1 : Nat) SV.dead)) x2
                                else (0 : Int)),
                              SV.str
                                (bif tokB (asStr (List.getD (cellsOf (List.getD x3 (Int.toNat x1) SV.dead)) (1 : Nat) SV.dead)) x2 then
                                  tokS (asStr (List.getD (cellsOf (List.getD x3 (Int.toNat x1) SV.dead)) (1 : Nat) SV.dead)) x2
                                else ByteArray.mk #[])]])
                      (x5 ++ [SV.int IntKind.i64 x0])
                  else none
                else none
            else none
          else none
      else none
    else none
  else f52_L5 fu k0 x0 (IntKind.wrap IntKind.i64 (x1 + (1 : Int))) x3 x4 x5
  else none := by kernel_rfl

theorem f52_L5_eq (fu fm : Nat) (x0 : Int) (x1 : Int) (x2 : List SV) (x3 : List SV) (x4 : List SV) : f52_L5 fu (fm + 1) x0 x1 x2 x3 x4 = bif decide (x1 < (↑(List.length x2) : Int)) then
  bif decide ((0 : Int) ≤ x1) && decide (x1 < (↑(List.length x2) : Int)) then
    bif asBool (List.getD (cellsOf (List.getD x2 (Int.toNat x1) SV.dead)) (0 : Nat) SV.dead) then
      bif decide ((0 : Int) ≤ x1) && decide (x1 < (↑(List.length x2) : Int)) then
        bif decide ((List.length x3 + (1 : Nat)) * (24 : Nat) ≤ (140737488355328 : Nat)) && decide (List.length x3 + (1 : Nat) ≤ (9223372036854775807 : Nat)) then
          bif decide ((List.length x4 + (1 : Nat)) * (8 : Nat) ≤ (140737488355328 : Nat)) && decide (List.length x4 + (1 : Nat) ≤ (9223372036854775807 : Nat)) then
            f52_L5 fu fm (0 : Int) (IntKind.wrap IntKind.i64 (x1 + (1 : Int))) x2
              (x3 ++ [SV.agg [SV.int IntKind.i64 (1 : Int), SV.str (asStr (List.getD (cellsOf (List.getD x2 (Int.toNat x1) SV.dead)) (1 : Nat) SV.dead))]]) (x4 ++ [SV.int IntKind.i64 x0])
          else none
        else none
      else none
    else f52_L12 fu fu fm x0 x1 (0 : Int) x2 x3 x4
  else none
  else bif decide (x0 > (0 : Int)) then some (some (SV.tup [SV.snil, SV.int IntKind.i64 (20 : Int)], [((0 : Nat), SObj.row (77 : Nat) x2)])) else f52_L26 fu fu (0 : Int) x2 x3 x4 := by kernel_rfl

theorem f52_eq (fu : Nat) (l : List SV) : evFun (f52_X [0]) fu Try.f52 (finW (tyOf Try.prog) [0] 1) [.row 0] [(0, .row 77 l)] [0] = f52_L5 fu fu (0 : Int) (0 : Int) l [] [] := by kernel_rfl

def f51_st5 (x0 : ByteArray) (x1 : Int) : St := St.mk
  [SV.dead, SV.dead, SV.dead, SV.str x0, SV.int IntKind.i64 x1, SV.dead, SV.dead, SV.dead, SV.dead, SV.dead, SV.dead, SV.dead, SV.dead, SV.dead, SV.dead, SV.dead, SV.dead, SV.dead, SV.dead, SV.dead, SV.dead, SV.dead,
    SV.dead, SV.dead, SV.dead, SV.dead, SV.dead, SV.dead, SV.dead, SV.dead, SV.dead, SV.dead, SV.dead, SV.dead, SV.dead, SV.dead, SV.dead, SV.dead, SV.dead]
  [] []
noncomputable def f51_L5 (fu fm : Nat) (x0 : ByteArray) (x1 : Int) : Option (SV) := atLoop f51_X Try.f51 (frz f51_X.Ty Try.f51) fu [.r, .r, .r, .l, .r, .b] fm (f51_st5 x0 x1)

theorem f51_L5_eq (fu fm : Nat) (x0 : ByteArray) (x1 : Int) : f51_L5 fu (fm + 1) x0 x1 = bif decide (x1 < (↑(ByteArray.size x0) : Int)) then
  bif decide ((0 : Int) ≤ x1) && decide (x1 < (↑(ByteArray.size x0) : Int)) then
    bif !signB (bAt x0 x1) then some (SV.str (ByteArray.mk #[]))
    else
      bif decide ((0 : Int) ≤ x1) && decide (x1 < (↑(ByteArray.size x0) : Int)) then bif bAt x0 x1 == (91 : Int) then some (SV.str (ByteArray.mk #[])) else f51_L5 fu fm x0 (IntKind.wrap IntKind.i64 (x1 + (1 : Int)))
      else none
  else none
  else some (SV.str x0) := by kernel_rfl

theorem f51_eq (fu : Nat) (l : List SV) : evFun f51_X fu Try.f51 (frz f51_X.Ty Try.f51) [.lst 77 l] [] [] = bif (↑(List.length l) : Int) == (0 : Int) then some (SV.str (ByteArray.mk #[]))
  else
  bif decide ((0 : Int) < (↑(List.length l) : Int)) then
    bif asBool (List.getD (cellsOf (List.getD l (0 : Nat) SV.dead)) (0 : Nat) SV.dead) then some (SV.str (ByteArray.mk #[]))
    else
      bif decide ((0 : Int) < (↑(List.length l) : Int)) then
        bif decide (ByteArray.size (asStr (List.getD (cellsOf (List.getD l (0 : Nat) SV.dead)) (1 : Nat) SV.dead)) < (4294967281 : Nat)) && true && true then
          bif decide ((0 : Int) < (↑(List.length (List.map tx (cutL (Nat.toUInt8 (32 : Nat)) (asStr (List.getD (cellsOf (List.getD l (0 : Nat) SV.dead)) (1 : Nat) SV.dead)).data.toList))) : Int)) then
            f51_L5 fu fu
              (asStr
                (List.getD (cellsOf (List.getD (List.map tx (cutL (Nat.toUInt8 (32 : Nat)) (asStr (List.getD (cellsOf (List.getD l (0 : Nat) SV.dead)) (1 : Nat) SV.dead)).data.toList)) (0 : Nat) SV.dead)) (0 : Nat)
                  SV.dead))
              (0 : Int)
          else none
        else none
      else none
  else none := by kernel_rfl

end Sx

/-
  Layer 29: the document's tokens of pieces are the program's.
-/
set_option linter.unusedVariables false
set_option linter.unusedSimpArgs false
namespace Sx
open Go Go.Proofs
set_option maxRecDepth 100000
def gapsV (gs : List Int) : List SV := gs.map (SV.int .i64)
/-- Are the spaces ahead of tokens those that are wanted? -/
noncomputable def chkR : List SV → List SV → List Int → Bool
  | before, t :: ts, g :: gs => wantB before (kindOf t) g && chkR (before ++ [t]) ts gs
  | _, [], [] => true
  | _, _, _ => false
theorem chkR_add : ∀ (ts : List SV) (gs : List Int) (b : List SV) (t : SV) (g : Int), ts.length = gs.length → chkR b (ts ++ [t]) (gs ++ [g]) = (chkR b ts gs && wantB (b ++ ts) (kindOf t) g)
  | [], [], b, t, g, h => by simp [chkR]
  | [], _ :: _, b, t, g, h => by simp at h
  | _ :: _, [], b, t, g, h => by simp at h
  | x :: ts, y :: gs, b, t, g, h => by
    have := chkR_add ts gs (b ++ [x]) t g (by simpa using h)
    simp only [List.cons_append, chkR, this, List.append_assoc, List.nil_append, Bool.and_assoc]
/-- A text's tokens and the spaces ahead of each, whatever they are. -/
noncomputable def pieceG (s : ByteArray) : Nat → Int → Int → List SV → List Int → Option (Int × List SV × List Int)
  | 0, _, _, _, _ => none
  | f + 1, a, n, out, gs => bif decide (a < (s.size : Int)) then (bif bAt s a == 32 then pieceG s f (a + 1) (n + 1) out gs else bif tokB s a then pieceG s f (tokN s a) 0 (out ++ [tokAt s a]) (gs ++ [n]) else none) else some (n, out, gs)
noncomputable def piecesG : List SV → Int → List SV → List Int → Option (Int × List SV × List Int)
  | [], n, out, gs => some (n, out, gs)
  | p :: ps, n, out, gs => bif litP p then piecesG ps 0 (out ++ [.agg [.int .i64 1, .str (strP p)]]) (gs ++ [n])
    else match pieceG (strP p) ((strP p).size + 1) 0 n out gs with
      | some (n', out', gs') => piecesG ps n' out' gs'
      | none => none
noncomputable def fitG : Option (Int × List SV × List Int) → Option (Int × List SV)
  | some (n, o, g) => bif chkR [] o g then some (n, o) else none
  | none => none
theorem pieceG_len {s : ByteArray} : ∀ (f : Nat) (a n : Int) (out : List SV) (gs : List Int) {n' : Int} {o' : List SV} {g' : List Int}, out.length = gs.length → pieceG s f a n out gs = some (n', o', g') → o'.length = g'.length
  | 0, a, n, out, gs, n', o', g', hl, h => by cases h
  | f + 1, a, n, out, gs, n', o', g', hl, h => by
    simp only [pieceG, cond_eq_ite] at h
    split at h
    · split at h
      · exact pieceG_len f _ _ _ _ hl h
      · split at h
        · exact pieceG_len f _ _ _ _ (by simp [hl]) h
        · cases h
    · simp only [Option.some.injEq, Prod.mk.injEq] at h
      obtain ⟨_, rfl, rfl⟩ := h
      exact hl
theorem pieceG_fit {s : ByteArray} : ∀ (f : Nat) (a n : Int) (out : List SV) (gs : List Int), out.length = gs.length → fitG (pieceG s f a n out gs) = bif chkR [] out gs then pieceT s f a n out else none
  | 0, a, n, out, gs, hl => by
    unfold pieceG pieceT
    cases chkR [] out gs <;> rfl
  | f + 1, a, n, out, gs, hl => by
    simp only [pieceG, pieceT]
    cases decide (a < (s.size : Int)) with
    | false => simp only [cond_false]; rfl
    | true =>
      simp only [cond_true]
      cases bAt s a == 32 with
      | true => simp only [cond_true]; exact pieceG_fit f _ _ _ _ hl
      | false =>
        simp only [cond_false]
        cases ht : tokB s a with
        | false =>
          simp only [cond_false, Bool.false_and]
          cases chkR [] out gs <;> rfl
        | true =>
          simp only [cond_true, Bool.true_and]
          rw [pieceG_fit f _ _ _ _ (by simp [hl]), chkR_add _ _ _ _ _ hl]
          have : kindOf (tokAt s a) = tokK s a := rfl
          rw [this, List.nil_append]
          cases chkR [] out gs <;> cases wantB out (tokK s a) n <;> rfl
theorem piecesG_len : ∀ (l : List SV) (n : Int) (out : List SV) (gs : List Int) {n' : Int} {o' : List SV} {g' : List Int}, out.length = gs.length → piecesG l n out gs = some (n', o', g') → o'.length = g'.length
  | [], n, out, gs, n', o', g', hl, h => by
    simp only [piecesG, Option.some.injEq, Prod.mk.injEq] at h
    obtain ⟨_, rfl, rfl⟩ := h
    exact hl
  | p :: ps, n, out, gs, n', o', g', hl, h => by
    simp only [piecesG, cond_eq_ite] at h
    split at h
    · exact piecesG_len ps _ _ _ (by simp [hl]) h
    · split at h
      · rename_i q
        exact piecesG_len ps _ _ _ (pieceG_len _ _ _ _ _ hl q) h
      · cases h
theorem piecesG_fit : ∀ (l : List SV) (n : Int) (out : List SV) (gs : List Int), out.length = gs.length → fitG (piecesG l n out gs) = bif chkR [] out gs then piecesT l n out else none
  | [], n, out, gs, hl => by simp only [piecesG, piecesT]; rfl
  | p :: ps, n, out, gs, hl => by
    simp only [piecesG, piecesT]
    cases litP p with
    | true =>
      simp only [cond_true]
      rw [piecesG_fit ps _ _ _ (by simp [hl]), chkR_add _ _ _ _ _ hl]
      have : kindOf (SV.agg [.int .i64 1, .str (strP p)]) = 1 := rfl
      rw [this, List.nil_append]
      cases chkR [] out gs <;> cases wantB out 1 n <;> rfl
    | false =>
      simp only [cond_false]
      have h := pieceG_fit (s := strP p) ((strP p).size + 1) 0 n out gs hl
      cases hq : pieceG (strP p) ((strP p).size + 1) 0 n out gs with
      | none =>
        rw [hq] at h
        simp only [fitG] at h ⊢
        cases hc : chkR [] out gs with
        | false => rfl
        | true =>
          rw [hc] at h
          simp only [cond_true] at h ⊢
          rw [← h]
      | some r =>
        obtain ⟨n', o', g'⟩ := r
        have hl' := pieceG_len _ _ _ _ _ hl hq
        rw [hq] at h
        simp only [fitG] at h
        simp only
        rw [piecesG_fit ps n' o' g' hl']
        cases hc : chkR [] out gs with
        | false =>
          rw [hc] at h
          cases hc' : chkR [] o' g' with
          | false => rfl
          | true => rw [hc'] at h; cases h
        | true =>
          rw [hc] at h
          simp only [cond_true] at h ⊢
          rw [← h]
          cases hc' : chkR [] o' g' <;> rfl
def tokGood (l out : List SV) : Option (Option (SV × Mem)) := some (some (SV.tup [SV.row 1, SV.int .i64 0], [(0, SObj.row 77 l), (1, SObj.row 88 out)]))
theorem gapsV_at (gs : List Int) (i : Nat) (h : i < gs.length) : ∃ g, gs.drop i = g :: gs.drop (i + 1) ∧ asInt (List.getD (cellsOf (List.getD (gapsV gs) i SV.dead)) 0 SV.dead) = g := by
  refine ⟨gs[i], List.drop_eq_getElem_cons h, ?_⟩
  have : List.getD (gapsV gs) i SV.dead = .int .i64 gs[i] := by
    rw [List.getD_eq_getElem?_getD]
    simp [gapsV, h]
  rw [this]; rfl
theorem gapsV_len (gs : List Int) : (gapsV gs).length = gs.length := by simp [gapsV]
theorem L26_is (fu : Nat) (l out : List SV) (gs : List Int) (hl : out.length = gs.length) (hs : out.length < 4294967281) : ∀ (k i m : Nat), i + k = out.length → k < m →
    f52_L26 fu m (i : Int) l out (gapsV gs) = bif chkR (out.take i) (out.drop i) (gs.drop i) then tokGood l out else tokBad l
  | 0, i, m, hi, hm => by
    obtain ⟨m, rfl⟩ : ∃ m', m = m' + 1 := ⟨m - 1, by omega⟩
    have h1 : ¬ ((i : Int) < (out.length : Int)) := by omega
    rw [f52_L26_eq, List.drop_of_length_le (show out.length ≤ i by omega), List.drop_of_length_le (show gs.length ≤ i by omega)]
    simp only [h1, decide_false, cond_false, chkR, cond_true]
    rfl
  | k + 1, i, m, hi, hm => by
    obtain ⟨m, rfl⟩ : ∃ m', m = m' + 1 := ⟨m - 1, by omega⟩
    obtain ⟨t, hd, ht⟩ := drop_at out i (by omega)
    obtain ⟨g, hgd, hg⟩ := gapsV_at gs i (by omega)
    have h1 : (i : Int) < (out.length : Int) := by omega
    have h2 : (0 : Int) ≤ (i : Int) := by omega
    have h3 : (i : Int) < ((gapsV gs).length : Int) := by rw [gapsV_len]; omega
    have w1 : IntKind.wrap .i64 ((i : Int) + 1) = ((i + 1 : Nat) : Int) := by rw [wrap64 (by omega) (by omega)]; omega
    have ih := L26_is fu l out gs hl hs k (i + 1) m (by omega) (by omega)
    have hk : asInt (List.getD (cellsOf t) 0 SV.dead) = kindOf t := rfl
    have htake : out.take (i + 1) = out.take i ++ [t] := by
      rw [List.take_add_one, ← List.head?_drop, hd]; rfl
    have hlt : (out.take i).length = i := by rw [List.length_take]; omega
    rw [f52_L26_eq, hd, hgd, w1]
    simp only [h1, h2, h3, decide_true, Bool.and_self, cond_true, Int.toNat_natCast, ht, hg, ih, htake, hk, chkR]
    unfold wantB
    rw [hlt]
    cases i with
    | zero =>
      simp only [show ((0 : Nat) : Int) = 0 from rfl, beq_self_eq_true, cond_true, Nat.beq, Bool.true_or]
      cases hg0 : g == 0 with
      | true => simp [bne, hg0]
      | false => simp [bne, hg0, tokBad]
    | succ j =>
      have e1 : (((j + 1 : Nat) : Int) == 0) = false := beq_eq_false_iff_ne.2 (by omega)
      have w2 : IntKind.wrap .i64 (((j + 1 : Nat) : Int) - 1) = (j : Int) := by rw [wrap64 (by omega) (by omega)]; omega
      have h4 : (0 : Int) ≤ (j : Int) := by omega
      have h5 : (j : Int) < (out.length : Int) := by omega
      have e2 : Nat.beq (j + 1) 0 = false := rfl
      have e3 : (out.take (j + 1)).getD (j + 1 - 1) SV.dead = out.getD j SV.dead := by
        simp only [Nat.add_sub_cancel, List.getD_eq_getElem?_getD]
        rw [List.getElem?_take_of_lt (by omega)]
      have hk2 : asInt (List.getD (cellsOf (out.getD j SV.dead)) 0 SV.dead) = kindOf (out.getD j SV.dead) := rfl
      simp only [e1, w2, h4, h5, e2, e3, hk2, decide_true, Bool.and_self, cond_true, cond_false, Bool.false_or, Int.toNat_natCast]
      cases kindOf (out.getD j SV.dead) == 2 with
      | true =>
        simp only [cond_true, Bool.true_or]
        cases hg0 : g == 0 with
        | true => simp [bne, hg0]
        | false => simp [bne, hg0, tokBad]
      | false =>
        simp only [cond_false, Bool.false_or]
        cases kindOf t == 3 with
        | true =>
          simp only [cond_true]
          cases hg0 : g == 0 with
          | true => simp [bne, hg0]
          | false => simp [bne, hg0, tokBad]
        | false =>
          simp only [cond_false]
          cases hg0 : g == 1 with
          | true => simp [bne, hg0]
          | false => simp [bne, hg0, tokBad]
end Sx

/-
  Layer 29: the document's Tokens, as a specification: the program's.
-/
set_option linter.unusedVariables false
set_option linter.unusedSimpArgs false
namespace Sx
open Go Go.Proofs
set_option maxRecDepth 100000
theorem pieceG_size {s : ByteArray} (hs : s.size < 4294967281) : ∀ (N : Nat) (f : Nat) (a n : Int) (out : List SV) (gs : List Int) (n' : Int) (out' : List SV) (gs' : List Int), (s.size : Int) - a ≤ N → 0 ≤ a → a ≤ s.size → 0 ≤ n → pieceG s f a n out gs = some (n', out', gs') → 0 ≤ n' ∧ n' + out'.length ≤ n + out.length + ((s.size : Int) - a)
  | N, 0, a, n, out, gs, n', out', gs', hN, h0, h1, hn, h => by cases h
  | N, f + 1, a, n, out, gs, n', out', gs', hN, h0, h1, hn, h => by
    simp only [pieceG, cond_eq_ite] at h
    split at h
    · rename_i c1
      have c1 := of_decide_eq_true c1
      obtain ⟨M, rfl⟩ : ∃ M, N = M + 1 := ⟨N - 1, by omega⟩
      split at h
      · have := pieceG_size hs M f (a + 1) (n + 1) out gs n' out' gs' (by omega) (by omega) (by omega) (by omega) h
        omega
      · split at h
        · rename_i c2
          have g1 := tokN_gt c2
          have g2 := tokN_le (s := s) (a := a) (by simp [inText, h0, c1, hs])
          have := pieceG_size hs M f (tokN s a) 0 (out ++ [tokAt s a]) _ n' out' gs' (by omega) (by omega) (by omega) (by omega) h
          simp only [List.length_append, List.length_cons, List.length_nil] at this
          omega
        · cases h
    · simp only [Option.some.injEq, Prod.mk.injEq] at h
      obtain ⟨rfl, rfl, _⟩ := h
      omega
theorem L12_is (fu k0 : Nat) (i : Nat) (l : List SV) (hi : i < l.length) {s : ByteArray} (hp : strP (l.getD i .dead) = s) (hs : s.size < 4294967281) : ∀ (N f m : Nat) (a n : Int) (out : List SV) (gs : List Int), out.length = gs.length → (s.size : Int) - a ≤ N → N < f → N < m → 0 ≤ a → a ≤ s.size → 0 ≤ n → n + out.length + ((s.size : Int) - a) < 4294967281 →
    f52_L12 fu m k0 n (i : Int) a l out (gapsV gs) = (match pieceG s f a n out gs with | some (n', out', gs') => f52_L5 fu k0 n' (IntKind.wrap .i64 ((i : Int) + 1)) l out' (gapsV gs') | none => tokBad l)
  | N, f, m, a, n, out, gs, hl, hN, hf, hm, h0, h1, hn, hb => by
    obtain ⟨f, rfl⟩ : ∃ f', f = f' + 1 := ⟨f - 1, by omega⟩
    obtain ⟨m, rfl⟩ : ∃ m', m = m' + 1 := ⟨m - 1, by omega⟩
    have i1 : (0 : Int) ≤ (i : Int) := by omega
    have i2 : (i : Int) < (l.length : Int) := by omega
    have hp' : asStr (List.getD (cellsOf (List.getD l i SV.dead)) 1 SV.dead) = s := hp
    rw [f52_L12_eq]
    simp only [pieceG, i1, i2, Int.toNat_natCast, hp', decide_true, Bool.and_self, cond_true]
    by_cases c1 : a < (s.size : Int)
    · obtain ⟨M, rfl⟩ : ∃ M, N = M + 1 := ⟨N - 1, by omega⟩
      have w1 : IntKind.wrap .i64 (a + 1) = a + 1 := wrap64 (by omega) (by omega)
      have w2 : IntKind.wrap .i64 (n + 1) = n + 1 := wrap64 (by omega) (by omega)
      have hit : inText s a = true := by simp [inText, h0, c1, hs]
      have r1 : decide ((out.length + 1) * 24 ≤ 140737488355328) = true := decide_eq_true (by omega)
      have r2 : decide (out.length + 1 ≤ 9223372036854775807) = true := decide_eq_true (by omega)
      have r3 : decide (((gapsV gs).length + 1) * 8 ≤ 140737488355328) = true := decide_eq_true (by rw [gapsV_len]; omega)
      have r4 : decide ((gapsV gs).length + 1 ≤ 9223372036854775807) = true := decide_eq_true (by rw [gapsV_len]; omega)
      simp only [c1, h0, w1, w2, hit, r1, r2, r3, r4, decide_true, Bool.and_self, cond_true]
      cases c2 : (bAt s a == 32) with
      | true =>
        simp only [cond_true]
        exact L12_is fu k0 i l hi hp hs M f m (a + 1) (n + 1) out gs hl (by omega) (by omega) (by omega) (by omega) (by omega) (by omega) (by omega)
      | false =>
        simp only [cond_false]
        cases c3 : tokB s a with
        | false => rfl
        | true =>
          have g1 := tokN_gt c3
          have g2 := tokN_le hit
          have e1 : (tokN s a == 0) = false := beq_eq_false_iff_ne.2 (by omega)
          simp only [cond_true, e1, cond_false]
          have hg : gapsV gs ++ [SV.int .i64 n] = gapsV (gs ++ [n]) := by simp [gapsV]
          rw [hg]
          exact L12_is fu k0 i l hi hp hs M f m (tokN s a) 0 (out ++ [tokAt s a]) (gs ++ [n]) (by simp [hl]) (by omega) (by omega) (by omega) (by omega) (by omega) (by omega) (by simp only [List.length_append, List.length_cons, List.length_nil]; omega)
    · simp only [c1, decide_false, cond_false]
  termination_by N => N
/-- What comes of tokens and the spaces ahead of each. -/
noncomputable def endG (l : List SV) : Option (Int × List SV × List Int) → Option (Option (SV × Mem))
  | some (n, o, g) => bif decide (n > 0) then tokBad l else bif chkR [] o g then tokGood l o else tokBad l
  | none => tokBad l
theorem L5r_is (fu : Nat) (l : List SV) (hl : sumP l < 4294967281) (hfu : 4294967290 < fu) (hL : l.length < 4294967281) (hS : ∀ j, sumP (l.drop j) ≤ sumP l) : ∀ (k i m : Nat) (n : Int) (out : List SV) (gs : List Int), out.length = gs.length → i + k = l.length → k < m → 0 ≤ n → n + out.length + sumP (l.drop i) < 4294967281 →
    f52_L5 fu m n (i : Int) l out (gapsV gs) = endG l (piecesG (l.drop i) n out gs)
  | 0, i, m, n, out, gs, ho, hi, hm, hn, hb => by
    obtain ⟨m, rfl⟩ : ∃ m', m = m' + 1 := ⟨m - 1, by omega⟩
    have hd : l.drop i = [] := List.drop_of_length_le (by omega)
    have h1 : ¬ ((i : Int) < (l.length : Int)) := by omega
    have := L26_is fu l out gs ho (by omega) out.length 0 fu (by omega) (by omega)
    rw [show ((0 : Nat) : Int) = 0 from rfl, List.drop_zero, List.drop_zero, List.take_zero] at this
    rw [f52_L5_eq, hd, this]
    simp only [h1, decide_false, cond_false, piecesG, endG]
    rfl
  | k + 1, i, m, n, out, gs, ho, hi, hm, hn, hb => by
    obtain ⟨m, rfl⟩ : ∃ m', m = m' + 1 := ⟨m - 1, by omega⟩
    obtain ⟨p, hd, hp⟩ := drop_at l i (by omega)
    have h1 : (i : Int) < (l.length : Int) := by omega
    have h2 : (0 : Int) ≤ (i : Int) := by omega
    have w1 : IntKind.wrap .i64 ((i : Int) + 1) = ((i + 1 : Nat) : Int) := by rw [wrap64 (by omega) (by omega)]; omega
    have r1 : decide ((out.length + 1) * 24 ≤ 140737488355328) = true := decide_eq_true (by omega)
    have r2 : decide (out.length + 1 ≤ 9223372036854775807) = true := decide_eq_true (by omega)
    have r3 : decide (((gapsV gs).length + 1) * 8 ≤ 140737488355328) = true := decide_eq_true (by rw [gapsV_len]; omega)
    have r4 : decide ((gapsV gs).length + 1 ≤ 9223372036854775807) = true := decide_eq_true (by rw [gapsV_len]; omega)
    rw [hd] at hb
    simp only [sumP] at hb
    have hgl : gapsV gs ++ [SV.int .i64 n] = gapsV (gs ++ [n]) := by simp [gapsV]
    rw [f52_L5_eq, hd]
    simp only [h1, h2, decide_true, Bool.and_self, cond_true, Int.toNat_natCast, hp, r1, r2, r3, r4, w1, piecesG, hgl]
    have e1 : asBool ((cellsOf p).getD 0 .dead) = litP p := rfl
    have e2 : asStr ((cellsOf p).getD 1 .dead) = strP p := rfl
    rw [e1, e2]
    cases hlit : litP p with
    | true =>
      simp only [cond_true]
      exact L5r_is fu l hl hfu hL hS k (i + 1) m 0 _ _ (by simp [ho]) (by omega) (by omega) (by omega) (by simp only [List.length_append, List.length_cons, List.length_nil]; omega)
    | false =>
      simp only [cond_false]
      have hs : (strP p).size < 4294967281 := by omega
      rw [L12_is fu m i l (by omega) (s := strP p) (by rw [hp]) hs (strP p).size ((strP p).size + 1) fu 0 n out gs ho (by omega) (by omega) (by omega) (by omega) (by omega) hn (by omega)]
      cases hq : pieceG (strP p) ((strP p).size + 1) 0 n out gs with
      | none => rfl
      | some r =>
        obtain ⟨n', out', gs'⟩ := r
        simp only
        have := pieceG_size hs (strP p).size _ 0 n out gs n' out' gs' (by omega) (by omega) (by omega) hn hq
        have hlen := pieceG_len _ _ _ _ _ ho hq
        rw [w1]
        exact L5r_is fu l hl hfu hL hS k (i + 1) m n' out' gs' hlen (by omega) (by omega) (by omega) (by omega)
theorem endG_toks (l : List SV) : endG l (piecesG l 0 [] []) = match toksP l with | some out => tokGood l out | none => tokBad l := by
  have h := piecesG_fit l 0 [] [] rfl
  simp only [chkR, cond_true] at h
  unfold toksP
  rw [← h]
  cases piecesG l 0 [] [] with
  | none => rfl
  | some r =>
    obtain ⟨n, o, g⟩ := r
    simp only [endG, fitG]
    cases chkR [] o g with
    | false => cases decide (n > 0) <;> rfl
    | true =>
      simp only [cond_true]
      cases decide (n > 0) <;> rfl
theorem s52_ok : SpecOk rE 52 (.wide (wideOf (tyOf Try.prog) k83)) := by
  refine wide_of_run rE_ok (fun sm => ⟨fx_ok lG0_ok sm f52_live, rfl⟩) (fn := Try.f52) (by kernel_rfl) (by decide) (by rfl) (fun args m x h => ?_)
  unfold k83 at h
  split at h
  · rename_i l
    simp only [pickA, cond_eq_ite] at h
    split at h
    · rename_i hc
      have hc : sumP l < 4294967281 := of_decide_eq_true hc
      have hl := sumP_len l
      refine ⟨4294967300, ?_⟩
      show evFun (f52_X [0]) 4294967300 Try.f52 (finW (tyOf Try.prog) [0] 1) [.row 0] [(0, .row 77 l)] [0] = _
      have := L5r_is 4294967300 l hc (by omega) (by omega) (sumP_drop l) l.length 0 4294967300 0 [] [] rfl (by omega) (by omega) (by omega) (by simp; omega)
      rw [show ((0 : Nat) : Int) = 0 from rfl, List.drop_zero, show gapsV [] = [] from rfl] at this
      rw [f52_eq, this, endG_toks]
      unfold toksB toksL at h
      cases ht : toksP l with
      | none =>
        rw [ht] at h
        simp at h
        subst h
        rfl
      | some out =>
        rw [ht] at h
        simp at h
        subst h
        rfl
    · cases h
  · cases h
end Sx

/-
  Layer 29: the document's Tag is the program's; the table for its All.
-/
set_option linter.unusedVariables false
set_option linter.unusedSimpArgs false
namespace Sx
open Go Go.Proofs
set_option maxRecDepth 100000
theorem cutL_head (c : UInt8) : ∀ l : List UInt8, ∃ r, cutL c l = l.takeWhile (· != c) :: r
  | [] => ⟨[], rfl⟩
  | b :: l => by
    obtain ⟨r, ih⟩ := cutL_head c l
    by_cases h : b = c
    · subst h
      exact ⟨cutL b l, by simp [cutL]⟩
    · have hbc : (b != c) = true := by simpa using h
      exact ⟨r, by simp only [cutL, if_neg h, ih, List.takeWhile, hbc]⟩
theorem L51_is (fu : Nat) (s : ByteArray) (hs : s.size < 4294967281) : ∀ k i m, i + k = s.size → k < m → f51_L5 fu m s (i : Int) = some (.str (bif (s.data.toList.drop i).all tagC then s else ⟨#[]⟩))
  | 0, i, m, hi, hm => by
    obtain ⟨m, rfl⟩ : ∃ m', m = m' + 1 := ⟨m - 1, by omega⟩
    have hd : s.data.toList.drop i = [] := List.drop_of_length_le (by simp; omega)
    have h1 : ¬ ((i : Int) < (s.size : Int)) := by omega
    rw [f51_L5_eq, hd]
    simp only [h1, decide_false, cond_false, List.all_nil, cond_true]
  | k + 1, i, m, hi, hm => by
    obtain ⟨m, rfl⟩ : ∃ m', m = m' + 1 := ⟨m - 1, by omega⟩
    obtain ⟨b, hb, hd, hat⟩ := drop_cons s i (by omega)
    have h1 : (i : Int) < (s.size : Int) := by omega
    have h2 : (0 : Int) ≤ (i : Int) := by omega
    have w1 : IntKind.wrap .i64 ((i : Int) + 1) = ((i + 1 : Nat) : Int) := by rw [wrap64 (by omega) (by omega)]; omega
    have e91 := beqI b 91 (by decide)
    simp only [show ((91 : Nat) : Int) = 91 from rfl, show (91 : Nat).toUInt8 = (91 : UInt8) from rfl] at e91
    have ih := L51_is fu s hs k (i + 1) m (by omega) (by omega)
    rw [f51_L5_eq, hat, hd, w1]
    simp only [h1, h2, decide_true, Bool.and_self, cond_true, e91, List.all_cons, tagC]
    have e : signB (b.toNat : Int) = sgn b := rfl
    rw [e, ih]
    cases sgn b <;> cases h : (b == 91) <;> simp [bne, h, tagC]
theorem s51_ok : SpecOk rE 51 (.look (lookOf (tyOf Try.prog) gTagP)) := by
  refine look_of_run (fx_ok lG0_ok [] f51_live) (fn := Try.f51) (by kernel_rfl) (by decide) (by rfl) (fun args sv h => ?_)
  unfold gTagP at h
  split at h
  · rename_i l
    simp only [Option.some.injEq, Prod.mk.injEq] at h
    obtain ⟨hL, rfl⟩ := h
    refine ⟨rfl, rfl, 4294967290, ?_⟩
    show evFun f51_X 4294967290 Try.f51 (frz f51_X.Ty Try.f51) [.lst 77 l] [] [] = _
    have hL : sumP l < 4294967281 := of_decide_eq_true hL
    rw [f51_eq]
    cases l with
    | nil => rfl
    | cons p r =>
      have hlen : (((p :: r).length : Int) == 0) = false := by rw [beq_eq_false_iff_ne]; simp only [List.length_cons]; omega
      have hlt : decide ((0 : Int) < ((p :: r).length : Int)) = true := decide_eq_true (by simp only [List.length_cons]; omega)
      have hg : List.getD (p :: r) 0 SV.dead = p := rfl
      simp only [sumP] at hL
      have hsz : decide ((strP p).size < 4294967281) = true := decide_eq_true (by omega)
      have e1 : asBool ((cellsOf p).getD 0 .dead) = litP p := rfl
      have e2 : asStr ((cellsOf p).getD 1 .dead) = strP p := rfl
      simp only [hlen, hlt, hg, e1, e2, hsz, cond_false, cond_true, tagP, Bool.and_true]
      cases litP p with
      | true => rfl
      | false =>
        simp only [cond_false]
        have e32 : (32 : Nat).toUInt8 = (32 : UInt8) := rfl
        rw [e32]
        obtain ⟨q, hc⟩ := cutL_head 32 (strP p).data.toList
        rw [hc]
        have e3 : asStr (List.getD (cellsOf (List.getD (List.map tx ((strP p).data.toList.takeWhile (· != 32) :: q)) 0 SV.dead)) 0 SV.dead) = ⟨(tagH (strP p)).toArray⟩ := rfl
        have hl0 : decide ((0 : Int) < ((List.map tx ((strP p).data.toList.takeWhile (· != 32) :: q)).length : Int)) = true := decide_eq_true (by simp)
        rw [e3, hl0]
        have hle : (tagH (strP p)).length ≤ (strP p).size := by
          have := (List.takeWhile_prefix (p := (· != (32 : UInt8))) (l := (strP p).data.toList)).length_le
          simpa [tagH] using this
        have hs2 : (ByteArray.mk (tagH (strP p)).toArray).size = (tagH (strP p)).length := by simp [ByteArray.size]
        have := L51_is 4294967290 ⟨(tagH (strP p)).toArray⟩ (by rw [hs2]; omega) (tagH (strP p)).length 0 4294967290 (by rw [hs2]; omega) (by omega)
        rw [show ((0 : Nat) : Int) = 0 from rfl, List.drop_zero] at this
        rw [this]
        rfl
  · cases h
noncomputable def lH0 : List (Nat × Spec) := (52, .wide (wideOf (tyOf Try.prog) k83)) :: (51, .look (lookOf (tyOf Try.prog) gTagP)) :: (50, .plain gAnn50) :: rLib
theorem lH0_ok : SpecsOk rE (ofList lH0) := .cons s52_ok (.cons s51_ok (.cons s50_ok rLib_ok))
end Sx
