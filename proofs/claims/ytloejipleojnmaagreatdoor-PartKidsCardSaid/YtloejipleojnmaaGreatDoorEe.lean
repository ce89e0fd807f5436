/-
  Sx, part 32: what strings.Builder wants: the pointer that does not escape, and the text that is told at the end.
-/
import Derived.Test.YtloejipleojnmaaGreatDoorEc
import Derived.Shelf.Strings.BuilderK
import Derived.Test.YtloejipleojnmaaGreatDoorEa
import Derived.Lib.BytesEntry
import Derived.Laws.Externs
import Derived.Shelf.Bytes.SlIndexAt
set_option linter.unusedVariables false
set_option linter.unusedSimpArgs false
set_option linter.unusedVariables false
set_option linter.unusedSimpArgs false
namespace Sx
open Go Go.Proofs Go.Shelf Go.RowKit

/-- The argument, as it is. -/
def gSame : List SV → Option (Bool × SV)
  | [x] => some (true, x)
  | _ => none
theorem noEscape_ok {E : Env} {f : FuncId} {fn : Func} (hf : E.P.funcs[f]? = some fn) (hname : (fn.name == "runtime.NumGoroutine") = false) (hb : fn.body.isNone = true) (hn : Extern.findNext fn = none) (he : Extern.find fn = some Extern.AbiNoEscape.same) : SpecOk E f (.plain gSame) := by
  intro ρ s a w args vals sv hR hl h
  unfold gSame at h
  split at h
  · rename_i x
    simp only [Option.some.injEq, Prod.mk.injEq, true_and] at h
    subst h
    obtain ⟨v, rfl⟩ : ∃ v, vals = [v] := by
      match vals, hl.1 with
      | [v], _ => exact ⟨v, rfl⟩
    left
    exact OpDone.pure hR (hl.2 0 x v rfl rfl) (by rw [run_callFunc_extern hf hname hb hn he]; rfl)
  · cases h

/-- The builder's row: nil, or the head of a row of bytes. -/
def BufAt (w : World) (e : TypeId) (v : Value) (l : List UInt8) : Prop :=
  (v = .slice none 0 0 ∧ l = []) ∨ ∃ g cap cur fz, v = .slice (some ⟨g, 0, none⟩) l.length cap ∧ w.heap[g]? = some (.cells cur e fz) ∧ l.length ≤ cap ∧ cap ≤ maxLen ∧ cur.size = cap ∧ cur.toList.take l.length = Lib.byteCells l

section
variable {P : Program} {ρ : Go.Shelf.Ren}
set_option maxHeartbeats 2000000 in
set_option maxRecDepth 100000 in
theorem str_full (L : Lays.n169 P ρ) (X : Builder.Extra P ρ) (b g cap : Nat) (p : Value) (cur : Array Value) (fz : Nat × Nat) (l : List UInt8) (w : World) (h0 : l ≠ []) (hbk : w.heap[b]? = some (.cells #[p, .slice (some ⟨g, 0, none⟩) l.length cap] (ρ.t 72) (0, 0)))
    (hg : w.heap[g]? = some (.cells cur (ρ.t 5) fz)) (hnc : l.length ≤ cap) (hcm : cap ≤ maxLen) (hcs : cur.size = cap) (htake : cur.toList.take l.length = Lib.byteCells l) :
    Calls P (ρ.f 169) #[.pointer (some ⟨b, 0, none⟩)] w fun e w' => e = .returned (.string ⟨l.toArray⟩) ∧ w' = w.drew.freeze ⟨g, 0, none⟩ l.length := by
  have hl0 : l.length ≠ 0 := by simpa using h0
  have c1 : w.drew.cell? ⟨b, 1, none⟩ = some (.slice (some ⟨g, 0, none⟩) l.length cap) := by
    have : w.drew.heap[b]? = some (.cells #[p, .slice (some ⟨g, 0, none⟩) l.length cap] (ρ.t 72) (0, 0)) := hbk
    rw [Lib.cell_of_heap this]; rfl
  have hg' : w.drew.heap[g]? = some (.cells cur (ρ.t 5) fz) := hg
  have hSD : (Builtin.unsafeSliceData_ #[(ρ.t 37)] (ρ.t 127) #[.slice (some ⟨g, 0, none⟩) l.length cap]).run P w.drew = .ok (.pointer (some ⟨g, 0, none⟩)) w.drew :=
    Lib.run_unsafeSliceData_row _ _ _ _ _ _ (by omega)
  have hUS : (Builtin.unsafeString_ #[(ρ.t 127), (ρ.t 3)] (ρ.t 9) #[.pointer (some ⟨g, 0, none⟩), .int .i64 l.length]).run P w.drew = .ok (.string ⟨l.toArray⟩) (w.drew.freeze ⟨g, 0, none⟩ l.length) := by
    refine Lib.run_unsafeString_row w.drew (ρ.t 127) (ρ.t 3) (ρ.t 9) (ρ.t 5) L.t127 X.cellsByte g cur.size (by simp [World.shape?, hg']) l h0 (by omega) (by unfold maxLen at hcm; omega) ?_
    intro j x hx
    have hj : j < l.length := (List.getElem?_eq_some_iff.1 hx).1
    have h1 : (Lib.byteCells l)[j]? = some (.int .u8 x.toNat) := by simp [Lib.byteCells, hx]
    rw [← htake, List.getElem?_take_of_lt hj] at h1
    have h2 : cur[j]? = some (.int .u8 x.toNat) := by simpa using h1
    have e : ((⟨g, 0, none⟩ : Addr).add j) = ⟨g, j, none⟩ := by by_cases q : j = 0 <;> simp [Addr.add, q]
    rw [e]
    simp [World.cell?, hg', h2]
  have mixed := L.mixed
  have t72 := L.t72; have a72 := L.a72; have z72 := L.z72; have v72 := L.v72; have u72 := run_underlying L.t72
  have t70 := L.t70; have a70 := L.a70; have z70 := L.z70; have v70 := L.v70; have u70 := run_underlying L.t70
  have t37 := L.t37; have a37 := L.a37; have z37 := L.z37; have v37 := L.v37; have u37 := run_underlying L.t37
  have t127 := L.t127; have a127 := L.a127; have z127 := L.z127; have v127 := L.v127; have u127 := run_underlying L.t127
  have t3 := L.t3; have a3 := L.a3; have z3 := L.z3; have v3 := L.v3; have u3 := run_underlying L.t3
  have t9 := L.t9; have a9 := L.a9; have z9 := L.z9; have v9 := L.v9; have u9 := run_underlying L.t9
  have t5 := X.t5; have a5 := X.a5; have z5 := X.z5; have v5 := X.v5; have u5 := run_underlying X.t5
  go_enter L.f169, Body.n169_ntmps ρ
  go_wp2
  go_region_o
  all_goals (go_wp2; go_ret; exact ⟨rfl, rfl⟩)

set_option maxHeartbeats 2000000 in
set_option maxRecDepth 100000 in
theorem str_nil (L : Lays.n169 P ρ) (X : Builder.Extra P ρ) (b : Nat) (p : Value) (w : World) (hbk : w.heap[b]? = some (.cells #[p, .slice none 0 0] (ρ.t 72) (0, 0))) :
    Calls P (ρ.f 169) #[.pointer (some ⟨b, 0, none⟩)] w fun e w' => e = .returned (.string ⟨#[]⟩) ∧ w' = w.drew := by
  have hUS := Any.unsafeString_none L X
  have c1 : w.drew.cell? ⟨b, 1, none⟩ = some (.slice none 0 0) := by
    have : w.drew.heap[b]? = some (.cells #[p, .slice none 0 0] (ρ.t 72) (0, 0)) := hbk
    rw [Lib.cell_of_heap this]; rfl
  have hSD : (Builtin.unsafeSliceData_ #[(ρ.t 37)] (ρ.t 127) #[.slice none 0 0]).run P w.drew = .ok (.pointer none) w.drew := rfl
  have mixed := L.mixed
  have t72 := L.t72; have a72 := L.a72; have z72 := L.z72; have v72 := L.v72; have u72 := run_underlying L.t72
  have t70 := L.t70; have a70 := L.a70; have z70 := L.z70; have v70 := L.v70; have u70 := run_underlying L.t70
  have t37 := L.t37; have a37 := L.a37; have z37 := L.z37; have v37 := L.v37; have u37 := run_underlying L.t37
  have t127 := L.t127; have a127 := L.a127; have z127 := L.z127; have v127 := L.v127; have u127 := run_underlying L.t127
  have t3 := L.t3; have a3 := L.a3; have z3 := L.z3; have v3 := L.v3; have u3 := run_underlying L.t3
  have t9 := L.t9; have a9 := L.a9; have z9 := L.z9; have v9 := L.v9; have u9 := run_underlying L.t9
  have t5 := X.t5; have a5 := X.a5; have z5 := X.z5; have v5 := X.v5; have u5 := run_underlying X.t5
  go_enter L.f169, Body.n169_ntmps ρ
  go_wp2
  go_region_o
  all_goals (go_wp2; go_ret; exact ⟨rfl, rfl⟩)

set_option maxHeartbeats 2000000 in
set_option maxRecDepth 100000 in
theorem str_room (L : Lays.n169 P ρ) (X : Builder.Extra P ρ) (b g cap : Nat) (p : Value) (w : World) (hc0 : cap ≠ 0) (hbk : w.heap[b]? = some (.cells #[p, .slice (some ⟨g, 0, none⟩) 0 cap] (ρ.t 72) (0, 0))) :
    Calls P (ρ.f 169) #[.pointer (some ⟨b, 0, none⟩)] w fun e w' => e = .returned (.string ⟨#[]⟩) ∧ w' = w.drew := by
  have hUS := Any.unsafeString_none L X
  have c1 : w.drew.cell? ⟨b, 1, none⟩ = some (.slice (some ⟨g, 0, none⟩) 0 cap) := by
    have : w.drew.heap[b]? = some (.cells #[p, .slice (some ⟨g, 0, none⟩) 0 cap] (ρ.t 72) (0, 0)) := hbk
    rw [Lib.cell_of_heap this]; rfl
  have hSD : (Builtin.unsafeSliceData_ #[(ρ.t 37)] (ρ.t 127) #[.slice (some ⟨g, 0, none⟩) 0 cap]).run P w.drew = .ok (.pointer (some ⟨g, 0, none⟩)) w.drew :=
    Lib.run_unsafeSliceData_row _ _ _ _ _ _ hc0
  clear hc0
  have mixed := L.mixed
  have t72 := L.t72; have a72 := L.a72; have z72 := L.z72; have v72 := L.v72; have u72 := run_underlying L.t72
  have t70 := L.t70; have a70 := L.a70; have z70 := L.z70; have v70 := L.v70; have u70 := run_underlying L.t70
  have t37 := L.t37; have a37 := L.a37; have z37 := L.z37; have v37 := L.v37; have u37 := run_underlying L.t37
  have t127 := L.t127; have a127 := L.a127; have z127 := L.z127; have v127 := L.v127; have u127 := run_underlying L.t127
  have t3 := L.t3; have a3 := L.a3; have z3 := L.z3; have v3 := L.v3; have u3 := run_underlying L.t3
  have t9 := L.t9; have a9 := L.a9; have z9 := L.z9; have v9 := L.v9; have u9 := run_underlying L.t9
  have t5 := X.t5; have a5 := X.a5; have z5 := X.z5; have v5 := X.v5; have u5 := run_underlying X.t5
  go_enter L.f169, Body.n169_ntmps ρ
  go_wp2
  go_region_o
  all_goals (go_wp2; go_ret; exact ⟨rfl, rfl⟩)

set_option maxHeartbeats 2000000 in
set_option maxRecDepth 100000 in
theorem str_noroom (L : Lays.n169 P ρ) (X : Builder.Extra P ρ) (b g : Nat) (p : Value) (cur : Array Value) (fz : Nat × Nat) (w : World) (hbk : w.heap[b]? = some (.cells #[p, .slice (some ⟨g, 0, none⟩) 0 0] (ρ.t 72) (0, 0))) (hg : w.heap[g]? = some (.cells cur (ρ.t 5) fz)) :
    Calls P (ρ.f 169) #[.pointer (some ⟨b, 0, none⟩)] w fun e w' => e = .returned (.string ⟨#[]⟩) ∧ w'.os = w.os ∧ w'.tape = w.tape ∧ w'.output = w.output ∧ w'.heap = (w.alloc (.view ⟨g, 0, none⟩ (ρ.t 5))).heap := by
  have hUS := Any.unsafeString_none L X
  have hlt : b < w.heap.size := by
    rcases Nat.lt_or_ge b w.heap.size with h' | h'
    · exact h'
    · simp [Array.getElem?_eq_none h'] at hbk
  have c1 : w.drew.cell? ⟨b, 1, none⟩ = some (.slice (some ⟨g, 0, none⟩) 0 0) := by
    have : w.drew.heap[b]? = some (.cells #[p, .slice (some ⟨g, 0, none⟩) 0 0] (ρ.t 72) (0, 0)) := hbk
    rw [Lib.cell_of_heap this]; rfl
  have hSD : (Builtin.unsafeSliceData_ #[(ρ.t 37)] (ρ.t 127) #[.slice (some ⟨g, 0, none⟩) 0 0]).run P w.drew = .ok (.pointer (some ⟨w.drew.heap.size, 0, none⟩)) (w.drew.alloc (.view ⟨g, 0, none⟩ (ρ.t 5))) :=
    Lib.run_unsafeSliceData_zero w.drew _ _ (ρ.t 5) L.t127 ⟨g, 0, none⟩ 0 ((ρ.t 5), cur.size) (by have hg' : w.drew.heap[g]? = some (.cells cur (ρ.t 5) fz) := hg; simp [World.shape?, hg'])
  have c2 : (w.drew.alloc (.view ⟨g, 0, none⟩ (ρ.t 5))).cell? ⟨b, 1, none⟩ = some (.slice (some ⟨g, 0, none⟩) 0 0) := by
    have : (w.drew.alloc (.view ⟨g, 0, none⟩ (ρ.t 5))).heap[b]? = _ := (Lib.alloc_old w.drew _ b hlt).trans hbk
    rw [Lib.cell_of_heap this]; rfl
  have c3 : (w.alloc (.view ⟨g, 0, none⟩ (ρ.t 5))).drew.cell? ⟨b, 1, none⟩ = some (.slice (some ⟨g, 0, none⟩) 0 0) := c2
  have c0 : w.cell? ⟨b, 1, none⟩ = some (.slice (some ⟨g, 0, none⟩) 0 0) := c1
  have mixed := L.mixed
  have t72 := L.t72; have a72 := L.a72; have z72 := L.z72; have v72 := L.v72; have u72 := run_underlying L.t72
  have t70 := L.t70; have a70 := L.a70; have z70 := L.z70; have v70 := L.v70; have u70 := run_underlying L.t70
  have t37 := L.t37; have a37 := L.a37; have z37 := L.z37; have v37 := L.v37; have u37 := run_underlying L.t37
  have t127 := L.t127; have a127 := L.a127; have z127 := L.z127; have v127 := L.v127; have u127 := run_underlying L.t127
  have t3 := L.t3; have a3 := L.a3; have z3 := L.z3; have v3 := L.v3; have u3 := run_underlying L.t3
  have t9 := L.t9; have a9 := L.a9; have z9 := L.z9; have v9 := L.v9; have u9 := run_underlying L.t9
  have t5 := X.t5; have a5 := X.a5; have z5 := X.z5; have v5 := X.v5; have u5 := run_underlying X.t5
  go_enter L.f169, Body.n169_ntmps ρ
  go_wp2
  go_region_o
  all_goals (go_wp2; go_ret; exact ⟨rfl, rfl, rfl, rfl, rfl⟩)

theorem kept_freeze {w : World} {g n : Nat} : Kept (fun k => some g = some k) w (w.drew.freeze ⟨g, 0, none⟩ n) := by
  unfold World.freeze
  split
  · exact ⟨rfl, rfl, rfl, Nat.le_refl _, fun _ _ _ => rfl⟩
  · refine ⟨rfl, rfl, rfl, by show _ ≤ (Array.modify _ _ _).size; rw [Array.size_modify]; exact Nat.le_refl _, fun b hb hn => ?_⟩
    have hne : g ≠ b := fun q => hn (by rw [q])
    show (Array.modify _ _ _)[b]? = _
    rw [Array.getElem?_modify, if_neg hne]
    rfl
/-- What the builder holds is told, and nothing else is touched but its row. -/
theorem str_any (L : Lays.n169 P ρ) (X : Builder.Extra P ρ) (b : Nat) (p v : Value) (l : List UInt8) (w : World) (hbk : w.heap[b]? = some (.cells #[p, v] (ρ.t 72) (0, 0))) (hv : BufAt w (ρ.t 5) v l) :
    Calls P (ρ.f 169) #[.pointer (some ⟨b, 0, none⟩)] w fun e w' => e = .returned (.string ⟨l.toArray⟩) ∧ Kept (fun k => blkOf v = some k) w w' := by
  have drew : ∀ W : Nat → Prop, Kept W w w.drew := fun W => ⟨rfl, rfl, rfl, Nat.le_refl _, fun _ _ _ => rfl⟩
  rcases hv with ⟨rfl, rfl⟩ | ⟨g, cap, cur, fz, rfl, hg, h1, h2, h3, h4⟩
  · refine (str_nil L X b p w hbk).mono ?_
    rintro e w' ⟨rfl, rfl⟩
    exact ⟨rfl, drew _⟩
  · by_cases h0 : l = []
    · subst h0
      by_cases hc : cap = 0
      · subst hc
        refine (str_noroom L X b g p cur fz w hbk hg).mono ?_
        rintro e w' ⟨rfl, q1, q2, q3, q4⟩
        refine ⟨rfl, q1, q2, q3, by rw [q4]; show _ ≤ (w.heap.push _).size; rw [Array.size_push]; omega, fun k hk _ => ?_⟩
        rw [q4]; exact Lib.alloc_old w _ k hk
      · refine (str_room L X b g cap p w hc hbk).mono ?_
        rintro e w' ⟨rfl, rfl⟩
        exact ⟨rfl, drew _⟩
    · refine (str_full L X b g cap p cur fz l w h0 hbk hg h1 h2 h3 h4).mono ?_
      rintro e w' ⟨rfl, rfl⟩
      exact ⟨rfl, kept_freeze⟩
end

/-- Are they octets? -/
def octets : List SV → Bool
  | [] => true
  | x :: l => decide (0 ≤ asInt x) && Nat.ble (asInt x).toNat 255 && octets l
theorem octets_mem : ∀ {l : List SV} {x : SV}, octets l = true → x ∈ l → 0 ≤ asInt x ∧ asInt x ≤ 255
  | y :: l, x, h, hx => by
    simp only [octets, Bool.and_eq_true, decide_eq_true_eq] at h
    rcases List.mem_cons.1 hx with rfl | hx
    · exact ⟨h.1.1, by have := Nat.le_of_ble_eq_true h.1.2; omega⟩
    · exact octets_mem h.2 hx

/-- A builder's String: its row is nobody's any more. -/
def gString (tb te : TypeId) : List SV → Mem → List Nat → Tr (SV × Mem × List Nat)
  | [.box i 0], m, u => (match m.get i with
    | some (.box t [_, .row r]) => bif Nat.beq t tb then (match m.get r with
      | some (.row e xs) => bif Nat.beq e te then .br (octets xs) (.leaf (.str (strOf xs), m.del r, u)) .no else .no
      | _ => .no) else .no
    | _ => .no)
  | _, _, _ => .no

theorem byteCells_of {E : Env} (hE : EnvOk E) {w : World} {te : TypeId} {d : TyD} (hde : E.Ty te = some d) (hd : d.d = .int .u8) {ok : Nat → Prop} {xs : List SV} {cells : List Value} (hl : cells.length = xs.length * d.size) (hRC : RowCells E w ok d xs cells) (ho : octets xs = true) :
    d.size = 1 ∧ cells = Lib.byteCells (xs.map fun x => (asInt x).toNat.toUInt8) := by
  have hT := hE.ty _ _ hde
  have hck := hT.ck .u8 hd
  have hsz : d.size = 1 := by rw [← hT.cells, hck]; rfl
  refine ⟨hsz, ?_⟩
  apply List.ext_getElem?
  intro j
  rw [hsz, Nat.mul_one] at hl
  by_cases hj : j < xs.length
  · have hxj : xs[j]? = some xs[j] := List.getElem?_eq_getElem hj
    have hok := hRC.1 _ (List.getElem_mem hj)
    have hform : ∃ n, xs[j] = .int .u8 n := by
      obtain ⟨h1, h2⟩ := hok
      rw [hck] at h2
      have hl2 := tyCs_length h2
      match hq : cellsOf xs[j], hl2 with
      | [c], _ =>
        rw [hq] at h2 h1
        simp [tyCs] at h2
        rw [hd] at h1
        simp [ofCells] at h1
        cases c <;> simp [tyC] at h2
        subst h2
        exact ⟨_, h1⟩
    obtain ⟨n, hn⟩ := hform
    obtain ⟨u, hu', hr⟩ := hRC.2 j 0 _ (.int .u8 n) hxj (by rw [hn]; rfl)
    rw [hsz] at hu'
    simp at hu'
    cases hr
    have hb := octets_mem ho (List.getElem_mem hj)
    rw [hn] at hb
    simp only [asInt] at hb
    simp [Lib.byteCells, hu', hxj, hn, asInt]
    omega
  · rw [List.getElem?_eq_none (by omega), List.getElem?_eq_none (by simp [Lib.byteCells]; omega)]

theorem string_ok {E : Env} (hE : EnvOk E) {ρ : Go.Shelf.Ren} (L : Lays.n169 E.P ρ) (X : Builder.Extra E.P ρ) {fn : Func} (hf : E.P.funcs[ρ.f 169]? = some fn) (hname : (fn.name == "runtime.NumGoroutine") = false) (hbody : fn.body.isNone = false)
    {d : TyD} (hde : E.Ty (ρ.t 5) = some d) (hd : d.d = .int .u8) : SpecOk E (ρ.f 169) (.wide (gString (ρ.t 72) (ρ.t 5))) := by
  intro σ s a w args vals sv m u hR hl h
  unfold gString at h
  split at h
  · rename_i i
    split at h
    · rename_i t c0 r hgi
      simp only [cond_eq_ite] at h
      split at h
      · rename_i ht
        have ht := Nat.eq_of_beq_eq_true ht
        split at h
        · rename_i e xs hgr
          split at h
          · rename_i he
            have he := Nat.eq_of_beq_eq_true he
            subst ht; subst he
            simp only [pickA, cond_eq_ite] at h
            split at h
            · rename_i hoct
              simp only [Option.some.injEq, Prod.mk.injEq] at h
              obtain ⟨rfl, rfl, rfl⟩ := h
              obtain ⟨v0, rfl⟩ : ∃ v0, vals = [v0] := by
                match vals, hl.1 with
                | [v0], _ => exact ⟨v0, rfl⟩
              obtain ⟨b, hb, rfl⟩ := inv_box (hl.2 0 _ _ rfl rfl)
              have hbox := hR.mem.obj i _ hgi
              have hrow := hR.mem.obj r _ hgr
              cases hbox with
              | box _ db _ b' vs hρ hdb hbk _ hlen hty hr =>
                rw [hb] at hρ; cases hρ
                obtain ⟨p, v, rfl⟩ : ∃ p v, vs = [p, v] := by
                  match vs, hlen with
                  | [p, v], _ => exact ⟨p, v, rfl⟩
                have hv := inv_row (hr 1 _ v rfl rfl)
                cases hrow with
                | row _ d' _ v' cells hρ' hd' hrow h1 hRC =>
                  rw [hv] at hρ'; cases hρ'
                  rw [hde] at hd'; cases hd'
                  have hlc := hrow.1
                  obtain ⟨hsz, hcells⟩ := byteCells_of hE hde hd hlc hRC hoct
                  have hbuf : BufAt w (ρ.t 5) v (xs.map fun x => (asInt x).toNat.toUInt8) := by
                    rcases hrow.2 with ⟨q1, q2⟩ | ⟨g, cap, cur, fr, q1, q2, q3, q4, q5, q6, q7, q8⟩
                    · exact .inl ⟨q1, by simpa using q2⟩
                    · refine .inr ⟨g, cap, cur, fr, by simpa using q1, q3, by simpa using q5, q6, by rw [q7, hsz, Nat.mul_one], ?_⟩
                      rw [hsz, Nat.mul_one] at q8
                      rw [← hcells, ← q8]; simp
                  right
                  refine ⟨ρ.f 169, _, run_callFunc hf hname hbody _ w, (str_any L X b p v _ w hbk hbuf).mono ?_⟩
                  rintro e w' ⟨rfl, hk⟩
                  have hsub : ∀ id o, (s.mem.del r).get id = some o → s.mem.get id = some o := fun id o q => (Mem.get_del q).2
                  have hfr : ∀ k, k < w.heap.size → ¬ own σ s.mem k → w'.heap[k]? = w.heap[k]? := fun k hk1 hk2 => hk.block k hk1 (fun q => hk2 ⟨r, _, v, hgr, hv, q⟩)
                  refine ⟨_, σ, rfl, ?_, rel_str _, fun _ _ x => x, ⟨hk.os, hk.tape, hk.output, hk.size, hfr⟩, fun k q => .inl (own_sub hsub q), fun _ x => x⟩
                  refine hR.next hE (fun _ _ x => x) (fun k q => .inl (own_sub hsub q)) (fun _ x => x) hk.size hfr ?_ hR.used hR.one
                  have hm := hR.mem
                  refine ⟨fun id o q => ?_, fun x y o o' v v' b hij hi hj => hm.sep x y o o' v v' b hij (hsub _ _ hi) (hsub _ _ hj), fun b q => hm.hsep b (own_sub hsub q), fun b q => Nat.lt_of_lt_of_le (hm.hlt b q) hk.size⟩
                  obtain ⟨hne, hgo⟩ := Mem.get_del q
                  refine (hm.obj id o hgo).frame (fun b q => hfr b q.1 (fun z => q.2 (.inl z))) (fun b q => ⟨Nat.lt_of_lt_of_le q.1 hk.size, fun z => q.2 (z.imp (own_sub hsub) (fun x => x))⟩) (fun _ _ x => x) (fun v2 b2 z1 z2 => ?_)
                  refine hk.block b2 (own_lt hm ⟨id, o, v2, hgo, z1, z2⟩).1 (fun z3 => ?_)
                  exact hm.sep r id _ o v v2 b2 hne hgr hgo hv z1 z3 z2
            · cases h
          · cases h
        · cases h
      · cases h
    · cases h
  · cases h
end Sx

/-
  Sx, part 38: the entries on octets: how many there are of a sign, and where the first one is.
-/
set_option linter.unusedVariables false
set_option linter.unusedSimpArgs false
namespace Sx
open Go

def octsOf (ys : List SV) : List UInt8 := ys.map fun x => (asInt x).toNat.toUInt8
def gCountB (e : TypeId) : List SV → Mem → Option (Bool × SV)
  | [x, .int .u8 c], m => (match elemsE e m x with
    | some ys => some (true, .int .i64 (Lib.countByte (octsOf ys) c.toNat.toUInt8 : Nat))
    | none => none)
  | _, _ => none
def gIndexB (e : TypeId) : List SV → Mem → Option (Bool × SV)
  | [x, .int .u8 c], m => (match elemsE e m x with
    | some ys => some (true, .int .i64 (Lib.indexByte (octsOf ys) c.toNat.toUInt8))
    | none => none)
  | _, _ => none

section
variable {E : Env} {ρ : Ren} {s : St} {a : Act} {w : World}
theorem u8Cells {ok : Nat → Prop} {e : TypeId} {d : TyD} (hE : EnvOk E) (hde : E.Ty e = some d) (hd : d.d = .int .u8) {xs : List SV} {cells : List Value} (hl : cells.length = xs.length * d.size) (hRC : RowCells E w ok d xs cells) : cells = (xs.map asInt).map (Value.int .u8) := by
  have hT := hE.ty _ _ hde
  have hck := hT.ck .u8 hd
  have hsz : d.size = 1 := by rw [← hT.cells, hck]; rfl
  apply List.ext_getElem?
  intro j
  rw [hsz, Nat.mul_one] at hl
  by_cases hj : j < xs.length
  · have hxj : xs[j]? = some xs[j] := List.getElem?_eq_getElem hj
    obtain ⟨h1, h2⟩ := hRC.1 _ (List.getElem_mem hj)
    rw [hck] at h2
    rw [hd] at h1
    obtain ⟨n, hn⟩ : ∃ n, xs[j] = .int .u8 n := by
      have hl2 := tyCs_length h2
      match hq : cellsOf xs[j], hl2 with
      | [c], _ =>
        rw [hq] at h2 h1
        simp [tyCs] at h2
        simp [ofCells] at h1
        cases c <;> simp [tyC] at h2
        subst h2
        exact ⟨_, h1⟩
    obtain ⟨u, hu', hr⟩ := hRC.2 j 0 _ (.int .u8 n) hxj (by rw [hn]; rfl)
    rw [hsz] at hu'
    simp at hu'
    cases hr
    simp [hu', hxj, hn, asInt]
  · rw [List.getElem?_eq_none (by omega), List.getElem?_eq_none (by simp; omega)]
theorem run_bytesAt {P : Program} (a : Addr) (n c : Nat) (xs : List Int) (hx : xs.length = n) (hc : ∀ i, i < n → w.cell? (a.add i) = some (.int .u8 (xs.getD i 0))) : (Extern.Bytes.bytesOf (.slice (some a) n c)).run P w = .ok ⟨(Lib.bytesOf xs).toArray⟩ w := by
  have hl := Lib.run_loadBytesX (P := P) w xs a .empty (fun j x hj => by
    have hjl : j < xs.length := (List.getElem?_eq_some_iff.1 hj).1
    rw [hc j (by omega), List.getD_eq_getElem?_getD, hj]
    rfl)
  rw [hx] at hl
  have he : (⟨ByteArray.empty.data ++ (Lib.bytesOf xs).toArray⟩ : ByteArray) = ⟨(Lib.bytesOf xs).toArray⟩ := by
    apply ByteArray.ext
    show (#[] : Array UInt8) ++ (Lib.bytesOf xs).toArray = (Lib.bytesOf xs).toArray
    simp
  rw [he] at hl
  exact hl
/-- The octets of an argument, read. -/
theorem bytes_read (hE : EnvOk E) (hR : R E ρ s a w) {e : TypeId} {d : TyD} (hde : E.Ty e = some d) (hd : d.d = .int .u8) {x : SV} {v : Value} (hx : Rel E w (okB w ρ s.mem) ρ x v) {ys : List SV} (h : elemsE e s.mem x = some ys) :
    (Extern.Bytes.bytesOf v).run E.P w = .ok ⟨(octsOf ys).toArray⟩ w := by
  have e0 : octsOf ys = Lib.bytesOf (ys.map asInt) := by
    unfold octsOf Lib.bytesOf
    rw [List.map_map]; rfl
  rcases elems_read hE hR.mem hx h with ⟨rfl, A, c, rfl⟩ | ⟨d', A, c, cells, rfl, hd', hcl, hcell, hRC, _, _⟩
  · cases A with
    | none => rfl
    | some A => rfl
  · rw [hde] at hd'; cases hd'
    have hcs := u8Cells hE hde hd hcl hRC
    rw [e0]
    refine run_bytesAt A _ c _ (by simp) (fun i hi => ?_)
    refine hcell i _ ?_
    rw [hcs]
    simp [hi]
end

theorem countB_ok {E : Env} (hE : EnvOk E) {f : FuncId} {fn : Func} (hf : E.P.funcs[f]? = some fn) (hname : (fn.name == "runtime.NumGoroutine") = false) (hb : fn.body.isNone = true) (hn : Extern.findNext fn = none) (he : Extern.find fn = some Extern.BytealgCount.count)
    {e : TypeId} {d : TyD} (hde : E.Ty e = some d) (hd : d.d = .int .u8) : SpecOk E f (.look (gCountB e)) := by
  intro ρ s a w args vals sv hR hl h
  unfold gCountB at h
  split at h
  · rename_i x c
    split at h
    · rename_i ys hys
      simp only [Option.some.injEq, Prod.mk.injEq, true_and] at h
      subst h
      obtain ⟨v, v2, rfl⟩ : ∃ v v2, vals = [v, v2] := by
        match vals, hl.1 with
        | [v, v2], _ => exact ⟨v, v2, rfl⟩
      have hv2 := inv_int (hl.2 1 _ v2 rfl rfl)
      subst hv2
      have hbr := bytes_read hE hR hde hd (hl.2 0 _ v rfl rfl) hys
      left
      refine OpDone.pure (v := .int .i64 (Lib.countByte (octsOf ys) c.toNat.toUInt8 : Nat)) hR (rel_int _ _) ?_
      rw [run_callFunc_extern hf hname hb hn he]
      have : (Extern.BytealgCount.count #[v, .int .u8 c]).run E.P w = .ok (.int .i64 (Lib.countByte (octsOf ys) c.toNat.toUInt8 : Nat)) w := by
        have hs := Lib.run_countString (P := E.P) ⟨(octsOf ys).toArray⟩ c w
        change Sem.run E.P (do
          let b ← Extern.Bytes.bytesOf (.string ⟨(octsOf ys).toArray⟩)
          let c' ← Extern.Bytes.asByte (.int .u8 c)
          pure (goInt (b.foldl (fun n x => if x == c' then n + 1 else n) (0 : Nat)))) w = _ at hs
        change Sem.run E.P (do
          let b ← Extern.Bytes.bytesOf v
          let c' ← Extern.Bytes.asByte (.int .u8 c)
          pure (goInt (b.foldl (fun n x => if x == c' then n + 1 else n) (0 : Nat)))) w = _
        simp only [Sem.run_bind] at hs ⊢
        rw [hbr]
        simpa [Extern.Bytes.bytesOf] using hs
      show ((Extern.BytealgCount.count #[v, .int .u8 c]).run E.P w).andThen _ = _
      rw [this]; rfl
    · cases h
  · cases h
theorem indexB_ok {E : Env} (hE : EnvOk E) {f : FuncId} {fn : Func} (hf : E.P.funcs[f]? = some fn) (hname : (fn.name == "runtime.NumGoroutine") = false) (hb : fn.body.isNone = true) (hn : Extern.findNext fn = none) (he : Extern.find fn = some Extern.BytealgIndexByte.indexByte)
    {e : TypeId} {d : TyD} (hde : E.Ty e = some d) (hd : d.d = .int .u8) : SpecOk E f (.look (gIndexB e)) := by
  intro ρ s a w args vals sv hR hl h
  unfold gIndexB at h
  split at h
  · rename_i x c
    split at h
    · rename_i ys hys
      simp only [Option.some.injEq, Prod.mk.injEq, true_and] at h
      subst h
      obtain ⟨v, v2, rfl⟩ : ∃ v v2, vals = [v, v2] := by
        match vals, hl.1 with
        | [v, v2], _ => exact ⟨v, v2, rfl⟩
      have hv2 := inv_int (hl.2 1 _ v2 rfl rfl)
      subst hv2
      have hbr := bytes_read hE hR hde hd (hl.2 0 _ v rfl rfl) hys
      left
      refine OpDone.pure (v := .int .i64 (Lib.indexByte (octsOf ys) c.toNat.toUInt8)) hR (rel_int _ _) ?_
      rw [run_callFunc_extern hf hname hb hn he]
      have : (Extern.BytealgIndexByte.indexByte #[v, .int .u8 c]).run E.P w = .ok (.int .i64 (Lib.indexByte (octsOf ys) c.toNat.toUInt8)) w := by
        have hs := Lib.run_indexByteString (P := E.P) ⟨(octsOf ys).toArray⟩ c w
        change Sem.run E.P (do
          let b ← Extern.Bytes.bytesOf v
          let c ← Extern.Bytes.asByte (.int .u8 c)
          match (List.range b.size).find? fun i => b[i]! == c with
          | some i => pure (goInt i)
          | none => pure (goInt (-1))) w = _
        change Sem.run E.P (do
          let b ← Extern.Bytes.bytesOf (.string ⟨(octsOf ys).toArray⟩)
          let c ← Extern.Bytes.asByte (.int .u8 c)
          match (List.range b.size).find? fun i => b[i]! == c with
          | some i => pure (goInt i)
          | none => pure (goInt (-1))) w = _ at hs
        simp only [Sem.run_bind] at hs ⊢
        rw [hbr]
        simpa [Extern.Bytes.bytesOf] using hs
      show ((Extern.BytealgIndexByte.indexByte #[v, .int .u8 c]).run E.P w).andThen _ = _
      rw [this]; rfl
    · cases h
  · cases h

/-- A contract of the library, of constants alone, that lays new blocks at most. -/
theorem plain_of_below {E : Env} (hE : EnvOk E) {f : FuncId} {fn : Func} (hf : E.P.funcs[f]? = some fn) (hname : (fn.name == "runtime.NumGoroutine") = false) (hbody : fn.body.isNone = false) {g : List SV → Option (Bool × SV)}
    (hg : ∀ args sv, g args = some (true, sv) → ∃ (us : List Value) (v : Value), args.map valOf = us.map some ∧ (∀ w ok ρ, Rel E w ok ρ sv v) ∧ ∀ w, E.G w → Calls E.P f us.toArray w (fun e w' => e = .returned v ∧ Go.RowKit.Below w.heap.size w w')) : SpecOk E f (.plain g) := by
  intro ρ s a w args vals sv hR hl h
  obtain ⟨us, v, hus, hv, hc⟩ := hg args sv h
  have : vals = us := relL_vals hl.1 hl.2 hus
  subst this
  right
  refine ⟨f, vals.toArray, run_callFunc hf hname hbody _ w, (hc w hR.g).mono ?_⟩
  rintro e w' ⟨rfl, hb⟩
  have hk : ∀ b, b < w.heap.size → w'.heap[b]? = w.heap[b]? := fun b hlt => hb.block b hlt
  refine ⟨v, ρ, rfl, ?_, hv _ _ _, fun _ _ x => x, ⟨hb.os, hb.tape, hb.output, hb.size, fun b hlt _ => hk b hlt⟩, fun b hb => .inl hb, fun _ x => x⟩
  refine hR.next hE (fun _ _ x => x) (fun b hb => .inl hb) (fun _ x => x) hb.size (fun b hlt _ => hk b hlt) ?_ hR.used hR.one
  exact ⟨fun id o hg => (hR.mem.obj id o hg).frame (fun b hq => hk b hq.1) (fun b hq => ⟨Nat.lt_of_lt_of_le hq.1 hb.size, hq.2⟩) (fun _ _ x => x) (fun v b hv hq => hk b (own_lt hR.mem ⟨id, o, v, hg, hv, hq⟩).1), hR.mem.sep, hR.mem.hsep, fun b hq => Nat.lt_of_lt_of_le (hR.mem.hlt b hq) hb.size⟩
end Sx
