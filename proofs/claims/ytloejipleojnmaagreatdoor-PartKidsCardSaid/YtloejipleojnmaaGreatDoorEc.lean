/-
  Sx, part 22c: functions that are handed memory of their caller's, or hand back some: by a run on memory whose names are 0, 1, ..
-/
import Derived.Test.YtloejipleojnmaaGreatDoorEb
import Derived.KernelRfl
import Derived.HandedShaped
import Derived.OpenShut
import Derived.ShutString
import Derived.ChangeOld
import Derived.Carry
import Derived.SizedLaws
import Derived.ProofKit
import Derived.ChangeArms
import Derived.Test.YtloejipleojnmaaGreatDoorEa
set_option linter.unusedVariables false
set_option linter.unusedSimpArgs false
set_option linter.unusedVariables false
set_option linter.unusedSimpArgs false
namespace Sx
open Go

/-- The rest of a memory. -/
def others (ids : List Nat) : Mem → Mem
  | [] => []
  | (i, o) :: r => bif hasNat ids i then others ids r else (i, o) :: others ids r
def picked (ids : List Nat) : Mem → Mem
  | [] => []
  | (i, o) :: r => bif hasNat ids i then (i, o) :: picked ids r else picked ids r
def upNames : Nat → List Nat → Names
  | _, [] => []
  | j, i :: r => (j, i) :: upNames (j + 1) r
def newNames (k base : Nat) : Mem → Names
  | [] => []
  | (n, _) :: r => bif Nat.ble k n then (n, base + (n - k)) :: newNames k base r else newNames k base r
def eqNats : List Nat → List Nat → Bool
  | [], [] => true
  | a :: l, b :: r => Nat.beq a b && eqNats l r
  | _, _ => false
def freshAll (used : List Nat) : Names → Bool
  | [] => true
  | (_, n) :: r => !(hasNat used n) && freshAll used r

/-- The names that stay: boxes', and those that were handed in as they are. -/
def smOf (ids : List Nat) : Mem → List Nat
  | [] => []
  | (n, .box _ _) :: r => n :: smOf ids r
  | (n, .row _ _) :: r => bif hasNat ids n then n :: smOf ids r else smOf ids r
def keepN (sm : List Nat) : Names → Names
  | [] => []
  | (n, i) :: r => bif hasNat sm n then (n, i) :: keepN sm r else keepN sm r
/-- What of a core's answer comes back to the caller. -/
def backW (Ty : Tys) (sm ids : List Nat) (k : Nat) (s : St) (r : SV × Mem) : Bool × SV × Mem × List Nat :=
  let news := newNames k (1000 + (maxN s.used - 999)) r.2
  let σ := keepN sm (upNames 0 ids) ++ news
  (nodupB (σ.map (·.1)) && nodupB (σ.map (·.2)) && smallB σ && boxesOk Ty (renM σ r.2 σ) && freshAll s.used news, ren σ r.1, renM σ r.2 σ ++ others ids s.mem, news.map (·.2) ++ s.used)
def backs (Ty : Tys) (sm ids : List Nat) (k : Nat) (s : St) : Tr (SV × Mem) → Tr (SV × Mem × List Nat)
  | .no => .no
  | .leaf r => bif (backW Ty sm ids k s r).1 then .leaf (backW Ty sm ids k s r).2 else .no
  | .br b t e => .br b (backs Ty sm ids k s t) (backs Ty sm ids k s e)
def isUp : Nat → Names → Bool
  | _, [] => true
  | k, (_, n) :: r => Nat.beq n k && isUp (k + 1) r
/-- A function's ways, out of its ways on memory whose names are 0, 1, .. -/
def wideOf (Ty : Tys) (core : List SV → Mem → Tr (SV × Mem)) (args : List SV) (mem : Mem) (used : List Nat) : Tr (SV × Mem × List Nat) :=
  let s := nilMem Ty (picked ((assign mem 200 (idsOfL args []) 0 []).map (·.1)) mem) ⟨[], mem, used⟩
  let τ := assign s.mem 200 (idsOfL args []) 0 []
  let m := renM τ s.mem τ
  bif nodupB (τ.map (·.1)) && nodupB (τ.map (·.2)) && smallB τ && boxesOk Ty m && eqNats (τ.map (·.2)) (m.map (·.1)) && isUp 0 τ then backs Ty (smOf (idsOfL (renL τ args) []) m) (τ.map (·.1)) τ.length s (core (renL τ args) m) else .no

/-- What a function leaves, by names 0, 1, ..: those that were handed in stay. -/
def finW (Ty : Tys) (sm : List Nat) (k : Nat) (v : SV) (s : St) : Option (SV × Mem) :=
  let s1 := nilMem Ty s.mem ⟨[v], s.mem, s.used⟩
  match canonW Ty sm [0] s1 (assign s1.mem 200 (idsOfL s1.slots (heldBy s1.mem sm)) k (selfNames sm)) with
  | some st => some (getAt st.slots 0, st.mem)
  | none => none
/-- The ways, as a run tells them. -/
def Tr.opt : Tr (SV × Mem) → Option (Option (SV × Mem))
  | .no => none
  | .leaf x => some (some x)
  | .br b t e => bif b then t.opt else e.opt
theorem Tr.opt_pick : ∀ {t : Tr (SV × Mem)} {x : SV × Mem}, pickA t = some x → t.opt = some (some x)
  | .no, _, h => by cases h
  | .leaf y, x, h => by simp [pickA] at h; subst h; rfl
  | .br b t e, x, h => by
    cases b with
    | true => exact Tr.opt_pick (t := t) h
    | false => exact Tr.opt_pick (t := e) h

theorem others_get {ids : List Nat} : ∀ {m : Mem} {i : Nat} {o : SObj}, (others ids m).get i = some o → hasNat ids i = false ∧ m.get i = some o
  | [], i, o, h => by cases h
  | (j, oj) :: r, i, o, h => by
    simp only [others, cond_eq_ite] at h
    split at h
    · rename_i hj
      obtain ⟨h1, h2⟩ := others_get h
      refine ⟨h1, ?_⟩
      have : j ≠ i := fun e => by subst e; rw [hj] at h1; cases h1
      rw [Mem.get_cons_ne this]; exact h2
    · rename_i hj
      by_cases e : j = i
      · subst e
        rw [Mem.get_cons_self] at h
        exact ⟨by simpa using hj, by rw [Mem.get_cons_self]; exact h⟩
      · rw [Mem.get_cons_ne e] at h
        obtain ⟨h1, h2⟩ := others_get h
        exact ⟨h1, by rw [Mem.get_cons_ne e]; exact h2⟩
theorem get_append {m m' : Mem} {i : Nat} {o : SObj} (h : Mem.get (m ++ m') i = some o) : m.get i = some o ∨ (m.get i = none ∧ m'.get i = some o) := by
  induction m with
  | nil => exact .inr ⟨rfl, h⟩
  | cons p r ih =>
    obtain ⟨j, oj⟩ := p
    by_cases e : j = i
    · subst e
      rw [List.cons_append, Mem.get_cons_self] at h
      exact .inl (by rw [Mem.get_cons_self]; exact h)
    · rw [List.cons_append, Mem.get_cons_ne e] at h
      rcases ih h with q | q
      · exact .inl (by rw [Mem.get_cons_ne e]; exact q)
      · exact .inr (by rw [Mem.get_cons_ne e]; exact q)
theorem eqNats_eq : ∀ {l r : List Nat}, eqNats l r = true → l = r
  | [], [], _ => rfl
  | a :: l, b :: r, h => by
    simp only [eqNats, Bool.and_eq_true] at h
    rw [Nat.eq_of_beq_eq_true h.1, eqNats_eq h.2]
  | [], _ :: _, h => by cases h
  | _ :: _, [], h => by cases h
theorem upNames_mem : ∀ {ids : List Nat} {j n i : Nat}, (n, i) ∈ upNames j ids → j ≤ n ∧ ids[n - j]? = some i
  | [], j, n, i, h => by cases h
  | a :: r, j, n, i, h => by
    rcases List.mem_cons.1 h with q | q
    · cases q; simp
    · obtain ⟨h1, h2⟩ := upNames_mem q
      refine ⟨by omega, ?_⟩
      rw [show n - j = (n - (j + 1)) + 1 by omega]; simpa using h2
theorem upNames_at : ∀ {ids : List Nat} {j n i : Nat}, ids[n]? = some i → (j + n, i) ∈ upNames j ids
  | [], j, n, i, h => by simp at h
  | a :: r, j, 0, i, h => by simp at h; subst h; simp [upNames]
  | a :: r, j, n + 1, i, h => by
    have := upNames_at (j := j + 1) (n := n) (by simpa using h)
    rw [show j + (n + 1) = j + 1 + n by omega]
    exact List.mem_cons_of_mem _ this
theorem keepN_mem {sm : List Nat} : ∀ {l : Names} {n i : Nat}, (n, i) ∈ keepN sm l → (n, i) ∈ l ∧ hasNat sm n = true
  | [], n, i, h => by cases h
  | (a, b) :: r, n, i, h => by
    simp only [keepN, cond_eq_ite] at h
    split at h
    · rename_i q
      rcases List.mem_cons.1 h with e | e
      · cases e; exact ⟨by simp, q⟩
      · obtain ⟨h1, h2⟩ := keepN_mem e; exact ⟨List.mem_cons_of_mem _ h1, h2⟩
    · obtain ⟨h1, h2⟩ := keepN_mem h; exact ⟨List.mem_cons_of_mem _ h1, h2⟩
theorem newNames_mem {k base : Nat} : ∀ {m : Mem} {n i : Nat}, (n, i) ∈ newNames k base m → k ≤ n
  | [], n, i, h => by cases h
  | (a, _) :: r, n, i, h => by
    simp only [newNames, cond_eq_ite] at h
    split at h
    · rename_i q
      rcases List.mem_cons.1 h with e | e
      · cases e; exact Nat.le_of_ble_eq_true q
      · exact newNames_mem e
    · exact newNames_mem h
theorem newNames_at {k base : Nat} : ∀ {m : Mem} {n : Nat} {o : SObj}, m.get n = some o → k ≤ n → (n, base + (n - k)) ∈ newNames k base m
  | [], n, o, h, _ => by cases h
  | (a, oa) :: r, n, o, h, hk => by
    simp only [newNames, cond_eq_ite]
    by_cases e : a = n
    · subst e
      rw [if_pos (Nat.ble_eq_true_of_le hk)]; simp
    · rw [Mem.get_cons_ne e] at h
      have := newNames_at (base := base) h hk
      split
      · exact List.mem_cons_of_mem _ this
      · exact this
theorem freshAll_mem {used : List Nat} : ∀ {l : Names} {n i : Nat}, freshAll used l = true → (n, i) ∈ l → hasNat used i = false
  | [], n, i, _, h => by cases h
  | (a, b) :: r, n, i, hf, h => by
    simp only [freshAll, Bool.and_eq_true, Bool.not_eq_true'] at hf
    rcases List.mem_cons.1 h with e | e
    · cases e; exact hf.1
    · exact freshAll_mem hf.2 e
theorem look_of_mem {τ : Names} {a b : Nat} (hn : nodupB (τ.map (·.1)) = true) (h : (a, b) ∈ τ) : look τ a = some b := by
  induction τ with
  | nil => cases h
  | cons p r ih =>
    obtain ⟨x, y⟩ := p
    simp only [List.map_cons, nodupB, Bool.and_eq_true, Bool.not_eq_true'] at hn
    simp only [look, cond_eq_ite]
    rcases List.mem_cons.1 h with e | e
    · cases e; rw [if_pos (Nat.beq_refl _)]
    · have : ¬ (Nat.beq x a = true) := fun q => by
        have q := Nat.eq_of_beq_eq_true q
        subst q
        have : hasNat (r.map (·.1)) x = true := hasNat_iff.2 (List.mem_map.2 ⟨(x, b), e, rfl⟩)
        rw [this] at hn; cases hn.1
      rw [if_neg this]; exact ih hn.2 e
theorem pick_backs {Ty : Tys} {sm ids : List Nat} {k : Nat} {s : St} : ∀ {l : Tr (SV × Mem)} {r : SV × Mem × List Nat}, pickA (backs Ty sm ids k s l) = some r → ∃ x, pickA l = some x ∧ (backW Ty sm ids k s x).1 = true ∧ (backW Ty sm ids k s x).2 = r
  | .no, r, h => by cases h
  | .leaf x, r, h => by
    simp only [backs, cond_eq_ite] at h
    split at h
    · rename_i hb
      simp [pickA] at h
      exact ⟨x, rfl, hb, h⟩
    · cases h
  | .br b t e, r, h => by
    cases b with
    | true => exact pick_backs (l := t) h
    | false => exact pick_backs (l := e) h

theorem assign_keys {m : Mem} : ∀ (f : Nat) (l : List Nat) (k : Nat) (τ : Names), (∀ p, p ∈ τ → ∃ o, m.get p.1 = some o) → ∀ p, p ∈ assign m f l k τ → ∃ o, m.get p.1 = some o
  | 0, _, _, τ, h => h
  | _ + 1, [], _, τ, h => h
  | f + 1, id :: r, k, τ, h => by
    unfold assign
    split
    · exact assign_keys f r k τ h
    · split
      · rename_i t cs hg
        exact assign_keys f _ (k + 1) _ (fun p hp => by
          rcases List.mem_append.1 hp with q | q
          · exact h p q
          · simp at q; subst q; exact ⟨_, hg⟩)
      · rename_i e xs hg
        exact assign_keys f _ (k + 1) _ (fun p hp => by
          rcases List.mem_append.1 hp with q | q
          · exact h p q
          · simp at q; subst q; exact ⟨_, hg⟩)
      · exact assign_keys f r k τ h

/-- A value by other names. -/
theorem Rel.renG {E : Env} {w : World} {ok : Nat → Prop} {ρ ρ' : Ren} {τ : Names} (one : ∀ i j, look τ i = some j → ρ' j = ρ i) {s : SV} {v : Value} (h : Rel E w ok ρ s v) : Rel E w ok ρ' (Sx.ren τ s) v := by
  induction h with
  | data s v h => cases h <;> (simp only [Sx.ren]; exact .data _ _ (by constructor <;> assumption))
  | snil => exact .snil
  | box id off b h =>
    simp only [Sx.ren]
    cases hl : look τ id with
    | none => exact .dead _
    | some i => exact .box i off b (by rw [one _ _ hl]; exact h)
  | elt id sz i off b n c h hi =>
    simp only [Sx.ren]
    cases hl : look τ id with
    | none => exact .dead _
    | some j => exact .elt j sz i off b n c (by rw [one _ _ hl]; exact h) hi
  | ael id base sz n i off b h hi =>
    simp only [Sx.ren]
    cases hl : look τ id with
    | none => exact .dead _
    | some j => exact .ael j base sz n i off b (by rw [one _ _ hl]; exact h) hi
  | adr cs a u hok hcell hr => exact .adr cs a u hok hcell hr
  | row id v h =>
    simp only [Sx.ren]
    cases hl : look τ id with
    | none => exact .dead _
    | some j => exact .row j v (by rw [one _ _ hl]; exact h)
  | agg cs vs hl hr ih =>
    simp only [Sx.ren, renL_eq]
    refine .agg _ vs (by simp [hl]) (fun j s v hs hv => ?_)
    rw [List.getElem?_map] at hs
    cases hc : cs[j]? with
    | none => simp [hc] at hs
    | some c => simp [hc] at hs; subst hs; exact ih j c v hc hv
  | tup cs vs hl hr ih =>
    simp only [Sx.ren, renL_eq]
    refine .tup _ vs (by simp [hl]) (fun j s v hs hv => ?_)
    rw [List.getElem?_map] at hs
    cases hc : cs[j]? with
    | none => simp [hc] at hs
    | some c => simp [hc] at hs; subst hs; exact ih j c v hc hv
  | fn f fs cs gs ds hl hl' hr hr' ih ih' =>
    simp only [Sx.ren, renL_eq]
    refine .fn f _ _ gs ds (by simp [hl]) (by simp [hl']) (fun j s v hs hv => ?_) (fun j s v hs hv => ?_)
    · rw [List.getElem?_map] at hs
      cases hc : fs[j]? with
      | none => simp [hc] at hs
      | some c => simp [hc] at hs; subst hs; exact ih j c v hc hv
    · rw [List.getElem?_map] at hs
      cases hc : cs[j]? with
      | none => simp [hc] at hs
      | some c => simp [hc] at hs; subst hs; exact ih' j c v hc hv
  | dead v => exact .dead v

section
variable {E : Env} {ρ : Ren} {s : St} {a : Act} {w : World}

/-- Where a called function begins: its memory by names of its own, all else hidden. -/
theorem startR (hE : EnvOk E) (hR : R E ρ s a w) {τ : Names} (h1 : nodupB (τ.map (·.1)) = true) (h2 : nodupB (τ.map (·.2)) = true) (h5 : smallB τ = true) (h3 : boxesOk E.Ty (renM τ s.mem τ) = true) {fn : Func} {args : List SV} {vals : List Value} (hl : RelL E w (okB w ρ s.mem) ρ args vals) :
    R E (hideRho (fun b => (own ρ s.mem b ∧ ¬ own (renRho τ ρ) (renM τ s.mem τ) b) ∨ hid ρ b) (renRho τ ρ)) ⟨slots0 fn (renL τ args), renM τ s.mem τ, τ.map (·.2)⟩ { tmps := vals.toArray ++ Array.replicate (fn.ntmps - vals.toArray.size) undef, defers := [] } w ∧
    (∀ b, own (hideRho (fun b => (own ρ s.mem b ∧ ¬ own (renRho τ ρ) (renM τ s.mem τ) b) ∨ hid ρ b) (renRho τ ρ)) (renM τ s.mem τ) b → own ρ s.mem b) := by
  generalize hH : (fun b => (own ρ s.mem b ∧ ¬ own (renRho τ ρ) (renM τ s.mem τ) b) ∨ hid ρ b) = H
  have hHb : ∀ b, H b ↔ ((own ρ s.mem b ∧ ¬ own (renRho τ ρ) (renM τ s.mem τ) b) ∨ hid ρ b) := fun b => by rw [← hH]
  -- small names are told as they are renamed
  have small : ∀ n, n < 1000000 → hideRho H (renRho τ ρ) n = renRho τ ρ n := fun n hn => by unfold hideRho; rw [if_neg (by omega)]
  have key : ∀ {n : Nat} {o : SObj}, (renM τ s.mem τ).get n = some o → n < 1000000 := fun hg => by
    obtain ⟨x, o', hx, _, _⟩ := renM_get hg
    exact small_mem h5 hx
  have ownEq : ∀ b, own (hideRho H (renRho τ ρ)) (renM τ s.mem τ) b ↔ own (renRho τ ρ) (renM τ s.mem τ) b := fun b => by
    constructor
    · rintro ⟨n, o, v, hg, hv, hb⟩; exact ⟨n, o, v, hg, by rwa [small n (key hg)] at hv, hb⟩
    · rintro ⟨n, o, v, hg, hv, hb⟩; exact ⟨n, o, v, hg, by rwa [small n (key hg)], hb⟩
  have hown : ∀ b, own (hideRho H (renRho τ ρ)) (renM τ s.mem τ) b → own ρ s.mem b := by
    rintro b hb
    obtain ⟨n, o, v, hg, hv, hb⟩ := (ownEq b).1 hb
    obtain ⟨x, o', hx, hg', rfl⟩ := renM_get hg
    exact ⟨x, o', v, hg', by rwa [renRho_mem h2 h5 hx] at hv, hb⟩
  have hok : ∀ b, okB w ρ s.mem b → okB w (hideRho H (renRho τ ρ)) (renM τ s.mem τ) b := fun b hb => ⟨hb.1, fun q => hb.2 (by
    rcases q with q | q
    · exact .inl (hown b q)
    · rcases (hHb b).1 (hid_hide.1 q) with q | q
      · exact .inl q.1
      · exact .inr q)⟩
  -- a value by the new names
  have lift : ∀ {x : SV} {v : Value}, Rel E w (okB w ρ s.mem) ρ x v → Rel E w (okB w (hideRho H (renRho τ ρ)) (renM τ s.mem τ)) (hideRho H (renRho τ ρ)) (ren τ x) v := by
    intro x v hx
    exact (hx.renG (ρ' := hideRho H (renRho τ ρ)) (fun i j hl => by rw [small _ (small_mem h5 (look_mem hl)), renRho_at h2 h5 hl])).frame (fun _ _ => rfl) hok (fun _ _ x => x)
  refine ⟨⟨?_, ?_, ⟨?_, ?_, ?_, ?_⟩, ?_, ?_, hR.g⟩, hown⟩
  · simp [slots0, repl, hl.1, renL_eq]
  · intro i v hi
    have hi : (vals ++ List.replicate (fn.ntmps - vals.length) undef)[i]? = some v := by
      rw [← Array.getElem?_toList] at hi; simpa using hi
    rw [getAt_eq]
    show Rel E w _ _ ((renL τ args ++ repl (fn.ntmps - (renL τ args).length) (.tup []))[i]?.getD .dead) v
    have hlr : (renL τ args).length = vals.length := by rw [renL_eq]; simp [hl.1]
    by_cases q : i < vals.length
    · rw [List.getElem?_append_left q] at hi
      rw [List.getElem?_append_left (by omega)]
      have qa : i < args.length := by rw [hl.1]; exact q
      have hx : args[i]? = some args[i] := List.getElem?_eq_getElem qa
      rw [renL_eq, List.getElem?_map, hx]
      exact lift (hl.2 i _ v hx hi)
    · rw [List.getElem?_append_right (by omega)] at hi
      rw [List.getElem?_append_right (by omega)]
      rw [List.getElem?_replicate] at hi
      split at hi
      · rename_i hlt
        cases hi
        rw [repl, List.getElem?_replicate, if_pos (by omega)]
        exact rel_undef
      · cases hi
  · intro n o hg
    have hn := key hg
    obtain ⟨x, o', hx, hg', rfl⟩ := renM_get hg
    have hρ : hideRho H (renRho τ ρ) n = ρ x := by rw [small n hn, renRho_mem h2 h5 hx]
    cases hR.mem.obj x o' hg' with
    | box t d cs b vs e1 hd hb hng hl hty hr =>
      obtain ⟨d', hd', hty'⟩ := boxesOk_get h3 hg
      rw [hd] at hd'; cases hd'
      refine .box t d _ b vs (by rw [hρ]; exact e1) hd hb hng (by simp [renL_eq, hl]) hty' (fun j c v hc hv => ?_)
      rw [renL_eq, List.getElem?_map] at hc
      cases hcs : cs[j]? with
      | none => simp [hcs] at hc
      | some c' => simp [hcs] at hc; subst hc; exact lift (hr j c' v hcs hv)
    | row e d xs v cells e1 hd ho hone hc => exact .row e d xs v cells (by rw [hρ]; exact e1) hd ho hone (hc.frame (fun _ _ => rfl) hok)
  · intro i j o o' v v' b hij hi hj hv hv' hb
    have hni := key hi
    have hnj := key hj
    obtain ⟨x, ox, hx, hgx, rfl⟩ := renM_get hi
    obtain ⟨y, oy, hy, hgy, rfl⟩ := renM_get hj
    have e1 : ρ x = some v := by rwa [small i hni, renRho_mem h2 h5 hx] at hv
    have e2 : ρ y = some v' := by rwa [small j hnj, renRho_mem h2 h5 hy] at hv'
    refine hR.mem.sep x y ox oy v v' b (fun q => ?_) hgx hgy e1 e2 hb
    subst q
    exact hij (nodup_fst h1 hx hy)
  · intro b hb hq
    rcases (hHb b).1 (hid_hide.1 hq) with q | q
    · exact q.2 ((ownEq b).1 hb)
    · exact hR.mem.hsep b (hown b hb) q
  · intro b hb
    rcases (hHb b).1 (hid_hide.1 hb) with q | q
    · exact (own_lt hR.mem q.1).1
    · exact hR.mem.hlt b q
  · intro n v hlt hv
    rw [small n hlt] at hv
    unfold renRho at hv
    rw [if_neg (by omega)] at hv
    cases hi : invl τ n with
    | none => simp [hi] at hv
    | some x => exact hasNat_iff.2 (List.mem_map.2 ⟨(x, n), invl_mem hi, rfl⟩)
  · intro n v hv
    unfold hideRho at hv
    split at hv
    · split at hv
      · cases hv; rfl
      · cases hv
    · unfold renRho at hv
      split at hv
      · exact hR.one n v hv
      · cases hi : invl τ n with
        | none => simp [hi] at hv
        | some x => simp [hi] at hv; exact hR.one x v hv

theorem look_append {τ τ' : Names} {i : Nat} : look (τ ++ τ') i = (match look τ i with | some j => some j | none => look τ' i) := by
  induction τ with
  | nil => rfl
  | cons p r ih =>
    obtain ⟨x, y⟩ := p
    simp only [List.cons_append, look, cond_eq_ite]
    split
    · rfl
    · exact ih

/-- What a called function has left, told to its caller. -/
theorem backR (hE : EnvOk E) (hR : R E ρ s a w) {τ : Names} (h1 : nodupB (τ.map (·.1)) = true) (h2 : nodupB (τ.map (·.2)) = true) (h5 : smallB τ = true) (hup : ∀ i n, (i, n) ∈ τ → (τ.map (·.1))[n]? = some i) (hkeys : ∀ p, p ∈ τ → ∃ o, s.mem.get p.1 = some o)
    {sm : List Nat} {ρr : Ren} (hρr : ρr = hideRho (fun b => (own ρ s.mem b ∧ ¬ own (renRho τ ρ) (renM τ s.mem τ) b) ∨ hid ρ b) (renRho τ ρ))
    {ρ3 : Ren} {v3 : SV} {m3 : Mem} {u3 : List Nat} {a3 : Act} {w2 : World} (hF : Far E sm ρr (renM τ s.mem τ) w ρ3 ⟨[v3], m3, u3⟩ a3 w2) {val : Value} (hv : Rel E w2 (okB w2 ρ3 m3) ρ3 v3 val)
    (hc : (backW E.Ty sm (τ.map (·.1)) τ.length s (v3, m3)).1 = true) :
    ∃ ρ', Comes1 E ρ s a w (backW E.Ty sm (τ.map (·.1)) τ.length s (v3, m3)).2.1 ⟨s.slots, (backW E.Ty sm (τ.map (·.1)) τ.length s (v3, m3)).2.2.1, (backW E.Ty sm (τ.map (·.1)) τ.length s (v3, m3)).2.2.2⟩ val ρ' w2 := by
  unfold backW at hc ⊢
  simp only at hc ⊢
  generalize hbase : 1000 + (maxN s.used - 999) = base at hc ⊢
  generalize hnews : newNames τ.length base m3 = news at hc ⊢
  generalize hσ : keepN sm (upNames 0 (τ.map (·.1))) ++ news = σ at hc ⊢
  simp only [Bool.and_eq_true] at hc
  obtain ⟨⟨⟨⟨c1, c2⟩, c3⟩, c4⟩, c5⟩ := hc
  generalize hH : (fun b => (own ρ s.mem b ∧ ¬ own (renRho τ ρ) (renM τ s.mem τ) b) ∨ hid ρ b) = H at hρr
  have hHb : ∀ b, H b ↔ ((own ρ s.mem b ∧ ¬ own (renRho τ ρ) (renM τ s.mem τ) b) ∨ hid ρ b) := fun b => by rw [← hH]
  have hidH : ∀ b, hid ρr b ↔ H b := fun b => by rw [hρr]; exact hid_hide
  have hidF : ∀ b, hid ρr b → hid ρ3 b := fun b hb => hF.hid hb
  -- the names' places
  have inσ : ∀ n i, (n, i) ∈ σ → (∃ p, p ∈ τ ∧ p.2 = n ∧ p.1 = i ∧ hasNat sm n = true) ∨ (τ.length ≤ n ∧ (n, i) ∈ news) := fun n i h => by
    rw [← hσ] at h
    rcases List.mem_append.1 h with q | q
    · left
      obtain ⟨q, hsmn⟩ := keepN_mem q
      obtain ⟨_, hq⟩ := upNames_mem q
      rw [Nat.sub_zero, List.getElem?_map] at hq
      cases ht : τ[n]? with
      | none => simp [ht] at hq
      | some p =>
        simp [ht] at hq
        have hp : p ∈ τ := List.mem_of_getElem? ht
        have := hup p.1 p.2 hp
        -- places are numbers
        rw [List.getElem?_map] at this
        cases ht2 : τ[p.2]? with
        | none => simp [ht2] at this
        | some p2 =>
          simp [ht2] at this
          have hp2 : p2 ∈ τ := List.mem_of_getElem? ht2
          have e : p2 = p := by
            obtain ⟨x, y⟩ := p; obtain ⟨x2, y2⟩ := p2
            simp only at this
            subst this
            have := nodup_fst h1 hp2 hp
            rw [this]
          subst e
          -- two places that hold the same pair are one
          have l1 : n < τ.length := (List.getElem?_eq_some_iff.1 ht).1
          have l2 : p2.2 < τ.length := (List.getElem?_eq_some_iff.1 ht2).1
          have same : ∀ (l : Names) (i j : Nat) (q : Nat × Nat), nodupB (l.map (·.1)) = true → l[i]? = some q → l[j]? = some q → i = j := by
            intro l
            induction l with
            | nil => intro i j q _ h; simp at h
            | cons x l ih =>
              intro i j q hn hi hj
              simp only [List.map_cons, nodupB, Bool.and_eq_true, Bool.not_eq_true'] at hn
              have no : ∀ k : Nat, l[k]? = some x → False := fun k hk => by
                have : hasNat (l.map (·.1)) x.1 = true := hasNat_iff.2 (List.mem_map.2 ⟨x, List.mem_of_getElem? hk, rfl⟩)
                rw [this] at hn; cases hn.1
              cases i with
              | zero =>
                simp at hi; subst hi
                cases j with
                | zero => rfl
                | succ j => exact (no j (by simpa using hj)).elim
              | succ i =>
                cases j with
                | zero => simp at hj; subst hj; exact (no i (by simpa using hi)).elim
                | succ j => rw [ih i j q hn.2 (by simpa using hi) (by simpa using hj)]
          exact ⟨p2, hp2, (same τ _ _ _ h1 ht2 ht), hq, hsmn⟩
    · exact .inr ⟨by rw [← hnews] at q; exact newNames_mem q, q⟩
  have newσ : ∀ n i, (n, i) ∈ news → (n, i) ∈ σ := fun n i h => by rw [← hσ]; exact List.mem_append_right _ h
  have newU : ∀ n i, (n, i) ∈ news → hasNat s.used i = false := fun n i h => freshAll_mem c5 h
  have newS : ∀ n i, (n, i) ∈ news → i < 1000000 := fun n i h => small_mem c3 (newσ n i h)
  have rhoNew : ∀ n i, (n, i) ∈ news → ρ i = none := fun n i h => by
    cases hq : ρ i with
    | none => rfl
    | some u => have := hR.used i u (newS n i h) hq; rw [newU n i h] at this; cases this
  -- the names' values, to the caller
  let ρ' : Ren := fun i => if hasNat (news.map (·.2)) i = true then (match invl σ i with | some n => ρ3 n | none => none) else ρ i
  have rOld : ∀ i, hasNat (news.map (·.2)) i = false → ρ' i = ρ i := fun i h => by simp only [ρ', h]; rfl
  have isNew : ∀ i, hasNat (news.map (·.2)) i = true → ∃ n, (n, i) ∈ news := fun i h => by
    obtain ⟨p, hp, rfl⟩ := List.mem_map.1 (hasNat_iff.1 h); exact ⟨p.1, hp⟩
  have rNew : ∀ n i, (n, i) ∈ news → ρ' i = ρ3 n := fun n i h => by
    have : hasNat (news.map (·.2)) i = true := hasNat_iff.2 (List.mem_map.2 ⟨(n, i), h, rfl⟩)
    simp only [ρ', this, if_true, invl_of_mem c2 (newσ n i h)]
  have ext : ∀ i u, ρ i = some u → ρ' i = some u := fun i u h => by
    cases hq : hasNat (news.map (·.2)) i with
    | false => rw [rOld i hq]; exact h
    | true => obtain ⟨n, hn⟩ := isNew i hq; rw [rhoNew n i hn] at h; cases h
  have rSm : ∀ p, p ∈ τ → ρr p.2 = ρ p.1 := fun p hp => by
    have hs := small_mem h5 (show (p.1, p.2) ∈ τ from hp)
    rw [hρr]; unfold hideRho; rw [if_neg (by omega)]; exact renRho_mem h2 h5 hp
  have some_ : ∀ p, p ∈ τ → ∃ u, ρ p.1 = some u := fun p hp => by
    obtain ⟨o, ho⟩ := hkeys p hp
    cases hR.mem.obj p.1 o ho with
    | box t d cs b vs e1 => exact ⟨_, e1⟩
    | row e d xs v cells e1 => exact ⟨_, e1⟩
  have rσ : ∀ n i, (n, i) ∈ σ → ρ' i = ρ3 n := fun n i h => by
    rcases inσ n i h with ⟨p, hp, rfl, rfl, hsmn⟩ | ⟨_, q⟩
    · obtain ⟨u, hu⟩ := some_ p hp
      rw [ext _ _ hu]
      exact (hF.ext p.2 u (.inl hsmn) (by rw [rSm p hp]; exact hu)).symm
    · exact rNew n i q
  -- own blocks
  have hidE : ∀ b, hid ρ' b → hid ρ b := by
    rintro b ⟨i, v, hi, hv, hb⟩
    refine ⟨i, v, hi, ?_, hb⟩
    cases hq : hasNat (news.map (·.2)) i with
    | false => rwa [rOld i hq] at hv
    | true => obtain ⟨n, hn⟩ := isNew i hq; have := newS n i hn; omega
  have hidE' : ∀ b, hid ρ b → hid ρ3 b := fun b hb => hidF b ((hidH b).2 ((hHb b).2 (.inr hb)))
  have part : ∀ i o, Mem.get (renM σ m3 σ ++ others (τ.map (·.1)) s.mem) i = some o → (∃ n o', (n, i) ∈ σ ∧ m3.get n = some o' ∧ o = renO σ o') ∨ (hasNat (τ.map (·.1)) i = false ∧ s.mem.get i = some o) := fun i o h => by
    rcases get_append h with q | q
    · exact .inl (renM_get q)
    · exact .inr (others_get q.2)
  have oldNot : ∀ i o, s.mem.get i = some o → hasNat (news.map (·.2)) i = false := fun i o h => by
    cases hq : hasNat (news.map (·.2)) i with
    | false => rfl
    | true =>
      obtain ⟨n, hn⟩ := isNew i hq
      have := rhoNew n i hn
      cases hR.mem.obj i o h with
      | box t d cs b vs e1 => rw [this] at e1; cases e1
      | row e d xs v cells e1 => rw [this] at e1; cases e1
  -- a block of the rest is another's
  have restH : ∀ i o v b, hasNat (τ.map (·.1)) i = false → s.mem.get i = some o → ρ i = some v → blkOf v = some b → H b := fun i o v b hi hg hv hb => by
    refine (hHb b).2 (.inl ⟨⟨i, o, v, hg, hv, hb⟩, ?_⟩)
    rintro ⟨n, o', v', hg', hv', hb'⟩
    obtain ⟨x, o2, hx, hgx, rfl⟩ := renM_get hg'
    rw [renRho_mem h2 h5 hx] at hv'
    have hne : x ≠ i := fun q => by
      subst q
      have : hasNat (τ.map (·.1)) x = true := hasNat_iff.2 (List.mem_map.2 ⟨(x, n), hx, rfl⟩)
      rw [this] at hi; cases hi
    exact hR.mem.sep x i o2 o v' v b hne hgx hg hv' hv hb' hb
  have ownE : ∀ b, own ρ' (renM σ m3 σ ++ others (τ.map (·.1)) s.mem) b → own ρ3 m3 b ∨ (own ρ s.mem b ∧ H b) := by
    rintro b ⟨i, o, v, hg, hv, hb⟩
    rcases part i o hg with ⟨n, o', hn, hg', rfl⟩ | ⟨hi, hg'⟩
    · exact .inl ⟨n, o', v, hg', by rwa [rσ n i hn] at hv, hb⟩
    · rw [rOld i (oldNot i o hg')] at hv
      exact .inr ⟨⟨i, o, v, hg', hv, hb⟩, restH i o v b hi hg' hv hb⟩
  have ownr : ∀ b, own ρr (renM τ s.mem τ) b → own ρ s.mem b := by
    rintro b ⟨n, o, v, hg, hv, hb⟩
    obtain ⟨x, o', hx, hg', rfl⟩ := renM_get hg
    exact ⟨x, o', v, hg', by have := rSm (x, n) hx; simp only at this; rwa [this] at hv, hb⟩
  have ownE' : ∀ b, own ρ' (renM σ m3 σ ++ others (τ.map (·.1)) s.mem) b → own ρ s.mem b ∨ w.heap.size ≤ b := fun b hb => by
    rcases ownE b hb with q | q
    · rcases hF.own b q with q | q
      · exact .inl (ownr b q)
      · exact .inr q
    · exact .inl q.1
  -- what is another's is as it was
  have keptH : ∀ b, H b → w2.heap[b]? = w.heap[b]? := fun b hb => by
    have hlt : b < w.heap.size := by
      rcases (hHb b).1 hb with q | q
      · exact (own_lt hR.mem q.1).1
      · exact hR.mem.hlt b q
    refine hF.kept.block b hlt (fun q => ?_)
    rcases (hHb b).1 hb with q2 | q2
    · refine q2.2 ?_
      obtain ⟨n, o, v, hg, hv, hb'⟩ := q
      obtain ⟨x, o', hx, hg', rfl⟩ := renM_get hg
      have := rSm (x, n) hx
      simp only at this
      exact ⟨n, _, v, hg, by rw [renRho_mem h2 h5 hx, ← this]; exact hv, hb'⟩
    · exact hR.mem.hsep b (ownr b q) q2
  have ok3 : ∀ b, okB w2 ρ3 m3 b → okB w2 ρ' (renM σ m3 σ ++ others (τ.map (·.1)) s.mem) b := fun b hb => ⟨hb.1, fun q => hb.2 (by
    rcases q with q | q
    · rcases ownE b q with q | q
      · exact .inl q
      · exact .inr (hidF b ((hidH b).2 q.2))
    · exact .inr (hidE' b (hidE b q)))⟩
  have hsz := hF.kept.size
  have okW : ∀ b, okB w ρ s.mem b → w2.heap[b]? = w.heap[b]? := fun b hb => hF.kept.block b hb.1 (fun q => hb.2 (.inl (ownr b q)))
  have ok0 : ∀ b, okB w ρ s.mem b → okB w2 ρ' (renM σ m3 σ ++ others (τ.map (·.1)) s.mem) b := fun b hb => ⟨Nat.lt_of_lt_of_le hb.1 hsz, fun q => by
    rcases q with q | q
    · rcases ownE' b q with q | q
      · exact hb.2 (.inl q)
      · have := hb.1; omega
    · exact hb.2 (.inr (hidE b q))⟩
  have lift : ∀ {x : SV} {v : Value}, Rel E w2 (okB w2 ρ3 m3) ρ3 x v → Rel E w2 (okB w2 ρ' (renM σ m3 σ ++ others (τ.map (·.1)) s.mem)) ρ' (ren σ x) v := fun hx =>
    (hx.renG (ρ' := ρ') (fun i j hl => rσ i j (look_mem hl))).frame (fun _ _ => rfl) ok3 (fun _ _ x => x)
  refine ⟨ρ', ⟨hR.len, fun i v hi => (hR.slot i v hi).frame okW ok0 ext, ⟨?_, ?_, ?_, ?_⟩, ?_, ?_, hF.r.g⟩, lift hv, ext, ⟨hF.kept.os, hF.kept.tape, hF.kept.output, hsz, fun b hb hn => hF.kept.block b hb (fun q => hn (ownr b q))⟩, ownE', hidE⟩
  · intro i o hg
    rcases part i o hg with ⟨n, o', hn, hg', rfl⟩ | ⟨hi, hg'⟩
    · cases hF.r.mem.obj n o' hg' with
      | box t d cs b vs e1 hd hb hng hl hty hr =>
        have hty' : tyBCs d.cells (renL σ cs) = true := by
          have : (renM σ m3 σ).get i = some (.box t (renL σ cs)) := by
            rcases get_append hg with q | q
            · exact q
            · have := (others_get q.2)
              exfalso
              rcases inσ n i hn with ⟨p, hp, _, rfl, _⟩ | ⟨_, q2⟩
              · have h9 : hasNat (τ.map (·.1)) p.1 = true := hasNat_iff.2 (List.mem_map.2 ⟨p, hp, rfl⟩)
                rw [h9] at this; cases this.1
              · have h9 := oldNot i _ this.2
                have : hasNat (news.map (·.2)) i = true := hasNat_iff.2 (List.mem_map.2 ⟨(n, i), q2, rfl⟩)
                rw [this] at h9; cases h9
          obtain ⟨d', hd', ht⟩ := boxesOk_get c4 this
          rw [hd] at hd'; cases hd'; exact ht
        refine .box t d _ b vs (by rw [rσ n i hn]; exact e1) hd hb hng (by simp [renL_eq, hl]) hty' (fun j c v hc hv => ?_)
        rw [renL_eq, List.getElem?_map] at hc
        cases hcs : cs[j]? with
        | none => simp [hcs] at hc
        | some c' => simp [hcs] at hc; subst hc; exact lift (hr j c' v hcs hv)
      | row e d xs v cells e1 hd ho hone hc => exact .row e d xs v cells (by rw [rσ n i hn]; exact e1) hd ho hone (hc.frame (fun _ _ => rfl) ok3)
    · refine (hR.mem.obj i o hg').frame okW ok0 ext (fun v b hv hb => keptH b (restH i o v b hi hg' hv hb))
  · intro i j o o' v v' b hij hi hj hv hv' hb hb'
    rcases part i o hi with ⟨n, oi, hn, hgi, rfl⟩ | ⟨hi1, hgi⟩ <;> rcases part j o' hj with ⟨n', oj, hn', hgj, rfl⟩ | ⟨hj1, hgj⟩
    · rw [rσ n i hn] at hv
      rw [rσ n' j hn'] at hv'
      refine hF.r.mem.sep n n' oi oj v v' b (fun q => ?_) hgi hgj hv hv' hb hb'
      subst q
      exact hij (nodup_fst c1 hn hn')
    · rw [rσ n i hn] at hv
      rw [rOld j (oldNot j _ hgj)] at hv'
      exact hF.r.mem.hsep b ⟨n, oi, v, hgi, hv, hb⟩ (hidF b ((hidH b).2 (restH j _ v' b hj1 hgj hv' hb')))
    · rw [rOld i (oldNot i _ hgi)] at hv
      rw [rσ n' j hn'] at hv'
      exact hF.r.mem.hsep b ⟨n', oj, v', hgj, hv', hb'⟩ (hidF b ((hidH b).2 (restH i _ v b hi1 hgi hv hb)))
    · rw [rOld i (oldNot i _ hgi)] at hv
      rw [rOld j (oldNot j _ hgj)] at hv'
      exact hR.mem.sep i j o o' v v' b hij hgi hgj hv hv' hb hb'
  · intro b hb hq
    rcases ownE b hb with q | q
    · exact hF.r.mem.hsep b q (hidE' b (hidE b hq))
    · exact hR.mem.hsep b q.1 (hidE b hq)
  · intro b hb
    exact Nat.lt_of_lt_of_le (hR.mem.hlt b (hidE b hb)) hsz
  · intro i v hlt hv
    rw [hasNat_iff, List.mem_append]
    cases hq : hasNat (news.map (·.2)) i with
    | true => exact .inl (hasNat_iff.1 hq)
    | false => rw [rOld i hq] at hv; exact .inr (hasNat_iff.1 (hR.used i v hlt hv))
  · intro i v hv
    cases hq : hasNat (news.map (·.2)) i with
    | false => rw [rOld i hq] at hv; exact hR.one i v hv
    | true =>
      obtain ⟨n, hn⟩ := isNew i hq
      rw [rNew n i hn] at hv
      exact hF.r.one n v hv

theorem isUp_at : ∀ {τ : Names} {k : Nat}, isUp k τ = true → ∀ i n, (i, n) ∈ τ → k ≤ n ∧ (τ.map (·.1))[n - k]? = some i
  | [], k, h, i, n, hm => by cases hm
  | (x, y) :: r, k, h, i, n, hm => by
    simp only [isUp, Bool.and_eq_true] at h
    have hy := Nat.eq_of_beq_eq_true h.1
    rcases List.mem_cons.1 hm with q | q
    · cases q; subst hy; simp
    · obtain ⟨h1, h2⟩ := isUp_at h.2 i n q
      refine ⟨by omega, ?_⟩
      rw [show n - k = (n - (k + 1)) + 1 by omega]; simpa using h2

theorem finW_sound (hE : EnvOk E) {sm : List Nat} {ρ0 : Ren} {m0 : Mem} {w0 : World} {ρ2 : Ren} {s' : St} {a2 : Act} {w2 : World} (hF : Far E sm ρ0 m0 w0 ρ2 s' a2 w2) {v : SV} {val : Value} (hv : Rel E w2 (okB w2 ρ2 s'.mem) ρ2 v val) {st : SV × Mem} {k : Nat} (h : finW E.Ty sm k v s' = some st) :
    ∃ ρ3 u3, Far E sm ρ0 m0 w0 ρ3 ⟨[st.1], st.2, u3⟩ { tmps := #[val], defers := [] } w2 := by
  have hF1 : Far E sm ρ0 m0 w0 ρ2 ⟨[v], s'.mem, s'.used⟩ { tmps := #[val], defers := [] } w2 :=
    ⟨⟨rfl, fun i u hi => by
      cases i with
      | zero => simp at hi; subst hi; exact hv
      | succ i => simp at hi, hF.r.mem, hF.r.used, hF.r.one, hF.r.g⟩, hF.ext, hF.kept, hF.own, rfl⟩
  obtain ⟨ρ4, r4, e4, x4, o4, _, _⟩ := nilMem_sound hE s'.mem hF1.r
  have hF2 := hF1.tell r4 x4 o4
  unfold finW at h
  simp only at h
  split at h
  · rename_i st1 hst1
    cases h
    obtain ⟨ρ3, hF3⟩ := canonW_sound hE hF2 hst1
    refine ⟨ρ3, st1.used, ?_⟩
    have hsl : st1.slots = [getAt st1.slots 0] := by
      unfold canonW at hst1
      simp only [cond_eq_ite] at hst1
      split at hst1
      · cases hst1
        simp only [renSt, e4]
        rfl
      · cases hst1
    have : st1 = ⟨[getAt st1.slots 0], st1.mem, st1.used⟩ := by rw [← hsl]
    rw [this] at hF3; exact hF3
  · cases h

/-- A specification of a function that is handed memory, by runs of the executor. -/
theorem wide_of_run (hE : EnvOk E) {X : List Nat → Fx} (hX : ∀ sm, FxOk E (X sm) ∧ (X sm).sm = sm) {f : FuncId} {fn : Func} (hf : E.P.funcs[f]? = some fn) (hname : (fn.name == "runtime.NumGoroutine") = false) (hbody : fn.body.isNone = false) {core : List SV → Mem → Tr (SV × Mem)}
    (hg : ∀ args m x, pickA (core args m) = some x → ∃ n, evFun (X (smOf (idsOfL args []) m)) n fn (finW E.Ty (smOf (idsOfL args []) m) m.length) args m (m.map (·.1)) = some (some x)) : SpecOk E f (.wide (wideOf E.Ty core)) := by
  intro ρ s a w args vals sv mo uo hR hl h
  unfold wideOf at h
  simp only at h
  -- nil slices first
  obtain ⟨ρ1, r1, e1, x1, o1, p1, hi1⟩ := nilMem_sound hE (picked ((assign s.mem 200 (idsOfL args []) 0 []).map (·.1)) s.mem) hR
  have hst : ∀ (l : Mem) (sl sl' : List SV) (m : Mem) (u : List Nat), nilMem E.Ty l ⟨sl, m, u⟩ = ⟨sl, (nilMem E.Ty l ⟨sl', m, u⟩).mem, (nilMem E.Ty l ⟨sl', m, u⟩).used⟩ := by
    have cells : ∀ (ks : List CK) (id j : Nat) (sl sl' : List SV) (m : Mem) (u : List Nat), nilCells E.Ty id j ks ⟨sl, m, u⟩ = ⟨sl, (nilCells E.Ty id j ks ⟨sl', m, u⟩).mem, (nilCells E.Ty id j ks ⟨sl', m, u⟩).used⟩ := by
      intro ks id
      induction ks with
      | nil => intro j sl sl' m u; rfl
      | cons k ks ih =>
        intro j sl sl' m u
        cases k with
        | slice e =>
          unfold nilCells
          simp only
          cases hm : m.get id with
          | none => rfl
          | some o =>
            cases o with
            | row _ _ => rfl
            | box t cs =>
              simp only
              cases getAt cs j <;> cases E.Ty e <;> simp only <;> try exact ih _ _ _ _ _
              simp only [St.freshN, St.fresh]
              cases hasNat u (1000 + (maxN u - 999)) || (Nat.ble 900000 (maxN u - 999) || Mem.has m (1000 + (maxN u - 999))) with
              | true => exact ih _ _ _ _ _
              | false => simp only [cond_false, St.cell]; exact ih _ _ _ _ _
        | _ => exact ih (j + 1) sl sl' m u
    intro l
    induction l with
    | nil => intro sl sl' m u; rfl
    | cons p l ih =>
      intro sl sl' m u
      obtain ⟨id, o⟩ := p
      cases o with
      | row _ _ => exact ih sl sl' m u
      | box t cs =>
        simp only [nilMem]
        cases E.Ty t with
        | none => exact ih sl sl' m u
        | some d =>
          simp only
          rw [cells d.cells id 0 sl sl' m u]
          generalize nilCells E.Ty id 0 d.cells ⟨sl', m, u⟩ = q
          have h1 := ih sl sl' q.mem q.used
          have h2 := ih sl' q.slots q.mem q.used
          have h3 := ih sl q.slots q.mem q.used
          rw [h3]
  generalize hpk : picked ((assign s.mem 200 (idsOfL args []) 0 []).map (·.1)) s.mem = pk at h r1 e1 o1 p1
  have hs2 := hst pk s.slots [] s.mem s.used
  generalize hs1 : nilMem E.Ty pk ⟨[], s.mem, s.used⟩ = s1 at h hs2
  have hss : nilMem E.Ty pk s = ⟨s.slots, s1.mem, s1.used⟩ := hs2
  rw [hss] at r1 o1 p1
  generalize hτ : assign s1.mem 200 (idsOfL args []) 0 [] = τ at h
  simp only [cond_eq_ite] at h
  split at h
  · rename_i hc
    simp only [Bool.and_eq_true] at hc
    obtain ⟨⟨⟨⟨⟨h1, h2⟩, h5⟩, h3⟩, h4⟩, h6⟩ := hc
    have h4 := eqNats_eq h4
    obtain ⟨⟨v3, m3⟩, hp, hb, hbe⟩ := pick_backs h
    obtain ⟨n, hrun⟩ := hg _ _ _ hp
    have hkeys : ∀ p, p ∈ τ → ∃ o, s1.mem.get p.1 = some o := fun p hp => by
      rw [← hτ] at hp
      exact assign_keys 200 _ 0 [] (by simp) p hp
    have hl1 : RelL E w (okB w ρ1 s1.mem) ρ1 args vals := ⟨hl.1, fun j x v hx hv => (hl.2 j x v hx hv).frame (fun _ _ => rfl) (fun b hb => ⟨hb.1, fun q => hb.2 (by
      rcases q with q | ⟨i, v, hi, hv, hbk⟩
      · exact .inl (o1 b q)
      · exact .inr ⟨i, v, hi, hi1 i v hi hv, hbk⟩)⟩) x1⟩
    obtain ⟨hR3, hown3⟩ := startR hE r1 h1 h2 h5 h3 (fn := fn) hl1
    simp only at hR3
    rw [h4] at hR3
    right
    refine ⟨f, vals.toArray, run_callFunc hf hname hbody _ w, ?_⟩
    refine (evFun_calls (hX _).1 hf hrun hR3).mono ?_
    rintro e w2 ⟨val, ρ2, a2, sv2, s', rfl, hfin, hF, hrel⟩
    rw [(hX _).2] at hF
    have hF' := hF
    obtain ⟨ρ3, u3, hF3⟩ := finW_sound hE hF hrel hfin
    have hv3 : Rel E w2 (okB w2 ρ3 m3) ρ3 v3 val := hF3.r.slot 0 val rfl
    obtain ⟨ρ', hcm⟩ := backR hE r1 h1 h2 h5 (fun i n hm => by
      obtain ⟨_, q⟩ := isUp_at h6 i n hm
      simpa using q) hkeys (sm := smOf (idsOfL (renL τ args) []) (renM τ s1.mem τ)) rfl hF3 hv3 hb
    have hbe' : backW E.Ty (smOf (idsOfL (renL τ args) []) (renM τ s1.mem τ)) (τ.map (·.1)) τ.length s1 (v3, m3) = backW E.Ty (smOf (idsOfL (renL τ args) []) (renM τ s1.mem τ)) (τ.map (·.1)) τ.length ⟨s.slots, s1.mem, s1.used⟩ (v3, m3) := rfl
    rw [hbe'] at hbe
    simp only at hcm
    rw [hbe] at hcm
    refine ⟨val, ρ', rfl, hcm.r, hcm.rel, fun i u hu => hcm.ext i u (x1 i u hu), ⟨hcm.kept.os, hcm.kept.tape, hcm.kept.output, hcm.kept.size, fun b hb hn => hcm.kept.block b hb (fun q => hn (o1 b q))⟩, fun b hb => (hcm.own b hb).imp (o1 b) (fun x => x), fun b hb => by
      obtain ⟨i, v, hi, hv, hbk⟩ := hcm.hid b hb
      exact ⟨i, v, hi, hi1 i v hi hv, hbk⟩⟩
  · cases h
end

/-- The same, by one equation. -/
theorem wide_of_eq {E : Env} (hE : EnvOk E) {X : List Nat → Fx} (hX : ∀ sm, FxOk E (X sm) ∧ (X sm).sm = sm) {f : FuncId} {fn : Func} (hf : E.P.funcs[f]? = some fn) (hname : (fn.name == "runtime.NumGoroutine") = false) (hbody : fn.body.isNone = false) {core : List SV → Mem → Tr (SV × Mem)}
    (hg : ∀ args m, core args m = .no ∨ ∃ n, evFun (X (smOf (idsOfL args []) m)) n fn (finW E.Ty (smOf (idsOfL args []) m) m.length) args m (m.map (·.1)) = (core args m).opt) : SpecOk E f (.wide (wideOf E.Ty core)) :=
  wide_of_run hE hX hf hname hbody (fun args m x h => by
    rcases hg args m with q | ⟨n, q⟩
    · rw [q] at h; cases h
    · exact ⟨n, by rw [q]; exact Tr.opt_pick h⟩)

/-- A function as it runs: for memory and arguments that are all known. -/
noncomputable def coreRun (X : List Nat → Fx) (Ty : Tys) (n : Nat) (fn : Func) (args : List SV) (m : Mem) : Tr (SV × Mem) :=
  match evFun (X (smOf (idsOfL args []) m)) n fn (finW Ty (smOf (idsOfL args []) m) m.length) args m (m.map (·.1)) with
  | some (some x) => .leaf x
  | _ => .no
theorem wide_of_self {E : Env} (hE : EnvOk E) {X : List Nat → Fx} (hX : ∀ sm, FxOk E (X sm) ∧ (X sm).sm = sm) {f : FuncId} {fn : Func} (hf : E.P.funcs[f]? = some fn) (hname : (fn.name == "runtime.NumGoroutine") = false) (hbody : fn.body.isNone = false) (n : Nat) : SpecOk E f (.wide (wideOf E.Ty (coreRun X E.Ty n fn))) :=
  wide_of_run hE hX hf hname hbody (fun args m x h => by
    refine ⟨n, ?_⟩
    unfold coreRun at h
    split at h
    · rename_i y hy
      simp [pickA] at h
      subst h; exact hy
    · cases h)

/-- The same of a function that looks at its arguments alone. -/
noncomputable def plainRun (X : Fx) (n : Nat) (fn : Func) (args : List SV) : Option (Bool × SV) :=
  match evFun X n fn (frz X.Ty fn) args [] [] with
  | some sv => some (noOwnL args && noOwn sv, sv)
  | none => none
theorem plain_of_self {E : Env} {X : Fx} (hX : FxOk E X) {f : FuncId} {fn : Func} (hf : E.P.funcs[f]? = some fn) (hname : (fn.name == "runtime.NumGoroutine") = false) (hbody : fn.body.isNone = false) (n : Nat) : SpecOk E f (.plain (plainRun X n fn)) :=
  plain_of_run hX hf hname hbody (fun args sv h => by
    unfold plainRun at h
    split at h
    · rename_i y hy
      simp only [Option.some.injEq, Prod.mk.injEq, Bool.and_eq_true] at h
      obtain ⟨⟨h1, h2⟩, rfl⟩ := h
      exact ⟨h1, h2, n, hy⟩
    · cases h)
end Sx

/-
  Sx, part 22d: functions that only look at memory that is handed to them: it is told as data.
-/
set_option linter.unusedVariables false
set_option linter.unusedSimpArgs false
namespace Sx
open Go

def viewC (m : Mem) : SV → SV
  | .row id => (match m.get id with | some (.row e xs) => .lst e xs | _ => .dead)
  | x => x
def dataC : SV → Bool
  | .bool _ => true
  | .int _ _ => true
  | .str _ => true
  | .pnil => true
  | .lst _ _ => true
  | .opq _ => true
  | _ => false
def allData : List SV → Bool
  | [] => true
  | x :: r => dataC x && allData r
def viewCs (m : Mem) : List SV → List SV
  | [] => []
  | x :: r => viewC m x :: viewCs m r
/-- What is handed on, as data. -/
def viewT (Ty : Tys) (m : Mem) : SV → SV
  | .row id => viewC m (.row id)
  | .box id off => (match m.get id with
    | some (.box t cs) => (match Ty t with
      | some d => bif allData (frzL m d.cells cs) then .adr ((frzL m d.cells cs).drop off) else .dead
      | none => .dead)
    | _ => .dead)
  | .agg cs => .agg (viewCs m cs)
  | x => x
def viewL (Ty : Tys) (m : Mem) : List SV → List SV
  | [] => []
  | x :: r => viewT Ty m x :: viewL Ty m r
def lookOf (Ty : Tys) (g : List SV → Option (Bool × SV)) (args : List SV) (m : Mem) : Option (Bool × SV) :=
  match g (viewL Ty m args) with
  | some (b, v) => bif flat v || noOwnL args then some (b, v) else none
  | none => none

section
variable {E : Env} {ρ : Ren} {m : Mem} {w : World}
theorem rel_data {ok : Nat → Prop} {s : SV} {v : Value} (h : Rel E w ok ρ s v) (hd : dataC s = true) : Rep E w ok s v := by
  cases h with
  | data _ _ h => exact h
  | _ => simp [dataC] at hd
theorem allData_get : ∀ {l : List SV}, allData l = true → ∀ {j : Nat} {s : SV}, l[j]? = some s → dataC s = true
  | [], _, j, s, h => by simp at h
  | x :: r, hl, j, s, h => by
    simp only [allData, Bool.and_eq_true] at hl
    cases j with
    | zero => simp at h; subst h; exact hl.1
    | succ j => exact allData_get hl.2 (by simpa using h)
theorem viewC_sound (hE : EnvOk E) (hm : MemOk E w ρ m) {x : SV} {v : Value} (h : Rel E w (okB w ρ m) ρ x v) (hn : noOwn (viewC m x) = true) : Rel E w (fun b => b < w.heap.size) (fun _ => none) (viewC m x) v := by
  have keep : ∀ {y : SV}, Rel E w (okB w ρ m) ρ y v → noOwn y = true → Rel E w (fun b => b < w.heap.size) (fun _ => none) y v := fun hy hn => hy.noOwn (fun b hb => hb.1) hn
  cases x with
  | row id =>
    simp only [viewC] at hn ⊢
    split at hn
    · rename_i e xs hg
      obtain ⟨d, hd, hr, _⟩ := rep_of_row hE hm hg (inv_row h)
      exact .data _ _ (hr.frame (fun _ _ => rfl) (fun b hb => hb.1))
    · exact .dead _
  | _ => exact keep h hn
theorem viewT_sound (hE : EnvOk E) (hm : MemOk E w ρ m) {x : SV} {v : Value} (h : Rel E w (okB w ρ m) ρ x v) (hn : noOwn (viewT E.Ty m x) = true) : Rel E w (fun b => b < w.heap.size) (fun _ => none) (viewT E.Ty m x) v := by
  cases x with
  | row id => exact viewC_sound hE hm h hn
  | box id off =>
    simp only [viewT]
    split
    · rename_i t cs hg
      split
      · rename_i d hd
        simp only [cond_eq_ite]
        split
        · rename_i ha
          obtain ⟨b, hb, rfl⟩ := inv_box h
          cases hm.obj id _ hg with
          | box _ d2 _ b2 vs hρ hd2 hbk hng hl hty hr =>
            rw [hb] at hρ; cases hρ
            rw [hd] at hd2; cases hd2
            have hf := frzL_sound hE hm d.cells cs vs ⟨hl, hr⟩
            have hlt : b < w.heap.size := (Array.getElem?_eq_some_iff.1 hbk).1
            refine .adr _ _ (fun j => vs.getD (off + j) undef) hlt (fun j hj => ?_) (fun j s hs => ?_)
            · have hj : off + j < vs.length := by
                rw [List.length_drop, hf.1] at hj; omega
              rw [add_at, cell_blk (vs := vs) hbk, List.getElem?_eq_getElem hj]
              simp [List.getD, List.getElem?_eq_getElem hj]
            · rw [List.getElem?_drop] at hs
              have hj : off + j < vs.length := by rw [← hf.1]; exact (List.getElem?_eq_some_iff.1 hs).1
              have hv : vs[off + j]? = some vs[off + j] := List.getElem?_eq_getElem hj
              have := rel_data (hf.2 _ _ _ hs hv) (allData_get ha hs)
              simp only [List.getD, hv, Option.getD_some]
              exact this.frame (fun _ _ => rfl) (fun b hb => hb.1)
        · exact .dead _
      · exact .dead _
    · exact .dead _
  | agg cs =>
    simp only [viewT] at hn ⊢
    obtain ⟨vs, rfl, hl, hr⟩ := inv_agg h
    simp only [Sx.noOwn] at hn
    have hlen : ∀ l : List SV, (viewCs m l).length = l.length := by
      intro l; induction l with
      | nil => rfl
      | cons a l ih => simp [viewCs, ih]
    have hget : ∀ (l : List SV) (j : Nat), (viewCs m l)[j]? = (l[j]?).map (viewC m) := by
      intro l
      induction l with
      | nil => intro j; simp [viewCs]
      | cons a l ih => intro j; cases j <;> simp [viewCs, ih]
    refine .agg _ vs (by rw [hlen]; exact hl) (fun j s v hs hv => ?_)
    have hn' := noOwnL_get hn hs
    rw [hget] at hs
    cases hc : cs[j]? with
    | none => simp [hc] at hs
    | some c =>
      simp [hc] at hs
      subst hs
      exact viewC_sound hE hm (hr j c v hc hv) hn'
  | _ => exact h.noOwn (fun b hb => hb.1) hn
theorem viewL_sound (hE : EnvOk E) (hm : MemOk E w ρ m) : ∀ {xs : List SV} {vs : List Value}, RelL E w (okB w ρ m) ρ xs vs → noOwnL (viewL E.Ty m xs) = true → RelL E w (fun b => b < w.heap.size) (fun _ => none) (viewL E.Ty m xs) vs
  | [], vs, h, _ => ⟨h.1, by simp [viewL]⟩
  | x :: xs, vs, h, hn => by
    obtain ⟨v, r, rfl⟩ : ∃ v r, vs = v :: r := by
      have := h.1
      cases vs with
      | nil => simp at this
      | cons v r => exact ⟨v, r, rfl⟩
    simp only [viewL, noOwnL, Bool.and_eq_true] at hn
    have ih := viewL_sound hE hm (xs := xs) (vs := r) ⟨by have := h.1; simpa using this, fun j s u hs hu => h.2 (j + 1) s u (by simpa using hs) (by simpa using hu)⟩ hn.2
    refine ⟨by have := ih.1; simp only [viewL, List.length_cons, this], fun j s u hs hu => ?_⟩
    cases j with
    | zero => simp [viewL] at hs hu; subst hs; subst hu; exact viewT_sound hE hm (h.2 0 x v rfl rfl) hn.1
    | succ j => exact ih.2 j s u (by simpa [viewL] using hs) (by simpa using hu)
theorem viewL_data (Ty : Tys) (m : Mem) : ∀ {xs : List SV}, noOwnL xs = true → viewL Ty m xs = xs
  | [], _ => rfl
  | x :: xs, h => by
    simp only [noOwnL, Bool.and_eq_true] at h
    have cells : ∀ {l : List SV}, noOwnL l = true → viewCs m l = l := by
      intro l
      induction l with
      | nil => intro _; rfl
      | cons a l ih =>
        intro hl
        simp only [noOwnL, Bool.and_eq_true] at hl
        simp only [viewCs, ih hl.2]
        congr 1
        have := hl.1
        cases a <;> first | rfl | (simp [noOwn] at this)
    rw [viewL, viewL_data Ty m h.2]
    congr 1
    have h1 := h.1
    cases x <;> first | rfl | (simp [noOwn] at h1; done) | skip
    simp only [viewT]
    rw [cells (by simpa [noOwn] using h1)]

/-- A world, and nothing of it known. -/
theorem R0 (hG : E.G w) : R E (fun _ => none) ⟨[], [], []⟩ { tmps := #[], defers := [] } w :=
  ⟨rfl, fun i v h => by simp at h, ⟨fun id o h => (by cases h), fun i j o o' v v' b _ h => (by cases h), fun b ⟨id, o, v, h, _⟩ => (by cases h), fun b ⟨i, v, _, h, _⟩ => by cases h⟩, fun id v _ h => (by cases h), fun id v h => (by cases h), hG⟩
end

/-- A function that looks at what it is handed, by runs of the executor. -/
theorem look_of_run {E : Env} {X : Fx} (hX : FxOk E X) {f : FuncId} {fn : Func} (hf : E.P.funcs[f]? = some fn) (hname : (fn.name == "runtime.NumGoroutine") = false) (hbody : fn.body.isNone = false) {g : List SV → Option (Bool × SV)}
    (hg : ∀ args sv, g args = some (true, sv) → noOwnL args = true ∧ noOwn sv = true ∧ ∃ n, evFun X n fn (frz X.Ty fn) args [] [] = some sv) : SpecOk E f (.look (lookOf E.Ty g)) := by
  intro ρ s a w args vals sv hR hl h
  unfold lookOf at h
  split at h
  · rename_i b v hgv
    simp only [cond_eq_ite] at h
    split at h
    · rename_i hc
      cases h
      cases hno : noOwnL args with
      | true =>
        rw [viewL_data E.Ty s.mem hno] at hgv
        exact plain_of_run hX hf hname hbody hg ρ s a w args vals sv hR hl hgv
      | false =>
        rw [hno, Bool.or_false] at hc
        obtain ⟨hno1, _, n, hrun⟩ := hg _ _ hgv
        right
        refine ⟨f, vals.toArray, run_callFunc hf hname hbody _ w, ?_⟩
        have hl1 := viewL_sound hX.env hR.mem hl hno1
        have hok : ∀ b, b < w.heap.size → okB w (fun _ => none) [] b := fun b hb => ⟨hb, fun q => by
          rcases q with ⟨_, _, _, h, _⟩ | ⟨_, _, _, h, _⟩ <;> cases h⟩
        have hl2 : RelL E w (okB w (fun _ => none) []) (fun _ => none) (viewL E.Ty s.mem args) vals := ⟨hl1.1, fun j x u hx hu => (hl1.2 j x u hx hu).frame (fun _ _ => rfl) hok (fun _ _ x => x)⟩
        have hst := emptyR (R0 hR.g) hl2 hno1 (fn := fn)
        refine (evFun_calls hX hf hrun hst).mono ?_
        rintro e w' ⟨v, ρ', a', sv2, s', rfl, hfin, hF, hrel⟩
        rw [hX.ty] at hfin
        have hrel := frz_sound hX.env hF.r.mem fn hrel
        rw [hfin] at hrel
        have hk : ∀ b, b < w.heap.size → w'.heap[b]? = w.heap[b]? := fun b hb => hF.kept.block b hb (fun ⟨id, o, v, h, _⟩ => by cases h)
        refine ⟨v, ρ, rfl, ?_, hrel.flat hc, fun _ _ x => x, ⟨hF.kept.os, hF.kept.tape, hF.kept.output, hF.kept.size, fun b hb _ => hk b hb⟩, fun b hb => .inl hb, fun _ x => x⟩
        refine hR.next hX.env (fun _ _ x => x) (fun b hb => .inl hb) (fun _ x => x) hF.kept.size (fun b hb _ => hk b hb) ?_ hR.used hR.one
        exact ⟨fun id o hg => (hR.mem.obj id o hg).frame (fun b hb => hk b hb.1) (fun b hb => ⟨Nat.lt_of_lt_of_le hb.1 hF.kept.size, hb.2⟩) (fun _ _ x => x) (fun v b hv hb => hk b (own_lt hR.mem ⟨id, o, v, hg, hv, hb⟩).1), hR.mem.sep, hR.mem.hsep, fun b hb => Nat.lt_of_lt_of_le (hR.mem.hlt b hb) hF.kept.size⟩
    · cases h
  · cases h

/-! ### nil slices as arguments -/
def nilA (Ty : Tys) : List TypeId → List SV → List SV
  | t :: ts, x :: xs => (match x with
    | .snil => (match Ty t with
      | some { d := .slice e, .. } => .lst e []
      | _ => .snil)
    | x => x) :: nilA Ty ts xs
  | _, xs => xs
/-- The same function, that takes nil slices for empty ones. -/
def Spec.nil (Ty : Tys) (ts : List TypeId) : Spec → Spec
  | .plain g => .plain (fun a => g (nilA Ty ts a))
  | .look g => .look (fun a m => g (nilA Ty ts a) m)
  | .wide g => .wide (fun a m u => g (nilA Ty ts a) m u)
theorem nilA_rel {E : Env} {w : World} {ok : Nat → Prop} {ρ : Ren} {Ty : Tys} : ∀ {ts : List TypeId} {xs : List SV} {vs : List Value}, RelL E w ok ρ xs vs → RelL E w ok ρ (nilA Ty ts xs) vs
  | [], xs, vs, h => h
  | t :: ts, [], vs, h => h
  | t :: ts, x :: xs, vs, h => by
    obtain ⟨v, r, rfl⟩ : ∃ v r, vs = v :: r := by
      have := h.1
      cases vs with
      | nil => simp at this
      | cons v r => exact ⟨v, r, rfl⟩
    have ih := nilA_rel (Ty := Ty) (ts := ts) (xs := xs) (vs := r) ⟨by have := h.1; simpa using this, fun j s u hs hu => h.2 (j + 1) s u (by simpa using hs) (by simpa using hu)⟩
    refine ⟨by have := ih.1; simp only [nilA, List.length_cons, this], fun j s u hs hu => ?_⟩
    cases j with
    | succ j => exact ih.2 j s u (by simpa [nilA] using hs) (by simpa using hu)
    | zero =>
      have hx := h.2 0 x v rfl rfl
      simp only [nilA, List.getElem?_cons_zero, Option.some.injEq] at hs hu
      subst hu
      subst hs
      split
      · split
        · obtain rfl := inv_snil hx
          exact .data _ _ (.lst0 _ none 0)
        · exact hx
      · exact hx
theorem SpecOk.nil {E : Env} {f : FuncId} {sp : Spec} (h : SpecOk E f sp) (ts : List TypeId) : SpecOk E f (sp.nil E.Ty ts) := by
  cases sp with
  | plain g => exact fun ρ s a w args vals sv hR hl hq => h ρ s a w _ vals sv hR (nilA_rel hl) hq
  | look g => exact fun ρ s a w args vals sv hR hl hq => h ρ s a w _ vals sv hR (nilA_rel hl) hq
  | wide g => exact fun ρ s a w args vals sv m u hR hl hq => h ρ s a w _ vals sv m u hR (nilA_rel hl) hq
end Sx

/-
  Sx, part 22e: ways that come to answers of one shape are told as one.
-/
set_option linter.unusedVariables false
set_option linter.unusedSimpArgs false
namespace Sx
open Go

mutual
/-- One of two values of one shape. -/
def mgV (b : Bool) : SV → SV → Option SV
  | .bool p, .bool q => some (.bool (bif b then p else q))
  | .int k p, .int l q => bif decide (k = l) then some (.int k (bif b then p else q)) else none
  | .str p, .str q => some (.str (bif b then p else q))
  | .lst e p, .lst f q => bif Nat.beq e f then some (.lst e (bif b then p else q)) else none
  | .pnil, .pnil => some .pnil
  | .snil, .snil => some .snil
  | .row i, .row j => bif Nat.beq i j then some (.row i) else none
  | .box i o, .box j p => bif Nat.beq i j && Nat.beq o p then some (.box i o) else none
  | .agg cs, .agg ds => (match mgL b cs ds with | some l => some (.agg l) | none => none)
  | .tup cs, .tup ds => (match mgL b cs ds with | some l => some (.tup l) | none => none)
  | _, _ => none
def mgL (b : Bool) : List SV → List SV → Option (List SV)
  | [], [] => some []
  | x :: xs, y :: ys => (match mgV b x y, mgL b xs ys with
    | some z, some l => some (z :: l)
    | _, _ => none)
  | _, _ => none
end
def mgO (b : Bool) : SObj → SObj → Option SObj
  | .box t cs, .box u ds => bif Nat.beq t u then (match mgL b cs ds with | some l => some (.box t l) | none => none) else none
  | .row e xs, .row f ys => bif Nat.beq e f then some (.row e (bif b then xs else ys)) else none
  | _, _ => none
def mgM (b : Bool) : Mem → Mem → Option Mem
  | [], [] => some []
  | (i, o) :: m, (j, p) :: n => bif Nat.beq i j then (match mgO b o p, mgM b m n with
    | some q, some l => some ((i, q) :: l)
    | _, _ => none) else none
  | _, _ => none
def mgW (b : Bool) (x y : SV × Mem) : Option (SV × Mem) := match mgV b x.1 y.1, mgM b x.2 y.2 with
  | some v, some m => some (v, m)
  | _, _ => none

mutual
theorem mgV_ok {b : Bool} : ∀ {x y z : SV}, mgV b x y = some z → z = bif b then x else y := by
  intro x y z h
  cases x <;> cases y <;> first | (simp [mgV] at h; done) | skip
  all_goals simp only [mgV, cond_eq_ite] at h
  all_goals first
    | (cases h; cases b <;> rfl)
    | (split at h
       · rename_i q
         first
           | (have q := of_decide_eq_true q; subst q; cases h; cases b <;> rfl)
           | (have q := Nat.eq_of_beq_eq_true q; subst q; cases h; cases b <;> rfl)
           | (have q1 := Nat.eq_of_beq_eq_true (Bool.and_eq_true_iff.1 q).1; have q2 := Nat.eq_of_beq_eq_true (Bool.and_eq_true_iff.1 q).2; subst q1; subst q2; cases h; cases b <;> rfl)
           | skip
       · cases h)
    | skip
  · rename_i cs ds
    cases hl : mgL b cs ds with
    | none => simp [hl] at h
    | some l => simp [hl] at h; subst h; rw [mgL_ok hl]; cases b <;> rfl
  · rename_i cs ds
    cases hl : mgL b cs ds with
    | none => simp [hl] at h
    | some l => simp [hl] at h; subst h; rw [mgL_ok hl]; cases b <;> rfl
theorem mgL_ok {b : Bool} : ∀ {x y z : List SV}, mgL b x y = some z → z = bif b then x else y
  | [], [], z, h => by simp [mgL] at h; subst h; cases b <;> rfl
  | x :: xs, y :: ys, z, h => by
    simp only [mgL] at h
    cases h1 : mgV b x y with
    | none => simp [h1] at h
    | some u =>
      cases h2 : mgL b xs ys with
      | none => simp [h1, h2] at h
      | some l =>
        simp [h1, h2] at h
        subst h
        rw [mgV_ok h1, mgL_ok h2]
        cases b <;> rfl
  | [], _ :: _, _, h => by simp [mgL] at h
  | _ :: _, [], _, h => by simp [mgL] at h
end
theorem mgO_ok {b : Bool} {x y z : SObj} (h : mgO b x y = some z) : z = bif b then x else y := by
  cases x <;> cases y <;> simp only [mgO, cond_eq_ite] at h
  · split at h
    · rename_i t cs u ds q
      have q := Nat.eq_of_beq_eq_true q
      subst q
      cases hl : mgL b cs ds with
      | none => simp [hl] at h
      | some l => simp [hl] at h; subst h; rw [mgL_ok hl]; cases b <;> rfl
    · cases h
  · cases h
  · cases h
  · split at h
    · rename_i q
      have q := Nat.eq_of_beq_eq_true q
      subst q
      cases h; cases b <;> rfl
    · cases h
theorem mgM_ok {b : Bool} : ∀ {x y z : Mem}, mgM b x y = some z → z = bif b then x else y
  | [], [], z, h => by simp [mgM] at h; subst h; cases b <;> rfl
  | (i, o) :: m, (j, p) :: n, z, h => by
    simp only [mgM, cond_eq_ite] at h
    split at h
    · rename_i q
      have q := Nat.eq_of_beq_eq_true q
      subst q
      cases h1 : mgO b o p with
      | none => simp [h1] at h
      | some u =>
        cases h2 : mgM b m n with
        | none => simp [h1, h2] at h
        | some l =>
          simp [h1, h2] at h
          subst h
          rw [mgO_ok h1, mgM_ok h2]
          cases b <;> rfl
    · cases h
  | [], _ :: _, _, h => by simp [mgM] at h
  | _ :: _, [], _, h => by simp [mgM] at h
theorem mgW_ok {b : Bool} {x y z : SV × Mem} (h : mgW b x y = some z) : z = bif b then x else y := by
  unfold mgW at h
  cases h1 : mgV b x.1 y.1 with
  | none => simp [h1] at h
  | some v =>
    cases h2 : mgM b x.2 y.2 with
    | none => simp [h1, h2] at h
    | some m =>
      simp [h1, h2] at h
      subst h
      rw [mgV_ok h1, mgM_ok h2]
      cases b <;> rfl

/-- All ways as one; none: they are of several shapes. -/
def mergeT {β : Type} (mg : Bool → β → β → Option β) : Tr β → Option (Option (Bool × β))
  | .no => some none
  | .leaf x => some (some (true, x))
  | .br b t e => (match mergeT mg t, mergeT mg e with
    | some none, some none => some none
    | some (some (p, x)), some none => some (some (b && p, x))
    | some none, some (some (q, y)) => some (some (!b && q, y))
    | some (some (p, x)), some (some (q, y)) => (match mg b x y with
      | some z => some (some (bif b then p else q, z))
      | none => none)
    | _, _ => none)
theorem mergeT_no {β : Type} {mg : Bool → β → β → Option β} : ∀ {t : Tr β}, mergeT mg t = some none → pickA t = none
  | .no, _ => rfl
  | .leaf x, h => by simp [mergeT] at h
  | .br b t e, h => by
    simp only [mergeT] at h
    split at h
    · rename_i h1 h2
      have e1 := mergeT_no (t := t) h1
      have e2 := mergeT_no (t := e) h2
      cases b
      · exact e2
      · exact e1
    · cases h
    · cases h
    · split at h <;> cases h
    · cases h
theorem mergeT_ok {β : Type} {mg : Bool → β → β → Option β} (hmg : ∀ b x y z, mg b x y = some z → z = bif b then x else y) : ∀ {t : Tr β} {x : β}, mergeT mg t = some (some (true, x)) → pickA t = some x
  | .no, _, h => by simp [mergeT] at h
  | .leaf y, x, h => by simp [mergeT] at h; subst h; rfl
  | .br b t e, x, h => by
    simp only [mergeT] at h
    split at h
    · cases h
    · rename_i p y h1 h2
      simp only [Option.some.injEq, Prod.mk.injEq, Bool.and_eq_true] at h
      obtain ⟨⟨rfl, rfl⟩, rfl⟩ := h
      exact mergeT_ok hmg (t := t) h1
    · rename_i q y h1 h2
      simp only [Option.some.injEq, Prod.mk.injEq, Bool.and_eq_true, Bool.not_eq_true'] at h
      obtain ⟨⟨rfl, rfl⟩, rfl⟩ := h
      exact mergeT_ok hmg (t := e) h2
    · rename_i p y q z h1 h2
      split at h
      · rename_i u hu
        simp only [Option.some.injEq, Prod.mk.injEq] at h
        obtain ⟨hc, rfl⟩ := h
        rw [hmg _ _ _ _ hu]
        cases b
        · simp at hc; subst hc; exact mergeT_ok hmg (t := e) h2
        · simp at hc; subst hc; exact mergeT_ok hmg (t := t) h1
      · cases h
    · cases h
/-- The ways as one, where they can be. -/
def squash (t : Tr (SV × Mem)) : Tr (SV × Mem) := match mergeT mgW t with
  | some (some (b, x)) => .br b (.leaf x) .no
  | some none => .no
  | none => t
theorem squash_ok {t : Tr (SV × Mem)} {x : SV × Mem} (h : pickA (squash t) = some x) : pickA t = some x := by
  unfold squash at h
  split at h
  · rename_i b y hm
    cases b
    · cases h
    · simp [pickA] at h; subst h
      exact mergeT_ok (fun _ _ _ _ => mgW_ok) hm
  · cases h
  · exact h
def gOf (t : Tr SV) : Option (Bool × SV) := match mergeT mgV t with
  | some (some (b, v)) => some (b && noOwn v, v)
  | _ => none
def Tr.opt1 : Tr SV → Option SV
  | .no => none
  | .leaf x => some x
  | .br b t e => bif b then t.opt1 else e.opt1
theorem Tr.opt1_pick : ∀ {t : Tr SV} {x : SV}, pickA t = some x → t.opt1 = some x
  | .no, _, h => by cases h
  | .leaf y, x, h => by simp [pickA] at h; subst h; rfl
  | .br b t e, x, h => by
    cases b with
    | true => exact Tr.opt1_pick (t := t) h
    | false => exact Tr.opt1_pick (t := e) h
theorem gOf_ok {t : Tr SV} {sv : SV} (h : gOf t = some (true, sv)) : noOwn sv = true ∧ t.opt1 = some sv := by
  unfold gOf at h
  split at h
  · rename_i b v hm
    simp only [Option.some.injEq, Prod.mk.injEq, Bool.and_eq_true] at h
    obtain ⟨⟨rfl, hn⟩, rfl⟩ := h
    exact ⟨hn, Tr.opt1_pick (mergeT_ok (fun _ _ _ _ => mgV_ok) hm)⟩
  · cases h

section
variable {E : Env} {f : FuncId} {fn : Func}
theorem wide_of_sq (hE : EnvOk E) {X : List Nat → Fx} (hX : ∀ sm, FxOk E (X sm) ∧ (X sm).sm = sm) (hf : E.P.funcs[f]? = some fn) (hname : (fn.name == "runtime.NumGoroutine") = false) (hbody : fn.body.isNone = false) {core : List SV → Mem → Tr (SV × Mem)}
    (hg : ∀ args m, core args m = .no ∨ ∃ n t, core args m = squash t ∧ evFun (X (smOf (idsOfL args []) m)) n fn (finW E.Ty (smOf (idsOfL args []) m) m.length) args m (m.map (·.1)) = t.opt) : SpecOk E f (.wide (wideOf E.Ty core)) :=
  wide_of_run hE hX hf hname hbody (fun args m x h => by
    rcases hg args m with q | ⟨n, t, q, r⟩
    · rw [q] at h; cases h
    · rw [q] at h; exact ⟨n, by rw [r]; exact Tr.opt_pick (squash_ok h)⟩)
theorem plain_of_g {X : Fx} (hX : FxOk E X) (hf : E.P.funcs[f]? = some fn) (hname : (fn.name == "runtime.NumGoroutine") = false) (hbody : fn.body.isNone = false) {g : List SV → Option (Bool × SV)}
    (hg : ∀ args, g args = none ∨ ∃ n t, noOwnL args = true ∧ g args = gOf t ∧ evFun X n fn (frz X.Ty fn) args [] [] = t.opt1) : ∀ args sv, g args = some (true, sv) → noOwnL args = true ∧ noOwn sv = true ∧ ∃ n, evFun X n fn (frz X.Ty fn) args [] [] = some sv := fun args sv h => by
  rcases hg args with q | ⟨n, t, h1, h2, h3⟩
  · rw [q] at h; cases h
  · rw [h2] at h
    obtain ⟨h4, h5⟩ := gOf_ok h
    exact ⟨h1, h4, n, by rw [h3]; exact h5⟩
end
end Sx

/-
  Sx, part 22: a place in a body: its code, and what follows it. Definitions alone.
-/
set_option linter.unusedVariables false
namespace Sx
open Go

/-- The way to a place; inside a loop, with the rounds that are left. -/
inductive Dir where
  | l | r | b | t | e | o (k : Nat)

def codeAt : Code → List Dir → Code
  | c, [] => c
  | .seq a _, .l :: p => codeAt a p
  | .seq _ b, .r :: p => codeAt b p
  | .block _ c, .b :: p => codeAt c p
  | .scope c, .b :: p => codeAt c p
  | .cond _ a _, .t :: p => codeAt a p
  | .cond _ _ b, .e :: p => codeAt b p
  | .loop c, .o _ :: p => codeAt c p
  | _, _ => .skip

noncomputable def kont {α : Type} (X : Fx) (n : Nat) : Code → List Dir → (Ex → St → Option α) → (Ex → St → Option α)
  | _, [], K => K
  | .seq a b, .l :: p, K => kont X n a p (fun e s' => match e with | .normal => evC X n b s' K | e => K e s')
  | .seq _ b, .r :: p, K => kont X n b p K
  | .block id c, .b :: p, K => kont X n c p (fun e s' => match e with | .exit j => (bif Nat.beq j id then K .normal s' else K (.exit j) s') | e => K e s')
  | .scope c, .b :: p, K => kont X n c p K
  | .cond _ a _, .t :: p, K => kont X n a p K
  | .cond _ _ b, .e :: p, K => kont X n b p K
  | .loop c, .o k :: p, K => kont X n c p (fun e t => match e with
    | .normal => (match canon X.Ty X.sm (X.live (headId c)) t with
      | none => none
      | some t' => loopN X.Ty X.sm (X.live (headId c)) k (fun s' K' => evC X n c s' K') t' K)
    | e => K e t)
  | _, _, K => K

def bodyOf (fn : Func) : Code := match fn.body with | some c => c | none => .skip
/-- A loop in its place, where it begins. -/
noncomputable def atLoop {α : Type} (X : Fx) (fn : Func) (fin : SV → St → α) (n : Nat) (p : List Dir) (m : Nat) (s : St) : Option α := match codeAt (bodyOf fn) p with
  | .loop c => loopN X.Ty X.sm (X.live (headId c)) m (fun s' K' => evC X n c s' K') s (kont X n (bodyOf fn) p (lastK X fn fin))
  | _ => none
end Sx

/-
  Sx, part 22b: structs of bools, numbers and texts are compared field by field.
-/
set_option linter.unusedVariables false
set_option linter.unusedSimpArgs false
namespace Sx
open Go

def scalD : TypeDesc → Bool
  | .bool => true
  | .int _ => true
  | .string => true
  | _ => false
def flatFs (P : Program) : Nat → List Field → Bool
  | _, [] => true
  | k, f :: r => Nat.beq f.offset k && !(f.name == "_") && (match P.underlying f.type with | some u => scalD u | none => false) && flatFs P (k + 1) r
def kindOk : TypeDesc → CK → Bool
  | .bool, .bool => true
  | .int i, .int k => decide (i = k)
  | .string, .str => true
  | _, _ => false
theorem run_equal_one {P : Program} {t : TypeId} {w : World} (n : Nat) {x y : SV} {r : Bool} {a b : Value} {u : TypeDesc} (hu : P.underlying t = some u) (hs : scalD u = true) {k : CK} (hk : tyC k x = true) (hk' : tyC k y = true) (hku : kindOk u k = true) (h : beqCell x y = some r) (ha : valOf x = some a) (hb : valOf y = some b) : (Op.equalIn (n + 1) t a b).run P w = .ok r w := by
  cases u <;> simp [scalD] at hs
  all_goals cases k <;> simp [kindOk] at hku
  all_goals (try subst hku)
  all_goals cases x <;> simp [tyC] at hk
  all_goals cases y <;> simp [tyC] at hk'
  all_goals (try subst hk)
  all_goals (try subst hk')
  all_goals (simp [valOf] at ha hb; subst ha; subst hb; simp [beqCell] at h; subst h; simp [Op.equalIn, run_underlying hu])
theorem run_part_scal {P : Program} {t : TypeId} {u : TypeDesc} (hu : P.underlying t = some u) (hs : scalD u = true) {xs : List Value} {o : Nat} {v : Value} (hv : xs[o]? = some v) (w : World) : (part t xs.toArray o).run P w = .ok v w := by
  have hag : (isAgg t).run P w = .ok false w := by
    simp only [isAgg, Sem.run_bind, run_underlying hu, Result.andThen_ok]
    cases u <;> simp_all [scalD]
  simp only [part, Sem.run_bind, hag, Result.andThen_ok]
  simp [hv]

theorem eq_fields {P : Program} {w : World} (n : Nat) (as bs : List Value) : ∀ (fs : List Field) (k : Nat) (ks : List CK) (xs ys : List SV) (r : Bool), flatFs P k fs = true → fs.length = xs.length → (∀ (i : Nat) f c, fs[i]? = some f → ks[i]? = some c → ∃ u, P.underlying f.type = some u ∧ kindOk u c = true) → tyCs ks xs = true → tyCs ks ys = true → beqCells xs ys = some r →
    (∀ (j : Nat) s, xs[j]? = some s → ∃ v, valOf s = some v ∧ as[k + j]? = some v) → (∀ (j : Nat) s, ys[j]? = some s → ∃ v, valOf s = some v ∧ bs[k + j]? = some v) →
    (forIn fs ((none, ()) : Option Bool × Unit) fun f __s =>
            if f.name = "_" then (pure (ForInStep.yield (none, ())) : Sem (ForInStep (Option Bool × Unit)))
            else do
              let __do_lift ← part f.type as.toArray f.offset
              let __do_lift_1 ← part f.type bs.toArray f.offset
              let __do_lift ← Op.equalIn (n + 1) f.type __do_lift __do_lift_1
              if __do_lift = false then pure (ForInStep.done (some false, ())) else pure (ForInStep.yield (none, ()))).run P w = .ok (if r then none else some false, ()) w
  | [], k, ks, xs, ys, r, hf, hl, hk, hx, hy, h, ha, hb => by
    have hx0 : xs = [] := List.eq_nil_of_length_eq_zero hl.symm
    subst hx0
    cases ys <;> simp [beqCells] at h
    subst h
    simp
  | f :: fs, k, ks, xs, ys, r, hf, hl, hk, hx, hy, h, ha, hb => by
    match xs, ys, ks, hl, hx, hy, h with
    | x :: xs, y :: ys, c :: ks, hl, hx, hy, h =>
      simp only [tyCs, Bool.and_eq_true] at hx hy
      simp only [flatFs, Bool.and_eq_true, Bool.not_eq_true'] at hf
      obtain ⟨⟨⟨h1, h2⟩, h3⟩, h4⟩ := hf
      have h1 := Nat.eq_of_beq_eq_true h1
      obtain ⟨u, hu, hkc⟩ := hk 0 f c rfl rfl
      rw [hu] at h3
      have hs : scalD u = true := h3
      simp only [beqCells] at h
      cases hb1 : beqCell x y with
      | none => simp [hb1] at h
      | some r1 =>
        cases hb2 : beqCells xs ys with
        | none => simp [hb1, hb2] at h
        | some r2 =>
          simp [hb1, hb2] at h
          obtain ⟨va, hva, hva'⟩ := ha 0 x rfl
          obtain ⟨vb, hvb, hvb'⟩ := hb 0 y rfl
          have hn : f.name ≠ "_" := by simpa using h2
          have e1 := run_part_scal hu hs (xs := as) (o := f.offset) (by rw [h1]; exact hva') w
          have e2 := run_part_scal hu hs (xs := bs) (o := f.offset) (by rw [h1]; exact hvb') w
          have e3 := run_equal_one (w := w) n hu hs hx.1 hy.1 hkc hb1 hva hvb
          rw [List.forIn_cons]
          simp only [hn, if_false, Sem.run_bind, e1, e2, e3, Result.andThen_ok]
          cases r1 with
          | false => simp at h; subst h; simp
          | true =>
            simp at h; subst h
            simp only [Bool.true_eq_false, if_false, Sem.run_pure, Result.andThen_ok]
            exact eq_fields n as bs fs (k + 1) ks xs ys r2 h4 (by simpa using hl) (fun i g d hg hd => hk (i + 1) g d (by simpa using hg) (by simpa using hd)) hx.2 hy.2 hb2
              (fun j s hs => by have := ha (j + 1) s (by simpa using hs); rwa [show k + (j + 1) = k + 1 + j by omega] at this) (fun j s hs => by have := hb (j + 1) s (by simpa using hs); rwa [show k + (j + 1) = k + 1 + j by omega] at this)
    | [], _, _, hl, _, _, _ => simp at hl
    | _ :: _, [], _, _, _, hy, h => simp [beqCells] at h
    | _ :: _, _ :: _, [], _, hx, _, _ => simp [tyCs] at hx

theorem flat_eqv {P : Program} {t : TypeId} {fs : Array Field} (hu : P.underlying t = some (.struct fs)) (hst : P.stoodInHeld t = false) (hg : P.eqGuardType P.depth t = false) (hf : flatFs P 0 fs.toList = true) {ks : List CK} (hl : ks.length = fs.size)
    (hk : ∀ (i : Nat) f c, fs.toList[i]? = some f → ks[i]? = some c → ∃ u, P.underlying f.type = some u ∧ kindOk u c = true) : ∀ (xs ys : List SV) (r : Bool) (a b : List Value) (w : World), tyCs ks xs = true → tyCs ks ys = true → beqCells xs ys = some r →
    xs.map valOf = a.map some → ys.map valOf = b.map some → (Op.equal t (.agg a.toArray) (.agg b.toArray)).run P w = .ok r w ∧ (∀ op x y, (eqGuard op t x y (.agg a.toArray) (.agg b.toArray)).run P w = .ok () w) := by
  intro xs ys r a b w hx hy h ha hb
  have at_ : ∀ (xs : List SV) (a : List Value), xs.map valOf = a.map some → ∀ (j : Nat) s, xs[j]? = some s → ∃ v, valOf s = some v ∧ a[0 + j]? = some v := fun xs a ha j s hs => by
    have := congrArg (fun l => l[j]?) ha
    simp only [List.getElem?_map, hs, Option.map_some] at this
    cases hq : a[j]? with
    | none => simp [hq] at this
    | some v => simp [hq] at this; exact ⟨v, this, by simpa using hq⟩
  have := eq_fields (w := w) 9998 a b fs.toList 0 ks xs ys r hf (by have := tyCs_length hx; simp; omega) hk hx hy h (at_ xs a ha) (at_ ys b hb)
  simp only [Nat.reduceAdd] at this
  constructor
  · show (Op.equalIn (9999 + 1) t _ _).run P w = _
    unfold Op.equalIn
    simp only [Sem.run_bind, run_underlying hu, Result.andThen_ok]
    simp [hst]
    rw [← Array.forIn_toList, this]
    cases r <;> simp
  · intro op x y
    unfold eqGuard
    cases op <;> simp [hg]
def kindsOk (P : Program) : List Field → List CK → Bool
  | f :: fs, c :: ks => (match P.underlying f.type with | some u => kindOk u c | none => false) && kindsOk P fs ks
  | _, _ => true
theorem kindsOk_get {P : Program} : ∀ {fs : List Field} {ks : List CK}, kindsOk P fs ks = true → ∀ (i : Nat) f c, fs[i]? = some f → ks[i]? = some c → ∃ u, P.underlying f.type = some u ∧ kindOk u c = true
  | [], _, _, i, f, c, hf, _ => by simp at hf
  | _ :: _, [], _, i, f, c, _, hc => by simp at hc
  | g :: fs, d :: ks, h, i, f, c, hf, hc => by
    simp only [kindsOk, Bool.and_eq_true] at h
    cases i with
    | zero =>
      simp at hf hc
      subst hf; subst hc
      cases hu : P.underlying g.type with
      | none => simp [hu] at h
      | some u => simp [hu] at h; exact ⟨u, rfl, h.1⟩
    | succ i => exact kindsOk_get h.2 i f c (by simpa using hf) (by simpa using hc)
/-- Can values of the type be compared field by field? -/
def eqB (P : Program) (t : TypeId) (u : TypeDesc) (ks : List CK) : Bool := match u with
  | .struct fs => !(P.stoodInHeld t) && !(P.eqGuardType P.depth t) && flatFs P 0 fs.toList && Nat.beq ks.length fs.size && kindsOk P fs.toList ks
  | _ => false
theorem eqB_ok {P : Program} {t : TypeId} {u : TypeDesc} (hu : P.underlying t = some u) {ks : List CK} (h : eqB P t u ks = true) : ∀ (xs ys : List SV) (r : Bool) (a b : List Value) (w : World), tyCs ks xs = true → tyCs ks ys = true → beqCells xs ys = some r →
    xs.map valOf = a.map some → ys.map valOf = b.map some → (Op.equal t (.agg a.toArray) (.agg b.toArray)).run P w = .ok r w ∧ (∀ op x y, (eqGuard op t x y (.agg a.toArray) (.agg b.toArray)).run P w = .ok () w) := by
  unfold eqB at h
  split at h
  · simp only [Bool.and_eq_true, Bool.not_eq_true'] at h
    obtain ⟨⟨⟨⟨h1, h2⟩, h3⟩, h4⟩, h5⟩ := h
    exact flat_eqv hu h1 h2 h3 (Nat.eq_of_beq_eq_true h4) (kindsOk_get h5)
  · cases h
end Sx

/-
  Sx, part 23: a program's types, read out of the program itself.
-/
set_option linter.unusedVariables false
set_option linter.unusedSimpArgs false
namespace Sx
open Go

def dOf : TypeDesc → D
  | .bool => .bool
  | .int k => .int k
  | .string => .str
  | .pointer e => .ptr e
  | .unsafePointer => .uptr
  | .slice e => .slice e
  | .array n e => .array n e
  | .struct fs => .struct (fs.toList.map fun f => (f.offset, f.type))
  | _ => .other

def svz : Value → Option SV
  | .bool b => some (.bool b)
  | .int k n => some (.int k n)
  | .string s => some (.str s)
  | .pointer none => some .pnil
  | .slice none 0 0 => some .snil
  | v => bif v.oneCell' then some (.opq v) else none
def svzs : List Value → Option (List SV)
  | [] => some []
  | v :: r => match svz v, svzs r with | some x, some l => some (x :: l) | _, _ => none

def cksOf (P : Program) : Nat → TypeId → List CK
  | 0, _ => []
  | n + 1, t => match P.underlying t with
    | some .bool => [.bool]
    | some (.int k) => [.int k]
    | some .string => [.str]
    | some (.slice e) => [.slice e]
    | some (.array m e) => (List.replicate m (cksOf P n e)).flatten
    | some (.struct fs) => (fs.toList.map fun f => cksOf P n f.type).flatten
    | _ => [.other]

def chkTy (P : Program) (u : TypeDesc) (z : Value) (d : TyD) : Bool :=
  Nat.beq d.cells.length d.size && Nat.ble 1 d.size && (d.d.isAgg || Nat.beq d.size 1) && tyBCs d.cells d.zero && Nat.beq z.cells.size d.size &&
  (match d.d with | .int k => decide (d.cells = [.int k]) | _ => true) &&
  (match u with | .struct fs => fs.toList.all fun f => (P.info? f.type).isSome | _ => true)
def tyOf (P : Program) (t : TypeId) : Option TyD := match P.underlying t, P.info? t with
  | some u, some i => (match i.zero with
    | some z => (match svzs z.cells.toList with
      | some zs => bif chkTy P u z ⟨dOf u, i.size, i.bytes, cksOf P 8 t, zs, false⟩ then some ⟨dOf u, i.size, i.bytes, cksOf P 8 t, zs, eqB P t u (cksOf P 8 t)⟩ else none
      | none => none)
    | none => none)
  | _, _ => none

theorem dOf_ok (u : TypeDesc) : DOk (dOf u) u := by cases u <;> simp [dOf, DOk]
theorem svz_val {v : Value} {x : SV} (h : svz v = some x) : valOf x = some v := by
  unfold svz at h
  split at h
  all_goals first
    | (cases h; rfl)
    | (simp only [cond_eq_ite] at h; split at h
       · cases h; simp [valOf, *]
       · cases h)
theorem svzs_val : ∀ {l : List Value} {xs : List SV}, svzs l = some xs → xs.length = l.length ∧ ∀ (j : Nat) (s : SV), xs[j]? = some s → ∃ u, valOf s = some u ∧ l[j]? = some u
  | [], xs, h => by simp [svzs] at h; subst h; simp
  | v :: r, xs, h => by
    simp only [svzs] at h
    cases h1 : svz v with
    | none => simp [h1] at h
    | some x =>
      cases h2 : svzs r with
      | none => simp [h1, h2] at h
      | some l =>
        simp [h1, h2] at h
        subst h
        obtain ⟨i1, i2⟩ := svzs_val h2
        refine ⟨by simp [i1], fun j s hs => ?_⟩
        cases j with
        | zero => simp at hs; subst hs; exact ⟨v, svz_val h1, by simp⟩
        | succ j => obtain ⟨u, hu, hu'⟩ := i2 j s (by simpa using hs); exact ⟨u, hu, by simpa using hu'⟩

theorem tyOf_ok {P : Program} {t : TypeId} {d : TyD} (h : tyOf P t = some d) : TyOk P t d := by
  unfold tyOf at h
  split at h
  · rename_i u i hu hi
    split at h
    · rename_i z hz
      split at h
      · rename_i zs hzs
        simp only [cond_eq_ite] at h
        split at h
        · rename_i hc
          cases h
          simp only [chkTy, Bool.and_eq_true] at hc
          obtain ⟨⟨⟨⟨⟨⟨c1, c2⟩, c3⟩, c4⟩, c5⟩, c6⟩, c7⟩ := hc
          obtain ⟨l1, l2⟩ := svzs_val hzs
          have c5 := Nat.eq_of_beq_eq_true c5
          refine ⟨⟨u, hu, dOf_ok u⟩, ⟨i, z, hi, rfl, rfl, hz, c5, by simpa [c5] using l1, fun j s hs => ?_⟩, Nat.eq_of_beq_eq_true c1, Nat.le_of_ble_eq_true c2, fun ha => ?_, c4, fun k hk => ?_, fun gs hgs g hg => ?_, fun he => eqB_ok hu he⟩
          · obtain ⟨w, hw, hw'⟩ := l2 j s hs
            exact ⟨w, hw, by simpa using hw'⟩
          · simp only [ha, Bool.false_or] at c3
            exact Nat.eq_of_beq_eq_true c3
          · have c6' : (match dOf u with | .int k => decide (cksOf P 8 t = [.int k]) | _ => true) = true := c6
            rw [show dOf u = .int k from hk] at c6'
            exact of_decide_eq_true c6'
          · rw [hu] at hgs
            cases hgs
            simp only [List.all_eq_true] at c7
            have := c7 g hg
            cases hq : P.info? g.type with
            | none => simp [hq] at this
            | some i => exact ⟨i, rfl⟩
        · cases h
      · cases h
    · cases h
  · cases h

/-- The slots of slices, with their elements' types. -/
def nilsOf (Ty : Tys) : List (Nat × TypeId) → List (Nat × TypeId)
  | [] => []
  | (t, ty) :: r => match Ty ty with
    | some { d := .slice e, .. } => (t, e) :: nilsOf Ty r
    | _ => nilsOf Ty r

/-- A program's own environment: so many globals, and what they hold. -/
def envOf (P : Program) (ng : Nat) (G : World → Prop) : Env := ⟨P, tyOf P, ng, fun w => ng ≤ w.heap.size ∧ G w⟩
theorem envOf_ok {P : Program} {ng : Nat} {G : World → Prop} (hG : ∀ w w' : World, G w → (∀ b, b < ng → w'.heap[b]? = w.heap[b]?) → G w') : EnvOk (envOf P ng G) :=
  ⟨fun t d h => tyOf_ok h, fun w w' h hb hs => ⟨Nat.le_trans h.1 hs, hG w w' h.2 hb⟩, fun w h => h.1⟩
end Sx

/-
  Sx, part 24: tables of specifications; and the library's contracts as such.
-/
set_option linter.unusedVariables false
set_option linter.unusedSimpArgs false
namespace Sx
open Go

def ofList : List (Nat × Spec) → Specs
  | [], _ => none
  | (i, s) :: r, f => bif Nat.beq i f then some s else ofList r f
theorem SpecsOk.nil {E : Env} : SpecsOk E (ofList []) := fun f sp h => by cases h
theorem SpecsOk.cons {E : Env} {i : Nat} {s : Spec} {r : List (Nat × Spec)} (h : SpecOk E i s) (k : SpecsOk E (ofList r)) : SpecsOk E (ofList ((i, s) :: r)) := fun f sp hf => by
  simp only [ofList, cond_eq_ite] at hf
  split at hf
  · rename_i e
    have e := Nat.eq_of_beq_eq_true e
    subst e
    cases hf; exact h
  · exact k f sp hf

theorem rel_tup_vals {E : Env} {w : World} {ok : Nat → Prop} {ρ : Ren} {cs : List SV} {vs : List Value} (h : cs.map valOf = vs.map some) : Rel E w ok ρ (.tup cs) (.tuple vs.toArray) := by
  refine Rel.tup cs vs (by simpa using congrArg List.length h) (fun j s v hs hv => ?_)
  have := congrArg (fun l => l[j]?) h
  simp only [List.getElem?_map, hs, hv, Option.map_some, Option.some.injEq] at this
  exact rel_valOf this

/-- Nothing happens but draws. -/
structure Idle (w w' : World) : Prop where
  os : w'.os = w.os
  tape : w'.tape = w.tape
  output : w'.output = w.output
  heap : w'.heap = w.heap
theorem Idle.refl (w : World) : Idle w w := ⟨rfl, rfl, rfl, rfl⟩

/-- A contract of the library, of constants alone, as a plain specification. -/
theorem plain_of_calls {E : Env} (hE : EnvOk E) {f : FuncId} {fn : Func} (hf : E.P.funcs[f]? = some fn) (hname : (fn.name == "runtime.NumGoroutine") = false) (hbody : fn.body.isNone = false) {g : List SV → Option (Bool × SV)}
    (hg : ∀ args sv, g args = some (true, sv) → ∃ (us : List Value) (v : Value), args.map valOf = us.map some ∧ (∀ w ok ρ, Rel E w ok ρ sv v) ∧ ∀ w, E.G w → Calls E.P f us.toArray w (fun e w' => e = .returned v ∧ Idle w w')) : SpecOk E f (.plain g) := by
  intro ρ s a w args vals sv hR hl h
  obtain ⟨us, v, hus, hv, hc⟩ := hg args sv h
  have : vals = us := relL_vals hl.1 hl.2 hus
  subst this
  right
  refine ⟨f, vals.toArray, run_callFunc hf hname hbody _ w, (hc w hR.g).mono ?_⟩
  rintro e w' ⟨rfl, hi⟩
  exact ⟨v, ρ, rfl, hR.same hE hi.heap, hv _ _ _, fun _ _ x => x, ⟨hi.os, hi.tape, hi.output, by rw [hi.heap]; exact Nat.le_refl _, fun b _ _ => by rw [hi.heap]⟩, fun b hb => .inl hb, fun _ x => x⟩
end Sx

/-
  Sx, part 25: the row of a law: it returns true, and each argument reads as it read.
-/
set_option linter.unusedVariables false
set_option linter.unusedSimpArgs false
namespace Sx
open Go Go.ChangeShapes Go.WideShapes Go.ChangeAt Go.RowKit Go.ChangeMaps

/-- Each of the types can be read. -/
def typesRead (P : Program) (ts : List TypeId) : Bool := ts.all fun t => P.readableRec t && decide (t < P.types.size)

section
variable {H : Type} {enc : TypeId × Value → H}
theorem trodAll_later {P : Program} (hl : laidOutB P = true) {W W' : World} (bel : Below W.heap.size W W') : ∀ {ts : List TypeId} {vs : List Value} {ds : List (DataW H)} {ps : List MemPlace}, typesRead P ts = true → DataW.TrodAll enc P W 0 (fun _ => true) true ts vs ds ps → DataW.TrodAll enc P W' 0 (fun b => decide (b < W.heap.size)) true ts vs ds ps
  | [], vs, ds, ps, _, h => by cases vs <;> cases ds <;> simp_all [DataW.TrodAll]
  | t :: ts, vs, ds, ps, hr, h => by
    obtain ⟨v, vs', d, ds', p, q, rfl, rfl, rfl, h1, h2⟩ := trodAll_cons h
    simp only [typesRead, List.all_cons, Bool.and_eq_true, decide_eq_true_eq] at hr
    refine trodAll_cons_mk (Below.trod hl hr.1.1 hr.1.2 h1 bel (fun x hx => ?_)) (trodAll_later hl bel hr.2 h2)
    obtain ⟨m, hm⟩ := h1
    exact DataW.trod_lt m _ _ _ hm x hx

theorem trodAll_length {P : Program} {W : World} {spare : Nat → Bool} {held : Bool} : ∀ {ts : List TypeId} {vs : List Value} {ds : List (DataW H)} {ps : List MemPlace}, DataW.TrodAll enc P W 0 spare held ts vs ds ps → vs.length = ts.length ∧ ds.length = ts.length
  | [], vs, ds, ps, h => by cases vs <;> cases ds <;> simp_all [DataW.TrodAll]
  | t :: ts, vs, ds, ps, h => by
    obtain ⟨v, vs', d, ds', p, q, rfl, rfl, rfl, h1, h2⟩ := trodAll_cons h
    obtain ⟨e1, e2⟩ := trodAll_length h2
    simp [e1, e2]

/-- The row of a law. -/
theorem law_returns {C : Checked} {os : Os} {f : FuncId} {fn : Func} {s : ChangeSpec} {conds : List PathCond} (own : ownKnob C.prog.godebug = none) (started : os.Started) (noInit : C.prog.inits.idxOf? f = none) (hfn : C.prog.funcs[f]? = some fn)
    (witness : ∃ (w : World) (tape : Tape) (i : Input), w.os = os ∧ (w.forCall tape i).Shaped C.prog ∧ i.vars = [] ∧ Input.okWide C.prog (w.forCall tape i) .any w.heap.size f i ∧
      s.pre6 enc C.prog fn conds false (w.forCall tape i).memory i.args ∧ ({} : Assume).holds C.prog (lone (Frame.enter C.prog f i.args .normal) [] (w.forCall tape i)))
    (hvars : s.vars = []) {tb : TypeId} (hres : fn.resultTypes = #[tb]) (hb : C.prog.underlying tb = some .bool) (laid : laidOutB C.prog = true) (hread : typesRead C.prog fn.params.toList = true)
    (hspec : ∀ ds : List (DataW H), ds.length = fn.params.toList.length → (s.fn H ds).results = [.lit (.bool true)] ∧ (s.fn H ds).args = ds ∧ (s.fn H ds).vars = [])
    (call : ∀ (W : World) (base : Nat) (args : Array Value) (ds : List (DataW H)) (ps : List MemPlace), W.ShapedOpen C.prog → (∀ (j : Nat) t v, fn.params.toList[j]? = some t → args.toList[j]? = some v → Value.okWide C.prog W .any base t v) → DataW.TrodAll enc C.prog W 0 (fun _ => true) true fn.params.toList args.toList ds ps → (DataW.weightsEach C.prog fn.params.toList ds).all (· ≤ reachBytes) = true →
      Calls C.prog f args W fun e W' => e = .returned (.bool true) ∧ Below W.heap.size W W') :
    ReturnsInHanded {} C os f .any (s.pre6 enc C.prog fn conds false) (s.post enc C.prog fn false true false false) := by
  refine returnsInHanded_of_change_shaped own started noInit hfn witness ?_
  intro W base args ds gs before hval hW hcnd hsz hsh _
  have hW' := hW
  obtain ⟨p, q, hA, hV, rfl, hfz, hnd⟩ := hW
  rw [hvars] at hV
  obtain ⟨rfl, rfl⟩ := trodVars_none hV
  have hsz' : (DataW.weightsEach C.prog fn.params.toList ds).all (· ≤ reachBytes) = true := by
    have e : s.plain.varTypes C.prog = [] := by simp [ChangeSpec.plain, DataSpec.varTypes, hvars]
    rw [e] at hsz
    simpa using hsz
  refine (call W base args ds p hsh (fun j t v ht hv => hval j t v (by simpa using ht) (by simpa using hv)) hA hsz').mono fun e W' ⟨he, bel⟩ => ?_
  obtain ⟨e1, e2, e3⟩ := hspec ds (trodAll_length hA).2
  refine ⟨_, he, ds, [], _, [], p, [], hW', ?_, ?_, ?_, bel.frame _, fun h => by cases h⟩
  · simp only [List.append_nil, e1, hres]
    exact trodAll_mk1 (shut_bool hb _)
  · simp only [List.append_nil, e2]
    exact trodAll_later laid bel hread hA
  · simp only [List.append_nil, e3, hvars]; rfl
end
end Sx

/-
  Sx, part 26: what can be read as data is told by lists.
-/
set_option linter.unusedVariables false
set_option linter.unusedSimpArgs false
namespace Sx
open Go Go.RowKit

/-- A datum as it may come in: numbers fit their kinds, nothing is longer than may be. -/
inductive WfV (P : Program) : SV → Prop
  | bool (b : Bool) : WfV P (.bool b)
  | int (k : IntKind) (n : Int) (h : (Lit.int k n).wf = true) : WfV P (.int k n)
  | str (s : ByteArray) (h : s.size ≤ reachBytes) : WfV P (.str s)
  | lst (e : TypeId) (d : TyD) (xs : List SV) (hd : tyOf P e = some d) (h : xs.length * P.bytesOf e ≤ reachBytes) (ho : ∀ x, x ∈ xs → okE d x) (hx : ∀ x, x ∈ xs → ∀ s, s ∈ cellsOf x → WfV P s) : WfV P (.lst e xs)

def tiles (P : Program) : Nat → List Field → Bool
  | _, [] => true
  | k, f :: r => Nat.beq f.offset k && tiles P (k + P.cellsOf f.type) r
/-- A type of data: bools, whole numbers, texts; slices and structs of such. -/
def dataTy (P : Program) : Nat → TypeId → Bool
  | 0, _ => false
  | n + 1, t => match P.underlying t with
    | some .bool => true
    | some (.int _) => true
    | some .string => true
    | some (.slice e) => (match tyOf P e with
      | some d => dataTy P n e && decide (cksOf P n e = d.cells) && Nat.beq (P.cellsOf e) d.size && Nat.ble 1 d.size
      | none => false)
    | some (.struct fs) => tiles P 0 fs.toList && Nat.beq (cksOf P (n + 1) t).length (P.cellsOf t) && fs.toList.all (fun f => dataTy P n f.type && Nat.beq (cksOf P n f.type).length (P.cellsOf f.type))
    | _ => false

section
variable {H : Type} {enc : TypeId × Value → H} {E : Env} {w : World} {spare : Nat → Bool} {held : Bool} {P : Program}
/-- Cells that are told. -/
def Told (E : Env) (P : Program) (w : World) (ks : List CK) (cs : List Value) (ss : List SV) : Prop :=
  ss.length = cs.length ∧ tyCs ks ss = true ∧ (∀ (j : Nat) s v, ss[j]? = some s → cs[j]? = some v → Rep E w (fun b => b < w.heap.size) s v) ∧ ∀ s, s ∈ ss → WfV P s

theorem told_one {k : CK} {s : SV} {v : Value} (h : tyC k s = true) (hr : Rep E w (fun b => b < w.heap.size) s v) (hw : WfV P s) : Told E P w [k] [v] [s] :=
  ⟨rfl, by simp [tyCs, h], fun j a b ha hb => by
    cases j with
    | zero => simp at ha hb; subst ha; subst hb; exact hr
    | succ j => simp at ha, fun x hx => by simp at hx; subst hx; exact hw⟩

theorem told_append {k1 k2 : List CK} {c1 c2 : List Value} {s1 s2 : List SV} (h : Told E P w k1 c1 s1) (k : Told E P w k2 c2 s2) : Told E P w (k1 ++ k2) (c1 ++ c2) (s1 ++ s2) := by
  refine ⟨by simp [h.1, k.1], ?_, fun j s v hs hv => ?_, fun s hs => (List.mem_append.1 hs).elim (h.2.2.2 s) (k.2.2.2 s)⟩
  · have key : ∀ (a : List CK) (x : List SV), tyCs a x = true → tyCs (a ++ k2) (x ++ s2) = true := by
      intro a
      induction a with
      | nil => intro x hx; cases x <;> simp_all [tyCs]; exact k.2.1
      | cons c a ih => intro x hx; cases x with
        | nil => simp [tyCs] at hx
        | cons y x => simp only [tyCs, Bool.and_eq_true] at hx; simp only [List.cons_append, tyCs, Bool.and_eq_true]; exact ⟨hx.1, ih x hx.2⟩
    exact key _ _ h.2.1
  · by_cases q : j < s1.length
    · rw [List.getElem?_append_left q] at hs
      rw [List.getElem?_append_left (by rw [← h.1]; exact q)] at hv
      exact h.2.2.1 j s v hs hv
    · rw [List.getElem?_append_right (by omega)] at hs
      rw [List.getElem?_append_right (by rw [← h.1]; omega), ← h.1] at hv
      exact k.2.2.1 _ s v hs hv

theorem told_fields {ks : Field → List CK} (cs : List Value) : ∀ (fs : List Field) (k : Nat), tiles P k fs = true → (∀ (i : Nat) f, fs[i]? = some f → (ks f).length = P.cellsOf f.type ∧ ∃ ss, Told E P w (ks f) ((cs.drop f.offset).take (P.cellsOf f.type)) ss) →
    ((fs.map ks).flatten).length ≤ (cs.drop k).length → ∃ ss, Told E P w (fs.map ks).flatten ((cs.drop k).take ((fs.map ks).flatten).length) ss
  | [], k, _, _, _ => ⟨[], by simp [Told, tyCs]⟩
  | f :: fs, k, ht, h, hl => by
    simp only [tiles, Bool.and_eq_true] at ht
    have hk := Nat.eq_of_beq_eq_true ht.1
    obtain ⟨h1, s1, t1⟩ := h 0 f rfl
    simp only [List.map_cons, List.flatten_cons, List.length_append, List.length_drop] at hl
    obtain ⟨s2, t2⟩ := told_fields cs fs (k + P.cellsOf f.type) ht.2 (fun i g hg => h (i + 1) g (by simpa using hg)) (by simp only [List.length_drop]; omega)
    refine ⟨s1 ++ s2, ?_⟩
    have := told_append t1 t2
    rw [hk] at this
    have e : (cs.drop k).take (P.cellsOf f.type) ++ (cs.drop (k + P.cellsOf f.type)).take ((fs.map ks).flatten).length = (cs.drop k).take ((f :: fs).map ks).flatten.length := by
      simp only [List.map_cons, List.flatten_cons, List.length_append, h1]
      rw [← List.drop_drop, ← List.take_add]
    rw [e] at this
    exact this

theorem told_elem {e : TypeId} {d : TyD} (hT : TyOk P e d) {cs : List Value} {ss : List SV} (h : Told E P w d.cells cs ss) : okE d (ofCells d.d ss) ∧ cellsOf (ofCells d.d ss) = ss := by
  have hl : d.cells.length = ss.length := tyCs_length h.2.1
  have hc : cellsOf (ofCells d.d ss) = ss := by
    cases hag : d.d.isAgg with
    | true =>
      have : ofCells d.d ss = .agg ss := by unfold ofCells; cases hq : d.d <;> simp_all [D.isAgg]
      rw [this]; rfl
    | false =>
      have h1 := hT.one hag
      have : ofCells d.d ss = ss.headD .dead := by unfold ofCells; cases hq : d.d <;> simp_all [D.isAgg]
      rw [this]
      rw [hT.cells, h1] at hl
      match ss, hl with
      | [c], _ =>
        have hk : ∃ k, d.cells = [k] := by
          have := hT.cells; rw [h1] at this
          match d.cells, this with
          | [k], _ => exact ⟨k, rfl⟩
        obtain ⟨k, hk⟩ := hk
        have := h.2.1
        rw [hk] at this
        simp only [tyCs, Bool.and_true] at this
        exact cellsOf_cellish (by cases k <;> cases c <;> first | rfl | (simp [tyC] at this))
  exact ⟨⟨by rw [hc], by rw [hc]; exact h.2.1⟩, hc⟩

theorem weights_all {e : TypeId} : ∀ {l : List (DataW H)} {d : DataW H}, d ∈ l → ∀ k, k ∈ d.weights P e → k ∈ DataW.weightsAll P e l
  | x :: l, d, hd, k, hk => by
    unfold DataW.weightsAll
    rw [List.mem_append]
    rcases List.mem_cons.1 hd with rfl | h
    · exact .inl hk
    · exact .inr (weights_all h k hk)
theorem weights_each : ∀ {ts : List TypeId} {l : List (DataW H)} {i : Nat} {t : TypeId} {d : DataW H}, ts[i]? = some t → l[i]? = some d → ∀ k, k ∈ d.weights P t → k ∈ DataW.weightsEach P ts l
  | [], l, i, t, d, ht, hd, k, hk => by simp at ht
  | t0 :: ts, [], i, t, d, ht, hd, k, hk => by simp at hd
  | t0 :: ts, x :: l, i, t, d, ht, hd, k, hk => by
    unfold DataW.weightsEach
    rw [List.mem_append]
    cases i with
    | zero =>
      simp at ht hd
      subst ht; subst hd
      exact .inl hk
    | succ i => exact .inr (weights_each (i := i) (by simpa using ht) (by simpa using hd) k hk)
theorem told_of_trod (hE : E.Ty = tyOf P) (hP : E.P = P) : ∀ (n : Nat) (t : TypeId) (fuel : Nat) (cs : List Value) (x : DataW H × List MemPlace), dataTy P n t = true → DataW.trod enc P w 0 spare held fuel t cs = some x → (∀ k, k ∈ x.1.weights P t → k ≤ reachBytes) → ∃ ss, Told E P w (cksOf P n t) cs ss
  | 0, t, fuel, cs, x, hd, h, hwt => by cases hd
  | n + 1, t, fuel, cs, x, hd, h, hwt => by
    unfold dataTy at hd
    split at hd
    · rename_i hu
      obtain ⟨b, rfl, rfl⟩ := DataW.trod_bool hu h
      refine ⟨[.bool b], ?_⟩
      rw [show cksOf P (n + 1) t = [.bool] by simp [cksOf, hu]]
      exact told_one rfl (.bool b) (.bool b)
    · rename_i k hu
      obtain ⟨m, rfl, rfl, hw⟩ := DataW.trod_int hu h
      refine ⟨[.int k m], ?_⟩
      rw [show cksOf P (n + 1) t = [.int k] by simp [cksOf, hu]]
      exact told_one (by simp [tyC]) (.int k m) (.int k m hw)
    · rename_i hu
      obtain ⟨s, rfl, rfl, hw⟩ := DataW.trod_string hu h
      refine ⟨[.str s], ?_⟩
      rw [show cksOf P (n + 1) t = [.str] by simp [cksOf, hu]]
      exact told_one rfl (.str s) (.str s (hwt _ (by simp [DataW.weights])))
    · rename_i e hu
      rw [show cksOf P (n + 1) t = [.slice e] by simp [cksOf, hu]]
      split at hd
      · rename_i d hde
        simp only [Bool.and_eq_true, decide_eq_true_eq] at hd
        obtain ⟨⟨⟨h1, h2⟩, h3⟩, h4⟩ := hd
        have h3 := Nat.eq_of_beq_eq_true h3
        have h4 := Nat.le_of_ble_eq_true h4
        have hT := tyOf_ok hde
        rcases DataW.trod_slice hu h with ⟨rfl, rfl⟩ | ⟨a, len, cap, elems, rest, n', rfl, rfl, rfl, hb, hl, hc, hel, hat, _⟩
        · exact ⟨[.lst e []], told_one (by simp [tyC, Nat.beq_refl]) (.lst0 e none 0) (.lst e d [] hde (by simp) (by simp) (by simp))⟩
        · have each : ∀ i, i < len → ∃ ss cs', w.cells? 0 (a.add (i * d.size)) d.size = some cs' ∧ Told E P w d.cells cs' ss := fun i hi => by
            have := hat i hi
            rw [List.getElem?_eq_getElem (by omega), Option.bind_eq_some_iff] at this
            obtain ⟨cs', h5, h6⟩ := this
            obtain ⟨ss, hss⟩ := told_of_trod hE hP n e n' cs' _ h1 h6 (fun k hk => hwt k (by
              simp only [DataW.weights, hu, List.mem_cons, List.mem_append]
              exact .inr (.inl (weights_all (List.mem_map_of_mem (List.getElem_mem _)) k hk))))
            rw [h3] at h5
            exact ⟨ss, cs', h5, by rw [← h2]; exact hss⟩
          let f : Nat → List SV := fun i => if h : i < len then (each i h).choose else []
          have hf : ∀ i, i < len → ∃ cs', w.cells? 0 (a.add (i * d.size)) d.size = some cs' ∧ Told E P w d.cells cs' (f i) := fun i hi => by
            simp only [f, dif_pos hi]; exact (each i hi).choose_spec
          let xs : List SV := (List.range len).map fun i => ofCells d.d (f i)
          have hxl : xs.length = len := by simp [xs]
          have hget : ∀ i x, xs[i]? = some x → i < len ∧ x = ofCells d.d (f i) := fun i x hx => by
            simp only [xs, List.getElem?_map] at hx
            by_cases q : i < len
            · rw [List.getElem?_range q] at hx; simp at hx; exact ⟨q, hx.symm⟩
            · rw [List.getElem?_eq_none (by simpa using q)] at hx; cases hx
          have hmem : ∀ x, x ∈ xs → ∃ i, i < len ∧ x = ofCells d.d (f i) := fun x hx => by
            obtain ⟨i, hi, rfl⟩ := List.mem_map.1 hx; exact ⟨i, List.mem_range.1 hi, rfl⟩
          have cellAt : ∀ i j, i < len → j < d.size → ∃ v, w.cell? (a.add (i * d.size + j)) = some v ∧ ∀ s, (f i)[j]? = some s → Rep E w (fun b => b < w.heap.size) s v := fun i j hi hj => by
            obtain ⟨cs', h5, h6⟩ := hf i hi
            obtain ⟨_, h7, h8⟩ := World.cells?_some h5
            have h9 := h8 j hj
            rw [Addr.add_add] at h9
            have hv : cs'[j]? = some cs'[j] := List.getElem?_eq_getElem (by omega)
            exact ⟨cs'[j], by rw [h9, hv], fun s hs => h6.2.2.1 j s _ hs hv⟩
          refine ⟨[.lst e xs], told_one (by simp [tyC, Nat.beq_refl]) ?_ ?_⟩
          · by_cases hx0 : len = 0
            · have hx : xs = [] := List.eq_nil_of_length_eq_zero (by omega)
              rw [hx, hx0]; exact .lst0 e (some a) cap
            · have hlt : a.block < w.heap.size := by
                obtain ⟨v, hv, _⟩ := cellAt 0 0 (by omega) (by omega)
                have := World.block_lt_of_cell? w _ hv
                have hbk : (a.add (0 * d.size + 0)).block = a.block := by unfold Addr.add; split <;> rfl
                rwa [hbk] at this
              rw [← hxl]
              refine .lst e d xs a cap (fun i j => (w.cell? (a.add (i * d.size + j))).getD undef) (by rw [hE]; exact hde) (by omega) (by omega) hlt (fun x hx => ?_) (fun i j hi hj => ?_) (fun i j x s hx hs => ?_)
              · obtain ⟨i, hi, rfl⟩ := hmem x hx
                obtain ⟨cs', _, h6⟩ := hf i hi
                exact (told_elem hT h6).1
              · obtain ⟨v, hv, _⟩ := cellAt i j (by omega) hj
                rw [hv]; rfl
              · obtain ⟨hi, rfl⟩ := hget i x hx
                obtain ⟨cs', _, h6⟩ := hf i hi
                rw [(told_elem hT h6).2] at hs
                have hj : j < d.size := by
                  have h7 := tyCs_length h6.2.1
                  rw [hT.cells] at h7
                  have := (List.getElem?_eq_some_iff.1 hs).1; omega
                obtain ⟨v, hv, hr⟩ := cellAt i j hi hj
                simp only [hv, Option.getD_some]; exact hr s hs
          · refine .lst e d xs hde ?_ (fun x hx => ?_) (fun x hx s hs => ?_)
            · have h7 := hwt ((len + rest.length) * P.bytesOf e) (by
                simp only [DataW.weights, hu, List.mem_cons, List.length_map, hel]
                exact .inl (by simp))
              rw [hxl]
              exact Nat.le_trans (Nat.mul_le_mul_right _ (Nat.le_add_right _ _)) h7
            · obtain ⟨i, hi, rfl⟩ := hmem x hx
              obtain ⟨cs', _, h6⟩ := hf i hi
              exact (told_elem hT h6).1
            obtain ⟨i, hi, rfl⟩ := hmem x hx
            obtain ⟨cs', _, h6⟩ := hf i hi
            rw [(told_elem hT h6).2] at hs
            exact h6.2.2.2 s hs
      · cases hd
    · rename_i fs hu
      simp only [Bool.and_eq_true, List.all_eq_true] at hd
      obtain ⟨⟨h1, h2⟩, h3⟩ := hd
      have h2 := Nat.eq_of_beq_eq_true h2
      obtain ⟨xs, n', rfl, rfl, hl, hxl, hat⟩ := DataW.trod_struct hu h
      have hck : cksOf P (n + 1) t = (fs.toList.map fun f => cksOf P n f.type).flatten := by simp [cksOf, hu]
      have := told_fields (E := E) (w := w) (P := P) (ks := fun f => cksOf P n f.type) cs fs.toList 0 h1 (fun i f hf => by
        have hf' : fs[i]? = some f := by simpa using hf
        have hm : f ∈ fs.toList := List.mem_of_getElem? hf
        have h4 := h3 f hm
        have := hat i f hf'
        have hlt : i < xs.length := by rw [hxl]; exact (Array.getElem?_eq_some_iff.1 hf').1
        rw [List.getElem?_eq_getElem hlt] at this
        exact ⟨Nat.eq_of_beq_eq_true h4.2, told_of_trod hE hP n f.type n' _ _ h4.1 this (fun k hk => hwt k (by
          simp only [DataW.weights, hu]
          exact weights_each (i := i) (by simp [hf']) (by simp [hlt]) k hk))⟩) (by simp only [List.drop_zero]; rw [← hck, h2, hl]; exact Nat.le_refl _)
      rw [← hck, h2, List.drop_zero, ← hl, List.take_length] at this
      exact this
    · cases hd

/-- An argument, as it may come in. -/
inductive ArgOk (P : Program) (t : TypeId) : SV → Prop
  | mk (d : TyD) (ss : List SV) (hd : tyOf P t = some d) (h : tyCs d.cells ss = true) (hw : ∀ s, s ∈ ss → WfV P s) : ArgOk P t (ofCells d.d ss)
inductive ArgsOk (P : Program) : List TypeId → List SV → Prop
  | nil : ArgsOk P [] []
  | cons {t : TypeId} {ts : List TypeId} {x : SV} {xs : List SV} (h : ArgOk P t x) (r : ArgsOk P ts xs) : ArgsOk P (t :: ts) (x :: xs)
def dataTys (P : Program) (ts : List TypeId) : Bool := ts.all fun t => dataTy P 8 t && (tyOf P t).isSome

theorem cells_shape {t : TypeId} {d : TyD} (hd : tyOf P t = some d) {base : Nat} {v : Value} (hv : Value.okWide P w .any base t v) (hT : dataTy P 8 t = true) : (d.d.isAgg = true ∧ ∃ cs, v = .agg cs) ∨ (d.d.isAgg = false ∧ v.cells.toList = [v]) := by
  obtain ⟨u, hu, hD⟩ := (tyOf_ok hd).und
  unfold dataTy at hT
  rw [hu] at hT
  cases u with
  | struct fs =>
    left
    obtain ⟨cs, rfl, _⟩ : ∃ cs, v = .agg cs ∧ _ := by
      simp only [Value.okWide, hu] at hv
      exact hv
    exact ⟨by cases hq : d.d <;> simp_all [DOk, D.isAgg], cs, rfl⟩
  | bool =>
    right
    have : ∃ b, v = .bool b := by simp only [Value.okWide, hu, Cell.okWide] at hv; cases v <;> simp_all [Cell.ok]
    obtain ⟨b, rfl⟩ := this
    exact ⟨by cases hq : d.d <;> simp_all [DOk, D.isAgg], rfl⟩
  | int k =>
    right
    obtain ⟨b, rfl⟩ := WideShapes.okWide_int hu hv
    exact ⟨by cases hq : d.d <;> simp_all [DOk, D.isAgg], rfl⟩
  | string =>
    right
    obtain ⟨b, rfl⟩ := WideShapes.okWide_string hu hv
    exact ⟨by cases hq : d.d <;> simp_all [DOk, D.isAgg], rfl⟩
  | slice e =>
    right
    obtain ⟨a, l, c, rfl⟩ := WideShapes.okWide_slice hu hv
    exact ⟨by cases hq : d.d <;> simp_all [DOk, D.isAgg], rfl⟩
  | _ => simp at hT

theorem args_of_trod (hE : E.Ty = tyOf P) (hP : E.P = P) {base : Nat} : ∀ {ts : List TypeId} {vs : List Value} {ds : List (DataW H)} {ps : List MemPlace}, dataTys P ts = true → (∀ (j : Nat) t v, ts[j]? = some t → vs[j]? = some v → Value.okWide P w .any base t v) → DataW.TrodAll enc P w 0 spare held ts vs ds ps → (DataW.weightsEach P ts ds).all (· ≤ reachBytes) = true →
    ∃ svs, RelL E w (fun b => b < w.heap.size) (fun _ => none) svs vs ∧ ArgsOk P ts svs
  | [], vs, ds, ps, _, _, h, _ => by
    have : vs = [] := by cases vs <;> cases ds <;> simp_all [DataW.TrodAll]
    subst this
    exact ⟨[], ⟨rfl, by simp⟩, .nil⟩
  | t :: ts, vs, ds, ps, hd, hv, h, hwt => by
    obtain ⟨v, vs', d, ds', p, q, rfl, rfl, rfl, ⟨fuel, h1⟩, h2⟩ := ChangeShapes.trodAll_cons h
    simp only [DataW.weightsEach, List.all_append, Bool.and_eq_true, List.all_eq_true, decide_eq_true_eq] at hwt
    simp only [dataTys, List.all_cons, Bool.and_eq_true] at hd
    obtain ⟨⟨hd1, hd2⟩, hd3⟩ := hd
    obtain ⟨dt, hdt⟩ := Option.isSome_iff_exists.1 hd2
    obtain ⟨ss, hss⟩ := told_of_trod hE hP 8 t fuel _ _ hd1 h1 (fun k hk => hwt.1 k hk)
    have hck : cksOf P 8 t = dt.cells := by
      unfold tyOf at hdt
      split at hdt
      · split at hdt
        · split at hdt
          · simp only [cond_eq_ite] at hdt
            split at hdt
            · cases hdt; rfl
            · cases hdt
          · cases hdt
        · cases hdt
      · cases hdt
    rw [hck] at hss
    obtain ⟨xs, hx, ha⟩ := args_of_trod hE hP (ts := ts) hd3 (fun j t v ht hv' => hv (j + 1) t v (by simpa using ht) (by simpa using hv')) h2 (by simp only [List.all_eq_true, decide_eq_true_eq]; exact hwt.2)
    obtain ⟨ho, hc⟩ := told_elem (tyOf_ok hdt) hss
    refine ⟨ofCells dt.d ss :: xs, ⟨by simp [hx.1], fun j s u hs hu => ?_⟩, .cons (.mk dt ss hdt hss.2.1 hss.2.2.2) ha⟩
    cases j with
    | succ j => exact hx.2 j s u (by simpa using hs) (by simpa using hu)
    | zero =>
      simp at hs hu
      subst hs; subst hu
      rcases cells_shape hdt (hv 0 t v rfl rfl) hd1 with ⟨hag, cs, rfl⟩ | ⟨hag, hvc⟩
      · have : ofCells dt.d ss = .agg ss := by unfold ofCells; cases hq : dt.d <;> simp_all [D.isAgg]
        rw [this]
        have := Rel.agg (E := E) (w := w) (ok := fun b => b < w.heap.size) (ρ := fun _ => none) ss cs.toList hss.1 (fun j s v hs hv => .data _ _ (hss.2.2.1 j s v hs hv))
        simpa using this
      · rw [hvc] at hss
        have h1 := hss.1
        have hof : ofCells dt.d ss = ss.headD .dead := by unfold ofCells; cases hq : dt.d <;> simp_all [D.isAgg]
        rw [hof]
        match ss, h1 with
        | [c], _ => exact .data _ _ (hss.2.2.1 0 c v rfl rfl)
end

theorem ArgOk.noOwn {P : Program} {t : TypeId} {x : SV} (h : ArgOk P t x) : Sx.noOwn x = true := by
  obtain ⟨d, ss, hd, h, hw⟩ := h
  have all : ∀ (ks : List CK) (l : List SV), tyCs ks l = true → noOwnL l = true := by
    intro ks
    induction ks with
    | nil => intro l hl; cases l <;> simp_all [tyCs, noOwnL]
    | cons k ks ih =>
      intro l hl
      cases l with
      | nil => rfl
      | cons x l =>
        simp only [tyCs, Bool.and_eq_true] at hl
        simp only [noOwnL, Bool.and_eq_true]
        exact ⟨by have := hl.1; cases k <;> cases x <;> first | rfl | (simp [tyC] at this), ih l hl.2⟩
  have h1 := all _ _ h
  cases hag : d.d.isAgg with
  | true =>
    have : ofCells d.d ss = .agg ss := by unfold ofCells; cases hq : d.d <;> simp_all [D.isAgg]
    rw [this]; simpa [Sx.noOwn] using h1
  | false =>
    have : ofCells d.d ss = ss.headD .dead := by unfold ofCells; cases hq : d.d <;> simp_all [D.isAgg]
    rw [this]
    cases ss with
    | nil => rfl
    | cons c l => simp only [noOwnL, Bool.and_eq_true] at h1; exact h1.1
theorem ArgsOk.noOwn {P : Program} {ts : List TypeId} {xs : List SV} (h : ArgsOk P ts xs) : noOwnL xs = true := by
  induction h with
  | nil => rfl
  | cons h r ih => simp [noOwnL, h.noOwn, ih]

/-- A call of a law, by a run of the executor. -/
theorem law_calls {E : Env} {X : Fx} (hX : FxOk E X) {f : FuncId} {fn : Func} (hf : E.P.funcs[f]? = some fn) {w : World} (hG : E.G w) {svs : List SV} {vals : Array Value} (hl : RelL E w (fun b => b < w.heap.size) (fun _ => none) svs vals.toList) (hno : noOwnL svs = true) {n : Nat}
    (hrun : evFun X n fn (frz X.Ty fn) svs [] [] = some (.bool true)) : Calls E.P f vals w (fun e w' => e = .returned (.bool true) ∧ Below w.heap.size w w') := by
  have hR : R E (fun _ => none) ⟨[], [], []⟩ { tmps := #[], defers := [] } w :=
    ⟨rfl, fun i v h => by simp at h, ⟨fun id o h => (by cases h), fun i j o o' v v' b _ h => (by cases h), fun b ⟨id, o, v, h, _⟩ => (by cases h), fun b ⟨i, v, _, h, _⟩ => by cases h⟩, fun id v _ h => (by cases h), fun id v h => (by cases h), hG⟩
  have hok : ∀ b, b < w.heap.size → okB w (fun _ => none) [] b := fun b hb => ⟨hb, fun q => by
    rcases q with ⟨_, _, _, h, _⟩ | ⟨_, _, _, h, _⟩ <;> cases h⟩
  have hl' : RelL E w (okB w (fun _ => none) []) (fun _ => none) svs vals.toList := ⟨hl.1, fun j s u hs hu => (hl.2 j s u hs hu).frame (fun _ _ => rfl) hok (fun _ _ x => x)⟩
  have := emptyR hR hl' hno (fn := fn)
  refine (evFun_calls hX hf hrun this).mono ?_
  rintro e w' ⟨v, ρ', a', sv2, s', rfl, hfin, hF, hrel⟩
  rw [hX.ty] at hfin
  have hrel := frz_sound hX.env hF.r.mem fn hrel
  rw [hfin] at hrel
  obtain rfl := inv_bool hrel
  exact ⟨rfl, hF.kept.os, hF.kept.tape, hF.kept.output, hF.kept.size, fun b hb => hF.kept.block b hb (fun ⟨id, o, v, h, _⟩ => by cases h)⟩

/-! ### arguments of common kinds -/
theorem ArgOk.str {P : Program} {t : TypeId} {x : SV} (h : ArgOk P t x) (hc : (tyOf P t).map (fun d => (d.d, d.cells)) = some (.str, [.str])) : ∃ s, x = .str s ∧ s.size ≤ reachBytes := by
  obtain ⟨d, ss, hd, h, hw⟩ := h
  simp only [hd, Option.map_some, Option.some.injEq, Prod.mk.injEq] at hc
  rw [hc.2] at h
  rw [hc.1]
  match ss, h with
  | [c], h =>
    cases c <;> simp [tyCs, tyC] at h
    rename_i s
    have := hw (.str s) (by simp)
    cases this with
    | str s h => exact ⟨s, rfl, h⟩
  | [], h => simp [tyCs] at h
  | _ :: _ :: _, h => simp [tyCs] at h
theorem ArgOk.int {P : Program} {t : TypeId} {x : SV} {k : IntKind} (h : ArgOk P t x) (hc : (tyOf P t).map (fun d => (d.d, d.cells)) = some (.int k, [.int k])) : ∃ n, x = .int k n ∧ (Lit.int k n).wf = true := by
  obtain ⟨d, ss, hd, h, hw⟩ := h
  simp only [hd, Option.map_some, Option.some.injEq, Prod.mk.injEq] at hc
  rw [hc.2] at h
  rw [hc.1]
  match ss, h with
  | [c], h =>
    cases c <;> simp [tyCs, tyC] at h
    rename_i k' n
    subst h
    have := hw (.int k n) (by simp)
    cases this with
    | int k n h => exact ⟨n, rfl, h⟩
  | [], h => simp [tyCs] at h
  | _ :: _ :: _, h => simp [tyCs] at h
theorem ArgOk.lst {P : Program} {t : TypeId} {x : SV} {e : TypeId} (h : ArgOk P t x) (hc : (tyOf P t).map (fun d => (d.d, d.cells)) = some (.slice e, [.slice e])) : ∃ xs, x = .lst e xs ∧ WfV P (.lst e xs) := by
  obtain ⟨d, ss, hd, h, hw⟩ := h
  simp only [hd, Option.map_some, Option.some.injEq, Prod.mk.injEq] at hc
  rw [hc.2] at h
  rw [hc.1]
  match ss, h with
  | [c], h =>
    cases c <;> simp [tyCs, tyC] at h
    rename_i e' xs
    subst h
    exact ⟨xs, rfl, hw _ (by simp)⟩
  | [], h => simp [tyCs] at h
  | _ :: _ :: _, h => simp [tyCs] at h
end Sx

/-
  Whole numbers as bits: what the executor says of shifts and of and, or, in plain numbers.
-/
set_option linter.unusedVariables false
namespace Sx
open Go

theorem wrap_u64 {x : Nat} (h : x < 2 ^ 64) : IntKind.wrap .u64 (x : Int) = x := by
  simp only [IntKind.wrap, IntKind.signed, IntKind.bits]
  simp
  omega
theorem wrap_u8n {x : Nat} (h : x < 256) : IntKind.wrap .u8 (x : Int) = x := by
  simp only [IntKind.wrap, IntKind.signed, IntKind.bits]
  simp
  omega
theorem wrap_i64 {x : Int} (h0 : -9223372036854775808 ≤ x) (h1 : x ≤ 9223372036854775807) : IntKind.wrap .i64 x = x := by
  simp only [IntKind.wrap, IntKind.signed, IntKind.bits]
  simp
  split <;> omega
theorem shr_u64 (x n : Nat) (h : n ≤ 64) : shrI .u64 (x : Int) (n : Int) = ((x >>> n : Nat) : Int) := by
  unfold shrI
  have : min ((n : Int).toNat) (IntKind.u64.bits) = n := by simp [IntKind.bits]; omega
  rw [this, Int.fdiv_eq_ediv_of_nonneg _ (by exact Int.le_of_lt (Int.pow_pos (by decide)))]
  rw [Nat.shiftRight_eq_div_pow]
  simp
theorem shl_u64 (x n : Nat) (h : n ≤ 64) : shlI .u64 (x : Int) (n : Int) = ((x <<< n % 2 ^ 64 : Nat) : Int) := by
  unfold shlI
  have : min ((n : Int).toNat) (IntKind.u64.bits) = n := by simp [IntKind.bits]; omega
  rw [this, Nat.shiftLeft_eq]
  simp only [IntKind.wrap, IntKind.signed, IntKind.bits]
  simp
theorem and_u64 {x y : Nat} (hx : x < 2 ^ 64) (hy : y < 2 ^ 64) : ibits .and .u64 (x : Int) (y : Int) = ((x &&& y : Nat) : Int) := by
  unfold ibits
  have e : (BitVec.ofInt (IntKind.u64.bits) (x : Int) &&& BitVec.ofInt (IntKind.u64.bits) (y : Int)).toNat = x &&& y := by
    rw [BitVec.toNat_and]
    simp [IntKind.bits, BitVec.ofInt_natCast]
    rw [Nat.mod_eq_of_lt (by simpa using hx), Nat.mod_eq_of_lt (by simpa using hy)]
  simp only [e]
  exact wrap_u64 (Nat.lt_of_le_of_lt Nat.and_le_left hx)
theorem or_u64 {x y : Nat} (hx : x < 2 ^ 64) (hy : y < 2 ^ 64) : ibits .or .u64 (x : Int) (y : Int) = ((x ||| y : Nat) : Int) := by
  unfold ibits
  have e : (BitVec.ofInt (IntKind.u64.bits) (x : Int) ||| BitVec.ofInt (IntKind.u64.bits) (y : Int)).toNat = x ||| y := by
    rw [BitVec.toNat_or]
    simp [IntKind.bits, BitVec.ofInt_natCast]
    rw [Nat.mod_eq_of_lt (by simpa using hx), Nat.mod_eq_of_lt (by simpa using hy)]
  simp only [e]
  exact wrap_u64 (Nat.or_lt_two_pow hx hy)
theorem or_u8 {x y : Nat} (hx : x < 2 ^ 8) (hy : y < 2 ^ 8) : ibits .or .u8 (x : Int) (y : Int) = ((x ||| y : Nat) : Int) := by
  unfold ibits
  have e : (BitVec.ofInt (IntKind.u8.bits) (x : Int) ||| BitVec.ofInt (IntKind.u8.bits) (y : Int)).toNat = x ||| y := by
    rw [BitVec.toNat_or]
    simp [IntKind.bits, BitVec.ofInt_natCast]
    rw [Nat.mod_eq_of_lt (by simpa using hx), Nat.mod_eq_of_lt (by simpa using hy)]
  simp only [e]
  exact wrap_u8n (Nat.or_lt_two_pow hx hy)
theorem shl_u8 (x n : Nat) (h : n ≤ 8) : shlI .u8 (x : Int) (n : Int) = ((x <<< n % 2 ^ 8 : Nat) : Int) := by
  unfold shlI
  have : min ((n : Int).toNat) (IntKind.u8.bits) = n := by simp [IntKind.bits]; omega
  rw [this, Nat.shiftLeft_eq]
  simp only [IntKind.wrap, IntKind.signed, IntKind.bits]
  simp

/-- One stage of turning bits round: neighbours of so many bits change places. -/
def stage (k m x : Nat) : Nat := ((x >>> k) &&& m) ||| (((x &&& m) <<< k) % 2 ^ 64)
theorem stage_lt {k m x : Nat} (hm : m < 2 ^ 64) : stage k m x < 2 ^ 64 := by
  unfold stage
  exact Nat.or_lt_two_pow (Nat.lt_of_le_of_lt Nat.and_le_right hm) (Nat.mod_lt _ (by decide))
theorem stage_bit {k m x j : Nat} (hk : 0 < k) (hj : j < 64) (hm : ∀ i, i < 64 → Nat.testBit m i = (i / k % 2 == 0)) (hm2 : ∀ i, 64 ≤ i → Nat.testBit m i = false) : Nat.testBit (stage k m x) j = Nat.testBit x (if j / k % 2 = 0 then j + k else j - k) := by
  unfold stage
  rw [Nat.testBit_or, Nat.testBit_and, Nat.testBit_shiftRight, Nat.testBit_mod_two_pow, Nat.testBit_shiftLeft, Nat.testBit_and, hm j hj]
  have hd : j / k * k ≤ j := Nat.div_mul_le_self j k
  by_cases h : j / k % 2 = 0
  · have : ¬ (k ≤ j ∧ Nat.testBit m (j - k) = true) := fun ⟨h1, h2⟩ => by
      rw [hm (j - k) (by omega)] at h2
      have e : (j - k) / k = j / k - 1 := by rw [Nat.div_eq_sub_div hk h1]; rfl
      have h3 : 0 < j / k := Nat.div_pos h1 hk
      rw [e] at h2
      simp at h2
      omega
    by_cases h1 : k ≤ j
    · have : Nat.testBit m (j - k) = false := by cases hq : Nat.testBit m (j - k) with | false => rfl | true => exact absurd ⟨h1, hq⟩ this
      simp [h, this, Nat.add_comm]
    · simp [h, h1, Nat.add_comm]
  · have h3 : 0 < j / k := by
      rcases Nat.eq_zero_or_pos (j / k) with q | q
      · rw [q] at h; simp at h
      · exact q
    have h1 : k ≤ j := by
      rcases Nat.lt_or_ge j k with q | q
      · rw [Nat.div_eq_of_lt q] at h3; omega
      · exact q
    have e : (j - k) / k = j / k - 1 := by rw [Nat.div_eq_sub_div hk h1]; rfl
    have h4 : (j / k - 1) % 2 = 0 := by omega
    simp [h, h1, hj, hm (j - k) (by omega), e, h4]

/-- All bits of 64, the other way round. -/
def rev64 (x : Nat) : Nat :=
  stage 32 4294967295 (stage 16 281470681808895 (stage 8 71777214294589695 (stage 4 1085102592571150095 (stage 2 3689348814741910323 (stage 1 6148914691236517205 x)))))
theorem rev64_bit (x j : Nat) (hj : j < 64) : Nat.testBit (rev64 x) j = Nat.testBit x (63 - j) := by
  unfold rev64
  have big : ∀ m i : Nat, m < 2 ^ 64 → 64 ≤ i → Nat.testBit m i = false := fun m i hm hi => Nat.testBit_lt_two_pow (Nat.lt_of_lt_of_le hm (Nat.pow_le_pow_right (by decide) hi))
  have b32 : ∀ i, i < 64 → Nat.testBit 4294967295 i = (i / 32 % 2 == 0) := by decide +kernel
  have b16 : ∀ i, i < 64 → Nat.testBit 281470681808895 i = (i / 16 % 2 == 0) := by decide +kernel
  have b8 : ∀ i, i < 64 → Nat.testBit 71777214294589695 i = (i / 8 % 2 == 0) := by decide +kernel
  have b4 : ∀ i, i < 64 → Nat.testBit 1085102592571150095 i = (i / 4 % 2 == 0) := by decide +kernel
  have b2 : ∀ i, i < 64 → Nat.testBit 3689348814741910323 i = (i / 2 % 2 == 0) := by decide +kernel
  have b1 : ∀ i, i < 64 → Nat.testBit 6148914691236517205 i = (i / 1 % 2 == 0) := by decide +kernel
  have step : ∀ k m x j, 0 < k → j < 64 → (∀ i, i < 64 → Nat.testBit m i = (i / k % 2 == 0)) → m < 2 ^ 64 → Nat.testBit (stage k m x) j = Nat.testBit x (if j / k % 2 = 0 then j + k else j - k) := fun k m x j hk hj hm hl => stage_bit hk hj hm (fun i hi => big m i hl hi)
  have t : ∀ j, j < 64 → ∀ k, k = 32 ∨ k = 16 ∨ k = 8 ∨ k = 4 ∨ k = 2 ∨ k = 1 → (if j / k % 2 = 0 then j + k else j - k) < 64 := by
    intro j hj k hk
    rcases hk with rfl | rfl | rfl | rfl | rfl | rfl <;> split <;> omega
  rw [step 32 _ _ j (by decide) hj b32 (by decide)]
  rw [step 16 _ _ _ (by decide) (t _ hj 32 (by simp)) b16 (by decide)]
  rw [step 8 _ _ _ (by decide) (t _ (t _ hj 32 (by simp)) 16 (by simp)) b8 (by decide)]
  rw [step 4 _ _ _ (by decide) (t _ (t _ (t _ hj 32 (by simp)) 16 (by simp)) 8 (by simp)) b4 (by decide)]
  rw [step 2 _ _ _ (by decide) (t _ (t _ (t _ (t _ hj 32 (by simp)) 16 (by simp)) 8 (by simp)) 4 (by simp)) b2 (by decide)]
  rw [step 1 _ _ _ (by decide) (t _ (t _ (t _ (t _ (t _ hj 32 (by simp)) 16 (by simp)) 8 (by simp)) 4 (by simp)) 2 (by simp)) b1 (by decide)]
  have fin : ∀ j, j < 64 → (let a := if j / 32 % 2 = 0 then j + 32 else j - 32; let b := if a / 16 % 2 = 0 then a + 16 else a - 16; let c := if b / 8 % 2 = 0 then b + 8 else b - 8; let d := if c / 4 % 2 = 0 then c + 4 else c - 4; let e := if d / 2 % 2 = 0 then d + 2 else d - 2; if e / 1 % 2 = 0 then e + 1 else e - 1) = 63 - j := by decide +kernel
  rw [show _ = 63 - j from fin j hj]
end Sx
