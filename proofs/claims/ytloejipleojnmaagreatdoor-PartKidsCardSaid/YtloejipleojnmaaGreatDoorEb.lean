/-
  Sx, part 14: literals.
-/
import Derived.Test.YtloejipleojnmaaGreatDoorEa
import Derived.Still
import Derived.Scope
import Derived.LoopN
set_option linter.unusedVariables false
set_option linter.unusedSimpArgs false
set_option linter.unusedVariables false
set_option linter.unusedSimpArgs false
set_option linter.unnecessarySimpa false
namespace Sx
open Go

theorem fold_put (off : Nat) : ∀ (l : List Value) (k : Nat) (cells : Array Value), (l.zipIdx k).foldl (fun cs (p : Value × Nat) => cs.setIfInBounds (off + p.2) p.1) cells = (putL cells.toList (off + k) l).toArray
  | [], k, cells => by simp [putL]
  | v :: l, k, cells => by
    rw [List.zipIdx_cons, List.foldl_cons, fold_put off l (k + 1)]
    simp [putL, Nat.add_assoc]

theorem fill_nil (place : Nat → Option (Nat × Nat)) (cells : Array Value) : Instr.fill place cells [] = some cells := rfl
theorem fill_cons (place : Nat → Option (Nat × Nat)) (cells : Array Value) (i : Nat) (v : Value) (rest : List (Nat × Value)) (off size : Nat) (hp : place i = some (off, size)) (h1 : v.cells.size = size) (h2 : off + v.cells.size ≤ cells.size) :
    Instr.fill place cells ((i, v) :: rest) = Instr.fill place (putL cells.toList off v.cells.toList).toArray rest := by
  have := fold_put off v.cells.toList 0 cells
  simp only [Nat.add_zero] at this
  rw [Instr.fill, hp]
  simp only
  have hn : ¬ (v.cells.size ≠ size ∨ off + v.cells.size > cells.size) := by omega
  rw [if_neg (by simpa using hn)]
  rw [← this]
  congr 1
  rw [← Array.foldl_toList]
  simp [Array.toList_zipIdx]

/-- Pairs of places and values, told. -/
def RelP (E : Env) (w : World) (ok : Nat → Prop) (ρ : Ren) (ps : List (Nat × SV)) (qs : List (Nat × Value)) : Prop :=
  ps.length = qs.length ∧ ∀ (j : Nat) p q, ps[j]? = some p → qs[j]? = some q → p.1 = q.1 ∧ Rel E w ok ρ p.2 q.2

theorem putC_rel {E : Env} {w : World} {ok : Nat → Prop} {ρ : Ren} {cs vs : List SV} {ds us : List Value} (h : RelL E w ok ρ cs ds) (k : RelL E w ok ρ vs us) {o : Nat} (hfit : o + vs.length ≤ cs.length) : RelL E w ok ρ (putC cs o vs) (putL ds o us) := by
  refine ⟨by rw [putC_length, putL_length]; exact h.1, fun j s u hs hu => ?_⟩
  by_cases q1 : j < o
  · rw [putC_lt q1] at hs; rw [putL_lt q1] at hu; exact h.2 j s u hs hu
  · by_cases q2 : o + vs.length ≤ j
    · rw [putC_ge q2] at hs; rw [putL_ge (by rw [← k.1]; exact q2)] at hu; exact h.2 j s u hs hu
    · obtain ⟨i, rfl⟩ : ∃ i, j = o + i := ⟨j - o, by omega⟩
      rw [putC_in hfit (by omega)] at hs
      rw [putL_in (by rw [← h.1, ← k.1]; exact hfit) (by rw [← k.1]; omega)] at hu
      exact k.2 i s u hs hu

/-- A value whose cells are of a place's size, and none of them unknown as a whole. -/
theorem places_sound {E : Env} (hE : EnvOk E) {w : World} {ok : Nat → Prop} {ρ : Ren} (h1 : ∀ id v, ρ id = some v → v.oneCell' = true) {d : TyD} (place : Nat → Option (Nat × Nat))
    (hplace : ∀ i o sz, (match d.d with | .struct fs => (match fs[i]? with | some (o, ft) => (match E.Ty ft with | some df => some (o, df.size) | none => none) | none => none) | .array n e => (match E.Ty e with | some de => bif Nat.blt i n then some (i * de.size, de.size) else none | none => none) | _ => none) = some (o, sz) → place i = some (o, sz)) :
    ∀ (ps : List (Nat × SV)) (l : List (Nat × List SV)) (qs : List (Nat × Value)) (cs : List SV) (cells : Array Value), places E.Ty d ps = some l → RelP E w ok ρ ps qs → RelL E w ok ρ cs cells.toList → cs.length = d.size →
      (∀ p, p ∈ ps → p.2 ≠ .dead ∧ ∀ vs, p.2 ≠ .tup vs) → ∃ cells', Instr.fill place cells qs = some cells' ∧ RelL E w ok ρ (fillC cs l) cells'.toList
  | [], l, qs, cs, cells, h, hq, hr, hl, _ => by
    simp [places] at h; subst h
    have : qs = [] := List.eq_nil_of_length_eq_zero (by have := hq.1; simpa using this.symm)
    subst this
    exact ⟨cells, rfl, hr⟩
  | (i, v) :: ps, l, qs, cs, cells, h, hq, hr, hl, hd => by
    obtain ⟨q, qs', rfl⟩ : ∃ q r, qs = q :: r := by
      have := hq.1
      cases qs with
      | nil => simp at this
      | cons q r => exact ⟨q, r, rfl⟩
    obtain ⟨i', u⟩ := q
    have h0 := hq.2 0 _ _ rfl rfl
    obtain ⟨hi, hru⟩ := h0
    simp only at hi hru
    subst hi
    simp only [places] at h
    split at h
    · rename_i o sz l' ho hl'
      simp only [cond_eq_ite] at h
      split at h
      · rename_i hc
        simp only [Bool.and_eq_true] at hc
        have hsz := Nat.eq_of_beq_eq_true hc.1
        have hfit := Nat.le_of_ble_eq_true hc.2
        cases h
        have hcy : cellish v = true ∨ ∃ cs, v = .agg cs := by
          have := hd (i, v) (by simp)
          cases v <;> first | exact .inl rfl | exact .inr ⟨_, rfl⟩ | skip
          · exact absurd rfl (this.2 _)
          · exact absurd rfl this.1
        have hrl := hru.cells h1 hcy
        have hlu : u.cells.size = sz := by have := hrl.1; rw [hsz] at this; simpa using this.symm
        have hlc : cells.size = d.size := by have := hr.1; rw [hl] at this; simpa using this.symm
        rw [fill_cons place cells i u qs' o sz (hplace i o sz ho) hlu (by omega)]
        exact places_sound hE h1 place hplace ps l' qs' (putC cs o (cellsOf v)) _ hl' ⟨by have := hq.1; simpa using this, fun j p q hp hq' => hq.2 (j + 1) p q (by simpa using hp) (by simpa using hq')⟩ (putC_rel hr hrl (by omega)) (by rw [putC_length]; exact hl)
          (fun p hp => hd p (by simp [hp]))
      · simp at h
    · simp at h

theorem run_sizes {P : Program} {w : World} (gs : Array Field) (h : ∀ g, g ∈ gs.toList → ∃ i, P.info? g.type = some i) : ∃ ps : Array (Nat × Nat), (gs.mapM (fun f => do pure (f.offset, ← Go.sizeOf f.type) : Field → Sem (Nat × Nat))).run P w = .ok ps w ∧ ∀ (j : Nat) g i, gs[j]? = some g → P.info? g.type = some i → ps[j]? = some (g.offset, i.size) := by
  have key : ∀ (l : List Field), (∀ g, g ∈ l → ∃ i, P.info? g.type = some i) → ∃ ps : List (Nat × Nat), (l.mapM (fun f => do pure (f.offset, ← Go.sizeOf f.type) : Field → Sem (Nat × Nat))).run P w = .ok ps w ∧ ∀ (j : Nat) g i, l[j]? = some g → P.info? g.type = some i → ps[j]? = some (g.offset, i.size) := by
    intro l
    induction l with
    | nil => intro _; exact ⟨[], by simp, fun j g i hg => by simp at hg⟩
    | cons g l ih =>
      intro hh
      obtain ⟨i, hi⟩ := hh g (by simp)
      obtain ⟨ps, hps, hget⟩ := ih (fun g hg => hh g (by simp [hg]))
      refine ⟨(g.offset, i.size) :: ps, ?_, fun j g' i' hg hi' => ?_⟩
      · rw [List.mapM_cons]
        simp only [Sem.run_bind, Go.sizeOf, typeInfo, run_program, Result.andThen_ok, hi]
        simp only [Sem.run_pure, Result.andThen_ok]
        simp only [Go.sizeOf, typeInfo] at hps
        rw [hps]; rfl
      · cases j with
        | zero => simp at hg; subst hg; rw [hi] at hi'; cases hi'; rfl
        | succ j => simpa using hget j g' i' (by simpa using hg) hi'
  obtain ⟨ps, hps, hget⟩ := key gs.toList h
  refine ⟨ps.toArray, ?_, fun j g i hg hi => by simpa using hget j g i (by simpa using hg) hi⟩
  rw [Array.mapM_eq_mapM_toList, Sem.run_map, hps]
  rfl

theorem knownP_of : ∀ {ps : List (Nat × SV)}, knownP ps = true → ∀ p, p ∈ ps → p.2 ≠ .dead ∧ ∀ vs, p.2 ≠ .tup vs
  | [], _, p, hp => by simp at hp
  | (i, v) :: ps, h, p, hp => by
    have h2 : v ≠ .dead ∧ (∀ vs, v ≠ .tup vs) ∧ knownP ps = true := by
      cases v <;> simp [knownP] at h <;> exact ⟨by simp, by simp, h⟩
    rcases List.mem_cons.1 hp with rfl | hp
    · exact ⟨h2.1, h2.2.1⟩
    · exact knownP_of h2.2.2 p hp

theorem buildX_sound {E : Env} (hE : EnvOk E) {ρ : Ren} {s : St} {a : Act} {w : World} (hR : R E ρ s a w) {t : TypeId} {ps : List (Nat × SV)} {qs : Array (Nat × Value)} (hq : RelP E w (okB w ρ s.mem) ρ ps qs.toList) {sv : SV} (h : buildX E.Ty t ps = some sv) :
    ∃ v, (Instr.build t qs).run E.P w = .ok v w ∧ Rel E w (okB w ρ s.mem) ρ sv v := by
  unfold buildX at h
  cases hd : E.Ty t with
  | none => simp [hd] at h
  | some d =>
    simp only [hd, cond_eq_ite] at h
    have hT := hE.ty _ _ hd
    split at h
    · rename_i hag
      simp only [Bool.and_eq_true] at hag
      obtain ⟨⟨hag, harr⟩, hkn⟩ := hag
      have hdead := knownP_of hkn
      cases hp : places E.Ty d ps with
      | none => simp [hp] at h
      | some l =>
        simp [hp] at h; subst h
        obtain ⟨i, z, hi, his, hib, hiz, hzs, hzl, hzv⟩ := hT.info
        have hz : RelL E w (okB w ρ s.mem) ρ d.zero z.cells.toList := ⟨by simp [hzl, hzs], fun j s' u hs hu => by
          obtain ⟨u', hv, hu'⟩ := hzv j s' hs
          have : z.cells.toList[j]? = z.cells[j]? := by simp
          rw [this, hu'] at hu; cases hu
          exact rel_valOf hv⟩
        obtain ⟨u, hu, hD⟩ := hT.und
        cases hdd : d.d with
        | struct fs =>
          obtain ⟨gs, rfl, hgs⟩ : ∃ gs, u = .struct gs ∧ gs.toList.map (fun f => (f.offset, f.type)) = fs := by
            rw [hdd] at hD
            cases u <;> simp [DOk] at hD
            exact ⟨_, rfl, hD⟩
          obtain ⟨pl, hpl, hget⟩ := run_sizes (P := E.P) (w := w) gs (hT.flds gs hu)
          obtain ⟨cells', hf, hr⟩ := places_sound hE hR.one (d := d) (fun i => pl[i]?) (fun i o sz ho => by
            rw [hdd] at ho
            simp only at ho
            cases hfi : fs[i]? with
            | none => simp [hfi] at ho
            | some p =>
              obtain ⟨o', ft⟩ := p
              simp only [hfi] at ho
              cases hft : E.Ty ft with
              | none => simp [hft] at ho
              | some df =>
                simp [hft] at ho
                obtain ⟨rfl, rfl⟩ := ho
                obtain ⟨g, hg, rfl, rfl⟩ := fields_at hgs hfi
                obtain ⟨i', _, hi', his', _⟩ := (hE.ty _ _ hft).info
                rw [hget i g i' hg hi', his']) ps l qs.toList d.zero z.cells hp hq hz hzl hdead
          refine ⟨.agg cells', ?_, ?_⟩
          · have hz0 : (zeroValue t).run E.P w = .ok z w := by simp [zeroValue, typeInfo, hi, hiz]
            simp only [Instr.build, Sem.run_bind, hz0, Result.andThen_ok, run_underlying hu]
            rw [hpl]
            simp only [Result.andThen_ok, hf]
            rfl
          · have := Rel.agg (fillC d.zero l) cells'.toList hr.1 hr.2
            simpa using this
        | array n e =>
          obtain rfl : u = .array n e := by
            rw [hdd] at hD
            cases u <;> simp [DOk] at hD
            rw [hD.1, hD.2]
          rw [hdd] at harr
          cases hde : E.Ty e with
          | none => simp [arrOk, hde] at harr
          | some de =>
            obtain ⟨i2, _, hi2, his2, _⟩ := (hE.ty _ _ hde).info
            obtain ⟨cells', hf, hr⟩ := places_sound hE hR.one (d := d) (fun i => some (i * de.size, de.size)) (fun i o sz ho => by
              rw [hdd] at ho
              simp only [hde, cond_eq_ite] at ho
              split at ho
              · exact ho
              · simp at ho) ps l qs.toList d.zero z.cells hp hq hz hzl hdead
            refine ⟨.agg cells', ?_, ?_⟩
            · have hz0 : (zeroValue t).run E.P w = .ok z w := by simp [zeroValue, typeInfo, hi, hiz]
              have hs0 : (Go.sizeOf e).run E.P w = .ok de.size w := by simp [Go.sizeOf, typeInfo, hi2, his2]
              simp only [Instr.build, Sem.run_bind, hz0, Result.andThen_ok, run_underlying hu, hs0, hf]
              rfl
            · have := Rel.agg (fillC d.zero l) cells'.toList hr.1 hr.2
              simpa using this
        | _ => rw [hdd] at hag; simp [D.isAgg] at hag
    · simp at h
end Sx

/-
  Sx, part 15: slice literals.
-/
set_option linter.unusedVariables false
set_option linter.unusedSimpArgs false
set_option linter.unnecessarySimpa false
namespace Sx
open Go

theorem toData_known {Ty : Tys} {ks : List CK} {y : SV} {m : Mem} {p : List SV × Mem} (htd : toData Ty ks (cellsOf y) m = some p) : cellish y = true ∨ ∃ cs, y = .agg cs := by
  cases y <;> first | exact .inl rfl | exact .inr ⟨_, rfl⟩ | skip
  · simp [cellsOf] at htd; cases hdc : ks <;> simp_all [toData, tyC]; rename_i c l; cases c <;> simp_all [toData, tyC]
  · simp [cellsOf] at htd; cases hdc : ks <;> simp_all [toData, tyC]; rename_i c l; cases c <;> simp_all [toData, tyC]

theorem putC_all {l vs : List SV} (h : vs.length = l.length) : putC l 0 vs = vs := by
  apply List.ext_getElem?
  intro j
  by_cases q : j < vs.length
  · have := putC_in (l := l) (o := 0) (vs := vs) (by omega) q
    simpa using this
  · rw [List.getElem?_eq_none (by rw [putC_length]; omega), List.getElem?_eq_none (by omega)]
theorem expFrom_length : ∀ (ks : List CK) (j : Nat) (l : List SV), (expFrom j ks l).length = ks.length
  | [], _, _ => rfl
  | _ :: ks, j, l => by simp [expFrom, expFrom_length ks]

theorem litElems_sound {E : Env} (hE : EnvOk E) {ρ : Ren} {w : World} (h1 : ∀ id v, ρ id = some v → v.oneCell' = true) {e : TypeId} {d : TyD} (hT : TyOk E.P e d) :
    ∀ (ps : List (Nat × SV)) (xs : List SV) (m : Mem) (xs' : List SV) (m' : Mem) (qs : List (Nat × Value)) (cells : Array Value), litElems E.Ty d ps xs m = some (xs', m') → MemOk E w ρ m → RelP E w (okB w ρ m) ρ ps qs →
      RowCells E w (okB w ρ m) d xs cells.toList → cells.size = xs.length * d.size → (∀ u ∈ cells.toList, u.oneCell' = true) →
      ∃ cells', Instr.fill (fun i => some (i * d.size, d.size)) cells qs = some cells' ∧ (∀ id o, m'.get id = some o → m.get id = some o) ∧ RowCells E w (okB w ρ m') d xs' cells'.toList ∧ cells'.size = xs'.length * d.size ∧ xs'.length = xs.length ∧ (∀ u ∈ cells'.toList, u.oneCell' = true)
  | [], xs, m, xs', m', qs, cells, h, hm, hq, hr, hl, ho => by
    simp [litElems] at h
    obtain ⟨rfl, rfl⟩ := h
    have : qs = [] := List.eq_nil_of_length_eq_zero (by have := hq.1; simpa using this.symm)
    subst this
    exact ⟨cells, rfl, fun _ _ x => x, hr, hl, rfl, ho⟩
  | (i, v) :: ps, xs, m, xs', m', qs, cells, h, hm, hq, hr, hl, ho => by
    obtain ⟨q, qs', rfl⟩ : ∃ q r, qs = q :: r := by
      have := hq.1
      cases qs with
      | nil => simp at this
      | cons q r => exact ⟨q, r, rfl⟩
    obtain ⟨i', u⟩ := q
    obtain ⟨hi, hru⟩ := hq.2 0 _ _ rfl rfl
    simp only at hi hru
    subst hi
    simp only [litElems] at h
    cases htd : toData E.Ty d.cells (cellsOf v) m with
    | none => simp [htd] at h
    | some p =>
      obtain ⟨vs, m1⟩ := p
      simp only [htd, cond_eq_ite] at h
      split at h
      · rename_i hlt
        have hi : i < xs.length := by simpa [Nat.blt_eq] using hlt
        have hrl := hru.cells h1 (toData_known htd)
        obtain ⟨hsub, htyv, hlv, hrep⟩ := toData_sound hE d.cells (cellsOf v) m vs m1 htd hm (fun b hb => (own_lt hm hb).1) _ hrl
        have hvl : vs.length = d.size := by rw [← tyCs_length htyv, hT.cells]
        have hus : u.cells.size = d.size := by have := hlv; simp at this; omega
        have hok : ∀ b, okB w ρ m b → okB w ρ m1 b := fun b hb => ⟨hb.1, fun q => hb.2 (q.imp (own_sub hsub) (fun x => x))⟩
        have hin : i * d.size + d.size ≤ xs.length * d.size := by have := mem_lt (sz := d.size) (m := d.size) hi (Nat.le_refl _) hT.pos; exact this
        have hset := (hr.frame (fun _ _ => rfl) hok).set (t := e) (cells := cells.toList) (by simpa using hl) hi (o := 0) (vs := vs) (us := u.cells.toList) (by omega) hlv hT (fun j k s hk hs => by
          rw [Nat.zero_add] at hk
          exact tyCs_get htyv j k s hk hs) hrep
        rw [putC_all (by rw [hvl, expCells, expFrom_length, hT.cells]), Nat.add_zero] at hset
        rw [fill_cons _ cells i u qs' (i * d.size) d.size rfl hus (by omega)]
        have hone : ∀ u' ∈ (putL cells.toList (i * d.size) u.cells.toList), u'.oneCell' = true := by
          intro u' hu'
          obtain ⟨j, hj⟩ := List.getElem?_of_mem hu'
          by_cases q1 : j < i * d.size
          · rw [putL_lt q1] at hj; exact ho u' (List.mem_of_getElem? hj)
          · by_cases q2 : i * d.size + u.cells.toList.length ≤ j
            · rw [putL_ge q2] at hj; exact ho u' (List.mem_of_getElem? hj)
            · obtain ⟨j', rfl⟩ : ∃ i', j = i * d.size + i' := ⟨j - i * d.size, by omega⟩
              rw [putL_in (by simp [hus]; omega) (by omega)] at hj
              have hjl : j' < vs.length := by rw [hlv]; exact (List.getElem?_eq_some_iff.1 hj).1
              exact (hrep j' _ u' (List.getElem?_eq_getElem hjl) hj).one
        obtain ⟨cells', hf, hs', hr', hl', hl2, ho'⟩ := litElems_sound hE h1 hT ps (setAt xs i (ofCells d.d vs)) m1 xs' m' qs' _ h (memLess hm hsub) ⟨by have := hq.1; simpa using this, fun j p q hp hq' =>
            let ⟨x1, x2⟩ := hq.2 (j + 1) p q (by simpa using hp) (by simpa using hq'); ⟨x1, x2.frame (fun _ _ => rfl) hok (fun _ _ x => x)⟩⟩ (by rw [setAt_eq]; simpa using hset) (by simp [putL_length, setAt_length, hl]) (by simpa using hone)
        exact ⟨cells', hf, fun id o hg => hsub id o (hs' id o hg), hr', hl', by rw [hl2, setAt_length], ho'⟩
      · simp at h

theorem lits_eq (n : Nat) (x : SV) : lits n x = List.replicate n x := by
  induction n with
  | zero => rfl
  | succ n ih => simp [lits, ih, List.replicate_succ]

theorem zeros_get {z : Array Value} {k n : Nat} (hk : k < n) (hz : 0 < z.size) : ((Array.range n).map (fun i => z[i % z.size]!)).toList[k]? = z.toList[k % z.size]? := by
  have hm : k % z.size < z.size := Nat.mod_lt _ hz
  simp [hk, hm]
  try rw [Array.getElem!_eq_getD, Array.getD_eq_getD_getElem?]
  try simp [hm]

/-- A slice literal. -/
theorem buildSlice_sound {E : Env} (hE : EnvOk E) {ρ : Ren} {s : St} {a : Act} {w : World} (hR : R E ρ s a w) {t e : TypeId} {dt de : TyD} (ht : E.Ty t = some dt) (htd : dt.d = .slice e) (he : E.Ty e = some de) {z : SV} (hz : zeroData de = some z) {len : Nat} (hlen : Nat.ble (len * de.size) 16777216 = true)
    {ps : List (Nat × SV)} {qs : Array (Nat × Value)} (hq : RelP E w (okB w ρ s.mem) ρ ps qs.toList) {xs : List SV} {m : Mem} (hl : litElems E.Ty de ps (lits len z) s.mem = some (xs, m)) {dst : Option Tmp} {id : Nat} {s' : St} (hf : ({ s with mem := m } : St).fresh dst (.row e xs) = some (id, s')) :
    OpDone E ρ s a w ((do pure (Next.value (← Instr.buildSlice t len qs)) : Sem Next).run E.P w) (.row id) s' := by
  have hlen : len * de.size ≤ 16777216 := by exact Nat.le_of_ble_eq_true hlen
  have hT := hE.ty _ _ he
  obtain ⟨u, hu, hD⟩ := (hE.ty _ _ ht).und
  obtain rfl : u = .slice e := by rw [htd] at hD; cases u <;> simp_all [DOk]
  obtain ⟨i, zv, hi, his, hib, hiz, hzs, hok, hcl, hcell, hone⟩ := zeroData_sound hT hz w (okB w ρ s.mem)
  have hpos := hT.pos
  -- what is there before the parts
  have hRC := zeroRow hT hz w (okB w ρ s.mem) len hzs hcell hok ((Array.range (len * de.size)).map (fun k => zv.cells[k % zv.cells.size]!)).toList (by simp) (fun k hk => by
    rw [zeros_get hk (by rw [hzs]; exact hpos), hzs])
  rw [List.take_of_length_le (by simp)] at hRC
  have hone0 : ∀ u ∈ ((Array.range (len * de.size)).map (fun k => zv.cells[k % zv.cells.size]!)).toList, u.oneCell' = true := by
    intro u hu
    obtain ⟨j, hj⟩ := List.getElem?_of_mem hu
    have hjl : j < len * de.size := by have := (List.getElem?_eq_some_iff.1 hj).1; simpa using this
    rw [zeros_get hjl (by rw [hzs]; exact hpos)] at hj
    exact hone u (List.mem_of_getElem? hj)
  rw [lits_eq] at hl
  obtain ⟨cells', hfill, hsub, hr', hl', hl2, ho'⟩ := litElems_sound hE hR.one hT ps _ s.mem xs m qs.toList _ hl hR.mem hq hRC (by simp) hone0
  rw [List.length_replicate] at hl2
  have hn : cells'.size = len * de.size := by rw [hl', hl2]
  have hcm := hR.newRow hE (m0 := m) hsub (v := .slice (some ⟨w.heap.size, 0, none⟩) len len) (w' := w.alloc (.cells cells' e)) he (cells := cells'.toList) (xs := xs) (fun b hb => by simp [blkOf] at hb; omega) rfl rfl rfl (by simp) (fun b hb _ => Go.RowKit.Below.heap_alloc w _ b hb)
    ⟨by simp [hl'], .inr ⟨w.heap.size, len, cells', (0, 0), by rw [hl2], hE.gn w hR.g, heap_alloc_new w _, .inl rfl, by omega, by
      have : len ≤ len * de.size := Nat.le_mul_of_pos_right _ hpos
      unfold maxLen; omega, hn, by rw [List.take_of_length_le (by simp [hl'])]⟩⟩ ho'
    (hr'.frame (fun _ _ => rfl) (fun b hb => ⟨hb, by have := hb.1; simp [blkOf]; omega⟩)) hf
  refine OpDone.of ?_ hcm
  have hs0 : (Go.sizeOf e).run E.P w = .ok de.size w := by simp [Go.sizeOf, typeInfo, hi, his]
  have hz0 : (zeroValue e).run E.P w = .ok zv w := by simp [zeroValue, typeInfo, hi, hiz]
  rw [Sem.run_bind]
  have : (Instr.buildSlice t len qs).run E.P w = .ok (.slice (some ⟨w.heap.size, 0, none⟩) len len) (w.alloc (.cells cells' e)) := by
    simp only [Instr.buildSlice, Sem.run_bind, run_underlying hu, Result.andThen_ok, hs0]
    rw [if_neg (by omega)]
    by_cases h0 : len * de.size = 0
    · have hlen0 : len = 0 := by rcases Nat.mul_eq_zero.1 h0 with h | h <;> omega
      subst hlen0
      simp only [Nat.zero_mul, if_true, Sem.run_bind, Sem.run_pure, Result.andThen_ok]
      have e1 : ((Array.range 0).map (fun k => zv.cells[k % zv.cells.size]!)) = ((Array.range 0).map (fun k => (#[] : Array Value)[k % (#[] : Array Value).size]!)) := by simp
      rw [Nat.zero_mul] at hfill
      rw [← e1, hfill]
      rfl
    · rw [if_neg h0]
      simp only [Sem.run_bind, hz0, Result.andThen_ok, Sem.run_pure, hfill]
      rfl
  rw [this]; rfl
end Sx

/-
  Sx, part 16: every operation that calls nothing: what the executor says of it is what the machine does.
-/
set_option linter.unusedVariables false
set_option linter.unusedSimpArgs false
set_option linter.unnecessarySimpa false
namespace Sx
open Go

section
variable {E : Env} {ρ : Ren} {s : St} {a : Act} {w : World}

theorem op_val (hR : R E ρ s a w) {X : Sem Value} {sv : SV} (h : ∃ v, X.run E.P w = .ok v w ∧ Rel E w (okB w ρ s.mem) ρ sv v) : OpDone E ρ s a w ((do pure (Next.value (← X)) : Sem Next).run E.P w) sv s := by
  obtain ⟨v, hr, hv⟩ := h
  exact OpDone.pure hR hv (by rw [Sem.run_bind, hr]; rfl)

theorem evls_eq (sl : List SV) : ∀ l : List Operand, evls sl l = l.map (evl sl)
  | [] => rfl
  | x :: l => by simp [evls, evls_eq sl l]
theorem evlp_eq (sl : List SV) : ∀ l : List (Nat × Operand), evlp sl l = l.map (fun p => (p.1, evl sl p.2))
  | [] => rfl
  | (i, x) :: l => by simp [evlp, evlp_eq sl l]

theorem R.evals (hR : R E ρ s a w) (l : List Operand) : RelL E w (okB w ρ s.mem) ρ (evls s.slots l) (l.map a.eval) := by
  rw [evls_eq]
  refine ⟨by simp, fun j s' u hs hu => ?_⟩
  rw [List.getElem?_map] at hs hu
  cases hj : l[j]? with
  | none => simp [hj] at hs
  | some x => simp [hj] at hs hu; subst hs; subst hu; exact hR.eval x
theorem R.evalp (hR : R E ρ s a w) (l : List (Nat × Operand)) : RelP E w (okB w ρ s.mem) ρ (evlp s.slots l) (l.map (fun p => (p.1, a.eval p.2))) := by
  rw [evlp_eq]
  refine ⟨by simp, fun j p q hp hq => ?_⟩
  rw [List.getElem?_map] at hp hq
  cases hj : l[j]? with
  | none => simp [hj] at hp
  | some x => simp [hj] at hp hq; subst hp; subst hq; exact ⟨rfl, hR.eval x.2⟩

theorem run_part {E : Env} {t : TypeId} {d : TyD} (h : TyOk E.P t d) {w : World} {vs : List Value} {o : Nat} (hl : o + d.size ≤ vs.length) : (part t vs.toArray o).run E.P w = .ok (if d.d.isAgg then .agg ((vs.drop o).take d.size).toArray else ((vs.drop o).take d.size).headD undef) w := by
  obtain ⟨u, hu, hD⟩ := h.und
  obtain ⟨i, z, hi, hs, _⟩ := h.info
  have hag : (isAgg t).run E.P w = .ok d.d.isAgg w := by
    simp only [isAgg, Sem.run_bind, run_underlying hu, Result.andThen_ok]
    cases hd : d.d <;> cases u <;> simp_all [DOk, D.isAgg]
  simp only [part, Sem.run_bind, hag, Result.andThen_ok]
  cases hd : d.d.isAgg with
  | true =>
    simp [Go.sizeOf, typeInfo, hi, hs]
  | false =>
    have h1 := h.one hd
    have ho : vs[o]? = some vs[o] := List.getElem?_eq_getElem (by omega)
    have e1 : (vs.drop o).take 1 = [vs[o]] := by
      rw [List.drop_eq_getElem_cons (by omega)]; rfl
    rw [h1, e1]
    simp [ho]

theorem run_newVar {P : Program} (t : TypeId) (v : Value) (w : World) : (newVar t v).run P w = .ok ⟨w.heap.size, 0, none⟩ (w.alloc (.cells v.cells t)) := rfl

theorem op_move (hE : EnvOk E) (hR : R E ρ s a w) {dst : Option Tmp} {ty : TypeId} {pos : String} {after : Array Edge} {guard : Option (Nat × Bool)} {x : Operand} {sv : SV} {s' : St} (h : opX E.Ty ⟨dst, .move x, ty, pos, after, guard⟩ s = some (true, sv, s')) : OpDone E ρ s a w ((execOp a.eval ⟨dst, .move x, ty, pos, after, guard⟩).run E.P w) sv s' := by
  simp only [opX, Option.some.injEq, Prod.mk.injEq, true_and] at h
  obtain ⟨rfl, rfl⟩ := h
  exact OpDone.pure hR (hR.eval x) rfl

theorem op_assign (hE : EnvOk E) (hR : R E ρ s a w) {dst : Option Tmp} {ty : TypeId} {pos : String} {after : Array Edge} {guard : Option (Nat × Bool)} {x : Operand} {sv : SV} {s' : St} (h : opX E.Ty ⟨dst, .assign x, ty, pos, after, guard⟩ s = some (true, sv, s')) : OpDone E ρ s a w ((execOp a.eval ⟨dst, .assign x, ty, pos, after, guard⟩).run E.P w) sv s' := by
  simp only [opX, Option.some.injEq, Prod.mk.injEq, true_and] at h
  obtain ⟨rfl, rfl⟩ := h
  exact OpDone.pure hR (hR.eval x) rfl

theorem op_alloc (hE : EnvOk E) (hR : R E ρ s a w) {dst : Option Tmp} {ty : TypeId} {pos : String} {after : Array Edge} {guard : Option (Nat × Bool)} {t : TypeId} {sv : SV} {s' : St} (h : opX E.Ty ⟨dst, .alloc t, ty, pos, after, guard⟩ s = some (true, sv, s')) : OpDone E ρ s a w ((execOp a.eval ⟨dst, .alloc t, ty, pos, after, guard⟩).run E.P w) sv s' := by
  simp only [opX] at h
  cases hd : E.Ty t with
  | none => simp [hd] at h
  | some d =>
    simp only [hd] at h
    cases hf : s.fresh dst (.box t d.zero) with
    | none => simp [hf] at h
    | some p =>
      obtain ⟨id, s2⟩ := p
      simp [hf] at h
      obtain ⟨rfl, rfl⟩ := h
      have hT := hE.ty _ _ hd
      obtain ⟨i, z, hi, his, hib, hiz, hzs, hzl, hzv⟩ := hT.info
      have hz : RelL E w (okB w ρ s.mem) ρ d.zero z.cells.toList := ⟨by simp [hzl, hzs], fun j s' u hs hu => by
        obtain ⟨u', hv, hu'⟩ := hzv j s' hs
        have : z.cells.toList[j]? = z.cells[j]? := by simp
        rw [this, hu'] at hu; cases hu
        exact rel_valOf hv⟩
      have hcm := hR.newBox hE hd hT.tyz hz hf
      refine OpDone.of ?_ hcm
      have hz0 : (zeroValue t).run E.P w = .ok z w := by simp [zeroValue, typeInfo, hi, hiz]
      simp only [execOp, Instr.alloc, Sem.run_bind, hz0, Result.andThen_ok, run_newVar]
      simp

theorem op_box (hE : EnvOk E) (hR : R E ρ s a w) {dst : Option Tmp} {ty : TypeId} {pos : String} {after : Array Edge} {guard : Option (Nat × Bool)} {t : TypeId} {x : Operand} {sv : SV} {s' : St} (h : opX E.Ty ⟨dst, .box t x, ty, pos, after, guard⟩ s = some (true, sv, s')) : OpDone E ρ s a w ((execOp a.eval ⟨dst, .box t x, ty, pos, after, guard⟩).run E.P w) sv s' := by
  simp only [opX] at h
  cases hd : E.Ty t with
  | none => simp [hd] at h
  | some d =>
    simp only [hd, cond_eq_ite] at h
    split at h
    · rename_i hty
      cases hf : s.fresh dst (.box t (cellsOf (evl s.slots x))) with
      | none => simp [hf] at h
      | some p =>
        obtain ⟨id, s2⟩ := p
        simp [hf] at h
        obtain ⟨rfl, rfl⟩ := h
        have hcm := hR.newBox hE hd hty (rel_cells hR.one (hR.eval x) hty) hf
        refine OpDone.of ?_ hcm
        simp only [execOp, Instr.box, Sem.run_bind, Result.andThen_ok, run_newVar]
        simp
    · simp at h

theorem op_build (hE : EnvOk E) (hR : R E ρ s a w) {dst : Option Tmp} {ty : TypeId} {pos : String} {after : Array Edge} {guard : Option (Nat × Bool)} {t : TypeId} {parts : Array (Nat × Operand)} {sv : SV} {s' : St} (h : opX E.Ty ⟨dst, .build t parts, ty, pos, after, guard⟩ s = some (true, sv, s')) : OpDone E ρ s a w ((execOp a.eval ⟨dst, .build t parts, ty, pos, after, guard⟩).run E.P w) sv s' := by
  simp only [opX] at h
  cases hb : buildX E.Ty t (evlp s.slots parts.toList) with
  | none => simp [hb] at h
  | some v =>
    simp [hb] at h
    obtain ⟨rfl, rfl⟩ := h
    have hq := hR.evalp parts.toList
    have := buildX_sound hE hR (qs := parts.map fun (i, x) => (i, a.eval x)) (by simpa using hq) hb
    exact op_val hR this

theorem op_buildSlice (hE : EnvOk E) (hR : R E ρ s a w) {dst : Option Tmp} {ty : TypeId} {pos : String} {after : Array Edge} {guard : Option (Nat × Bool)} {t : TypeId} {len : Nat} {parts : Array (Nat × Operand)} {sv : SV} {s' : St} (h : opX E.Ty ⟨dst, .buildSlice t len parts, ty, pos, after, guard⟩ s = some (true, sv, s')) : OpDone E ρ s a w ((execOp a.eval ⟨dst, .buildSlice t len parts, ty, pos, after, guard⟩).run E.P w) sv s' := by
  simp only [opX] at h
  split at h
  · rename_i e _ _ _ _ _ ht
    cases he : E.Ty e with
    | none => simp [he] at h
    | some de =>
      simp only [he] at h
      cases hz : zeroData de with
      | none => simp [hz] at h
      | some z =>
        simp only [hz, cond_eq_ite] at h
        split at h
        · rename_i hle
          generalize hzs : lits len z = zs at h
          cases hl : litElems E.Ty de (evlp s.slots parts.toList) zs s.mem with
          | none => simp [hl] at h
          | some p =>
            obtain ⟨xs, m⟩ := p
            simp only [hl] at h
            cases hf : ({ s with mem := m } : St).fresh dst (.row e xs) with
            | none => simp [hf] at h
            | some p =>
              obtain ⟨id, s2⟩ := p
              simp [hf] at h
              obtain ⟨rfl, rfl⟩ := h
              have hq := hR.evalp parts.toList
              subst hzs
              unfold execOp
              refine buildSlice_sound hE hR ht rfl he hz hle ?_ hl hf
              rw [Array.toList_map]; exact hq
        · simp at h
  · simp at h

theorem op_load (hE : EnvOk E) (hR : R E ρ s a w) {dst : Option Tmp} {ty : TypeId} {pos : String} {after : Array Edge} {guard : Option (Nat × Bool)} {t : TypeId} {x : Operand} {sv : SV} {s' : St} (h : opX E.Ty ⟨dst, .load t x, ty, pos, after, guard⟩ s = some (true, sv, s')) : OpDone E ρ s a w ((execOp a.eval ⟨dst, .load t x, ty, pos, after, guard⟩).run E.P w) sv s' := by
  simp only [opX] at h
  cases hb : loadX E.Ty t (evl s.slots x) s with
  | none => simp [hb] at h
  | some v =>
    simp [hb] at h
    obtain ⟨rfl, rfl⟩ := h
    exact op_val hR (loadX_sound hE hR (hR.eval x) hb)

theorem op_store (hE : EnvOk E) (hR : R E ρ s a w) {dst : Option Tmp} {ty : TypeId} {pos : String} {after : Array Edge} {guard : Option (Nat × Bool)} {t : TypeId} {x y : Operand} {sv : SV} {s' : St} (h : opX E.Ty ⟨dst, .store t x y, ty, pos, after, guard⟩ s = some (true, sv, s')) : OpDone E ρ s a w ((execOp a.eval ⟨dst, .store t x y, ty, pos, after, guard⟩).run E.P w) sv s' := by
  simp only [opX] at h
  cases hb : storeX E.Ty t (evl s.slots x) (evl s.slots y) s with
  | none => simp [hb] at h
  | some v =>
    simp [hb] at h
    obtain ⟨rfl, rfl⟩ := h
    exact storeX_sound hE hR (hR.eval x) (hR.eval y) hb

theorem op_nilCheck (hE : EnvOk E) (hR : R E ρ s a w) {dst : Option Tmp} {ty : TypeId} {pos : String} {after : Array Edge} {guard : Option (Nat × Bool)} {x : Operand} {sv : SV} {s' : St} (h : opX E.Ty ⟨dst, .nilCheck x, ty, pos, after, guard⟩ s = some (true, sv, s')) : OpDone E ρ s a w ((execOp a.eval ⟨dst, .nilCheck x, ty, pos, after, guard⟩).run E.P w) sv s' := by
  simp only [opX] at h
  have hv := hR.eval x
  split at h
  · rename_i id off hx
    cases h
    rw [hx] at hv
    obtain ⟨b, _, he⟩ := inv_box hv
    refine OpDone.pure hR hv ?_
    simp only [execOp, he]; rfl
  · rename_i id sz i off hx
    cases h
    rw [hx] at hv
    obtain ⟨b, n, c, _, _, he⟩ := inv_elt hv
    refine OpDone.pure hR hv ?_
    simp only [execOp, he]; rfl
  · rename_i cs hx
    cases h
    rw [hx] at hv
    obtain ⟨b, n, he, _⟩ := inv_adr hv
    refine OpDone.pure hR hv ?_
    simp only [execOp, he]; rfl
  · simp at h

theorem op_binOp (hE : EnvOk E) (hR : R E ρ s a w) {dst : Option Tmp} {ty : TypeId} {pos : String} {after : Array Edge} {guard : Option (Nat × Bool)} {op : BinOp} {xt : TypeId} {x y : Operand} {yt : TypeId} {sv : SV} {s' : St} (h : opX E.Ty ⟨dst, .binOp op xt x y yt, ty, pos, after, guard⟩ s = some (true, sv, s')) : OpDone E ρ s a w ((execOp a.eval ⟨dst, .binOp op xt x y yt, ty, pos, after, guard⟩).run E.P w) sv s' := by
  simp only [opX] at h
  cases hb : binX E.Ty op xt (evl s.slots x) (evl s.slots y) with
  | none => simp [hb] at h
  | some v =>
    obtain ⟨b, v⟩ := v
    simp [hb] at h
    obtain ⟨rfl, rfl, rfl⟩ := h
    exact op_val hR (binX_sound hE (hR.eval x) (hR.eval y) hb x y)

theorem op_unOp (hE : EnvOk E) (hR : R E ρ s a w) {dst : Option Tmp} {ty : TypeId} {pos : String} {after : Array Edge} {guard : Option (Nat × Bool)} {op : UnOp} {t : TypeId} {x : Operand} {sv : SV} {s' : St} (h : opX E.Ty ⟨dst, .unOp op t x, ty, pos, after, guard⟩ s = some (true, sv, s')) : OpDone E ρ s a w ((execOp a.eval ⟨dst, .unOp op t x, ty, pos, after, guard⟩).run E.P w) sv s' := by
  simp only [opX] at h
  have hv := hR.eval x
  split at h
  · rename_i k n hx
    cases h
    rw [hx] at hv
    obtain he := inv_int hv
    refine OpDone.pure hR (rel_int _ _) ?_
    simp [execOp, he, Op.unary, Op.intArith]
  · rename_i k n hx
    cases h
    rw [hx] at hv
    obtain he := inv_int hv
    refine OpDone.pure hR (rel_int _ _) ?_
    simp [execOp, he, Op.unary, Op.intBits, ibits]
  · rename_i k hx
    cases h
    rw [hx] at hv
    obtain he := inv_bool hv
    refine OpDone.pure hR (rel_bool _) ?_
    simp [execOp, he, Op.unary]
  · simp at h

theorem op_convert (hE : EnvOk E) (hR : R E ρ s a w) {dst : Option Tmp} {ty : TypeId} {pos : String} {after : Array Edge} {guard : Option (Nat × Bool)} {src dst' : TypeId} {x : Operand} {sv : SV} {s' : St} (h : opX E.Ty ⟨dst, .convert src dst' x, ty, pos, after, guard⟩ s = some (true, sv, s')) : OpDone E ρ s a w ((execOp a.eval ⟨dst, .convert src dst' x, ty, pos, after, guard⟩).run E.P w) sv s' := by
  simp only [opX] at h
  exact convX_sound hE hR (hR.eval x) h

theorem op_fieldAddr (hE : EnvOk E) (hR : R E ρ s a w) {dst : Option Tmp} {ty : TypeId} {pos : String} {after : Array Edge} {guard : Option (Nat × Bool)} {xt : TypeId} {x : Operand} {f : Nat} {sv : SV} {s' : St} (h : opX E.Ty ⟨dst, .fieldAddr xt x f, ty, pos, after, guard⟩ s = some (true, sv, s')) : OpDone E ρ s a w ((execOp a.eval ⟨dst, .fieldAddr xt x f, ty, pos, after, guard⟩).run E.P w) sv s' := by
  simp only [opX] at h
  cases hb : fieldX E.Ty xt (evl s.slots x) f with
  | none => simp [hb] at h
  | some v =>
    simp [hb] at h
    obtain ⟨rfl, rfl⟩ := h
    exact op_val hR (fieldX_sound hE hR (hR.eval x) hb)

theorem op_field (hE : EnvOk E) (hR : R E ρ s a w) {dst : Option Tmp} {ty : TypeId} {pos : String} {after : Array Edge} {guard : Option (Nat × Bool)} {xt : TypeId} {x : Operand} {f : Nat} {sv : SV} {s' : St} (h : opX E.Ty ⟨dst, .field xt x f, ty, pos, after, guard⟩ s = some (true, sv, s')) : OpDone E ρ s a w ((execOp a.eval ⟨dst, .field xt x f, ty, pos, after, guard⟩).run E.P w) sv s' := by
  simp only [opX] at h
  have hv := hR.eval x
  split at h
  · rename_i fs _ _ _ _ _ cs ht hx
    rw [hx] at hv
    obtain ⟨vs, he, hl, hr⟩ := inv_agg hv
    cases hf : fs[f]? with
    | none => simp [hf] at h
    | some p =>
      obtain ⟨off, ft⟩ := p
      simp only [hf] at h
      cases hdf : E.Ty ft with
      | none => simp [hdf] at h
      | some df =>
        simp only [hdf, cond_eq_ite] at h
        split at h
        · rename_i hle
          have hle := Nat.le_of_ble_eq_true hle
          cases h
          obtain ⟨u, hu, hD⟩ := (hE.ty _ _ ht).und
          obtain ⟨gs, rfl, hgs⟩ : ∃ gs, u = .struct gs ∧ gs.toList.map (fun f => (f.offset, f.type)) = fs := by
            cases u <;> simp [DOk] at hD
            exact ⟨_, rfl, hD⟩
          obtain ⟨g, hg, rfl, rfl⟩ := fields_at hgs hf
          have hT := hE.ty _ _ hdf
          obtain ⟨i, z, hi, his, _⟩ := hT.info
          refine op_val hR ?_
          have hrel := rel_ofCells (E := E) (w := w) (ok := okB w ρ s.mem) (ρ := ρ) hT (cs := pick g.offset df.size cs) (vs := (vs.drop g.offset).take df.size) (pick_length _ _ _) (length_dt (by omega)) (fun j s' u hs hu => by
            have hj : j < df.size := by have := (List.getElem?_eq_some_iff.1 hs).1; rw [pick_length] at this; exact this
            rw [pick_get _ _ _ _ hj] at hs
            rw [getElem?_dt _ _ _ _ hj] at hu
            have hc : cs[g.offset + j]? = some cs[g.offset + j] := List.getElem?_eq_getElem (by omega)
            rw [getAt_some hc] at hs
            cases hs
            exact hr _ _ u hc hu)
          refine ⟨_, ?_, hrel⟩
          simp only [Instr.field, Sem.run_bind, run_underlying hu, Result.andThen_ok, hg, he, asAgg, Sem.run_pure]
          exact run_part hT (by omega)
        · simp at h
  · simp at h

theorem op_indexAddr (hE : EnvOk E) (hR : R E ρ s a w) {dst : Option Tmp} {ty : TypeId} {pos : String} {after : Array Edge} {guard : Option (Nat × Bool)} {t : TypeId} {x i : Operand} {sv : SV} {s' : St} (h : opX E.Ty ⟨dst, .indexAddr t x i, ty, pos, after, guard⟩ s = some (true, sv, s')) : OpDone E ρ s a w ((execOp a.eval ⟨dst, .indexAddr t x i, ty, pos, after, guard⟩).run E.P w) sv s' := by
  simp only [opX] at h
  cases hb : indexAddrX E.Ty t (evl s.slots x) (evl s.slots i) s with
  | none => simp [hb] at h
  | some v =>
    obtain ⟨b, v⟩ := v
    simp [hb] at h
    obtain ⟨rfl, rfl, rfl⟩ := h
    exact op_val hR (indexAddrX_sound hE hR (hR.eval x) (hR.eval i) hb)

theorem op_index (hE : EnvOk E) (hR : R E ρ s a w) {dst : Option Tmp} {ty : TypeId} {pos : String} {after : Array Edge} {guard : Option (Nat × Bool)} {t : TypeId} {x i : Operand} {sv : SV} {s' : St} (h : opX E.Ty ⟨dst, .index t x i, ty, pos, after, guard⟩ s = some (true, sv, s')) : OpDone E ρ s a w ((execOp a.eval ⟨dst, .index t x i, ty, pos, after, guard⟩).run E.P w) sv s' := by
  simp only [opX] at h
  cases hb : indexX E.Ty t (evl s.slots x) (evl s.slots i) with
  | none => simp [hb] at h
  | some v =>
    obtain ⟨b, v⟩ := v
    simp [hb] at h
    obtain ⟨rfl, rfl, rfl⟩ := h
    exact op_val hR (indexX_sound hE (hR.eval x) (hR.eval i) hb hR.one)

theorem op_slice (hE : EnvOk E) (hR : R E ρ s a w) {dst : Option Tmp} {ty : TypeId} {pos : String} {after : Array Edge} {guard : Option (Nat × Bool)} {t : TypeId} {x : Operand} {lo hi mx : Option Operand} {sv : SV} {s' : St} (h : opX E.Ty ⟨dst, .slice t x lo hi mx, ty, pos, after, guard⟩ s = some (true, sv, s')) : OpDone E ρ s a w ((execOp a.eval ⟨dst, .slice t x lo hi mx, ty, pos, after, guard⟩).run E.P w) sv s' := by
  simp only [opX] at h
  cases mx with
  | some _ => simp at h
  | none =>
    refine sliceX_sound hE hR (hR.eval x) (vlo := lo.map a.eval) (vhi := hi.map a.eval) ?_ ?_ ?_ ?_ h
    · intro y hy; cases lo with
      | none => simp [evlo] at hy
      | some l => simp [evlo] at hy; subst hy; exact ⟨_, rfl, hR.eval l⟩
    · intro hy; cases lo with
      | none => rfl
      | some l => simp [evlo] at hy
    · intro y hy; cases hi with
      | none => simp [evlo] at hy
      | some l => simp [evlo] at hy; subst hy; exact ⟨_, rfl, hR.eval l⟩
    · intro hy; cases hi with
      | none => rfl
      | some l => simp [evlo] at hy

theorem op_extract (hE : EnvOk E) (hR : R E ρ s a w) {dst : Option Tmp} {ty : TypeId} {pos : String} {after : Array Edge} {guard : Option (Nat × Bool)} {x : Operand} {i : Nat} {sv : SV} {s' : St} (h : opX E.Ty ⟨dst, .extract x i, ty, pos, after, guard⟩ s = some (true, sv, s')) : OpDone E ρ s a w ((execOp a.eval ⟨dst, .extract x i, ty, pos, after, guard⟩).run E.P w) sv s' := by
  simp only [opX] at h
  have hv := hR.eval x
  split at h
  · rename_i vs hx
    rw [hx] at hv
    obtain ⟨us, he, hl, hr⟩ := inv_tup hv
    split at h
    · rename_i v hvs
      cases h
      have hi : i < us.length := by rw [← hl]; exact (List.getElem?_eq_some_iff.1 hvs).1
      refine OpDone.pure hR (hr i sv us[i] hvs (List.getElem?_eq_getElem hi)) ?_
      simp [execOp, he, Instr.extract, hi]
    · simp at h
  · simp at h

theorem op_makeSlice (hE : EnvOk E) (hR : R E ρ s a w) {dst : Option Tmp} {ty : TypeId} {pos : String} {after : Array Edge} {guard : Option (Nat × Bool)} {t : TypeId} {x y : Operand} {sv : SV} {s' : St} (h : opX E.Ty ⟨dst, .makeSlice t x y, ty, pos, after, guard⟩ s = some (true, sv, s')) : OpDone E ρ s a w ((execOp a.eval ⟨dst, .makeSlice t x y, ty, pos, after, guard⟩).run E.P w) sv s' := by
  simp only [opX] at h
  exact makeX_sound hE hR (hR.eval x) (hR.eval y) h

theorem op_makeFunc (hE : EnvOk E) (hR : R E ρ s a w) {dst : Option Tmp} {ty : TypeId} {pos : String} {after : Array Edge} {guard : Option (Nat × Bool)} {fn : Fn} {first captured : Array Operand} {sv : SV} {s' : St} (h : opX E.Ty ⟨dst, .makeFunc fn first captured, ty, pos, after, guard⟩ s = some (true, sv, s')) : OpDone E ρ s a w ((execOp a.eval ⟨dst, .makeFunc fn first captured, ty, pos, after, guard⟩).run E.P w) sv s' := by
  simp only [opX] at h
  cases h
  have h1 := hR.evals first.toList
  have h2 := hR.evals captured.toList
  refine OpDone.pure hR (v := .func fn (first.toList.map a.eval).toArray (captured.toList.map a.eval).toArray) (.fn fn _ _ _ _ h1.1 h2.1 h1.2 h2.2) ?_
  simp [execOp, Instr.makeFunc]
  constructor <;> apply Array.ext' <;> simp

theorem len_sound (hE : EnvOk E) (hR : R E ρ s a w) {t : TypeId} {x : SV} {vx : Value} (hx : Rel E w (okB w ρ s.mem) ρ x vx) {sv : SV} (h : lenX E.Ty t s.mem x = some sv) (ty : TypeId) : ∃ v, (Builtin.len_ #[t] ty #[vx]).run E.P w = .ok v w ∧ Rel E w (okB w ρ s.mem) ρ sv v := by
  unfold lenX at h
  split at h
  · rename_i u ht
    cases h
    obtain ⟨u', hu, hD⟩ := (hE.ty _ _ ht).und
    obtain rfl : u' = .string := by cases u' <;> simp_all [DOk]
    obtain rfl := inv_str hx
    exact ⟨_, by simp [Builtin.len_, run_underlying hu, goInt], rel_int _ _⟩
  · rename_i e _ _ _ _ _ ht
    obtain ⟨u', hu, hD⟩ := (hE.ty _ _ ht).und
    obtain ⟨e, rfl⟩ : ∃ e, u' = .slice e := by cases u' <;> simp_all [DOk]
    split at h
    · rename_i xs hl
      cases h
      obtain ⟨A, c, rfl⟩ := elems_len hR.mem hx hl
      exact ⟨_, by simp [Builtin.len_, run_underlying hu, goInt], rel_int _ _⟩
    · cases h
  · simp at h

theorem op_len (hE : EnvOk E) (hR : R E ρ s a w) {dst : Option Tmp} {ty : TypeId} {pos : String} {after : Array Edge} {guard : Option (Nat × Bool)} {args : Array Operand} {ts : Array TypeId} {sv : SV} {s' : St} (h : opX E.Ty ⟨dst, .call ⟨.builtin .len, args, ts⟩, ty, pos, after, guard⟩ s = some (true, sv, s')) : OpDone E ρ s a w ((execOp a.eval ⟨dst, .call ⟨.builtin .len, args, ts⟩, ty, pos, after, guard⟩).run E.P w) sv s' := by
  simp only [opX] at h
  split at h
  · rename_i x t hx ht
    have hx : args = #[x] := by apply Array.ext'; simpa using hx
    have ht : ts = #[t] := by apply Array.ext'; simpa using ht
    subst hx; subst ht
    cases hb : lenX E.Ty t s.mem (evl s.slots x) with
    | none => simp [hb] at h
    | some r =>
      simp [hb] at h
      obtain ⟨rfl, rfl⟩ := h
      obtain ⟨v, hv, hr⟩ := len_sound hE hR (hR.eval x) hb ty
      refine OpDone.pure hR hr ?_
      simp [execOp, resolve, invoke, builtin, hv]
  · simp at h


theorem op_copy (hE : EnvOk E) (hR : R E ρ s a w) {dst : Option Tmp} {ty : TypeId} {pos : String} {after : Array Edge} {guard : Option (Nat × Bool)} {args : Array Operand} {ts : Array TypeId} {sv : SV} {s' : St} (h : opX E.Ty ⟨dst, .call ⟨.builtin .copy, args, ts⟩, ty, pos, after, guard⟩ s = some (true, sv, s')) : OpDone E ρ s a w ((execOp a.eval ⟨dst, .call ⟨.builtin .copy, args, ts⟩, ty, pos, after, guard⟩).run E.P w) sv s' := by
  simp only [opX] at h
  split at h
  · rename_i x y t t' hx ht
    have hx : args = #[x, y] := by apply Array.ext'; simpa using hx
    have ht : ts = #[t, t'] := by apply Array.ext'; simpa using ht
    subst hx; subst ht
    have := copyX_sound (t' := t') (ty := ty) hE hR (hR.eval x) (hR.eval y) h
    have e : (execOp a.eval ⟨dst, .call ⟨.builtin .copy, #[x, y], #[t, t']⟩, ty, pos, after, guard⟩).run E.P w = ((do let v ← Builtin.copy_ #[t, t'] ty #[a.eval x, a.eval y]; return Next.value v : Sem Next).run E.P w) := by
      simp [execOp, resolve, invoke, builtin]
    rw [e]; exact this
  · simp at h

theorem op_append (hE : EnvOk E) (hR : R E ρ s a w) {dst : Option Tmp} {ty : TypeId} {pos : String} {after : Array Edge} {guard : Option (Nat × Bool)} {args : Array Operand} {ts : Array TypeId} {sv : SV} {s' : St} (h : opX E.Ty ⟨dst, .call ⟨.builtin .append, args, ts⟩, ty, pos, after, guard⟩ s = some (true, sv, s')) : OpDone E ρ s a w ((execOp a.eval ⟨dst, .call ⟨.builtin .append, args, ts⟩, ty, pos, after, guard⟩).run E.P w) sv s' := by
  simp only [opX] at h
  split at h
  · rename_i x y t t' hx ht
    have hx : args = #[x, y] := by apply Array.ext'; simpa using hx
    have ht : ts = #[t, t'] := by apply Array.ext'; simpa using ht
    subst hx; subst ht
    have key : ∀ u, E.P.underlying t' = some u → (∀ k, u ≠ .int k) → appendX E.Ty t (evl s.slots x) (evl s.slots y) dst s = some (true, sv, s') → OpDone E ρ s a w ((execOp a.eval ⟨dst, .call ⟨.builtin .append, #[x, y], #[t, t']⟩, ty, pos, after, guard⟩).run E.P w) sv s' := by
      intro u hu hni hh
      have := appendX_sound (ty := ty) hE hR (hR.eval x) (hR.eval y) u hu hni hh
      have e : (execOp a.eval ⟨dst, .call ⟨.builtin .append, #[x, y], #[t, t']⟩, ty, pos, after, guard⟩).run E.P w = ((do let v ← Builtin.append_ #[t, t'] ty #[a.eval x, a.eval y]; return Next.value v : Sem Next).run E.P w) := by
        simp [execOp, resolve, invoke, builtin]
      rw [e]; exact this
    split at h
    · rename_i e _ _ _ _ _ ht
      obtain ⟨u, hu, hD⟩ := (hE.ty _ _ ht).und
      refine key u hu (fun k hk => ?_) h
      subst hk; simp [DOk] at hD
    · rename_i _ _ _ _ _ ht
      obtain ⟨u, hu, hD⟩ := (hE.ty _ _ ht).und
      refine key u hu (fun k hk => ?_) h
      subst hk; simp [DOk] at hD
    · simp at h
  · simp at h


theorem op_min (hE : EnvOk E) (hR : R E ρ s a w) {dst : Option Tmp} {ty : TypeId} {pos : String} {after : Array Edge} {guard : Option (Nat × Bool)} {args : Array Operand} {ts : Array TypeId} {sv : SV} {s' : St} (h : opX E.Ty ⟨dst, .call ⟨.builtin .min, args, ts⟩, ty, pos, after, guard⟩ s = some (true, sv, s')) : OpDone E ρ s a w ((execOp a.eval ⟨dst, .call ⟨.builtin .min, args, ts⟩, ty, pos, after, guard⟩).run E.P w) sv s' := by
  simp only [opX] at h
  have hr := hR.evals args.toList
  split at h
  · rename_i k x k' y hx
    simp only [cond_eq_ite] at h
    split at h
    · rename_i hk
      have hk : k = k' := by simpa using hk
      subst hk
      rw [hx] at hr
      cases h
      have hl : (args.toList.map a.eval).length = 2 := hr.1.symm
      obtain ⟨u, v, huv⟩ : ∃ u v, args.toList.map a.eval = [u, v] := by
        match args.toList.map a.eval, hl with
        | [u, v], _ => exact ⟨u, v, rfl⟩
      rw [huv] at hr
      obtain rfl := inv_int (hr.2 0 _ _ rfl rfl)
      obtain rfl := inv_int (hr.2 1 _ _ rfl rfl)
      have hm : args.map a.eval = #[.int k x, .int k y] := by apply Array.ext'; simpa using huv
      refine OpDone.pure hR (rel_int _ _) ?_
      simp only [execOp, resolve, invoke, builtin, hm]
      simp [Builtin.min_, List.foldlM, Builtin.min2]
    · simp at h
  · simp at h


theorem op_max (hE : EnvOk E) (hR : R E ρ s a w) {dst : Option Tmp} {ty : TypeId} {pos : String} {after : Array Edge} {guard : Option (Nat × Bool)} {args : Array Operand} {ts : Array TypeId} {sv : SV} {s' : St} (h : opX E.Ty ⟨dst, .call ⟨.builtin .max, args, ts⟩, ty, pos, after, guard⟩ s = some (true, sv, s')) : OpDone E ρ s a w ((execOp a.eval ⟨dst, .call ⟨.builtin .max, args, ts⟩, ty, pos, after, guard⟩).run E.P w) sv s' := by
  simp only [opX] at h
  have hr := hR.evals args.toList
  split at h
  · rename_i k x k' y hx
    simp only [cond_eq_ite] at h
    split at h
    · rename_i hk
      have hk : k = k' := by simpa using hk
      subst hk
      rw [hx] at hr
      cases h
      have hl : (args.toList.map a.eval).length = 2 := hr.1.symm
      obtain ⟨u, v, huv⟩ : ∃ u v, args.toList.map a.eval = [u, v] := by
        match args.toList.map a.eval, hl with
        | [u, v], _ => exact ⟨u, v, rfl⟩
      rw [huv] at hr
      obtain rfl := inv_int (hr.2 0 _ _ rfl rfl)
      obtain rfl := inv_int (hr.2 1 _ _ rfl rfl)
      have hm : args.map a.eval = #[.int k x, .int k y] := by apply Array.ext'; simpa using huv
      refine OpDone.pure hR (rel_int _ _) ?_
      simp only [execOp, resolve, invoke, builtin, hm]
      simp [Builtin.max_, List.foldlM, Builtin.max2]
    · simp at h
  · simp at h


theorem opX_sound (hE : EnvOk E) (hR : R E ρ s a w) {o : Oper} {sv : SV} {s' : St} (h : opX E.Ty o s = some (true, sv, s')) : OpDone E ρ s a w ((execOp a.eval o).run E.P w) sv s' := by
  obtain ⟨dst, op, ty, pos, after, guard⟩ := o
  cases op with
  | move x => exact op_move hE hR h
  | assign x => exact op_assign hE hR h
  | alloc t => exact op_alloc hE hR h
  | box t x => exact op_box hE hR h
  | build t parts => exact op_build hE hR h
  | buildSlice t len parts => exact op_buildSlice hE hR h
  | load t x => exact op_load hE hR h
  | store t x y => exact op_store hE hR h
  | nilCheck x => exact op_nilCheck hE hR h
  | binOp op xt x y yt => exact op_binOp hE hR h
  | unOp op t x => exact op_unOp hE hR h
  | convert src dst' x => exact op_convert hE hR h
  | fieldAddr xt x f => exact op_fieldAddr hE hR h
  | field xt x f => exact op_field hE hR h
  | indexAddr t x i => exact op_indexAddr hE hR h
  | index t x i => exact op_index hE hR h
  | slice t x lo hi mx => exact op_slice hE hR h
  | extract x i => exact op_extract hE hR h
  | makeSlice t x y => exact op_makeSlice hE hR h
  | makeFunc fn first captured => exact op_makeFunc hE hR h
  | call c =>
    obtain ⟨callee, args, argTypes⟩ := c
    cases callee with
    | builtin b =>
      cases b with
      | len => exact op_len hE hR h
      | append => exact op_append hE hR h
      | copy => exact op_copy hE hR h
      | min => exact op_min hE hR h
      | max => exact op_max hE hR h
      | _ => cases h
    | _ => cases h
  | _ => cases h
end
end Sx

/-
  Sx, part 17: one operation in its place: calls, guards, choices; and what it comes to.
-/
set_option linter.unusedVariables false
set_option linter.unusedSimpArgs false
set_option linter.unnecessarySimpa false
namespace Sx
open Go

/-- The ways of a function, by what is asked on them. -/
inductive Tr (α : Type) where
  | no
  | leaf (x : α)
  | br (b : Bool) (t e : Tr α)
/-- What is known of a function: a plain one looks at its arguments alone. -/
inductive Spec where
  | plain (g : List SV → Option (Bool × SV))
  | look (g : List SV → Mem → Option (Bool × SV))
  | wide (g : List SV → Mem → List Nat → Tr (SV × Mem × List Nat))
abbrev Specs := FuncId → Option Spec
/-- The way that is gone. -/
def pickA {α : Type} : Tr α → Option α
  | .no => none
  | .leaf x => some x
  | .br b t e => bif b then pickA t else pickA e

/-- The same state with other slots. -/
def St.re (s : St) (sl : List SV) : St := ⟨sl, s.mem, s.used⟩

def only (ts : List Nat) : Nat → List SV → List SV
  | _, [] => []
  | k, x :: r => (bif hasNat ts k then x else .dead) :: only ts (k + 1) r
def tmpsOf : List Operand → List Nat
  | [] => []
  | .tmp t :: r => t :: tmpsOf r
  | _ :: r => tmpsOf r

def callX (T : Specs) (dst : Option Tmp) (f : SV) (args : List SV) (s : St) : Res :=
  match f with
  | .fn (.func g) fs cs => (match T g with
    | some (.plain h) => (match h (fs ++ args ++ cs) with
      | some (b, v) => some (b, v, s)
      | none => none)
    | some (.look h) => (match h (fs ++ args ++ cs) s.mem with
      | some (b, v) => some (b, v, s)
      | none => none)
    | some (.wide h) => (match pickA (h (fs ++ args ++ cs) s.mem s.used) with
      | some (v, m, u) => some (true, v, ⟨s.slots, m, u⟩)
      | none => none)
    | none => none)
  | _ => none

def callOf : Op → Option (Operand × List Operand)
  | .call { callee := .value f, args, .. } => some (f, args.toList)
  | _ => none

/-- An operation that is to be done, whatever it is but a choice. -/
def stepX (Ty : Tys) (T : Specs) (o : Oper) (s : St) : Res :=
  match callOf o.op with
  | some (f, args) => callX T o.dst (evl s.slots f) (evls s.slots args) s
  | none => opX Ty o s

/-- What an operation in its place comes to. -/
def StepDone (E : Env) (ρ : Ren) (s : St) (a : Act) (w : World) (run : Result Next) (sv : SV) (s' : St) : Prop :=
  OpDone E ρ s a w run sv s' ∨ ∃ f args, run = .ok (.enter f args) w ∧ Calls E.P f args w (fun e w' => ∃ v ρ', e = .returned v ∧ Comes1 E ρ s a w sv s' v ρ' w')

def SpecOk (E : Env) (f : FuncId) : Spec → Prop
  | .plain g => ∀ (ρ : Ren) (s : St) (a : Act) (w : World) (args : List SV) (vals : List Value) (sv : SV), R E ρ s a w → RelL E w (okB w ρ s.mem) ρ args vals → g args = some (true, sv) → StepDone E ρ s a w ((callFunc f vals.toArray).run E.P w) sv s
  | .look g => ∀ (ρ : Ren) (s : St) (a : Act) (w : World) (args : List SV) (vals : List Value) (sv : SV), R E ρ s a w → RelL E w (okB w ρ s.mem) ρ args vals → g args s.mem = some (true, sv) → StepDone E ρ s a w ((callFunc f vals.toArray).run E.P w) sv s
  | .wide g => ∀ (ρ : Ren) (s : St) (a : Act) (w : World) (args : List SV) (vals : List Value) (sv : SV) (m : Mem) (u : List Nat), R E ρ s a w → RelL E w (okB w ρ s.mem) ρ args vals → pickA (g args s.mem s.used) = some (sv, m, u) → StepDone E ρ s a w ((callFunc f vals.toArray).run E.P w) sv ⟨s.slots, m, u⟩
def SpecsOk (E : Env) (T : Specs) : Prop := ∀ f sp, T f = some sp → SpecOk E f sp

section
variable {E : Env} {ρ : Ren} {s : St} {a : Act} {w : World}

theorem RelL.append {ok : Nat → Prop} {xs ys : List SV} {us vs : List Value} (h : RelL E w ok ρ xs us) (k : RelL E w ok ρ ys vs) : RelL E w ok ρ (xs ++ ys) (us ++ vs) := by
  refine ⟨by simp [h.1, k.1], fun j s u hs hu => ?_⟩
  by_cases q : j < xs.length
  · rw [List.getElem?_append_left q] at hs
    rw [List.getElem?_append_left (by rw [← h.1]; exact q)] at hu
    exact h.2 j s u hs hu
  · rw [List.getElem?_append_right (by omega)] at hs
    rw [List.getElem?_append_right (by rw [← h.1]; omega), ← h.1] at hu
    exact k.2 _ s u hs hu

theorem callOf_eq {op : Op} {f : Operand} {args : List Operand} (h : callOf op = some (f, args)) : ∃ c : Call, op = .call c ∧ c.callee = .value f ∧ c.args.toList = args := by
  unfold callOf at h
  split at h
  · cases h; exact ⟨_, rfl, rfl, rfl⟩
  · cases h

theorem stepX_sound (hE : EnvOk E) {T : Specs} (hT : SpecsOk E T) (hR : R E ρ s a w) {o : Oper} {sv : SV} {s' : St} (h : stepX E.Ty T o s = some (true, sv, s')) : StepDone E ρ s a w ((execOp a.eval o).run E.P w) sv s' := by
  unfold stepX at h
  split at h
  · rename_i f args hc
    obtain ⟨c, ho, hcf, hca⟩ := callOf_eq hc
    have hf := hR.eval f
    have hargs := hR.evals args
    unfold callX at h
    split at h
    · rename_i g fs cs hfe
      rw [hfe] at hf
      obtain ⟨gs, ds, hfv, hl1, hl2, hr1, hr2⟩ := inv_fn hf
      have hrel : RelL E w (okB w ρ s.mem) ρ (fs ++ evls s.slots args ++ cs) (gs ++ args.map a.eval ++ ds) := RelL.append (RelL.append ⟨hl1, hr1⟩ hargs) ⟨hl2, hr2⟩
      have hexec : execOp a.eval o = callFunc g (gs ++ args.map a.eval ++ ds).toArray := by
        obtain ⟨dst, op, ty, pos, after, guard⟩ := o
        simp only at ho
        subst ho
        have : c.args.map a.eval = (args.map a.eval).toArray := by apply Array.ext'; simp [hca]
        simp only [execOp, resolve, hcf, hfv, Deferred.ofValue, this]
        simp [invoke]
      rw [hexec]
      cases ht : T g with
      | none => simp [ht] at h
      | some sp =>
        have hok := hT g sp ht
        cases sp with
        | plain q =>
          simp only [ht] at h
          cases hq : q (fs ++ evls s.slots args ++ cs) with
          | none => rw [hq] at h; cases h
          | some p =>
            obtain ⟨b, v⟩ := p
            rw [hq] at h
            cases h
            exact hok ρ s a w _ _ sv hR hrel hq
        | look q =>
          simp only [ht] at h
          cases hq : q (fs ++ evls s.slots args ++ cs) s.mem with
          | none => rw [hq] at h; cases h
          | some p =>
            obtain ⟨b, v⟩ := p
            rw [hq] at h
            cases h
            exact hok ρ s a w _ _ sv hR hrel hq
        | wide q =>
          simp only [ht] at h
          cases hq : pickA (q (fs ++ evls s.slots args ++ cs) s.mem s.used) with
          | none => rw [hq] at h; cases h
          | some p =>
            obtain ⟨v, m, u⟩ := p
            rw [hq] at h
            cases h
            exact hok ρ s a w _ _ sv m u hR hrel hq
    · cases h
  · exact .inl (opX_sound hE hR h)

theorem StepDone.wp {sv : SV} {s' : St} {o : Oper} {K : Act → World → Prop} {Q : Exit → Act → World → Prop} (h : StepDone E ρ s a w ((execOp a.eval o).run E.P w) sv s') (hK : ∀ v ρ' w', Comes1 E ρ s a w sv s' v ρ' w' → K (a.put o.dst v) w') : o.wp E.P a w K Q := by
  unfold Oper.wp
  rcases h with ⟨nx, v, ρ', w', hr, hn, hc⟩ | ⟨f, args, hr, hc⟩
  · rw [hr]
    rcases hn with rfl | ⟨rfl, rfl⟩
    · exact hK _ _ _ hc
    · exact hK _ _ _ hc
  · rw [hr]
    refine hc.mono ?_
    rintro e w' ⟨v, ρ', rfl, hc⟩
    exact hK _ _ _ hc

/-- The value is put into its slot. -/
theorem R.put {v : Value} {sv : SV} (hR : R E ρ s a w) (hv : Rel E w (okB w ρ s.mem) ρ sv v) (dst : Option Tmp) : R E ρ (s.put dst sv) (a.put dst v) w := by
  cases dst with
  | none => exact hR
  | some d =>
    refine ⟨by simp [St.put, Act.put, setAt_length, hR.len], fun i u hu => ?_, hR.mem, hR.used, hR.one, hR.g⟩
    simp only [Act.put] at hu
    show Rel E w (okB w ρ s.mem) ρ (getAt (setAt s.slots d sv) i) u
    by_cases q : d = i
    · subst q
      rw [Array.getElem?_setIfInBounds_self] at hu
      split at hu
      · rename_i hlt
        cases hu
        rw [getAt_setAt_self (by rw [hR.len]; exact hlt)]; exact hv
      · cases hu
    · rw [Array.getElem?_setIfInBounds_ne q] at hu
      rw [getAt_setAt_ne q]; exact hR.slot i u hu

theorem rel_undef {ok : Nat → Prop} : Rel E w ok ρ (.tup []) undef := Rel.tup [] [] rfl (by simp)

/-- How far a run has come, from where it began. -/
structure Far (E : Env) (sm : List Nat) (ρ0 : Ren) (m0 : Mem) (w0 : World) (ρ : Ren) (s : St) (a : Act) (w : World) : Prop where
  r : R E ρ s a w
  ext : ∀ i u, (hasNat sm i = true ∨ 1000000 ≤ i) → ρ0 i = some u → ρ i = some u
  kept : Kept (own ρ0 m0) w0 w
  own : ∀ b, own ρ s.mem b → own ρ0 m0 b ∨ w0.heap.size ≤ b
  defers : a.defers = []

theorem put_defers' (a : Act) (dst : Option Tmp) (v : Value) : (a.put dst v).defers = a.defers := by cases dst <;> rfl

theorem Far.step {sm : List Nat} {ρ0 : Ren} {m0 : Mem} {w0 : World} (h : Far E sm ρ0 m0 w0 ρ s a w) {sv : SV} {s' : St} {v : Value} {ρ' : Ren} {w' : World} (hc : Comes1 E ρ s a w sv s' v ρ' w') (dst : Option Tmp) : Far E sm ρ0 m0 w0 ρ' (s'.put dst sv) (a.put dst v) w' := by
  refine ⟨hc.r.put hc.rel dst, fun i u hi hu => hc.ext i u (h.ext i u hi hu), h.kept.trans hc.kept (fun x hx hq => ?_), fun b hb => ?_, by rw [put_defers']; exact h.defers⟩
  · rcases h.own x hq with q | q
    · exact q
    · omega
  · have hb' : Sx.own ρ' s'.mem b := by cases dst <;> exact hb
    rcases hc.own b hb' with q | q
    · exact h.own b q
    · exact .inr (Nat.le_trans h.kept.size q)

theorem Far.skip {sm : List Nat} {ρ0 : Ren} {m0 : Mem} {w0 : World} (h : Far E sm ρ0 m0 w0 ρ s a w) (dst : Option Tmp) : Far E sm ρ0 m0 w0 ρ (s.put dst (.tup [])) (a.put dst undef) w :=
  ⟨h.r.put rel_undef dst, h.ext, h.kept, fun b hb => h.own b (by cases dst <;> exact hb), by rw [put_defers']; exact h.defers⟩
end

/-- What a guard says. -/
def wantX (all : List Oper) (o : Oper) (s : St) : Option Bool :=
  match o.guard with
  | none => some true
  | some (j, want) => (match (all[j]?).bind (·.dst) with
    | none => none
    | some d => (match getAt s.slots d with
      | .bool b => some (b == want)
      | .tup [] => some false
      | _ => none))

/-- One operation in its place, where each choice is as it is. -/
def stepD (Ty : Tys) (T : Specs) (all : List Oper) (o : Oper) (s : St) : Option St :=
  match wantX all o s with
  | none => none
  | some false => some (s.put o.dst (.tup []))
  | some true => (match o.op with
    | .pick c x y => (match evl s.slots c with
      | .bool b => some (s.put o.dst (bif b then evl s.slots x else evl s.slots y))
      | _ => none)
    | _ => (match stepX Ty T o s with
      | some (true, sv, s') => some (s'.put o.dst sv)
      | _ => none))

theorem wantX_sound {E : Env} {ρ : Ren} {s : St} {a : Act} {w : World} (hR : R E ρ s a w) {ops : Array Oper} {o : Oper} {b : Bool} (h : wantX ops.toList o s = some b) : Region.wanted o (yielded ops a.tmps) = b := by
  unfold wantX at h
  unfold Region.wanted
  cases hg : o.guard with
  | none => simp only [hg] at h; cases h; rfl
  | some p =>
    obtain ⟨j, want⟩ := p
    simp only [hg] at h
    cases hd : (ops.toList[j]?).bind (·.dst) with
    | none => rw [hd] at h; cases h
    | some d =>
      simp only [hd] at h
      have hd' : (ops[j]?).bind (·.dst) = some d := by rw [← hd]; simp
      simp only [yielded, hd', Option.bind_some]
      have hlen := hR.len
      split at h
      · rename_i b' hb'
        cases h
        cases ht : a.tmps[d]? with
        | none =>
          have : s.slots.length ≤ d := by rw [hlen]; exact Array.getElem?_eq_none_iff.1 ht
          rw [getAt_eq, List.getElem?_eq_none this] at hb'; cases hb'
        | some v =>
          have hv := hR.slot d v ht
          rw [hb'] at hv
          obtain rfl := inv_bool hv
          simp
      · rename_i hb'
        cases h
        cases ht : a.tmps[d]? with
        | none => simp
        | some v =>
          have hv := hR.slot d v ht
          rw [hb'] at hv
          obtain ⟨vs, rfl, hl, _⟩ := inv_tup hv
          simp
      · cases h

/-- One operation in its place is what the machine does there. -/
theorem stepD_sound {E : Env} (hE : EnvOk E) {T : Specs} (hT : SpecsOk E T) {sm : List Nat} {ρ0 : Ren} {m0 : Mem} {w0 : World} {ρ : Ren} {s : St} {a : Act} {w : World} (hF : Far E sm ρ0 m0 w0 ρ s a w) {ops : Array Oper} {o : Oper} {s' : St} (h : stepD E.Ty T ops.toList o s = some s')
    {K : Act → World → Prop} {Q : Exit → Act → World → Prop} (hK : ∀ ρ' a' w', Far E sm ρ0 m0 w0 ρ' s' a' w' → K a' w') :
    if Region.wanted o (yielded ops a.tmps) then o.wp E.P a w K Q ∨ (o.asks E.P a w ∧ LetsOut Q) else K (a.put o.dst undef) w := by
  unfold stepD at h
  split at h
  · cases h
  · rename_i hw
    cases h
    rw [wantX_sound hF.r hw]
    exact hK ρ _ _ (hF.skip o.dst)
  · rename_i hw
    rw [wantX_sound hF.r hw, if_pos rfl]
    left
    split at h
    · rename_i c x y hop
      split at h
      · rename_i b hb
        cases h
        have hc := hF.r.eval c
        rw [hb] at hc
        have hc := inv_bool hc
        have : (execOp a.eval o).run E.P w = .ok (.value (if b then a.eval x else a.eval y)) w := by
          obtain ⟨dst, op, ty, pos, after, guard⟩ := o
          simp only at hop
          subst hop
          cases b <;> simp [execOp, hc, asBool, Go.asBool]
        unfold Oper.wp
        rw [this]
        refine hK ρ _ _ ?_
        have hr : Rel E w (okB w ρ s.mem) ρ (bif b then evl s.slots x else evl s.slots y) (if b then a.eval x else a.eval y) := by
          cases b
          · exact hF.r.eval y
          · exact hF.r.eval x
        exact hF.step (ρ' := ρ) (s' := s) ⟨hF.r, hr, fun _ _ x => x, Kept.refl _ _, fun _ hb => .inl hb, fun _ x => x⟩ o.dst
      · cases h
    · split at h
      · rename_i sv s2 hs
        cases h
        exact (stepX_sound hE hT hF.r hs).wp (fun v ρ' w' hc => hK ρ' _ _ (hF.step hc o.dst))
      · cases h
end Sx

/-
  Sx, part 18: regions whose order is drawn: what comes of the text's order comes of any.
-/
set_option linter.unusedVariables false
set_option linter.unusedSimpArgs false
set_option linter.unnecessarySimpa false
namespace Sx
open Go

def plainCall (T : Specs) (sl : List SV) (f : Operand) : Bool := match f with
  | .func g => (match T g with | some (.plain _) => true | _ => false)
  | _ => false

def lookCall (T : Specs) (f : Operand) : Bool := match f with
  | .func g => (match T g with | some (.look _) => true | _ => false)
  | _ => false

/-- 0: neither looks at the memory nor changes it; 1: does not change it; 2: whatever else. -/
def clsOf (Ty : Tys) (T : Specs) (o : Oper) : Nat :=
  match o.op with
  | .move _ | .assign _ | .pick .. | .build .. | .binOp .. | .unOp .. | .fieldAddr .. | .field .. | .index .. | .extract .. | .makeFunc .. | .nilCheck _ => 0
  | .load .. | .indexAddr .. => 1
  | .slice t .. => (match Ty t with | some { d := .str, .. } => 0 | _ => 2)
  | .call { callee := .builtin .len, .. } => 1
  | .call { callee := .builtin .min, .. } => 0
  | .call { callee := .builtin .max, .. } => 0
  | .call { callee := .value f, .. } => bif plainCall T [] f then 0 else bif lookCall T f then 1 else 2
  | .convert src dst _ => (match Ty dst with
    | some { d := .int _, .. } => 0
    | some { d := .str, .. } => 1
    | _ => 2)
  | _ => 2

/-- Slots that agree where the operation looks. -/
def Agree (o : Oper) (a b : List SV) : Prop := ∀ t, Operand.tmp t ∈ o.op.operands → getAt a t = getAt b t

/-- A result whose slots are changed. -/
def Res.re (r : Res) (sl : List SV) : Res := match r with | some (b, v, s) => some (b, v, s.re sl) | none => none
@[simp] theorem re_none (sl : List SV) : Res.re none sl = none := rfl
@[simp] theorem re_some (b : Bool) (v : SV) (s : St) (sl : List SV) : Res.re (some (b, v, s)) sl = some (b, v, s.re sl) := rfl

theorem evl_agree {a b : List SV} {x : Operand} (h : ∀ t, x = .tmp t → getAt a t = getAt b t) : evl a x = evl b x := by
  cases x with
  | tmp t => exact h t rfl
  | _ => rfl

theorem fresh_at (a b : List SV) (m : Mem) (u : List Nat) (d : Option Tmp) (o : SObj) : (⟨a, m, u⟩ : St).fresh d o = (match (⟨b, m, u⟩ : St).fresh d o with | some (i, s') => some (i, s'.re a) | none => none) := by
  cases d with
  | none => rfl
  | some t =>
    simp only [St.fresh]
    cases hasNat u (1000 + t) || (Nat.ble 900000 t || Mem.has m (1000 + t)) <;> rfl

section
variable (Ty : Tys) (a b : List SV) (m : Mem) (u : List Nat)
theorem sliceX_re (t : TypeId) (x : SV) (lo hi : Option SV) (d : Option Tmp) : sliceX Ty t x lo hi d ⟨a, m, u⟩ = Res.re (sliceX Ty t x lo hi d ⟨b, m, u⟩) a := by
  unfold sliceX
  simp only [cond_eq_ite, fresh_at a b]
  repeat' split
  all_goals first | rfl | simp_all [St.re, Res.re]
theorem makeX_re (t : TypeId) (x y : SV) (d : Option Tmp) : makeX Ty t x y d ⟨a, m, u⟩ = Res.re (makeX Ty t x y d ⟨b, m, u⟩) a := by
  unfold makeX
  simp only [cond_eq_ite, fresh_at a b]
  repeat' split
  all_goals first | rfl | simp_all [St.re, Res.re]
theorem convX_re (t t' : TypeId) (x : SV) (d : Option Tmp) : convX Ty t t' x d ⟨a, m, u⟩ = Res.re (convX Ty t t' x d ⟨b, m, u⟩) a := by
  unfold convX
  simp only [cond_eq_ite, fresh_at a b]
  repeat' split
  all_goals first | rfl | simp_all [St.re, Res.re]
theorem appendX_re (t : TypeId) (x y : SV) (d : Option Tmp) : appendX Ty t x y d ⟨a, m, u⟩ = Res.re (appendX Ty t x y d ⟨b, m, u⟩) a := by
  unfold appendX
  simp only [cond_eq_ite, fresh_at a b]
  repeat' split
  all_goals first | rfl | simp_all [St.re, Res.re]
theorem copyX_re (t : TypeId) (x y : SV) : copyX Ty t x y ⟨a, m, u⟩ = Res.re (copyX Ty t x y ⟨b, m, u⟩) a := by
  unfold copyX
  simp only [cond_eq_ite]
  repeat' split
  all_goals first | rfl | simp_all [St.re, Res.re]
theorem storeX_re (t : TypeId) (x y : SV) : storeX Ty t x y ⟨a, m, u⟩ = (storeX Ty t x y ⟨b, m, u⟩).map (·.re a) := by
  unfold storeX
  simp only [cond_eq_ite]
  repeat' split
  all_goals first | rfl | simp_all [St.re]
end

theorem loadX_at (Ty : Tys) (a b : List SV) (m : Mem) (u : List Nat) (t : TypeId) (x : SV) : loadX Ty t x ⟨a, m, u⟩ = loadX Ty t x ⟨b, m, u⟩ := rfl
theorem indexAddrX_at (Ty : Tys) (a b : List SV) (m : Mem) (u : List Nat) (t : TypeId) (x i : SV) : indexAddrX Ty t x i ⟨a, m, u⟩ = indexAddrX Ty t x i ⟨b, m, u⟩ := rfl

theorem evls_at {a b : List SV} : ∀ {l : List Operand}, (∀ t, Operand.tmp t ∈ l → getAt a t = getAt b t) → evls a l = evls b l
  | [], _ => rfl
  | x :: l, h => by
    simp only [evls]
    rw [evl_agree (x := x) (fun t ht => h t (by simp [ht])), evls_at (fun t ht => h t (by simp [ht]))]
theorem evlp_at {a b : List SV} : ∀ {l : List (Nat × Operand)}, (∀ t, Operand.tmp t ∈ l.map (·.2) → getAt a t = getAt b t) → evlp a l = evlp b l
  | [], _ => rfl
  | (i, x) :: l, h => by
    simp only [evlp]
    rw [evl_agree (x := x) (fun t ht => h t (by simp [ht])), evlp_at (fun t ht => h t (by simp at ht ⊢; exact .inr ht))]

section
variable (Ty : Tys) {a b : List SV} (m : Mem) (u : List Nat)
theorem opX_re {o : Oper} (h : Agree o a b) : opX Ty o ⟨a, m, u⟩ = Res.re (opX Ty o ⟨b, m, u⟩) a := by
  obtain ⟨dst, op, ty, pos, after, guard⟩ := o
  have ev : ∀ x, x ∈ op.operands → evl a x = evl b x := fun x hx => evl_agree (fun t ht => h t (ht ▸ hx))
  cases op with
  | move x =>
    have hx := ev x (by simp [Op.operands])
    simp only [opX, hx]
    rfl
  | assign x =>
    have hx := ev x (by simp [Op.operands])
    simp only [opX, hx]
    rfl
  | alloc t =>
    simp only [opX, fresh_at a b]
    repeat' split
    all_goals first | rfl | simp_all [St.re, Res.re]
  | box t x =>
    have hx := ev x (by simp [Op.operands])
    simp only [opX, hx, fresh_at a b, cond_eq_ite]
    repeat' split
    all_goals first | rfl | simp_all [St.re, Res.re]
  | build t parts =>
    have hp : evlp a parts.toList = evlp b parts.toList := evlp_at (fun t ht => h t (by simpa [Op.operands] using ht))
    simp only [opX, hp]
    repeat' split
    all_goals first | rfl | simp_all [St.re, Res.re]
  | buildSlice t len parts =>
    have hp : evlp a parts.toList = evlp b parts.toList := evlp_at (fun t ht => h t (by simpa [Op.operands] using ht))
    simp only [opX, hp, fresh_at a b, cond_eq_ite]
    repeat' split
    all_goals first | rfl | simp_all [St.re, Res.re]
  | load t x =>
    have hx := ev x (by simp [Op.operands])
    simp only [opX, hx, loadX_at Ty a b]
    repeat' split
    all_goals first | rfl | simp_all [St.re, Res.re]
  | store t x y =>
    have hx := ev x (by simp [Op.operands])
    have hy := ev y (by simp [Op.operands])
    simp only [opX, hx, hy, storeX_re Ty a b]
    cases storeX Ty t (evl b x) (evl b y) ⟨b, m, u⟩ <;> rfl
  | nilCheck x =>
    have hx := ev x (by simp [Op.operands])
    simp only [opX, hx]
    split <;> rfl
  | binOp op xt x y yt =>
    have hx := ev x (by simp [Op.operands])
    have hy := ev y (by simp [Op.operands])
    simp only [opX, hx, hy]
    repeat' split
    all_goals first | rfl | simp_all [St.re, Res.re]
  | unOp op t x =>
    have hx := ev x (by simp [Op.operands])
    simp only [opX, hx]
    split <;> rfl
  | convert src dst' x =>
    have hx := ev x (by simp [Op.operands])
    simp only [opX, hx]
    exact convX_re Ty a b m u _ _ _ _
  | fieldAddr xt x f =>
    have hx := ev x (by simp [Op.operands])
    simp only [opX, hx]
    repeat' split
    all_goals first | rfl | simp_all [St.re, Res.re]
  | field xt x f =>
    have hx := ev x (by simp [Op.operands])
    simp only [opX, hx, cond_eq_ite]
    repeat' split
    all_goals first | rfl | simp_all [St.re, Res.re]
  | indexAddr t x i =>
    have hx := ev x (by simp [Op.operands])
    have hi := ev i (by simp [Op.operands])
    simp only [opX, hx, hi, indexAddrX_at Ty a b]
    repeat' split
    all_goals first | rfl | simp_all [St.re, Res.re]
  | index t x i =>
    have hx := ev x (by simp [Op.operands])
    have hi := ev i (by simp [Op.operands])
    simp only [opX, hx, hi]
    repeat' split
    all_goals first | rfl | simp_all [St.re, Res.re]
  | slice t x lo hi mx =>
    have hx := ev x (by simp [Op.operands])
    cases mx with
    | some _ => rfl
    | none =>
      have hlo : evlo a lo = evlo b lo := by
        cases lo with
        | none => rfl
        | some l => simp only [evlo]; rw [ev l (by simp [Op.operands])]
      have hhi : evlo a hi = evlo b hi := by
        cases hi with
        | none => rfl
        | some l => simp only [evlo]; rw [ev l (by simp [Op.operands])]
      simp only [opX, hx, hlo, hhi]
      exact sliceX_re Ty a b m u _ _ _ _ _
  | extract x i =>
    have hx := ev x (by simp [Op.operands])
    simp only [opX, hx]
    repeat' split
    all_goals first | rfl | simp_all [St.re, Res.re]
  | makeSlice t x y =>
    have hx := ev x (by simp [Op.operands])
    have hy := ev y (by simp [Op.operands])
    simp only [opX, hx, hy]
    exact makeX_re Ty a b m u _ _ _ _
  | makeFunc fn first captured =>
    have h1 : evls a first.toList = evls b first.toList := evls_at (fun t ht => h t (by simp [Op.operands]; left; simpa using ht))
    have h2 : evls a captured.toList = evls b captured.toList := evls_at (fun t ht => h t (by simp [Op.operands]; right; simpa using ht))
    simp only [opX, h1, h2]
    rfl
  | call c =>
    obtain ⟨callee, args, ts⟩ := c
    cases callee with
    | builtin bi =>
      have hargs : ∀ x, x ∈ args.toList → evl a x = evl b x := fun x hx => ev x (by simp [Op.operands, Call.operands]; simpa using hx)
      have hl : evls a args.toList = evls b args.toList := evls_at (fun t ht => h t (by simp [Op.operands, Call.operands]; simpa using ht))
      cases bi with
      | len =>
        simp only [opX]
        split
        · rename_i x t hx ht
          rw [hargs x (by rw [hx]; simp)]
          repeat' split
          all_goals first | rfl | simp_all [St.re, Res.re]
        · rfl
      | append =>
        simp only [opX]
        split
        · rename_i x y t t' hx ht
          rw [hargs x (by rw [hx]; simp), hargs y (by rw [hx]; simp)]
          split
          · exact appendX_re Ty a b m u _ _ _ _
          · exact appendX_re Ty a b m u _ _ _ _
          · rfl
        · rfl
      | copy =>
        simp only [opX]
        split
        · rename_i x y t t' hx ht
          rw [hargs x (by rw [hx]; simp), hargs y (by rw [hx]; simp)]
          exact copyX_re Ty a b m u _ _ _
        · rfl
      | min =>
        simp only [opX, hl, cond_eq_ite]
        repeat' split
        all_goals first | rfl | simp_all [St.re, Res.re]
      | max =>
        simp only [opX, hl, cond_eq_ite]
        repeat' split
        all_goals first | rfl | simp_all [St.re, Res.re]
      | _ => rfl
    | _ => rfl
  | _ => rfl

theorem stepX_re (T : Specs) {o : Oper} (h : Agree o a b) : stepX Ty T o ⟨a, m, u⟩ = Res.re (stepX Ty T o ⟨b, m, u⟩) a := by
  unfold stepX
  split
  · rename_i f args hc
    obtain ⟨c, ho, hcf, hca⟩ := callOf_eq hc
    have hf : evl a f = evl b f := evl_agree (fun t ht => h t (by rw [ho]; simp [Op.operands, Call.operands, hcf, ht]))
    have hl : evls a args = evls b args := evls_at (fun t ht => h t (by rw [ho]; simp [Op.operands, Call.operands]; right; rw [← hca] at ht; simpa using ht))
    simp only [hf, hl, callX]
    repeat' split
    all_goals first | rfl | simp_all [St.re, Res.re]
  · exact opX_re Ty m u h
end

/-- An operation that does not look at the memory answers alike, and leaves it. -/
theorem clsOf_zero {Ty : Tys} {T : Specs} {o : Oper} (hc : clsOf Ty T o = 0) {sl : List SV} {m : Mem} {u : List Nat} {s' : St} {c : Bool} {sv : SV} (h : stepX Ty T o ⟨sl, m, u⟩ = some (c, sv, s')) : s' = ⟨sl, m, u⟩ ∧ ∀ (m' : Mem) (u' : List Nat), stepX Ty T o ⟨sl, m', u'⟩ = some (c, sv, ⟨sl, m', u'⟩) := by
  obtain ⟨dst, op, ty, pos, after, guard⟩ := o
  cases op with
  | move x =>
    simp only [stepX, callOf, opX] at h ⊢
    simp_all
  | assign x =>
    simp only [stepX, callOf, opX] at h ⊢
    simp_all
  | build t parts =>
    simp only [stepX, callOf, opX] at h ⊢
    cases hb : buildX Ty t (evlp sl parts.toList) <;> simp_all
  | nilCheck x =>
    simp only [stepX, callOf, opX] at h ⊢
    split at h <;> simp_all
  | binOp op xt x y yt =>
    simp only [stepX, callOf, opX] at h ⊢
    cases hb : binX Ty op xt (evl sl x) (evl sl y) <;> simp_all
  | unOp op t x =>
    simp only [stepX, callOf, opX] at h ⊢
    split at h <;> simp_all
  | fieldAddr xt x f =>
    simp only [stepX, callOf, opX] at h ⊢
    cases hb : fieldX Ty xt (evl sl x) f <;> simp_all
  | field xt x f =>
    simp only [stepX, callOf, opX, cond_eq_ite] at h ⊢
    (repeat' split at h) <;> simp_all
  | index t x i =>
    simp only [stepX, callOf, opX] at h ⊢
    cases hb : indexX Ty t (evl sl x) (evl sl i) <;> simp_all
  | extract x i =>
    simp only [stepX, callOf, opX] at h ⊢
    (repeat' split at h) <;> simp_all
  | makeFunc fn f c =>
    simp only [stepX, callOf, opX] at h ⊢
    simp_all
  | pick x y z => simp [stepX, callOf, opX] at h
  | slice t x lo hi mx =>
    simp only [clsOf] at hc
    split at hc
    · rename_i ht
      cases mx with
      | some _ => simp [stepX, callOf, opX] at h
      | none =>
        simp only [stepX, callOf, opX, sliceX, ht] at h ⊢
        (repeat' split at h) <;> simp_all
    · cases hc
  | convert src dst' x =>
    simp only [clsOf] at hc
    split at hc
    · rename_i ht
      simp only [stepX, callOf, opX, convX, ht] at h ⊢
      (repeat' split at h) <;> simp_all
    · cases hc
    · cases hc
  | call cl =>
    obtain ⟨callee, args, ts⟩ := cl
    cases callee with
    | value f =>
      simp only [clsOf] at hc
      cases f with
      | func g =>
        simp only [plainCall] at hc
        cases ht : T g with
        | none => simp [ht, lookCall] at hc
        | some sp =>
          cases sp with
          | plain q =>
            simp only [stepX, callOf, callX, evl, ht] at h ⊢
            cases hq : q ([] ++ evls sl args.toList ++ []) with
            | none => rw [hq] at h; cases h
            | some p => rw [hq] at h; cases h; exact ⟨rfl, fun m' u' => rfl⟩
          | look q => simp [ht, lookCall] at hc
          | wide q => simp [ht, lookCall] at hc
      | _ => simp [plainCall, lookCall] at hc
    | invoke r mt => simp [stepX, callOf, opX] at h
    | builtin b =>
      cases b <;> first | (simp [clsOf] at hc; done) | (simp [stepX, callOf, opX] at h; done) | skip
      · simp only [stepX, callOf, opX, cond_eq_ite] at h ⊢
        (repeat' split at h) <;> (try simp_all) <;> (try (rw [if_neg (by omega)]; exact h.2.1))
      · simp only [stepX, callOf, opX, cond_eq_ite] at h ⊢
        (repeat' split at h) <;> (try simp_all) <;> (try (rw [if_neg (by omega)]; exact h.2.1))
  | _ => first | (simp [clsOf] at hc; done) | (simp [stepX, callOf, opX] at h; done)

/-- An operation that does not change the memory does not. -/
theorem clsOf_one {Ty : Tys} {T : Specs} {o : Oper} (hc : clsOf Ty T o ≤ 1) {s s' : St} {c : Bool} {sv : SV} (h : stepX Ty T o s = some (c, sv, s')) : s' = s := by
  by_cases h0 : clsOf Ty T o = 0
  · exact (clsOf_zero h0 (sl := s.slots) (m := s.mem) (u := s.used) h).1
  have h1 : clsOf Ty T o = 1 := by omega
  obtain ⟨dst, op, ty, pos, after, guard⟩ := o
  cases op with
  | load t x =>
    simp only [stepX, callOf, opX] at h
    cases hb : loadX Ty t (evl s.slots x) s <;> simp_all
  | indexAddr t x i =>
    simp only [stepX, callOf, opX] at h
    cases hb : indexAddrX Ty t (evl s.slots x) (evl s.slots i) s <;> simp_all
  | slice t x lo hi mx =>
    simp only [clsOf] at h1
    split at h1 <;> cases h1
  | convert src dst' x =>
    simp only [clsOf] at h1
    split at h1
    · cases h1
    · rename_i ht
      simp only [stepX, callOf, opX, convX, ht] at h
      (repeat' split at h) <;> simp_all
    · cases h1
  | call cl =>
    obtain ⟨callee, args, ts⟩ := cl
    cases callee with
    | value f =>
      simp only [clsOf] at h1
      cases hp : plainCall T [] f with
      | true => simp [hp] at h1
      | false =>
        cases hq : lookCall T f with
        | false => simp [hp, hq] at h1
        | true =>
          cases f with
          | func g =>
            simp only [lookCall] at hq
            cases ht : T g with
            | none => simp [ht] at hq
            | some sp =>
              cases sp with
              | look q =>
                simp only [stepX, callOf, callX, evl, ht] at h
                cases hr : q ([] ++ evls s.slots args.toList ++ []) s.mem with
                | none => rw [hr] at h; cases h
                | some p => rw [hr] at h; cases h; rfl
              | plain q => simp [ht] at hq
              | wide q => simp [ht] at hq
          | _ => simp [lookCall] at hq
    | invoke r mt => simp [stepX, callOf, opX] at h
    | builtin b =>
      cases b <;> first | (simp [clsOf] at h1; done) | (simp [stepX, callOf, opX] at h; done) | skip
      simp only [stepX, callOf, opX] at h
      (repeat' split at h) <;> simp_all
  | _ => first | (simp [clsOf] at h1; done) | (simp [stepX, callOf, opX] at h; done)

/-! ### a read and what is made anew -/
/-- Reads the memory by name, and nothing else. -/
def readC (Ty : Tys) (T : Specs) (o : Oper) : Bool := Nat.beq (clsOf Ty T o) 1 && (match o.op with | .call { callee := .value _, .. } => false | _ => true)
def noSl : List CK → Bool
  | [] => true
  | .slice _ :: _ => false
  | _ :: r => noSl r
/-- Makes something new, and changes nothing else. -/
def makeC (Ty : Tys) (o : Oper) : Bool := match o.op with
  | .alloc _ | .box .. | .makeSlice .. => true
  | .buildSlice t .. => (match Ty t with | some { d := .slice e, .. } => (match Ty e with | some de => noSl de.cells | none => false) | _ => false)
  | .convert src dst _ => (match Ty src, Ty dst with | some { d := .str, .. }, some { d := .slice _, .. } => true | _, _ => false)
  | _ => false

theorem get_new {m : Mem} {id : Nat} (o : SObj) (hn : m.get id = none) {j : Nat} {q : SObj} (h : m.get j = some q) : Mem.get ((id, o) :: m) j = some q := by
  have : Nat.beq id j = false := by
    cases hb : Nat.beq id j with
    | false => rfl
    | true => rw [Nat.eq_of_beq_eq_true hb, h] at hn; cases hn
  simp only [Mem.get, this, cond_false, h]
theorem elems_new {m : Mem} {id : Nat} (o : SObj) (hn : m.get id = none) {x : SV} {l : List SV} (h : elems m x = some l) : elems ((id, o) :: m) x = some l := by
  cases x with
  | row j =>
    simp only [elems] at h ⊢
    split at h
    · rename_i hg
      rw [get_new o hn hg]; exact h
    · cases h
  | _ => exact h
theorem elemsE_new {e : TypeId} {m : Mem} {id : Nat} (o : SObj) (hn : m.get id = none) {x : SV} {l : List SV} (h : elemsE e m x = some l) : elemsE e ((id, o) :: m) x = some l := by
  cases x with
  | row j =>
    simp only [elemsE] at h ⊢
    split at h
    · rename_i hg
      rw [get_new o hn hg]; exact h
    · cases h
  | _ => exact h
theorem loadX_new {Ty : Tys} {t : TypeId} {a : SV} {sl : List SV} {m : Mem} {u : List Nat} {v : SV} {id : Nat} (o : SObj) (u' : List Nat) (hn : m.get id = none) (h : loadX Ty t a ⟨sl, m, u⟩ = some v) : loadX Ty t a ⟨sl, (id, o) :: m, u'⟩ = some v := by
  unfold loadX at h ⊢
  cases hT : Ty t with
  | none => simp [hT] at h
  | some d =>
    simp only [hT] at h ⊢
    cases a with
    | box j off =>
      simp only at h ⊢
      split at h
      · rename_i hg; rw [get_new o hn hg]; exact h
      · cases h
    | elt j sz i off =>
      simp only at h ⊢
      split at h
      · rename_i hg; rw [get_new o hn hg]; exact h
      · cases h
    | ael j base sz n i off =>
      simp only at h ⊢
      split at h
      · rename_i hg; rw [get_new o hn hg]; exact h
      · cases h
    | _ => exact h
theorem indexAddrX_new {Ty : Tys} {t : TypeId} {x i : SV} {sl : List SV} {m : Mem} {u : List Nat} {r : Bool × SV} {id : Nat} (o : SObj) (u' : List Nat) (hn : m.get id = none) (h : indexAddrX Ty t x i ⟨sl, m, u⟩ = some r) : indexAddrX Ty t x i ⟨sl, (id, o) :: m, u'⟩ = some r := by
  unfold indexAddrX at h ⊢
  split at h
  · exact h
  · split at h
    · cases x with
      | row j =>
        simp only at h ⊢
        split at h
        · rename_i hg; rw [get_new o hn hg]; exact h
        · cases h
      | _ => exact h
    · cases h
  · cases h
theorem lenX_new {Ty : Tys} {t : TypeId} {x : SV} {m : Mem} {r : SV} {id : Nat} (o : SObj) (hn : m.get id = none) (h : lenX Ty t m x = some r) : lenX Ty t ((id, o) :: m) x = some r := by
  unfold lenX at h ⊢
  split at h
  · exact h
  · split at h
    · rename_i hg; rw [elems_new o hn hg]; exact h
    · cases h
  · cases h

theorem stepX_new {Ty : Tys} {T : Specs} {x : Oper} (hc : readC Ty T x = true) {sl : List SV} {m : Mem} {u : List Nat} {s' : St} {c : Bool} {sv : SV} (h : stepX Ty T x ⟨sl, m, u⟩ = some (c, sv, s')) {id : Nat} (o : SObj) (u' : List Nat) (hn : m.get id = none) :
    stepX Ty T x ⟨sl, (id, o) :: m, u'⟩ = some (c, sv, ⟨sl, (id, o) :: m, u'⟩) := by
  simp only [readC, Bool.and_eq_true] at hc
  obtain ⟨hc1, hc2⟩ := hc
  have hc1 := Nat.eq_of_beq_eq_true hc1
  obtain ⟨dst, op, ty, pos, after, guard⟩ := x
  cases op with
  | load t a =>
    simp only [stepX, callOf, opX] at h ⊢
    cases hb : loadX Ty t (evl sl a) ⟨sl, m, u⟩ with
    | none => simp [hb] at h
    | some v =>
      simp only [hb, Option.some.injEq, Prod.mk.injEq] at h
      obtain ⟨rfl, rfl, _⟩ := h
      rw [loadX_new o u' hn hb]
  | indexAddr t a i =>
    simp only [stepX, callOf, opX] at h ⊢
    cases hb : indexAddrX Ty t (evl sl a) (evl sl i) ⟨sl, m, u⟩ with
    | none => simp [hb] at h
    | some v =>
      obtain ⟨b, v⟩ := v
      simp only [hb, Option.some.injEq, Prod.mk.injEq] at h
      obtain ⟨rfl, rfl, _⟩ := h
      rw [indexAddrX_new o u' hn hb]
  | slice t a lo hi mx =>
    simp only [clsOf] at hc1
    split at hc1 <;> cases hc1
  | convert src dst' a =>
    simp only [clsOf] at hc1
    split at hc1
    · cases hc1
    · rename_i ht
      simp only [stepX, callOf, opX, convX, ht] at h ⊢
      split at h
      · simp_all
      · simp_all
      · simp_all
      · split at h
        · split at h
          · rename_i hg
            simp only [Option.some.injEq, Prod.mk.injEq] at h
            obtain ⟨rfl, rfl, _⟩ := h
            simp_all [elemsE_new o hn hg]
          · cases h
        · cases h
      · simp_all
      · simp_all
      · simp_all
      · cases h
    · cases hc1
  | call cl =>
    obtain ⟨callee, args, ts⟩ := cl
    cases callee with
    | value f => simp at hc2
    | invoke r mt => simp [stepX, callOf, opX] at h
    | builtin b =>
      cases b <;> first | (simp [clsOf] at hc1; done) | (simp [stepX, callOf, opX] at h; done) | skip
      simp only [stepX, callOf, opX] at h ⊢
      split at h
      · rename_i a t h1 h2
        cases hb : lenX Ty t m (evl sl a) with
        | none => simp [hb] at h
        | some v =>
          simp only [hb, Option.some.injEq, Prod.mk.injEq] at h
          obtain ⟨rfl, rfl, _⟩ := h
          rw [lenX_new o hn hb]
      · cases h
  | _ => first | (simp [clsOf] at hc1; done) | (simp [stepX, callOf, opX] at h; done)
/-! ### swapping two operations -/
theorem setAt_comm (l : List SV) (i j : Nat) (v u : SV) (h : i ≠ j) : setAt (setAt l i v) j u = setAt (setAt l j u) i v := by
  simp only [setAt_eq]; exact List.set_comm _ _ h

/-- The slots after a value is put. -/
def putS (sl : List SV) : Option Tmp → SV → List SV
  | some t, v => setAt sl t v
  | none, _ => sl
theorem put_eq (s : St) (d : Option Tmp) (v : SV) : s.put d v = ⟨putS s.slots d v, s.mem, s.used⟩ := by cases d <;> rfl
theorem putS_comm (sl : List SV) (d e : Option Tmp) (v u : SV) (h : ∀ t, d = some t → e ≠ some t) : putS (putS sl d v) e u = putS (putS sl e u) d v := by
  cases d <;> cases e <;> try rfl
  rename_i x y
  exact setAt_comm sl x y v u (fun q => h x rfl (q ▸ rfl))

theorem agree_put {ops : Array Oper} {o : Oper} {d : Option Tmp} (h : ∀ t, d = some t → t ∉ o.looksAt ops) (sl : List SV) (v : SV) : Agree o (putS sl d v) sl := by
  intro t ht
  cases d with
  | none => rfl
  | some x =>
    have : x ≠ t := fun q => h x rfl (List.mem_append_left _ (List.mem_filterMap.2 ⟨.tmp t, by simpa using ht, by rw [q]⟩))
    exact getAt_setAt_ne this

theorem wantX_put {ops : Array Oper} {o : Oper} {d : Option Tmp} (h : ∀ t, d = some t → t ∉ o.looksAt ops) (s : St) (sl : List SV) (hsl : ∀ t, (∀ x, d = some x → x ≠ t) → getAt sl t = getAt s.slots t) (m : Mem) (u : List Nat) : wantX ops.toList o ⟨sl, m, u⟩ = wantX ops.toList o s := by
  unfold wantX
  cases hg : o.guard with
  | none => rfl
  | some p =>
    obtain ⟨j, want⟩ := p
    simp only
    cases hd : (ops.toList[j]?).bind (·.dst) with
    | none => rfl
    | some t =>
      have hd' : (ops[j]?).bind (·.dst) = some t := by rw [← hd]; simp
      have : getAt sl t = getAt s.slots t := hsl t (fun x hx q => h x hx (by subst q; simp [Oper.looksAt, hg, hd']))
      simp only [this]

/-- What one operation does, told by parts: nothing but a value, or the memory changed too. -/
theorem stepD_parts {Ty : Tys} {T : Specs} {all : List Oper} {o : Oper} {s s' : St} (h : stepD Ty T all o s = some s') :
    (wantX all o s = some false ∧ s' = s.put o.dst (.tup [])) ∨
    (wantX all o s = some true ∧ ((∃ c x y b, o.op = .pick c x y ∧ evl s.slots c = .bool b ∧ s' = s.put o.dst (bif b then evl s.slots x else evl s.slots y)) ∨
      ((∀ c x y, o.op ≠ .pick c x y) ∧ ∃ sv s2, stepX Ty T o s = some (true, sv, s2) ∧ s' = s2.put o.dst sv))) := by
  unfold stepD at h
  split at h
  · cases h
  · rename_i hw; cases h; exact .inl ⟨hw, rfl⟩
  · rename_i hw
    refine .inr ⟨hw, ?_⟩
    split at h
    · rename_i c x y hop
      split at h
      · rename_i b hb; cases h; exact .inl ⟨c, x, y, b, hop, hb, rfl⟩
      · cases h
    · rename_i hop
      split at h
      · rename_i sv s2 hs; cases h; exact .inr ⟨fun c x y q => hop c x y q, sv, s2, hs, rfl⟩
      · cases h

theorem stepD_mk {Ty : Tys} {T : Specs} {all : List Oper} {o : Oper} {s s2 : St} {sv : SV} (hw : wantX all o s = some true) (hnp : ∀ c x y, o.op ≠ .pick c x y) (hs : stepX Ty T o s = some (true, sv, s2)) : stepD Ty T all o s = some (s2.put o.dst sv) := by
  unfold stepD
  rw [hw]
  simp only [hs]

/-- An operation of the first kind: its value, at any memory. -/
theorem stepD_zero {Ty : Tys} {T : Specs} {all : List Oper} {o : Oper} (hc : clsOf Ty T o = 0) {sl : List SV} {m : Mem} {u : List Nat} {s' : St} (h : stepD Ty T all o ⟨sl, m, u⟩ = some s') :
    ∃ sv, s' = ⟨putS sl o.dst sv, m, u⟩ ∧ ∀ (sl2 : List SV) (m2 : Mem) (u2 : List Nat), Agree o sl2 sl → wantX all o ⟨sl2, m2, u2⟩ = wantX all o ⟨sl, m, u⟩ → stepD Ty T all o ⟨sl2, m2, u2⟩ = some ⟨putS sl2 o.dst sv, m2, u2⟩ := by
  rcases stepD_parts h with ⟨hw, rfl⟩ | ⟨hw, ⟨c, x, y, b, hop, hb, rfl⟩ | ⟨hnp, sv, s2, hs, rfl⟩⟩
  · refine ⟨.tup [], by rw [put_eq], fun sl2 m2 u2 hag hw2 => ?_⟩
    rw [hw] at hw2
    simp only [stepD, hw2, put_eq]
  · refine ⟨_, by rw [put_eq], fun sl2 m2 u2 hag hw2 => ?_⟩
    rw [hw] at hw2
    have e1 : evl sl2 c = evl sl c := evl_agree (fun t ht => hag t (by rw [hop, ← ht]; simp [Op.operands]))
    have e2 : evl sl2 x = evl sl x := evl_agree (fun t ht => hag t (by rw [hop, ← ht]; simp [Op.operands]))
    have e3 : evl sl2 y = evl sl y := evl_agree (fun t ht => hag t (by rw [hop, ← ht]; simp [Op.operands]))
    simp only at hb
    simp only [stepD, hw2, hop, e1, e2, e3, hb, put_eq]
  · obtain ⟨rfl, hall⟩ := clsOf_zero hc hs
    refine ⟨sv, by rw [put_eq], fun sl2 m2 u2 hag hw2 => ?_⟩
    rw [hw] at hw2
    have := stepX_re Ty m2 u2 T hag
    rw [hall m2 u2] at this
    simp only [re_some] at this
    rw [stepD_mk hw2 hnp this, put_eq]; rfl

/-- An operation that leaves the memory: its value, with other slots. -/
theorem stepD_one {Ty : Tys} {T : Specs} {all : List Oper} {o : Oper} (hc : clsOf Ty T o ≤ 1) {sl : List SV} {m : Mem} {u : List Nat} {s' : St} (h : stepD Ty T all o ⟨sl, m, u⟩ = some s') : ∃ sv, s' = ⟨putS sl o.dst sv, m, u⟩ := by
  rcases stepD_parts h with ⟨hw, rfl⟩ | ⟨hw, ⟨c, x, y, b, hop, hb, rfl⟩ | ⟨hnp, sv, s2, hs, rfl⟩⟩
  · exact ⟨_, by rw [put_eq]⟩
  · exact ⟨_, by rw [put_eq]⟩
  · have := clsOf_one hc hs
    subst this
    exact ⟨_, by rw [put_eq]⟩

/-- Any operation, with other slots. -/
theorem stepD_any {Ty : Tys} {T : Specs} {all : List Oper} {o : Oper} {sl : List SV} {m : Mem} {u : List Nat} {s' : St} (h : stepD Ty T all o ⟨sl, m, u⟩ = some s') :
    ∃ sv m' u', s' = ⟨putS sl o.dst sv, m', u'⟩ ∧ ∀ (sl2 : List SV), Agree o sl2 sl → wantX all o ⟨sl2, m, u⟩ = wantX all o ⟨sl, m, u⟩ → stepD Ty T all o ⟨sl2, m, u⟩ = some ⟨putS sl2 o.dst sv, m', u'⟩ := by
  rcases stepD_parts h with ⟨hw, rfl⟩ | ⟨hw, ⟨c, x, y, b, hop, hb, rfl⟩ | ⟨hnp, sv, s2, hs, rfl⟩⟩
  · refine ⟨.tup [], m, u, by rw [put_eq], fun sl2 hag hw2 => ?_⟩
    rw [hw] at hw2
    simp only [stepD, hw2, put_eq]
  · refine ⟨_, m, u, by rw [put_eq], fun sl2 hag hw2 => ?_⟩
    rw [hw] at hw2
    have e1 : evl sl2 c = evl sl c := evl_agree (fun t ht => hag t (by rw [hop, ← ht]; simp [Op.operands]))
    have e2 : evl sl2 x = evl sl x := evl_agree (fun t ht => hag t (by rw [hop, ← ht]; simp [Op.operands]))
    have e3 : evl sl2 y = evl sl y := evl_agree (fun t ht => hag t (by rw [hop, ← ht]; simp [Op.operands]))
    simp only at hb
    simp only [stepD, hw2, hop, e1, e2, e3, hb, put_eq]
  · have hself := stepX_re Ty m u T (o := o) (a := sl) (b := sl) (fun _ _ => rfl)
    rw [hs] at hself
    simp only [re_some, Option.some.injEq, Prod.mk.injEq, true_and] at hself
    have hsl : s2.slots = sl := by rw [hself]; rfl
    refine ⟨sv, s2.mem, s2.used, by rw [put_eq, hsl], fun sl2 hag hw2 => ?_⟩
    rw [hw] at hw2
    have := stepX_re Ty m u T hag
    rw [hs] at this
    simp only [re_some] at this
    rw [stepD_mk hw2 hnp this, put_eq]; rfl

/-- May the two go in either order? -/
def pairOk (a b : Nat) : Bool := Nat.beq a 0 || Nat.beq b 0 || (Nat.ble a 1 && Nat.ble b 1)


theorem toData_noSl {Ty : Tys} : ∀ {ks : List CK} {xs : List SV} {m m' : Mem} {ys : List SV}, noSl ks = true → toData Ty ks xs m = some (ys, m') → m' = m
  | [], [], m, m', ys, _, h => by simp [toData] at h; exact h.2.symm
  | [], _ :: _, m, m', ys, _, h => by simp [toData] at h
  | k :: ks, [], m, m', ys, _, h => by simp [toData] at h
  | k :: ks, x :: xs, m, m', ys, hn, h => by
    have hns : noSl ks = true := by cases k <;> first | exact hn | cases hn
    have key : ∀ y : SV, (match toData Ty ks xs m with | some (ys, m'') => some (y :: ys, m'') | none => none) = some (ys, m') → m' = m := fun y h => by
      cases ht : toData Ty ks xs m with
      | none => simp [ht] at h
      | some p =>
        obtain ⟨zs, m2⟩ := p
        simp only [ht, Option.some.injEq, Prod.mk.injEq] at h
        rw [← h.2]; exact toData_noSl hns ht
    cases k with
    | slice e => cases hn
    | _ =>
      simp only [toData, cond_eq_ite] at h
      split at h
      · exact key _ h
      · cases h
theorem litElems_noSl {Ty : Tys} {de : TyD} (hn : noSl de.cells = true) : ∀ {ps : List (Nat × SV)} {xs ys : List SV} {m m' : Mem}, litElems Ty de ps xs m = some (ys, m') → m' = m
  | [], xs, ys, m, m', h => by simp [litElems] at h; exact h.2.symm
  | (i, v) :: r, xs, ys, m, m', h => by
    simp only [litElems] at h
    cases ht : toData Ty de.cells (cellsOf v) m with
    | none => simp [ht] at h
    | some p =>
      obtain ⟨vs, m2⟩ := p
      simp only [ht, cond_eq_ite] at h
      split at h
      · have := litElems_noSl hn h
        rw [this]; exact toData_noSl hn ht
      · cases h

/-- What was made anew stands in front. -/
theorem stepX_make {Ty : Tys} {T : Specs} {x : Oper} (hc : makeC Ty x = true) {sl : List SV} {m : Mem} {u : List Nat} {s' : St} {c : Bool} {sv : SV} (h : stepX Ty T x ⟨sl, m, u⟩ = some (c, sv, s')) : ∃ id o, s'.mem = (id, o) :: m ∧ m.get id = none := by
  obtain ⟨dst, op, ty, pos, after, guard⟩ := x
  have fr : ∀ {o : SObj} {id : Nat} {s2 : St}, (⟨sl, m, u⟩ : St).fresh dst o = some (id, s2) → ∃ id o, s2.mem = (id, o) :: m ∧ m.get id = none := fun {o id s2} hf => by
    obtain ⟨_, rfl, _⟩ := fresh_eq hf
    exact ⟨id, o, rfl, fresh_not hf⟩
  cases op with
  | alloc t =>
    simp only [stepX, callOf, opX] at h
    split at h
    · split at h
      · rename_i hf
        cases h
        exact fr hf
      · cases h
    · cases h
  | box t a =>
    simp only [stepX, callOf, opX, cond_eq_ite] at h
    split at h
    · split at h
      · split at h
        · rename_i hf
          cases h
          exact fr hf
        · cases h
      · cases h
    · cases h
  | makeSlice t a b =>
    simp only [stepX, callOf, opX, makeX] at h
    split at h
    · split at h
      · split at h
        · split at h
          · rename_i hf
            cases h
            exact fr hf
          · cases h
        · cases h
      · cases h
    · cases h
  | buildSlice t len ps =>
    simp only [makeC] at hc
    simp only [stepX, callOf, opX, cond_eq_ite] at h
    split at h
    · rename_i e _ _ _ _ _ ht
      simp only [ht] at hc
      split at h
      · rename_i de he
        simp only [he] at hc
        split at h
        · split at h
          · split at h
            · rename_i xs m2 hl
              obtain rfl := litElems_noSl hc hl
              split at h
              · rename_i hf
                cases h
                exact fr hf
              · cases h
            · cases h
          · cases h
        · cases h
      · cases h
    · cases h
  | convert src dst' a =>
    simp only [makeC] at hc
    split at hc
    · rename_i ht
      simp only [stepX, callOf, opX, convX, ht] at h
      split at h
      · simp_all
      · simp_all
      · split at h
        · split at h
          · rename_i hf
            cases h
            exact fr hf
          · cases h
        · cases h
      · simp_all
      · simp_all
      · simp_all
      · simp_all
      · cases h
    · cases hc
  | _ => cases hc

theorem stepD_read {Ty : Tys} {T : Specs} {all : List Oper} {x : Oper} (hc : readC Ty T x = true) {sl : List SV} {m : Mem} {u : List Nat} {s' : St} (h : stepD Ty T all x ⟨sl, m, u⟩ = some s') :
    ∃ sv, s' = ⟨putS sl x.dst sv, m, u⟩ ∧ ∀ (sl2 : List SV) (id : Nat) (o : SObj) (u2 : List Nat), m.get id = none → Agree x sl2 sl → wantX all x ⟨sl2, (id, o) :: m, u2⟩ = wantX all x ⟨sl, m, u⟩ → stepD Ty T all x ⟨sl2, (id, o) :: m, u2⟩ = some ⟨putS sl2 x.dst sv, (id, o) :: m, u2⟩ := by
  have hc1 : clsOf Ty T x ≤ 1 := by
    simp only [readC, Bool.and_eq_true] at hc
    exact Nat.le_of_eq (Nat.eq_of_beq_eq_true hc.1)
  rcases stepD_parts h with ⟨hw, rfl⟩ | ⟨hw, ⟨c, y, z, b, hop, hb, rfl⟩ | ⟨hnp, sv, s2, hs, rfl⟩⟩
  · refine ⟨.tup [], by rw [put_eq], fun sl2 id o u2 hn hag hw2 => ?_⟩
    rw [hw] at hw2
    simp only [stepD, hw2, put_eq]
  · exfalso
    simp only [readC, clsOf, hop, Bool.and_eq_true] at hc
    exact absurd hc.1 (by decide)
  · have := clsOf_one hc1 hs
    subst this
    refine ⟨sv, by rw [put_eq], fun sl2 id o u2 hn hag hw2 => ?_⟩
    rw [hw] at hw2
    have h1 := stepX_new hc hs o u2 hn
    have := stepX_re Ty ((id, o) :: m) u2 T hag
    rw [h1] at this
    simp only [re_some] at this
    rw [stepD_mk hw2 hnp this, put_eq]; rfl
theorem stepD_make {Ty : Tys} {T : Specs} {all : List Oper} {x : Oper} (hc : makeC Ty x = true) {sl : List SV} {m : Mem} {u : List Nat} {s' : St} (h : stepD Ty T all x ⟨sl, m, u⟩ = some s') : (s'.mem = m ∧ s'.used = u) ∨ ∃ id o, s'.mem = (id, o) :: m ∧ m.get id = none := by
  rcases stepD_parts h with ⟨hw, rfl⟩ | ⟨hw, ⟨c, y, z, b, hop, hb, rfl⟩ | ⟨hnp, sv, s2, hs, rfl⟩⟩
  · exact .inl (by rw [put_eq]; exact ⟨rfl, rfl⟩)
  · exact .inl (by rw [put_eq]; exact ⟨rfl, rfl⟩)
  · have := stepX_make hc hs
    rw [put_eq]
    exact .inr this

/-- May the two go in either order? -/
def pairD (Ty : Tys) (T : Specs) (x y : Oper) : Bool := pairOk (clsOf Ty T x) (clsOf Ty T y) || (readC Ty T x && makeC Ty y)
/-- Two operations that are apart may change places. -/
theorem swapD {Ty : Tys} {T : Specs} {ops : Array Oper} {x y : Oper} (hap : x.apart ops y = true) (hc : pairD Ty T x y = true) {s s1 s2 : St} (h1 : stepD Ty T ops.toList x s = some s1) (h2 : stepD Ty T ops.toList y s1 = some s2) :
    ∃ s3, stepD Ty T ops.toList y s = some s3 ∧ stepD Ty T ops.toList x s3 = some s2 := by
  obtain ⟨p1, p2, p3⟩ := Oper.apart_spec hap
  obtain ⟨sl, m, u⟩ := s
  -- what a put does not touch
  have wy : ∀ (v : SV) (m' : Mem) (u' : List Nat), wantX ops.toList y ⟨putS sl x.dst v, m', u'⟩ = wantX ops.toList y ⟨sl, m, u⟩ := fun v m' u' => wantX_put p1 ⟨sl, m, u⟩ _ (fun t ht => by
    cases hx : x.dst with
    | none => rfl
    | some d => exact getAt_setAt_ne (ht d hx)) m' u'
  have wx : ∀ (v : SV) (m' : Mem) (u' : List Nat), wantX ops.toList x ⟨putS sl y.dst v, m', u'⟩ = wantX ops.toList x ⟨sl, m, u⟩ := fun v m' u' => wantX_put p3 ⟨sl, m, u⟩ _ (fun t ht => by
    cases hx : y.dst with
    | none => rfl
    | some d => exact getAt_setAt_ne (ht d hx)) m' u'
  have w0 : ∀ (o : Oper) (m' : Mem) (u' : List Nat), wantX ops.toList o ⟨sl, m', u'⟩ = wantX ops.toList o ⟨sl, m, u⟩ := fun o m' u' => rfl
  have hag : ∀ {o : Oper} {a b : List SV}, Agree o a b → Agree o b a := fun h t ht => (h t ht).symm
  simp only [pairD, pairOk, Bool.or_eq_true, Bool.and_eq_true] at hc
  rcases hc with ((hx | hy) | ⟨hx, hy⟩) | ⟨hx, hy⟩
  · -- the first looks at no memory
    have hx := Nat.eq_of_beq_eq_true hx
    obtain ⟨vx, rfl, ax⟩ := stepD_zero hx h1
    obtain ⟨vy, m', u', rfl, ay⟩ := stepD_any h2
    refine ⟨⟨putS sl y.dst vy, m', u'⟩, ay sl (hag (agree_put p1 sl vx)) (by rw [wy, w0]), ?_⟩
    rw [ax _ m' u' (agree_put p3 sl vy) (by rw [wx])]
    rw [putS_comm sl x.dst y.dst vx vy p2]
  · -- the second looks at no memory
    have hy := Nat.eq_of_beq_eq_true hy
    obtain ⟨vx, m', u', rfl, ax⟩ := stepD_any h1
    obtain ⟨vy, rfl, ay⟩ := stepD_zero hy h2
    refine ⟨⟨putS sl y.dst vy, m, u⟩, ay sl m u (hag (agree_put p1 sl vx)) (by rw [wy]), ?_⟩
    rw [ax _ (agree_put p3 sl vy) (by rw [wx])]
    rw [putS_comm sl x.dst y.dst vx vy p2]
  · -- neither changes it
    have hx := Nat.le_of_ble_eq_true hx
    have hy := Nat.le_of_ble_eq_true hy
    obtain ⟨vx0, e1⟩ := stepD_one hx h1
    obtain ⟨vx, m1, u1, rfl, ax⟩ := stepD_any h1
    simp only [St.mk.injEq] at e1
    obtain ⟨_, rfl, rfl⟩ := e1
    obtain ⟨vy0, e2⟩ := stepD_one hy h2
    obtain ⟨vy, m2, u2, rfl, ay⟩ := stepD_any h2
    simp only [St.mk.injEq] at e2
    obtain ⟨_, rfl, rfl⟩ := e2
    refine ⟨_, ay sl (hag (agree_put p1 sl vx)) (by rw [wy]), ?_⟩
    rw [ax _ (agree_put p3 sl vy) (by rw [wx])]
    rw [putS_comm sl x.dst y.dst vx vy p2]
  · -- the first reads, the second makes something new
    obtain ⟨vx, rfl, ax⟩ := stepD_read hx h1
    have hmk := stepD_make hy h2
    obtain ⟨vy, m', u', rfl, ay⟩ := stepD_any h2
    refine ⟨⟨putS sl y.dst vy, m', u'⟩, ay sl (hag (agree_put p1 sl vx)) (by rw [wy]), ?_⟩
    rcases hmk with ⟨rfl, rfl⟩ | ⟨id, o, rfl, hn⟩
    · obtain ⟨vx2, m2, u2, e2, ax2⟩ := stepD_any h1
      simp only [St.mk.injEq] at e2
      obtain ⟨e2, rfl, rfl⟩ := e2
      rw [ax2 _ (agree_put p3 sl vy) (by rw [wx])]
      have : putS sl x.dst vx2 = putS sl x.dst vx := e2.symm
      rw [← putS_comm sl x.dst y.dst vx2 vy p2, this]
    · rw [ax _ id o u' hn (agree_put p3 sl vy) (by rw [wx])]
      rw [putS_comm sl x.dst y.dst vx vy p2]

/-! ### two different boxes -/
theorem stepD_load {Ty : Tys} {T : Specs} {all : List Oper} {o : Oper} {t : TypeId} {a i p : Nat} (ho : o.op = .load t (.tmp a)) (hg : o.guard = none) {sl : List SV} {m : Mem} {u : List Nat} {s' : St} (ha : getAt sl a = .box i p) (h : stepD Ty T all o ⟨sl, m, u⟩ = some s') :
    ∃ v, s' = ⟨putS sl o.dst v, m, u⟩ ∧ ∀ (sl2 : List SV) (m2 : Mem) (u2 : List Nat), getAt sl2 a = .box i p → m2.get i = m.get i → stepD Ty T all o ⟨sl2, m2, u2⟩ = some ⟨putS sl2 o.dst v, m2, u2⟩ := by
  obtain ⟨dst, op, ty, pos, after, guard⟩ := o
  simp only at ho hg
  subst ho; subst hg
  simp only [stepD, wantX, stepX, callOf, opX, evl, ha] at h ⊢
  cases hb : loadX Ty t (.box i p) ⟨sl, m, u⟩ with
  | none => simp [hb] at h
  | some v =>
    simp only [hb, Option.some.injEq] at h
    refine ⟨v, by rw [← h, put_eq], fun sl2 m2 u2 h2 hm => ?_⟩
    have : loadX Ty t (.box i p) ⟨sl2, m2, u2⟩ = some v := by
      rw [← hb]; unfold loadX; simp only [hm]
    simp only [h2, this, put_eq]
theorem stepD_store {Ty : Tys} {T : Specs} {all : List Oper} {o : Oper} {t : TypeId} {b j q : Nat} {x : Operand} (ho : o.op = .store t (.tmp b) x) (hg : o.guard = none) {sl : List SV} {m : Mem} {u : List Nat} {s' : St} (hb : getAt sl b = .box j q) (h : stepD Ty T all o ⟨sl, m, u⟩ = some s') :
    ∃ ob, s'.mem = m.put j ob := by
  obtain ⟨dst, op, ty, pos, after, guard⟩ := o
  simp only at ho hg
  subst ho; subst hg
  have he : evl sl (.tmp b) = .box j q := hb
  simp only [stepD, wantX, stepX, callOf, opX, he] at h
  cases hs : storeX Ty t (.box j q) (evl sl x) ⟨sl, m, u⟩ with
  | none => rw [hs] at h; cases h
  | some s2 =>
    rw [hs] at h
    simp only at h
    have h := Option.some.inj h
    rw [← h, put_eq]
    unfold storeX at hs
    split at hs
    · cases hs
    · simp only [cond_eq_ite] at hs
      split at hs
      · cases hs
      · split at hs
        · split at hs
          · split at hs
            · cases hs; exact ⟨_, rfl⟩
            · cases hs
          · cases hs
        · cases hs

theorem swapLS {Ty : Tys} {T : Specs} {ops : Array Oper} {x y : Oper} (hap : x.apart ops y = true) {t t' : TypeId} {a b i j p q : Nat} {z : Operand} (hx : x.op = .load t (.tmp a)) (gx : x.guard = none) (hy : y.op = .store t' (.tmp b) z) (gy : y.guard = none) {s s1 s2 : St}
    (ha : getAt s.slots a = .box i p) (hb : getAt s.slots b = .box j q) (hij : i ≠ j) (h1 : stepD Ty T ops.toList x s = some s1) (h2 : stepD Ty T ops.toList y s1 = some s2) :
    ∃ s3, stepD Ty T ops.toList y s = some s3 ∧ stepD Ty T ops.toList x s3 = some s2 := by
  obtain ⟨p1, p2, p3⟩ := Oper.apart_spec hap
  obtain ⟨sl, m, u⟩ := s
  obtain ⟨vx, rfl, ax⟩ := stepD_load hx gx ha h1
  have hb' : getAt (putS sl x.dst vx) b = .box j q := by
    rw [agree_put p1 sl vx b (by rw [hy]; simp [Op.operands])]; exact hb
  obtain ⟨ob, hmem⟩ := stepD_store hy gy hb' h2
  obtain ⟨vy, m', u', rfl, ay⟩ := stepD_any h2
  have hmem : m' = m.put j ob := hmem
  subst hmem
  refine ⟨⟨putS sl y.dst vy, m.put j ob, u'⟩, ay sl (fun t ht => (agree_put p1 sl vx t ht).symm) (by simp [wantX, gy]), ?_⟩
  rw [ax _ _ _ (by rw [agree_put p3 sl vy a (by rw [hx]; simp [Op.operands])]; exact ha) (Mem.get_put_ne (Ne.symm hij)), putS_comm sl x.dst y.dst vx vy p2]
theorem swapSL {Ty : Tys} {T : Specs} {ops : Array Oper} {x y : Oper} (hap : x.apart ops y = true) {t t' : TypeId} {a b i j p q : Nat} {z : Operand} (hx : x.op = .store t (.tmp a) z) (gx : x.guard = none) (hy : y.op = .load t' (.tmp b)) (gy : y.guard = none) {s s1 s2 : St}
    (ha : getAt s.slots a = .box i p) (hb : getAt s.slots b = .box j q) (hij : i ≠ j) (h1 : stepD Ty T ops.toList x s = some s1) (h2 : stepD Ty T ops.toList y s1 = some s2) :
    ∃ s3, stepD Ty T ops.toList y s = some s3 ∧ stepD Ty T ops.toList x s3 = some s2 := by
  obtain ⟨p1, p2, p3⟩ := Oper.apart_spec hap
  obtain ⟨sl, m, u⟩ := s
  obtain ⟨ob, hmem⟩ := stepD_store hx gx ha h1
  obtain ⟨vx, m', u', rfl, ax⟩ := stepD_any h1
  have hmem : m' = m.put i ob := hmem
  subst hmem
  have hb' : getAt (putS sl x.dst vx) b = .box j q := by
    rw [agree_put p1 sl vx b (by rw [hy]; simp [Op.operands])]; exact hb
  obtain ⟨vy, rfl, ay⟩ := stepD_load hy gy hb' h2
  refine ⟨⟨putS sl y.dst vy, m, u⟩, ay sl m u hb (Mem.get_put_ne hij).symm, ?_⟩
  rw [ax _ (agree_put p3 sl vy) (by simp [wantX, gx]), putS_comm sl x.dst y.dst vx vy p2]

/-- A slice of data, told by its operand's slot, looks at no memory. -/
theorem stepD_slc {Ty : Tys} {T : Specs} {all : List Oper} {o : Oper} {t : TypeId} {a : Nat} {lo hi mx : Option Operand} (ho : o.op = .slice t (.tmp a) lo hi mx) {e : TypeId} {xs : List SV} {sl : List SV} {m : Mem} {u : List Nat} {s' : St} (ha : getAt sl a = .lst e xs) (h : stepD Ty T all o ⟨sl, m, u⟩ = some s') :
    ∃ sv, s' = ⟨putS sl o.dst sv, m, u⟩ ∧ ∀ (sl2 : List SV) (m2 : Mem) (u2 : List Nat), Agree o sl2 sl → wantX all o ⟨sl2, m2, u2⟩ = wantX all o ⟨sl, m, u⟩ → stepD Ty T all o ⟨sl2, m2, u2⟩ = some ⟨putS sl2 o.dst sv, m2, u2⟩ := by
  rcases stepD_parts h with ⟨hw, rfl⟩ | ⟨hw, ⟨c, x, y, b, hop, hb, rfl⟩ | ⟨hnp, sv, s2, hs, rfl⟩⟩
  · refine ⟨.tup [], by rw [put_eq], fun sl2 m2 u2 hag hw2 => ?_⟩
    rw [hw] at hw2
    simp only [stepD, hw2, put_eq]
  · rw [ho] at hop; cases hop
  · have key : s2 = ⟨sl, m, u⟩ ∧ ∀ m2 u2, stepX Ty T o ⟨sl, m2, u2⟩ = some (true, sv, ⟨sl, m2, u2⟩) := by
      have ev : evl sl (.tmp a) = .lst e xs := ha
      obtain ⟨dst, op, ty, pos, after, guard⟩ := o
      simp only at ho
      subst ho
      simp only [stepX, callOf, opX, ev] at hs ⊢
      cases mx with
      | some z => cases hs
      | none =>
        simp only [sliceX] at hs ⊢
        split at hs
        · cases hs
        · split at hs
          · cases hs
          · simp only [cond_eq_ite] at hs ⊢
            split at hs
            · rename_i hq
              simp only [hq, if_true]
              split at hs
              · rename_i l h2 hl hh
                simp only [Option.some.injEq, Prod.mk.injEq] at hs
                obtain ⟨h1, h3, h4⟩ := hs
                exact ⟨h4.symm, fun m2 u2 => by rw [h1, h3]⟩
              · cases hs
            · cases hs
        · cases hs
    obtain ⟨rfl, hall⟩ := key
    refine ⟨sv, by rw [put_eq], fun sl2 m2 u2 hag hw2 => ?_⟩
    rw [hw] at hw2
    have := stepX_re Ty m2 u2 T hag
    rw [hall m2 u2] at this
    simp only [re_some] at this
    rw [stepD_mk hw2 hnp this, put_eq]; rfl
/-- The same two, where one of them looks at no memory. -/
def Blind (Ty : Tys) (T : Specs) (all : List Oper) (o : Oper) (sl : List SV) : Prop := ∀ (m : Mem) (u : List Nat) (s' : St), stepD Ty T all o ⟨sl, m, u⟩ = some s' →
    ∃ sv, s' = ⟨putS sl o.dst sv, m, u⟩ ∧ ∀ (sl2 : List SV) (m2 : Mem) (u2 : List Nat), Agree o sl2 sl → wantX all o ⟨sl2, m2, u2⟩ = wantX all o ⟨sl, m, u⟩ → stepD Ty T all o ⟨sl2, m2, u2⟩ = some ⟨putS sl2 o.dst sv, m2, u2⟩
theorem swapB {Ty : Tys} {T : Specs} {ops : Array Oper} {x y : Oper} (hap : x.apart ops y = true) {s s1 s2 : St} (hb : Blind Ty T ops.toList x s.slots ∨ Blind Ty T ops.toList y s1.slots) (h1 : stepD Ty T ops.toList x s = some s1) (h2 : stepD Ty T ops.toList y s1 = some s2) :
    ∃ s3, stepD Ty T ops.toList y s = some s3 ∧ stepD Ty T ops.toList x s3 = some s2 := by
  obtain ⟨p1, p2, p3⟩ := Oper.apart_spec hap
  obtain ⟨sl, m, u⟩ := s
  have wy : ∀ (v : SV) (m' : Mem) (u' : List Nat), wantX ops.toList y ⟨putS sl x.dst v, m', u'⟩ = wantX ops.toList y ⟨sl, m, u⟩ := fun v m' u' => wantX_put p1 ⟨sl, m, u⟩ _ (fun t ht => by
    cases hx : x.dst with
    | none => rfl
    | some d => exact getAt_setAt_ne (ht d hx)) m' u'
  have wx : ∀ (v : SV) (m' : Mem) (u' : List Nat), wantX ops.toList x ⟨putS sl y.dst v, m', u'⟩ = wantX ops.toList x ⟨sl, m, u⟩ := fun v m' u' => wantX_put p3 ⟨sl, m, u⟩ _ (fun t ht => by
    cases hx : y.dst with
    | none => rfl
    | some d => exact getAt_setAt_ne (ht d hx)) m' u'
  have w0 : ∀ (o : Oper) (m' : Mem) (u' : List Nat), wantX ops.toList o ⟨sl, m', u'⟩ = wantX ops.toList o ⟨sl, m, u⟩ := fun o m' u' => rfl
  have hag : ∀ {o : Oper} {a b : List SV}, Agree o a b → Agree o b a := fun h t ht => (h t ht).symm
  rcases hb with hb | hb
  · obtain ⟨vx, rfl, ax⟩ := hb _ _ _ h1
    obtain ⟨vy, m', u', rfl, ay⟩ := stepD_any h2
    refine ⟨⟨putS sl y.dst vy, m', u'⟩, ay sl (hag (agree_put p1 sl vx)) (by rw [wy, w0]), ?_⟩
    rw [ax _ m' u' (agree_put p3 sl vy) (by rw [wx])]
    rw [putS_comm sl x.dst y.dst vx vy p2]
  · obtain ⟨vx, m', u', rfl, ax⟩ := stepD_any h1
    obtain ⟨vy, rfl, ay⟩ := hb _ _ _ h2
    refine ⟨⟨putS sl y.dst vy, m, u⟩, ay sl m u (hag (agree_put p1 sl vx)) (by rw [wy]), ?_⟩
    rw [ax _ (agree_put p3 sl vy) (by rw [wx])]
    rw [putS_comm sl x.dst y.dst vx vy p2]

/-- It hands no row of one's own on. -/
def noRows : List SV → Bool
  | [] => true
  | .row _ :: _ => false
  | _ :: r => noRows r
theorem toData_noRows {Ty : Tys} : ∀ {ks : List CK} {xs : List SV} {m m' : Mem} {ys : List SV}, noRows xs = true → toData Ty ks xs m = some (ys, m') → m' = m
  | [], [], m, m', ys, _, h => by simp [toData] at h; exact h.2.symm
  | [], _ :: _, m, m', ys, _, h => by simp [toData] at h
  | k :: ks, [], m, m', ys, _, h => by simp [toData] at h
  | k :: ks, x :: xs, m, m', ys, hn, h => by
    have hns : noRows xs = true := by cases x <;> first | exact hn | cases hn
    have key : ∀ y : SV, (match toData Ty ks xs m with | some (ys, m'') => some (y :: ys, m'') | none => none) = some (ys, m') → m' = m := fun y h => by
      cases ht : toData Ty ks xs m with
      | none => simp [ht] at h
      | some p =>
        obtain ⟨zs, m2⟩ := p
        simp only [ht, Option.some.injEq, Prod.mk.injEq] at h
        rw [← h.2]; exact toData_noRows hns ht
    unfold toData at h
    split at h
    · exact key _ h
    · cases hn
    · simp only [cond_eq_ite] at h
      split at h
      · exact key _ h
      · cases h
theorem litElems_noRows {Ty : Tys} {de : TyD} : ∀ {ps : List (Nat × SV)} {xs ys : List SV} {m m' : Mem}, (ps.all fun p => noRows (cellsOf p.2)) = true → litElems Ty de ps xs m = some (ys, m') → m' = m
  | [], xs, ys, m, m', _, h => by simp [litElems] at h; exact h.2.symm
  | (i, v) :: r, xs, ys, m, m', hn, h => by
    simp only [List.all_cons, Bool.and_eq_true] at hn
    simp only [litElems] at h
    cases ht : toData Ty de.cells (cellsOf v) m with
    | none => simp [ht] at h
    | some p =>
      obtain ⟨vs, m2⟩ := p
      simp only [ht, cond_eq_ite] at h
      split at h
      · have := litElems_noRows hn.2 h
        rw [this]; exact toData_noRows hn.1 ht
      · cases h
theorem stepD_makeB {Ty : Tys} {T : Specs} {all : List Oper} {x : Oper} {t : TypeId} {len : Nat} {ps : Array (Nat × Operand)} (ho : x.op = .buildSlice t len ps) {sl : List SV} {m : Mem} {u : List Nat} {s' : St} (hn : ((evlp sl ps.toList).all fun p => noRows (cellsOf p.2)) = true) (h : stepD Ty T all x ⟨sl, m, u⟩ = some s') :
    (s'.mem = m ∧ s'.used = u) ∨ ∃ id o, s'.mem = (id, o) :: m ∧ m.get id = none := by
  rcases stepD_parts h with ⟨hw, rfl⟩ | ⟨hw, ⟨c, y, z, b, hop, hb, rfl⟩ | ⟨hnp, sv, s2, hs, rfl⟩⟩
  · exact .inl (by rw [put_eq]; exact ⟨rfl, rfl⟩)
  · exact .inl (by rw [put_eq]; exact ⟨rfl, rfl⟩)
  · rw [put_eq]
    right
    obtain ⟨dst, op, ty, pos, after, guard⟩ := x
    simp only at ho
    subst ho
    simp only [stepX, callOf, opX, cond_eq_ite] at hs
    split at hs
    · split at hs
      · split at hs
        · split at hs
          · split at hs
            · rename_i xs m2 hl
              obtain rfl := litElems_noRows hn hl
              split at hs
              · rename_i hf
                cases hs
                obtain ⟨_, rfl, _⟩ := fresh_eq hf
                exact ⟨_, _, rfl, fresh_not hf⟩
              · cases hs
            · cases hs
          · cases hs
        · cases hs
      · cases hs
    · cases hs
/-- A read, and what makes something new. -/
theorem swapRM {Ty : Tys} {T : Specs} {ops : Array Oper} {x y : Oper} (hap : x.apart ops y = true) (hx : readC Ty T x = true) {s s1 s2 : St} (hy : (s2.mem = s1.mem ∧ s2.used = s1.used) ∨ ∃ id o, s2.mem = (id, o) :: s1.mem ∧ s1.mem.get id = none) (h1 : stepD Ty T ops.toList x s = some s1) (h2 : stepD Ty T ops.toList y s1 = some s2) :
    ∃ s3, stepD Ty T ops.toList y s = some s3 ∧ stepD Ty T ops.toList x s3 = some s2 := by
  obtain ⟨p1, p2, p3⟩ := Oper.apart_spec hap
  obtain ⟨sl, m, u⟩ := s
  have wy : ∀ (v : SV) (m' : Mem) (u' : List Nat), wantX ops.toList y ⟨putS sl x.dst v, m', u'⟩ = wantX ops.toList y ⟨sl, m, u⟩ := fun v m' u' => wantX_put p1 ⟨sl, m, u⟩ _ (fun t ht => by
    cases hx : x.dst with
    | none => rfl
    | some d => exact getAt_setAt_ne (ht d hx)) m' u'
  have wx : ∀ (v : SV) (m' : Mem) (u' : List Nat), wantX ops.toList x ⟨putS sl y.dst v, m', u'⟩ = wantX ops.toList x ⟨sl, m, u⟩ := fun v m' u' => wantX_put p3 ⟨sl, m, u⟩ _ (fun t ht => by
    cases hx : y.dst with
    | none => rfl
    | some d => exact getAt_setAt_ne (ht d hx)) m' u'
  have hag : ∀ {o : Oper} {a b : List SV}, Agree o a b → Agree o b a := fun h t ht => (h t ht).symm
  obtain ⟨vx, rfl, ax⟩ := stepD_read hx h1
  obtain ⟨vy, m', u', rfl, ay⟩ := stepD_any h2
  refine ⟨⟨putS sl y.dst vy, m', u'⟩, ay sl (hag (agree_put p1 sl vx)) (by rw [wy]), ?_⟩
  rcases hy with ⟨e1, e2⟩ | ⟨id, o, e1, hn⟩
  · simp only at e1 e2
    subst e1; subst e2
    obtain ⟨vx2, m2, u2, e2, ax2⟩ := stepD_any h1
    simp only [St.mk.injEq] at e2
    obtain ⟨e2, rfl, rfl⟩ := e2
    rw [ax2 _ (agree_put p3 sl vy) (by rw [wx])]
    have : putS sl x.dst vx2 = putS sl x.dst vx := e2.symm
    rw [← putS_comm sl x.dst y.dst vx2 vy p2, this]
  · simp only at e1
    subst e1
    rw [ax _ id o u' hn (agree_put p3 sl vy) (by rw [wx])]
    rw [putS_comm sl x.dst y.dst vx vy p2]

/-! ### any order -/
/-- One operation by its number. -/
def stepN (Ty : Tys) (T : Specs) (ops : Array Oper) (i : Nat) (s : St) : Option St := match ops[i]? with | none => some s | some o => stepD Ty T ops.toList o s

/-- Whatever order is drawn. -/
def anyD (Ty : Tys) (T : Specs) (md : Region.Mode) (ops : Array Oper) (r : St) : Nat → Array Bool → St → Prop
  | 0, listed, s => Region.ready md ops listed = [] ∧ s = r
  | n + 1, listed, s => (Region.ready md ops listed = [] → s = r) ∧ ∀ i ∈ Region.ready md ops listed, ∃ s', stepN Ty T ops i s = some s' ∧ anyD Ty T md ops r n (listed.setIfInBounds i true) s'

/-- Is j behind i, be it through others? -/
def behind (md : Region.Mode) (ops : Array Oper) (i : Nat) : Nat → Nat → Bool
  | 0, _ => false
  | n + 1, j => match ops[j]? with
    | none => false
    | some oj => oj.after.any fun e => Region.binds md e && (Nat.beq e.on i || behind md ops i n e.on)

/-- What is listed has what it is behind listed. -/
def Down (md : Region.Mode) (ops : Array Oper) (listed : Array Bool) : Prop := ∀ j o, ops[j]? = some o → listed.getD j false = true → ∀ e ∈ o.after, Region.binds md e = true → listed.getD e.on false = true

theorem behind_listed {md : Region.Mode} {ops : Array Oper} {listed : Array Bool} (hd : Down md ops listed) {i : Nat} : ∀ (n j : Nat) (o : Oper), ops[j]? = some o → (∀ e ∈ o.after, Region.binds md e = true → listed.getD e.on false = true) → behind md ops i n j = true → listed.getD i false = true
  | 0, _, _, _, _, h => by cases h
  | n + 1, j, o, hj, hall, h => by
    simp only [behind, hj] at h
    obtain ⟨e, he, hb⟩ := Array.any_eq_true'.1 h
    simp only [Bool.and_eq_true, Bool.or_eq_true] at hb
    have hl := hall e he hb.1
    rcases hb.2 with q | q
    · rw [← Nat.eq_of_beq_eq_true q]; exact hl
    · cases hk : ops[e.on]? with
      | none => cases n <;> simp [behind, hk] at q
      | some ok => exact behind_listed hd n e.on ok hk (fun e' he' hb' => hd e.on ok hk hl e' he' hb') q

/-- A slot that is put by nothing but what is behind. -/
def fixedAt (md : Region.Mode) (ops : Array Oper) (i t : Nat) : Bool := (List.range ops.size).all fun k => match ops[k]? with
  | some o => !(match o.dst with | some d => Nat.beq d t | none => false) || behind md ops k 6 i
  | none => true
/-- Do a read and a write go to two different boxes? 'F': the slots at the end. -/
def twoBoxes (md : Region.Mode) (ops : Array Oper) (F : List SV) (i j : Nat) (oi oj : Oper) : Bool :=
  let ne (a b : Nat) : Bool := fixedAt md ops i a && fixedAt md ops j b && (match getAt F a, getAt F b with | .box p _, .box q _ => !(Nat.beq p q) | _, _ => false)
  oi.guard.isNone && oj.guard.isNone && (match oi.op, oj.op with
  | .load _ (.tmp a), .store _ (.tmp b) _ => ne a b
  | .store _ (.tmp a) _, .load _ (.tmp b) => ne a b
  | _, _ => false)
/-- Is it a slice of data? -/
def pureSl (md : Region.Mode) (ops : Array Oper) (F : List SV) (i : Nat) (oi : Oper) : Bool := match oi.op with
  | .slice _ (.tmp a) _ _ _ => fixedAt md ops i a && (match getAt F a with | .lst _ _ => true | _ => false)
  | _ => false
/-- Does it make a slice of what is no row of one's own? -/
def makeB (md : Region.Mode) (ops : Array Oper) (F : List SV) (j : Nat) (oj : Oper) : Bool := !F.isEmpty && (match oj.op with
  | .buildSlice _ _ ps => ps.toList.all fun p => (match p.2 with | .tmp t => fixedAt md ops j t && noRows (cellsOf (getAt F t)) | x => noRows (cellsOf (evl [] x)))
  | _ => false)
def mayF (Ty : Tys) (T : Specs) (md : Region.Mode) (ops : Array Oper) (F : List SV) (i j : Nat) (oi oj : Oper) : Bool := twoBoxes md ops F i j oi oj || (pureSl md ops F i oi || (pureSl md ops F j oj || (readC Ty T oi && makeB md ops F j oj)))
/-- Each of the region's pairs may change places, or one is behind the other. -/
def pairsOk (Ty : Tys) (T : Specs) (md : Region.Mode) (ops : Array Oper) (F : List SV) : Bool :=
  (List.range ops.size).all fun i => (List.range ops.size).all fun j => Nat.ble j i || match ops[i]?, ops[j]? with
    | some oi, some oj => (oi.apart ops oj && pairD Ty T oi oj) || (behind md ops i 6 j || (oi.apart ops oj && mayF Ty T md ops F i j oi oj))
    | _, _ => true

/-- Each is ready in the text's order. -/
def inOrder (md : Region.Mode) (ops : Array Oper) : Nat → Nat → Array Bool → Bool
  | 0, _, listed => (Region.ready md ops listed).isEmpty
  | n + 1, k, listed => (Region.ready md ops listed).contains k && inOrder md ops n (k + 1) (listed.setIfInBounds k true)

def drawOk (Ty : Tys) (T : Specs) (ops : Array Oper) (F : List SV) : Bool := inOrder .any ops ops.size 0 (Array.replicate ops.size false) && pairsOk Ty T .any ops F

theorem drawOk_any {Ty : Tys} {T : Specs} {ops : Array Oper} {F : List SV} (h : drawOk Ty T ops [] = true) : drawOk Ty T ops F = true := by
  simp only [drawOk, Bool.and_eq_true] at h ⊢
  refine ⟨h.1, ?_⟩
  have h := h.2
  simp only [pairsOk, List.all_eq_true, List.mem_range] at h ⊢
  intro i hi j hj
  have := h i hi j hj
  split at this
  · rename_i oi oj e1 e2
    simp only [Bool.or_eq_true, Bool.and_eq_true] at this ⊢
    rcases this with q | q | q | ⟨q1, q2⟩
    · exact .inl q
    · exact .inr (.inl q)
    · exact .inr (.inr (.inl q))
    · refine .inr (.inr (.inr ⟨q1, ?_⟩))
      · exfalso
        have np : ∀ k o, pureSl .any ops [] k o = false := fun k o => by
          unfold pureSl
          split
          · simp [getAt]
          · rfl
        have nb : ∀ k o, makeB .any ops [] k o = false := fun k o => rfl
        unfold mayF at q2
        rw [np, np, nb, Bool.and_false, Bool.or_self, Bool.or_self, Bool.or_false] at q2
        simp only [twoBoxes, getAt, Bool.and_eq_true] at q2
        have q3 := q2.2
        split at q3 <;> simp at q3
  · simp
theorem Down.put {md : Region.Mode} {ops : Array Oper} {listed : Array Bool} (hd : Down md ops listed) {i : Nat} (hi : i ∈ Region.ready md ops listed) : Down md ops (listed.setIfInBounds i true) := by
  intro j o hj hl e he hb
  obtain ⟨_, oi, hoi, hall⟩ := mem_ready.1 hi
  by_cases q : i = j
  · subst q; rw [hoi] at hj; cases hj; exact getD_set_true (hall e he hb)
  · rw [getD_set_ne false q] at hl; exact getD_set_true (hd j o hj hl e he hb)

theorem pairsOk_at {Ty : Tys} {T : Specs} {md : Region.Mode} {ops : Array Oper} {F : List SV} (h : pairsOk Ty T md ops F = true) {i j : Nat} (hij : i < j) {oi oj : Oper} (hi : ops[i]? = some oi) (hj : ops[j]? = some oj) : behind md ops i 6 j = true ∨ (oi.apart ops oj = true ∧ (pairD Ty T oi oj = true ∨ mayF Ty T md ops F i j oi oj = true)) := by
  simp only [pairsOk, List.all_eq_true, List.mem_range] at h
  have := h i (Array.getElem?_eq_some_iff.1 hi).1 j (Array.getElem?_eq_some_iff.1 hj).1
  simp only [hi, hj, Bool.or_eq_true, Bool.and_eq_true] at this
  rcases this with q | q | q | q
  · have := Nat.le_of_ble_eq_true q; omega
  · exact .inr ⟨q.1, .inl q.2⟩
  · exact .inl q
  · exact .inr ⟨q.1, .inr q.2⟩

theorem anyD_slots {Ty : Tys} {T : Specs} {md : Region.Mode} {ops : Array Oper} {r : St} {t : Nat} : ∀ (n : Nat) (listed : Array Bool) (s : St), anyD Ty T md ops r n listed s → (∀ k o, ops[k]? = some o → listed.getD k true = false → o.dst ≠ some t) → getAt s.slots t = getAt r.slots t
  | 0, listed, s, H, _ => by rw [H.2]
  | n + 1, listed, s, H, hf => by
    cases hr : Region.ready md ops listed with
    | nil => rw [H.1 hr]
    | cons i l =>
      have hi : i ∈ Region.ready md ops listed := by rw [hr]; exact List.mem_cons_self
      obtain ⟨s', hs, H'⟩ := H.2 i hi
      obtain ⟨hun, oi, hoi, _⟩ := mem_ready.1 hi
      simp only [stepN, hoi] at hs
      obtain ⟨sv, m', u', rfl, _⟩ := stepD_any (sl := s.slots) (m := s.mem) (u := s.used) hs
      have := anyD_slots n _ _ H' (fun k o hk hl => hf k o hk (by
        by_cases q : i = k
        · subst q
          exfalso
          rcases Nat.lt_or_ge i listed.size with h' | h'
          · simp [h'] at hl
          · simp [Array.getElem?_eq_none h'] at hun
        · rw [getD_set_ne true q] at hl; exact hl))
      rw [← this]
      have hne := hf i oi hoi hun
      cases hd : oi.dst with
      | none => rfl
      | some d => exact (getAt_setAt_ne (fun q => hne (by rw [hd, q]))).symm

theorem fixedAt_listed {md : Region.Mode} {ops : Array Oper} {listed : Array Bool} (hd : Down md ops listed) {i t : Nat} {oi : Oper} (hoi : ops[i]? = some oi) (hall : ∀ e ∈ oi.after, Region.binds md e = true → listed.getD e.on false = true) (h : fixedAt md ops i t = true) {k : Nat} {o : Oper} (hk : ops[k]? = some o) (hl : listed.getD k true = false) : o.dst ≠ some t := by
  intro q
  simp only [fixedAt, List.all_eq_true, List.mem_range] at h
  have := h k (Array.getElem?_eq_some_iff.1 hk).1
  simp only [hk, q, Nat.beq_refl, Bool.not_true, Bool.false_or] at this
  have := behind_listed hd 6 i oi hoi hall this
  rcases Nat.lt_or_ge k listed.size with h' | h'
  · simp [h'] at hl this; rw [hl] at this; cases this
  · simp [Array.getElem?_eq_none h'] at hl

theorem anyD_first {Ty : Tys} {T : Specs} {md : Region.Mode} {ops : Array Oper} {r : St} (hp : pairsOk Ty T md ops r.slots = true) {i : Nat} {oi : Oper} (hi : ops[i]? = some oi) : ∀ (n : Nat) (listed : Array Bool) (s s1 : St), (∀ j, j < i → listed.getD j false = true) → Down md ops listed → i ∈ Region.ready md ops listed →
    stepD Ty T ops.toList oi s = some s1 → anyD Ty T md ops r n (listed.setIfInBounds i true) s1 → anyD Ty T md ops r (n + 1) listed s := by
  intro n
  induction n with
  | zero =>
    intro listed s s1 hlow hd hr h1 H
    refine ⟨fun h => (by rw [h] at hr; cases hr), fun j hj => ?_⟩
    by_cases hji : j = i
    · subst hji; exact ⟨s1, by simp only [stepN, hi]; exact h1, H⟩
    · have := ready_mono hj hji
      rw [H.1] at this
      cases this
  | succ n ih =>
    intro listed s s1 hlow hd hr h1 H
    refine ⟨fun h => (by rw [h] at hr; cases hr), fun j hj => ?_⟩
    by_cases hji : j = i
    · subst hji; exact ⟨s1, by simp only [stepN, hi]; exact h1, H⟩
    · obtain ⟨hjun, oj, hoj, hall⟩ := mem_ready.1 hj
      obtain ⟨s2, hs2, H2⟩ := H.2 j (ready_mono hj hji)
      simp only [stepN, hoj] at hs2
      have hij : i < j := by
        rcases Nat.lt_or_ge i j with q | q
        · exact q
        · have hl := hlow j (by omega)
          exfalso
          rcases Nat.lt_or_ge j listed.size with h' | h'
          · simp [h'] at hl hjun; rw [hl] at hjun; cases hjun
          · simp [Array.getElem?_eq_none h'] at hl
      have hiun : listed.getD i false = false := by
        have h0 := (mem_ready.1 hr).1
        rcases Nat.lt_or_ge i listed.size with h' | h'
        · simp [h'] at h0 ⊢; exact h0
        · simp [Array.getElem?_eq_none h'] at h0
      rcases pairsOk_at hp hij hi hoj with q | ⟨q1, q2⟩
      · have := behind_listed hd 6 j oj hoj hall q
        rw [hiun] at this; cases this
      · have swap : ∃ s3, stepD Ty T ops.toList oj s = some s3 ∧ stepD Ty T ops.toList oi s3 = some s2 := by
          rcases q2 with q2 | q2
          · exact swapD q1 q2 h1 hs2
          · obtain ⟨_, oi', hoi', halli⟩ := mem_ready.1 hr
            rw [hi] at hoi'; cases hoi'
            have hiun' := (mem_ready.1 hr).1
            have at_ : ∀ (k t : Nat) (ok : Oper), ops[k]? = some ok → (∀ e ∈ ok.after, Region.binds md e = true → listed.getD e.on false = true) → fixedAt md ops k t = true → getAt s.slots t = getAt r.slots t := fun k t ok hok hallk hfx => by
              have hun : ∀ k' o', ops[k']? = some o' → listed.getD k' true = false → o'.dst ≠ some t := fun k' o' h1 h2 => fixedAt_listed hd hok hallk hfx h1 h2
              have e1 := anyD_slots _ _ _ H (t := t) (fun k' o' hk' hl' => hun k' o' hk' (by
                by_cases q : i = k'
                · subst q
                  exfalso
                  rcases Nat.lt_or_ge i listed.size with h' | h'
                  · simp [h'] at hl'
                  · simp [Array.getElem?_eq_none h'] at hiun'
                · rw [getD_set_ne true q] at hl'; exact hl'))
              rw [← e1]
              obtain ⟨sv, m', u', rfl, _⟩ := stepD_any (sl := s.slots) (m := s.mem) (u := s.used) h1
              have hne := hun i oi hi hiun'
              cases hdd : oi.dst with
              | none => rfl
              | some d => exact (getAt_setAt_ne (fun q => hne (by rw [hdd, q]))).symm
            have blind : ∀ (k : Nat) (ok : Oper) (sl : List SV), pureSl md ops r.slots k ok = true → (∀ t, fixedAt md ops k t = true → getAt sl t = getAt r.slots t) → Blind Ty T ops.toList ok sl := fun k ok sl hp hsl => by
              unfold pureSl at hp
              split at hp
              · rename_i t1 a lo hi mx hop
                simp only [Bool.and_eq_true] at hp
                obtain ⟨hp1, hp2⟩ := hp
                split at hp2
                · rename_i e xs hF
                  exact fun m u s' hst => stepD_slc hop ((hsl a hp1).trans hF) hst
                · cases hp2
              · cases hp
            simp only [mayF, Bool.or_eq_true] at q2
            rcases q2 with q2 | q2 | q2 | q2
            rotate_left
            · exact swapB q1 (.inl (blind i oi s.slots q2 (fun t ht => at_ i t oi hi halli ht))) h1 hs2
            · refine swapB q1 (.inr (blind j oj s1.slots q2 (fun t ht => ?_))) h1 hs2
              have hun : ∀ k' o', ops[k']? = some o' → listed.getD k' true = false → o'.dst ≠ some t := fun k' o' z1 z2 => fixedAt_listed hd hoj hall ht z1 z2
              exact anyD_slots _ _ _ H (t := t) (fun k' o' hk' hl' => hun k' o' hk' (by
                by_cases q : i = k'
                · subst q
                  exfalso
                  rcases Nat.lt_or_ge i listed.size with h' | h'
                  · simp [h'] at hl'
                  · simp [Array.getElem?_eq_none h'] at hiun'
                · rw [getD_set_ne true q] at hl'; exact hl'))
            · simp only [Bool.and_eq_true] at q2
              obtain ⟨q3, q4⟩ := q2
              unfold makeB at q4
              simp only [Bool.and_eq_true] at q4
              obtain ⟨_, q4⟩ := q4
              split at q4
              · rename_i t1 len ps hop
                refine swapRM q1 q3 (stepD_makeB hop ?_ hs2) h1 hs2
                have aj : ∀ t, fixedAt md ops j t = true → getAt s1.slots t = getAt r.slots t := fun t ht => by
                  have hun : ∀ k' o', ops[k']? = some o' → listed.getD k' true = false → o'.dst ≠ some t := fun k' o' z1 z2 => fixedAt_listed hd hoj hall ht z1 z2
                  exact anyD_slots _ _ _ H (t := t) (fun k' o' hk' hl' => hun k' o' hk' (by
                    by_cases q : i = k'
                    · subst q
                      exfalso
                      rcases Nat.lt_or_ge i listed.size with h' | h'
                      · simp [h'] at hl'
                      · simp [Array.getElem?_eq_none h'] at hiun'
                    · rw [getD_set_ne true q] at hl'; exact hl'))
                rw [List.all_eq_true] at q4 ⊢
                intro p hp
                rw [evlp_eq] at hp
                obtain ⟨z, hz, rfl⟩ := List.mem_map.1 hp
                have := q4 z hz
                cases hzo : z.2 with
                | tmp t =>
                  simp only [hzo, Bool.and_eq_true] at this
                  show noRows (cellsOf (getAt s1.slots t)) = true
                  rw [aj t this.1]; exact this.2
                | _ =>
                  simp only [hzo] at this
                  exact this
              · cases q4
            simp only [twoBoxes, Bool.and_eq_true, Option.isNone_iff_eq_none] at q2
            obtain ⟨⟨g1, g2⟩, q2⟩ := q2
            split at q2
            · rename_i t1 a t2 b z e1 e2
              simp only [Bool.and_eq_true] at q2
              obtain ⟨⟨f1, f2⟩, q2⟩ := q2
              split at q2
              · rename_i p1 o1 p2 o2 hA hB
                have hne : p1 ≠ p2 := fun q => by rw [q] at q2; simp at q2
                exact swapLS q1 e1 g1 e2 g2 ((at_ i a oi hi halli f1).trans hA) ((at_ j b oj hoj hall f2).trans hB) hne h1 hs2
              · cases q2
            · rename_i t1 a z t2 b e1 e2
              simp only [Bool.and_eq_true] at q2
              obtain ⟨⟨f1, f2⟩, q2⟩ := q2
              split at q2
              · rename_i p1 o1 p2 o2 hA hB
                have hne : p1 ≠ p2 := fun q => by rw [q] at q2; simp at q2
                exact swapSL q1 e1 g1 e2 g2 ((at_ i a oi hi halli f1).trans hA) ((at_ j b oj hoj hall f2).trans hB) hne h1 hs2
              · cases q2
            · cases q2
        obtain ⟨s3, h3, h4⟩ := swap
        refine ⟨s3, by simp only [stepN, hoj]; exact h3, ih (listed.setIfInBounds j true) s3 s2 (fun k hk => ?_) (hd.put hj) (ready_mono hr (Ne.symm hji)) h4 ?_⟩
        · exact getD_set_true (hlow k hk)
        · rw [Array.setIfInBounds_comm _ _ hji]; exact H2

/-- The text's order. -/
def runD (Ty : Tys) (T : Specs) (all : List Oper) : List Oper → St → Option St
  | [], s => some s
  | o :: r, s => match stepD Ty T all o s with | some s' => runD Ty T all r s' | none => none

theorem anyD_text {Ty : Tys} {T : Specs} {md : Region.Mode} {ops : Array Oper} {r : St} (hp : pairsOk Ty T md ops r.slots = true) : ∀ (l : List Oper) (k : Nat) (listed : Array Bool) (s : St), (∀ j, l[j]? = ops[k + j]?) → (∀ j, j < k → listed.getD j false = true) → Down md ops listed → inOrder md ops l.length k listed = true →
    runD Ty T ops.toList l s = some r → anyD Ty T md ops r l.length listed s
  | [], k, listed, s, hl, hlow, hd, ho, h => by
    simp only [runD, Option.some.injEq] at h
    exact ⟨by simpa [inOrder] using ho, h⟩
  | o :: l, k, listed, s, hl, hlow, hd, ho, h => by
    have h0 : ops[k]? = some o := by simpa using (hl 0).symm
    simp only [List.length_cons, inOrder, Bool.and_eq_true] at ho
    obtain ⟨hr, ho'⟩ := ho
    have hr : k ∈ Region.ready md ops listed := by simpa using hr
    simp only [runD] at h
    cases hs : stepD Ty T ops.toList o s with
    | none => simp [hs] at h
    | some s1 =>
      simp only [hs] at h
      refine anyD_first hp h0 l.length listed s s1 hlow hd hr hs (anyD_text hp l (k + 1) _ s1 (fun j => by have := hl (j + 1); simpa [Nat.add_assoc, Nat.add_comm 1 j] using this) (fun j hj => ?_) (hd.put hr) ho' h)
      by_cases q : j = k
      · subst q
        have hlt : j < listed.size := by
          have h0 := (mem_ready.1 hr).1
          rcases Nat.lt_or_ge j listed.size with h' | h'
          · exact h'
          · simp [Array.getElem?_eq_none h'] at h0
        simp [hlt]
      · exact getD_set_true (hlow j (by omega))

/-- Whatever order is drawn, the machine comes where the text's order comes. -/
theorem wpAny_of_anyD {E : Env} (hE : EnvOk E) {T : Specs} (hT : SpecsOk E T) {sm : List Nat} {ρ0 : Ren} {m0 : Mem} {w0 : World} {md : Region.Mode} {ops : Array Oper} {r : St} {Q : Exit → Act → World → Prop} (hQ : ∀ ρ a w, Far E sm ρ0 m0 w0 ρ r a w → Q .normal a w) :
    ∀ (n : Nat) (listed : Array Bool) (s : St) (ρ : Ren) (a : Act) (w : World), Far E sm ρ0 m0 w0 ρ s a w → anyD E.Ty T md ops r n listed s → wpAny E.P md ops Q n listed a w
  | 0, listed, s, ρ, a, w, hF, h => ⟨h.1, by rw [h.2] at hF; exact hQ ρ a w hF⟩
  | n + 1, listed, s, ρ, a, w, hF, h => by
    refine ⟨fun h0 => by rw [h.1 h0] at hF; exact hQ ρ a w hF, fun i hi => ?_⟩
    obtain ⟨s', hs, hany⟩ := h.2 i hi
    unfold wpOp
    split
    · rename_i ho
      simp only [stepN, ho, Option.some.injEq] at hs
      subst hs
      exact wpAny_of_anyD hE hT hQ n _ s ρ a w hF hany
    · rename_i o ho
      simp only [stepN, ho] at hs
      exact stepD_sound hE hT hF hs (fun ρ' a' w' hF' => wpAny_of_anyD hE hT hQ n _ s' ρ' a' w' hF' hany)
end Sx

/-
  Sx, part 19: at a loop's head: what is not needed is forgotten, and own memory is named anew.
-/
set_option linter.unusedVariables false
set_option linter.unusedSimpArgs false
set_option linter.unnecessarySimpa false
namespace Sx
open Go

abbrev Names := List (Nat × Nat)
def look : Names → Nat → Option Nat
  | [], _ => none
  | (a, b) :: r, x => bif Nat.beq a x then some b else look r x
def invl : Names → Nat → Option Nat
  | [], _ => none
  | (a, b) :: r, y => bif Nat.beq b y then some a else invl r y

mutual
def ren (τ : Names) : SV → SV
  | .box id off => (match look τ id with | some i => .box i off | none => .dead)
  | .elt id sz i off => (match look τ id with | some j => .elt j sz i off | none => .dead)
  | .ael id base sz n i off => (match look τ id with | some j => .ael j base sz n i off | none => .dead)
  | .row id => (match look τ id with | some j => .row j | none => .dead)
  | .agg cs => .agg (renL τ cs)
  | .tup cs => .tup (renL τ cs)
  | .fn f fs cs => .fn f (renL τ fs) (renL τ cs)
  | .bool b => .bool b
  | .int k n => .int k n
  | .str s => .str s
  | .pnil => .pnil
  | .snil => .snil
  | .adr cs => .adr cs
  | .lst e xs => .lst e xs
  | .opq v => .opq v
  | .dead => .dead
def renL (τ : Names) : List SV → List SV
  | [] => []
  | x :: r => ren τ x :: renL τ r
end
theorem renL_eq (τ : Names) : ∀ l : List SV, renL τ l = l.map (ren τ)
  | [] => by simp [renL]
  | x :: r => by simp [renL, renL_eq τ r]

mutual
/-- The names of own memory that a value tells. -/
def idsOf : SV → List Nat → List Nat
  | .box id _, acc => id :: acc
  | .elt id _ _ _, acc => id :: acc
  | .ael id _ _ _ _ _, acc => id :: acc
  | .row id, acc => id :: acc
  | .agg cs, acc => idsOfL cs acc
  | .tup cs, acc => idsOfL cs acc
  | .fn _ fs cs, acc => idsOfL fs (idsOfL cs acc)
  | _, acc => acc
def idsOfL : List SV → List Nat → List Nat
  | [], acc => acc
  | x :: r, acc => idsOf x (idsOfL r acc)
end

def renO (τ : Names) : SObj → SObj
  | .box t cs => .box t (renL τ cs)
  | .row e xs => .row e xs
def renM (τ : Names) (m : Mem) : Names → Mem
  | [] => []
  | (a, b) :: r => match m.get a with
    | some o => (b, renO τ o) :: renM τ m r
    | none => renM τ m r

/-- Each slot that is needed; the others are forgotten. -/
def keep (live : List Nat) : Nat → List SV → List SV
  | _, [] => []
  | k, x :: r => (bif hasNat live k then x else .dead) :: keep live (k + 1) r

def nodupB : List Nat → Bool
  | [] => true
  | a :: r => !(hasNat r a) && nodupB r

def smallB (τ : Names) : Bool := τ.all fun p => Nat.blt p.2 1000000
/-- Names for those that are told, and for those that are told by what they hold. -/
def assign (m : Mem) : Nat → List Nat → Nat → Names → Names
  | 0, _, _, τ => τ
  | _ + 1, [], _, τ => τ
  | f + 1, id :: r, k, τ => match look τ id with
    | some _ => assign m f r k τ
    | none => (match m.get id with
      | some (.box _ cs) => assign m f (r ++ idsOfL cs []) (k + 1) (τ ++ [(id, k)])
      | some (.row _ _) => assign m f r (k + 1) (τ ++ [(id, k)])
      | none => assign m f r k τ)
def selfNames : List Nat → Names
  | [] => []
  | i :: r => (i, i) :: selfNames r
/-- What small names hold. -/
def heldBy (m : Mem) : List Nat → List Nat
  | [] => []
  | i :: r => (match m.get i with | some (.box _ cs) => idsOfL cs [] | _ => []) ++ heldBy m r

def boxesOk (Ty : Tys) : Mem → Bool
  | [] => true
  | (_, .box t cs) :: r => (match Ty t with | some d => tyBCs d.cells cs | none => false) && boxesOk Ty r
  | (_, .row _ _) :: r => boxesOk Ty r

def renSt (τ : Names) (live : List Nat) (s : St) : St := ⟨renL τ (keep live 0 s.slots), renM τ s.mem τ, τ.map (·.2)⟩
def canonW (Ty : Tys) (sm live : List Nat) (s : St) (τ : Names) : Option St :=
  bif nodupB (τ.map (·.1)) && nodupB (τ.map (·.2)) && smallB τ && boxesOk Ty (renM τ s.mem τ) && sm.all (fun i => match look τ i with | some j => Nat.beq i j | none => false) then some (renSt τ live s) else none
def canon1 (Ty : Tys) (sm live : List Nat) (s : St) : Option St := canonW Ty sm live s (assign s.mem 200 (idsOfL (keep live 0 s.slots) (heldBy s.mem sm)) 100 (selfNames sm))
/-- Nil slices become empty rows of one's own: their slots, with their elements' types. -/
def nilRows (Ty : Tys) : List (Nat × TypeId) → St → St
  | [], s => s
  | (t, e) :: r, s => match getAt s.slots t, Ty e with
    | .snil, some _ => (match s.freshN (.row e []) with
      | some (id, s') => nilRows Ty r ⟨setAt s'.slots t (.row id), s'.mem, s'.used⟩
      | none => nilRows Ty r s)
    | _, _ => nilRows Ty r s
/-- A box's cell is told otherwise. -/
def St.cell (s : St) (id t : Nat) (cs : List SV) (j : Nat) (x : SV) : St := ⟨s.slots, s.mem.put id (.box t (setAt cs j x)), s.used⟩
/-- Nil slices in a box become empty rows of one's own. -/
def nilCells (Ty : Tys) (id : Nat) : Nat → List CK → St → St
  | _, [], s => s
  | j, .slice e :: ks, s => (match s.mem.get id with
    | some (.box t cs) => (match getAt cs j, Ty e with
      | .snil, some _ => (match s.freshN (.row e []) with
        | some (n, s') => nilCells Ty id (j + 1) ks (s'.cell id t cs j (.row n))
        | none => nilCells Ty id (j + 1) ks s)
      | _, _ => nilCells Ty id (j + 1) ks s)
    | _ => s)
  | j, _ :: ks, s => nilCells Ty id (j + 1) ks s
def nilMem (Ty : Tys) : Mem → St → St
  | [], s => s
  | (id, .box t _) :: r, s => nilMem Ty r (match Ty t with | some d => nilCells Ty id 0 d.cells s | none => s)
  | (_, .row _ _) :: r, s => nilMem Ty r s
def canon (Ty : Tys) (sm : List Nat) (live : List Nat × List (Nat × TypeId)) (s : St) : Option St :=
  canon1 Ty sm live.1 (nilMem Ty s.mem (nilRows Ty live.2 s))

/-! ### it says nothing new -/
theorem hasNat_iff : ∀ {l : List Nat} {x : Nat}, hasNat l x = true ↔ x ∈ l
  | [], x => by simp [hasNat]
  | a :: l, x => by
    simp only [hasNat, Bool.or_eq_true, List.mem_cons, hasNat_iff (l := l)]
    constructor
    · rintro (h | h)
      · exact .inl (Nat.eq_of_beq_eq_true h).symm
      · exact .inr h
    · rintro (h | h)
      · subst h; exact .inl (Nat.beq_refl _)
      · exact .inr h
theorem look_mem : ∀ {τ : Names} {a b : Nat}, look τ a = some b → (a, b) ∈ τ
  | [], _, _, h => by cases h
  | (x, y) :: r, a, b, h => by
    simp only [look, cond_eq_ite] at h
    split at h
    · rename_i e; cases h; rw [Nat.eq_of_beq_eq_true e]; simp
    · exact List.mem_cons_of_mem _ (look_mem h)
theorem invl_mem : ∀ {τ : Names} {a b : Nat}, invl τ b = some a → (a, b) ∈ τ
  | [], _, _, h => by cases h
  | (x, y) :: r, a, b, h => by
    simp only [invl, cond_eq_ite] at h
    split at h
    · rename_i e; cases h; rw [Nat.eq_of_beq_eq_true e]; simp
    · exact List.mem_cons_of_mem _ (invl_mem h)
theorem invl_of_mem : ∀ {τ : Names} {a b : Nat}, nodupB (τ.map (·.2)) = true → (a, b) ∈ τ → invl τ b = some a
  | [], _, _, _, h => by cases h
  | (x, y) :: r, a, b, hn, h => by
    simp only [List.map_cons, nodupB, Bool.and_eq_true, Bool.not_eq_true'] at hn
    simp only [invl, cond_eq_ite]
    rcases List.mem_cons.1 h with h | h
    · cases h; simp [Nat.beq_refl]
    · have : ¬ (Nat.beq y b = true) := fun e => by
        have hy := Nat.eq_of_beq_eq_true e
        subst hy
        have : hasNat (r.map (·.2)) y = true := hasNat_iff.2 (List.mem_map.2 ⟨(a, y), h, rfl⟩)
        rw [this] at hn; cases hn.1
      rw [if_neg this]; exact invl_of_mem hn.2 h
theorem nodup_fst {τ : Names} {a b b' : Nat} : ∀ (_ : nodupB (τ.map (·.1)) = true), (a, b) ∈ τ → (a, b') ∈ τ → b = b' := by
  induction τ with
  | nil => intro _ h; cases h
  | cons p r ih =>
    obtain ⟨x, y⟩ := p
    intro hn h h'
    simp only [List.map_cons, nodupB, Bool.and_eq_true, Bool.not_eq_true'] at hn
    have no : ∀ z, (x, z) ∉ r := fun z hz => by
      have : hasNat (r.map (·.1)) x = true := hasNat_iff.2 (List.mem_map.2 ⟨(x, z), hz, rfl⟩)
      rw [this] at hn; cases hn.1
    rcases List.mem_cons.1 h with e | e <;> rcases List.mem_cons.1 h' with e' | e'
    · cases e; cases e'; rfl
    · cases e; exact absurd e' (no _)
    · cases e'; exact absurd e (no _)
    · exact ih hn.2 e e'

/-- The names' values, by the new names. -/
def renRho (τ : Names) (ρ : Ren) : Ren := fun n => if 1000000 ≤ n then ρ n else match invl τ n with | some a => ρ a | none => none
theorem small_mem {τ : Names} (hs : smallB τ = true) {a b : Nat} (h : (a, b) ∈ τ) : b < 1000000 := by
  simp only [smallB, List.all_eq_true] at hs
  have := hs _ h
  simpa [Nat.blt_eq] using this
theorem renRho_mem {τ : Names} {ρ : Ren} (hn : nodupB (τ.map (·.2)) = true) (hs : smallB τ = true) {a b : Nat} (h : (a, b) ∈ τ) : renRho τ ρ b = ρ a := by
  have hb := small_mem hs h
  unfold renRho; rw [if_neg (by omega), invl_of_mem hn h]
theorem renRho_at {τ : Names} {ρ : Ren} (hn : nodupB (τ.map (·.2)) = true) (hs : smallB τ = true) {a b : Nat} (h : look τ a = some b) : renRho τ ρ b = ρ a := renRho_mem hn hs (look_mem h)
theorem renRho_hid {τ : Names} {ρ : Ren} {b : Nat} (h : hid (renRho τ ρ) b) : hid ρ b := by
  obtain ⟨i, v, hi, hv, hb⟩ := h
  exact ⟨i, v, hi, by unfold renRho at hv; rwa [if_pos hi] at hv, hb⟩

theorem Rel.ren {E : Env} {w : World} {ok : Nat → Prop} {ρ : Ren} {τ : Names} (hn : nodupB (τ.map (·.2)) = true) (hsm : smallB τ = true) {s : SV} {v : Value} (h : Rel E w ok ρ s v) : Rel E w ok (renRho τ ρ) (Sx.ren τ s) v := by
  induction h with
  | data s v h => cases h <;> (simp only [Sx.ren]; exact .data _ _ (by constructor <;> assumption))
  | snil => exact .snil
  | box id off b h =>
    simp only [Sx.ren]
    cases hl : look τ id with
    | none => exact .dead _
    | some i => exact .box i off b (by rw [renRho_at hn hsm hl]; exact h)
  | elt id sz i off b n c h hi =>
    simp only [Sx.ren]
    cases hl : look τ id with
    | none => exact .dead _
    | some j => exact .elt j sz i off b n c (by rw [renRho_at hn hsm hl]; exact h) hi
  | ael id base sz n i off b h hi =>
    simp only [Sx.ren]
    cases hl : look τ id with
    | none => exact .dead _
    | some j => exact .ael j base sz n i off b (by rw [renRho_at hn hsm hl]; exact h) hi
  | adr cs a u hok hcell hr => exact .adr cs a u hok hcell hr
  | row id v h =>
    simp only [Sx.ren]
    cases hl : look τ id with
    | none => exact .dead _
    | some j => exact .row j v (by rw [renRho_at hn hsm hl]; exact h)
  | agg cs vs hl hr ih =>
    simp only [Sx.ren, renL_eq]
    refine .agg _ vs (by simp [hl]) (fun j s v hs hv => ?_)
    rw [List.getElem?_map] at hs
    cases hc : cs[j]? with
    | none => simp [hc] at hs
    | some c => simp [hc] at hs; subst hs; exact ih j c v hc hv
  | tup cs vs hl hr ih =>
    simp only [Sx.ren, renL_eq]
    refine .tup _ vs (by simp [hl]) (fun j s v hs hv => ?_)
    rw [List.getElem?_map] at hs
    cases hc : cs[j]? with
    | none => simp [hc] at hs
    | some c => simp [hc] at hs; subst hs; exact ih j c v hc hv
  | fn f fs cs gs ds hl hl' hr hr' ih ih' =>
    simp only [Sx.ren, renL_eq]
    refine .fn f _ _ gs ds (by simp [hl]) (by simp [hl']) (fun j s v hs hv => ?_) (fun j s v hs hv => ?_)
    · rw [List.getElem?_map] at hs
      cases hc : fs[j]? with
      | none => simp [hc] at hs
      | some c => simp [hc] at hs; subst hs; exact ih j c v hc hv
    · rw [List.getElem?_map] at hs
      cases hc : cs[j]? with
      | none => simp [hc] at hs
      | some c => simp [hc] at hs; subst hs; exact ih' j c v hc hv
  | dead v => exact .dead v

theorem renM_get {τ : Names} {m : Mem} : ∀ {τs : Names} {n : Nat} {o : SObj}, (renM τ m τs).get n = some o → ∃ a o', (a, n) ∈ τs ∧ m.get a = some o' ∧ o = renO τ o'
  | [], _, _, h => by cases h
  | (a, b) :: r, n, o, h => by
    simp only [renM] at h
    cases hg : m.get a with
    | none =>
      simp only [hg] at h
      obtain ⟨a', o', h1, h2⟩ := renM_get h
      exact ⟨a', o', List.mem_cons_of_mem _ h1, h2⟩
    | some oa =>
      simp only [hg] at h
      by_cases e : b = n
      · subst e; rw [Mem.get_cons_self] at h; cases h; exact ⟨a, oa, by simp, hg, rfl⟩
      · rw [Mem.get_cons_ne e] at h
        obtain ⟨a', o', h1, h2⟩ := renM_get h
        exact ⟨a', o', List.mem_cons_of_mem _ h1, h2⟩
theorem boxesOk_get {Ty : Tys} : ∀ {m : Mem} {n : Nat} {t : TypeId} {cs : List SV}, boxesOk Ty m = true → m.get n = some (.box t cs) → ∃ d, Ty t = some d ∧ tyBCs d.cells cs = true
  | [], _, _, _, _, h => by cases h
  | (a, .box t' cs') :: r, n, t, cs, hb, h => by
    simp only [boxesOk, Bool.and_eq_true] at hb
    by_cases e : a = n
    · subst e; rw [Mem.get_cons_self] at h
      simp only [Option.some.injEq, SObj.box.injEq] at h
      obtain ⟨rfl, rfl⟩ := h
      cases hd : Ty t' with
      | none => simp [hd] at hb
      | some d => simp [hd] at hb; exact ⟨d, rfl, hb.1⟩
    · rw [Mem.get_cons_ne e] at h; exact boxesOk_get hb.2 h
  | (a, .row _ _) :: r, n, t, cs, hb, h => by
    simp only [boxesOk] at hb
    by_cases e : a = n
    · subst e; rw [Mem.get_cons_self] at h; cases h
    · rw [Mem.get_cons_ne e] at h; exact boxesOk_get hb h

theorem keep_length (live : List Nat) : ∀ (k : Nat) (l : List SV), (keep live k l).length = l.length
  | _, [] => rfl
  | k, x :: r => by simp [keep, keep_length live (k + 1) r]
theorem keep_get (live : List Nat) : ∀ (k : Nat) (l : List SV) (i : Nat), getAt (keep live k l) i = getAt l i ∨ getAt (keep live k l) i = .dead
  | _, [], i => .inl rfl
  | k, x :: r, 0 => by simp only [keep, getAt]; cases hasNat live k <;> simp
  | k, x :: r, i + 1 => by simp only [keep, getAt]; exact keep_get live (k + 1) r i

theorem canonW_sound {E : Env} (hE : EnvOk E) {sm live : List Nat} {τ : Names} {ρ0 : Ren} {m0 : Mem} {w0 : World} {ρ : Ren} {s s' : St} {a : Act} {w : World} (hF : Far E sm ρ0 m0 w0 ρ s a w) (h : canonW E.Ty sm live s τ = some s') : ∃ ρ', Far E sm ρ0 m0 w0 ρ' s' a w := by
  unfold canonW at h
  simp only [cond_eq_ite] at h
  split at h
  · rename_i hc
    simp only [Bool.and_eq_true] at hc
    obtain ⟨⟨⟨⟨h1, h2⟩, h5⟩, h3⟩, h4⟩ := hc
    cases h
    have hR := hF.r
    -- own blocks are those that were
    have hown : ∀ b, own (renRho τ ρ) (renM τ s.mem τ) b → own ρ s.mem b := by
      rintro b ⟨n, o, v, hg, hv, hb⟩
      obtain ⟨x, o', hx, hg', rfl⟩ := renM_get hg
      exact ⟨x, o', v, hg', by rwa [renRho_mem h2 h5 hx] at hv, hb⟩
    have hok : ∀ b, okB w ρ s.mem b → okB w (renRho τ ρ) (renM τ s.mem τ) b := fun b hb => ⟨hb.1, fun q => hb.2 (q.imp (hown b) renRho_hid)⟩
    have hrel : ∀ {x : SV} {v : Value}, Rel E w (okB w ρ s.mem) ρ x v → Rel E w (okB w (renRho τ ρ) (renM τ s.mem τ)) (renRho τ ρ) (ren τ x) v := fun hx => (hx.ren h2 h5).frame (fun _ _ => rfl) hok (fun _ _ x => x)
    refine ⟨renRho τ ρ, ⟨⟨?_, ?_, ⟨?_, ?_, fun b hb hq => hR.mem.hsep b (hown b hb) (renRho_hid hq), fun b hb => hR.mem.hlt b (renRho_hid hb)⟩, ?_, ?_, hR.g⟩, ?_, hF.kept, fun b hb => hF.own b (hown b hb), hF.defers⟩⟩
    · simp [renSt, renL_eq, keep_length, hR.len]
    · intro i v hi
      have hv := hR.slot i v hi
      show Rel E w _ _ (getAt (renL τ (keep live 0 s.slots)) i) v
      have : getAt (renL τ (keep live 0 s.slots)) i = ren τ (getAt (keep live 0 s.slots) i) := by
        rw [renL_eq, getAt_eq, getAt_eq, List.getElem?_map]
        cases (keep live 0 s.slots)[i]? <;> simp [ren]
      rw [this]
      rcases keep_get live 0 s.slots i with q | q
      · rw [q]; exact hrel hv
      · rw [q]; simp only [ren]; exact .dead v
    · intro n o hg
      have hg : (renM τ s.mem τ).get n = some o := hg
      obtain ⟨x, o', hx, hg', rfl⟩ := renM_get hg
      have hρ : renRho τ ρ n = ρ x := renRho_mem h2 h5 hx
      cases hR.mem.obj x o' hg' with
      | box t d cs b vs e1 hd hb hng hl hty hr =>
        obtain ⟨d', hd', hty'⟩ := boxesOk_get h3 hg
        rw [hd] at hd'; cases hd'
        refine .box t d _ b vs (by rw [hρ]; exact e1) hd hb hng (by simp [renL_eq, hl]) hty' (fun j c v hc hv => ?_)
        rw [renL_eq, List.getElem?_map] at hc
        cases hcs : cs[j]? with
        | none => simp [hcs] at hc
        | some c' => simp [hcs] at hc; subst hc; exact hrel (hr j c' v hcs hv)
      | row e d xs v cells e1 hd ho hone hc => exact .row e d xs v cells (by rw [hρ]; exact e1) hd ho hone (hc.frame (fun _ _ => rfl) hok)
    · intro i j o o' v v' b hij hi hj hv hv' hb
      have hi : (renM τ s.mem τ).get i = some o := hi
      have hj : (renM τ s.mem τ).get j = some o' := hj
      obtain ⟨x, ox, hx, hgx, rfl⟩ := renM_get hi
      obtain ⟨y, oy, hy, hgy, rfl⟩ := renM_get hj
      have e1 : ρ x = some v := by rwa [renRho_mem h2 h5 hx] at hv
      have e2 : ρ y = some v' := by rwa [renRho_mem h2 h5 hy] at hv'
      refine hR.mem.sep x y ox oy v v' b (fun q => ?_) hgx hgy e1 e2 hb
      subst q
      exact hij (nodup_fst h1 hx hy)
    · intro n v hlt hv
      unfold renRho at hv
      rw [if_neg (by omega)] at hv
      cases hi : invl τ n with
      | none => simp [hi] at hv
      | some x => exact hasNat_iff.2 (List.mem_map.2 ⟨(x, n), invl_mem hi, rfl⟩)
    · intro n v hv
      unfold renRho at hv
      split at hv
      · exact hR.one n v hv
      · cases hi : invl τ n with
        | none => simp [hi] at hv
        | some x => simp [hi] at hv; exact hR.one x v hv
    · intro i u hi hu
      have := hF.ext i u hi hu
      rcases hi with hi | hi
      rotate_left
      · unfold renRho; rw [if_pos hi]; exact this
      rw [List.all_eq_true] at h4
      have hl := h4 i (hasNat_iff.1 hi)
      cases hq : look τ i with
      | none => simp [hq] at hl
      | some j =>
        simp [hq] at hl
        subst hl
        rw [renRho_at h2 h5 hq]; exact this
  · cases h

theorem canon1_sound {E : Env} (hE : EnvOk E) {sm live : List Nat} {ρ0 : Ren} {m0 : Mem} {w0 : World} {ρ : Ren} {s s' : St} {a : Act} {w : World} (hF : Far E sm ρ0 m0 w0 ρ s a w) (h : canon1 E.Ty sm live s = some s') : ∃ ρ', Far E sm ρ0 m0 w0 ρ' s' a w := canonW_sound hE hF h

theorem nilRows_sound {E : Env} (hE : EnvOk E) {sm : List Nat} {ρ0 : Ren} {m0 : Mem} {w0 : World} {a : Act} {w : World} : ∀ (l : List (Nat × TypeId)) {ρ : Ren} {s : St}, Far E sm ρ0 m0 w0 ρ s a w → ∃ ρ', Far E sm ρ0 m0 w0 ρ' (nilRows E.Ty l s) a w
  | [], ρ, s, hF => ⟨ρ, hF⟩
  | (t, e) :: r, ρ, s, hF => by
    unfold nilRows
    split
    · rename_i de ht hd
      split
      · rename_i id s' hf
        have hR := hF.r
        have hlt : t < a.tmps.size := by
          rcases Nat.lt_or_ge t a.tmps.size with q | q
          · exact q
          · rw [getAt_eq, List.getElem?_eq_none (by rw [hR.len]; exact q)] at ht; cases ht
        have hv := hR.slot t _ (Array.getElem?_eq_getElem hlt)
        rw [ht] at hv
        have hv := inv_snil hv
        have hc := hR.newRow hE (m0 := s.mem) (fun _ _ x => x) (v := .slice none 0 0) (w' := w) hd (xs := []) (cells := []) (fun b hb => by simp [blkOf] at hb) rfl rfl rfl (Nat.le_refl _) (fun _ _ _ => rfl) ⟨by simp, .inl ⟨rfl, rfl⟩⟩ (by simp) ⟨by simp, fun i j x s hx => by simp at hx⟩ hf
        have h1 := hF.step hc (some t)
        have h2 : a.put (some t) (.slice none 0 0) = a := by
          obtain ⟨tm, df⟩ := a
          simp only [Act.put]
          congr 1
          apply Array.ext_getElem?
          intro i
          by_cases q : t = i
          · subst q
            rw [Array.getElem?_setIfInBounds_self, if_pos hlt, Array.getElem?_eq_getElem hlt, hv]
          · rw [Array.getElem?_setIfInBounds_ne q]
        rw [h2] at h1
        exact nilRows_sound hE r h1
      · exact nilRows_sound hE r hF
    · exact nilRows_sound hE r hF

/-- The memory is told otherwise: so is all that hangs on it. -/
theorem Far.tell {E : Env} {sm : List Nat} {ρ0 : Ren} {m0 : Mem} {w0 : World} {ρ : Ren} {s : St} {a : Act} {w : World} (h : Far E sm ρ0 m0 w0 ρ s a w) {s' : St} {ρ' : Ren} (hr : R E ρ' s' a w) (hext : ∀ i u, ρ i = some u → ρ' i = some u) (hown : ∀ b, Sx.own ρ' s'.mem b → Sx.own ρ s.mem b) : Far E sm ρ0 m0 w0 ρ' s' a w :=
  ⟨hr, fun i u hi hu => hext i u (h.ext i u hi hu), h.kept, fun b hb => h.own b (hown b hb), h.defers⟩

/-- What a state is told as, without any change of the world. -/
def Told1 (E : Env) (a : Act) (w : World) (ρ : Ren) (s : St) (s' : St) : Prop := ∃ ρ', R E ρ' s' a w ∧ s'.slots = s.slots ∧ (∀ i u, ρ i = some u → ρ' i = some u) ∧ (∀ b, own ρ' s'.mem b → own ρ s.mem b) ∧ (∀ b, own ρ s.mem b → own ρ' s'.mem b) ∧ ∀ i v, 1000000 ≤ i → ρ' i = some v → ρ i = some v
theorem Told1.refl {E : Env} {a : Act} {w : World} {ρ : Ren} {s : St} (h : R E ρ s a w) : Told1 E a w ρ s s := ⟨ρ, h, rfl, fun _ _ x => x, fun _ x => x, fun _ x => x, fun _ _ _ x => x⟩
theorem Told1.trans {E : Env} {a : Act} {w : World} {ρ : Ren} {s s1 s2 : St} (h : Told1 E a w ρ s s1) (k : ∀ ρ1, R E ρ1 s1 a w → Told1 E a w ρ1 s1 s2) : Told1 E a w ρ s s2 := by
  obtain ⟨ρ1, r1, e1, x1, o1, p1, h1⟩ := h
  obtain ⟨ρ2, r2, e2, x2, o2, p2, h2⟩ := k ρ1 r1
  exact ⟨ρ2, r2, e2.trans e1, fun i u hu => x2 i u (x1 i u hu), fun b hb => o1 b (o2 b hb), fun b hb => p2 b (p1 b hb), fun i v hi hv => h1 i v hi (h2 i v hi hv)⟩

theorem fresh_new {E : Env} {ρ : Ren} {s : St} {a : Act} {w : World} (h : R E ρ s a w) {e : TypeId} {n : Nat} {s' : St} (hf : s.freshN (.row e []) = some (n, s')) : ρ n = none ∧ s' = ⟨s.slots, (n, .row e []) :: s.mem, n :: s.used⟩ ∧ n < 1000000 := by
  obtain ⟨h1, h2, h3⟩ := fresh_eq hf
  refine ⟨?_, h2, h3⟩
  cases hq : ρ n with
  | none => rfl
  | some u => have := h.used n u h3 hq; rw [h1] at this; cases this

theorem nilCells_sound {E : Env} (hE : EnvOk E) {id : Nat} {a : Act} {w : World} : ∀ (ks : List CK) (j : Nat) {ρ : Ren} {s : St}, R E ρ s a w → Told1 E a w ρ s (nilCells E.Ty id j ks s)
  | [], j, ρ, s, hR => Told1.refl hR
  | .slice e :: ks, j, ρ, s, hR => by
    unfold nilCells
    split
    · rename_i t cs hg
      split
      · rename_i de hc hd
        split
        · rename_i n s' hf
          obtain ⟨hno, hs', hlt⟩ := fresh_new hR hf
          have hc1 := hR.newRow hE (m0 := s.mem) (fun _ _ x => x) (v := .slice none 0 0) (w' := w) hd (xs := []) (cells := []) (fun b hb => by simp [blkOf] at hb) rfl rfl rfl (Nat.le_refl _) (fun _ _ _ => rfl) ⟨by simp, .inl ⟨rfl, rfl⟩⟩ (by simp) ⟨by simp, fun i j x s hx => by simp at hx⟩ hf
          have hid : id ≠ n := fun q => by
            subst q
            cases hR.mem.obj id _ hg with
            | box t d cs b vs e1 => rw [hno] at e1; cases e1
          have hg' : s'.mem.get id = some (.box t cs) := by rw [hs']; show Mem.get ((n, _) :: s.mem) id = _; rw [Mem.get_cons_ne (Ne.symm hid)]; exact hg
          have hw := hc1.r.wrote hE (m0 := s'.mem) (fun _ _ x => x) hg' (o' := .box t (setAt cs j (.row n))) (w' := w) (Nat.le_refl _) (fun _ _ _ => rfl) (fun ok' hok' => by
            cases hc1.r.mem.obj id _ hg' with
            | box _ d _ b vs e1 hd' hb hng hl hty hr =>
              have hjl : j < cs.length := by
                rcases Nat.lt_or_ge j cs.length with q | q
                · exact q
                · rw [getAt_eq, List.getElem?_eq_none q] at hc; cases hc
              have hcj : cs[j]? = some .snil := by rw [getAt_eq, List.getElem?_eq_getElem hjl] at hc; rw [List.getElem?_eq_getElem hjl]; simpa using hc
              refine .box t d _ b vs e1 hd' hb hng (by rw [setAt_length]; exact hl) ?_ (fun i c v hci hv => ?_)
              · refine tyBCs_of (by rw [setAt_length]; exact tyBCs_length hty) (fun i k c hk hci => ?_)
                rw [setAt_eq] at hci
                by_cases q : j = i
                · subst q
                  rw [List.getElem?_set_self hjl] at hci; cases hci
                  have := tyBCs_get hty j k _ hk hcj
                  cases k <;> simp_all [tyBC, cellish]
                · rw [List.getElem?_set_ne q] at hci; exact tyBCs_get hty i k c hk hci
              · rw [setAt_eq] at hci
                by_cases q : j = i
                · subst q
                  rw [List.getElem?_set_self hjl] at hci; cases hci
                  have := hr j _ v hcj hv
                  obtain rfl := inv_snil this
                  exact .row n _ (by
                    have := inv_row hc1.rel
                    exact this)
                · rw [List.getElem?_set_ne q] at hci
                  exact (hr i c v hci hv).frame (fun _ _ => rfl) hok' (fun _ _ x => x))
          refine Told1.trans (s1 := s'.cell id t cs j (.row n)) ⟨_, hw.1, by rw [hs']; rfl, hc1.ext, fun b hb => ?_, fun b hb => ?_, fun i v hi hv => ?_⟩ (fun ρ1 r1 => nilCells_sound hE ks (j + 1) r1)
          · rcases hc1.own b (hw.2 b hb) with q | q
            · exact q
            · have := (own_lt hc1.r.mem (hw.2 b hb)).1; omega
          · obtain ⟨i, o, v, hgi, hvi, hbi⟩ := hb
            have hin : i ≠ n := fun q => by subst q; rw [hno] at hvi; cases hvi
            have hgi' : s'.mem.get i = some o := by rw [hs']; show Mem.get ((n, _) :: s.mem) i = _; rw [Mem.get_cons_ne (Ne.symm hin)]; exact hgi
            by_cases q : id = i
            · subst q
              exact ⟨id, _, v, Mem.get_put_self _ _ _, hc1.ext _ _ hvi, hbi⟩
            · exact ⟨i, o, v, by show Mem.get (s'.mem.put id _) i = _; rw [Mem.get_put_ne q]; exact hgi', hc1.ext _ _ hvi, hbi⟩
          · have : i ≠ n := by omega
            simpa [upd, this] using hv
        · exact nilCells_sound hE ks (j + 1) hR
      · exact nilCells_sound hE ks (j + 1) hR
    · exact Told1.refl hR
  | .bool :: ks, j, ρ, s, hR => nilCells_sound hE ks (j + 1) hR
  | .int _ :: ks, j, ρ, s, hR => nilCells_sound hE ks (j + 1) hR
  | .str :: ks, j, ρ, s, hR => nilCells_sound hE ks (j + 1) hR
  | .other :: ks, j, ρ, s, hR => nilCells_sound hE ks (j + 1) hR
theorem nilMem_sound {E : Env} (hE : EnvOk E) {a : Act} {w : World} : ∀ (l : Mem) {ρ : Ren} {s : St}, R E ρ s a w → Told1 E a w ρ s (nilMem E.Ty l s)
  | [], ρ, s, hR => Told1.refl hR
  | (id, .box t _) :: r, ρ, s, hR => by
    unfold nilMem
    split
    · exact Told1.trans (nilCells_sound hE _ 0 hR) (fun ρ1 r1 => nilMem_sound hE r r1)
    · exact nilMem_sound hE r hR
  | (_, .row _ _) :: r, ρ, s, hR => nilMem_sound hE r hR

theorem canon_sound {E : Env} (hE : EnvOk E) {sm : List Nat} {live : List Nat × List (Nat × TypeId)} {ρ0 : Ren} {m0 : Mem} {w0 : World} {ρ : Ren} {s s' : St} {a : Act} {w : World} (hF : Far E sm ρ0 m0 w0 ρ s a w) (h : canon E.Ty sm live s = some s') : ∃ ρ', Far E sm ρ0 m0 w0 ρ' s' a w := by
  obtain ⟨ρ1, hF1⟩ := nilRows_sound hE live.2 hF
  obtain ⟨ρ2, r2, _, x2, o2, _, _⟩ := nilMem_sound hE s.mem hF1.r
  exact canon1_sound hE (hF1.tell r2 x2 o2) h
end Sx

/-
  Sx, part 20: code: what the executor says of a body is what the machine does.
-/
set_option linter.unusedVariables false
set_option linter.unusedSimpArgs false
set_option linter.unnecessarySimpa false
namespace Sx
open Go

inductive Ex where
  | normal | exit (id : Nat) | ret
  deriving Inhabited
def Ex.out : Ex → Exit | .normal => .normal | .exit i => .exit i | .ret => .ret

def St.set (s : St) (t : Nat) (v : SV) : St := ⟨setAt s.slots t v, s.mem, s.used⟩

section
variable {α : Type}
/-- One of two. -/
def pickK (b : Bool) (x y : SV) (K : SV → Option α) : Option α := match x, y with
  | .bool p, .bool q => K (.bool (bif b then p else q))
  | .int k p, .int l q => bif decide (k = l) then K (.int k (bif b then p else q)) else bif b then K x else K y
  | .str p, .str q => K (.str (bif b then p else q))
  | _, _ => bif b then K x else K y
/-- The ways of a call, where there are several. -/
def altX (T : Specs) (o : Oper) (s : St) : Option (Tr (SV × Mem × List Nat)) := match callOf o.op with
  | some (f, args) => (match evl s.slots f with
    | .fn (.func g) fs cs => (match T g with
      | some (.wide h) => some (h (fs ++ evls s.slots args ++ cs) s.mem s.used)
      | _ => none)
    | _ => none)
  | none => none
def altK {β : Type} : Tr β → (β → Option α) → Option α
  | .no, _ => none
  | .leaf x, K => K x
  | .br b t e, K => bif b then altK t K else altK e K
def evOne (Ty : Tys) (T : Specs) (o : Oper) (s : St) (K : St → Option α) : Option α :=
  match o.op with
  | .pick c x y => (match evl s.slots c with
    | .bool b => pickK b (evl s.slots x) (evl s.slots y) (fun v => K (s.put o.dst v))
    | _ => none)
  | _ => (match altX T o s with
    | some l => altK l (fun r => K ((⟨s.slots, r.2.1, r.2.2⟩ : St).put o.dst r.1))
    | none => (match stepX Ty T o s with
      | some (c, sv, s') => bif c then K (s'.put o.dst sv) else none
      | none => none))
/-- The operations in the text's order. -/
def evOps (Ty : Tys) (T : Specs) (all : List Oper) : List Oper → St → (St → Option α) → Option α
  | [], s, K => K s
  | o :: r, s, K => match o.guard with
    | none => evOne Ty T o s (fun s' => evOps Ty T all r s' K)
    | some (j, want) => (match (all[j]?).bind (·.dst) with
      | none => none
      | some d => (match getAt s.slots d with
        | .bool b => bif b
          then (bif want then evOne Ty T o (s.set d (.bool true)) (fun s' => evOps Ty T all r s' K) else evOps Ty T all r ((s.set d (.bool true)).put o.dst (.tup [])) K)
          else (bif want then evOps Ty T all r ((s.set d (.bool false)).put o.dst (.tup [])) K else evOne Ty T o (s.set d (.bool false)) (fun s' => evOps Ty T all r s' K))
        | .tup [] => evOps Ty T all r (s.put o.dst (.tup [])) K
        | _ => none))

/-- What a slot is known to hold. -/
def St.lit (s : St) (c : Operand) (b : Bool) : St := match c with | .tmp t => s.set t (.bool b) | _ => s

/-- A loop, so many rounds at most. -/
noncomputable def loopN (Ty : Tys) (sm : List Nat) (live : List Nat × List (Nat × TypeId)) (n : Nat) : (St → (Ex → St → Option α) → Option α) → St → (Ex → St → Option α) → Option α :=
  Nat.rec (motive := fun _ => (St → (Ex → St → Option α) → Option α) → St → (Ex → St → Option α) → Option α) (fun _ _ _ => none)
    (fun _ ih F s K => F s (fun e t => match e with
      | .normal => (match canon Ty sm live t with
        | none => none
        | some t' => ih F t' K)
      | e => K e t)) n
noncomputable def loopK (Ty : Tys) (sm : List Nat) (live : List Nat × List (Nat × TypeId)) (n : Nat) (F : St → (Ex → St → Option α) → Option α) (s : St) (K : Ex → St → Option α) : Option α :=
  match canon Ty sm live s with
  | none => none
  | some s' => loopN Ty sm live n F s' K

/-- The first region's number. -/
def headId : Code → Nat
  | .region id _ _ => id
  | .seq a _ => headId a
  | .block _ c => headId c
  | .scope c => headId c
  | .loop c => headId c
  | .cond _ a _ => headId a
  | _ => 0

structure Fx where
  Ty : Tys
  T : Specs
  sm : List Nat
  live : Nat → List Nat × List (Nat × TypeId)

noncomputable def evC (X : Fx) (n : Nat) : Code → St → (Ex → St → Option α) → Option α
  | .skip, s, K => K .normal s
  | .label _, s, K => K .normal s
  | .region _ ops draw, s, K => bif !draw || drawOk X.Ty X.T ops [] then evOps X.Ty X.T ops.toList ops.toList s (fun s' => K .normal s') else evOps X.Ty X.T ops.toList ops.toList s (fun s' => bif drawOk X.Ty X.T ops s'.slots then K .normal s' else none)
  | .seq a b, s, K => evC X n a s (fun e s' => match e with | .normal => evC X n b s' K | e => K e s')
  | .cond c a b, s, K => (match evl s.slots c with
    | .bool t => bif t then evC X n a (s.lit c true) K else evC X n b (s.lit c false) K
    | _ => none)
  | .block id c, s, K => evC X n c s (fun e s' => match e with | .exit j => (bif Nat.beq j id then K .normal s' else K (.exit j) s') | e => K e s')
  | .loop c, s, K => loopK X.Ty X.sm (X.live (headId c)) n (fun s' K' => evC X n c s' K') s K
  | .scope c, s, K => evC X n c s K
  | .exit id, s, K => K (.exit id) s
  | .ret, s, K => K .ret s
  | _, _, _ => none
end

/-! ### it is so -/
theorem setAt_same {l : List SV} {t : Nat} {v : SV} (h : getAt l t = v) (hv : v ≠ .dead) : setAt l t v = l := by
  induction l generalizing t with
  | nil => rfl
  | cons a l ih =>
    cases t with
    | zero => simp [getAt] at h; simp [setAt, h]
    | succ t => simp [getAt] at h; simp [setAt, ih h]
theorem set_same {s : St} {t : Nat} {v : SV} (h : getAt s.slots t = v) (hv : v ≠ .dead) : s.set t v = s := by
  unfold St.set; rw [setAt_same h hv]
theorem lit_same {s : St} {c : Operand} {b : Bool} (h : evl s.slots c = .bool b) : s.lit c b = s := by
  cases c with
  | tmp t => exact set_same h (by simp)
  | _ => rfl

theorem pickK_some {α : Type} {b : Bool} {x y : SV} {K : SV → Option α} {r : α} (h : pickK b x y K = some r) : K (bif b then x else y) = some r := by
  unfold pickK at h
  split at h
  · cases b <;> exact h
  · simp only [cond_eq_ite] at h
    split at h
    · rename_i e
      have e := of_decide_eq_true e
      subst e
      cases b <;> exact h
    · cases b <;> exact h
  · cases b <;> exact h
  · cases b <;> exact h

theorem altK_some {α β : Type} : ∀ {l : Tr β} {K : β → Option α} {r : α}, altK l K = some r → ∃ x, pickA l = some x ∧ K x = some r
  | .no, _, _, h => by cases h
  | .leaf x, K, r, h => ⟨x, rfl, h⟩
  | .br b t e, K, r, h => by
    cases b with
    | true => exact altK_some (l := t) h
    | false => exact altK_some (l := e) h
theorem altX_some {Ty : Tys} {T : Specs} {o : Oper} {s : St} {l : Tr (SV × Mem × List Nat)} (h : altX T o s = some l) {r : SV × Mem × List Nat} (hp : pickA l = some r) : stepX Ty T o s = some (true, r.1, ⟨s.slots, r.2.1, r.2.2⟩) := by
  unfold altX at h
  split at h
  · rename_i f args hc
    split at h
    · rename_i g fs cs hf
      split at h
      · rename_i w ht
        simp only [Option.some.injEq] at h
        subst h
        unfold stepX
        rw [hc]
        simp only [callX, hf, ht, hp]
      · cases h
    · cases h
  · cases h
theorem evOne_some {α : Type} {Ty : Tys} {T : Specs} {all : List Oper} {o : Oper} {s : St} {K : St → Option α} {r : α} (hw : wantX all o s = some true) (h : evOne Ty T o s K = some r) : ∃ s', stepD Ty T all o s = some s' ∧ K s' = some r := by
  unfold evOne at h
  split at h
  · rename_i c x y hop
    unfold stepD
    rw [hw]
    simp only
    split at h
    · rename_i b hb
      have := pickK_some h
      exact ⟨_, by simp only [hop, hb], this⟩
    · cases h
  · rename_i hop
    split at h
    · rename_i l hl
      obtain ⟨x, hx, hK⟩ := altK_some h
      exact ⟨_, stepD_mk hw (fun c x y q => hop c x y q) (altX_some hl hx), hK⟩
    · split at h
      · rename_i c sv s2 hs
        cases c
        · cases h
        · exact ⟨_, stepD_mk hw (fun c x y q => hop c x y q) hs, h⟩
      · cases h

theorem evOps_some {α : Type} {Ty : Tys} {T : Specs} {all : List Oper} {K : St → Option α} {r : α} : ∀ (l : List Oper) (s : St), evOps Ty T all l s K = some r → ∃ s', runD Ty T all l s = some s' ∧ K s' = some r
  | [], s, h => ⟨s, rfl, h⟩
  | o :: l, s, h => by
    have done : ∀ s', stepD Ty T all o s = some s' → evOps Ty T all l s' K = some r → ∃ s', runD Ty T all (o :: l) s = some s' ∧ K s' = some r := fun s' hs hK => by
      obtain ⟨s2, h1, h2⟩ := evOps_some l s' hK
      exact ⟨s2, by simp only [runD, hs]; exact h1, h2⟩
    unfold evOps at h
    split at h
    · rename_i hg
      obtain ⟨s', hs, hK⟩ := evOne_some (all := all) (by simp [wantX, hg]) h
      exact done s' hs hK
    · rename_i j want hg
      split at h
      · cases h
      · rename_i d hd
        split at h
        · rename_i b hb
          have hw : wantX all o s = some (b == want) := by simp only [wantX, hg, hd, hb]
          cases b with
          | true =>
            rw [set_same hb (by simp)] at h
            cases want with
            | true =>
              simp only [cond_true] at h
              obtain ⟨s', hs, hK⟩ := evOne_some (all := all) (by rw [hw]; rfl) h
              exact done s' hs hK
            | false => exact done _ (by simp only [stepD, hw]; rfl) h
          | false =>
            rw [set_same hb (by simp)] at h
            cases want with
            | true => exact done _ (by simp only [stepD, hw]; rfl) h
            | false =>
              simp only [cond_false] at h
              obtain ⟨s', hs, hK⟩ := evOne_some (all := all) (by rw [hw]; rfl) h
              exact done s' hs hK
        · rename_i hb
          have hw : wantX all o s = some false := by simp only [wantX, hg, hd, hb]
          exact done _ (by simp only [stepD, hw]) h
        · cases h

/-- The operations in the text's order are what the machine does. -/
theorem wpOps_of_runD {E : Env} (hE : EnvOk E) {T : Specs} (hT : SpecsOk E T) {sm : List Nat} {ρ0 : Ren} {m0 : Mem} {w0 : World} {ops : Array Oper} {r : St} {Q : Exit → Act → World → Prop} (hQ : ∀ ρ a w, Far E sm ρ0 m0 w0 ρ r a w → Q .normal a w) :
    ∀ (l : List Oper) (k : Nat) (s : St) (ρ : Ren) (a : Act) (w : World), (∀ j, l[j]? = ops[k + j]?) → Far E sm ρ0 m0 w0 ρ s a w → runD E.Ty T ops.toList l s = some r → wpOps E.P ops Q ((List.range l.length).map (k + ·)) a w
  | [], k, s, ρ, a, w, _, hF, h => by
    simp only [runD, Option.some.injEq] at h
    subst h
    exact hQ ρ a w hF
  | o :: l, k, s, ρ, a, w, hl, hF, h => by
    have h0 : ops[k]? = some o := by simpa using (hl 0).symm
    simp only [runD] at h
    cases hs : stepD E.Ty T ops.toList o s with
    | none => simp [hs] at h
    | some s1 =>
      simp only [hs] at h
      have : (List.range (o :: l).length).map (k + ·) = k :: (List.range l.length).map (k + 1 + ·) := by
        rw [List.length_cons, List.range_succ_eq_map]
        simp only [List.map_cons, List.map_map, Nat.add_zero]
        congr 1
        apply List.map_congr_left
        intro x _
        simp only [Function.comp]; omega
      rw [this]
      simp only [wpOps, h0]
      exact stepD_sound hE hT hF hs (fun ρ' a' w' hF' => wpOps_of_runD hE hT hQ l (k + 1) s1 ρ' a' w' (fun j => by have := hl (j + 1); simpa [Nat.add_assoc, Nat.add_comm 1 j] using this) hF' h)

structure FxOk (E : Env) (X : Fx) : Prop where
  env : EnvOk E
  ty : X.Ty = E.Ty
  specs : SpecsOk E X.T
  mixed : E.P.follows .mixedOrders = true

theorem Far.drawn {E : Env} (hE : EnvOk E) {sm : List Nat} {ρ0 : Ren} {m0 : Mem} {w0 : World} {ρ : Ren} {s : St} {a : Act} {w : World} (h : Far E sm ρ0 m0 w0 ρ s a w) : Far E sm ρ0 m0 w0 ρ s a { w with drawn := w.drawn + 1 } :=
  ⟨h.r.same hE rfl, h.ext, ⟨h.kept.os, h.kept.tape, h.kept.output, h.kept.size, h.kept.block⟩, h.own, h.defers⟩

theorem evC_sound {E : Env} {X : Fx} (hX : FxOk E X) {ρ0 : Ren} {m0 : Mem} {w0 : World} {α : Type} {r : α} (n : Nat) : ∀ (c : Code) (s : St) (K : Ex → St → Option α) (Q : Exit → Act → World → Prop), evC X n c s K = some r →
    (∀ e s', K e s' = some r → ∀ ρ a w, Far E X.sm ρ0 m0 w0 ρ s' a w → Q e.out a w) → ∀ ρ a w, Far E X.sm ρ0 m0 w0 ρ s a w → c.wp E.P Q a w := by
  intro c
  induction c with
  | skip => intro s K Q h hK ρ a w hF; exact wp_skip (hK .normal s h ρ a w hF)
  | label l => intro s K Q h hK ρ a w hF; exact wp_label (hK .normal s h ρ a w hF)
  | exit id => intro s K Q h hK ρ a w hF; exact wp_exit (hK (.exit id) s h ρ a w hF)
  | ret => intro s K Q h hK ρ a w hF; exact wp_ret (hK .ret s h ρ a w hF)
  | region id ops draw =>
    intro s K Q h hK ρ a w hF
    have text : ∀ s', runD E.Ty X.T ops.toList ops.toList s = some s' → K .normal s' = some r → (draw = false ∨ drawOk E.Ty X.T ops s'.slots = true) → (Code.region id ops draw).wp E.P Q a w := fun s' hr hs hd => by
      cases draw with
      | false =>
        refine wp_region ?_
        have := wpOps_of_runD hX.env hX.specs (Q := Q) (fun ρ a w hF => hK .normal s' hs ρ a w hF) ops.toList 0 s ρ a w (by simp) hF hr
        simpa using this
      | true =>
        have hd : drawOk E.Ty X.T ops s'.slots = true := by
          rcases hd with q | q
          · cases q
          · exact q
        simp only [drawOk, Bool.and_eq_true] at hd
        refine wp_region_any hX.mixed ?_
        have hany := anyD_text (Ty := E.Ty) (T := X.T) (md := .any) (ops := ops) (r := s') hd.2 ops.toList 0 (Array.replicate ops.size false) s (by simp) (fun j hj => by omega) (fun j o hj hl e he hb => by
          rcases Nat.lt_or_ge j ops.size with q | q
          · simp [q] at hl
          · simp [Array.getElem?_eq_none q] at hj) (by simpa using hd.1) hr
        have := wpAny_of_anyD hX.env hX.specs (Q := Q) (fun ρ a w hF => hK .normal s' hs ρ a w hF) ops.toList.length (Array.replicate ops.size false) s ρ a _ (hF.drawn hX.env) hany
        simpa using this
    simp only [evC, cond_eq_ite] at h
    split at h
    · rename_i hd
      obtain ⟨s', hr, hs⟩ := evOps_some _ _ h
      rw [hX.ty] at hr hd
      refine text s' hr hs ?_
      cases draw with
      | false => exact .inl rfl
      | true => exact .inr (drawOk_any (by simpa using hd))
    · obtain ⟨s', hr, hs⟩ := evOps_some _ _ h
      rw [hX.ty] at hr hs
      split at hs
      · rename_i hd
        exact text s' hr hs (.inr hd)
      · cases hs
  | seq x y ihx ihy =>
    intro s K Q h hK ρ a w hF
    simp only [evC] at h
    refine wp_seq (ihx s _ _ h (fun e s' he ρ a w hF => ?_) ρ a w hF)
    cases e with
    | normal => exact ihy s' K Q he hK ρ a w hF
    | exit i => exact hK (.exit i) s' he ρ a w hF
    | ret => exact hK .ret s' he ρ a w hF
  | cond c x y ihx ihy =>
    intro s K Q h hK ρ a w hF
    simp only [evC] at h
    split at h
    · rename_i t ht
      have hc := hF.r.eval c
      rw [ht] at hc
      have hc := inv_bool hc
      cases t with
      | true =>
        rw [lit_same ht] at h
        exact wp_cond hc (ihx s K Q h hK ρ a w hF)
      | false =>
        rw [lit_same ht] at h
        exact wp_cond hc (ihy s K Q h hK ρ a w hF)
    · cases h
  | block id c ih =>
    intro s K Q h hK ρ a w hF
    simp only [evC] at h
    refine wp_block (ih s _ _ h (fun e s' he ρ a w hF => ?_) ρ a w hF)
    cases e with
    | normal => exact hK .normal s' he ρ a w hF
    | exit i =>
      simp only [cond_eq_ite] at he
      split at he
      · rename_i q
        have q := Nat.eq_of_beq_eq_true q
        subst q
        show Exit.inBlock i Q (.exit i) a w
        simp only [Exit.inBlock, if_true]
        exact hK .normal s' he ρ a w hF
      · rename_i q
        have hne : i ≠ id := fun e => q (by rw [e]; exact Nat.beq_refl id)
        show Exit.inBlock id Q (.exit i) a w
        simp only [Exit.inBlock, hne, if_false]
        exact hK (.exit i) s' he ρ a w hF
    | ret => exact hK .ret s' he ρ a w hF
  | loop c ih =>
    intro s K Q h hK ρ a w hF
    simp only [evC] at h
    have key : ∀ (k : Nat) (s : St) (ρ : Ren) (a : Act) (w : World), loopN X.Ty X.sm (X.live (headId c)) k (fun s' K' => evC X n c s' K') s K = some r → Far E X.sm ρ0 m0 w0 ρ s a w → Code.rounds E.P c Q k a w := by
      intro k
      induction k with
      | zero => intro s ρ a w h hF; cases h
      | succ k ihk =>
        intro s ρ a w h hF
        have h : evC X n c s (fun e t => match e with
          | .normal => (match canon X.Ty X.sm (X.live (headId c)) t with
            | none => none
            | some t' => loopN X.Ty X.sm (X.live (headId c)) k (fun s' K' => evC X n c s' K') t' K)
          | e => K e t) = some r := h
        rw [rounds_succ]
        refine ih s _ _ h (fun e s' he ρ a w hF => ?_) ρ a w hF
        cases e with
        | normal =>
          simp only at he
          cases hc : canon X.Ty X.sm (X.live (headId c)) s' with
          | none => simp [hc] at he
          | some s1 =>
            simp only [hc] at he
            rw [hX.ty] at hc
            obtain ⟨ρ1, hF1⟩ := canon_sound hX.env hF hc
            exact ihk s1 ρ1 a w he hF1
        | exit i => exact hK (.exit i) s' he ρ a w hF
        | ret => exact hK .ret s' he ρ a w hF
    unfold loopK at h
    cases hc : canon X.Ty X.sm (X.live (headId c)) s with
    | none => simp [hc] at h
    | some s1 =>
      simp only [hc] at h
      rw [hX.ty] at hc
      obtain ⟨ρ1, hF1⟩ := canon_sound hX.env hF hc
      exact wp_loop_rounds n (key n s1 ρ1 a w h hF1)
  | scope c ih =>
    intro s K Q h hK ρ a w hF
    simp only [evC] at h
    refine wp_scope_straight (ih s K _ h (fun e s' he ρ a w hF => ?_) ρ a w hF)
    have := hK e s' he ρ a w hF
    cases e <;> exact this
  | _ => intro s K Q h hK ρ a w hF; cases h
end Sx

/-
  Sx, part 21: functions: what the executor says of one is what a call of it comes to.
-/
set_option linter.unusedVariables false
set_option linter.unusedSimpArgs false
set_option linter.unnecessarySimpa false
namespace Sx
open Go

def resV (Ty : Tys) (s : St) : List ResultVar → Option (List SV)
  | [] => some []
  | .tmp t :: r => (match resV Ty s r with | some l => some (getAt s.slots t :: l) | none => none)
  | .cell a t :: r => (match loadX Ty t (getAt s.slots a) s, resV Ty s r with | some v, some l => some (v :: l) | _, _ => none)
def oneOf : List SV → SV
  | [v] => v
  | l => .tup l
def resX (Ty : Tys) (fn : Func) (s : St) : Option SV := match resV Ty s fn.results.toList with | some l => some (oneOf l) | none => none
def slots0 (fn : Func) (args : List SV) : List SV := args ++ repl (fn.ntmps - args.length) (.tup [])
/-- A function's answer, and the state it leaves. -/
def lastK {α : Type} (X : Fx) (fn : Func) (fin : SV → St → α) : Ex → St → Option α := fun e s => match e with
  | .exit _ => none
  | _ => (match resX X.Ty fn s with | some v => some (fin v s) | none => none)
noncomputable def evFun {α : Type} (X : Fx) (n : Nat) (fn : Func) (fin : SV → St → α) (args : List SV) (m : Mem) (u : List Nat) : Option α := match fn.body with
  | none => none
  | some c => evC X n c ⟨slots0 fn args, m, u⟩ (lastK X fn fin)

section
variable {E : Env} {ρ : Ren} {s : St} {a : Act} {w : World}

theorem R.tmp (hR : R E ρ s a w) (t : Tmp) : Rel E w (okB w ρ s.mem) ρ (getAt s.slots t) (a.tmps.getD t undef) := by
  have := hR.eval (.tmp t)
  exact this

def rvOf (tmps : Array Value) : ResultVar → Sem Value
  | .tmp t => pure (tmps.getD t undef)
  | .cell x t => do loadVar t (← asAddr (tmps.getD x undef))
theorem results_eq (fn : Func) (tmps : Array Value) : results fn tmps = (do let vs ← fn.results.mapM (rvOf tmps); pure (if h : vs.size = 1 then vs[0] else .tuple vs)) := by
  unfold results
  congr 1

theorem resV_sound (hE : EnvOk E) (hR : R E ρ s a w) : ∀ (rs : List ResultVar) (l : List SV), resV E.Ty s rs = some l →
    ∃ vs : List Value, (rs.mapM (rvOf a.tmps)).run E.P w = .ok vs w ∧ RelL E w (okB w ρ s.mem) ρ l vs
  | [], l, h => by simp [resV] at h; subst h; exact ⟨[], by simp, rfl, by simp⟩
  | .tmp t :: r, l, h => by
    simp only [resV] at h
    cases hr : resV E.Ty s r with
    | none => simp [hr] at h
    | some l' =>
      simp [hr] at h; subst h
      obtain ⟨vs, hvs, hl⟩ := resV_sound hE hR r l' hr
      refine ⟨a.tmps.getD t undef :: vs, ?_, ?_⟩
      · rw [List.mapM_cons]
        simp only [rvOf, Sem.run_bind, Sem.run_pure, Result.andThen_ok, hvs]
      · exact RelL.append (xs := [getAt s.slots t]) (us := [a.tmps.getD t undef]) ⟨rfl, fun j s' u hs hu => by
          cases j with
          | zero => simp at hs hu; subst hs; subst hu; simpa using hR.tmp t
          | succ j => simp at hs⟩ hl
  | .cell x t :: r, l, h => by
    simp only [resV] at h
    cases hv : loadX E.Ty t (getAt s.slots x) s with
    | none => simp [hv] at h
    | some v =>
      cases hr : resV E.Ty s r with
      | none => simp [hv, hr] at h
      | some l' =>
        simp [hv, hr] at h; subst h
        obtain ⟨vs, hvs, hl⟩ := resV_sound hE hR r l' hr
        obtain ⟨u, hu, hru⟩ := loadX_sound hE hR (hR.tmp x) hv
        have hld : ((do loadVar t (← asAddr (a.tmps.getD x undef))) : Sem Value).run E.P w = .ok u w := by
          have hp : ∃ A, a.tmps.getD x undef = .pointer (some A) := by
            have hx := hR.tmp x
            unfold loadX at hv
            split at hv
            · cases hv
            · split at hv
              · rename_i he; rw [he] at hx; obtain ⟨b, _, e⟩ := inv_box hx; exact ⟨_, e⟩
              · rename_i he; rw [he] at hx; obtain ⟨b, n, c, _, _, e⟩ := inv_elt hx; exact ⟨_, e⟩
              · rename_i he; rw [he] at hx; obtain ⟨b, _, _, e⟩ := inv_ael hx; exact ⟨_, e⟩
              · rename_i he; rw [he] at hx; obtain ⟨A, _, e, _⟩ := inv_adr hx; exact ⟨A, e⟩
              · cases hv
          obtain ⟨A, hA⟩ := hp
          rw [hA, run_loadAt] at hu
          simp only [Sem.run_bind, hA, asAddr, Sem.run_pure, Result.andThen_ok, hu]
        refine ⟨u :: vs, ?_, ?_⟩
        · rw [List.mapM_cons]
          simp only [rvOf, Sem.run_bind] at hld ⊢
          rw [hld]
          simp only [Sem.run_pure, Result.andThen_ok, hvs]
        · exact RelL.append (xs := [v]) (us := [u]) ⟨rfl, fun j s' u' hs hu' => by
            cases j with
            | zero => simp at hs hu'; subst hs; subst hu'; exact hru
            | succ j => simp at hs⟩ hl

theorem resX_sound (hE : EnvOk E) (hR : R E ρ s a w) {fn : Func} {sv : SV} (h : resX E.Ty fn s = some sv) : ∃ v, (results fn a.tmps).run E.P w = .ok v w ∧ Rel E w (okB w ρ s.mem) ρ sv v := by
  unfold resX at h
  cases hr : resV E.Ty s fn.results.toList with
  | none => simp [hr] at h
  | some l =>
    simp [hr] at h; subst h
    obtain ⟨vs, hvs, hl⟩ := resV_sound hE hR _ l hr
    refine ⟨if h : vs.toArray.size = 1 then vs.toArray[0] else .tuple vs.toArray, ?_, ?_⟩
    · rw [results_eq]
      simp only [Sem.run_bind]
      rw [Array.mapM_eq_mapM_toList, Sem.run_map, hvs]
      rfl
    · match l, vs, hl with
      | [], [], hl => exact .tup [] [] rfl (by simp)
      | [x], [v], hl => exact hl.2 0 x v rfl rfl
      | x :: y :: l, p :: q :: vs, hl => exact .tup _ _ hl.1 hl.2
      | [], _ :: _, hl => exact absurd hl.1 (by simp)
      | [_], [], hl => exact absurd hl.1 (by simp)
      | [_], _ :: _ :: _, hl => exact absurd hl.1 (by simp)
      | _ :: _ :: _, [], hl => exact absurd hl.1 (by simp)
      | _ :: _ :: _, [_], hl => exact absurd hl.1 (by simp)

/-- A call comes to what the executor says. -/
theorem evFun_calls {X : Fx} (hX : FxOk E X) {f : FuncId} {fn : Func} (hf : E.P.funcs[f]? = some fn) {n : Nat} {args : List SV} {vals : Array Value} {m : Mem} {u : List Nat} {α : Type} {fin : SV → St → α} {r : α} (h : evFun X n fn fin args m u = some r)
    (hR : R E ρ ⟨slots0 fn args, m, u⟩ { tmps := vals ++ Array.replicate (fn.ntmps - vals.size) undef, defers := [] } w) :
    Calls E.P f vals w (fun e w' => ∃ v ρ' a' sv s', e = .returned v ∧ fin sv s' = r ∧ Far E X.sm ρ m w ρ' s' a' w' ∧ Rel E w' (okB w' ρ' s'.mem) ρ' sv v) := by
  unfold evFun at h
  cases hb : fn.body with
  | none => simp [hb] at h
  | some c =>
    simp only [hb] at h
    refine calls_of_wp hf hb ?_
    refine evC_sound hX n c _ _ _ h ?_ ρ _ w ⟨hR, fun _ _ _ x => x, Kept.refl _ _, fun _ hb => .inl hb, rfl⟩
    intro e s2 he ρ2 a2 w2 hF
    have key : (match resX X.Ty fn s2 with | some v => some (fin v s2) | none => none) = some r → a2.defers = [] ∧ ∃ v, (results fn a2.tmps).run E.P w2 = .ok v w2 ∧ ∃ v' ρ' a' sv s', Ending.returned v = .returned v' ∧ fin sv s' = r ∧ Far E X.sm ρ m w ρ' s' a' w2 ∧ Rel E w2 (okB w2 ρ' s'.mem) ρ' sv v' := by
      intro he
      rw [hX.ty] at he
      cases hr : resX E.Ty fn s2 with
      | none => simp [hr] at he
      | some v =>
        simp only [hr, Option.some.injEq] at he
        obtain ⟨u, hu, hrel⟩ := resX_sound hX.env hF.r hr
        exact ⟨hF.defers, u, hu, u, ρ2, a2, v, s2, rfl, he, hF, hrel⟩
    cases e with
    | exit i => cases he
    | normal => exact key he
    | ret => exact key he
end

mutual
/-- It tells of no memory of one's own. -/
def noOwn : SV → Bool
  | .box _ _ => false
  | .elt _ _ _ _ => false
  | .ael _ _ _ _ _ _ => false
  | .row _ => false
  | .agg cs => noOwnL cs
  | .tup cs => noOwnL cs
  | .fn _ fs cs => noOwnL fs && noOwnL cs
  | _ => true
def noOwnL : List SV → Bool
  | [] => true
  | x :: r => noOwn x && noOwnL r
end
mutual
/-- It tells of no memory at all. -/
def flat : SV → Bool
  | .bool _ => true
  | .int _ _ => true
  | .str _ => true
  | .pnil => true
  | .agg cs => flatL cs
  | .tup cs => flatL cs
  | _ => false
def flatL : List SV → Bool
  | [] => true
  | x :: r => flat x && flatL r
end
theorem noOwnL_get : ∀ {l : List SV}, noOwnL l = true → ∀ {j : Nat} {s : SV}, l[j]? = some s → noOwn s = true
  | [], _, j, s, h => by simp at h
  | x :: r, hl, j, s, h => by
    simp only [noOwnL, Bool.and_eq_true] at hl
    cases j with
    | zero => simp at h; subst h; exact hl.1
    | succ j => exact noOwnL_get hl.2 (by simpa using h)
theorem flatL_get : ∀ {l : List SV}, flatL l = true → ∀ {j : Nat} {s : SV}, l[j]? = some s → flat s = true
  | [], _, j, s, h => by simp at h
  | x :: r, hl, j, s, h => by
    simp only [flatL, Bool.and_eq_true] at hl
    cases j with
    | zero => simp at h; subst h; exact hl.1
    | succ j => exact flatL_get hl.2 (by simpa using h)

theorem Rel.noOwn {E : Env} {w : World} {ok ok' : Nat → Prop} {ρ ρ' : Ren} (hk : ∀ b, ok b → ok' b) {s : SV} {v : Value} (h : Rel E w ok ρ s v) (hn : noOwn s = true) : Rel E w ok' ρ' s v := by
  induction h with
  | data s v h => exact .data _ _ (h.frame (fun _ _ => rfl) hk)
  | snil => exact .snil
  | box => simp [Sx.noOwn] at hn
  | elt => simp [Sx.noOwn] at hn
  | ael => simp [Sx.noOwn] at hn
  | row => simp [Sx.noOwn] at hn
  | adr cs a u hok hcell hr => exact .adr cs a u (hk _ hok) hcell (fun j s hs => (hr j s hs).frame (fun _ _ => rfl) hk)
  | agg cs vs hl hr ih => simp only [Sx.noOwn] at hn; exact .agg cs vs hl (fun j s v hs hv => ih j s v hs hv (noOwnL_get hn hs))
  | tup cs vs hl hr ih => simp only [Sx.noOwn] at hn; exact .tup cs vs hl (fun j s v hs hv => ih j s v hs hv (noOwnL_get hn hs))
  | fn f fs cs gs ds hl hl' hr hr' ih ih' =>
    simp only [Sx.noOwn, Bool.and_eq_true] at hn
    exact .fn f fs cs gs ds hl hl' (fun j s v hs hv => ih j s v hs hv (noOwnL_get hn.1 hs)) (fun j s v hs hv => ih' j s v hs hv (noOwnL_get hn.2 hs))
  | dead v => exact .dead v
theorem Rel.flat {E : Env} {w w' : World} {ok ok' : Nat → Prop} {ρ ρ' : Ren} {s : SV} {v : Value} (h : Rel E w ok ρ s v) (hn : flat s = true) : Rel E w' ok' ρ' s v := by
  induction h with
  | data s v h => cases h <;> first | (exact rel_bool _) | (exact rel_int _ _) | (exact rel_str _) | (exact .data _ _ .pnil) | (simp [Sx.flat] at hn)
  | agg cs vs hl hr ih => simp only [Sx.flat] at hn; exact .agg cs vs hl (fun j s v hs hv => ih j s v hs hv (flatL_get hn hs))
  | tup cs vs hl hr ih => simp only [Sx.flat] at hn; exact .tup cs vs hl (fun j s v hs hv => ih j s v hs hv (flatL_get hn hs))
  | _ => simp [Sx.flat] at hn

theorem run_callFunc {P : Program} {f : FuncId} {fn : Func} (hf : P.funcs[f]? = some fn) (hn : (fn.name == "runtime.NumGoroutine") = false) (hb : fn.body.isNone = false) (vals : Array Value) (w : World) : (callFunc f vals).run P w = .ok (.enter f vals) w := by
  have hn : ¬ (fn.name = "runtime.NumGoroutine") := by simpa using hn
  have hb : ¬ (fn.body = none) := by intro e; rw [e] at hb; cases hb
  simp [callFunc, hf, hn, hb]

open Classical in
/-- Another's blocks get great names. -/
noncomputable def hideRho (H : Nat → Prop) (σ : Ren) : Ren := fun n => if 1000000 ≤ n then (if H (n - 1000000) then some (.pointer (some ⟨n - 1000000, 0, none⟩)) else none) else σ n
theorem hid_hide {H : Nat → Prop} {σ : Ren} {b : Nat} : hid (hideRho H σ) b ↔ H b := by
  constructor
  · rintro ⟨i, v, hi, hv, hb⟩
    unfold hideRho at hv
    rw [if_pos hi] at hv
    split at hv
    · rename_i h; cases hv; simp [blkOf] at hb; rw [← hb]; exact h
    · cases hv
  · intro h
    refine ⟨1000000 + b, .pointer (some ⟨b, 0, none⟩), by omega, ?_, rfl⟩
    unfold hideRho
    have e : 1000000 + b - 1000000 = b := by omega
    rw [if_pos (by omega), e, if_pos h]

theorem Far.hid {E : Env} {sm : List Nat} {ρ0 : Ren} {m0 : Mem} {w0 : World} {ρ : Ren} {s : St} {a : Act} {w : World} (h : Far E sm ρ0 m0 w0 ρ s a w) {b : Nat} (hb : Sx.hid ρ0 b) : Sx.hid ρ b := by
  obtain ⟨i, v, hi, hv, hb⟩ := hb
  exact ⟨i, v, hi, h.ext i v (.inr hi) hv, hb⟩

theorem emptyR {E : Env} {ρ : Ren} {s : St} {a : Act} {w : World} (hR : R E ρ s a w) {fn : Func} {args : List SV} {vals : List Value} (hl : RelL E w (okB w ρ s.mem) ρ args vals) (hn : noOwnL args = true) :
    R E (hideRho (fun b => own ρ s.mem b ∨ hid ρ b) (fun _ => none)) ⟨slots0 fn args, [], []⟩ { tmps := vals.toArray ++ Array.replicate (fn.ntmps - vals.toArray.size) undef, defers := [] } w := by
  have no : ∀ b, ¬ own (hideRho (fun b => own ρ s.mem b ∨ hid ρ b) (fun _ => none)) [] b := fun b ⟨id, o, v, h, _⟩ => by cases h
  refine ⟨?_, ?_, ⟨fun id o h => (by cases h), fun i j o o' v v' b _ h => (by cases h), fun b hb => absurd hb (no b), fun b hb => ?_⟩, fun id v hlt h => ?_, fun id v h => ?_, hR.g⟩
  · simp [slots0, repl, hl.1]
  · intro i v hi
    have hi : (vals ++ List.replicate (fn.ntmps - vals.length) undef)[i]? = some v := by
      rw [← Array.getElem?_toList] at hi; simpa using hi
    rw [getAt_eq]
    show Rel E w _ _ ((args ++ repl (fn.ntmps - args.length) (.tup []))[i]?.getD .dead) v
    by_cases q : i < vals.length
    · rw [List.getElem?_append_left q] at hi
      rw [List.getElem?_append_left (by rw [hl.1]; exact q)]
      have qa : i < args.length := by rw [hl.1]; exact q
      have hx : args[i]? = some args[i] := List.getElem?_eq_getElem qa
      rw [hx]
      refine (hl.2 i _ v hx hi).noOwn (fun b hb => ⟨hb.1, fun q => ?_⟩) (noOwnL_get hn hx)
      rcases q with q | q
      · exact no b q
      · exact hb.2 (hid_hide.1 q)
    · rw [List.getElem?_append_right (by omega)] at hi
      rw [List.getElem?_append_right (by rw [hl.1]; omega)]
      rw [List.getElem?_replicate] at hi
      split at hi
      · rename_i hlt
        cases hi
        rw [repl, List.getElem?_replicate, if_pos (by rw [hl.1]; exact hlt)]
        exact rel_undef
      · cases hi
  · rcases hid_hide.1 hb with q | q
    · exact (own_lt hR.mem q).1
    · exact hR.mem.hlt b q
  · unfold hideRho at h
    rw [if_neg (by omega)] at h
    cases h
  · unfold hideRho at h
    split at h
    · split at h
      · cases h; rfl
      · cases h
    · cases h

/-! ### what a function hands back, as data -/
def frzC (m : Mem) : CK → SV → SV
  | .slice e, .snil => .lst e []
  | .slice e, .row id => (match m.get id with
    | some (.row e' xs) => bif Nat.beq e e' then .lst e xs else .dead
    | _ => .dead)
  | _, x => x
def frzL (m : Mem) : List CK → List SV → List SV
  | k :: ks, x :: xs => frzC m k x :: frzL m ks xs
  | _, xs => xs
def frzT (Ty : Tys) (m : Mem) (t : TypeId) (x : SV) : SV := match Ty t with
  | none => x
  | some d => (match x with
    | .agg cs => .agg (frzL m d.cells cs)
    | x => (match d.cells with | [k] => frzC m k x | _ => x))
def frzs (Ty : Tys) (m : Mem) : List TypeId → List SV → List SV
  | t :: ts, x :: xs => frzT Ty m t x :: frzs Ty m ts xs
  | _, xs => xs
/-- A function's answer as data: own rows become lists. -/
def frz (Ty : Tys) (fn : Func) (x : SV) (s : St) : SV := match fn.resultTypes.toList, x with
  | [t], x => frzT Ty s.mem t x
  | ts, .tup xs => .tup (frzs Ty s.mem ts xs)
  | _, x => x

section
variable {E : Env} {ρ : Ren} {m : Mem} {w : World}
theorem ok_none (hm : MemOk E w ρ m) {m' : Mem} {b : Nat} (hb : okB w ρ m' b) : okB w ρ [] b := ⟨hb.1, fun q => hb.2 (q.elim (fun ⟨_, _, _, h, _⟩ => by cases h) .inr)⟩
theorem frzC_sound (hE : EnvOk E) (hm : MemOk E w ρ m) (k : CK) {x : SV} {v : Value} (h : Rel E w (okB w ρ m) ρ x v) : Rel E w (okB w ρ []) ρ (frzC m k x) v := by
  have plain : Rel E w (okB w ρ []) ρ x v := h.frame (fun _ _ => rfl) (fun b hb => ok_none hm hb) (fun _ _ x => x)
  unfold frzC
  split
  · obtain rfl := inv_snil h
    exact .data _ _ (.lst0 _ none 0)
  · rename_i e id
    have hv := inv_row h
    split
    · rename_i e' xs hg
      simp only [cond_eq_ite]
      split
      · rename_i q
        have q := Nat.eq_of_beq_eq_true q
        subst q
        obtain ⟨d, hd, hr, _⟩ := rep_of_row hE hm hg hv
        exact .data _ _ (hr.frame (fun _ _ => rfl) (fun b hb => ok_none hm hb))
      · exact .dead _
    · exact .dead _
  · exact plain
theorem frzL_sound (hE : EnvOk E) (hm : MemOk E w ρ m) : ∀ (ks : List CK) (xs : List SV) (vs : List Value), RelL E w (okB w ρ m) ρ xs vs → RelL E w (okB w ρ []) ρ (frzL m ks xs) vs
  | [], xs, vs, h => ⟨h.1, fun j s u hs hu => (h.2 j s u hs hu).frame (fun _ _ => rfl) (fun b hb => ok_none hm hb) (fun _ _ x => x)⟩
  | k :: ks, [], vs, h => ⟨h.1, fun j s u hs hu => by simp [frzL] at hs⟩
  | k :: ks, x :: xs, vs, h => by
    obtain ⟨v, r, rfl⟩ : ∃ v r, vs = v :: r := by
      have := h.1
      cases vs with
      | nil => simp at this
      | cons v r => exact ⟨v, r, rfl⟩
    have ih := frzL_sound hE hm ks xs r ⟨by have := h.1; simpa using this, fun j s u hs hu => h.2 (j + 1) s u (by simpa using hs) (by simpa using hu)⟩
    refine ⟨by have := ih.1; simp only [frzL, List.length_cons, this], fun j s u hs hu => ?_⟩
    cases j with
    | zero => simp [frzL] at hs hu; subst hs; subst hu; exact frzC_sound hE hm k (h.2 0 x v rfl rfl)
    | succ j => exact ih.2 j s u (by simpa [frzL] using hs) (by simpa using hu)
theorem frzT_sound (hE : EnvOk E) (hm : MemOk E w ρ m) (t : TypeId) {x : SV} {v : Value} (h : Rel E w (okB w ρ m) ρ x v) : Rel E w (okB w ρ []) ρ (frzT E.Ty m t x) v := by
  have plain : Rel E w (okB w ρ []) ρ x v := h.frame (fun _ _ => rfl) (fun b hb => ok_none hm hb) (fun _ _ x => x)
  unfold frzT
  split
  · exact plain
  · split
    · rename_i d _ _ cs
      obtain ⟨vs, rfl, hl, hr⟩ := inv_agg h
      have := frzL_sound hE hm d.cells cs vs ⟨hl, hr⟩
      exact .agg _ _ this.1 this.2
    · split
      · exact frzC_sound hE hm _ h
      · exact plain
theorem frzs_sound (hE : EnvOk E) (hm : MemOk E w ρ m) : ∀ (ts : List TypeId) (xs : List SV) (vs : List Value), RelL E w (okB w ρ m) ρ xs vs → RelL E w (okB w ρ []) ρ (frzs E.Ty m ts xs) vs
  | [], xs, vs, h => ⟨h.1, fun j s u hs hu => (h.2 j s u hs hu).frame (fun _ _ => rfl) (fun b hb => ok_none hm hb) (fun _ _ x => x)⟩
  | k :: ks, [], vs, h => ⟨h.1, fun j s u hs hu => by simp [frzs] at hs⟩
  | k :: ks, x :: xs, vs, h => by
    obtain ⟨v, r, rfl⟩ : ∃ v r, vs = v :: r := by
      have := h.1
      cases vs with
      | nil => simp at this
      | cons v r => exact ⟨v, r, rfl⟩
    have ih := frzs_sound hE hm ks xs r ⟨by have := h.1; simpa using this, fun j s u hs hu => h.2 (j + 1) s u (by simpa using hs) (by simpa using hu)⟩
    refine ⟨by have := ih.1; simp only [frzs, List.length_cons, this], fun j s u hs hu => ?_⟩
    cases j with
    | zero => simp [frzs] at hs hu; subst hs; subst hu; exact frzT_sound hE hm k (h.2 0 x v rfl rfl)
    | succ j => exact ih.2 j s u (by simpa [frzs] using hs) (by simpa using hu)
theorem frz_sound (hE : EnvOk E) {s : St} (hm : MemOk E w ρ s.mem) (fn : Func) {x : SV} {v : Value} (h : Rel E w (okB w ρ s.mem) ρ x v) : Rel E w (okB w ρ []) ρ (frz E.Ty fn x s) v := by
  have plain : Rel E w (okB w ρ []) ρ x v := h.frame (fun _ _ => rfl) (fun b hb => ok_none hm hb) (fun _ _ x => x)
  unfold frz
  split
  · exact frzT_sound hE hm _ h
  · rename_i xs _
    obtain ⟨vs, rfl, hl, hr⟩ := inv_tup h
    have := frzs_sound hE hm fn.resultTypes.toList xs vs ⟨hl, hr⟩
    exact .tup _ _ this.1 this.2
  · exact plain
end

/-- A plain specification, by a run of the executor. -/
theorem plain_of_run {E : Env} {X : Fx} (hX : FxOk E X) {f : FuncId} {fn : Func} (hf : E.P.funcs[f]? = some fn) (hname : (fn.name == "runtime.NumGoroutine") = false) (hbody : fn.body.isNone = false) {g : List SV → Option (Bool × SV)}
    (hg : ∀ args sv, g args = some (true, sv) → noOwnL args = true ∧ noOwn sv = true ∧ ∃ n, evFun X n fn (frz X.Ty fn) args [] [] = some sv) : SpecOk E f (.plain g) := by
  intro ρ s a w args vals sv hR hl h
  obtain ⟨hno, hno', n, hrun⟩ := hg args sv h
  right
  refine ⟨f, vals.toArray, run_callFunc hf hname hbody _ w, ?_⟩
  refine (evFun_calls hX hf hrun (emptyR hR hl hno)).mono ?_
  rintro e w' ⟨v, ρ', a', sv2, s', rfl, hfin, hF, hrel⟩
  rw [hX.ty] at hfin
  have hrel := frz_sound hX.env hF.r.mem fn hrel
  rw [hfin] at hrel
  have hk : ∀ b, b < w.heap.size → w'.heap[b]? = w.heap[b]? := fun b hb => hF.kept.block b hb (fun ⟨id, o, v, h, _⟩ => by cases h)
  have hok : ∀ b, okB w' ρ' [] b → okB w' ρ s.mem b := fun b hb => ⟨hb.1, fun q => hb.2 (.inr (hF.hid (hid_hide.2 q)))⟩
  refine ⟨v, ρ, rfl, ?_, hrel.noOwn hok hno', fun _ _ x => x, ⟨hF.kept.os, hF.kept.tape, hF.kept.output, hF.kept.size, fun b hb _ => hk b hb⟩, fun b hb => .inl hb, fun _ x => x⟩
  refine hR.next hX.env (fun _ _ x => x) (fun b hb => .inl hb) (fun _ x => x) hF.kept.size (fun b hb _ => hk b hb) ?_ hR.used hR.one
  exact ⟨fun id o hg => (hR.mem.obj id o hg).frame (fun b hb => hk b hb.1) (fun b hb => ⟨Nat.lt_of_lt_of_le hb.1 hF.kept.size, hb.2⟩) (fun _ _ x => x) (fun v b hv hb => hk b (own_lt hR.mem ⟨id, o, v, hg, hv, hb⟩).1), hR.mem.sep, hR.mem.hsep, fun b hb => Nat.lt_of_lt_of_le (hR.mem.hlt b hb) hF.kept.size⟩
end Sx
