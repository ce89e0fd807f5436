/-
  Sx, part 30: worlds that differ in objects that are no cells: what a state says of one it says of the other; slots of several frames; operations within rounds.
-/
import Derived.Test.YtloejipleojnmaaGreatDoorEc
import Derived.RangeFuncRecord
import Derived.LoopNIn
import Derived.OrdersIn
import Derived.Test.YtloejipleojnmaaGreatDoorEa
import Derived.Sort.OwnSortedInts
import Derived.Lib.SlicesCompact
import Derived.LaidLaws
import Derived.LaidHandle
import Derived.Lay
import Derived.MakeChecks
set_option linter.unusedVariables false
set_option linter.unusedSimpArgs false
set_option linter.unusedVariables false
set_option linter.unusedSimpArgs false
set_option linter.unnecessarySimpa false
namespace Sx
open Go

/-- All cells that lay lie as they lay. -/
structure Same (E : Env) (w w' : World) : Prop where
  size : w.heap.size ≤ w'.heap.size
  cells : ∀ (b : Nat) (cs : Array Value) (t : TypeId) (fr : Nat × Nat), w.heap[b]? = some (.cells cs t fr) → w'.heap[b]? = some (.cells cs t fr)
  g : E.G w'
theorem Same.cell {E : Env} {w w' : World} (h : Same E w w') {a : Addr} {v : Value} (hc : w.cell? a = some v) : w'.cell? a = some v := by
  unfold World.cell? at hc ⊢
  cases hq : w.heap[a.block]? with
  | none => simp [hq] at hc
  | some o =>
    rw [hq] at hc
    cases o with
    | cells cs t fr => rw [h.cells _ _ _ _ hq]; exact hc
    | _ => simp at hc
theorem Rep.same {E : Env} {w w' : World} (hs : Same E w w') {ok ok' : Nat → Prop} (hk : ∀ b, ok b → ok' b) {s : SV} {v : Value} (h : Rep E w ok s v) : Rep E w' ok' s v := by
  induction h with
  | bool b => exact .bool b
  | int k n => exact .int k n
  | str s => exact .str s
  | pnil => exact .pnil
  | opq v h => exact .opq v h
  | lst0 e A c => exact .lst0 e A c
  | lst e d xs a c u hd hc hm hok hE hcell hr ih =>
    exact .lst e d xs a c u hd hc hm (hk _ hok) hE (fun i j hi hj => hs.cell (hcell i j hi hj)) (fun i j x s hx hs => ih i j x s hx hs)
theorem Rel.same {E : Env} {w w' : World} (hs : Same E w w') {ok ok' : Nat → Prop} (hk : ∀ b, ok b → ok' b) {ρ ρ' : Ren} (hρ : ∀ id v, ρ id = some v → ρ' id = some v) {s : SV} {v : Value} (h : Rel E w ok ρ s v) : Rel E w' ok' ρ' s v := by
  induction h with
  | data s v h => exact .data _ _ (h.same hs hk)
  | snil => exact .snil
  | box id off b h => exact .box id off b (hρ _ _ h)
  | elt id sz i off b n c h hi => exact .elt id sz i off b n c (hρ _ _ h) hi
  | ael id base sz n i off b h hi => exact .ael id base sz n i off b (hρ _ _ h) hi
  | adr cs a u hok hcell hr => exact .adr cs a u (hk _ hok) (fun j hj => hs.cell (hcell j hj)) (fun j s hq => (hr j s hq).same hs hk)
  | row id v h => exact .row id v (hρ _ _ h)
  | agg cs vs hl hr ih => exact .agg cs vs hl ih
  | tup cs vs hl hr ih => exact .tup cs vs hl ih
  | fn f fs cs gs ds hl hl' hr hr' ih ih' => exact .fn f fs cs gs ds hl hl' ih ih'
  | dead v => exact .dead v
theorem okB_same {E : Env} {w w' : World} (hs : Same E w w') {ρ ρ' : Ren} {m : Mem} (h1 : ∀ b, own ρ' m b → own ρ m b) (h2 : ∀ b, hid ρ' b → hid ρ b) {b : Nat} (h : okB w ρ m b) : okB w' ρ' m b :=
  ⟨Nat.lt_of_lt_of_le h.1 hs.size, fun q => h.2 (q.imp (h1 b) (h2 b))⟩
theorem ObjOk.same {E : Env} {w w' : World} (hs : Same E w w') {ok ok' : Nat → Prop} (hk : ∀ b, ok b → ok' b) {ρ ρ' : Ren} (hρ : ∀ id v, ρ id = some v → ρ' id = some v) {id : Nat} {o : SObj} (h : ObjOk E w ok ρ id o) : ObjOk E w' ok' ρ' id o := by
  cases h with
  | box t d cs b vs h1 hd h2 hng hl hty hr => exact .box t d cs b vs (hρ _ _ h1) hd (hs.cells _ _ _ _ h2) hng hl hty (fun j s v hq hv => (hr j s v hq hv).same hs hk hρ)
  | row e d xs v cells h1 hd ho hone hc =>
    refine .row e d xs v cells (hρ _ _ h1) hd ⟨ho.1, ?_⟩ hone ⟨hc.1, fun i j x s hx hq => let ⟨u, hu, hr⟩ := hc.2 i j x s hx hq; ⟨u, hu, hr.same hs hk⟩⟩
    rcases ho.2 with hn | ⟨g, cap, cur, fr, rfl, hbg, hg, r⟩
    · exact .inl hn
    · exact .inr ⟨g, cap, cur, fr, rfl, hbg, hs.cells _ _ _ _ hg, r⟩
theorem MemOk.same {E : Env} {w w' : World} (hs : Same E w w') {ρ : Ren} {m : Mem} (h : MemOk E w ρ m) : MemOk E w' ρ m :=
  ⟨fun id o hg => (h.obj id o hg).same hs (fun b hb => okB_same hs (fun _ x => x) (fun _ x => x) hb) (fun _ _ x => x), h.sep, h.hsep, fun b hb => Nat.lt_of_lt_of_le (h.hlt b hb) hs.size⟩
theorem R.sameW {E : Env} {w w' : World} (hs : Same E w w') {ρ : Ren} {s : St} {a : Act} (h : R E ρ s a w) : R E ρ s a w' :=
  ⟨h.len, fun i v hi => (h.slot i v hi).same hs (fun b hb => okB_same hs (fun _ x => x) (fun _ x => x) hb) (fun _ _ x => x), h.mem.same hs, h.used, h.one, hs.g⟩

def isLk : Obj → Bool
  | .loop _ => true
  | .deferred _ => true
  | _ => false
theorem Same.poke {E : Env} (hE : EnvOk E) {w : World} (hg : E.G w) {l : Nat} {o : Obj} (h : w.heap[l]? = some o) (ho : isLk o = true) (hng : E.ng ≤ l) (o' : Obj) : Same E w (w.putObj l o') := by
  refine ⟨by rw [World.putObj_size]; exact Nat.le_refl _, fun b cs t fr hb => ?_, ?_⟩
  · by_cases e : b = l
    · subst e
      rw [h] at hb
      cases hb
      simp [isLk] at ho
    · rw [World.putObj_heap_other e]; exact hb
  · exact hE.gG w _ hg (fun b hb => World.putObj_heap_other (by omega)) (by rw [World.putObj_size]; exact Nat.le_refl _)
theorem Same.alloc {E : Env} (hE : EnvOk E) {w : World} (hg : E.G w) (o : Obj) : Same E w (w.alloc o) := by
  have hlt : ∀ b o', w.heap[b]? = some o' → (w.alloc o).heap[b]? = some o' := fun b o' hb => by
    rw [Go.RowKit.Below.heap_alloc w o b (Array.getElem?_eq_some_iff.1 hb).1]; exact hb
  have hn := hE.gn w hg
  exact ⟨by simp, fun b cs t fr hb => hlt b _ hb, hE.gG w _ hg (fun b hb => Go.RowKit.Below.heap_alloc w o b (by omega)) (by simp)⟩
theorem Same.trans {E : Env} {a b c : World} (h : Same E a b) (k : Same E b c) : Same E a c :=
  ⟨Nat.le_trans h.size k.size, fun x cs t fr hx => k.cells _ _ _ _ (h.cells _ _ _ _ hx), k.g⟩
/-- One's own blocks are cells. -/
theorem own_cells {E : Env} {w : World} {ρ : Ren} {m : Mem} (h : MemOk E w ρ m) {b : Nat} (hb : own ρ m b) {o : Obj} (ho : w.heap[b]? = some o) : isLk o = false := by
  obtain ⟨id, x, v, hg, hv, hk⟩ := hb
  cases h.obj id x hg with
  | box t d cs b' vs hρ hd hb hng hl hty hr =>
    rw [hρ] at hv; cases hv
    simp [blkOf] at hk; subst hk
    rw [hb] at ho; cases ho; rfl
  | row e d xs v' cells hρ hd hrow h1 hc =>
    rw [hρ] at hv; cases hv
    rcases hrow.2 with ⟨rfl, _⟩ | ⟨g, cap, cur, fr, rfl, hg', hh, _⟩
    · simp [blkOf] at hk
    · simp [blkOf] at hk; subst hk
      rw [hh] at ho; cases ho; rfl

/-! ### slots of frames -/
def SlotsOk (E : Env) (w : World) (ok : Nat → Prop) (ρ : Ren) (l : List SV) (tmps : Array Value) : Prop := l.length = tmps.size ∧ ∀ (i : Nat) v, tmps[i]? = some v → Rel E w ok ρ (getAt l i) v
def OutsOk (E : Env) (w : World) (ok : Nat → Prop) (ρ : Ren) : List (List SV) → List (Array Value) → Prop
  | [], [] => True
  | o :: os, v :: vs => SlotsOk E w ok ρ o v ∧ OutsOk E w ok ρ os vs
  | _, _ => False
section
variable {E : Env} {w w' : World} {ok ok' : Nat → Prop} {ρ ρ' : Ren}
theorem SlotsOk.frame (hw : ∀ b, ok b → w'.heap[b]? = w.heap[b]?) (hk : ∀ b, ok b → ok' b) (hρ : ∀ id v, ρ id = some v → ρ' id = some v) {l : List SV} {t : Array Value} (h : SlotsOk E w ok ρ l t) : SlotsOk E w' ok' ρ' l t :=
  ⟨h.1, fun i v hi => (h.2 i v hi).frame hw hk hρ⟩
theorem OutsOk.frame (hw : ∀ b, ok b → w'.heap[b]? = w.heap[b]?) (hk : ∀ b, ok b → ok' b) (hρ : ∀ id v, ρ id = some v → ρ' id = some v) : ∀ {l : List (List SV)} {t : List (Array Value)}, OutsOk E w ok ρ l t → OutsOk E w' ok' ρ' l t
  | [], [], _ => trivial
  | _ :: _, _ :: _, h => ⟨h.1.frame hw hk hρ, OutsOk.frame hw hk hρ h.2⟩
  | [], _ :: _, h => h.elim
  | _ :: _, [], h => h.elim
theorem SlotsOk.same (hs : Same E w w') (hk : ∀ b, ok b → ok' b) (hρ : ∀ id v, ρ id = some v → ρ' id = some v) {l : List SV} {t : Array Value} (h : SlotsOk E w ok ρ l t) : SlotsOk E w' ok' ρ' l t :=
  ⟨h.1, fun i v hi => (h.2 i v hi).same hs hk hρ⟩
theorem OutsOk.same (hs : Same E w w') (hk : ∀ b, ok b → ok' b) (hρ : ∀ id v, ρ id = some v → ρ' id = some v) : ∀ {l : List (List SV)} {t : List (Array Value)}, OutsOk E w ok ρ l t → OutsOk E w' ok' ρ' l t
  | [], [], _ => trivial
  | _ :: _, _ :: _, h => ⟨h.1.same hs hk hρ, OutsOk.same hs hk hρ h.2⟩
  | [], _ :: _, h => h.elim
  | _ :: _, [], h => h.elim
theorem SlotsOk.append {l1 l2 : List SV} {t1 t2 : Array Value} (h1 : SlotsOk E w ok ρ l1 t1) (h2 : SlotsOk E w ok ρ l2 t2) : SlotsOk E w ok ρ (l1 ++ l2) (t1 ++ t2) := by
  refine ⟨by simp [h1.1, h2.1], fun i v hi => ?_⟩
  rw [getAt_eq]
  by_cases q : i < t1.size
  · rw [Array.getElem?_append_left q] at hi
    rw [List.getElem?_append_left (by rw [h1.1]; exact q), ← getAt_eq]
    exact h1.2 i v hi
  · rw [Array.getElem?_append_right (by omega)] at hi
    rw [List.getElem?_append_right (by rw [h1.1]; omega), ← getAt_eq, h1.1]
    exact h2.2 _ v hi
theorem SlotsOk.split {l : List SV} {t1 t2 : Array Value} (h : SlotsOk E w ok ρ l (t1 ++ t2)) : SlotsOk E w ok ρ (l.take t1.size) t1 ∧ SlotsOk E w ok ρ (l.drop t1.size) t2 := by
  have hl : l.length = t1.size + t2.size := by have := h.1; simpa using this
  refine ⟨⟨by simp; omega, fun i v hi => ?_⟩, ⟨by simp; omega, fun i v hi => ?_⟩⟩
  · have hlt : i < t1.size := (Array.getElem?_eq_some_iff.1 hi).1
    have := h.2 i v (by rw [Array.getElem?_append_left hlt]; exact hi)
    rw [getAt_eq] at this ⊢
    rw [List.getElem?_take, if_pos hlt]; exact this
  · have := h.2 (t1.size + i) v (by rw [Array.getElem?_append_right (by omega)]; simpa using hi)
    rw [getAt_eq] at this ⊢
    rw [List.getElem?_drop]; exact this
def flatA : List (Array Value) → Array Value
  | [] => #[]
  | t :: ts => t ++ flatA ts
theorem OutsOk.flat : ∀ {l : List (List SV)} {t : List (Array Value)}, OutsOk E w ok ρ l t → SlotsOk E w ok ρ l.flatten (flatA t)
  | [], [], _ => ⟨rfl, fun i v hi => by simp [flatA] at hi⟩
  | _ :: _, _ :: _, h => by
    simp only [List.flatten_cons, flatA]
    exact h.1.append h.2.flat
  | [], _ :: _, h => h.elim
  | _ :: _, [], h => h.elim
def splitL : List Nat → List SV → List (List SV)
  | [], _ => []
  | n :: ns, l => l.take n :: splitL ns (l.drop n)
theorem OutsOk.unflat : ∀ {ns : List Nat} {l : List SV} {t : List (Array Value)}, ns = t.map Array.size → SlotsOk E w ok ρ l (flatA t) → OutsOk E w ok ρ (splitL ns l) t
  | [], _, [], _, _ => trivial
  | [], _, _ :: _, h, _ => by simp at h
  | _ :: _, _, [], h, _ => by simp at h
  | n :: ns, l, t :: ts, hn, h => by
    simp only [List.map_cons, List.cons.injEq] at hn
    obtain ⟨rfl, hn⟩ := hn
    have := h.split
    exact ⟨this.1, OutsOk.unflat hn this.2⟩
theorem OutsOk.sizes : ∀ {l : List (List SV)} {t : List (Array Value)}, OutsOk E w ok ρ l t → l.map List.length = t.map Array.size
  | [], [], _ => rfl
  | _ :: _, _ :: _, h => by simp only [List.map_cons, h.1.1, h.2.sizes]
  | [], _ :: _, h => h.elim
  | _ :: _, [], h => h.elim
end

/-! ### operations within a fence that lets all in -/
def Fr (ro : Option Nat) : Fence := { Fence.wide with round := ro }
theorem Fr_room (ro : Option Nat) (n : Nat) : (Fr ro).room n := fun _ h => by simp [Fr, Fence.wide] at h
theorem callsIn_any {ro : Option Nat} {n : Nat} {P : Program} {f : FuncId} {args : Array Value} {w : World} {R : Ending → World → Prop} (h : Calls P f args w R) : CallsIn (Fr ro) n P f args w R := by
  have h : CallsIn Fence.wide n P f args w R := callsIn_wide.2 h
  exact h
theorem calls_any {ro : Option Nat} {n : Nat} {P : Program} {f : FuncId} {args : Array Value} {w : World} {R : Ending → World → Prop} (h : CallsIn (Fr ro) n P f args w R) : Calls P f args w R := by
  have h : CallsIn Fence.wide n P f args w R := h
  exact callsIn_wide.1 h
theorem wpIn_any {n : Nat} {P : Program} {c : Code} {Q : Exit → Act → World → Prop} {a : Act} {w : World} (h : c.wpIn (Fr none) n P Q a w) : c.wp P Q a w := wpIn_wide.1 h
theorem opX_defer {Ty : Tys} {o : Oper} {s : St} {r : Bool × SV × St} {T : Specs} (h : stepX Ty T o s = some r) : ∀ c, o.op ≠ .defer c := by
  intro c hc
  unfold stepX at h
  rw [hc] at h
  simp only [callOf] at h
  unfold opX at h
  rw [hc] at h
  cases h
section
variable {E : Env} {ρ : Ren} {s : St} {a : Act} {w : World}
theorem StepDone.wpIn {sv : SV} {s' : St} {o : Oper} {ro : Option Nat} {n : Nat} (hd : ∀ c, o.op ≠ .defer c) {K : Act → World → Prop} {Q : Exit → Act → World → Prop} (h : StepDone E ρ s a w ((execOp a.eval o).run E.P w) sv s')
    (hK : ∀ v ρ' w', Comes1 E ρ s a w sv s' v ρ' w' → K (a.put o.dst v) w') : o.wpIn (Fr ro) n E.P a w K Q := by
  refine ⟨fun _ _ => trivial, ?_⟩
  rw [Oper.semAt_eq _ _ _ hd]
  rcases h with ⟨nx, v, ρ', w', hr, hn, hc⟩ | ⟨f, args, hr, hc⟩
  · rw [hr]
    rcases hn with rfl | ⟨rfl, rfl⟩
    · exact hK _ _ _ hc
    · exact hK _ _ _ hc
  · rw [hr]
    refine ⟨fun h => by simp [Fr, Fence.wide] at h, callsIn_any (hc.mono ?_)⟩
    rintro e w' ⟨v, ρ', rfl, hc⟩
    exact hK _ _ _ hc
end
end Sx

/-
  Sx, part 31: ranges over functions: the executor with frames below (definitions), and what it says of one step.
-/
set_option linter.unusedVariables false
set_option linter.unusedSimpArgs false
set_option linter.unnecessarySimpa false
namespace Sx
open Go

/-- A state with the frames below it; of an iterator, with the way by which its loop is left. -/
structure Sg where
  s : St
  outs : List (List SV)
  pend : Option Ex
  deriving Inhabited
/-- The names of the yields of so many frames. -/
def yNames : Nat → List Nat
  | 0 => []
  | k + 1 => (61 + k) :: yNames k
def addLive (k n : Nat) (live : List Nat × List (Nat × TypeId)) : List Nat × List (Nat × TypeId) := (live.1 ++ (List.range n).map (k + ·), live.2)
def canonG (Ty : Tys) (sm : List Nat) (live : List Nat × List (Nat × TypeId)) (g : Sg) : Option Sg := match g.pend with
  | some _ => none
  | none => match canon Ty (yNames g.outs.length ++ sm) (addLive g.s.slots.length g.outs.flatten.length live) ⟨g.s.slots ++ g.outs.flatten, g.s.mem, g.s.used⟩ with
    | none => none
    | some t => some ⟨⟨t.slots.take g.s.slots.length, t.mem, t.used⟩, splitL (g.outs.map List.length) (t.slots.drop g.s.slots.length), none⟩

section
variable {α : Type}
abbrev Kg (α : Type) := Ex → Sg → Option α
/-- A call of yield, in an iterator. -/
abbrev Yh (α : Type) := List SV → Sg → (Bool → Sg → Option α) → Option α
noncomputable def loopNG (Ty : Tys) (sm : List Nat) (live : List Nat × List (Nat × TypeId)) (n : Nat) : (Sg → Kg α → Option α) → Sg → Kg α → Option α :=
  Nat.rec (motive := fun _ => (Sg → Kg α → Option α) → Sg → Kg α → Option α) (fun _ _ _ => none)
    (fun _ ih F s K => F s (fun e t => match e with
      | .normal => (match canonG Ty sm live t with
        | none => none
        | some t' => ih F t' K)
      | e => K e t)) n
noncomputable def loopKG (Ty : Tys) (sm : List Nat) (live : List Nat × List (Nat × TypeId)) (n : Nat) (F : Sg → Kg α → Option α) (s : Sg) (K : Kg α) : Option α :=
  match canonG Ty sm live s with
  | none => none
  | some s' => loopNG Ty sm live n F s' K
def regX (Ty : Tys) (T : Specs) (ops : Array Oper) (draw : Bool) (s : St) (K : St → Option α) : Option α :=
  bif !draw || drawOk Ty T ops [] then evOps Ty T ops.toList ops.toList s K else evOps Ty T ops.toList ops.toList s (fun s' => bif drawOk Ty T ops s'.slots then K s' else none)
def isYield (g : Sg) (o : Oper) : Bool := match callOf o.op with
  | some (f, _) => (match evl g.s.slots f with | .row j => Nat.beq j (60 + g.outs.length) | _ => false)
  | none => false
def argsOf (g : Sg) (o : Oper) : List SV := match callOf o.op with | some (_, args) => evls g.s.slots args | none => []
def evOpsY (Ty : Tys) (T : Specs) (all : List Oper) (y : Yh α) : List Oper → Sg → (Sg → Option α) → Option α
  | [], g, K => K g
  | o :: r, g, K => bif isYield g o then (match o.guard with
      | none => y (argsOf g o) g (fun b g' => evOpsY Ty T all y r ⟨g'.s.put o.dst (.bool b), g'.outs, g'.pend⟩ K)
      | some _ => none)
    else evOps Ty T all [o] g.s (fun s' => evOpsY Ty T all y r ⟨s', g.outs, g.pend⟩ K)
def regY (Ty : Tys) (T : Specs) (Y : Option (Yh α)) (ops : Array Oper) (draw : Bool) (g : Sg) (K : Sg → Option α) : Option α := match Y with
  | none => regX Ty T ops draw g.s (fun s' => K ⟨s', g.outs, g.pend⟩)
  | some y => bif draw then regX Ty T ops draw g.s (fun s' => K ⟨s', g.outs, g.pend⟩) else evOpsY Ty T ops.toList y ops.toList g K
def headIdG : Code → Nat
  | .region id _ _ => id
  | .seq a _ => headIdG a
  | .block _ c => headIdG c
  | .scope c => headIdG c
  | .loop c => headIdG c
  | .cond _ a _ => headIdG a
  | .rangeFunc _ _ a _ => headIdG a
  | _ => 0
abbrev Rf (α : Type) := Operand → List Nat → Nat → (Sg → Kg α → Option α) → (Sg → Kg α → Option α) → Sg → Kg α → Option α
noncomputable def evB (X : Fx) (liv : Nat → List Nat × List (Nat × TypeId)) (n : Nat) (rf : Rf α) (Y : Option (Yh α)) : Code → Sg → Kg α → Option α
  | .skip, g, K => K .normal g
  | .label _, g, K => K .normal g
  | .region _ ops draw, g, K => regY X.Ty X.T Y ops draw g (fun g' => K .normal g')
  | .seq a b, g, K => evB X liv n rf Y a g (fun e g' => match e with | .normal => evB X liv n rf Y b g' K | e => K e g')
  | .cond c a b, g, K => (match evl g.s.slots c with
    | .bool t => bif t then evB X liv n rf Y a ⟨g.s.lit c true, g.outs, g.pend⟩ K else evB X liv n rf Y b ⟨g.s.lit c false, g.outs, g.pend⟩ K
    | _ => none)
  | .block id c, g, K => evB X liv n rf Y c g (fun e g' => match e with | .exit j => (bif Nat.beq j id then K .normal g' else K (.exit j) g') | e => K e g')
  | .loop c, g, K => loopKG X.Ty X.sm (liv (headIdG c)) n (fun g' K' => evB X liv n rf Y c g' K') g K
  | .rangeFunc f ps a b, g, K => rf f ps.toList (headIdG a) (fun g' K' => evB X liv n rf Y a g' K') (fun g' K' => evB X liv n rf Y b g' K') g K
  | .scope c, g, K => evB X liv n rf Y c g K
  | .exit id, g, K => K (.exit id) g
  | .ret, g, K => K .ret g
  | _, _, _ => none
end

/-! ### it is so -/
structure Cx where
  L : List (Nat × (Option Ex → Obj))
  ys : List (Nat × Nat)
  xv : List (Array Value)
  bare : Bool
def markOf (D : Nat) : Deferred := { target := .collected D, args := #[] }
/-- How far a run has come, with the frames below it. -/
structure Fw (E : Env) (sm : List Nat) (ρ0 : Ren) (m0 : Mem) (w0 : World) (C : Cx) (ρ : Ren) (g : Sg) (a : Act) (w : World) : Prop where
  r : R E ρ g.s a w
  ext : ∀ i u, (hasNat sm i = true ∨ 1000000 ≤ i) → ρ0 i = some u → ρ i = some u
  kept : Kept (own ρ0 m0) w0 w
  own : ∀ b, own ρ g.s.mem b → own ρ0 m0 b ∨ w0.heap.size ≤ b
  outs : OutsOk E w (okB w ρ g.s.mem) ρ g.outs C.xv
  lock : ∀ p, p ∈ C.L → w0.heap.size ≤ p.1 ∧ w.heap[p.1]? = some (p.2 g.pend) ∧ isLk (p.2 g.pend) = true
  ys : ∀ p, p ∈ C.ys → ρ p.1 = some (.func (.yield p.2) #[] #[]) ∧ hasNat (yNames g.outs.length) p.1 = true
  marks : ∃ Ds : List Nat, a.defers = Ds.map markOf ∧ Ds.Nodup ∧ (∀ D, D ∈ Ds → w0.heap.size ≤ D ∧ w.heap[D]? = some (.deferred (some []))) ∧ (C.bare = true → Ds = [])

section
variable {E : Env} {sm : List Nat} {ρ0 : Ren} {m0 : Mem} {w0 : World} {C : Cx} {ρ : Ren} {g : Sg} {a : Act} {w : World}
theorem okB_step {s s' : St} {ρ' : Ren} {w' : World} {sv : SV} {v : Value} (hc : Comes1 E ρ s a w sv s' v ρ' w') {b : Nat} (h : okB w ρ s.mem b) : okB w' ρ' s'.mem b :=
  ⟨Nat.lt_of_lt_of_le h.1 hc.kept.size, fun q => by
    rcases q with q | q
    · rcases hc.own b q with q | q
      · exact h.2 (.inl q)
      · have := h.1; omega
    · exact h.2 (.inr (hc.hid b q))⟩
theorem lk_step {s s' : St} {ρ' : Ren} {w' : World} {sv : SV} {v : Value} (hR : R E ρ s a w) (hc : Comes1 E ρ s a w sv s' v ρ' w') {b : Nat} {o : Obj} (h : w.heap[b]? = some o) (ho : isLk o = true) : w'.heap[b]? = some o := by
  rw [hc.kept.block b (Array.getElem?_eq_some_iff.1 h).1 (fun q => by rw [own_cells hR.mem q h] at ho; cases ho)]
  exact h
theorem Fw.step (h : Fw E sm ρ0 m0 w0 C ρ g a w) {sv : SV} {s' : St} {v : Value} {ρ' : Ren} {w' : World} (hc : Comes1 E ρ g.s a w sv s' v ρ' w') (dst : Option Tmp) : Fw E sm ρ0 m0 w0 C ρ' ⟨s'.put dst sv, g.outs, g.pend⟩ (a.put dst v) w' := by
  have hmem : (s'.put dst sv).mem = s'.mem := by cases dst <;> rfl
  refine ⟨hc.r.put hc.rel dst, fun i u hi hu => hc.ext i u (h.ext i u hi hu), h.kept.trans hc.kept (fun x hx hq => ?_), fun b hb => ?_, ?_, fun p hp => ?_, fun p hp => ?_, ?_⟩
  · rcases h.own x hq with q | q
    · exact q
    · omega
  · have hb' : Sx.own ρ' s'.mem b := by rw [hmem] at hb; exact hb
    rcases hc.own b hb' with q | q
    · exact h.own b q
    · exact .inr (Nat.le_trans h.kept.size q)
  · show OutsOk E w' (okB w' ρ' (s'.put dst sv).mem) ρ' g.outs C.xv
    rw [hmem]
    exact h.outs.frame (fun b hb => hc.kept.block b hb.1 (fun q => hb.2 (.inl q))) (fun b hb => okB_step hc hb) hc.ext
  · obtain ⟨h1, h2, h3⟩ := h.lock p hp
    exact ⟨h1, lk_step h.r hc h2 h3, h3⟩
  · obtain ⟨h1, h2⟩ := h.ys p hp
    exact ⟨hc.ext _ _ h1, h2⟩
  · obtain ⟨Ds, h1, h2, h3, h4⟩ := h.marks
    exact ⟨Ds, by rw [put_defers']; exact h1, h2, fun D hD => ⟨(h3 D hD).1, lk_step h.r hc (h3 D hD).2 rfl⟩, h4⟩
theorem Fw.skip (h : Fw E sm ρ0 m0 w0 C ρ g a w) (dst : Option Tmp) : Fw E sm ρ0 m0 w0 C ρ ⟨g.s.put dst (.tup []), g.outs, g.pend⟩ (a.put dst undef) w := by
  have hmem : (g.s.put dst (.tup [])).mem = g.s.mem := by cases dst <;> rfl
  refine ⟨h.r.put rel_undef dst, h.ext, h.kept, fun b hb => h.own b (by rw [hmem] at hb; exact hb), ?_, h.lock, h.ys, ?_⟩
  · show OutsOk E w (okB w ρ (g.s.put dst (.tup [])).mem) ρ g.outs C.xv
    rw [hmem]; exact h.outs
  · obtain ⟨Ds, h1, h2, h3⟩ := h.marks
    exact ⟨Ds, by rw [put_defers']; exact h1, h2, h3⟩
/-- Another world, where all cells lie as they lay. -/
theorem Fw.same {w' : World} (hs : Same E w w') (h : Fw E sm ρ0 m0 w0 C ρ g a w) (hkept : Kept (Sx.own ρ0 m0) w0 w') {C' : Cx} {g' : Sg} (hgs : g'.s = g.s) (hgo : g'.outs = g.outs) (hxv : C'.xv = C.xv) (hys : C'.ys = C.ys) (hba : C'.bare = C.bare)
    (hl : ∀ p, p ∈ C'.L → w0.heap.size ≤ p.1 ∧ w'.heap[p.1]? = some (p.2 g'.pend) ∧ isLk (p.2 g'.pend) = true)
    (hm : ∀ D, markOf D ∈ a.defers → w.heap[D]? = some (Obj.deferred (some [])) → w'.heap[D]? = some (Obj.deferred (some []))) : Fw E sm ρ0 m0 w0 C' ρ g' a w' := by
  refine ⟨by rw [hgs]; exact h.r.sameW hs, h.ext, hkept, by rw [hgs]; exact h.own, ?_, hl, by rw [hys, hgo]; exact h.ys, ?_⟩
  · rw [hgs, hgo, hxv]
    exact h.outs.same hs (fun b hb => okB_same hs (fun _ x => x) (fun _ x => x) hb) (fun _ _ x => x)
  · obtain ⟨Ds, h1, h2, h3, h4⟩ := h.marks
    exact ⟨Ds, h1, h2, fun D hD => ⟨(h3 D hD).1, hm D (by rw [h1]; exact List.mem_map_of_mem hD) (h3 D hD).2⟩, by rw [hba]; exact h4⟩

theorem stepD_soundIn (hE : EnvOk E) {T : Specs} (hT : SpecsOk E T) {ro : Option Nat} {nf : Nat} (hF : Fw E sm ρ0 m0 w0 C ρ g a w) {ops : Array Oper} {o : Oper} {s' : St} (h : stepD E.Ty T ops.toList o g.s = some s')
    {K : Act → World → Prop} {Q : Exit → Act → World → Prop} (hK : ∀ ρ' a' w', Fw E sm ρ0 m0 w0 C ρ' ⟨s', g.outs, g.pend⟩ a' w' → K a' w') :
    if Region.wanted o (yielded ops a.tmps) then o.wpIn (Fr ro) nf E.P a w K Q else (∀ f, o.about E.P w a.eval = some f → (Fr ro).fn f) ∧ K (a.put o.dst undef) w := by
  unfold stepD at h
  split at h
  · cases h
  · rename_i hw
    cases h
    rw [wantX_sound hF.r hw]
    exact ⟨fun _ _ => trivial, hK ρ _ _ (hF.skip o.dst)⟩
  · rename_i hw
    rw [wantX_sound hF.r hw, if_pos rfl]
    split at h
    · rename_i c x y hop
      split at h
      · rename_i b hb
        cases h
        have hc := hF.r.eval c
        rw [hb] at hc
        have hc := inv_bool hc
        have : (execOp a.eval o).run E.P w = .ok (.value (if b then a.eval x else a.eval y)) w := by
          obtain ⟨dst, op, ty, pos, after, guard⟩ := o
          simp only at hop
          subst hop
          cases b <;> simp [execOp, hc, asBool, Go.asBool]
        refine ⟨fun _ _ => trivial, ?_⟩
        rw [Oper.semAt_eq _ _ _ (fun c q => by rw [hop] at q; cases q), this]
        refine hK ρ _ _ ?_
        have hr : Rel E w (okB w ρ g.s.mem) ρ (bif b then evl g.s.slots x else evl g.s.slots y) (if b then a.eval x else a.eval y) := by
          cases b
          · exact hF.r.eval y
          · exact hF.r.eval x
        exact hF.step (ρ' := ρ) (s' := g.s) ⟨hF.r, hr, fun _ _ x => x, Kept.refl _ _, fun _ hb => .inl hb, fun _ x => x⟩ o.dst
      · cases h
    · split at h
      · rename_i sv s2 hs
        cases h
        exact (stepX_sound hE hT hF.r hs).wpIn (opX_defer hs) (fun v ρ' w' hc => hK ρ' _ _ (hF.step hc o.dst))
      · cases h
theorem wpOpsIn_of_runD (hE : EnvOk E) {T : Specs} (hT : SpecsOk E T) {ro : Option Nat} {nf : Nat} {ops : Array Oper} {r : St} {outs : List (List SV)} {pend : Option Ex} {Q : Exit → Act → World → Prop} (hQ : ∀ ρ a w, Fw E sm ρ0 m0 w0 C ρ ⟨r, outs, pend⟩ a w → Q .normal a w) :
    ∀ (l : List Oper) (k : Nat) (s : St) (ρ : Ren) (a : Act) (w : World), (∀ j, l[j]? = ops[k + j]?) → Fw E sm ρ0 m0 w0 C ρ ⟨s, outs, pend⟩ a w → runD E.Ty T ops.toList l s = some r → wpOpsIn (Fr ro) nf E.P ops Q ((List.range l.length).map (k + ·)) a w
  | [], k, s, ρ, a, w, _, hF, h => by
    simp only [runD, Option.some.injEq] at h
    subst h
    exact hQ ρ a w hF
  | o :: l, k, s, ρ, a, w, hl, hF, h => by
    have h0 : ops[k]? = some o := by simpa using (hl 0).symm
    simp only [runD] at h
    cases hs : stepD E.Ty T ops.toList o s with
    | none => simp [hs] at h
    | some s1 =>
      simp only [hs] at h
      have : (List.range (o :: l).length).map (k + ·) = k :: (List.range l.length).map (k + 1 + ·) := by
        rw [List.length_cons, List.range_succ_eq_map]
        simp only [List.map_cons, List.map_map, Nat.add_zero]
        congr 1
        apply List.map_congr_left
        intro x _
        simp only [Function.comp]; omega
      rw [this]
      simp only [wpOpsIn, h0]
      exact stepD_soundIn hE hT hF hs (fun ρ' a' w' hF' => wpOpsIn_of_runD hE hT hQ l (k + 1) s1 ρ' a' w' (fun j => by have := hl (j + 1); simpa [Nat.add_assoc, Nat.add_comm 1 j] using this) hF' h)
theorem wpAnyIn_of_anyD (hE : EnvOk E) {T : Specs} (hT : SpecsOk E T) {ro : Option Nat} {nf : Nat} {md : Region.Mode} {ops : Array Oper} {r : St} {outs : List (List SV)} {pend : Option Ex} {Q : Exit → Act → World → Prop} (hQ : ∀ ρ a w, Fw E sm ρ0 m0 w0 C ρ ⟨r, outs, pend⟩ a w → Q .normal a w) :
    ∀ (n : Nat) (listed : Array Bool) (s : St) (ρ : Ren) (a : Act) (w : World), Fw E sm ρ0 m0 w0 C ρ ⟨s, outs, pend⟩ a w → anyD E.Ty T md ops r n listed s → wpAnyIn (Fr ro) nf E.P md ops Q n listed a w
  | 0, listed, s, ρ, a, w, hF, h => ⟨h.1, by rw [h.2] at hF; exact hQ ρ a w hF⟩
  | n + 1, listed, s, ρ, a, w, hF, h => by
    refine ⟨fun h0 => by rw [h.1 h0] at hF; exact hQ ρ a w hF, fun i hi => ?_⟩
    obtain ⟨s', hs, hany⟩ := h.2 i hi
    unfold wpOpIn
    split
    · rename_i ho
      simp only [stepN, ho, Option.some.injEq] at hs
      subst hs
      exact wpAnyIn_of_anyD hE hT hQ n _ s ρ a w hF hany
    · rename_i o ho
      simp only [stepN, ho] at hs
      exact stepD_soundIn hE hT hF hs (fun ρ' a' w' hF' => wpAnyIn_of_anyD hE hT hQ n _ s' ρ' a' w' hF' hany)
theorem Fw.drawn (hE : EnvOk E) (h : Fw E sm ρ0 m0 w0 C ρ g a w) : Fw E sm ρ0 m0 w0 C ρ g a { w with drawn := w.drawn + 1 } := by
  have hs : Same E w { w with drawn := w.drawn + 1 } := ⟨Nat.le_refl _, fun _ _ _ _ x => x, hE.gG w _ h.r.g (fun _ _ => rfl) (Nat.le_refl _)⟩
  exact h.same hs ⟨h.kept.os, h.kept.tape, h.kept.output, h.kept.size, h.kept.block⟩ rfl rfl rfl rfl rfl h.lock (fun _ _ x => x)
/-- A region without yield. -/
theorem regX_sound {X : Fx} (hX : FxOk E X) (hsm : X.sm = sm) {α : Type} {r : α} {ro : Option Nat} {nf : Nat} {id : Nat} {ops : Array Oper} {draw : Bool} {K : St → Option α} {Q : Exit → Act → World → Prop} (h : regX X.Ty X.T ops draw g.s K = some r)
    (hK : ∀ s', K s' = some r → ∀ ρ a w, Fw E sm ρ0 m0 w0 C ρ ⟨s', g.outs, g.pend⟩ a w → Q .normal a w) (hF : Fw E sm ρ0 m0 w0 C ρ g a w) : (Code.region id ops draw).wpIn (Fr ro) nf E.P Q a w := by
  have text : ∀ s', runD E.Ty X.T ops.toList ops.toList g.s = some s' → K s' = some r → (draw = false ∨ drawOk E.Ty X.T ops s'.slots = true) → (Code.region id ops draw).wpIn (Fr ro) nf E.P Q a w := fun s' hr hs hd => by
    cases draw with
    | false =>
      refine wpIn_region ?_
      have := wpOpsIn_of_runD (ro := ro) (nf := nf) hX.env hX.specs (Q := Q) (outs := g.outs) (pend := g.pend) (fun ρ a w hF => hK s' hs ρ a w hF) ops.toList 0 g.s ρ a w (by simp) hF hr
      simpa using this
    | true =>
      have hd : drawOk E.Ty X.T ops s'.slots = true := by
        rcases hd with q | q
        · cases q
        · exact q
      simp only [drawOk, Bool.and_eq_true] at hd
      refine wpIn_region_any hX.mixed ?_
      have hany := anyD_text (Ty := E.Ty) (T := X.T) (md := .any) (ops := ops) (r := s') hd.2 ops.toList 0 (Array.replicate ops.size false) g.s (by simp) (fun j hj => by omega) (fun j o hj hl e he hb => by
        rcases Nat.lt_or_ge j ops.size with q | q
        · simp [q] at hl
        · simp [Array.getElem?_eq_none q] at hj) (by simpa using hd.1) hr
      have := wpAnyIn_of_anyD (ro := ro) (nf := nf) hX.env hX.specs (Q := Q) (outs := g.outs) (pend := g.pend) (fun ρ a w hF => hK s' hs ρ a w hF) ops.toList.length (Array.replicate ops.size false) g.s ρ a _ (hF.drawn hX.env) hany
      simpa using this
  simp only [regX, cond_eq_ite] at h
  split at h
  · rename_i hd
    obtain ⟨s', hr, hs⟩ := evOps_some _ _ h
    rw [hX.ty] at hr hd
    refine text s' hr hs ?_
    cases draw with
    | false => exact .inl rfl
    | true => exact .inr (drawOk_any (by simpa using hd))
  · obtain ⟨s', hr, hs⟩ := evOps_some _ _ h
    rw [hX.ty] at hr hs
    split at hs
    · rename_i hd
      exact text s' hr hs (.inr hd)
    · cases hs
theorem hasNat_append : ∀ (l r : List Nat) (x : Nat), hasNat (l ++ r) x = (hasNat l x || hasNat r x)
  | [], r, x => rfl
  | a :: l, r, x => by simp only [List.cons_append, hasNat, hasNat_append l r x, Bool.or_assoc]
theorem canonG_sound (hE : EnvOk E) {live : List Nat × List (Nat × TypeId)} (hF : Fw E sm ρ0 m0 w0 C ρ g a w) {g' : Sg} (h : canonG E.Ty sm live g = some g') : (∃ ρ', Fw E sm ρ0 m0 w0 C ρ' g' a w) ∧ g'.outs.map List.length = g.outs.map List.length ∧ g'.pend = none ∧ g.pend = none := by
  unfold canonG at h
  split at h
  · cases h
  · rename_i hp
    split at h
    · cases h
    · rename_i t ht
      cases h
      have hsz := hF.outs.sizes
      have hcomb : SlotsOk E w (okB w ρ g.s.mem) ρ (g.s.slots ++ g.outs.flatten) (a.tmps ++ flatA C.xv) := SlotsOk.append ⟨hF.r.len, hF.r.slot⟩ hF.outs.flat
      have hR : R E ρ ⟨g.s.slots ++ g.outs.flatten, g.s.mem, g.s.used⟩ { tmps := a.tmps ++ flatA C.xv, defers := [] } w := ⟨hcomb.1, hcomb.2, hF.r.mem, hF.r.used, hF.r.one, hF.r.g⟩
      have hFar : Far E (yNames g.outs.length ++ sm) ρ g.s.mem w ρ ⟨g.s.slots ++ g.outs.flatten, g.s.mem, g.s.used⟩ { tmps := a.tmps ++ flatA C.xv, defers := [] } w := ⟨hR, fun _ _ _ x => x, Kept.refl _ _, fun _ hb => .inl hb, rfl⟩
      obtain ⟨ρ', hF'⟩ := canon_sound hE hFar ht
      have hsl : SlotsOk E w (okB w ρ' t.mem) ρ' t.slots (a.tmps ++ flatA C.xv) := ⟨hF'.r.len, hF'.r.slot⟩
      obtain ⟨h1, h2⟩ := hsl.split
      rw [← hF.r.len] at h1 h2
      have hown : ∀ b, Sx.own ρ' t.mem b → Sx.own ρ g.s.mem b := fun b hb => by
        rcases hF'.own b hb with q | q
        · exact q
        · have := (own_lt hF'.r.mem hb).1; omega
      have hlen : (splitL (g.outs.map List.length) (t.slots.drop g.s.slots.length)).length = g.outs.length := by
        have : ∀ (ns : List Nat) (l : List SV), (splitL ns l).length = ns.length := by
          intro ns
          induction ns with
          | nil => intro l; rfl
          | cons n ns ih => intro l; simp [splitL, ih]
        rw [this]; simp
      have hun := OutsOk.unflat (ns := g.outs.map List.length) hsz h2
      refine ⟨⟨ρ', ⟨h1.1, h1.2, hF'.r.mem, hF'.r.used, hF'.r.one, hF'.r.g⟩, fun i u hi hu => ?_, hF.kept, fun b hb => hF.own b (hown b hb), hun, ?_, fun p hp => ?_, hF.marks⟩, ?_, rfl, hp⟩
      · refine hF'.ext i u ?_ (hF.ext i u hi hu)
        rcases hi with q | q
        · exact .inl (by rw [hasNat_append, q]; simp)
        · exact .inr q
      · intro p hpL
        have := hF.lock p hpL
        rw [hp] at this
        exact this
      · obtain ⟨q1, q2⟩ := hF.ys p hp
        refine ⟨hF'.ext _ _ (.inl (by rw [hasNat_append, q2]; rfl)) q1, ?_⟩
        show hasNat (yNames (splitL (g.outs.map List.length) (t.slots.drop g.s.slots.length)).length) p.1 = true
        rw [hlen]; exact q2
      · rw [hun.sizes, hsz]
end
end Sx

/-
  Sx, part 32: ranges over functions: code, what the executor says of a body is what the machine does.
-/
set_option linter.unusedVariables false
set_option linter.unusedSimpArgs false
set_option linter.unnecessarySimpa false
namespace Sx
open Go

theorem wpIn_scopeF {F : Fence} {n : Nat} {P : Program} {Q : Exit → Act → World → Prop} {a : Act} {w : World} {c : Code} (h : c.wpIn F n P (Exit.noGoto Q) a w) : (Code.scope c).wpIn F n P Q a w := by
  have s1 : ∀ (b : Frame) (k : List Item) (cs : List Frame) (a : Act) (w : World), step P (lone (b.atR a (.code (.scope c) :: k)) cs w) = .next (lone (b.atR a (.code c :: .inScope c :: k)) cs w) := fun b k cs a w => step_lone_go (by simp [stepG, stepG.exec, Frame.atR])
  have s2 : ∀ (b : Frame) (k : List Item) (cs : List Frame) (a : Act) (w : World), step P (lone (b.atR a (.inScope c :: k)) cs w) = .next (lone (b.atR a k) cs w) := fun b k cs a w => step_lone_go (by simp [stepG, stepG.exec, Frame.atR])
  intro b k cs hro hb hr
  obtain ⟨e, a₁, w₁, hq, harr⟩ := h b (.inScope c :: k) cs hro hb hr
  cases e with
  | normal => exact ⟨.normal, a₁, w₁, hq, .head (fenced_calm hb hr rfl) (s1 b k cs a w) (StepsIn.trans harr (.one (fenced_calm hb hr rfl) (s2 b k cs a₁ w₁)))⟩
  | exit id =>
    have hx : exitTo id (.inScope c :: k) = exitTo id k := by simp [exitTo]
    exact ⟨.exit id, a₁, w₁, hq, fun k' hk => .head (fenced_calm hb hr rfl) (s1 b k cs a w) (harr.1 k' (by rw [hx]; exact hk)), fun hr' hk => let ⟨k₁, h1, h2⟩ := harr.2 hr' (by rw [hx]; exact hk); ⟨k₁, h1, .head (fenced_calm hb hr rfl) (s1 b k cs a w) h2⟩⟩
  | goto l => exact hq.elim
  | ret => exact ⟨_, a₁, w₁, hq, .of_steps (.one (fenced_calm hb hr rfl) (s1 b k cs a w)) harr⟩
  | panic ch => exact ⟨_, a₁, w₁, hq, .of_steps (.one (fenced_calm hb hr rfl) (s1 b k cs a w)) harr⟩
  | outgrown => exact ⟨_, a₁, w₁, hq, .of_steps (.one (fenced_calm hb hr rfl) (s1 b k cs a w)) harr⟩

section
variable {E : Env} {X : Fx} {ρ0 : Ren} {m0 : Mem} {w0 : World} {α : Type} {r : α}

/-- What a call of yield comes to. -/
def YSound (E : Env) (sm : List Nat) (ρ0 : Ren) (m0 : Mem) (w0 : World) {α : Type} (r : α) (nf : Nat) (C : Cx) (y : Yh α) : Prop :=
  ∀ (g : Sg) (x : List SV) (vals : List Value) (a : Act) (ρ : Ren) (w : World) (K : Bool → Sg → Option α) (Rr : Ending → World → Prop) (l : Nat), y x g K = some r → Fw E sm ρ0 m0 w0 C ρ g a w → RelL E w (okB w ρ g.s.mem) ρ x vals →
    (∀ b g', K b g' = some r → ∀ ρ' w', Fw E sm ρ0 m0 w0 C ρ' g' a w' → Rr (.returned (.bool b)) w') → ρ (60 + g.outs.length) = some (.func (.yield l) #[] #[]) →
    ∃ fn tmps as bo, (Instr.yield l vals.toArray).run E.P w = .ok (.round l fn tmps as bo) w ∧ RoundIn (Fr none) (nf - 1) E.P l fn tmps as bo w Rr

theorem OutsOk.length {w : World} {ok : Nat → Prop} {ρ : Ren} {l : List (List SV)} {t : List (Array Value)} (h : OutsOk E w ok ρ l t) : l.length = t.length := by
  have := congrArg List.length h.sizes
  simpa using this

theorem evOpsY_sound (hX : FxOk E X) {nf : Nat} {C : Cx} {y : Yh α} (hY : YSound E X.sm ρ0 m0 w0 r nf C y) (hyl : ∃ l, (60 + C.xv.length, l) ∈ C.ys) {ops : Array Oper} {K : Sg → Option α} {Q : Exit → Act → World → Prop}
    (hK : ∀ g', K g' = some r → ∀ ρ a w, Fw E X.sm ρ0 m0 w0 C ρ g' a w → Q .normal a w) : ∀ (l : List Oper) (k : Nat) (g : Sg) (ρ : Ren) (a : Act) (w : World), (∀ j, l[j]? = ops[k + j]?) → Fw E X.sm ρ0 m0 w0 C ρ g a w → evOpsY X.Ty X.T ops.toList y l g K = some r →
      wpOpsIn (Fr none) nf E.P ops Q ((List.range l.length).map (k + ·)) a w
  | [], k, g, ρ, a, w, _, hF, h => hK g h ρ a w hF
  | o :: l, k, g, ρ, a, w, hl, hF, h => by
    have h0 : ops[k]? = some o := by simpa using (hl 0).symm
    have hrest : ∀ j, l[j]? = ops[k + 1 + j]? := fun j => by have := hl (j + 1); simpa [Nat.add_assoc, Nat.add_comm 1 j] using this
    have hrange : (List.range (o :: l).length).map (k + ·) = k :: (List.range l.length).map (k + 1 + ·) := by
      rw [List.length_cons, List.range_succ_eq_map]
      simp only [List.map_cons, List.map_map, Nat.add_zero]
      congr 1
      apply List.map_congr_left
      intro x _
      simp only [Function.comp]; omega
    rw [hrange]
    simp only [wpOpsIn, h0]
    simp only [evOpsY, cond_eq_ite] at h
    split at h
    · rename_i hy
      split at h
      · rename_i hg
        have hw : Region.wanted o (yielded ops a.tmps) = true := by simp [Region.wanted, hg]
        rw [if_pos hw]
        unfold isYield at hy
        split at hy
        · rename_i f args hc
          split at hy
          · rename_i j hj
            have hj2 := Nat.eq_of_beq_eq_true hy
            obtain ⟨c, ho, hcf, hca⟩ := callOf_eq hc
            have hf := hF.r.eval f
            rw [hj] at hf
            have hρ := inv_row hf
            obtain ⟨l0, hl0⟩ := hyl
            have hlen := hF.outs.length
            have hy0 := (hF.ys _ hl0).1
            rw [← hlen, ← hj2, hρ] at hy0
            simp only [Option.some.injEq] at hy0
            have hargs := hF.r.evals args
            have hao : argsOf g o = evls g.s.slots args := by unfold argsOf; rw [hc]
            rw [hao] at h
            obtain ⟨fn, tmps, as, bo, hrun, hround⟩ := hY g _ _ a ρ w _ (fun e w'' => match e with
              | .returned v => wpOpsIn (Fr none) nf E.P ops Q ((List.range l.length).map (k + 1 + ·)) (a.put o.dst v) w''
              | .panicked chain => Q (.panic chain) a w''
              | .outgrown => LetsOut Q) l0 h hF hargs (fun b g' hK' ρ' w' hF' => by
                refine evOpsY_sound hX hY ⟨l0, hl0⟩ hK l (k + 1) _ ρ' _ w' hrest ?_ hK'
                exact hF'.step (sv := .bool b) (v := .bool b) (ρ' := ρ') (s' := g'.s) ⟨hF'.r, rel_bool _, fun _ _ x => x, Kept.refl _ _, fun _ hb => .inl hb, fun _ x => x⟩ o.dst) (by rw [← hj2, hρ, hy0])
            refine ⟨fun _ _ => trivial, ?_⟩
            have hexec : execOp a.eval o = Instr.yield l0 (args.map a.eval).toArray := by
              obtain ⟨dst, op, ty, pos, after, guard⟩ := o
              simp only at ho
              subst ho
              have : c.args.map a.eval = (args.map a.eval).toArray := by apply Array.ext'; simp [hca]
              simp only [execOp, resolve, hcf, hy0, Deferred.ofValue, this]
              simp [invoke]
            rw [Oper.semAt_eq _ _ _ (fun c q => by rw [ho] at q; cases q), hexec, hrun, Oper.uponIn_round]
            refine ⟨fun q => by simp [Fr, Fence.wide] at q, hround.mono (fun e w'' he => ?_)⟩
            cases e <;> exact he
          · cases hy
        · cases hy
      · cases h
    · obtain ⟨s', hs, hK'⟩ := evOps_some _ _ h
      rw [hX.ty] at hs
      simp only [runD] at hs
      cases hd : stepD E.Ty X.T ops.toList o g.s with
      | none => rw [hd] at hs; cases hs
      | some s1 =>
        rw [hd] at hs
        simp only [Option.some.injEq] at hs
        subst hs
        exact stepD_soundIn hX.env hX.specs hF hd (fun ρ' a' w' hF' => evOpsY_sound hX hY hyl hK l (k + 1) _ ρ' a' w' hrest hF' hK')

variable (E X ρ0 m0 w0) (r)
def SoundB (liv : Nat → List Nat × List (Nat × TypeId)) (n : Nat) (rf : Rf α) (Y : Option (Yh α)) (Ctx : Option Nat → Nat → Cx → Prop) (c : Code) : Prop :=
  ∀ ro nf C, Ctx ro nf C → ∀ (g : Sg) (K : Kg α) (Q : Exit → Act → World → Prop) ρ a w, evB X liv n rf Y c g K = some r → (∀ e g', K e g' = some r → ∀ ρ a w, Fw E X.sm ρ0 m0 w0 C ρ g' a w → Q e.out a w) →
    Fw E X.sm ρ0 m0 w0 C ρ g a w → c.wpIn (Fr ro) nf E.P Q a w
def RfSound (liv : Nat → List Nat × List (Nat × TypeId)) (n : Nat) (rf : Rf α) (Y : Option (Yh α)) (Ctx : Option Nat → Nat → Cx → Prop) (f : Operand) (ps : Array Tmp) (x y : Code) : Prop :=
  SoundB E X ρ0 m0 w0 r liv n rf Y Ctx x → SoundB E X ρ0 m0 w0 r liv n rf Y Ctx y → ∀ ro nf C, Ctx ro nf C → ∀ (g : Sg) (K : Kg α) (Q : Exit → Act → World → Prop) ρ a w,
    rf f ps.toList (headIdG x) (fun g' K' => evB X liv n rf Y x g' K') (fun g' K' => evB X liv n rf Y y g' K') g K = some r → (∀ e g', K e g' = some r → ∀ ρ a w, Fw E X.sm ρ0 m0 w0 C ρ g' a w → Q e.out a w) →
    Fw E X.sm ρ0 m0 w0 C ρ g a w → (Code.rangeFunc f ps x y).wpIn (Fr ro) nf E.P Q a w
variable {E X ρ0 m0 w0} {r}
theorem evB_sound (hX : FxOk E X) {liv : Nat → List Nat × List (Nat × TypeId)} {n : Nat} {rf : Rf α} {Y : Option (Yh α)} {Ctx : Option Nat → Nat → Cx → Prop}
    (hY : ∀ y, Y = some y → ∀ ro nf C, Ctx ro nf C → ro = none ∧ YSound E X.sm ρ0 m0 w0 r nf C y ∧ ∃ l, (60 + C.xv.length, l) ∈ C.ys)
    (hrf : ∀ f ps x y, RfSound E X ρ0 m0 w0 r liv n rf Y Ctx f ps x y) : ∀ c, SoundB E X ρ0 m0 w0 r liv n rf Y Ctx c := by
  intro c
  induction c with
  | skip => intro ro nf C hC g K Q ρ a w h hK hF; exact wpIn_skip (hK .normal g h ρ a w hF)
  | label l => intro ro nf C hC g K Q ρ a w h hK hF; exact wpIn_label (hK .normal g h ρ a w hF)
  | exit id => intro ro nf C hC g K Q ρ a w h hK hF; exact wpIn_exit (hK (.exit id) g h ρ a w hF)
  | ret => intro ro nf C hC g K Q ρ a w h hK hF; exact wpIn_ret (hK .ret g h ρ a w hF)
  | region id ops draw =>
    intro ro nf C hC g K Q ρ a w h hK hF
    simp only [evB] at h
    unfold regY at h
    split at h
    · exact regX_sound hX rfl h (fun s' hs ρ a w hF => hK .normal _ hs ρ a w hF) hF
    · rename_i y
      obtain ⟨rfl, hy, hyl⟩ := hY y rfl ro nf C hC
      simp only [cond_eq_ite] at h
      split at h
      · exact regX_sound hX rfl h (fun s' hs ρ a w hF => hK .normal _ hs ρ a w hF) hF
      · rename_i hd
        have hd : draw = false := by simpa using hd
        subst hd
        refine wpIn_region ?_
        have := evOpsY_sound hX hy hyl (Q := Q) (fun g' hg ρ a w hF => hK .normal g' hg ρ a w hF) ops.toList 0 g ρ a w (by simp) hF h
        simpa using this
  | seq x y ihx ihy =>
    intro ro nf C hC g K Q ρ a w h hK hF
    simp only [evB] at h
    refine wpIn_seq (ihx ro nf C hC g _ _ ρ a w h (fun e g' he ρ a w hF => ?_) hF)
    cases e with
    | normal => exact ihy ro nf C hC g' K Q ρ a w he hK hF
    | exit i => exact hK (.exit i) g' he ρ a w hF
    | ret => exact hK .ret g' he ρ a w hF
  | cond c x y ihx ihy =>
    intro ro nf C hC g K Q ρ a w h hK hF
    simp only [evB] at h
    split at h
    · rename_i t ht
      have hc := hF.r.eval c
      rw [ht] at hc
      have hc := inv_bool hc
      cases t with
      | true =>
        rw [lit_same ht] at h
        exact wpIn_cond hc (ihx ro nf C hC g K Q ρ a w h hK hF)
      | false =>
        rw [lit_same ht] at h
        exact wpIn_cond hc (ihy ro nf C hC g K Q ρ a w h hK hF)
    · cases h
  | block id c ih =>
    intro ro nf C hC g K Q ρ a w h hK hF
    simp only [evB] at h
    refine wpIn_block (ih ro nf C hC g _ _ ρ a w h (fun e s' he ρ a w hF => ?_) hF)
    cases e with
    | normal => exact hK .normal s' he ρ a w hF
    | exit i =>
      simp only [cond_eq_ite] at he
      split at he
      · rename_i q
        have q := Nat.eq_of_beq_eq_true q
        subst q
        show Exit.inBlock i Q (.exit i) a w
        simp only [Exit.inBlock, if_true]
        exact hK .normal s' he ρ a w hF
      · rename_i q
        have hne : i ≠ id := fun e => q (by rw [e]; exact Nat.beq_refl id)
        show Exit.inBlock id Q (.exit i) a w
        simp only [Exit.inBlock, hne, if_false]
        exact hK (.exit i) s' he ρ a w hF
    | ret => exact hK .ret s' he ρ a w hF
  | loop c ih =>
    intro ro nf C hC g K Q ρ a w h hK hF
    simp only [evB] at h
    have key : ∀ (k : Nat) (s : Sg) (ρ : Ren) (a : Act) (w : World), loopNG X.Ty X.sm (liv (headIdG c)) k (fun s' K' => evB X liv n rf Y c s' K') s K = some r → Fw E X.sm ρ0 m0 w0 C ρ s a w → Code.roundsIn (Fr ro) nf E.P c Q k a w := by
      intro k
      induction k with
      | zero => intro s ρ a w h hF; cases h
      | succ k ihk =>
        intro s ρ a w h hF
        have h : evB X liv n rf Y c s (fun e t => match e with
          | .normal => (match canonG X.Ty X.sm (liv (headIdG c)) t with
            | none => none
            | some t' => loopNG X.Ty X.sm (liv (headIdG c)) k (fun s' K' => evB X liv n rf Y c s' K') t' K)
          | e => K e t) = some r := h
        rw [roundsIn_succ]
        refine ih ro nf C hC s _ _ ρ a w h (fun e s' he ρ a w hF => ?_) hF
        cases e with
        | normal =>
          simp only at he
          cases hc : canonG X.Ty X.sm (liv (headIdG c)) s' with
          | none => simp [hc] at he
          | some s1 =>
            simp only [hc] at he
            rw [hX.ty] at hc
            obtain ⟨⟨ρ1, hF1⟩, _⟩ := canonG_sound hX.env hF hc
            exact ihk s1 ρ1 a w he hF1
        | exit i => exact hK (.exit i) s' he ρ a w hF
        | ret => exact hK .ret s' he ρ a w hF
    unfold loopKG at h
    cases hc : canonG X.Ty X.sm (liv (headIdG c)) g with
    | none => simp [hc] at h
    | some s1 =>
      simp only [hc] at h
      rw [hX.ty] at hc
      obtain ⟨⟨ρ1, hF1⟩, _⟩ := canonG_sound hX.env hF hc
      exact wpIn_loop_rounds n (key n s1 ρ1 a w h hF1)
  | scope c ih =>
    intro ro nf C hC g K Q ρ a w h hK hF
    simp only [evB] at h
    refine wpIn_scopeF (ih ro nf C hC g K _ ρ a w h (fun e s' he ρ a w hF => ?_) hF)
    have := hK e s' he ρ a w hF
    cases e <;> exact this
  | rangeFunc f ps x y ihx ihy =>
    intro ro nf C hC g K Q ρ a w h hK hF
    simp only [evB] at h
    exact hrf f ps x y ihx ihy ro nf C hC g K Q ρ a w h hK hF
  | _ => intro ro nf C hC g K Q ρ a w h hK hF; cases h
end
end Sx

/-
  Sx, part 33: a range over a function: its iterator is carried out in place, its rounds in the iterator's calls of yield.
-/
set_option linter.unusedVariables false
set_option linter.unusedSimpArgs false
set_option linter.unnecessarySimpa false
namespace Sx
open Go

def codeOf : Ex → Code
  | .normal => .skip
  | .exit i => .exit i
  | .ret => .ret
def setPs : List SV → List Nat → List SV → List SV
  | sl, p :: ps, x :: xs => setPs (setAt sl p x) ps xs
  | sl, _, _ => sl
/-- The iterators' functions that are carried out in place, with the slots that are needed at their loops' heads. -/
abbrev Inl := FuncId → Option (Func × (Nat → List Nat × List (Nat × TypeId)))
section
variable {α : Type}
def roundY (ps : List Nat) (evA evBo : Sg → Kg α → Option α) : Yh α := fun x gi Ky => match gi.pend with
  | some _ => none
  | none => bif Nat.beq x.length ps.length then (match gi.outs with
    | so :: os => evA ⟨⟨setPs so ps x, gi.s.mem, gi.s.used⟩, gi.s.slots :: so :: os, none⟩ (fun e ga => match e with
      | .normal => evBo ga (fun e gb => match gb.outs with
        | si :: so' :: os' => (match e with
          | .normal => Ky true ⟨⟨si, gb.s.mem, gb.s.used⟩, so' :: os', none⟩
          | .exit j => Ky false ⟨⟨si, gb.s.mem, gb.s.used⟩, so' :: os', some (.exit j)⟩
          | .ret => Ky false ⟨⟨si, gb.s.mem, gb.s.used⟩, so' :: os', some .ret⟩)
        | _ => none)
      | _ => none)
    | [] => none) else none
/-- Behind an iterator's end. -/
def afterK (K : Kg α) : Kg α := fun e gi => match e with
  | .exit _ => none
  | _ => (match gi.outs with
    | so :: os => (match gi.pend with
      | none => K .normal ⟨⟨so, gi.s.mem, gi.s.used⟩, os, none⟩
      | some j => K j ⟨⟨so, gi.s.mem, gi.s.used⟩, os, none⟩)
    | [] => none)
noncomputable def rangeK (X : Fx) (I : Inl) (liv : Nat → List Nat × List (Nat × TypeId)) (n : Nat) : Rf α := fun f ps id evA evBo g K =>
  match canonG X.Ty X.sm (liv id) g with
  | none => none
  | some g1 => bif hasNat g1.s.used (61 + g1.outs.length) || Nat.ble 30 g1.outs.length then none else
    (match evl g1.s.slots f with
    | .fn (.func h) fs cs => (match I h with
      | some (fnI, livI) => (match fnI.body with
        | some c => bif fnI.results.isEmpty then evB X livI n (fun _ _ _ _ _ _ _ => none) (some (roundY ps evA evBo)) c
            ⟨⟨slots0 fnI (fs ++ [.row (61 + g1.outs.length)] ++ cs), g1.s.mem, (61 + g1.outs.length) :: g1.s.used⟩, g1.s.slots :: g1.outs, none⟩ (afterK K) else none
        | none => none)
      | none => none)
    | _ => none)
theorem rangeK_eq (X : Fx) (I : Inl) (liv : Nat → List Nat × List (Nat × TypeId)) (n : Nat) (f : Operand) (ps : List Nat) (id : Nat) (evA evBo : Sg → Kg α → Option α) (g : Sg) (K : Kg α) : rangeK X I liv n f ps id evA evBo g K = (match canonG X.Ty X.sm (liv id) g with
  | none => none
  | some g1 => bif hasNat g1.s.used (61 + g1.outs.length) || Nat.ble 30 g1.outs.length then none else
    (match evl g1.s.slots f with
    | .fn (.func h) fs cs => (match I h with
      | some (fnI, livI) => (match fnI.body with
        | some c => bif fnI.results.isEmpty then evB X livI n (fun _ _ _ _ _ _ _ => none) (some (roundY ps evA evBo)) c
            ⟨⟨slots0 fnI (fs ++ [.row (61 + g1.outs.length)] ++ cs), g1.s.mem, (61 + g1.outs.length) :: g1.s.used⟩, g1.s.slots :: g1.outs, none⟩ (afterK K) else none
        | none => none)
      | none => none)
    | _ => none)) := rfl
end

/-! ### it is so -/
section
variable {E : Env} {ρ : Ren} {s : St} {a : Act} {w : World}
theorem slots0_ok {ok : Nat → Prop} {fn : Func} {args : List SV} {vals : List Value} (hl : RelL E w ok ρ args vals) : SlotsOk E w ok ρ (slots0 fn args) (vals.toArray ++ Array.replicate (fn.ntmps - vals.toArray.size) undef) := by
  refine ⟨by simp [slots0, repl, hl.1], fun i v hi => ?_⟩
  have hi : (vals ++ List.replicate (fn.ntmps - vals.length) undef)[i]? = some v := by
    rw [← Array.getElem?_toList] at hi; simpa using hi
  rw [getAt_eq]
  show Rel E w _ _ ((args ++ repl (fn.ntmps - args.length) (.tup []))[i]?.getD .dead) v
  by_cases q : i < vals.length
  · rw [List.getElem?_append_left q] at hi
    rw [List.getElem?_append_left (by rw [hl.1]; exact q)]
    have qa : i < args.length := by rw [hl.1]; exact q
    have hx : args[i]? = some args[i] := List.getElem?_eq_getElem qa
    rw [hx]
    exact hl.2 i _ v hx hi
  · rw [List.getElem?_append_right (by omega)] at hi
    rw [List.getElem?_append_right (by rw [hl.1]; omega)]
    rw [List.getElem?_replicate] at hi
    split at hi
    · rename_i hlt
      cases hi
      rw [repl, List.getElem?_replicate, if_pos (by rw [hl.1]; exact hlt)]
      exact rel_undef
    · cases hi
/-- The slots of a round. -/
theorem setPs_ok {ok : Nat → Prop} : ∀ {ps : List Nat} {x : List SV} {vals : List Value} {sl : List SV} {tmps : Array Value}, x.length = ps.length → RelL E w ok ρ x vals → SlotsOk E w ok ρ sl tmps → SlotsOk E w ok ρ (setPs sl ps x) ((ps.zip vals).foldl (fun t p => t.setIfInBounds p.1 p.2) tmps)
  | [], x, vals, sl, tmps, hl, hx, hs => by
    have : x = [] := List.eq_nil_of_length_eq_zero (by simpa using hl)
    subst this
    exact hs
  | p :: ps, [], vals, sl, tmps, hl, hx, hs => by simp at hl
  | p :: ps, y :: ys, [], sl, tmps, hl, hx, hs => by have := hx.1; simp at this
  | p :: ps, y :: ys, v :: vs, sl, tmps, hl, hx, hs => by
    simp only [List.zip_cons_cons, List.foldl_cons, setPs]
    refine setPs_ok (by simpa using hl) ⟨by have := hx.1; simpa using this, fun j s u h1 h2 => hx.2 (j + 1) s u (by simpa using h1) (by simpa using h2)⟩ ?_
    refine ⟨by simp [setAt_length, hs.1], fun i u hu => ?_⟩
    by_cases q : p = i
    · subst q
      rw [Array.getElem?_setIfInBounds_self] at hu
      split at hu
      · rename_i hlt
        cases hu
        rw [getAt_setAt_self (by rw [hs.1]; exact hlt)]
        exact hx.2 0 y v rfl rfl
      · cases hu
    · rw [Array.getElem?_setIfInBounds_ne q] at hu
      rw [getAt_setAt_ne q]; exact hs.2 i u hu
/-- One name more, that leads to no block. -/
theorem upd_ext {id : Nat} {v : Value} (hn : ρ id = none) : ∀ i u, ρ i = some u → upd ρ id v i = some u := fun i u hi => by
  unfold upd
  split
  · rename_i e; rw [e, hn] at hi; cases hi
  · exact hi
theorem own_upd {id : Nat} {v : Value} (hb : blkOf v = none) {m : Mem} : ∀ b, own (upd ρ id v) m b → own ρ m b := fun b ⟨i, o, u, hg, hu, hk⟩ => by
  unfold upd at hu
  split at hu
  · cases hu; rw [hb] at hk; cases hk
  · exact ⟨i, o, u, hg, hu, hk⟩
theorem MemOk.upd {id : Nat} {v : Value} (hn : ρ id = none) (hb : blkOf v = none) (hs : id < 1000000) {m : Mem} (h : MemOk E w ρ m) : MemOk E w (Sx.upd ρ id v) m := by
  have hne : ∀ i o, m.get i = some o → i ≠ id := fun i o hg e => by
    subst e
    cases h.obj i o hg with
    | box t d cs b vs h1 => rw [hn] at h1; cases h1
    | row e d xs v cells h1 => rw [hn] at h1; cases h1
  have hval : ∀ i o u, m.get i = some o → Sx.upd ρ id v i = some u → ρ i = some u := fun i o u hg hu => by
    unfold Sx.upd at hu
    rw [if_neg (hne i o hg)] at hu
    exact hu
  refine ⟨fun i o hg => (h.obj i o hg).frame (fun _ _ => rfl) (fun b hq => ⟨hq.1, fun q => hq.2 (q.imp (own_upd hb b) (hid_upd hs b))⟩) (upd_ext hn) (fun _ _ _ _ => rfl), fun i j o o' u u' b hij hi hj hu hu' => h.sep i j o o' u u' b hij hi hj (hval i o u hi hu) (hval j o' u' hj hu'), fun b hq hh => h.hsep b (own_upd hb b hq) (hid_upd hs b hh), fun b hq => h.hlt b (hid_upd hs b hq)⟩
end

/-- A function's way out, past the marks of its ranges over functions. -/
theorem leaves_marks {E : Env} (hE : EnvOk E) {nf : Nat} {fn : Func} {tmps : Array Value} {R : Ending → World → Prop} {w0 : World} : ∀ (Ds : List Nat) (w : World), Ds.Nodup → E.G w → (∀ D, D ∈ Ds → w0.heap.size ≤ D ∧ E.ng ≤ D ∧ w.heap[D]? = some (.deferred (some []))) →
    (∀ w', Same E w w' → w'.os = w.os → w'.tape = w.tape → w'.output = w.output → (∀ b, b < w0.heap.size → w'.heap[b]? = w.heap[b]?) → ∃ v, (results fn tmps).run E.P w' = .ok v w' ∧ R (.returned v) w') →
    LeavesInM (Fr none) nf E.P fn tmps R (Ds.map markOf) .returning w
  | [], w, _, hG, hD, hpost => hpost w ⟨Nat.le_refl _, fun _ _ _ _ x => x, hG⟩ rfl rfl rfl (fun _ _ => rfl)
  | D :: Ds, w, hnd, hG, hD, hpost => by
    obtain ⟨h1, h2, h3⟩ := hD D List.mem_cons_self
    have hs := Same.poke hE hG h3 rfl h2 (.deferred none)
    refine ⟨by simp, .inl ⟨D, w.putObj D (.deferred none), rfl, run_takeDeferred h3, ?_⟩⟩
    refine leaves_marks (w0 := w0) hE Ds _ (List.nodup_cons.1 hnd).2 hs.g (fun D' hD' => ?_) (fun w' hs' o1 o2 o3 hb => ?_)
    · obtain ⟨q1, q2, q3⟩ := hD D' (List.mem_cons_of_mem _ hD')
      refine ⟨q1, q2, ?_⟩
      rw [World.putObj_heap_other (fun e => by subst e; exact (List.nodup_cons.1 hnd).1 hD')]
      exact q3
    · exact hpost w' (hs.trans hs') o1 o2 o3 (fun b hlt => by
        rw [hb b hlt, World.putObj_heap_other (by omega)])

/-- What a loop's record is for the iterator: ready, or left by a jump. -/
def recOf (rec : Loop) : Option Ex → Obj
  | none => .loop { rec with state := .ready, pending := none }
  | some j => .loop { rec with state := .done, pending := some (codeOf j) }
theorem recOf_lk (rec : Loop) (p : Option Ex) : isLk (recOf rec p) = true := by cases p <;> rfl
def busyOf (rec : Loop) : Obj := .loop { rec with state := .busy, pending := none }

section
variable {E : Env} {X : Fx} {ρ0 : Ren} {m0 : Mem} {w0 : World} {α : Type} {r : α}
def Ctx0 : Option Nat → Nat → Cx → Prop := fun ro _ C => C.bare = false ∧ match ro with
  | none => True
  | some l' => ∃ f, (l', f) ∈ C.L ∧ ∀ p, ∃ rec, f p = Obj.loop rec
/-- The other locked blocks while a loop goes on. -/
def restL (C : Cx) (Ds : List Nat) : List (Nat × (Option Ex → Obj)) := Ds.map (fun D => (D, fun _ => Obj.deferred (some []))) ++ C.L.map (fun p => (p.1, fun _ => p.2 none))
def itCx (C : Cx) (Ds : List Nat) (l : Nat) (rec : Loop) (tmps : Array Value) : Cx := ⟨(l, recOf rec) :: restL C Ds, (61 + C.xv.length, l) :: C.ys, tmps :: C.xv, true⟩

theorem Kept.poke {W0 : Nat → Prop} {w w' : World} (h : Kept W0 w w') {l : Nat} (hl : w.heap.size ≤ l) (o : Obj) : Kept W0 w (w'.putObj l o) :=
  ⟨h.os, h.tape, h.output, by rw [World.putObj_size]; exact h.size, fun b hb hn => by rw [World.putObj_heap_other (by omega)]; exact h.block b hb hn⟩
theorem ng_le {E : Env} (hE : EnvOk E) {w0 : World} (h0 : E.G w0) {l : Nat} (hl : w0.heap.size ≤ l) : E.ng ≤ l := Nat.le_trans (hE.gn w0 h0) hl
theorem hasNat_y (k : Nat) : hasNat (yNames (k + 1)) (61 + k) = true := by
  show (Nat.beq (61 + k) (61 + k) || hasNat (yNames k) (61 + k)) = true
  rw [Nat.beq_refl]; rfl
theorem hasNat_ys {k x : Nat} (h : hasNat (yNames k) x = true) : hasNat (yNames (k + 1)) x = true := by
  show (Nat.beq (61 + k) x || hasNat (yNames k) x) = true
  rw [h]; simp

/-- A round. -/
theorem roundY_sound (hX : FxOk E X) (hG0 : E.G w0) {liv : Nat → List Nat × List (Nat × TypeId)} {n : Nat} {rf : Rf α} {ps : Array Tmp} {x y : Code}
    (ihx : SoundB E X ρ0 m0 w0 r liv n rf none Ctx0 x) (ihy : SoundB E X ρ0 m0 w0 r liv n rf none Ctx0 y)
    {C : Cx} {Ds : List Nat} {l : Nat} {rec : Loop} {tmps : Array Value} (hl : ∀ p, p ∈ restL C Ds → p.1 ≠ l) (h1 : rec.params = ps) (h2 : rec.assign = x) (h3 : rec.body = y) (h4 : rec.tmps = tmps) (nf : Nat) :
    YSound E X.sm ρ0 m0 w0 r nf (itCx C Ds l rec tmps) (roundY ps.toList (fun g' K' => evB X liv n rf none x g' K') (fun g' K' => evB X liv n rf none y g' K')) := by
  intro g xs vals a ρ w K Rr l' h hF hx hK hyn
  have hylen : g.outs.length = C.xv.length + 1 := hF.outs.length
  have hll : l' = l := by
    have := (hF.ys (61 + C.xv.length, l) List.mem_cons_self).1
    simp only at this
    rw [show 61 + C.xv.length = 60 + g.outs.length by omega, hyn] at this
    simp only [Option.some.injEq, Value.func.injEq, Fn.yield.injEq] at this
    exact this.1
  subst hll
  unfold roundY at h
  split at h
  · cases h
  · rename_i hp
    simp only [cond_eq_ite] at h
    split at h
    · rename_i hlen
      have hlen := Nat.eq_of_beq_eq_true hlen
      split at h
      · rename_i so os hos
        obtain ⟨q1, q2, q3⟩ := hF.lock (l', recOf rec) List.mem_cons_self
        rw [hp] at q2
        have hrec : w.heap[l']? = some (.loop { rec with state := .ready, pending := none }) := q2
        have hou := hF.outs
        rw [hos] at hou
        obtain ⟨ho1, ho2⟩ := hou
        have hng := ng_le hX.env hG0 q1
        have hvl : vals.toArray.size = ps.size := by
          have := hx.1
          simp at hlen ⊢; omega
        refine ⟨rec.fn, _, rec.assign, rec.body, run_yield (r := { rec with state := .ready, pending := none }) hrec (by show vals.toArray.size = rec.params.size; rw [h1]; exact hvl), ?_⟩
        have htm : ((ps.zip vals.toArray).foldl (fun t (p : Tmp × Value) => t.setIfInBounds p.1 p.2) tmps) = ((ps.toList.zip vals).foldl (fun t p => t.setIfInBounds p.1 p.2) tmps) := by
          rw [← Array.foldl_toList, Array.toList_zip]
        have hslot := setPs_ok (E := E) (w := w) (ρ := ρ) (ok := okB w ρ g.s.mem) (ps := ps.toList) (x := xs) (vals := vals) hlen hx ho1
        simp only [h1, h2, h3, h4]
        rw [htm]
        generalize htt : (ps.toList.zip vals).foldl (fun t p => t.setIfInBounds p.1 p.2) tmps = tt at hslot ⊢
        have hrestw : ∀ p, p ∈ restL C Ds → w0.heap.size ≤ p.1 ∧ w.heap[p.1]? = some (p.2 none) ∧ isLk (p.2 none) = true := fun p hp' => by
          have := hF.lock p (List.mem_cons_of_mem _ hp')
          rw [hp] at this
          exact this
        have hconst : ∀ p, p ∈ restL C Ds → ∀ e, p.2 e = p.2 none := fun p hp' e => by
          unfold restL at hp'
          rcases List.mem_append.1 hp' with q | q
          · obtain ⟨D, _, rfl⟩ := List.mem_map.1 q; rfl
          · obtain ⟨z, _, rfl⟩ := List.mem_map.1 q; rfl
        refine roundIn_of_wpIn (F := Fr none) trivial ?_
        -- the assignments
        have hFa : Fw E X.sm ρ0 m0 w0 ⟨(l', fun _ => recOf rec none) :: restL C Ds, (61 + C.xv.length, l') :: C.ys, a.tmps :: tmps :: C.xv, false⟩ ρ ⟨⟨setPs so ps.toList xs, g.s.mem, g.s.used⟩, g.s.slots :: so :: os, none⟩ { tmps := tt, defers := [] } w := by
          refine ⟨⟨hslot.1, hslot.2, hF.r.mem, hF.r.used, hF.r.one, hF.r.g⟩, hF.ext, hF.kept, hF.own, ⟨⟨hF.r.len, hF.r.slot⟩, ho1, ho2⟩, fun p hp' => ?_, fun p hp' => ?_, ⟨[], rfl, List.nodup_nil, (fun _ h => by cases h), fun _ => rfl⟩⟩
          · rcases List.mem_cons.1 hp' with rfl | q
            · exact ⟨q1, hrec, rfl⟩
            · obtain ⟨z1, z2, z3⟩ := hrestw p q
              exact ⟨z1, z2, z3⟩
          · obtain ⟨z1, z2⟩ := hF.ys p hp'
            rw [hos] at z2
            exact ⟨z1, hasNat_ys z2⟩
        refine ihx (some l') (nf - 1) _ ⟨rfl, _, List.mem_cons_self, fun _ => ⟨_, rfl⟩⟩ _ _ _ ρ _ w h (fun e ga hga ρ1 a1 w1 hF1 => ?_) hFa
        split at hga
        · -- its body
          obtain ⟨z1, z2, _⟩ := hF1.lock (l', fun _ => recOf rec none) List.mem_cons_self
          have hrec1 : w1.heap[l']? = some (.loop { rec with state := .ready, pending := none }) := z2
          refine ⟨_, run_beginRound hrec1 rfl, ?_⟩
          have hlt1 : l' < w1.heap.size := (Array.getElem?_eq_some_iff.1 hrec1).1
          have hs1 := Same.poke hX.env hF1.r.g hrec1 rfl hng (busyOf rec)
          have hFb : Fw E X.sm ρ0 m0 w0 ⟨(l', fun _ => busyOf rec) :: restL C Ds, (61 + C.xv.length, l') :: C.ys, a.tmps :: tmps :: C.xv, false⟩ ρ1 ga a1 (w1.putObj l' (busyOf rec)) := by
            refine hF1.same hs1 (hF1.kept.poke z1 _) rfl rfl rfl rfl rfl (fun p hp' => ?_) (fun D hD hDw => ?_)
            · rcases List.mem_cons.1 hp' with rfl | q
              · exact ⟨z1, World.putObj_heap_same hlt1, rfl⟩
              · obtain ⟨y1, y2, y3⟩ := hF1.lock p (List.mem_cons_of_mem _ q)
                exact ⟨y1, by rw [World.putObj_heap_other (hl p q)]; exact y2, y3⟩
            · rw [World.putObj_heap_other (fun e => by subst e; rw [hrec1] at hDw; cases hDw)]; exact hDw
          refine ihy (some l') (nf - 1) _ ⟨rfl, _, List.mem_cons_self, fun _ => ⟨_, rfl⟩⟩ _ _ _ ρ1 _ _ hga (fun e gb hgb ρ2 a2 w2 hF2 => ?_) hFb
          obtain ⟨y1, y2, _⟩ := hF2.lock (l', fun _ => busyOf rec) List.mem_cons_self
          have hrec2 : w2.heap[l']? = some (.loop { rec with state := .busy, pending := none }) := y2
          have hlt2 : l' < w2.heap.size := (Array.getElem?_eq_some_iff.1 hrec2).1
          split at hgb
          · rename_i si so' os' hob
            have hou2 := hF2.outs
            rw [hob] at hou2
            obtain ⟨o1, o2, o3⟩ := hou2
            have fin : ∀ (pe : Option Ex), Fw E X.sm ρ0 m0 w0 (itCx C Ds l' rec tmps) ρ2 ⟨⟨si, gb.s.mem, gb.s.used⟩, so' :: os', pe⟩ a (w2.putObj l' (recOf rec pe)) := fun pe => by
              have hs2 := Same.poke hX.env hF2.r.g hrec2 rfl hng (recOf rec pe)
              have hokk : ∀ b, okB w2 ρ2 gb.s.mem b → okB (w2.putObj l' (recOf rec pe)) ρ2 gb.s.mem b := fun b hb => okB_same hs2 (fun _ x => x) (fun _ x => x) hb
              have o1' := o1.same hs2 hokk (fun _ _ x => x)
              have o2' := o2.same hs2 hokk (fun _ _ x => x)
              have o3' := OutsOk.same hs2 hokk (fun _ _ x => x) o3
              refine ⟨⟨o1'.1, o1'.2, hF2.r.mem.same hs2, hF2.r.used, hF2.r.one, hs2.g⟩, hF2.ext, hF2.kept.poke y1 _, hF2.own, ⟨o2', o3'⟩, fun p hp' => ?_, fun p hp' => ?_, ?_⟩
              · rcases List.mem_cons.1 hp' with rfl | q
                · exact ⟨y1, World.putObj_heap_same hlt2, recOf_lk rec pe⟩
                · obtain ⟨v1, v2, v3⟩ := hF2.lock p (List.mem_cons_of_mem _ q)
                  rw [hconst p q] at v2 v3
                  refine ⟨v1, ?_, ?_⟩
                  · rw [World.putObj_heap_other (hl p q)]
                    show w2.heap[p.1]? = some (p.2 pe)
                    rw [hconst p q]; exact v2
                  · show isLk (p.2 pe) = true
                    rw [hconst p q]; exact v3
              · refine ⟨(hF2.ys p hp').1, ?_⟩
                have := (hF.ys p hp').2
                have e1 : (so' :: os').length = g.outs.length := by
                  have := OutsOk.length (l := so' :: os') (t := tmps :: C.xv) ⟨o2, o3⟩
                  rw [this, hylen]; rfl
                show hasNat (yNames (so' :: os').length) p.1 = true
                rw [e1]; exact this
              · obtain ⟨Ds', d1, d2, d3, d4⟩ := hF.marks
                have d4 := d4 rfl
                subst d4
                exact ⟨[], d1, d2, (fun _ h => by cases h), fun _ => rfl⟩
            have hend := fun jump => run_endRound (P := E.P) (w := w2) jump hrec2
            cases e with
            | normal => exact ⟨_, _, hend none, hK true _ hgb ρ2 _ (fin none)⟩
            | exit j => exact ⟨_, _, hend (some (.exit j)), hK false _ hgb ρ2 _ (fin (some (.exit j)))⟩
            | ret => exact ⟨_, _, hend (some .ret), hK false _ hgb ρ2 _ (fin (some .ret))⟩
          · cases hgb
        · cases hga
      · cases h
    · cases h
end
end Sx

/-
  Sx, part 34: a range over a function, the statement; functions that hold some.
-/
set_option linter.unusedVariables false
set_option linter.unusedSimpArgs false
set_option linter.unnecessarySimpa false
namespace Sx
open Go
section
variable {E : Env} {X : Fx} {ρ0 : Ren} {m0 : Mem} {w0 : World} {α : Type} {r : α} {C : Cx} {ρ : Ren} {g : Sg} {a : Act} {w : World}

theorem enter_any (hE : EnvOk E) {ro : Option Nat} {nf : Nat} (hC : Ctx0 ro nf C) (hF : Fw E X.sm ρ0 m0 w0 C ρ g a w) (fn : FuncId) (ps : Array Tmp) (x y : Code) :
    ∃ (l : Nat) (w1 : World) (rec : Loop) (D0 : List Nat), (Instr.enterLoop fn a.tmps ps x y ro).run E.P w = .ok (l, D0.map markOf) w1 ∧ rec.params = ps ∧ rec.assign = x ∧ rec.body = y ∧ rec.tmps = a.tmps ∧ w.heap.size ≤ l ∧ D0.Nodup ∧
      (∀ D, D ∈ D0 → w.heap.size ≤ D ∧ D ≠ l ∧ w1.heap[D]? = some (.deferred (some []))) ∧ w1.heap[l]? = some (recOf rec none) ∧ Same E w w1 ∧ w1.os = w.os ∧ w1.tape = w.tape ∧ w1.output = w.output ∧ (∀ b, b < w.heap.size → w1.heap[b]? = w.heap[b]?) := by
  have hG := hF.r.g
  cases ro with
  | none =>
    refine ⟨w.heap.size + 1, _, { state := .ready, pending := none, fn, tmps := a.tmps, params := ps, assign := x, body := y, defers := w.heap.size }, [w.heap.size], run_enterLoop_outer fn a.tmps ps x y, rfl, rfl, rfl, rfl, by omega, by simp, ?_, ?_, ?_, rfl, rfl, rfl, ?_⟩
    · intro D hD
      have : D = w.heap.size := by simpa using hD
      subst this
      refine ⟨Nat.le_refl _, by omega, ?_⟩
      rw [Go.RowKit.Below.heap_alloc _ _ _ (by simp)]
      exact World.alloc_heap_new w _
    · have := World.alloc_heap_new (w.alloc (.deferred (some []))) (.loop { state := .ready, pending := none, fn, tmps := a.tmps, params := ps, assign := x, body := y, defers := w.heap.size })
      rw [World.size_alloc] at this
      exact this
    · have h1 := Same.alloc hE hG (.deferred (some []))
      exact h1.trans (Same.alloc hE h1.g _)
    · intro b hb
      rw [Go.RowKit.Below.heap_alloc _ _ _ (by rw [World.size_alloc]; omega), Go.RowKit.Below.heap_alloc _ _ _ hb]
  | some l' =>
    obtain ⟨_, f, hf, hrec⟩ := hC
    obtain ⟨_, q2, _⟩ := hF.lock _ hf
    obtain ⟨r', hr'⟩ := hrec g.pend
    simp only at q2
    rw [hr'] at q2
    refine ⟨w.heap.size, w.alloc (.loop { state := .ready, pending := none, fn, tmps := a.tmps, params := ps, assign := x, body := y, defers := r'.defers }), { state := .ready, pending := none, fn, tmps := a.tmps, params := ps, assign := x, body := y, defers := r'.defers }, [], ?_, rfl, rfl, rfl, rfl, Nat.le_refl _, List.nodup_nil, (fun _ h => by cases h), World.alloc_heap_new w _, Same.alloc hE hG _, rfl, rfl, rfl, fun b hb => Go.RowKit.Below.heap_alloc _ _ _ hb⟩
    unfold Instr.enterLoop
    simp only [Sem.run_bind, run_getLoop q2, run_newObj_alloc, Result.andThen, Sem.run_pure]
    rfl

theorem rangeK_sound (hX : FxOk E X) (hG0 : E.G w0) {I : Inl} (hI : ∀ h fnI livI, I h = some (fnI, livI) → E.P.funcs[h]? = some fnI ∧ (fnI.name == "runtime.NumGoroutine") = false) {liv : Nat → List Nat × List (Nat × TypeId)} {n : Nat} :
    ∀ f ps x y, RfSound E X ρ0 m0 w0 r liv n (rangeK X I liv n) none Ctx0 f ps x y := by
  intro f ps x y ihx ihy ro nf C hC g K Q ρ a w h hK hF0
  rw [rangeK_eq] at h
  generalize hcg : canonG X.Ty X.sm (liv (headIdG x)) g = o1 at h
  cases o1 with
  | none => cases h
  | some g1 =>
    have hg1 := hcg
    rw [hX.ty] at hg1
    obtain ⟨⟨ρ1, hF⟩, hsz, hp1, _⟩ := canonG_sound hX.env hF0 hg1
    clear hF0
    simp only at h
    generalize hck : (hasNat g1.s.used (61 + g1.outs.length) || Nat.ble 30 g1.outs.length) = b1 at h
    cases b1 with
    | true => cases h
    | false =>
      simp only [cond_false] at h
      obtain ⟨hfresh, hble⟩ := Bool.or_eq_false_iff.1 hck
      have hout := hF.outs.length
      split at h
      · rename_i hh fs cs hfe
        have hfv := hF.r.eval f
        rw [hfe] at hfv
        obtain ⟨gs, ds, hval, hl1, hl2, hr1, hr2⟩ := inv_fn hfv
        split at h
        · rename_i fnI livI hIh
          obtain ⟨hfun, hname⟩ := hI _ _ _ hIh
          split at h
          · rename_i c hbody
            generalize hres : fnI.results.isEmpty = b2 at h
            cases b2 with
            | false => cases h
            | true =>
              simp only [cond_true] at h
              have hsmall : 61 + g1.outs.length < 1000000 := by
                rcases Nat.lt_or_ge g1.outs.length 30 with q | q
                · omega
                · rw [Nat.ble_eq_true_of_le q] at hble; cases hble
              have hno : ρ1 (61 + g1.outs.length) = none := by
                cases hq : ρ1 (61 + g1.outs.length) with
                | none => rfl
                | some v => have := hF.r.used _ v hsmall hq; rw [hfresh] at this; cases this
              obtain ⟨Ds, hd1, hd2, hd3, hd4⟩ := hF.marks
              have hDlt : ∀ D, D ∈ Ds → D < w.heap.size := fun D hD => (Array.getElem?_eq_some_iff.1 (hd3 D hD).2).1
              have hLlt : ∀ p, p ∈ C.L → p.1 < w.heap.size := fun p hp => (Array.getElem?_eq_some_iff.1 (hF.lock p hp).2.1).1
              refine wpIn_rangeFunc (fun fn _ => ?_)
              obtain ⟨l, w1, rec, D0, hrun, e1, e2, e3, e4, hlw, hD0n, hD0, hrecw, hs1, o1, o2, o3, hfr⟩ := enter_any (X := X) hX.env hC hF fn ps x y
              have hy : ({ target := .fn (.func hh) ds.toArray, args := (gs ++ [Value.func (.yield l) #[] #[]]).toArray } : Deferred).target = .fn (.func hh) ds.toArray := rfl
              refine ⟨l, D0.map markOf, w1, { target := .fn (.func hh) ds.toArray, args := (gs ++ [Value.func (.yield l) #[] #[]]).toArray }, w1, hh, (gs ++ [Value.func (.yield l) #[] #[]] ++ ds).toArray, w1, hrun, ?_, fun _ _ => trivial, ?_, fun q => by simp [Fr, Fence.wide] at q, ?_⟩
              · have : (rangeCall f l).args.map a.eval = #[Value.func (.yield l) #[] #[]] := by simp [rangeCall, Act.eval]
                simp only [resolve, this, hval, Deferred.ofValue]
                rw [show gs.toArray ++ #[Value.func (.yield l) #[] #[]] = (gs ++ [Value.func (.yield l) #[] #[]]).toArray by simp]
                rfl
              · simp only [invoke]
                rw [show (gs ++ [Value.func (.yield l) #[] #[]]).toArray ++ ds.toArray = (gs ++ [Value.func (.yield l) #[] #[]] ++ ds).toArray by simp]
                exact run_callFunc hfun hname (by rw [hbody]; rfl) _ w1
              · -- the call of the iterator
                have hallD : ∀ p, p ∈ restL C (D0 ++ Ds) → p.1 ≠ l ∧ w0.heap.size ≤ p.1 ∧ w1.heap[p.1]? = some (p.2 none) ∧ isLk (p.2 none) = true := fun p hp => by
                  unfold restL at hp
                  rcases List.mem_append.1 hp with q | q
                  · obtain ⟨D, hD, rfl⟩ := List.mem_map.1 q
                    rcases List.mem_append.1 hD with z | z
                    · obtain ⟨z1, z2, z3⟩ := hD0 D z
                      exact ⟨z2, Nat.le_trans hF.kept.size z1, z3, rfl⟩
                    · have := hDlt D z
                      exact ⟨by simp only; omega, (hd3 D z).1, by simp only; rw [hfr D this]; exact (hd3 D z).2, rfl⟩
                  · obtain ⟨z, hz, rfl⟩ := List.mem_map.1 q
                    have := hLlt z hz
                    obtain ⟨z1, z2, z3⟩ := hF.lock z hz
                    rw [hp1] at z2 z3
                    exact ⟨by simp only; omega, z1, by simp only; rw [hfr z.1 this]; exact z2, z3⟩
                have hkept1 : Kept (own ρ0 m0) w0 w1 := ⟨o1.trans hF.kept.os, o2.trans hF.kept.tape, o3.trans hF.kept.output, Nat.le_trans hF.kept.size hs1.size, fun b hb hn => by
                  rw [hfr b (Nat.lt_of_lt_of_le hb hF.kept.size)]; exact hF.kept.block b hb hn⟩
                have hfv1 : blkOf (Value.func (.yield l) #[] #[]) = none := rfl
                have hok1 : ∀ b, okB w ρ1 g1.s.mem b → okB w1 (upd ρ1 (61 + g1.outs.length) (.func (.yield l) #[] #[])) g1.s.mem b := fun b hb => okB_same hs1 (own_upd hfv1) (hid_upd hsmall) hb
                have hext1 := upd_ext (v := Value.func (.yield l) #[] #[]) hno
                have hargs : RelL E w1 (okB w1 (upd ρ1 (61 + g1.outs.length) (.func (.yield l) #[] #[])) g1.s.mem) (upd ρ1 (61 + g1.outs.length) (.func (.yield l) #[] #[])) (fs ++ [.row (61 + g1.outs.length)] ++ cs) (gs ++ [Value.func (.yield l) #[] #[]] ++ ds) := by
                  refine RelL.append (RelL.append ⟨hl1, fun j s u hs hu => (hr1 j s u hs hu).same hs1 hok1 hext1⟩ ⟨rfl, fun j s u hs hu => ?_⟩) ⟨hl2, fun j s u hs hu => (hr2 j s u hs hu).same hs1 hok1 hext1⟩
                  cases j with
                  | zero =>
                    simp at hs hu
                    subst hs; subst hu
                    exact .row _ _ (by simp [upd])
                  | succ j => simp at hs
                have hsl := slots0_ok (fn := fnI) hargs
                have hFi : Fw E X.sm ρ0 m0 w0 (itCx C (D0 ++ Ds) l rec a.tmps) (upd ρ1 (61 + g1.outs.length) (.func (.yield l) #[] #[]))
                    ⟨⟨slots0 fnI (fs ++ [.row (61 + g1.outs.length)] ++ cs), g1.s.mem, (61 + g1.outs.length) :: g1.s.used⟩, g1.s.slots :: g1.outs, none⟩
                    { tmps := (gs ++ [Value.func (.yield l) #[] #[]] ++ ds).toArray ++ Array.replicate (fnI.ntmps - (gs ++ [Value.func (.yield l) #[] #[]] ++ ds).toArray.size) undef, defers := [] } w1 := by
                  refine ⟨⟨hsl.1, hsl.2, (hF.r.mem.same hs1).upd hno hfv1 hsmall, fun id v hlt hv => ?_, fun id v hv => ?_, hs1.g⟩, fun i u hi hu => hext1 i u (hF.ext i u hi hu), hkept1, fun b hb => hF.own b (own_upd hfv1 b hb), ⟨?_, ?_⟩, fun p hp => ?_, fun p hp => ?_, ⟨[], rfl, List.nodup_nil, (fun _ h => by cases h), fun _ => rfl⟩⟩
                  · rw [hasNat_cons]
                    unfold upd at hv
                    split at hv
                    · rename_i e; subst e; rw [Nat.beq_refl]; rfl
                    · rw [hF.r.used id v hlt hv]; simp
                  · unfold upd at hv
                    split at hv
                    · cases hv; rfl
                    · exact hF.r.one id v hv
                  · exact SlotsOk.same hs1 hok1 hext1 ⟨hF.r.len, hF.r.slot⟩
                  · exact hF.outs.same hs1 hok1 hext1
                  · rcases List.mem_cons.1 hp with rfl | q
                    · exact ⟨Nat.le_trans hF.kept.size hlw, hrecw, recOf_lk rec none⟩
                    · exact (hallD p q).2
                  · rcases List.mem_cons.1 hp with rfl | q
                    · refine ⟨by simp [upd, hout], ?_⟩
                      show hasNat (yNames (g1.outs.length + 1)) (61 + C.xv.length) = true
                      rw [← hout]; exact hasNat_y _
                    · obtain ⟨z1, z2⟩ := hF.ys p q
                      exact ⟨hext1 _ _ z1, hasNat_ys z2⟩
                refine callsIn_any (calls_any (ro := none) (n := nf) ?_)
                refine callsIn_of_wp_marks hfun hbody trivial ?_
                have hbs := evB_sound (E := E) (X := X) (ρ0 := ρ0) (m0 := m0) (w0 := w0) (r := r) hX (liv := livI) (n := n) (rf := fun _ _ _ _ _ _ _ => none)
                  (Y := some (roundY ps.toList (fun g' K' => evB X liv n (rangeK X I liv n) none x g' K') (fun g' K' => evB X liv n (rangeK X I liv n) none y g' K')))
                  (Ctx := fun ro' nf' C' => ro' = none ∧ C' = itCx C (D0 ++ Ds) l rec a.tmps)
                  (fun y' hy' ro' nf' C' hc' => by
                    cases hy'
                    obtain ⟨rfl, rfl⟩ := hc'
                    refine ⟨rfl, roundY_sound hX hG0 ihx ihy (fun p hp => (hallD p hp).1) e1 e2 e3 e4 nf', l, ?_⟩
                    show (60 + (C.xv.length + 1), l) ∈ (61 + C.xv.length, l) :: C.ys
                    rw [show 60 + (C.xv.length + 1) = 61 + C.xv.length by omega]
                    exact List.mem_cons_self)
                  (fun f ps x y => fun _ _ ro nf C hC g K Q ρ a w h => by cases h) c
                refine hbs none nf _ ⟨rfl, rfl⟩ _ (afterK K) _ _ _ _ h (fun e gi he ρ2 a2 w2 hF2 => ?_) hFi
                -- its end
                obtain ⟨q1, q2, _⟩ := hF2.lock (l, recOf rec) List.mem_cons_self
                have hlt2 : l < w2.heap.size := (Array.getElem?_eq_some_iff.1 q2).1
                have hng := ng_le hX.env hG0 q1
                have key : afterK K e gi = some r → (∀ i, e ≠ .exit i) → bodyPostM (Fr none) nf E.P fnI (rangePost (Fr ro) nf E.P l Q { a with defers := D0.map markOf ++ a.defers }) e.out a2 w2 := by
                  intro he hne
                  have body : LeavesInM (Fr none) nf E.P fnI a2.tmps (rangePost (Fr ro) nf E.P l Q { a with defers := D0.map markOf ++ a.defers }) a2.defers .returning w2 := by
                    obtain ⟨Ds2, k1, k2, k3, k4⟩ := hF2.marks
                    have k4 := k4 rfl
                    subst k4
                    rw [k1]
                    have hempty : fnI.results = #[] := by simpa using hres
                    refine ⟨.tuple #[], by simp [results, hempty], ?_⟩
                    -- the record is shut; the jump
                    have hou2 := hF2.outs
                    have gen : ∀ so os, gi.outs = so :: os → ∀ (st : Loop), w2.heap[l]? = some (.loop st) → Fw E X.sm ρ0 m0 w0 C ρ2 ⟨⟨so, gi.s.mem, gi.s.used⟩, os, none⟩ { a with defers := D0.map markOf ++ a.defers } (w2.putObj l (.loop { st with state := .exhausted })) := by
                      intro so os hos st hst
                      rw [hos] at hou2
                      obtain ⟨v1, v2⟩ := hou2
                      have hs2 := Same.poke hX.env hF2.r.g hst rfl hng (.loop { st with state := .exhausted })
                      have hokk : ∀ b, okB w2 ρ2 gi.s.mem b → okB (w2.putObj l (.loop { st with state := .exhausted })) ρ2 gi.s.mem b := fun b hb => okB_same hs2 (fun _ x => x) (fun _ x => x) hb
                      have v1' := v1.same hs2 hokk (fun _ _ x => x)
                      have v2' := OutsOk.same hs2 hokk (fun _ _ x => x) v2
                      have hrest : ∀ p, p ∈ restL C (D0 ++ Ds) → (w2.putObj l (.loop { st with state := .exhausted })).heap[p.1]? = some (p.2 none) := fun p hp => by
                        rw [World.putObj_heap_other (hallD p hp).1]
                        obtain ⟨_, y2, _⟩ := hF2.lock p (List.mem_cons_of_mem _ hp)
                        rw [y2]
                        have : p.2 gi.pend = p.2 none := by
                          unfold restL at hp
                          rcases List.mem_append.1 hp with q | q
                          · obtain ⟨D, _, rfl⟩ := List.mem_map.1 q; rfl
                          · obtain ⟨z, _, rfl⟩ := List.mem_map.1 q; rfl
                        rw [this]
                      refine ⟨⟨v1'.1, v1'.2, hF2.r.mem.same hs2, hF2.r.used, hF2.r.one, hs2.g⟩, hF2.ext, hF2.kept.poke q1 _, hF2.own, v2', fun p hp => ?_, fun p hp => ?_, ⟨D0 ++ Ds, by simp [hd1], ?_, fun D hD => ⟨?_, ?_⟩, fun hb => ?_⟩⟩
                      · obtain ⟨z1, z2, z3⟩ := hF.lock p hp
                        rw [hp1] at z3
                        exact ⟨z1, hrest (p.1, fun _ => p.2 none) (List.mem_append_right _ (List.mem_map.2 ⟨p, hp, rfl⟩)), z3⟩
                      · refine ⟨(hF2.ys p (List.mem_cons_of_mem _ hp)).1, ?_⟩
                        have hlen := OutsOk.length v2
                        show hasNat (yNames os.length) p.1 = true
                        rw [hlen, ← hout]; exact (hF.ys p hp).2
                      · refine List.nodup_append.2 ⟨hD0n, hd2, fun D hD D' hD' e => ?_⟩
                        subst e
                        have := hDlt D hD'
                        have := (hD0 D hD).1
                        omega
                      · rcases List.mem_append.1 hD with z | z
                        · exact Nat.le_trans hF.kept.size (hD0 D z).1
                        · exact (hd3 D z).1
                      · exact hrest (D, fun _ => Obj.deferred (some [])) (List.mem_append_left _ (List.mem_map.2 ⟨D, hD, rfl⟩))
                      · have := hC.1
                        rw [this] at hb; cases hb
                    unfold afterK at he
                    split at he
                    · exact absurd rfl (hne _)
                    · split at he
                      · rename_i so os hos
                        split at he
                        · rename_i hpe
                          rw [hpe] at q2
                          have hst : w2.heap[l]? = some (.loop { rec with state := .ready, pending := none }) := q2
                          refine ⟨none, _, run_endLoop hst (by simp), ?_⟩
                          exact hK .normal _ he ρ2 _ _ (gen so os hos _ hst)
                        · rename_i j hpe
                          rw [hpe] at q2
                          have hst : w2.heap[l]? = some (.loop { rec with state := .done, pending := some (codeOf j) }) := q2
                          refine ⟨some (codeOf j), _, run_endLoop hst (by simp), ?_⟩
                          have hq := hK j _ he ρ2 _ _ (gen so os hos _ hst)
                          cases j with
                          | normal => exact wpIn_skip hq
                          | exit i => exact wpIn_exit hq
                          | ret => exact wpIn_ret hq
                      · cases he
                  cases e with
                  | normal => exact body
                  | ret => exact body
                  | exit i => exact absurd rfl (hne i)
                cases e with
                | exit i => simp [afterK] at he
                | normal => exact key he (fun i q => by cases q)
                | ret => exact key he (fun i q => by cases q)
          · cases h
        · cases h
      · cases h
end
end Sx

/-
  Sx, part 35: functions with ranges over functions: what the executor says of one is what a call of it comes to.
-/
set_option linter.unusedVariables false
set_option linter.unusedSimpArgs false
set_option linter.unnecessarySimpa false
namespace Sx
open Go

def InlOk (E : Env) (I : Inl) : Prop := ∀ h fnI livI, I h = some (fnI, livI) → E.P.funcs[h]? = some fnI ∧ (fnI.name == "runtime.NumGoroutine") = false
def inlOf : List (Nat × Func × (Nat → List Nat × List (Nat × TypeId))) → Inl
  | [], _ => none
  | (i, f, l) :: r, h => bif Nat.beq i h then some (f, l) else inlOf r h
theorem InlOk.nil {E : Env} : InlOk E (inlOf []) := fun h f l q => by cases q
theorem InlOk.cons {E : Env} {i : Nat} {f : Func} {l : Nat → List Nat × List (Nat × TypeId)} {r : List (Nat × Func × (Nat → List Nat × List (Nat × TypeId)))} (hf : E.P.funcs[i]? = some f) (hn : (f.name == "runtime.NumGoroutine") = false) (k : InlOk E (inlOf r)) : InlOk E (inlOf ((i, f, l) :: r)) := fun h f' l' q => by
  simp only [inlOf, cond_eq_ite] at q
  split at q
  · rename_i e
    have e := Nat.eq_of_beq_eq_true e
    subst e
    cases q; exact ⟨hf, hn⟩
  · exact k h f' l' q
def lastG {α : Type} (X : Fx) (fn : Func) (fin : SV → St → α) : Kg α := fun e g => lastK X fn fin e g.s
/-- The same, of a function with ranges over functions. -/
noncomputable def evFunR {α : Type} (X : Fx) (I : Inl) (n : Nat) (fn : Func) (fin : SV → St → α) (args : List SV) (m : Mem) (u : List Nat) : Option α := match fn.body with
  | none => none
  | some c => evB X X.live n (rangeK X I X.live n) none c ⟨⟨slots0 fn args, m, u⟩, [], none⟩ (lastG X fn fin)

section
variable {E : Env} {ρ : Ren} {s : St} {a : Act} {w : World}
theorem evFunR_calls {X : Fx} (hX : FxOk E X) {I : Inl} (hI : InlOk E I) {f : FuncId} {fn : Func} (hf : E.P.funcs[f]? = some fn) {n : Nat} {args : List SV} {vals : Array Value} {m : Mem} {u : List Nat} {α : Type} {fin : SV → St → α} {r : α} (h : evFunR X I n fn fin args m u = some r)
    (hR : R E ρ ⟨slots0 fn args, m, u⟩ { tmps := vals ++ Array.replicate (fn.ntmps - vals.size) undef, defers := [] } w) :
    Calls E.P f vals w (fun e w' => ∃ v ρ' a' sv s', e = .returned v ∧ fin sv s' = r ∧ Far E X.sm ρ m w ρ' s' a' w' ∧ Rel E w' (okB w' ρ' s'.mem) ρ' sv v) := by
  unfold evFunR at h
  cases hb : fn.body with
  | none => simp [hb] at h
  | some c =>
    simp only [hb] at h
    refine calls_any (ro := none) (n := 0) (callsIn_of_wp_marks hf hb trivial ?_)
    refine evB_sound (E := E) (X := X) (ρ0 := ρ) (m0 := m) (w0 := w) (r := r) hX (liv := X.live) (n := n) (rf := rangeK X I X.live n) (Y := none) (Ctx := Ctx0) (fun y hy => by cases hy) (rangeK_sound hX hR.g hI) c none 0 ⟨[], [], [], false⟩ ⟨rfl, trivial⟩ _ _ _ ρ _ w h ?_
      ⟨hR, fun _ _ _ x => x, Kept.refl _ _, fun _ hb => .inl hb, trivial, (fun p hp => by cases hp), (fun p hp => by cases hp), ⟨[], rfl, List.nodup_nil, (fun _ h => by cases h), fun _ => rfl⟩⟩
    intro e g2 he ρ2 a2 w2 hF
    have key : (match resX X.Ty fn g2.s with | some v => some (fin v g2.s) | none => none) = some r → LeavesInM (Fr none) 0 E.P fn a2.tmps (fun e w' => ∃ v ρ' a' sv s', e = Ending.returned v ∧ fin sv s' = r ∧ Far E X.sm ρ m w ρ' s' a' w' ∧ Rel E w' (okB w' ρ' s'.mem) ρ' sv v) a2.defers .returning w2 := by
      intro he
      rw [hX.ty] at he
      cases hr : resX E.Ty fn g2.s with
      | none => simp [hr] at he
      | some v =>
        simp only [hr, Option.some.injEq] at he
        obtain ⟨Ds, k1, k2, k3, _⟩ := hF.marks
        rw [k1]
        refine leaves_marks (w0 := w) hX.env Ds w2 k2 hF.r.g (fun D hD => ⟨(k3 D hD).1, ng_le hX.env hR.g (k3 D hD).1, (k3 D hD).2⟩) (fun w' hs o1 o2 o3 hb => ?_)
        have hR' : R E ρ2 g2.s { tmps := a2.tmps, defers := [] } w' := by
          have := hF.r.sameW hs
          exact ⟨this.len, this.slot, this.mem, this.used, this.one, this.g⟩
        have hF' : Far E X.sm ρ m w ρ2 g2.s { tmps := a2.tmps, defers := [] } w' := ⟨hR', hF.ext, ⟨o1.trans hF.kept.os, o2.trans hF.kept.tape, o3.trans hF.kept.output, Nat.le_trans hF.kept.size hs.size, fun b hb' hn => by rw [hb b hb']; exact hF.kept.block b hb' hn⟩, hF.own, rfl⟩
        obtain ⟨u, hu, hrel⟩ := resX_sound (a := { tmps := a2.tmps, defers := [] }) hX.env hR' hr
        exact ⟨u, hu, u, ρ2, _, v, g2.s, rfl, he, hF', hrel⟩
    cases e with
    | exit i => cases he
    | normal => exact key he
    | ret => exact key he
end

/-- A plain specification, by a run of the executor. -/
theorem plain_of_runR {E : Env} {X : Fx} (hX : FxOk E X) {I : Inl} (hI : InlOk E I) {f : FuncId} {fn : Func} (hf : E.P.funcs[f]? = some fn) (hname : (fn.name == "runtime.NumGoroutine") = false) (hbody : fn.body.isNone = false) {g : List SV → Option (Bool × SV)}
    (hg : ∀ args sv, g args = some (true, sv) → noOwnL args = true ∧ noOwn sv = true ∧ ∃ n, evFunR X I n fn (frz X.Ty fn) args [] [] = some sv) : SpecOk E f (.plain g) := by
  intro ρ s a w args vals sv hR hl h
  obtain ⟨hno, hno', n, hrun⟩ := hg args sv h
  right
  refine ⟨f, vals.toArray, run_callFunc hf hname hbody _ w, ?_⟩
  refine (evFunR_calls hX hI hf hrun (emptyR hR hl hno)).mono ?_
  rintro e w' ⟨v, ρ', a', sv2, s', rfl, hfin, hF, hrel⟩
  rw [hX.ty] at hfin
  have hrel := frz_sound hX.env hF.r.mem fn hrel
  rw [hfin] at hrel
  have hk : ∀ b, b < w.heap.size → w'.heap[b]? = w.heap[b]? := fun b hb => hF.kept.block b hb (fun ⟨id, o, v, h, _⟩ => by cases h)
  have hok : ∀ b, okB w' ρ' [] b → okB w' ρ s.mem b := fun b hb => ⟨hb.1, fun q => hb.2 (.inr (hF.hid (hid_hide.2 q)))⟩
  refine ⟨v, ρ, rfl, ?_, hrel.noOwn hok hno', fun _ _ x => x, ⟨hF.kept.os, hF.kept.tape, hF.kept.output, hF.kept.size, fun b hb _ => hk b hb⟩, fun b hb => .inl hb, fun _ x => x⟩
  refine hR.next hX.env (fun _ _ x => x) (fun b hb => .inl hb) (fun _ x => x) hF.kept.size (fun b hb _ => hk b hb) ?_ hR.used hR.one
  exact ⟨fun id o hg => (hR.mem.obj id o hg).frame (fun b hb => hk b hb.1) (fun b hb => ⟨Nat.lt_of_lt_of_le hb.1 hF.kept.size, hb.2⟩) (fun _ _ x => x) (fun v b hv hb => hk b (own_lt hR.mem ⟨id, o, v, hg, hv, hb⟩).1), hR.mem.sep, hR.mem.hsep, fun b hb => Nat.lt_of_lt_of_le (hR.mem.hlt b hb) hF.kept.size⟩
/-- A function that looks at what it is handed, by runs of the executor. -/
theorem look_of_runR {E : Env} {X : Fx} (hX : FxOk E X) {I : Inl} (hI : InlOk E I) {f : FuncId} {fn : Func} (hf : E.P.funcs[f]? = some fn) (hname : (fn.name == "runtime.NumGoroutine") = false) (hbody : fn.body.isNone = false) {g : List SV → Option (Bool × SV)}
    (hg : ∀ args sv, g args = some (true, sv) → noOwnL args = true ∧ noOwn sv = true ∧ ∃ n, evFunR X I n fn (frz X.Ty fn) args [] [] = some sv) : SpecOk E f (.look (lookOf E.Ty g)) := by
  intro ρ s a w args vals sv hR hl h
  unfold lookOf at h
  split at h
  · rename_i b v hgv
    simp only [cond_eq_ite] at h
    split at h
    · rename_i hc
      cases h
      cases hno : noOwnL args with
      | true =>
        rw [viewL_data E.Ty s.mem hno] at hgv
        exact plain_of_runR hX hI hf hname hbody hg ρ s a w args vals sv hR hl hgv
      | false =>
        rw [hno, Bool.or_false] at hc
        obtain ⟨hno1, _, n, hrun⟩ := hg _ _ hgv
        right
        refine ⟨f, vals.toArray, run_callFunc hf hname hbody _ w, ?_⟩
        have hl1 := viewL_sound hX.env hR.mem hl hno1
        have hok : ∀ b, b < w.heap.size → okB w (fun _ => none) [] b := fun b hb => ⟨hb, fun q => by
          rcases q with ⟨_, _, _, h, _⟩ | ⟨_, _, _, h, _⟩ <;> cases h⟩
        have hl2 : RelL E w (okB w (fun _ => none) []) (fun _ => none) (viewL E.Ty s.mem args) vals := ⟨hl1.1, fun j x u hx hu => (hl1.2 j x u hx hu).frame (fun _ _ => rfl) hok (fun _ _ x => x)⟩
        have hst := emptyR (R0 hR.g) hl2 hno1 (fn := fn)
        refine (evFunR_calls hX hI hf hrun hst).mono ?_
        rintro e w' ⟨v, ρ', a', sv2, s', rfl, hfin, hF, hrel⟩
        rw [hX.ty] at hfin
        have hrel := frz_sound hX.env hF.r.mem fn hrel
        rw [hfin] at hrel
        have hk : ∀ b, b < w.heap.size → w'.heap[b]? = w.heap[b]? := fun b hb => hF.kept.block b hb (fun ⟨id, o, v, h, _⟩ => by cases h)
        refine ⟨v, ρ, rfl, ?_, hrel.flat hc, fun _ _ x => x, ⟨hF.kept.os, hF.kept.tape, hF.kept.output, hF.kept.size, fun b hb _ => hk b hb⟩, fun b hb => .inl hb, fun _ x => x⟩
        refine hR.next hX.env (fun _ _ x => x) (fun b hb => .inl hb) (fun _ x => x) hF.kept.size (fun b hb _ => hk b hb) ?_ hR.used hR.one
        exact ⟨fun id o hg => (hR.mem.obj id o hg).frame (fun b hb => hk b hb.1) (fun b hb => ⟨Nat.lt_of_lt_of_le hb.1 hF.kept.size, hb.2⟩) (fun _ _ x => x) (fun v b hv hb => hk b (own_lt hR.mem ⟨id, o, v, hg, hv, hb⟩).1), hR.mem.sep, hR.mem.hsep, fun b hb => Nat.lt_of_lt_of_le (hR.mem.hlt b hb) hF.kept.size⟩
    · cases h
  · cases h

/-- A specification of a function that is handed memory, by runs of the executor. -/
theorem wide_of_runR {E : Env} (hE : EnvOk E) {X : List Nat → Fx} (hX : ∀ sm, FxOk E (X sm) ∧ (X sm).sm = sm) {I : Inl} (hI : InlOk E I) {f : FuncId} {fn : Func} (hf : E.P.funcs[f]? = some fn) (hname : (fn.name == "runtime.NumGoroutine") = false) (hbody : fn.body.isNone = false) {core : List SV → Mem → Tr (SV × Mem)}
    (hg : ∀ args m x, pickA (core args m) = some x → ∃ n, evFunR (X (smOf (idsOfL args []) m)) I n fn (finW E.Ty (smOf (idsOfL args []) m) m.length) args m (m.map (·.1)) = some (some x)) : SpecOk E f (.wide (wideOf E.Ty core)) := by
  intro ρ s a w args vals sv mo uo hR hl h
  unfold wideOf at h
  simp only at h
  -- nil slices first
  obtain ⟨ρ1, r1, e1, x1, o1, p1, hi1⟩ := nilMem_sound hE (picked ((assign s.mem 200 (idsOfL args []) 0 []).map (·.1)) s.mem) hR
  have hst : ∀ (l : Mem) (sl sl' : List SV) (m : Mem) (u : List Nat), nilMem E.Ty l ⟨sl, m, u⟩ = ⟨sl, (nilMem E.Ty l ⟨sl', m, u⟩).mem, (nilMem E.Ty l ⟨sl', m, u⟩).used⟩ := by
    have cells : ∀ (ks : List CK) (id j : Nat) (sl sl' : List SV) (m : Mem) (u : List Nat), nilCells E.Ty id j ks ⟨sl, m, u⟩ = ⟨sl, (nilCells E.Ty id j ks ⟨sl', m, u⟩).mem, (nilCells E.Ty id j ks ⟨sl', m, u⟩).used⟩ := by
      intro ks id
      induction ks with
      | nil => intro j sl sl' m u; rfl
      | cons k ks ih =>
        intro j sl sl' m u
        cases k with
        | slice e =>
          unfold nilCells
          simp only
          cases hm : m.get id with
          | none => rfl
          | some o =>
            cases o with
            | row _ _ => rfl
            | box t cs =>
              simp only
              cases getAt cs j <;> cases E.Ty e <;> simp only <;> try exact ih _ _ _ _ _
              simp only [St.freshN, St.fresh]
              cases hasNat u (1000 + (maxN u - 999)) || (Nat.ble 900000 (maxN u - 999) || Mem.has m (1000 + (maxN u - 999))) with
              | true => exact ih _ _ _ _ _
              | false => simp only [cond_false, St.cell]; exact ih _ _ _ _ _
        | _ => exact ih (j + 1) sl sl' m u
    intro l
    induction l with
    | nil => intro sl sl' m u; rfl
    | cons p l ih =>
      intro sl sl' m u
      obtain ⟨id, o⟩ := p
      cases o with
      | row _ _ => exact ih sl sl' m u
      | box t cs =>
        simp only [nilMem]
        cases E.Ty t with
        | none => exact ih sl sl' m u
        | some d =>
          simp only
          rw [cells d.cells id 0 sl sl' m u]
          generalize nilCells E.Ty id 0 d.cells ⟨sl', m, u⟩ = q
          have h1 := ih sl sl' q.mem q.used
          have h2 := ih sl' q.slots q.mem q.used
          have h3 := ih sl q.slots q.mem q.used
          rw [h3]
  generalize hpk : picked ((assign s.mem 200 (idsOfL args []) 0 []).map (·.1)) s.mem = pk at h r1 e1 o1 p1
  have hs2 := hst pk s.slots [] s.mem s.used
  generalize hs1 : nilMem E.Ty pk ⟨[], s.mem, s.used⟩ = s1 at h hs2
  have hss : nilMem E.Ty pk s = ⟨s.slots, s1.mem, s1.used⟩ := hs2
  rw [hss] at r1 o1 p1
  generalize hτ : assign s1.mem 200 (idsOfL args []) 0 [] = τ at h
  simp only [cond_eq_ite] at h
  split at h
  · rename_i hc
    simp only [Bool.and_eq_true] at hc
    obtain ⟨⟨⟨⟨⟨h1, h2⟩, h5⟩, h3⟩, h4⟩, h6⟩ := hc
    have h4 := eqNats_eq h4
    obtain ⟨⟨v3, m3⟩, hp, hb, hbe⟩ := pick_backs h
    obtain ⟨n, hrun⟩ := hg _ _ _ hp
    have hkeys : ∀ p, p ∈ τ → ∃ o, s1.mem.get p.1 = some o := fun p hp => by
      rw [← hτ] at hp
      exact assign_keys 200 _ 0 [] (by simp) p hp
    have hl1 : RelL E w (okB w ρ1 s1.mem) ρ1 args vals := ⟨hl.1, fun j x v hx hv => (hl.2 j x v hx hv).frame (fun _ _ => rfl) (fun b hb => ⟨hb.1, fun q => hb.2 (by
      rcases q with q | ⟨i, v, hi, hv, hbk⟩
      · exact .inl (o1 b q)
      · exact .inr ⟨i, v, hi, hi1 i v hi hv, hbk⟩)⟩) x1⟩
    obtain ⟨hR3, hown3⟩ := startR hE r1 h1 h2 h5 h3 (fn := fn) hl1
    simp only at hR3
    rw [h4] at hR3
    right
    refine ⟨f, vals.toArray, run_callFunc hf hname hbody _ w, ?_⟩
    refine (evFunR_calls (hX _).1 hI hf hrun hR3).mono ?_
    rintro e w2 ⟨val, ρ2, a2, sv2, s', rfl, hfin, hF, hrel⟩
    rw [(hX _).2] at hF
    have hF' := hF
    obtain ⟨ρ3, u3, hF3⟩ := finW_sound hE hF hrel hfin
    have hv3 : Rel E w2 (okB w2 ρ3 m3) ρ3 v3 val := hF3.r.slot 0 val rfl
    obtain ⟨ρ', hcm⟩ := backR hE r1 h1 h2 h5 (fun i n hm => by
      obtain ⟨_, q⟩ := isUp_at h6 i n hm
      simpa using q) hkeys (sm := smOf (idsOfL (renL τ args) []) (renM τ s1.mem τ)) rfl hF3 hv3 hb
    have hbe' : backW E.Ty (smOf (idsOfL (renL τ args) []) (renM τ s1.mem τ)) (τ.map (·.1)) τ.length s1 (v3, m3) = backW E.Ty (smOf (idsOfL (renL τ args) []) (renM τ s1.mem τ)) (τ.map (·.1)) τ.length ⟨s.slots, s1.mem, s1.used⟩ (v3, m3) := rfl
    rw [hbe'] at hbe
    simp only at hcm
    rw [hbe] at hcm
    refine ⟨val, ρ', rfl, hcm.r, hcm.rel, fun i u hu => hcm.ext i u (x1 i u hu), ⟨hcm.kept.os, hcm.kept.tape, hcm.kept.output, hcm.kept.size, fun b hb hn => hcm.kept.block b hb (fun q => hn (o1 b q))⟩, fun b hb => (hcm.own b hb).imp (o1 b) (fun x => x), fun b hb => by
      obtain ⟨i, v, hi, hv, hbk⟩ := hcm.hid b hb
      exact ⟨i, v, hi, hi1 i v hi hv, hbk⟩⟩
  · cases h

/-- A function as it runs: for memory and arguments that are all known. -/
noncomputable def coreRunR (X : List Nat → Fx) (I : Inl) (Ty : Tys) (n : Nat) (fn : Func) (args : List SV) (m : Mem) : Tr (SV × Mem) :=
  match evFunR (X (smOf (idsOfL args []) m)) I n fn (finW Ty (smOf (idsOfL args []) m) m.length) args m (m.map (·.1)) with
  | some (some x) => .leaf x
  | _ => .no
theorem wide_of_selfR {E : Env} (hE : EnvOk E) {X : List Nat → Fx} (hX : ∀ sm, FxOk E (X sm) ∧ (X sm).sm = sm) {I : Inl} (hI : InlOk E I) {f : FuncId} {fn : Func} (hf : E.P.funcs[f]? = some fn) (hname : (fn.name == "runtime.NumGoroutine") = false) (hbody : fn.body.isNone = false) (n : Nat) : SpecOk E f (.wide (wideOf E.Ty (coreRunR X I E.Ty n fn))) :=
  wide_of_runR hE hX hI hf hname hbody (fun args m x h => by
    refine ⟨n, ?_⟩
    unfold coreRunR at h
    split at h
    · rename_i y hy
      simp [pickA] at h
      subst h; exact hy
    · cases h)
theorem wide_of_eqR {E : Env} (hE : EnvOk E) {X : List Nat → Fx} (hX : ∀ sm, FxOk E (X sm) ∧ (X sm).sm = sm) {I : Inl} (hI : InlOk E I) {f : FuncId} {fn : Func} (hf : E.P.funcs[f]? = some fn) (hname : (fn.name == "runtime.NumGoroutine") = false) (hbody : fn.body.isNone = false) {core : List SV → Mem → Tr (SV × Mem)}
    (hg : ∀ args m, core args m = .no ∨ ∃ n, evFunR (X (smOf (idsOfL args []) m)) I n fn (finW E.Ty (smOf (idsOfL args []) m) m.length) args m (m.map (·.1)) = (core args m).opt) : SpecOk E f (.wide (wideOf E.Ty core)) :=
  wide_of_runR hE hX hI hf hname hbody (fun args m x h => by
    rcases hg args m with q | ⟨n, q⟩
    · rw [q] at h; cases h
    · exact ⟨n, by rw [q]; exact Tr.opt_pick h⟩)
noncomputable def plainRunR (X : Fx) (I : Inl) (n : Nat) (fn : Func) (args : List SV) : Option (Bool × SV) :=
  match evFunR X I n fn (frz X.Ty fn) args [] [] with
  | some sv => some (noOwnL args && noOwn sv, sv)
  | none => none
theorem plain_of_selfR {E : Env} {X : Fx} (hX : FxOk E X) {I : Inl} (hI : InlOk E I) {f : FuncId} {fn : Func} (hf : E.P.funcs[f]? = some fn) (hname : (fn.name == "runtime.NumGoroutine") = false) (hbody : fn.body.isNone = false) (n : Nat) : SpecOk E f (.plain (plainRunR X I n fn)) :=
  plain_of_runR hX hI hf hname hbody (fun args sv h => by
    unfold plainRunR at h
    split at h
    · rename_i y hy
      simp only [Option.some.injEq, Prod.mk.injEq, Bool.and_eq_true] at h
      obtain ⟨⟨h1, h2⟩, rfl⟩ := h
      exact ⟨h1, h2, n, hy⟩
    · cases h)
end Sx

/-
  Sx, part 36: slices.Sort and slices.Compact at []int, by the library's contracts: what is turned is a row of one's own.
-/
set_option linter.unusedVariables false
set_option linter.unusedSimpArgs false
namespace Sx
open Go Go.Sort Go.Lib

def isI64 : SV → Bool | .int .i64 _ => true | _ => false
def insI (x : SV) : List SV → List SV
  | [] => [x]
  | y :: l => bif decide (asInt x ≤ asInt y) then x :: y :: l else y :: insI x l
/-- Numbers, rising. -/
def sortI : List SV → List SV
  | [] => []
  | x :: l => insI x (sortI l)
/-- Of equal neighbours one. -/
def compF : Option Int → List SV → List SV
  | _, [] => []
  | p, x :: l => bif (match p with | none => false | some q => decide (q = asInt x)) then compF p l else x :: compF (some (asInt x)) l
def gSort (e : TypeId) : List SV → Mem → List Nat → Tr (SV × Mem × List Nat)
  | [.row i], m, u => (match m.get i with
    | some (.row e' xs) => bif Nat.beq e e' then .br (xs.all isI64 && Nat.ble xs.length 4611686018427387903) (.leaf (.tup [], m.put i (.row e (sortI xs)), u)) .no else .no
    | _ => .no)
  | _, _, _ => .no
def gCompact (e : TypeId) : List SV → Mem → List Nat → Tr (SV × Mem × List Nat)
  | [.row i], m, u => (match m.get i with
    | some (.row e' xs) => bif Nat.beq e e' then (match (⟨[], m.del i, u⟩ : St).freshN (.row e (compF none xs)) with
      | some (j, s) => .br (xs.all isI64 && Nat.ble xs.length 9223372036854775807) (.leaf (.row j, s.mem, s.used)) .no
      | none => .no) else .no
    | _ => .no)
  | _, _, _ => .no

/-! ### in plain lists -/
theorem insI_perm (x : SV) : ∀ l, List.Perm (insI x l) (x :: l)
  | [] => List.Perm.refl _
  | y :: l => by
    simp only [insI, cond_eq_ite]
    split
    · exact List.Perm.refl _
    · exact ((insI_perm x l).cons y).trans (List.Perm.swap x y l)
theorem sortI_perm : ∀ l, List.Perm (sortI l) l
  | [] => List.Perm.refl _
  | x :: l => (insI_perm x (sortI l)).trans ((sortI_perm l).cons x)
def Rise (l : List SV) : Prop := l.Pairwise (fun a b => asInt a ≤ asInt b)
theorem insI_rise (x : SV) : ∀ {l}, Rise l → Rise (insI x l)
  | [], _ => List.pairwise_singleton _ _
  | y :: l, h => by
    obtain ⟨h1, h2⟩ := List.pairwise_cons.1 h
    simp only [insI, cond_eq_ite]
    split
    · rename_i q
      have q := of_decide_eq_true q
      refine List.pairwise_cons.2 ⟨fun z hz => ?_, h⟩
      rcases List.mem_cons.1 hz with rfl | hz
      · exact q
      · exact Int.le_trans q (h1 z hz)
    · rename_i q
      have q : ¬ asInt x ≤ asInt y := fun e => q (decide_eq_true e)
      refine List.pairwise_cons.2 ⟨fun z hz => ?_, insI_rise x h2⟩
      rcases List.mem_cons.1 ((insI_perm x l).mem_iff.1 hz) with rfl | hz
      · omega
      · exact h1 z hz
theorem sortI_rise : ∀ l, Rise (sortI l)
  | [] => List.Pairwise.nil
  | x :: l => insI_rise x (sortI_rise l)
theorem sortI_length (l : List SV) : (sortI l).length = l.length := (sortI_perm l).length_eq
theorem sortI_all {p : SV → Bool} {l : List SV} (h : l.all p = true) : (sortI l).all p = true := List.all_eq_true.2 fun x hx => List.all_eq_true.1 h x ((sortI_perm l).mem_iff.1 hx)
theorem sortI_is (l : List SV) : ((l.map asInt).mergeSort fun x y => decide (x ≤ y)) = (sortI l).map asInt := by
  refine List.Perm.eq_of_pairwise (le := fun a b => a ≤ b) (fun a b _ _ h1 h2 => Int.le_antisymm h1 h2) ?_ ?_ ((List.mergeSort_perm _ _).trans ((sortI_perm l).symm.map asInt))
  · have := List.pairwise_mergeSort (le := fun x y : Int => decide (x ≤ y)) (fun a b c h1 h2 => by simp at *; omega) (fun a b => by simp; omega) (l.map asInt)
    exact this.imp (fun h => by simpa using h)
  · exact List.pairwise_map.2 (sortI_rise l)
def compZ : Option Int → List Int → List Int
  | _, [] => []
  | p, x :: l => if p = some x then compZ p l else x :: compZ (some x) l
theorem compF_map : ∀ (l : List SV) (p : Option Int), (compF p l).map asInt = compZ p (l.map asInt)
  | [], _ => rfl
  | x :: l, p => by
    simp only [compF, cond_eq_ite, List.map_cons, compZ]
    cases p with
    | none => simp [compF_map l]
    | some q =>
      simp only [decide_eq_true_eq, Option.some.injEq]
      split
      · exact compF_map l _
      · simp [compF_map l]
theorem compact_is (zs : List Int) : compact zs = compZ none zs := by
  have key : ∀ (rest pre : List Int), pre ++ rest = zs → compactUpTo zs.toArray zs.length = compactUpTo zs.toArray pre.length ++ compZ pre.getLast? rest := by
    intro rest
    induction rest with
    | nil =>
      intro pre h
      rw [List.append_nil] at h
      subst h
      simp [compZ]
    | cons x rest ih =>
      intro pre h
      have h2 : (pre ++ [x]) ++ rest = zs := by rw [List.append_assoc]; exact h
      rw [ih (pre ++ [x]) h2, List.length_append, List.length_singleton, compactUpTo_succ, List.append_assoc]
      congr 1
      have hx : zs.toArray[pre.length]! = x := by
        rw [← h]; simp
      rw [hx, List.getLast?_append, List.getLast?_singleton, Option.some_or]
      by_cases hp : pre = []
      · subst hp
        simp [compZ, keeps]
      · have hlen : 0 < pre.length := List.length_pos_iff.2 hp
        have hprev : zs.toArray[pre.length - 1]! = pre.getLast hp := by
          have hlt : pre.length - 1 < zs.length := by rw [← h, List.length_append]; omega
          rw [getElem!_pos _ _ (by simpa using hlt)]
          simp only [List.getElem_toArray]
          have : zs[pre.length - 1] = (pre ++ x :: rest)[pre.length - 1]'(by rw [h]; exact hlt) := by simp only [h]
          rw [this, List.getElem_append_left (by omega), List.getLast_eq_getElem]
        rw [List.getLast?_eq_some_getLast hp]
        unfold keeps
        rw [hx, hprev]
        simp only [compZ, Option.some.injEq]
        have : pre.length ≠ 0 := by omega
        by_cases e : pre.getLast hp = x
        · simp [e, this]
        · simp [e, this, Ne.symm e]
  have := key zs [] rfl
  simpa [compact, compactUpTo] using this
theorem compF_all {p : SV → Bool} : ∀ {l : List SV} {q : Option Int}, l.all p = true → (compF q l).all p = true
  | [], _, _ => rfl
  | x :: l, q, h => by
    simp only [List.all_cons, Bool.and_eq_true] at h
    unfold compF
    generalize (match q with | none => false | some q => decide (q = asInt x)) = b
    cases b with
    | true => exact compF_all h.2
    | false => simp only [cond_false, List.all_cons, Bool.and_eq_true]; exact ⟨h.1, compF_all h.2⟩
theorem compF_length : ∀ {l : List SV} {q : Option Int}, (compF q l).length ≤ l.length
  | [], _ => Nat.le_refl _
  | x :: l, q => by
    unfold compF
    generalize (match q with | none => false | some q => decide (q = asInt x)) = b
    cases b with
    | true => exact Nat.le_succ_of_le compF_length
    | false => simp only [cond_false, List.length_cons]; exact Nat.succ_le_succ compF_length

/-! ### the rows -/
section
variable {E : Env} {w : World} {ok : Nat → Prop}
/-- A row of numbers: its cells. -/
theorem intCells {e : TypeId} {d : TyD} (hE : EnvOk E) (hde : E.Ty e = some d) (hd : d.d = .int .i64) {xs : List SV} {cells : List Value} (hl : cells.length = xs.length * d.size) (hRC : RowCells E w ok d xs cells) (hi : xs.all isI64 = true) : d.size = 1 ∧ cells = (xs.map asInt).map (Value.int .i64) := by
  have hT := hE.ty _ _ hde
  have hck := hT.ck .i64 hd
  have hsz : d.size = 1 := by rw [← hT.cells, hck]; rfl
  refine ⟨hsz, ?_⟩
  apply List.ext_getElem?
  intro j
  rw [hsz, Nat.mul_one] at hl
  by_cases hj : j < xs.length
  · have hxj : xs[j]? = some xs[j] := List.getElem?_eq_getElem hj
    have hb := List.all_eq_true.1 hi _ (List.getElem_mem hj)
    obtain ⟨n, hn⟩ : ∃ n, xs[j] = .int .i64 n := by
      generalize xs[j] = x at hb
      cases x <;> simp [isI64] at hb
      rename_i k n
      cases k <;> simp [isI64] at hb
      exact ⟨n, rfl⟩
    obtain ⟨u, hu', hr⟩ := hRC.2 j 0 _ (.int .i64 n) hxj (by rw [hn]; rfl)
    rw [hsz] at hu'
    simp at hu'
    cases hr
    simp [hu', hxj, hn, asInt]
  · rw [List.getElem?_eq_none (by omega), List.getElem?_eq_none (by simp; omega)]
theorem intRow {e : TypeId} {d : TyD} (hE : EnvOk E) (hde : E.Ty e = some d) (hd : d.d = .int .i64) {xs : List SV} (hi : xs.all isI64 = true) : RowCells E w ok d xs ((xs.map asInt).map (Value.int .i64)) := by
  have hT := hE.ty _ _ hde
  have hck := hT.ck .i64 hd
  have hsz : d.size = 1 := by rw [← hT.cells, hck]; rfl
  have form : ∀ x ∈ xs, ∃ n, x = .int .i64 n := fun x hx => by
    have hb := List.all_eq_true.1 hi _ hx
    cases x <;> simp [isI64] at hb
    rename_i k n
    cases k <;> simp [isI64] at hb
    exact ⟨n, rfl⟩
  refine ⟨fun x hx => ?_, fun i j x s hx hs => ?_⟩
  · obtain ⟨n, rfl⟩ := form x hx
    refine ⟨?_, ?_⟩
    · rw [hd]; rfl
    · rw [hck]; rfl
  · obtain ⟨n, rfl⟩ := form x (List.mem_of_getElem? hx)
    have hj : j = 0 := by
      cases j with
      | zero => rfl
      | succ j => simp [cellsOf] at hs
    subst hj
    have : s = .int .i64 n := by simpa [cellsOf] using hs.symm
    subst this
    refine ⟨.int .i64 n, ?_, by constructor⟩
    rw [hsz]
    simp [hx, asInt]
end
theorem freshN_del {m : Mem} {u : List Nat} {o : SObj} {sl : List SV} {j : Nat} {s : St} (h : (⟨[], m, u⟩ : St).freshN o = some (j, s)) : (⟨sl, m, u⟩ : St).fresh (some (maxN u - 999)) o = some (j, ⟨sl, s.mem, s.used⟩) := by
  unfold St.freshN St.fresh at h
  unfold St.fresh
  simp only at h ⊢
  cases hc : (hasNat u (1000 + (maxN u - 999)) || (Nat.ble 900000 (maxN u - 999) || Mem.has m (1000 + (maxN u - 999)))) with
  | true => rw [hc] at h; cases h
  | false =>
    rw [hc] at h
    simp only [cond_false, Option.some.injEq, Prod.mk.injEq] at h ⊢
    obtain ⟨rfl, rfl⟩ := h
    exact ⟨rfl, rfl⟩

/-- What a sort in place says of one's own row. -/
theorem sort_ok {E : Env} (hE : EnvOk E) {f : FuncId} {fn : Func} (hf : E.P.funcs[f]? = some fn) (hname : (fn.name == "runtime.NumGoroutine") = false) (hbody : fn.body.isNone = false) {e : TypeId} {d : TyD} (hde : E.Ty e = some d) (hd : d.d = .int .i64)
    (hC : ∀ (blk cap : Nat) (zs : List Int) (w : World), Holds (Value.int .i64) w blk 0 zs.toArray → blk < w.heap.size → zs.length < 4611686018427387904 →
      Calls E.P f #[.slice (some ⟨blk, 0, none⟩) zs.length cap] w fun e w' => e = .returned (.tuple #[]) ∧ ∃ n os, w' = grow (putRow (Value.int .i64) (Sort.ahead w n) blk 0 (zs.mergeSort fun x y => decide (x ≤ y)).toArray) os)
    (hC0 : ∀ (w : World), Calls E.P f #[.slice none 0 0] w fun e w' => e = .returned (.tuple #[]) ∧ w' = w) : SpecOk E f (.wide (gSort e)) := by
  intro σ s a w args vals sv m u hR hl h
  unfold gSort at h
  split at h
  · rename_i i
    split at h
    · rename_i e' xs hg
      simp only [cond_eq_ite] at h
      split at h
      · rename_i he
        have he := Nat.eq_of_beq_eq_true he
        subst he
        simp only [pickA, cond_eq_ite] at h
        split at h
        · rename_i hc
          obtain ⟨hi, hlen⟩ := Bool.and_eq_true_iff.1 hc
          have hlen := Nat.le_of_ble_eq_true hlen
          simp only [Option.some.injEq, Prod.mk.injEq] at h
          obtain ⟨rfl, rfl, rfl⟩ := h
          obtain ⟨v0, rfl⟩ : ∃ v0, vals = [v0] := by
            match vals, hl.1 with
            | [v0], _ => exact ⟨v0, rfl⟩
          have hv := inv_row (hl.2 0 _ _ rfl rfl)
          obtain ⟨d2, v2, cells, hρ, hd2, hrow, hone, hRC⟩ := objRow (hR.mem.obj i _ hg)
          rw [hv] at hρ; cases hρ
          rw [hde] at hd2; cases hd2
          obtain ⟨hsz, hcells⟩ := intCells hE hde hd hrow.1 hRC hi
          have hsl := sortI_length xs
          have hone2 : ∀ u, u ∈ ((sortI xs).map asInt).map (Value.int .i64) → u.oneCell' = true := fun u hu => by
            obtain ⟨z, _, rfl⟩ := List.mem_map.1 hu; rfl
          have fin : ∀ w', w'.os = w.os → w'.tape = w.tape → w'.output = w.output → w.heap.size ≤ w'.heap.size → (∀ b, b < w.heap.size → blkOf v0 ≠ some b → w'.heap[b]? = w.heap[b]?) → RowAt w' E.ng e d.size v0 (sortI xs).length (((sortI xs).map asInt).map (Value.int .i64)) →
              ∃ v ρ', Ending.returned (.tuple #[]) = .returned v ∧ Comes1 E σ s a w (.tup []) ⟨s.slots, s.mem.put i (.row e (sortI xs)), s.used⟩ v ρ' w' := by
            intro w' h1 h2 h3 h4 hfr hrow'
            have hk := hR.wrote hE (m0 := s.mem) (fun _ _ x => x) hg (o' := .row e (sortI xs)) (w' := w') h4 (fun b hb hn => hfr b hb (hn v0 hv))
              (fun ok' _ => .row e d _ v0 _ hv hde hrow' hone2 (intRow hE hde hd (sortI_all hi)))
            exact ⟨.tuple #[], σ, rfl, hk.1, .tup [] [] rfl (by simp), fun _ _ x => x, ⟨h1, h2, h3, h4, fun b hb hn => hfr b hb (fun q => hn ⟨i, _, _, hg, hv, q⟩)⟩, fun b hb => .inl (hk.2 b hb), fun _ x => x⟩
          right
          refine ⟨f, _, run_callFunc hf hname hbody _ w, ?_⟩
          rcases hrow.2 with ⟨rfl, q2⟩ | ⟨g, cap, cur, fr, rfl, q2, q3, q4, q5, q6, q7, q8⟩
          · have : xs = [] := List.eq_nil_of_length_eq_zero q2
            subst this
            refine (hC0 w).mono ?_
            rintro e' w' ⟨rfl, rfl⟩
            exact fin w' rfl rfl rfl (Nat.le_refl _) (fun _ _ _ => rfl) ⟨by simp [sortI], .inl ⟨rfl, rfl⟩⟩
          · rw [hsz, Nat.mul_one] at q7 q8
            have hlt : g < w.heap.size := (Array.getElem?_eq_some_iff.1 q3).1
            have hH : Holds (Value.int .i64) w g 0 (xs.map asInt).toArray := by
              intro j hj
              have hj : j < xs.length := by simpa using hj
              have e1 : cur[j]? = some (.int .i64 (xs.map asInt).toArray[j]!) := by
                have : (cur.toList.take xs.length)[j]? = (((xs.map asInt).map (Value.int .i64)))[j]? := by rw [q8, hcells]
                rw [List.getElem?_take_of_lt hj, Array.getElem?_toList] at this
                rw [this]
                simp [hj]
              refine ⟨by simp [World.cell?, q3, e1], ?_⟩
              simp only [World.frozen?, q3, Nat.zero_add]
              rcases q4 with q | q
              · rw [q]; simp
              · have : ¬ fr.1 ≤ j := by omega
                simp [this]
            have hcall := hC g cap (xs.map asInt) w hH hlt (by simp; omega)
            rw [List.length_map, sortI_is] at hcall
            refine hcall.mono ?_
            rintro e' w' ⟨rfl, n, os, rfl⟩
            have hgb := grownBy_sortedI (w := w) (g := g) (n := n) (os := os) ((sortI xs).map asInt).toArray
            obtain ⟨g1, g2, g3, g4, g5⟩ := hgb
            refine fin _ g1 g2 g3 g4 (fun b hb hn => g5 b hb (fun q => hn (by simpa [blkOf] using q.symm))) ?_
            refine ⟨by rw [hsz]; simp, .inr ⟨g, cap, _, fr, by rw [hsl], q2, heap_sortedI _ q3, ?_, by omega, q6, by simp [putCells, q7, hsz], ?_⟩⟩
            · rcases q4 with q | q
              · exact .inl q
              · exact .inr (by simpa [putCells] using q)
            · rw [hsz, Nat.mul_one]
              have := take_putCellsI cur ((sortI xs).map asInt) (by simp; omega)
              simpa using this
        · cases h
      · cases h
    · cases h
  · cases h

/-- .. and what Compact says: the row is another's from then on, under a name of its own. -/
theorem compact_ok {E : Env} (hE : EnvOk E) {f : FuncId} {fn : Func} (hf : E.P.funcs[f]? = some fn) (hname : (fn.name == "runtime.NumGoroutine") = false) (hbody : fn.body.isNone = false) {e : TypeId} {d : TyD} (hde : E.Ty e = some d) (hd : d.d = .int .i64)
    (hC : ∀ (blk cap : Nat) (zs : List Int) (w : World), Holds (Value.int .i64) w blk 0 zs.toArray → zs.length ≤ 9223372036854775807 → zs.length ≤ cap →
      Calls E.P f #[.slice (some ⟨blk, 0, none⟩) zs.length cap] w fun e w' => e = .returned (.slice (some ⟨blk, 0, none⟩) (compact zs).length cap) ∧ ∃ q, w' = putRow (Value.int .i64) (Sort.ahead w q) blk 0 (compact zs ++ List.replicate (zs.length - (compact zs).length) 0).toArray)
    (hC0 : ∀ (w : World), Calls E.P f #[.slice none 0 0] w fun e w' => e = .returned (.slice none 0 0) ∧ w' = w) : SpecOk E f (.wide (gCompact e)) := by
  intro σ s a w args vals sv m u hR hl h
  unfold gCompact at h
  split at h
  · rename_i i
    split at h
    · rename_i e' xs hg
      simp only [cond_eq_ite] at h
      split at h
      · rename_i he
        have he := Nat.eq_of_beq_eq_true he
        subst he
        split at h
        · rename_i j st hfr
          simp only [pickA, cond_eq_ite] at h
          split at h
          · rename_i hc
            obtain ⟨hi, hlen⟩ := Bool.and_eq_true_iff.1 hc
            have hlen := Nat.le_of_ble_eq_true hlen
            simp only [Option.some.injEq, Prod.mk.injEq] at h
            obtain ⟨rfl, rfl, rfl⟩ := h
            have hfr := freshN_del (sl := s.slots) hfr
            obtain ⟨v0, rfl⟩ : ∃ v0, vals = [v0] := by
              match vals, hl.1 with
              | [v0], _ => exact ⟨v0, rfl⟩
            have hv := inv_row (hl.2 0 _ _ rfl rfl)
            obtain ⟨d2, v2, cells, hρ, hd2, hrow, hone, hRC⟩ := objRow (hR.mem.obj i _ hg)
            rw [hv] at hρ; cases hρ
            rw [hde] at hd2; cases hd2
            obtain ⟨hsz, hcells⟩ := intCells hE hde hd hrow.1 hRC hi
            have hcl : (compF none xs).length ≤ xs.length := compF_length
            have hone2 : ∀ u, u ∈ ((compF none xs).map asInt).map (Value.int .i64) → u.oneCell' = true := fun u hu => by
              obtain ⟨z, _, rfl⟩ := List.mem_map.1 hu; rfl
            have hsub : ∀ id o, (s.mem.del i).get id = some o → s.mem.get id = some o := fun id o q => (Mem.get_del q).2
            have fin : ∀ w' v1, blkOf v1 = blkOf v0 → w'.os = w.os → w'.tape = w.tape → w'.output = w.output → w.heap.size ≤ w'.heap.size → (∀ b, b < w.heap.size → blkOf v0 ≠ some b → w'.heap[b]? = w.heap[b]?) → RowAt w' E.ng e d.size v1 (compF none xs).length (((compF none xs).map asInt).map (Value.int .i64)) →
                ∃ v ρ', Ending.returned v1 = .returned v ∧ Comes1 E σ s a w (.row j) ⟨s.slots, st.mem, st.used⟩ v ρ' w' := by
              intro w' v1 hb h1 h2 h3 h4 hfr2 hrow'
              refine ⟨v1, _, rfl, hR.newRow hE hsub (v := v1) (w' := w') hde (cells := ((compF none xs).map asInt).map (Value.int .i64)) (fun b hb1 => .inr ?_) h1 h2 h3 h4 (fun b hb1 hn => hfr2 b hb1 (by rw [← hb]; exact hn)) hrow' hone2 (intRow hE hde hd (compF_all hi)) hfr⟩
              rw [hb] at hb1
              refine ⟨⟨i, _, _, hg, hv, hb1⟩, fun q => ?_⟩
              obtain ⟨i', o', v', hgi, hvi, hbi⟩ := q
              obtain ⟨hne, hgi'⟩ := Mem.get_del hgi
              exact hR.mem.sep i i' _ o' _ v' b hne hg hgi' hv hvi hb1 hbi
            right
            refine ⟨f, _, run_callFunc hf hname hbody _ w, ?_⟩
            rcases hrow.2 with ⟨rfl, q2⟩ | ⟨g, cap, cur, fr, rfl, q2, q3, q4, q5, q6, q7, q8⟩
            · have : xs = [] := List.eq_nil_of_length_eq_zero q2
              subst this
              refine (hC0 w).mono ?_
              rintro e' w' ⟨rfl, rfl⟩
              exact fin w' _ rfl rfl rfl rfl (Nat.le_refl _) (fun _ _ _ => rfl) ⟨by simp [compF], .inl ⟨rfl, rfl⟩⟩
            · rw [hsz, Nat.mul_one] at q7 q8
              have hH : Holds (Value.int .i64) w g 0 (xs.map asInt).toArray := by
                intro j hj
                have hj : j < xs.length := by simpa using hj
                have e1 : cur[j]? = some (.int .i64 (xs.map asInt).toArray[j]!) := by
                  have : (cur.toList.take xs.length)[j]? = (((xs.map asInt).map (Value.int .i64)))[j]? := by rw [q8, hcells]
                  rw [List.getElem?_take_of_lt hj, Array.getElem?_toList] at this
                  rw [this]
                  simp [hj]
                refine ⟨by simp [World.cell?, q3, e1], ?_⟩
                simp only [World.frozen?, q3, Nat.zero_add]
                rcases q4 with q | q
                · rw [q]; simp
                · have : ¬ fr.1 ≤ j := by omega
                  simp [this]
              have hcall := hC g cap (xs.map asInt) w hH (by simpa using hlen) (by simpa using q5)
              rw [List.length_map, compact_is, ← compF_map, List.length_map] at hcall
              refine hcall.mono ?_
              rintro e' w' ⟨rfl, n, rfl⟩
              rw [← grow_empty (putRow _ _ _ _ _)]
              obtain ⟨g1, g2, g3, g4, g5⟩ := grownBy_sortedI (w := w) (g := g) (n := n) (os := #[]) ((compF none xs).map asInt ++ List.replicate (xs.length - (compF none xs).length) 0).toArray
              refine fin _ _ rfl g1 g2 g3 g4 (fun b hb hn => g5 b hb (fun q => hn (by simpa [blkOf] using q.symm))) ?_
              refine ⟨by rw [hsz]; simp, .inr ⟨g, cap, _, fr, rfl, q2, heap_sortedI _ q3, ?_, by omega, q6, by simp [putCells, q7, hsz], ?_⟩⟩
              · rcases q4 with q | q
                · exact .inl q
                · exact .inr (by simpa [putCells] using q)
              · rw [hsz, Nat.mul_one]
                have := take_putCellsI cur ((compF none xs).map asInt ++ List.replicate (xs.length - (compF none xs).length) 0) (by simp; omega)
                have h2 := congrArg (List.take (compF none xs).length) this
                rw [List.take_take, Nat.min_eq_left (by simp), List.map_append, take_pre (by simp)] at h2
                exact h2
          · cases h
        · cases h
      · cases h
    · cases h
  · cases h
end Sx

/-
  Sx, part 37: the row of a law that lists variables: it returns true, and each argument reads as it read; what the variables read as is handed on.
-/
set_option linter.unusedVariables false
set_option linter.unusedSimpArgs false
namespace Sx
open Go Go.ChangeShapes Go.WideShapes Go.ChangeAt Go.RowKit Go.ChangeMaps

section
variable {H : Type} {enc : TypeId × Value → H}
theorem law_returns_and {C : Checked} {os : Os} {f : FuncId} {fn : Func} {s : ChangeSpec} {conds : List PathCond} {X : World → Array Value → Prop} (hX : ∀ (w w' : World) (args : Array Value), w.heap = w'.heap → X w args → X w' args)
    (own : ownKnob C.prog.godebug = none) (started : os.Started) (noInit : C.prog.inits.idxOf? f = none) (hfn : C.prog.funcs[f]? = some fn)
    (witness : ∃ (w : World) (tape : Tape) (i : Input), w.os = os ∧ (w.forCall tape i).Shaped C.prog ∧ i.vars = [] ∧ Input.okWide C.prog (w.forCall tape i) .any w.heap.size f i ∧
      ((s.pre enc C.prog fn conds false (w.forCall tape i).memory i.args ∧ X (w.forCall tape i).memory i.args) ∧ sizedMet enc C.prog fn (OpenSpec.ofChange s) false (w.forCall tape i).memory i.args) ∧ ({} : Assume).holds C.prog (lone (Frame.enter C.prog f i.args .normal) [] (w.forCall tape i)))
    (hvars : s.vars = []) {tb : TypeId} (hres : fn.resultTypes = #[tb]) (hb : C.prog.underlying tb = some .bool) (laid : laidOutB C.prog = true) (hread : typesRead C.prog fn.params.toList = true)
    (hspec : ∀ ds : List (DataW H), ds.length = fn.params.toList.length → (s.fn H ds).results = [.lit (.bool true)] ∧ (s.fn H ds).args = ds ∧ (s.fn H ds).vars = [])
    (call : ∀ (W : World) (base : Nat) (args : Array Value) (ds : List (DataW H)) (ps : List MemPlace), W.ShapedOpen C.prog → X W args → (∀ (j : Nat) t v, fn.params.toList[j]? = some t → args.toList[j]? = some v → Value.okWide C.prog W .any base t v) → DataW.TrodAll enc C.prog W 0 (fun _ => true) true fn.params.toList args.toList ds ps → (DataW.weightsEach C.prog fn.params.toList ds).all (· ≤ reachBytes) = true →
      Calls C.prog f args W fun e W' => e = .returned (.bool true) ∧ Below W.heap.size W W') :
    ReturnsInHanded {} C os f .any (fun w args => (s.pre enc C.prog fn conds false w args ∧ X w args) ∧ sizedMet enc C.prog fn (OpenSpec.ofChange s) false w args) (s.post enc C.prog fn false true false false) := by
  refine returnsInHanded_of_calls own started noInit witness ?_
  intro w tape i _ hsh _ hok hpre hholds
  obtain ⟨_, _, _, fn', hfn', _, _, _, _, hval⟩ := hok
  have e : fn' = fn := Option.some.inj (hfn'.symm.trans hfn)
  subst e
  obtain ⟨⟨⟨ds, gs, before, hw, hc⟩, hx⟩, hz⟩ := hpre
  have hw' := DataW.Whole.of_heap (w' := w.forCall tape i) (by rfl) hw
  have hsz := hz.weights hw
  have hx' := hX _ (w.forCall tape i) _ (by rfl) hx
  have hW' := hw'
  obtain ⟨p, q, hA, hV, rfl, hfz, hnd⟩ := hw'
  rw [hvars] at hV
  obtain ⟨rfl, rfl⟩ := trodVars_none hV
  have hsz' : (DataW.weightsEach C.prog fn'.params.toList ds).all (· ≤ reachBytes) = true := by
    have e : s.plain.varTypes C.prog = [] := by simp [ChangeSpec.plain, DataSpec.varTypes, hvars]
    have hsz : (DataW.weightsEach C.prog (fn'.params.toList ++ s.plain.varTypes C.prog) (ds ++ [])).all (· ≤ reachBytes) = true := hsz
    rw [e] at hsz
    simpa using hsz
  refine (call (w.forCall tape i) w.heap.size i.args ds p hsh hx' (fun j t v ht hv => hval j t v (by simpa using ht) (by simpa using hv)) hA hsz').mono fun e W' ⟨he, bel⟩ => ?_
  subst he
  obtain ⟨e1, e2, e3⟩ := hspec ds (trodAll_length hA).2
  refine ChangeSpec.post_blind ?_
  refine ⟨ds, [], _, [], p, [], hW', ?_, ?_, ?_, bel.frame _, fun h => by cases h⟩
  · simp only [List.append_nil, e1, hres]
    exact trodAll_mk1 (shut_bool hb _)
  · simp only [List.append_nil, e2]
    exact trodAll_later laid bel hread hA
  · simp only [List.append_nil, e3, hvars]; rfl
end
end Sx

/-
  Sx: places in a body where what is not needed is forgotten, as at a loop's head: the executor's states stay small, and its normal form is printed in pieces.
-/
set_option linter.unusedVariables false
set_option linter.unusedSimpArgs false
namespace Sx
open Go

/-- Code with places (by the regions' numbers) at which what isn't needed is forgotten. -/
noncomputable def evD {α : Type} (X : Fx) (n : Nat) (cs : List Nat) : Code → St → (Ex → St → Option α) → Option α
  | .seq a b, s, K => evC X n a s (fun e s' => match e with
    | .normal => (bif hasNat cs (headId b) then loopK X.Ty X.sm (X.live (headId b)) n (fun t _ => evD X n cs b t K) s' K else evD X n cs b s' K)
    | e => K e s')
  | c, s, K => evC X n c s K
noncomputable def kontD {α : Type} (X : Fx) (n : Nat) (cs : List Nat) : Code → List Dir → (Ex → St → Option α) → (Ex → St → Option α)
  | _, [], K => K
  | .seq _ b, .r :: p, K => kontD X n cs b p K
  | .seq a b, .l :: p, K => kont X n a p (fun e s' => match e with
    | .normal => (bif hasNat cs (headId b) then loopK X.Ty X.sm (X.live (headId b)) n (fun t _ => evD X n cs b t K) s' K else evD X n cs b s' K)
    | e => K e s')
  | c, p, K => kont X n c p K
/-- A loop in its place, where it begins; or such a place. -/
noncomputable def atLoopD {α : Type} (X : Fx) (cs : List Nat) (fn : Func) (fin : SV → St → α) (n : Nat) (p : List Dir) (m : Nat) (s : St) : Option α := match codeAt (bodyOf fn) p with
  | .loop c => loopN X.Ty X.sm (X.live (headId c)) m (fun s' K' => evC X n c s' K') s (kontD X n cs (bodyOf fn) p (lastK X fn fin))
  | c => loopN X.Ty X.sm (X.live (headId c)) m (fun t _ => evD X n cs c t (lastK X fn fin)) s (lastK X fn fin)
noncomputable def evFunD {α : Type} (X : Fx) (cs : List Nat) (n : Nat) (fn : Func) (fin : SV → St → α) (args : List SV) (m : Mem) (u : List Nat) : Option α := match fn.body with
  | none => none
  | some c => evD X n cs c ⟨slots0 fn args, m, u⟩ (lastK X fn fin)

theorem evD_sound {E : Env} {X : Fx} (hX : FxOk E X) {ρ0 : Ren} {m0 : Mem} {w0 : World} {α : Type} {r : α} (n : Nat) (cs : List Nat) : ∀ (c : Code) (s : St) (K : Ex → St → Option α) (Q : Exit → Act → World → Prop), evD X n cs c s K = some r →
    (∀ e s', K e s' = some r → ∀ ρ a w, Far E X.sm ρ0 m0 w0 ρ s' a w → Q e.out a w) → ∀ ρ a w, Far E X.sm ρ0 m0 w0 ρ s a w → c.wp E.P Q a w := by
  intro c
  induction c with
  | seq x y ihx ihy =>
    intro s K Q h hK ρ a w hF
    simp only [evD] at h
    refine wp_seq (evC_sound hX n x s _ _ h (fun e s' he ρ a w hF => ?_) ρ a w hF)
    cases e with
    | normal =>
      simp only [cond_eq_ite] at he
      split at he
      · unfold loopK at he
        cases hc : canon X.Ty X.sm (X.live (headId y)) s' with
        | none => simp [hc] at he
        | some s1 =>
          simp only [hc] at he
          rw [hX.ty] at hc
          obtain ⟨ρ1, hF1⟩ := canon_sound hX.env hF hc
          cases n with
          | zero => cases he
          | succ n => exact ihy s1 K Q he hK ρ1 a w hF1
      · exact ihy s' K Q he hK ρ a w hF
    | exit i => exact hK (.exit i) s' he ρ a w hF
    | ret => exact hK .ret s' he ρ a w hF
  | skip => intro s K Q h hK ρ a w hF; exact evC_sound hX n _ s K Q h hK ρ a w hF
  | label l => intro s K Q h hK ρ a w hF; exact evC_sound hX n _ s K Q h hK ρ a w hF
  | exit id => intro s K Q h hK ρ a w hF; exact evC_sound hX n _ s K Q h hK ρ a w hF
  | ret => intro s K Q h hK ρ a w hF; exact evC_sound hX n _ s K Q h hK ρ a w hF
  | region id ops draw => intro s K Q h hK ρ a w hF; exact evC_sound hX n _ s K Q h hK ρ a w hF
  | cond c x y => intro s K Q h hK ρ a w hF; exact evC_sound hX n _ s K Q h hK ρ a w hF
  | block id c => intro s K Q h hK ρ a w hF; exact evC_sound hX n _ s K Q h hK ρ a w hF
  | loop c => intro s K Q h hK ρ a w hF; exact evC_sound hX n _ s K Q h hK ρ a w hF
  | scope c => intro s K Q h hK ρ a w hF; exact evC_sound hX n _ s K Q h hK ρ a w hF
  | _ => intro s K Q h hK ρ a w hF; cases h

theorem evFunD_calls {E : Env} {ρ : Ren} {w : World} {X : Fx} (hX : FxOk E X) {cs : List Nat} {f : FuncId} {fn : Func} (hf : E.P.funcs[f]? = some fn) {n : Nat} {args : List SV} {vals : Array Value} {m : Mem} {u : List Nat} {α : Type} {fin : SV → St → α} {r : α} (h : evFunD X cs n fn fin args m u = some r)
    (hR : R E ρ ⟨slots0 fn args, m, u⟩ { tmps := vals ++ Array.replicate (fn.ntmps - vals.size) undef, defers := [] } w) :
    Calls E.P f vals w (fun e w' => ∃ v ρ' a' sv s', e = .returned v ∧ fin sv s' = r ∧ Far E X.sm ρ m w ρ' s' a' w' ∧ Rel E w' (okB w' ρ' s'.mem) ρ' sv v) := by
  unfold evFunD at h
  cases hb : fn.body with
  | none => simp [hb] at h
  | some c =>
    simp only [hb] at h
    refine calls_of_wp hf hb ?_
    refine evD_sound hX n cs c _ _ _ h ?_ ρ _ w ⟨hR, fun _ _ _ x => x, Kept.refl _ _, fun _ hb => .inl hb, rfl⟩
    intro e s2 he ρ2 a2 w2 hF
    have key : (match resX X.Ty fn s2 with | some v => some (fin v s2) | none => none) = some r → a2.defers = [] ∧ ∃ v, (results fn a2.tmps).run E.P w2 = .ok v w2 ∧ ∃ v' ρ' a' sv s', Ending.returned v = .returned v' ∧ fin sv s' = r ∧ Far E X.sm ρ m w ρ' s' a' w2 ∧ Rel E w2 (okB w2 ρ' s'.mem) ρ' sv v' := by
      intro he
      rw [hX.ty] at he
      cases hr : resX E.Ty fn s2 with
      | none => simp [hr] at he
      | some v =>
        simp only [hr, Option.some.injEq] at he
        obtain ⟨u, hu, hrel⟩ := resX_sound hX.env hF.r hr
        exact ⟨hF.defers, u, hu, u, ρ2, a2, v, s2, rfl, he, hF, hrel⟩
    cases e with
    | exit i => cases he
    | normal => exact key he
    | ret => exact key he

theorem wide_of_runD {E : Env} (hE : EnvOk E) {cs : List Nat} {X : List Nat → Fx} (hX : ∀ sm, FxOk E (X sm) ∧ (X sm).sm = sm) {f : FuncId} {fn : Func} (hf : E.P.funcs[f]? = some fn) (hname : (fn.name == "runtime.NumGoroutine") = false) (hbody : fn.body.isNone = false) {core : List SV → Mem → Tr (SV × Mem)}
    (hg : ∀ args m x, pickA (core args m) = some x → ∃ n, evFunD (X (smOf (idsOfL args []) m)) cs n fn (finW E.Ty (smOf (idsOfL args []) m) m.length) args m (m.map (·.1)) = some (some x)) : SpecOk E f (.wide (wideOf E.Ty core)) := by
  intro ρ s a w args vals sv mo uo hR hl h
  unfold wideOf at h
  simp only at h
  -- nil slices first
  obtain ⟨ρ1, r1, e1, x1, o1, p1, hi1⟩ := nilMem_sound hE (picked ((assign s.mem 200 (idsOfL args []) 0 []).map (·.1)) s.mem) hR
  have hst : ∀ (l : Mem) (sl sl' : List SV) (m : Mem) (u : List Nat), nilMem E.Ty l ⟨sl, m, u⟩ = ⟨sl, (nilMem E.Ty l ⟨sl', m, u⟩).mem, (nilMem E.Ty l ⟨sl', m, u⟩).used⟩ := by
    have cells : ∀ (ks : List CK) (id j : Nat) (sl sl' : List SV) (m : Mem) (u : List Nat), nilCells E.Ty id j ks ⟨sl, m, u⟩ = ⟨sl, (nilCells E.Ty id j ks ⟨sl', m, u⟩).mem, (nilCells E.Ty id j ks ⟨sl', m, u⟩).used⟩ := by
      intro ks id
      induction ks with
      | nil => intro j sl sl' m u; rfl
      | cons k ks ih =>
        intro j sl sl' m u
        cases k with
        | slice e =>
          unfold nilCells
          simp only
          cases hm : m.get id with
          | none => rfl
          | some o =>
            cases o with
            | row _ _ => rfl
            | box t cs =>
              simp only
              cases getAt cs j <;> cases E.Ty e <;> simp only <;> try exact ih _ _ _ _ _
              simp only [St.freshN, St.fresh]
              cases hasNat u (1000 + (maxN u - 999)) || (Nat.ble 900000 (maxN u - 999) || Mem.has m (1000 + (maxN u - 999))) with
              | true => exact ih _ _ _ _ _
              | false => simp only [cond_false, St.cell]; exact ih _ _ _ _ _
        | _ => exact ih (j + 1) sl sl' m u
    intro l
    induction l with
    | nil => intro sl sl' m u; rfl
    | cons p l ih =>
      intro sl sl' m u
      obtain ⟨id, o⟩ := p
      cases o with
      | row _ _ => exact ih sl sl' m u
      | box t cs =>
        simp only [nilMem]
        cases E.Ty t with
        | none => exact ih sl sl' m u
        | some d =>
          simp only
          rw [cells d.cells id 0 sl sl' m u]
          generalize nilCells E.Ty id 0 d.cells ⟨sl', m, u⟩ = q
          have h1 := ih sl sl' q.mem q.used
          have h2 := ih sl' q.slots q.mem q.used
          have h3 := ih sl q.slots q.mem q.used
          rw [h3]
  generalize hpk : picked ((assign s.mem 200 (idsOfL args []) 0 []).map (·.1)) s.mem = pk at h r1 e1 o1 p1
  have hs2 := hst pk s.slots [] s.mem s.used
  generalize hs1 : nilMem E.Ty pk ⟨[], s.mem, s.used⟩ = s1 at h hs2
  have hss : nilMem E.Ty pk s = ⟨s.slots, s1.mem, s1.used⟩ := hs2
  rw [hss] at r1 o1 p1
  generalize hτ : assign s1.mem 200 (idsOfL args []) 0 [] = τ at h
  simp only [cond_eq_ite] at h
  split at h
  · rename_i hc
    simp only [Bool.and_eq_true] at hc
    obtain ⟨⟨⟨⟨⟨h1, h2⟩, h5⟩, h3⟩, h4⟩, h6⟩ := hc
    have h4 := eqNats_eq h4
    obtain ⟨⟨v3, m3⟩, hp, hb, hbe⟩ := pick_backs h
    obtain ⟨n, hrun⟩ := hg _ _ _ hp
    have hkeys : ∀ p, p ∈ τ → ∃ o, s1.mem.get p.1 = some o := fun p hp => by
      rw [← hτ] at hp
      exact assign_keys 200 _ 0 [] (by simp) p hp
    have hl1 : RelL E w (okB w ρ1 s1.mem) ρ1 args vals := ⟨hl.1, fun j x v hx hv => (hl.2 j x v hx hv).frame (fun _ _ => rfl) (fun b hb => ⟨hb.1, fun q => hb.2 (by
      rcases q with q | ⟨i, v, hi, hv, hbk⟩
      · exact .inl (o1 b q)
      · exact .inr ⟨i, v, hi, hi1 i v hi hv, hbk⟩)⟩) x1⟩
    obtain ⟨hR3, hown3⟩ := startR hE r1 h1 h2 h5 h3 (fn := fn) hl1
    simp only at hR3
    rw [h4] at hR3
    right
    refine ⟨f, vals.toArray, run_callFunc hf hname hbody _ w, ?_⟩
    refine (evFunD_calls (hX _).1 hf hrun hR3).mono ?_
    rintro e w2 ⟨val, ρ2, a2, sv2, s', rfl, hfin, hF, hrel⟩
    rw [(hX _).2] at hF
    have hF' := hF
    obtain ⟨ρ3, u3, hF3⟩ := finW_sound hE hF hrel hfin
    have hv3 : Rel E w2 (okB w2 ρ3 m3) ρ3 v3 val := hF3.r.slot 0 val rfl
    obtain ⟨ρ', hcm⟩ := backR hE r1 h1 h2 h5 (fun i n hm => by
      obtain ⟨_, q⟩ := isUp_at h6 i n hm
      simpa using q) hkeys (sm := smOf (idsOfL (renL τ args) []) (renM τ s1.mem τ)) rfl hF3 hv3 hb
    have hbe' : backW E.Ty (smOf (idsOfL (renL τ args) []) (renM τ s1.mem τ)) (τ.map (·.1)) τ.length s1 (v3, m3) = backW E.Ty (smOf (idsOfL (renL τ args) []) (renM τ s1.mem τ)) (τ.map (·.1)) τ.length ⟨s.slots, s1.mem, s1.used⟩ (v3, m3) := rfl
    rw [hbe'] at hbe
    simp only at hcm
    rw [hbe] at hcm
    refine ⟨val, ρ', rfl, hcm.r, hcm.rel, fun i u hu => hcm.ext i u (x1 i u hu), ⟨hcm.kept.os, hcm.kept.tape, hcm.kept.output, hcm.kept.size, fun b hb hn => hcm.kept.block b hb (fun q => hn (o1 b q))⟩, fun b hb => (hcm.own b hb).imp (o1 b) (fun x => x), fun b hb => by
      obtain ⟨i, v, hi, hv, hbk⟩ := hcm.hid b hb
      exact ⟨i, v, hi, hi1 i v hi hv, hbk⟩⟩
  · cases h

/-- The same, by one equation. -/
theorem wide_of_eqD {E : Env} (hE : EnvOk E) {cs : List Nat} {X : List Nat → Fx} (hX : ∀ sm, FxOk E (X sm) ∧ (X sm).sm = sm) {f : FuncId} {fn : Func} (hf : E.P.funcs[f]? = some fn) (hname : (fn.name == "runtime.NumGoroutine") = false) (hbody : fn.body.isNone = false) {core : List SV → Mem → Tr (SV × Mem)}
    (hg : ∀ args m, core args m = .no ∨ ∃ n, evFunD (X (smOf (idsOfL args []) m)) cs n fn (finW E.Ty (smOf (idsOfL args []) m) m.length) args m (m.map (·.1)) = (core args m).opt) : SpecOk E f (.wide (wideOf E.Ty core)) :=
  wide_of_runD hE hX hf hname hbody (fun args m x h => by
    rcases hg args m with q | ⟨n, q⟩
    · rw [q] at h; cases h
    · exact ⟨n, by rw [q]; exact Tr.opt_pick h⟩)

end Sx
