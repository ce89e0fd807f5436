/-
  For all chunks 'hamperlaw29.LineFeeds' returns true, and they read as they read: whatever the world holds that fits the program.
-/
import Derived.Test.YtlkpldfdogjneaaRows
import Derived.Test.YtlkpldfdogjneaaLa
import Derived.Test.YtlkpldfdogjneaaEc
import Derived.Shelf.Vars
import Derived.Test.YtlkpldfdogjneaaLc
set_option linter.unusedVariables false
set_option linter.unusedSimpArgs false
/-
  What each row of the seat wants of the program and of the world.
-/
set_option linter.unusedVariables false
namespace Sx
open Go Go.Proofs Go.ChangeShapes Go.RowKit
open Go.Proofs.Ytlkpldfdogjneaa

theorem rOwn : ownKnob Try.prog.godebug = none := by kernel_rfl
theorem rLaid : laidOutB Try.prog = true := by kernel_rfl
set_option maxRecDepth 100000
theorem rG_of {W : World} (h : W.ShapedOpen Try.prog) : rE.G W := by
  obtain ⟨m, hm⟩ := cell_of_shapedOpen_int (P := Try.prog) (g := 0) (t := 3) (zero := #[.int .i64 0]) (k := .i64) h (by decide +kernel) (by kernel_rfl) rfl (by kernel_rfl) (by kernel_rfl) Try.underlying3
  refine ⟨?_, m, hm⟩
  have := World.block_lt_of_cell? W _ hm
  show 1 ≤ W.heap.size
  have : 0 < W.heap.size := this
  omega

end Sx

/-
  Layer 29: the statement's run: it comes to true for all chunks.
-/
set_option linter.unusedVariables false
set_option linter.unusedSimpArgs false
namespace Sx
open Go Go.Proofs
set_option maxRecDepth 100000
theorem piecesT_len : ∀ (l : List SV) (n : Int) (out : List SV) (n' : Int) (out' : List SV), sumP l < 4294967281 → 0 ≤ n → piecesT l n out = some (n', out') → 0 ≤ n' ∧ n' + out'.length ≤ n + out.length + sumP l
  | [], n, out, n', out', hs, hn, h => by
    simp only [piecesT, Option.some.injEq, Prod.mk.injEq] at h
    obtain ⟨rfl, rfl⟩ := h
    simp only [sumP]; omega
  | p :: ps, n, out, n', out', hs, hn, h => by
    simp only [sumP] at hs ⊢
    simp only [piecesT, cond_eq_ite] at h
    split at h
    · split at h
      · have := piecesT_len ps 0 _ n' out' (by omega) (by omega) h
        simp only [List.length_append, List.length_cons, List.length_nil] at this
        omega
      · cases h
    · split at h
      · rename_i n2 out2 hq
        have h1 := pieceT_size (by omega) (strP p).size _ 0 n out n2 out2 (by omega) (by omega) (by omega) hn hq
        have := piecesT_len ps n2 out2 n' out' (by omega) h1.1 h
        omega
      · cases h
theorem toksL_len (l : List SV) (hs : sumP l < 4294967281) : (toksL l).length ≤ sumP l := by
  unfold toksL toksP
  cases h : piecesT l 0 [] with
  | none => simp
  | some r =>
    obtain ⟨n, out⟩ := r
    have := piecesT_len l 0 [] n out hs (by omega) h
    simp only [List.length_nil] at this
    show (Option.getD (bif decide (n > 0) then none else some out) []).length ≤ _
    cases decide (n > 0) with
    | true => simp
    | false => simp only [cond_false, Option.getD_some]; omega
theorem okI_more : okI moreV = true := by decide
theorem okI_inp (q : List SV) (k : Int) (hs : sumP q < 4294967281) : okI (inpOf q k) = true := by
  have h := toksL_len q hs
  unfold okI
  have : toksI (inpOf q k) = bif k == 0 then toksL q else [] := rfl
  rw [this]
  apply decide_eq_true
  cases k == 0 with
  | true => simp only [cond_true]; omega
  | false => simp
theorem stepR_ok {r : Rd} {k : Nat} (h : InvR r k) (hk : k < 1000000000) (c : UInt8) : ∀ x ∈ (stepR r c).2, okI x = true := by
  obtain ⟨h1, ⟨h2, h3⟩, ⟨h4, h5⟩, h6, h7⟩ := h
  intro x hx
  unfold stepR at hx
  split at hx
  · split at hx <;> simp at hx
  · split at hx
    · split at hx
      · simp only [List.mem_singleton] at hx
        subst hx
        unfold lnI
        cases lnStay (bsv r.h) r.o r.sz r.n with
        | true => exact okI_more
        | false =>
          simp only [cond_false]
          have hQ := lnQ_sum r.p (bsv r.h) r.o r.sz
          rw [bsv_len] at hQ
          exact okI_inp _ _ (by omega)
      · simp at hx
    · split at hx <;> simp at hx
theorem feedR_ok : ∀ (l : List UInt8) {r : Rd} {k : Nat}, InvR r k → k + l.length < 1000000000 → ∀ x ∈ (feedR r l).2, okI x = true
  | [], r, k, h, hk, x, hx => by simp [feedR] at hx
  | c :: l, r, k, h, hk, x, hx => by
    simp only [List.length_cons] at hk
    simp only [feedR, List.mem_append] at hx
    rcases hx with q | q
    · exact stepR_ok h (by omega) c x q
    · exact feedR_ok l (stepR_inv h c) (by omega) x q
def r0 : Rd := ⟨[], [], false, 0, 0, 0⟩
theorem r0_inv : InvR r0 0 := ⟨by simp [r0, sumP], ⟨by simp [r0], by simp [r0]⟩, ⟨by simp [r0], by simp [r0]⟩, by simp [r0], by simp [r0]⟩
theorem feed_law (B : List UInt8) : (feedR r0 B).2 = (allL B).1 ∧ (feedR r0 B).1.w = (allL B).2 ∧ (allL B).2 ≤ 4000 := by
  have := feed_all (B.length + 1) B [] 0 0 [] (by omega) (by omega)
  rw [List.nil_append] at this
  exact this
def chunkV (b : List UInt8) : SV := .lst 5 (bsv b)
theorem chunkV_at (bss : List (List UInt8)) (i : Nat) (h : i < bss.length) : asLst (List.getD (cellsOf (List.getD (bss.map chunkV) i SV.dead)) 0 SV.dead) = bsv bss[i] := by
  have : List.getD (bss.map chunkV) i SV.dead = chunkV bss[i] := by
    rw [List.getD_eq_getElem?_getD]
    simp [h]
  rw [this]; rfl
theorem L13_is (fu k0 : Nat) (bss : List (List UInt8)) (i : Nat) (hi : i < bss.length) (hbl : bss.length < 1000) (B : List UInt8) (hB : B.length + bss[i].length < 1000000) (o : Bool) (sz n : Int) (p h : List SV) (out : List SV) (w : Int)
    (ho : out = (allL (B ++ bss[i])).1) (hw : w = (allL (B ++ bss[i])).2) (hw4 : w ≤ 4000) (hol : out.length < 1000000) (hok : ∀ x ∈ out, okI x = true) : ∀ (k j m : Nat) (own : List SV), own.length < 1000000 → j + k = own.length → k < m →
    f5_L13 fu m k0 (bss.map chunkV) (i : Int) (j : Int) o sz n w out (bsv B) own p h = f5_L8 fu k0 (bss.map chunkV) ((i + 1 : Nat) : Int) o sz n w out (bsv (B ++ bss[i])) p h
  | 0, j, m, own, hown, hj, hm => by
    obtain ⟨m, rfl⟩ : ∃ m', m = m' + 1 := ⟨m - 1, by omega⟩
    have h1 : ¬ ((j : Int) < (own.length : Int)) := by omega
    have h2 : (0 : Int) ≤ (i : Int) := by omega
    have h3 : (i : Int) < ((bss.map chunkV).length : Int) := by rw [List.length_map]; omega
    have hc := chunkV_at bss i hi
    have hbb : bsv B ++ bsv bss[i] = bsv (B ++ bss[i]) := by simp [bsv]
    have w1 : IntKind.wrap .i64 ((i : Int) + 1) = ((i + 1 : Nat) : Int) := by rw [wrap64 (by omega) (by omega)]; omega
    have r1 : decide (((bsv B).length + (bsv bss[i]).length) * 1 ≤ 140737488355328) = true := decide_eq_true (by rw [bsv_len, bsv_len]; omega)
    have r2 : decide ((bsv B).length + (bsv bss[i]).length ≤ 9223372036854775807) = true := decide_eq_true (by rw [bsv_len, bsv_len]; omega)
    have r3 : decide ((⟨(B ++ bss[i]).toArray⟩ : ByteArray).size < 1000000000) = true := decide_eq_true (by rw [mk_size, List.length_append]; omega)
    have r4 : decide (out.length < 4294967281) = true := decide_eq_true (by omega)
    have r5 : out.all okI = true := List.all_eq_true.2 hok
    have hdt : (⟨(B ++ bss[i]).toArray⟩ : ByteArray).data.toList = B ++ bss[i] := rfl
    have r6 : eqL out (allL (B ++ bss[i])).1 = true := by rw [← ho]; exact eqL_self _
    have r7 : (w != (allL (B ++ bss[i])).2) = false := by rw [← hw]; simp
    have r8 : decide (w > 4000) = false := decide_eq_false (by omega)
    rw [f5_L13_eq, w1]
    simp only [h1, h2, h3, decide_true, decide_false, cond_true, cond_false, Bool.and_self, Int.toNat_natCast, hc, r1, r2, hbb, bsv_str, r3, r4, r5, hdt, r6, r7, r8]
  | k + 1, j, m, own, hown, hj, hm => by
    obtain ⟨m, rfl⟩ : ∃ m', m = m' + 1 := ⟨m - 1, by omega⟩
    have h1 : (j : Int) < (own.length : Int) := by omega
    have h2 : (0 : Int) ≤ (j : Int) := by omega
    have w1 : IntKind.wrap .i64 ((j : Int) + 1) = ((j + 1 : Nat) : Int) := by rw [wrap64 (by omega) (by omega)]; omega
    rw [f5_L13_eq, w1]
    simp only [h1, h2, decide_true, cond_true, Bool.and_self, Int.toNat_natCast]
    exact L13_is fu k0 bss i hi hbl B hB o sz n p h out w ho hw hw4 hol hok k (j + 1) m _ (by rw [List.length_set]; exact hown) (by rw [List.length_set]; omega) (by omega)
theorem L8w_is (fu : Nat) (hfu : 2000000 < fu) (bss : List (List UInt8)) (hbl : bss.length < 1000) (hB : bss.flatten.length ≤ 9000) : ∀ (k i m : Nat), i + k = bss.length → k < m →
    f5_L8 fu m (bss.map chunkV) (i : Int) (feedR r0 (bss.take i).flatten).1.o (feedR r0 (bss.take i).flatten).1.sz (feedR r0 (bss.take i).flatten).1.n (feedR r0 (bss.take i).flatten).1.w (feedR r0 (bss.take i).flatten).2 (bsv (bss.take i).flatten) (feedR r0 (bss.take i).flatten).1.p (bsv (feedR r0 (bss.take i).flatten).1.h) = some (.bool true)
  | 0, i, m, hi, hm => by
    obtain ⟨m, rfl⟩ : ∃ m', m = m' + 1 := ⟨m - 1, by omega⟩
    have h1 : ¬ ((i : Int) < ((bss.map chunkV).length : Int)) := by rw [List.length_map]; omega
    rw [f5_L8_eq]
    simp only [h1, decide_false, cond_false]
  | k + 1, i, m, hi, hm => by
    obtain ⟨m, rfl⟩ : ∃ m', m = m' + 1 := ⟨m - 1, by omega⟩
    have hlt : i < bss.length := by omega
    have h1 : (i : Int) < ((bss.map chunkV).length : Int) := by rw [List.length_map]; omega
    have h2 : (0 : Int) ≤ (i : Int) := by omega
    have hc := chunkV_at bss i hlt
    have htake : (bss.take (i + 1)).flatten = (bss.take i).flatten ++ bss[i] := by
      rw [List.take_add_one, List.getElem?_eq_getElem hlt]
      simp only [Option.toList_some, List.flatten_append, List.flatten_cons, List.flatten_nil, List.append_nil]
    have hlen : (bss.take i).flatten.length + bss[i].length ≤ 9000 := by
      have h3 : bss.flatten = (bss.take (i + 1)).flatten ++ (bss.drop (i + 1)).flatten := by rw [← List.flatten_append, List.take_append_drop]
      rw [h3, htake] at hB
      simp only [List.length_append] at hB
      omega
    have ih := L8w_is fu hfu bss hbl hB k (i + 1) m (by omega) (by omega)
    rw [htake] at ih
    generalize (bss.take i).flatten = B at *
    generalize hb : bss[i] = b at *
    have hI := feedR_inv B r0_inv
    rw [Nat.zero_add] at hI
    have hO := feedR_out B r0
    have hf := feedR_app B b r0
    have hlaw := feed_law (B ++ b)
    have hok2 := feedR_ok (B ++ b) r0_inv (by rw [List.length_append]; omega)
    have hO2 := feedR_out (B ++ b) r0
    rw [List.length_append] at hO2
    generalize hr : (feedR r0 B).1 = r at *
    generalize ho : (feedR r0 B).2 = out at *
    obtain ⟨i1, ⟨i2, i3⟩, ⟨i4, i5⟩, i6, i7⟩ := hI
    have hfd : fdR r.p (bsv r.h) r.o r.sz r.n r.w (bsv b) = feedR r b := by
      unfold fdR
      rw [octs_bsv, octs_bsv]
    have hok : fdOk r.p (bsv r.h) r.sz r.n r.w (bsv b) = true := by
      unfold fdOk
      rw [isBs_bsv, isBs_bsv, bsv_len, bsv_len]
      simp only [Bool.true_and, Bool.and_eq_true, decide_eq_true_eq]
      omega
    rw [hf] at ih hlaw hok2 hO2
    simp only at ih hlaw hok2 hO2
    rw [List.length_append] at hO2
    have r1 : decide ((0 + (bsv b).length) * 1 ≤ 140737488355328) = true := decide_eq_true (by rw [bsv_len]; omega)
    have r2 : decide (0 + (bsv b).length ≤ 9223372036854775807) = true := decide_eq_true (by rw [bsv_len]; omega)
    have r3 : decide ((out.length + (feedR r b).2.length) * 48 ≤ 140737488355328) = true := decide_eq_true (by omega)
    have r4 : decide (out.length + (feedR r b).2.length ≤ 9223372036854775807) = true := decide_eq_true (by omega)
    rw [f5_L8_eq]
    simp only [h1, h2, decide_true, cond_true, Bool.and_self, Int.toNat_natCast, hc, List.nil_append, r1, r2, hok, hfd, r3, r4]
    have h13 := L13_is fu m bss i hlt hbl B (by rw [hb]; omega) (feedR r b).1.o (feedR r b).1.sz (feedR r b).1.n (feedR r b).1.p (bsv (feedR r b).1.h) (out ++ (feedR r b).2) (feedR r b).1.w (by rw [hb]; exact hlaw.1) (by rw [hb]; exact hlaw.2.1) (by rw [hlaw.2.1]; exact hlaw.2.2) (by rw [List.length_append]; omega) hok2 (bsv b).length 0 fu (bsv b) (by rw [bsv_len]; omega) (by omega) (by rw [bsv_len]; omega)
    rw [show ((0 : Nat) : Int) = 0 from rfl, hb] at h13
    rw [h13]
    exact ih
theorem chL_chunks : ∀ (cs : List (List UInt8)) (all : Nat), all ≤ 9000 → (∀ b ∈ cs, b.length < 140737488355329) → ∃ bss : List (List UInt8), chL (cs.map chunkV) (all : Int) = bss.map chunkV ∧ all + bss.flatten.length ≤ 9000 ∧ bss.length = cs.length
  | [], all, h, _ => ⟨[], rfl, by simpa using h, rfl⟩
  | b :: cs, all, h, hb => by
    have e : chunkB (chunkV b) = bsv b := rfl
    simp only [List.map_cons, chL, e, bsv_len]
    by_cases c : (all : Int) + (b.length : Int) > 9000
    · obtain ⟨bss, h1, h2, h3⟩ := chL_chunks cs 9000 (Nat.le_refl _) (fun x hx => hb x (List.mem_cons_of_mem _ hx))
      have ht : (bsv b).take ((9000 : Int) - (all : Int)).toNat = bsv (b.take (9000 - all)) := by
        have : ((9000 : Int) - (all : Int)).toNat = 9000 - all := by omega
        rw [this]; simp [bsv]
      refine ⟨b.take (9000 - all) :: bss, ?_, ?_, by simp [h3]⟩
      · rw [decide_eq_true c, cond_true, ht]
        rw [show ((9000 : Nat) : Int) = 9000 from rfl] at h1
        rw [h1]; rfl
      · simp only [List.flatten_cons, List.length_append, List.length_take]; omega
    · obtain ⟨bss, h1, h2, h3⟩ := chL_chunks cs (all + b.length) (by omega) (fun x hx => hb x (List.mem_cons_of_mem _ hx))
      refine ⟨b :: bss, ?_, ?_, by simp [h3]⟩
      · rw [decide_eq_false c, cond_false]
        rw [show ((all + b.length : Nat) : Int) = (all : Int) + (b.length : Int) by omega] at h1
        rw [h1]; rfl
      · simp only [List.flatten_cons, List.length_append]; omega
theorem f5_run (cs : List (List UInt8)) (hb : ∀ b ∈ cs, b.length < 140737488355329) : evFun f5_X 4294967290 Try.f5 (frz f5_X.Ty Try.f5) [.lst 35 (cs.map chunkV)] [] [] = some (.bool true) := by
  rw [f5_eq]
  have h0 : ((cs.map chunkV).all fun x => decide ((chunkB x).length < 140737488355329)) = true := by
    rw [List.all_eq_true]
    intro x hx
    obtain ⟨b, hm, rfl⟩ := List.mem_map.1 hx
    have e : chunkB (chunkV b) = bsv b := rfl
    rw [e, bsv_len]
    exact decide_eq_true (hb b hm)
  rw [h0, cond_true]
  obtain ⟨bss, h1, h2, h3⟩ := chL_chunks (cs.take 40) 0 (by omega) (fun b hm => hb b (List.mem_of_mem_take hm))
  rw [List.map_take, show ((0 : Nat) : Int) = 0 from rfl] at h1
  rw [h1]
  have hlen : bss.length ≤ 40 := by rw [h3, List.length_take]; omega
  have := L8w_is 4294967290 (by omega) bss (by omega) (by omega) bss.length 0 4294967290 (by omega) (by omega)
  exact this
theorem isBs_of : ∀ {ys : List SV}, (∀ y ∈ ys, isB y = true) → isBs ys = true
  | [], _ => rfl
  | y :: ys, all => by
    simp only [isBs, Bool.and_eq_true]
    exact ⟨all y List.mem_cons_self, isBs_of (fun z hz => all z (List.mem_cons_of_mem _ hz))⟩
theorem chunks_of {l : List SV} (h : WfV Try.prog (.lst 35 l)) : ∃ cs : List (List UInt8), l = cs.map chunkV ∧ ∀ b ∈ cs, b.length < 140737488355329 := by
  have each : ∀ x ∈ l, ∃ b : List UInt8, x = chunkV b ∧ b.length < 140737488355329 := by
    cases h with
    | lst e d xs hd hl ho hx =>
      intro x hm
      have hk : (tyOf Try.prog 35).map (fun d => (d.d, d.cells)) = some (.slice 5, [.slice 5]) := by kernel_rfl
      rw [hd] at hk
      simp only [Option.map_some, Option.some.injEq, Prod.mk.injEq] at hk
      obtain ⟨hf, ht⟩ := ho x hm
      rw [hk.2] at ht
      rw [hk.1] at hf
      have hw := hx x hm
      match hq : cellsOf x, ht with
      | [c], ht =>
        rw [hq] at hf hw
        have hf : x = c := hf
        cases c <;> simp [tyCs, tyC] at ht
        rename_i e' ys _
        subst ht
        have hb := hw (.lst 5 ys) (by simp)
        cases hb with
        | lst _ d2 _ hd2 hl2 ho2 hx2 =>
          have hk2 : (tyOf Try.prog 5).map (fun d => (d.d, d.cells)) = some (.int .u8, [.int .u8]) := by kernel_rfl
          rw [hd2] at hk2
          simp only [Option.map_some, Option.some.injEq, Prod.mk.injEq] at hk2
          have hys : isBs ys = true := by
            have all : ∀ y ∈ ys, isB y = true := by
              intro y hy
              obtain ⟨hf2, ht2⟩ := ho2 y hy
              rw [hk2.2] at ht2
              rw [hk2.1] at hf2
              have hw2 := hx2 y hy
              match hq2 : cellsOf y, ht2 with
              | [c], ht2 =>
                rw [hq2] at hf2 hw2
                have hf2 : y = c := hf2
                cases c <;> simp [tyCs, tyC] at ht2
                rename_i k' m _
                subst ht2
                have hc := hw2 (.int .u8 m) (by simp)
                cases hc with
                | int _ _ hwf =>
                  simp only [Lit.wf, Bool.and_eq_true, decide_eq_true_eq] at hwf
                  have hlo : IntKind.min .u8 = 0 := by rfl
                  have hhi : IntKind.max .u8 = 255 := by rfl
                  rw [hf2]
                  simp only [isB, Bool.and_eq_true, decide_eq_true_eq]
                  omega
              | [], ht2 => simp [tyCs] at ht2
              | _ :: _ :: _, ht2 => simp [tyCs] at ht2
            exact isBs_of all
          have hb5 : Try.prog.bytesOf 5 = 1 := by kernel_rfl
          rw [hb5, Nat.mul_one] at hl2
          refine ⟨octs ys, by rw [hf]; unfold chunkV; rw [← isBs_eq hys], ?_⟩
          have : (octs ys).length = ys.length := by simp [octs]
          have hr : reachBytes = 140737488351232 := rfl
          omega
      | [], ht => simp [tyCs] at ht
      | _ :: _ :: _, ht => simp [tyCs] at ht
  clear h
  induction l with
  | nil => exact ⟨[], rfl, by simp⟩
  | cons x l ih =>
    obtain ⟨b, rfl, h1⟩ := each x List.mem_cons_self
    obtain ⟨cs, rfl, h2⟩ := ih (fun y hy => each y (List.mem_cons_of_mem _ hy))
    exact ⟨b :: cs, rfl, fun y hy => by
      rcases List.mem_cons.1 hy with rfl | q
      · exact h1
      · exact h2 y q⟩
end Sx

set_option linter.unusedVariables false
namespace Sx
open Go Go.Proofs Go.ChangeShapes Go.RowKit
open Go.Proofs.Ytlkpldfdogjneaa
set_option maxRecDepth 100000
theorem lineFeeds_lifted (os : Os) (started : os.Started) (H : Type) (enc : TypeId × Value → H) :
    ReturnsInHanded {} Try.checked os 5 .any (Rows.lineFeedsSpec.pre6 enc Try.prog Try.f5 Rows.lineFeedsRow.domain false) (Rows.lineFeedsSpec.post enc Try.prog Try.f5 false true false false) := by
  refine law_returns (C := Try.checked) rOwn started (by kernel_rfl) Try.func5
    (ChangeSpec.witness6 (enc := enc) (C := Try.checked) false ⟨#[], #[.slice none 0 0], []⟩ 8 (by kernel_rfl) (by kernel_rfl) (by kernel_rfl) (by kernel_rfl)) rfl (tb := 4) rfl Try.underlying4 rLaid (by kernel_rfl) (fun ds hd => ?_) ?_
  · match ds, hd with
    | [a], _ => exact ⟨rfl, rfl, rfl⟩
  · intro W base args ds ps hsh hval hA hwt
    obtain ⟨svs, hl, ha⟩ := args_of_trod (E := rE) (P := Try.prog) rfl rfl (by kernel_rfl) hval hA hwt
    have hno := ha.noOwn
    have hp : Try.f5.params.toList = [43] := rfl
    rw [hp] at ha
    cases ha with
    | cons h1 r => cases r with
      | nil =>
        obtain ⟨l, rfl, hw⟩ := h1.lst (e := 35) (by kernel_rfl)
        obtain ⟨cs, rfl, hb⟩ := chunks_of hw
        exact law_calls (fx_ok lJ0_ok [] f5_live) (fn := Try.f5) (by kernel_rfl) (rG_of hsh) hl hno (f5_run cs hb)
theorem lineFeeds_over : Rows.lineFeedsRow.holds Try.pinned (OpenSpec.ofChange Rows.lineFeedsSpec) :=
  OpenClaim.holds_of_wide 5 Try.f5 rfl rfl rfl rfl rfl rfl rfl ⟨rfl, rfl, rfl, rfl, rfl⟩ rfl rfl rfl rfl rfl (by kernel_rfl) Try.func5 (by kernel_rfl)
    (of_decide_eq_true (by kernel_rfl)) (by unfold Func.isWrapper; first | (rw [if_pos (by decide +kernel)]; kernel_rfl) | (rw [if_neg (by decide +kernel)]; exact ⟨rfl, rfl⟩))
    (fun os started H enc _ => lineFeeds_lifted os started H enc)
end Sx
namespace Go.Proofs.Ytlkpldfdogjneaa
/-- The row, under a short name, for the claim. -/
theorem lineFeeds_holds : Rows.LineFeedsSaid := Sx.lineFeeds_over
#print axioms lineFeeds_holds
end Go.Proofs.Ytlkpldfdogjneaa
