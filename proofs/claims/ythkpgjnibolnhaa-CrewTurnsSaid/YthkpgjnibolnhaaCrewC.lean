/- Whoever steps: the plain law, and the walk of CrewThrough. -/
import Derived.Test.YthkpgjnibolnhaaCrewB
set_option maxRecDepth 100000
set_option linter.unusedSimpArgs false
set_option linter.unusedVariables false
namespace Go.Proofs.Ythkpgjnibolnhaa
open Go.Ab

def cnt (k : Int) (ws : List (Int × Batch)) : Nat := (ws.filter fun x => decide (x.1 = k)).length

theorem cnt_mid (k : Int) (a : List (Int × Batch)) (x : Int × Batch) (b : List (Int × Batch)) : cnt k (a ++ x :: b) = cnt k a + (if x.1 = k then 1 else 0) + cnt k b := by
  simp only [cnt, List.filter_append, List.length_append, List.filter_cons, decide_eq_true_eq]
  split <;> simp <;> omega

def Stages (ws : List (Int × Batch)) : Prop := ∀ x ∈ ws, x.1 = 0 ∨ x.1 = 1 ∨ x.1 = 2

theorem busy_cnt (ws : List (Int × Batch)) (h : Stages ws) : busyN ws = cnt 1 ws + cnt 2 ws := by
  induction ws with
  | nil => rfl
  | cons x r ih =>
    have h1 := ih fun y hy => h y (List.mem_cons_of_mem _ hy)
    simp only [busyN, cnt, List.filter_cons] at h1 ⊢
    rcases h x (List.mem_cons_self ..) with e | e | e <;> simp [e] at h1 ⊢ <;> omega

structure CInv (l : List Batch) (ws : List (Int × Batch)) (q : List Batch) (t r g : Nat) : Prop where
  hq : q = l.drop t
  ht : t ≤ l.length
  hst : Stages ws
  hc1 : cnt 1 ws + r = t
  hc2 : cnt 2 ws + g = r
  hsm : ∀ x ∈ ws, x.2.small

theorem canW_iff {ws : List (Int × Batch)} {q : List Batch} {w : Int} (h : canW ws q w = true) : ∃ a x b, ws = a ++ x :: b ∧ w - 1 = (a.length : Int) ∧ (x.1 ≠ 0 ∨ 0 < q.length) := by
  simp only [canW, Bool.and_eq_true, Bool.or_eq_true, decide_eq_true_eq] at h
  obtain ⟨h1, h2, h3⟩ := h
  obtain ⟨a, x, b, rfl, ha⟩ := split_at (l := ws) (i := (w - 1).toNat) (by omega)
  have hw : w - 1 = (a.length : Int) := by omega
  rw [hw, Int.toNat_natCast, stage_mid] at h3
  exact ⟨a, x, b, rfl, hw, h3⟩

theorem step_inv {l : List Batch} {ws : List (Int × Batch)} {q : List Batch} {t r g : Nat} (hl : ∀ b ∈ l, b.small) (h : CInv l ws q t r g) {w : Int} (hw : canW ws q w = true) :
    (stepW ws q w).2.1.length = ws.length ∧
    (((stepW ws q w).1.2 = 1 ∧ (∃ h : t < l.length, (stepW ws q w).1.1 = l[t]) ∧ CInv l (stepW ws q w).2.1 (stepW ws q w).2.2 (t + 1) r g) ∨
     ((stepW ws q w).1.2 = 2 ∧ CInv l (stepW ws q w).2.1 (stepW ws q w).2.2 t (r + 1) g) ∨
     ((stepW ws q w).1.2 = 3 ∧ CInv l (stepW ws q w).2.1 (stepW ws q w).2.2 t r (g + 1))) := by
  obtain ⟨a, x, b, rfl, ha, h3⟩ := canW_iff hw
  obtain ⟨hq, ht, hst, hc1, hc2, hsm⟩ := h
  have hgd : (a ++ x :: b).getD a.length (0, ⟨[], []⟩) = x := by simp
  have hset : ∀ y, (a ++ x :: b).set a.length y = a ++ y :: b := fun y => by simp
  rw [cnt_mid] at hc1 hc2
  have hst' : ∀ y : Int × Batch, (y.1 = 0 ∨ y.1 = 1 ∨ y.1 = 2) → Stages (a ++ y :: b) := fun y hy z hz => by
    simp only [List.mem_append, List.mem_cons] at hz
    rcases hz with hz | rfl | hz
    · exact hst z (by simp [hz])
    · exact hy
    · exact hst z (by simp [hz])
  have hsm' : ∀ y : Int × Batch, y.2.small → ∀ z ∈ a ++ y :: b, z.2.small := fun y hy z hz => by
    simp only [List.mem_append, List.mem_cons] at hz
    rcases hz with hz | rfl | hz
    · exact hsm z (by simp [hz])
    · exact hy
    · exact hsm z (by simp [hz])
  rcases hst x (by simp) with e | e | e
  · -- taken
    have hq0 : 0 < q.length := by rcases h3 with h3 | h3; · exact absurd e h3
                                  · exact h3
    have htl : t < l.length := by rw [hq] at hq0; simp at hq0; omega
    have hqe : q = l[t] :: l.drop (t + 1) := by rw [hq]; exact List.drop_eq_getElem_cons htl
    have es : stepW (a ++ x :: b) q w = ((l[t], 1), a ++ (1, l[t]) :: b, l.drop (t + 1)) := by
      simp only [stepW, hw, if_true, ha, Int.toNat_natCast, hgd, e, hset]
      rw [hqe]; rfl
    rw [es]
    refine ⟨by simp, .inl ⟨rfl, ⟨htl, rfl⟩, rfl, htl, hst' _ (by simp), ?_, ?_, hsm' _ (hl _ (List.getElem_mem htl))⟩⟩
    · rw [cnt_mid]; simp [e] at hc1 ⊢; omega
    · rw [cnt_mid]; simp [e] at hc2 ⊢; omega
  · have es : stepW (a ++ x :: b) q w = ((x.2, 2), a ++ (2, x.2) :: b, q) := by
      simp [stepW, hw, ha, e]
    rw [es]
    refine ⟨by simp, .inr (.inl ⟨rfl, hq, ht, hst' _ (by simp), ?_, ?_, hsm' _ (hsm x (by simp))⟩)⟩
    · rw [cnt_mid]; simp [e] at hc1 ⊢; omega
    · rw [cnt_mid]; simp [e] at hc2 ⊢; omega
  · have es : stepW (a ++ x :: b) q w = ((x.2, 3), a ++ (0, x.2) :: b, q) := by
      simp [stepW, hw, ha, e]
    rw [es]
    refine ⟨by simp, .inr (.inr ⟨rfl, hq, ht, hst' _ (by simp), ?_, ?_, hsm' _ (hsm x (by simp))⟩)⟩
    · rw [cnt_mid]; simp [e] at hc1 ⊢; omega
    · rw [cnt_mid]; simp [e] at hc2 ⊢; omega

theorem minL_mem (r : List Int) : ∀ m, minL r m = m ∨ minL r m ∈ r := by
  induction r with
  | nil => intro m; exact .inl rfl
  | cons x r ih =>
    intro m
    simp only [minL, List.mem_cons]
    rcases ih (if x < m then x else m) with h | h
    · rw [h]; split
      · exact .inr (.inl rfl)
      · exact .inl rfl
    · exact .inr (.inr h)

theorem turnP_mem (p : Int) (l : List Int) (h : l ≠ []) : turnP p l ∈ l := by
  cases l with
  | nil => exact absurd rfl h
  | cons x r =>
    simp only [turnP]
    split
    · assumption
    · rcases minL_mem r x with h | h <;> rw [List.mem_cons]
      · exact .inl h
      · exact .inr h

theorem cans_can {ws : List (Int × Batch)} {q : List Batch} {k : Nat} {w : Int} (h : w ∈ cans ws q k) : canW ws q w = true := (List.mem_filter.1 h).2

theorem canW_at (a : List (Int × Batch)) (x : Int × Batch) (b : List (Int × Batch)) (q : List Batch) : canW (a ++ x :: b) q ((a.length : Int) + 1) = (decide (x.1 ≠ 0) || decide (0 < q.length)) := by
  have e : ((a.length : Int) + 1 - 1).toNat = a.length := by omega
  have h1 : (1 : Int) ≤ (a.length : Int) + 1 := by omega
  have h2 : ((a.length : Int) + 1) ≤ ((a ++ x :: b).length : Nat) := by simp; omega
  simp only [canW, e, stage_mid, h1, h2, decide_true, Bool.true_and]

theorem cans_mem {ws : List (Int × Batch)} {q : List Batch} {a : List (Int × Batch)} {x : Int × Batch} {b : List (Int × Batch)} (h : ws = a ++ x :: b) (hx : x.1 ≠ 0 ∨ 0 < q.length) : ((a.length : Int) + 1) ∈ cans ws q ws.length := by
  subst h
  refine List.mem_filter.2 ⟨List.mem_map.2 ⟨a.length, List.mem_range.2 (by simp), rfl⟩, ?_⟩
  rw [canW_at]
  simpa using hx

theorem cnt_zero {k : Int} {ws : List (Int × Batch)} (h : ∀ x ∈ ws, x.1 ≠ k) : cnt k ws = 0 := by
  simp only [cnt, List.length_eq_zero_iff, List.filter_eq_nil_iff, decide_eq_true_eq]
  exact h

/-- Nobody can go on: all is handed over. -/
theorem cans_nil {ws : List (Int × Batch)} {q : List Batch} (hws : ws ≠ []) (h : cans ws q ws.length = []) : q = [] ∧ ∀ x ∈ ws, x.1 = 0 := by
  refine ⟨?_, fun x hx => ?_⟩
  · cases ws with
    | nil => exact absurd rfl hws
    | cons x r =>
      have : ¬ (0 < q.length) := fun hq => by
        have := cans_mem (ws := x :: r) (a := []) (x := x) (b := r) (q := q) rfl (.inr hq)
        rw [h] at this; cases this
      exact List.eq_nil_of_length_eq_zero (by omega)
  · obtain ⟨a, b, rfl⟩ := List.append_of_mem hx
    by_cases e : x.1 = 0
    · exact e
    · have := cans_mem (ws := a ++ x :: b) (q := q) rfl (.inl e)
      rw [h] at this; cases this

theorem cans_none {ws : List (Int × Batch)} (h : ∀ x ∈ ws, x.1 = 0) (k : Nat) : cans ws [] k = [] := by
  refine List.eq_nil_iff_forall_not_mem.2 fun w hw => ?_
  obtain ⟨a, x, b, rfl, _, h3⟩ := canW_iff (cans_can hw)
  rcases h3 with h3 | h3
  · exact h3 (h x (by simp))
  · simp at h3

theorem cnt_all {ws : List (Int × Batch)} (hst : Stages ws) (h1 : cnt 1 ws = 0) (h2 : cnt 2 ws = 0) : ∀ x ∈ ws, x.1 = 0 := by
  intro x hx
  simp only [cnt, List.length_eq_zero_iff, List.filter_eq_nil_iff, decide_eq_true_eq] at h1 h2
  rcases hst x hx with e | e | e
  · exact e
  · exact absurd e (h1 x hx)
  · exact absurd e (h2 x hx)

theorem busy_le (ws : List (Int × Batch)) : busyN ws ≤ ws.length := List.length_filter_le _ _

theorem cB_ld (b : Batch) : cB b = [.str b.table, .sl .no 1 (cT b.keys)] := rfl

/-- CrewThrough is true. -/
theorem through (n : Int) (l : List Batch) (ps : List Int) (hsm : ∀ b ∈ l, b.small) (hl : l.length ≤ maxLen) (hp : ps.length ≤ maxLen) : Pure Try.prog 10 [.int .i64 n, .sl .no 2 (cBs l), .sl .no 1 (cI ps)] (.bool true) := by
  refine Pure.go ir10 ck10 (Nat.le_refl _) fun KP Q hQ => ?_
  have hlen := cBs_length l
  have hplen := cI_length ps
  have hmax : maxLen = 9223372036854775807 := rfl
  have aw : ∀ {ρ : Env} {all rest : List AItem} {st : List Fr} {d : Option Nat}, goR Try.prog KP Q all rest st [] (ρ.set d (.bool true)) Heap.emp → goK Try.prog KP Q all rest st d [] ρ 22 [] Heap.emp := fun h => goK_pure awakeC h
  by_cases n1 : n < 1
  · simp (disch := first | omega | assumption) only [ir10, n1, steps, mkArgs, pev, rev, oev, optr, ibin, sbin, bound, mmAll, mm2, mk, AV.cells, AV.boxable, AV.one, fillA, fillS, splice_cons, splice_succ, splice_zero, Nat.reduceEqDiff, reduceCtorEq, ↓reduceIte, Nat.reduceAdd, Int.reduceNeg, decide_true, decide_false, List.take_succ_cons, List.take_zero, List.drop_succ_cons, List.drop_zero, List.length_cons, List.length_nil, List.headD_cons, List.cons_append, List.nil_append, Option.map_some, Bool.not_true, Bool.not_false, Bool.false_eq_true, eq_self, List.replicate_zero, List.replicate_succ, List.set_cons_zero, List.set_cons_succ, Nat.lt_add_one, Nat.zero_lt_succ, Nat.le_refl, Nat.reduceLeDiff, Nat.reduceAdd, if_pos, upd_ne, List.getElem?_cons_succ, List.getElem?_cons_zero, Option.some.injEq, Int.cast_ofNat_Int, Int.reduceToNat, Int.reduceEq, List.getD_cons_zero, List.getD_cons_succ, Int.reduceLT, Int.reduceLE]
    refine goK_pure awakeC ?_
    simp (disch := first | omega | assumption) only [steps, mkArgs, pev, rev, oev, optr, ibin, sbin, bound, mmAll, mm2, mk, AV.cells, AV.boxable, AV.one, fillA, fillS, splice_cons, splice_succ, splice_zero, Nat.reduceEqDiff, reduceCtorEq, ↓reduceIte, Nat.reduceAdd, Int.reduceNeg, decide_true, decide_false, List.take_succ_cons, List.take_zero, List.drop_succ_cons, List.drop_zero, List.length_cons, List.length_nil, List.headD_cons, List.cons_append, List.nil_append, Option.map_some, Bool.not_true, Bool.not_false, Bool.false_eq_true, eq_self, List.replicate_zero, List.replicate_succ, List.set_cons_zero, List.set_cons_succ, Nat.lt_add_one, Nat.zero_lt_succ, Nat.le_refl, Nat.reduceLeDiff, Nat.reduceAdd, if_pos, upd_ne, List.getElem?_cons_succ, List.getElem?_cons_zero, Option.some.injEq, Int.cast_ofNat_Int, Int.reduceToNat, Int.reduceEq, List.getD_cons_zero, List.getD_cons_succ, Int.reduceLT, Int.reduceLE]
    exact hQ _ _ _ _ nofun rfl (by simp [tupOf, envOf, AV.strip, AV.strip1])
  by_cases n2 : 16 < n
  · simp (disch := first | omega | assumption) only [ir10, n1, n2, steps, mkArgs, pev, rev, oev, optr, ibin, sbin, bound, mmAll, mm2, mk, AV.cells, AV.boxable, AV.one, fillA, fillS, splice_cons, splice_succ, splice_zero, Nat.reduceEqDiff, reduceCtorEq, ↓reduceIte, Nat.reduceAdd, Int.reduceNeg, decide_true, decide_false, List.take_succ_cons, List.take_zero, List.drop_succ_cons, List.drop_zero, List.length_cons, List.length_nil, List.headD_cons, List.cons_append, List.nil_append, Option.map_some, Bool.not_true, Bool.not_false, Bool.false_eq_true, eq_self, List.replicate_zero, List.replicate_succ, List.set_cons_zero, List.set_cons_succ, Nat.lt_add_one, Nat.zero_lt_succ, Nat.le_refl, Nat.reduceLeDiff, Nat.reduceAdd, if_pos, upd_ne, List.getElem?_cons_succ, List.getElem?_cons_zero, Option.some.injEq, Int.cast_ofNat_Int, Int.reduceToNat, Int.reduceEq, List.getD_cons_zero, List.getD_cons_succ, Int.reduceLT, Int.reduceLE]
    refine goK_pure awakeC ?_
    simp (disch := first | omega | assumption) only [steps, mkArgs, pev, rev, oev, optr, ibin, sbin, bound, mmAll, mm2, mk, AV.cells, AV.boxable, AV.one, fillA, fillS, splice_cons, splice_succ, splice_zero, Nat.reduceEqDiff, reduceCtorEq, ↓reduceIte, Nat.reduceAdd, Int.reduceNeg, decide_true, decide_false, List.take_succ_cons, List.take_zero, List.drop_succ_cons, List.drop_zero, List.length_cons, List.length_nil, List.headD_cons, List.cons_append, List.nil_append, Option.map_some, Bool.not_true, Bool.not_false, Bool.false_eq_true, eq_self, List.replicate_zero, List.replicate_succ, List.set_cons_zero, List.set_cons_succ, Nat.lt_add_one, Nat.zero_lt_succ, Nat.le_refl, Nat.reduceLeDiff, Nat.reduceAdd, if_pos, upd_ne, List.getElem?_cons_succ, List.getElem?_cons_zero, Option.some.injEq, Int.cast_ofNat_Int, Int.reduceToNat, Int.reduceEq, List.getD_cons_zero, List.getD_cons_succ, Int.reduceLT, Int.reduceLE]
    exact hQ _ _ _ _ nofun rfl (by simp [tupOf, envOf, AV.strip, AV.strip1])
  simp (disch := first | omega | assumption) only [ir10, n1, n2, steps, mkArgs, pev, rev, oev, optr, ibin, sbin, bound, mmAll, mm2, mk, AV.cells, AV.boxable, AV.one, fillA, fillS, splice_cons, splice_succ, splice_zero, Nat.reduceEqDiff, reduceCtorEq, ↓reduceIte, Nat.reduceAdd, Int.reduceNeg, decide_true, decide_false, List.take_succ_cons, List.take_zero, List.drop_succ_cons, List.drop_zero, List.length_cons, List.length_nil, List.headD_cons, List.cons_append, List.nil_append, Option.map_some, Bool.not_true, Bool.not_false, Bool.false_eq_true, eq_self, List.replicate_zero, List.replicate_succ, List.set_cons_zero, List.set_cons_succ, Nat.lt_add_one, Nat.zero_lt_succ, Nat.le_refl, Nat.reduceLeDiff, Nat.reduceAdd, if_pos, upd_ne, List.getElem?_cons_succ, List.getElem?_cons_zero, Option.some.injEq, Int.cast_ofNat_Int, Int.reduceToNat, Int.reduceEq, List.getD_cons_zero, List.getD_cons_succ, Int.reduceLT, Int.reduceLE]
  refine goK_pure (lightC l hl) ?_
  by_cases n3 : lightN l 0 ≤ 200
  case neg =>
    simp (disch := first | omega | assumption) only [n3, steps, mkArgs, pev, rev, oev, optr, ibin, sbin, bound, mmAll, mm2, mk, AV.cells, AV.boxable, AV.one, fillA, fillS, splice_cons, splice_succ, splice_zero, Nat.reduceEqDiff, reduceCtorEq, ↓reduceIte, Nat.reduceAdd, Int.reduceNeg, decide_true, decide_false, List.take_succ_cons, List.take_zero, List.drop_succ_cons, List.drop_zero, List.length_cons, List.length_nil, List.headD_cons, List.cons_append, List.nil_append, Option.map_some, Bool.not_true, Bool.not_false, Bool.false_eq_true, eq_self, List.replicate_zero, List.replicate_succ, List.set_cons_zero, List.set_cons_succ, Nat.lt_add_one, Nat.zero_lt_succ, Nat.le_refl, Nat.reduceLeDiff, Nat.reduceAdd, if_pos, upd_ne, List.getElem?_cons_succ, List.getElem?_cons_zero, Option.some.injEq, Int.cast_ofNat_Int, Int.reduceToNat, Int.reduceEq, List.getD_cons_zero, List.getD_cons_succ, Int.reduceLT, Int.reduceLE]
    refine goK_pure awakeC ?_
    simp (disch := first | omega | assumption) only [steps, mkArgs, pev, rev, oev, optr, ibin, sbin, bound, mmAll, mm2, mk, AV.cells, AV.boxable, AV.one, fillA, fillS, splice_cons, splice_succ, splice_zero, Nat.reduceEqDiff, reduceCtorEq, ↓reduceIte, Nat.reduceAdd, Int.reduceNeg, decide_true, decide_false, List.take_succ_cons, List.take_zero, List.drop_succ_cons, List.drop_zero, List.length_cons, List.length_nil, List.headD_cons, List.cons_append, List.nil_append, Option.map_some, Bool.not_true, Bool.not_false, Bool.false_eq_true, eq_self, List.replicate_zero, List.replicate_succ, List.set_cons_zero, List.set_cons_succ, Nat.lt_add_one, Nat.zero_lt_succ, Nat.le_refl, Nat.reduceLeDiff, Nat.reduceAdd, if_pos, upd_ne, List.getElem?_cons_succ, List.getElem?_cons_zero, Option.some.injEq, Int.cast_ofNat_Int, Int.reduceToNat, Int.reduceEq, List.getD_cons_zero, List.getD_cons_succ, Int.reduceLT, Int.reduceLE]
    exact hQ _ _ _ _ nofun rfl (by simp [tupOf, envOf, AV.strip, AV.strip1])
  by_cases n4 : (60 : Int) < l.length
  · simp (disch := first | omega | assumption) only [n3, n4, hlen, steps, mkArgs, pev, rev, oev, optr, ibin, sbin, bound, mmAll, mm2, mk, AV.cells, AV.boxable, AV.one, fillA, fillS, splice_cons, splice_succ, splice_zero, Nat.reduceEqDiff, reduceCtorEq, ↓reduceIte, Nat.reduceAdd, Int.reduceNeg, decide_true, decide_false, List.take_succ_cons, List.take_zero, List.drop_succ_cons, List.drop_zero, List.length_cons, List.length_nil, List.headD_cons, List.cons_append, List.nil_append, Option.map_some, Bool.not_true, Bool.not_false, Bool.false_eq_true, eq_self, List.replicate_zero, List.replicate_succ, List.set_cons_zero, List.set_cons_succ, Nat.lt_add_one, Nat.zero_lt_succ, Nat.le_refl, Nat.reduceLeDiff, Nat.reduceAdd, if_pos, upd_ne, List.getElem?_cons_succ, List.getElem?_cons_zero, Option.some.injEq, Int.cast_ofNat_Int, Int.reduceToNat, Int.reduceEq, List.getD_cons_zero, List.getD_cons_succ, Int.reduceLT, Int.reduceLE]
    refine goK_pure awakeC ?_
    simp (disch := first | omega | assumption) only [steps, mkArgs, pev, rev, oev, optr, ibin, sbin, bound, mmAll, mm2, mk, AV.cells, AV.boxable, AV.one, fillA, fillS, splice_cons, splice_succ, splice_zero, Nat.reduceEqDiff, reduceCtorEq, ↓reduceIte, Nat.reduceAdd, Int.reduceNeg, decide_true, decide_false, List.take_succ_cons, List.take_zero, List.drop_succ_cons, List.drop_zero, List.length_cons, List.length_nil, List.headD_cons, List.cons_append, List.nil_append, Option.map_some, Bool.not_true, Bool.not_false, Bool.false_eq_true, eq_self, List.replicate_zero, List.replicate_succ, List.set_cons_zero, List.set_cons_succ, Nat.lt_add_one, Nat.zero_lt_succ, Nat.le_refl, Nat.reduceLeDiff, Nat.reduceAdd, if_pos, upd_ne, List.getElem?_cons_succ, List.getElem?_cons_zero, Option.some.injEq, Int.cast_ofNat_Int, Int.reduceToNat, Int.reduceEq, List.getD_cons_zero, List.getD_cons_succ, Int.reduceLT, Int.reduceLE]
    exact hQ _ _ _ _ nofun rfl (by simp [tupOf, envOf, AV.strip, AV.strip1])
  simp (disch := first | omega | assumption) only [n3, n4, hlen, steps, mkArgs, pev, rev, oev, optr, ibin, sbin, bound, mmAll, mm2, mk, AV.cells, AV.boxable, AV.one, fillA, fillS, splice_cons, splice_succ, splice_zero, Nat.reduceEqDiff, reduceCtorEq, ↓reduceIte, Nat.reduceAdd, Int.reduceNeg, decide_true, decide_false, List.take_succ_cons, List.take_zero, List.drop_succ_cons, List.drop_zero, List.length_cons, List.length_nil, List.headD_cons, List.cons_append, List.nil_append, Option.map_some, Bool.not_true, Bool.not_false, Bool.false_eq_true, eq_self, List.replicate_zero, List.replicate_succ, List.set_cons_zero, List.set_cons_succ, Nat.lt_add_one, Nat.zero_lt_succ, Nat.le_refl, Nat.reduceLeDiff, Nat.reduceAdd, if_pos, upd_ne, List.getElem?_cons_succ, List.getElem?_cons_zero, Option.some.injEq, Int.cast_ofNat_Int, Int.reduceToNat, Int.reduceEq, List.getD_cons_zero, List.getD_cons_succ, Int.reduceLT, Int.reduceLE]
  refine goK_ret (newC n (by omega) (by omega)) fun v H1 ⟨c, lw, hv, hc1, _, _, _⟩ => ?_
  subst hv
  simp (disch := first | omega | assumption) only [steps, mkArgs, pev, rev, oev, optr, ibin, sbin, bound, mmAll, mm2, mk, AV.cells, AV.boxable, AV.one, fillA, fillS, splice_cons, splice_succ, splice_zero, Nat.reduceEqDiff, reduceCtorEq, ↓reduceIte, Nat.reduceAdd, Int.reduceNeg, decide_true, decide_false, List.take_succ_cons, List.take_zero, List.drop_succ_cons, List.drop_zero, List.length_cons, List.length_nil, List.headD_cons, List.cons_append, List.nil_append, Option.map_some, Bool.not_true, Bool.not_false, Bool.false_eq_true, eq_self, List.replicate_zero, List.replicate_succ, List.set_cons_zero, List.set_cons_succ, Nat.lt_add_one, Nat.zero_lt_succ, Nat.le_refl, Nat.reduceLeDiff, Nat.reduceAdd, if_pos, upd_ne, List.getElem?_cons_succ, List.getElem?_cons_zero, Option.some.injEq, Int.cast_ofNat_Int, Int.reduceToNat, Int.reduceEq, List.getD_cons_zero, List.getD_cons_succ, Int.reduceLT, Int.reduceLE]
  refine goK_ret (layC hc1 l hsm (by simp; omega)) fun v H2 ⟨hv, ⟨o2, hc2⟩, _⟩ => ?_
  simp (disch := first | omega | assumption) only [steps, mkArgs, pev, rev, oev, optr, ibin, sbin, bound, mmAll, mm2, mk, AV.cells, AV.boxable, AV.one, fillA, fillS, splice_cons, splice_succ, splice_zero, Nat.reduceEqDiff, reduceCtorEq, ↓reduceIte, Nat.reduceAdd, Int.reduceNeg, decide_true, decide_false, List.take_succ_cons, List.take_zero, List.drop_succ_cons, List.drop_zero, List.length_cons, List.length_nil, List.headD_cons, List.cons_append, List.nil_append, Option.map_some, Bool.not_true, Bool.not_false, Bool.false_eq_true, eq_self, List.replicate_zero, List.replicate_succ, List.set_cons_zero, List.set_cons_succ, Nat.lt_add_one, Nat.zero_lt_succ, Nat.le_refl, Nat.reduceLeDiff, Nat.reduceAdd, if_pos, upd_ne, List.getElem?_cons_succ, List.getElem?_cons_zero, Option.some.injEq, Int.cast_ofNat_Int, Int.reduceToNat, Int.reduceEq, List.getD_cons_zero, List.getD_cons_succ, Int.reduceLT, Int.reduceLE]
  have hidle : CInv l (idle n.toNat) ([] ++ l) 0 0 0 := ⟨by simp, by omega, fun x hx => by simp [idle] at hx; simp [hx.2], by rw [cnt_zero fun x hx => by simp [idle] at hx; simp [hx.2]], by rw [cnt_zero fun x hx => by simp [idle] at hx; simp [hx.2]], fun x hx => by simp [idle] at hx; simp [hx.2, Batch.small]⟩
  refine goL_rule (fun N ρ H => ∃ ws q t r g o, CrewAt H c lw o ws q ∧ CInv l ws q t r g ∧ ws.length = n.toNat ∧ N = 3 * l.length - (t + r + g) ∧ ρ = envOf [(0, .int .i64 n), (1, .sl .no 2 (cBs l)), (2, .sl .no 1 (cI ps)), (7, .ptr c 0), (8, .int .i64 t), (9, .int .i64 r), (10, .int .i64 g), (11, .int .i64 (t + r + g : Nat))]) (3 * l.length) ⟨idle n.toNat, [] ++ l, 0, 0, 0, o2, hc2, hidle, by simp [idle], by omega, by simp (disch := first | omega | assumption) only [steps, mkArgs, pev, rev, oev, optr, ibin, sbin, bound, mmAll, mm2, mk, AV.cells, AV.boxable, AV.one, fillA, fillS, splice_cons, splice_succ, splice_zero, Nat.reduceEqDiff, reduceCtorEq, ↓reduceIte, Nat.reduceAdd, Int.reduceNeg, decide_true, decide_false, List.take_succ_cons, List.take_zero, List.drop_succ_cons, List.drop_zero, List.length_cons, List.length_nil, List.headD_cons, List.cons_append, List.nil_append, Option.map_some, Bool.not_true, Bool.not_false, Bool.false_eq_true, eq_self, List.replicate_zero, List.replicate_succ, List.set_cons_zero, List.set_cons_succ, Nat.lt_add_one, Nat.zero_lt_succ, Nat.le_refl, Nat.reduceLeDiff, Nat.reduceAdd, if_pos, upd_ne, List.getElem?_cons_succ, List.getElem?_cons_zero, Option.some.injEq, Int.cast_ofNat_Int, Int.reduceToNat, Int.reduceEq, List.getD_cons_zero, List.getD_cons_succ, Int.reduceLT, Int.reduceLE] <;> rfl⟩ ?_
  rintro N ρ H J ⟨ws, q, t, r, g, o, hc, hi, hwl, rfl, rfl⟩ hJ
  have hn16 : ws.length ≤ 16 := by omega
  have hbusy := busy_cnt ws hi.hst
  have hble := busy_le ws
  have hi1 := hi.hc1
  have hi2 := hi.hc2
  have hit := hi.ht
  by_cases hlt : ((t + r + g : Nat) : Int) < 3 * (l.length : Int)
  case neg =>
    have et : (t : Int) = l.length := by omega
    have er : (r : Int) = l.length := by omega
    have eg : (g : Int) = l.length := by omega
    simp (disch := first | omega | assumption) only [hlen, wrap64, hlt, et, er, eg, steps, mkArgs, pev, rev, oev, optr, ibin, sbin, bound, mmAll, mm2, mk, AV.cells, AV.boxable, AV.one, fillA, fillS, splice_cons, splice_succ, splice_zero, Nat.reduceEqDiff, reduceCtorEq, ↓reduceIte, Nat.reduceAdd, Int.reduceNeg, decide_true, decide_false, List.take_succ_cons, List.take_zero, List.drop_succ_cons, List.drop_zero, List.length_cons, List.length_nil, List.headD_cons, List.cons_append, List.nil_append, Option.map_some, Bool.not_true, Bool.not_false, Bool.false_eq_true, eq_self, List.replicate_zero, List.replicate_succ, List.set_cons_zero, List.set_cons_succ, Nat.lt_add_one, Nat.zero_lt_succ, Nat.le_refl, Nat.reduceLeDiff, Nat.reduceAdd, if_pos, upd_ne, List.getElem?_cons_succ, List.getElem?_cons_zero, Option.some.injEq, Int.cast_ofNat_Int, Int.reduceToNat, Int.reduceEq, List.getD_cons_zero, List.getD_cons_succ, Int.reduceLT, Int.reduceLE]
    have hq0 : q = [] := by rw [hi.hq]; exact List.drop_of_length_le (by omega)
    have hz := cnt_all hi.hst (by omega) (by omega)
    refine goK_ret (canAll hc hn16) fun v H3 ⟨hv, hH⟩ => ?_
    rw [hq0, cans_none hz] at hv
    subst hH; subst hv
    simp (disch := first | omega | assumption) only [cI, List.map_nil, Int.natCast_zero, steps, mkArgs, pev, rev, oev, optr, ibin, sbin, bound, mmAll, mm2, mk, AV.cells, AV.boxable, AV.one, fillA, fillS, splice_cons, splice_succ, splice_zero, Nat.reduceEqDiff, reduceCtorEq, ↓reduceIte, Nat.reduceAdd, Int.reduceNeg, decide_true, decide_false, List.take_succ_cons, List.take_zero, List.drop_succ_cons, List.drop_zero, List.length_cons, List.length_nil, List.headD_cons, List.cons_append, List.nil_append, Option.map_some, Bool.not_true, Bool.not_false, Bool.false_eq_true, eq_self, List.replicate_zero, List.replicate_succ, List.set_cons_zero, List.set_cons_succ, Nat.lt_add_one, Nat.zero_lt_succ, Nat.le_refl, Nat.reduceLeDiff, Nat.reduceAdd, if_pos, upd_ne, List.getElem?_cons_succ, List.getElem?_cons_zero, Option.some.injEq, Int.cast_ofNat_Int, Int.reduceToNat, Int.reduceEq, List.getD_cons_zero, List.getD_cons_succ, Int.reduceLT, Int.reduceLE]
    refine goK_ret (busyC hc hn16) fun v H3 ⟨hv, hH⟩ => ?_
    have hb0 : busyN ws = 0 := by omega
    rw [hb0] at hv
    subst hH; subst hv
    simp (disch := first | omega | assumption) only [Int.natCast_zero, steps, mkArgs, pev, rev, oev, optr, ibin, sbin, bound, mmAll, mm2, mk, AV.cells, AV.boxable, AV.one, fillA, fillS, splice_cons, splice_succ, splice_zero, Nat.reduceEqDiff, reduceCtorEq, ↓reduceIte, Nat.reduceAdd, Int.reduceNeg, decide_true, decide_false, List.take_succ_cons, List.take_zero, List.drop_succ_cons, List.drop_zero, List.length_cons, List.length_nil, List.headD_cons, List.cons_append, List.nil_append, Option.map_some, Bool.not_true, Bool.not_false, Bool.false_eq_true, eq_self, List.replicate_zero, List.replicate_succ, List.set_cons_zero, List.set_cons_succ, Nat.lt_add_one, Nat.zero_lt_succ, Nat.le_refl, Nat.reduceLeDiff, Nat.reduceAdd, if_pos, upd_ne, List.getElem?_cons_succ, List.getElem?_cons_zero, Option.some.injEq, Int.cast_ofNat_Int, Int.reduceToNat, Int.reduceEq, List.getD_cons_zero, List.getD_cons_succ, Int.reduceLT, Int.reduceLE]
    refine goK_pure awakeC ?_
    simp (disch := first | omega | assumption) only [steps, mkArgs, pev, rev, oev, optr, ibin, sbin, bound, mmAll, mm2, mk, AV.cells, AV.boxable, AV.one, fillA, fillS, splice_cons, splice_succ, splice_zero, Nat.reduceEqDiff, reduceCtorEq, ↓reduceIte, Nat.reduceAdd, Int.reduceNeg, decide_true, decide_false, List.take_succ_cons, List.take_zero, List.drop_succ_cons, List.drop_zero, List.length_cons, List.length_nil, List.headD_cons, List.cons_append, List.nil_append, Option.map_some, Bool.not_true, Bool.not_false, Bool.false_eq_true, eq_self, List.replicate_zero, List.replicate_succ, List.set_cons_zero, List.set_cons_succ, Nat.lt_add_one, Nat.zero_lt_succ, Nat.le_refl, Nat.reduceLeDiff, Nat.reduceAdd, if_pos, upd_ne, List.getElem?_cons_succ, List.getElem?_cons_zero, Option.some.injEq, Int.cast_ofNat_Int, Int.reduceToNat, Int.reduceEq, List.getD_cons_zero, List.getD_cons_succ, Int.reduceLT, Int.reduceLE]
    exact hQ _ _ _ _ nofun rfl (by simp [tupOf, envOf, AV.strip, AV.strip1])
  have hws : ws ≠ [] := fun e => by rw [e] at hwl; simp at hwl; omega
  have hne : cans ws q ws.length ≠ [] := fun e => by
    obtain ⟨hq0, hz⟩ := cans_nil hws e
    have h1 := cnt_zero (k := 1) (ws := ws) fun x hx => by rw [hz x hx]; decide
    have h2 := cnt_zero (k := 2) (ws := ws) fun x hx => by rw [hz x hx]; decide
    have := hi.hq
    rw [hq0] at this
    have h4 : l.length ≤ t := by have := congrArg List.length this; simp at this; omega
    omega
  simp (disch := first | omega | assumption) only [hlen, wrap64, hlt, steps, mkArgs, pev, rev, oev, optr, ibin, sbin, bound, mmAll, mm2, mk, AV.cells, AV.boxable, AV.one, fillA, fillS, splice_cons, splice_succ, splice_zero, Nat.reduceEqDiff, reduceCtorEq, ↓reduceIte, Nat.reduceAdd, Int.reduceNeg, decide_true, decide_false, List.take_succ_cons, List.take_zero, List.drop_succ_cons, List.drop_zero, List.length_cons, List.length_nil, List.headD_cons, List.cons_append, List.nil_append, Option.map_some, Bool.not_true, Bool.not_false, Bool.false_eq_true, eq_self, List.replicate_zero, List.replicate_succ, List.set_cons_zero, List.set_cons_succ, Nat.lt_add_one, Nat.zero_lt_succ, Nat.le_refl, Nat.reduceLeDiff, Nat.reduceAdd, if_pos, upd_ne, List.getElem?_cons_succ, List.getElem?_cons_zero, Option.some.injEq, Int.cast_ofNat_Int, Int.reduceToNat, Int.reduceEq, List.getD_cons_zero, List.getD_cons_succ, Int.reduceLT, Int.reduceLE]
  refine goK_ret (canAll hc hn16) fun v H3 ⟨hv, hH⟩ => ?_
  subst hH; subst hv
  generalize hC : cans ws q ws.length = C at *
  have hC0 : ¬ ((C.length : Int) = 0) := fun e => hne (List.eq_nil_of_length_eq_zero (by omega))
  have hCl := cI_length C
  have hCm : C.length ≤ 16 := by rw [← hC]; exact Nat.le_trans (cans_le _ _ _) hn16
  simp (disch := first | omega | assumption) only [hCl, hC0, steps, mkArgs, pev, rev, oev, optr, ibin, sbin, bound, mmAll, mm2, mk, AV.cells, AV.boxable, AV.one, fillA, fillS, splice_cons, splice_succ, splice_zero, Nat.reduceEqDiff, reduceCtorEq, ↓reduceIte, Nat.reduceAdd, Int.reduceNeg, decide_true, decide_false, List.take_succ_cons, List.take_zero, List.drop_succ_cons, List.drop_zero, List.length_cons, List.length_nil, List.headD_cons, List.cons_append, List.nil_append, Option.map_some, Bool.not_true, Bool.not_false, Bool.false_eq_true, eq_self, List.replicate_zero, List.replicate_succ, List.set_cons_zero, List.set_cons_succ, Nat.lt_add_one, Nat.zero_lt_succ, Nat.le_refl, Nat.reduceLeDiff, Nat.reduceAdd, if_pos, upd_ne, List.getElem?_cons_succ, List.getElem?_cons_zero, Option.some.injEq, Int.cast_ofNat_Int, Int.reduceToNat, Int.reduceEq, List.getD_cons_zero, List.getD_cons_succ, Int.reduceLT, Int.reduceLE]
  refine goK_ret (busyC hc hn16) fun v H3 ⟨hv, hH⟩ => ?_
  subst hH; subst hv
  have f1 : ¬ (n < (busyN ws : Int)) := by omega
  simp (disch := first | omega | assumption) only [f1, steps, mkArgs, pev, rev, oev, optr, ibin, sbin, bound, mmAll, mm2, mk, AV.cells, AV.boxable, AV.one, fillA, fillS, splice_cons, splice_succ, splice_zero, Nat.reduceEqDiff, reduceCtorEq, ↓reduceIte, Nat.reduceAdd, Int.reduceNeg, decide_true, decide_false, List.take_succ_cons, List.take_zero, List.drop_succ_cons, List.drop_zero, List.length_cons, List.length_nil, List.headD_cons, List.cons_append, List.nil_append, Option.map_some, Bool.not_true, Bool.not_false, Bool.false_eq_true, eq_self, List.replicate_zero, List.replicate_succ, List.set_cons_zero, List.set_cons_succ, Nat.lt_add_one, Nat.zero_lt_succ, Nat.le_refl, Nat.reduceLeDiff, Nat.reduceAdd, if_pos, upd_ne, List.getElem?_cons_succ, List.getElem?_cons_zero, Option.some.injEq, Int.cast_ofNat_Int, Int.reduceToNat, Int.reduceEq, List.getD_cons_zero, List.getD_cons_succ, Int.reduceLT, Int.reduceLE]
  refine goK_ret (waitsC hc) fun v H3 ⟨hv, hH⟩ => ?_
  subst hH; subst hv
  have f2 : (q.length : Int) = (l.length : Int) - (t : Int) := by rw [hi.hq]; simp; omega
  simp (disch := first | omega | assumption) only [hlen, wrap64, f2, ne_eq, not_true_eq_false, steps, mkArgs, pev, rev, oev, optr, ibin, sbin, bound, mmAll, mm2, mk, AV.cells, AV.boxable, AV.one, fillA, fillS, splice_cons, splice_succ, splice_zero, Nat.reduceEqDiff, reduceCtorEq, ↓reduceIte, Nat.reduceAdd, Int.reduceNeg, decide_true, decide_false, List.take_succ_cons, List.take_zero, List.drop_succ_cons, List.drop_zero, List.length_cons, List.length_nil, List.headD_cons, List.cons_append, List.nil_append, Option.map_some, Bool.not_true, Bool.not_false, Bool.false_eq_true, eq_self, List.replicate_zero, List.replicate_succ, List.set_cons_zero, List.set_cons_succ, Nat.lt_add_one, Nat.zero_lt_succ, Nat.le_refl, Nat.reduceLeDiff, Nat.reduceAdd, if_pos, upd_ne, List.getElem?_cons_succ, List.getElem?_cons_zero, Option.some.injEq, Int.cast_ofNat_Int, Int.reduceToNat, Int.reduceEq, List.getD_cons_zero, List.getD_cons_succ, Int.reduceLT, Int.reduceLE]
  refine goK_ret (busyC hc hn16) fun v H3 ⟨hv, hH⟩ => ?_
  subst hH; subst hv
  have f3 : (busyN ws : Int) = (t : Int) - (g : Int) := by omega
  simp (disch := first | omega | assumption) only [wrap64, f3, ne_eq, not_true_eq_false, steps, mkArgs, pev, rev, oev, optr, ibin, sbin, bound, mmAll, mm2, mk, AV.cells, AV.boxable, AV.one, fillA, fillS, splice_cons, splice_succ, splice_zero, Nat.reduceEqDiff, reduceCtorEq, ↓reduceIte, Nat.reduceAdd, Int.reduceNeg, decide_true, decide_false, List.take_succ_cons, List.take_zero, List.drop_succ_cons, List.drop_zero, List.length_cons, List.length_nil, List.headD_cons, List.cons_append, List.nil_append, Option.map_some, Bool.not_true, Bool.not_false, Bool.false_eq_true, eq_self, List.replicate_zero, List.replicate_succ, List.set_cons_zero, List.set_cons_succ, Nat.lt_add_one, Nat.zero_lt_succ, Nat.le_refl, Nat.reduceLeDiff, Nat.reduceAdd, if_pos, upd_ne, List.getElem?_cons_succ, List.getElem?_cons_zero, Option.some.injEq, Int.cast_ofNat_Int, Int.reduceToNat, Int.reduceEq, List.getD_cons_zero, List.getD_cons_succ, Int.reduceLT, Int.reduceLE]
  have hwi := fun p => cans_can (by rw [hC]; exact turnP_mem p C hne : turnP p C ∈ cans ws q ws.length)
  by_cases hpi : ((t + r + g : Nat) : Int) < (ps.length : Int)
  · have hpg : (cI ps).getD (t + r + g) [] = [.int .i64 (ps.getD (t + r + g) 0)] := by
      have : t + r + g < ps.length := by omega
      simp [cI, this]
    simp (disch := first | omega | assumption) only [hplen, hpi, Int.toNat_natCast, hpg, steps, mkArgs, pev, rev, oev, optr, ibin, sbin, bound, mmAll, mm2, mk, AV.cells, AV.boxable, AV.one, fillA, fillS, splice_cons, splice_succ, splice_zero, Nat.reduceEqDiff, reduceCtorEq, ↓reduceIte, Nat.reduceAdd, Int.reduceNeg, decide_true, decide_false, List.take_succ_cons, List.take_zero, List.drop_succ_cons, List.drop_zero, List.length_cons, List.length_nil, List.headD_cons, List.cons_append, List.nil_append, Option.map_some, Bool.not_true, Bool.not_false, Bool.false_eq_true, eq_self, List.replicate_zero, List.replicate_succ, List.set_cons_zero, List.set_cons_succ, Nat.lt_add_one, Nat.zero_lt_succ, Nat.le_refl, Nat.reduceLeDiff, Nat.reduceAdd, if_pos, upd_ne, List.getElem?_cons_succ, List.getElem?_cons_zero, Option.some.injEq, Int.cast_ofNat_Int, Int.reduceToNat, Int.reduceEq, List.getD_cons_zero, List.getD_cons_succ, Int.reduceLT, Int.reduceLE]
    refine goK_pure (turnC (ps.getD (t + r + g) 0) C (by omega)) ?_
    have hw := hwi (ps.getD (t + r + g) 0)
    generalize hpp : turnP (ps.getD (t + r + g) 0) C = w at *
    obtain ⟨hsl, hcase⟩ := step_inv hsm hi hw
    have hst2 : ∀ x ∈ ws, 0 ≤ x.1 ∧ x.1 ≤ 2 := fun x hx => by rcases hi.hst x hx with e | e | e <;> rw [e] <;> decide
    have hsq : ∀ x ∈ q, x.small := fun x hx => hsm x (by rw [hi.hq] at hx; exact List.mem_of_mem_drop hx)
    simp (disch := first | omega | assumption) only [steps, mkArgs, pev, rev, oev, optr, ibin, sbin, bound, mmAll, mm2, mk, AV.cells, AV.boxable, AV.one, fillA, fillS, splice_cons, splice_succ, splice_zero, Nat.reduceEqDiff, reduceCtorEq, ↓reduceIte, Nat.reduceAdd, Int.reduceNeg, decide_true, decide_false, List.take_succ_cons, List.take_zero, List.drop_succ_cons, List.drop_zero, List.length_cons, List.length_nil, List.headD_cons, List.cons_append, List.nil_append, Option.map_some, Bool.not_true, Bool.not_false, Bool.false_eq_true, eq_self, List.replicate_zero, List.replicate_succ, List.set_cons_zero, List.set_cons_succ, Nat.lt_add_one, Nat.zero_lt_succ, Nat.le_refl, Nat.reduceLeDiff, Nat.reduceAdd, if_pos, upd_ne, List.getElem?_cons_succ, List.getElem?_cons_zero, Option.some.injEq, Int.cast_ofNat_Int, Int.reduceToNat, Int.reduceEq, List.getD_cons_zero, List.getD_cons_succ, Int.reduceLT, Int.reduceLE]
    refine goK_ret (stepC hc w hn16 hst2 ⟨hi.hsm, hsq⟩) fun v H4 ⟨hv, ⟨o4, hc4⟩, _⟩ => ?_
    rcases hcase with ⟨e1, ⟨htl, e2⟩, hi'⟩ | ⟨e1, hi'⟩ | ⟨e1, hi'⟩
    · rw [e1, e2] at hv
      subst hv
      simp (disch := first | omega | assumption) only [cB, steps, mkArgs, pev, rev, oev, optr, ibin, sbin, bound, mmAll, mm2, mk, AV.cells, AV.boxable, AV.one, fillA, fillS, splice_cons, splice_succ, splice_zero, Nat.reduceEqDiff, reduceCtorEq, ↓reduceIte, Nat.reduceAdd, Int.reduceNeg, decide_true, decide_false, List.take_succ_cons, List.take_zero, List.drop_succ_cons, List.drop_zero, List.length_cons, List.length_nil, List.headD_cons, List.cons_append, List.nil_append, Option.map_some, Bool.not_true, Bool.not_false, Bool.false_eq_true, eq_self, List.replicate_zero, List.replicate_succ, List.set_cons_zero, List.set_cons_succ, Nat.lt_add_one, Nat.zero_lt_succ, Nat.le_refl, Nat.reduceLeDiff, Nat.reduceAdd, if_pos, upd_ne, List.getElem?_cons_succ, List.getElem?_cons_zero, Option.some.injEq, Int.cast_ofNat_Int, Int.reduceToNat, Int.reduceEq, List.getD_cons_zero, List.getD_cons_succ, Int.reduceLT, Int.reduceLE]
      refine goA_intro fun b1 hb1 => ?_
      have f4 : ¬ ((l.length : Int) ≤ t) := by omega
      have hg : (cBs l).getD t [] = cB l[t] := by simp [cBs, htl]
      simp (disch := first | omega | assumption) only [f4, hlen, Int.toNat_natCast, hg, cB, steps, mkArgs, pev, rev, oev, optr, ibin, sbin, bound, mmAll, mm2, mk, AV.cells, AV.boxable, AV.one, fillA, fillS, splice_cons, splice_succ, splice_zero, Nat.reduceEqDiff, reduceCtorEq, ↓reduceIte, Nat.reduceAdd, Int.reduceNeg, decide_true, decide_false, List.take_succ_cons, List.take_zero, List.drop_succ_cons, List.drop_zero, List.length_cons, List.length_nil, List.headD_cons, List.cons_append, List.nil_append, Option.map_some, Bool.not_true, Bool.not_false, Bool.false_eq_true, eq_self, List.replicate_zero, List.replicate_succ, List.set_cons_zero, List.set_cons_succ, Nat.lt_add_one, Nat.zero_lt_succ, Nat.le_refl, Nat.reduceLeDiff, Nat.reduceAdd, if_pos, upd_ne, List.getElem?_cons_succ, List.getElem?_cons_zero, Option.some.injEq, Int.cast_ofNat_Int, Int.reduceToNat, Int.reduceEq, List.getD_cons_zero, List.getD_cons_succ, Int.reduceLT, Int.reduceLE]
      refine goK_pure (sameC l[t] l[t] ?_ ?_) ?_
      · have := hsm _ (List.getElem_mem htl); simp only [Batch.small] at this; omega
      · have := hsm _ (List.getElem_mem htl); simp only [Batch.small] at this; omega
      have g1 := hi'.hc1
      have g2 := hi'.hc2
      have f5 : ¬ ((t : Int) + 1 < r) := by omega
      have f6 : ¬ ((r : Int) < g) := by omega
      simp (disch := first | omega | assumption) only [wrap64, f5, f6, steps, mkArgs, pev, rev, oev, optr, ibin, sbin, bound, mmAll, mm2, mk, AV.cells, AV.boxable, AV.one, fillA, fillS, splice_cons, splice_succ, splice_zero, Nat.reduceEqDiff, reduceCtorEq, ↓reduceIte, Nat.reduceAdd, Int.reduceNeg, decide_true, decide_false, List.take_succ_cons, List.take_zero, List.drop_succ_cons, List.drop_zero, List.length_cons, List.length_nil, List.headD_cons, List.cons_append, List.nil_append, Option.map_some, Bool.not_true, Bool.not_false, Bool.false_eq_true, eq_self, List.replicate_zero, List.replicate_succ, List.set_cons_zero, List.set_cons_succ, Nat.lt_add_one, Nat.zero_lt_succ, Nat.le_refl, Nat.reduceLeDiff, Nat.reduceAdd, if_pos, upd_ne, List.getElem?_cons_succ, List.getElem?_cons_zero, Option.some.injEq, Int.cast_ofNat_Int, Int.reduceToNat, Int.reduceEq, List.getD_cons_zero, List.getD_cons_succ, Int.reduceLT, Int.reduceLE]
      refine hJ (3 * l.length - (t + 1 + r + g)) _ _ (by omega) ⟨_, _, t + 1, r, g, o4, hc4.sub (sub_upd (sub_refl _) hb1), hi', by rw [hsl, hwl], by omega, ?_⟩
      simp only [Int.natCast_add, Int.natCast_one, Int.cast_ofNat_Int, Int.add_assoc, Int.add_comm, Int.add_left_comm]
    · rw [e1] at hv
      subst hv
      simp (disch := first | omega | assumption) only [cB, steps, mkArgs, pev, rev, oev, optr, ibin, sbin, bound, mmAll, mm2, mk, AV.cells, AV.boxable, AV.one, fillA, fillS, splice_cons, splice_succ, splice_zero, Nat.reduceEqDiff, reduceCtorEq, ↓reduceIte, Nat.reduceAdd, Int.reduceNeg, decide_true, decide_false, List.take_succ_cons, List.take_zero, List.drop_succ_cons, List.drop_zero, List.length_cons, List.length_nil, List.headD_cons, List.cons_append, List.nil_append, Option.map_some, Bool.not_true, Bool.not_false, Bool.false_eq_true, eq_self, List.replicate_zero, List.replicate_succ, List.set_cons_zero, List.set_cons_succ, Nat.lt_add_one, Nat.zero_lt_succ, Nat.le_refl, Nat.reduceLeDiff, Nat.reduceAdd, if_pos, upd_ne, List.getElem?_cons_succ, List.getElem?_cons_zero, Option.some.injEq, Int.cast_ofNat_Int, Int.reduceToNat, Int.reduceEq, List.getD_cons_zero, List.getD_cons_succ, Int.reduceLT, Int.reduceLE]
      refine goA_intro fun b1 hb1 => ?_
      have g1 := hi'.hc1
      have g2 := hi'.hc2
      have f5 : ¬ ((t : Int) < (r : Int) + 1) := by omega
      have f6 : ¬ ((r : Int) + 1 < g) := by omega
      simp (disch := first | omega | assumption) only [wrap64, f5, f6, steps, mkArgs, pev, rev, oev, optr, ibin, sbin, bound, mmAll, mm2, mk, AV.cells, AV.boxable, AV.one, fillA, fillS, splice_cons, splice_succ, splice_zero, Nat.reduceEqDiff, reduceCtorEq, ↓reduceIte, Nat.reduceAdd, Int.reduceNeg, decide_true, decide_false, List.take_succ_cons, List.take_zero, List.drop_succ_cons, List.drop_zero, List.length_cons, List.length_nil, List.headD_cons, List.cons_append, List.nil_append, Option.map_some, Bool.not_true, Bool.not_false, Bool.false_eq_true, eq_self, List.replicate_zero, List.replicate_succ, List.set_cons_zero, List.set_cons_succ, Nat.lt_add_one, Nat.zero_lt_succ, Nat.le_refl, Nat.reduceLeDiff, Nat.reduceAdd, if_pos, upd_ne, List.getElem?_cons_succ, List.getElem?_cons_zero, Option.some.injEq, Int.cast_ofNat_Int, Int.reduceToNat, Int.reduceEq, List.getD_cons_zero, List.getD_cons_succ, Int.reduceLT, Int.reduceLE]
      refine hJ (3 * l.length - (t + (r + 1) + g)) _ _ (by omega) ⟨_, _, t, r + 1, g, o4, hc4.sub (sub_upd (sub_refl _) hb1), hi', by rw [hsl, hwl], by omega, ?_⟩
      simp only [Int.natCast_add, Int.natCast_one, Int.cast_ofNat_Int, Int.add_assoc, Int.add_comm, Int.add_left_comm]
    · rw [e1] at hv
      subst hv
      simp (disch := first | omega | assumption) only [cB, steps, mkArgs, pev, rev, oev, optr, ibin, sbin, bound, mmAll, mm2, mk, AV.cells, AV.boxable, AV.one, fillA, fillS, splice_cons, splice_succ, splice_zero, Nat.reduceEqDiff, reduceCtorEq, ↓reduceIte, Nat.reduceAdd, Int.reduceNeg, decide_true, decide_false, List.take_succ_cons, List.take_zero, List.drop_succ_cons, List.drop_zero, List.length_cons, List.length_nil, List.headD_cons, List.cons_append, List.nil_append, Option.map_some, Bool.not_true, Bool.not_false, Bool.false_eq_true, eq_self, List.replicate_zero, List.replicate_succ, List.set_cons_zero, List.set_cons_succ, Nat.lt_add_one, Nat.zero_lt_succ, Nat.le_refl, Nat.reduceLeDiff, Nat.reduceAdd, if_pos, upd_ne, List.getElem?_cons_succ, List.getElem?_cons_zero, Option.some.injEq, Int.cast_ofNat_Int, Int.reduceToNat, Int.reduceEq, List.getD_cons_zero, List.getD_cons_succ, Int.reduceLT, Int.reduceLE]
      refine goA_intro fun b1 hb1 => ?_
      have g1 := hi'.hc1
      have g2 := hi'.hc2
      have f5 : ¬ ((t : Int) < (r : Int)) := by omega
      have f6 : ¬ ((r : Int) < (g : Int) + 1) := by omega
      simp (disch := first | omega | assumption) only [wrap64, f5, f6, steps, mkArgs, pev, rev, oev, optr, ibin, sbin, bound, mmAll, mm2, mk, AV.cells, AV.boxable, AV.one, fillA, fillS, splice_cons, splice_succ, splice_zero, Nat.reduceEqDiff, reduceCtorEq, ↓reduceIte, Nat.reduceAdd, Int.reduceNeg, decide_true, decide_false, List.take_succ_cons, List.take_zero, List.drop_succ_cons, List.drop_zero, List.length_cons, List.length_nil, List.headD_cons, List.cons_append, List.nil_append, Option.map_some, Bool.not_true, Bool.not_false, Bool.false_eq_true, eq_self, List.replicate_zero, List.replicate_succ, List.set_cons_zero, List.set_cons_succ, Nat.lt_add_one, Nat.zero_lt_succ, Nat.le_refl, Nat.reduceLeDiff, Nat.reduceAdd, if_pos, upd_ne, List.getElem?_cons_succ, List.getElem?_cons_zero, Option.some.injEq, Int.cast_ofNat_Int, Int.reduceToNat, Int.reduceEq, List.getD_cons_zero, List.getD_cons_succ, Int.reduceLT, Int.reduceLE]
      refine hJ (3 * l.length - (t + r + (g + 1))) _ _ (by omega) ⟨_, _, t, r, g + 1, o4, hc4.sub (sub_upd (sub_refl _) hb1), hi', by rw [hsl, hwl], by omega, ?_⟩
      simp only [Int.natCast_add, Int.natCast_one, Int.cast_ofNat_Int, Int.add_assoc, Int.add_comm, Int.add_left_comm]
  · simp (disch := first | omega | assumption) only [hplen, hpi, steps, mkArgs, pev, rev, oev, optr, ibin, sbin, bound, mmAll, mm2, mk, AV.cells, AV.boxable, AV.one, fillA, fillS, splice_cons, splice_succ, splice_zero, Nat.reduceEqDiff, reduceCtorEq, ↓reduceIte, Nat.reduceAdd, Int.reduceNeg, decide_true, decide_false, List.take_succ_cons, List.take_zero, List.drop_succ_cons, List.drop_zero, List.length_cons, List.length_nil, List.headD_cons, List.cons_append, List.nil_append, Option.map_some, Bool.not_true, Bool.not_false, Bool.false_eq_true, eq_self, List.replicate_zero, List.replicate_succ, List.set_cons_zero, List.set_cons_succ, Nat.lt_add_one, Nat.zero_lt_succ, Nat.le_refl, Nat.reduceLeDiff, Nat.reduceAdd, if_pos, upd_ne, List.getElem?_cons_succ, List.getElem?_cons_zero, Option.some.injEq, Int.cast_ofNat_Int, Int.reduceToNat, Int.reduceEq, List.getD_cons_zero, List.getD_cons_succ, Int.reduceLT, Int.reduceLE]
    refine goK_pure (turnC (-1) C (by omega)) ?_
    have hw := hwi (-1)
    generalize hpp : turnP (-1) C = w at *
    obtain ⟨hsl, hcase⟩ := step_inv hsm hi hw
    have hst2 : ∀ x ∈ ws, 0 ≤ x.1 ∧ x.1 ≤ 2 := fun x hx => by rcases hi.hst x hx with e | e | e <;> rw [e] <;> decide
    have hsq : ∀ x ∈ q, x.small := fun x hx => hsm x (by rw [hi.hq] at hx; exact List.mem_of_mem_drop hx)
    simp (disch := first | omega | assumption) only [steps, mkArgs, pev, rev, oev, optr, ibin, sbin, bound, mmAll, mm2, mk, AV.cells, AV.boxable, AV.one, fillA, fillS, splice_cons, splice_succ, splice_zero, Nat.reduceEqDiff, reduceCtorEq, ↓reduceIte, Nat.reduceAdd, Int.reduceNeg, decide_true, decide_false, List.take_succ_cons, List.take_zero, List.drop_succ_cons, List.drop_zero, List.length_cons, List.length_nil, List.headD_cons, List.cons_append, List.nil_append, Option.map_some, Bool.not_true, Bool.not_false, Bool.false_eq_true, eq_self, List.replicate_zero, List.replicate_succ, List.set_cons_zero, List.set_cons_succ, Nat.lt_add_one, Nat.zero_lt_succ, Nat.le_refl, Nat.reduceLeDiff, Nat.reduceAdd, if_pos, upd_ne, List.getElem?_cons_succ, List.getElem?_cons_zero, Option.some.injEq, Int.cast_ofNat_Int, Int.reduceToNat, Int.reduceEq, List.getD_cons_zero, List.getD_cons_succ, Int.reduceLT, Int.reduceLE]
    refine goK_ret (stepC hc w hn16 hst2 ⟨hi.hsm, hsq⟩) fun v H4 ⟨hv, ⟨o4, hc4⟩, _⟩ => ?_
    rcases hcase with ⟨e1, ⟨htl, e2⟩, hi'⟩ | ⟨e1, hi'⟩ | ⟨e1, hi'⟩
    · rw [e1, e2] at hv
      subst hv
      simp (disch := first | omega | assumption) only [cB, steps, mkArgs, pev, rev, oev, optr, ibin, sbin, bound, mmAll, mm2, mk, AV.cells, AV.boxable, AV.one, fillA, fillS, splice_cons, splice_succ, splice_zero, Nat.reduceEqDiff, reduceCtorEq, ↓reduceIte, Nat.reduceAdd, Int.reduceNeg, decide_true, decide_false, List.take_succ_cons, List.take_zero, List.drop_succ_cons, List.drop_zero, List.length_cons, List.length_nil, List.headD_cons, List.cons_append, List.nil_append, Option.map_some, Bool.not_true, Bool.not_false, Bool.false_eq_true, eq_self, List.replicate_zero, List.replicate_succ, List.set_cons_zero, List.set_cons_succ, Nat.lt_add_one, Nat.zero_lt_succ, Nat.le_refl, Nat.reduceLeDiff, Nat.reduceAdd, if_pos, upd_ne, List.getElem?_cons_succ, List.getElem?_cons_zero, Option.some.injEq, Int.cast_ofNat_Int, Int.reduceToNat, Int.reduceEq, List.getD_cons_zero, List.getD_cons_succ, Int.reduceLT, Int.reduceLE]
      refine goA_intro fun b1 hb1 => ?_
      have f4 : ¬ ((l.length : Int) ≤ t) := by omega
      have hg : (cBs l).getD t [] = cB l[t] := by simp [cBs, htl]
      simp (disch := first | omega | assumption) only [f4, hlen, Int.toNat_natCast, hg, cB, steps, mkArgs, pev, rev, oev, optr, ibin, sbin, bound, mmAll, mm2, mk, AV.cells, AV.boxable, AV.one, fillA, fillS, splice_cons, splice_succ, splice_zero, Nat.reduceEqDiff, reduceCtorEq, ↓reduceIte, Nat.reduceAdd, Int.reduceNeg, decide_true, decide_false, List.take_succ_cons, List.take_zero, List.drop_succ_cons, List.drop_zero, List.length_cons, List.length_nil, List.headD_cons, List.cons_append, List.nil_append, Option.map_some, Bool.not_true, Bool.not_false, Bool.false_eq_true, eq_self, List.replicate_zero, List.replicate_succ, List.set_cons_zero, List.set_cons_succ, Nat.lt_add_one, Nat.zero_lt_succ, Nat.le_refl, Nat.reduceLeDiff, Nat.reduceAdd, if_pos, upd_ne, List.getElem?_cons_succ, List.getElem?_cons_zero, Option.some.injEq, Int.cast_ofNat_Int, Int.reduceToNat, Int.reduceEq, List.getD_cons_zero, List.getD_cons_succ, Int.reduceLT, Int.reduceLE]
      refine goK_pure (sameC l[t] l[t] ?_ ?_) ?_
      · have := hsm _ (List.getElem_mem htl); simp only [Batch.small] at this; omega
      · have := hsm _ (List.getElem_mem htl); simp only [Batch.small] at this; omega
      have g1 := hi'.hc1
      have g2 := hi'.hc2
      have f5 : ¬ ((t : Int) + 1 < r) := by omega
      have f6 : ¬ ((r : Int) < g) := by omega
      simp (disch := first | omega | assumption) only [wrap64, f5, f6, steps, mkArgs, pev, rev, oev, optr, ibin, sbin, bound, mmAll, mm2, mk, AV.cells, AV.boxable, AV.one, fillA, fillS, splice_cons, splice_succ, splice_zero, Nat.reduceEqDiff, reduceCtorEq, ↓reduceIte, Nat.reduceAdd, Int.reduceNeg, decide_true, decide_false, List.take_succ_cons, List.take_zero, List.drop_succ_cons, List.drop_zero, List.length_cons, List.length_nil, List.headD_cons, List.cons_append, List.nil_append, Option.map_some, Bool.not_true, Bool.not_false, Bool.false_eq_true, eq_self, List.replicate_zero, List.replicate_succ, List.set_cons_zero, List.set_cons_succ, Nat.lt_add_one, Nat.zero_lt_succ, Nat.le_refl, Nat.reduceLeDiff, Nat.reduceAdd, if_pos, upd_ne, List.getElem?_cons_succ, List.getElem?_cons_zero, Option.some.injEq, Int.cast_ofNat_Int, Int.reduceToNat, Int.reduceEq, List.getD_cons_zero, List.getD_cons_succ, Int.reduceLT, Int.reduceLE]
      refine hJ (3 * l.length - (t + 1 + r + g)) _ _ (by omega) ⟨_, _, t + 1, r, g, o4, hc4.sub (sub_upd (sub_refl _) hb1), hi', by rw [hsl, hwl], by omega, ?_⟩
      simp only [Int.natCast_add, Int.natCast_one, Int.cast_ofNat_Int, Int.add_assoc, Int.add_comm, Int.add_left_comm]
    · rw [e1] at hv
      subst hv
      simp (disch := first | omega | assumption) only [cB, steps, mkArgs, pev, rev, oev, optr, ibin, sbin, bound, mmAll, mm2, mk, AV.cells, AV.boxable, AV.one, fillA, fillS, splice_cons, splice_succ, splice_zero, Nat.reduceEqDiff, reduceCtorEq, ↓reduceIte, Nat.reduceAdd, Int.reduceNeg, decide_true, decide_false, List.take_succ_cons, List.take_zero, List.drop_succ_cons, List.drop_zero, List.length_cons, List.length_nil, List.headD_cons, List.cons_append, List.nil_append, Option.map_some, Bool.not_true, Bool.not_false, Bool.false_eq_true, eq_self, List.replicate_zero, List.replicate_succ, List.set_cons_zero, List.set_cons_succ, Nat.lt_add_one, Nat.zero_lt_succ, Nat.le_refl, Nat.reduceLeDiff, Nat.reduceAdd, if_pos, upd_ne, List.getElem?_cons_succ, List.getElem?_cons_zero, Option.some.injEq, Int.cast_ofNat_Int, Int.reduceToNat, Int.reduceEq, List.getD_cons_zero, List.getD_cons_succ, Int.reduceLT, Int.reduceLE]
      refine goA_intro fun b1 hb1 => ?_
      have g1 := hi'.hc1
      have g2 := hi'.hc2
      have f5 : ¬ ((t : Int) < (r : Int) + 1) := by omega
      have f6 : ¬ ((r : Int) + 1 < g) := by omega
      simp (disch := first | omega | assumption) only [wrap64, f5, f6, steps, mkArgs, pev, rev, oev, optr, ibin, sbin, bound, mmAll, mm2, mk, AV.cells, AV.boxable, AV.one, fillA, fillS, splice_cons, splice_succ, splice_zero, Nat.reduceEqDiff, reduceCtorEq, ↓reduceIte, Nat.reduceAdd, Int.reduceNeg, decide_true, decide_false, List.take_succ_cons, List.take_zero, List.drop_succ_cons, List.drop_zero, List.length_cons, List.length_nil, List.headD_cons, List.cons_append, List.nil_append, Option.map_some, Bool.not_true, Bool.not_false, Bool.false_eq_true, eq_self, List.replicate_zero, List.replicate_succ, List.set_cons_zero, List.set_cons_succ, Nat.lt_add_one, Nat.zero_lt_succ, Nat.le_refl, Nat.reduceLeDiff, Nat.reduceAdd, if_pos, upd_ne, List.getElem?_cons_succ, List.getElem?_cons_zero, Option.some.injEq, Int.cast_ofNat_Int, Int.reduceToNat, Int.reduceEq, List.getD_cons_zero, List.getD_cons_succ, Int.reduceLT, Int.reduceLE]
      refine hJ (3 * l.length - (t + (r + 1) + g)) _ _ (by omega) ⟨_, _, t, r + 1, g, o4, hc4.sub (sub_upd (sub_refl _) hb1), hi', by rw [hsl, hwl], by omega, ?_⟩
      simp only [Int.natCast_add, Int.natCast_one, Int.cast_ofNat_Int, Int.add_assoc, Int.add_comm, Int.add_left_comm]
    · rw [e1] at hv
      subst hv
      simp (disch := first | omega | assumption) only [cB, steps, mkArgs, pev, rev, oev, optr, ibin, sbin, bound, mmAll, mm2, mk, AV.cells, AV.boxable, AV.one, fillA, fillS, splice_cons, splice_succ, splice_zero, Nat.reduceEqDiff, reduceCtorEq, ↓reduceIte, Nat.reduceAdd, Int.reduceNeg, decide_true, decide_false, List.take_succ_cons, List.take_zero, List.drop_succ_cons, List.drop_zero, List.length_cons, List.length_nil, List.headD_cons, List.cons_append, List.nil_append, Option.map_some, Bool.not_true, Bool.not_false, Bool.false_eq_true, eq_self, List.replicate_zero, List.replicate_succ, List.set_cons_zero, List.set_cons_succ, Nat.lt_add_one, Nat.zero_lt_succ, Nat.le_refl, Nat.reduceLeDiff, Nat.reduceAdd, if_pos, upd_ne, List.getElem?_cons_succ, List.getElem?_cons_zero, Option.some.injEq, Int.cast_ofNat_Int, Int.reduceToNat, Int.reduceEq, List.getD_cons_zero, List.getD_cons_succ, Int.reduceLT, Int.reduceLE]
      refine goA_intro fun b1 hb1 => ?_
      have g1 := hi'.hc1
      have g2 := hi'.hc2
      have f5 : ¬ ((t : Int) < (r : Int)) := by omega
      have f6 : ¬ ((r : Int) < (g : Int) + 1) := by omega
      simp (disch := first | omega | assumption) only [wrap64, f5, f6, steps, mkArgs, pev, rev, oev, optr, ibin, sbin, bound, mmAll, mm2, mk, AV.cells, AV.boxable, AV.one, fillA, fillS, splice_cons, splice_succ, splice_zero, Nat.reduceEqDiff, reduceCtorEq, ↓reduceIte, Nat.reduceAdd, Int.reduceNeg, decide_true, decide_false, List.take_succ_cons, List.take_zero, List.drop_succ_cons, List.drop_zero, List.length_cons, List.length_nil, List.headD_cons, List.cons_append, List.nil_append, Option.map_some, Bool.not_true, Bool.not_false, Bool.false_eq_true, eq_self, List.replicate_zero, List.replicate_succ, List.set_cons_zero, List.set_cons_succ, Nat.lt_add_one, Nat.zero_lt_succ, Nat.le_refl, Nat.reduceLeDiff, Nat.reduceAdd, if_pos, upd_ne, List.getElem?_cons_succ, List.getElem?_cons_zero, Option.some.injEq, Int.cast_ofNat_Int, Int.reduceToNat, Int.reduceEq, List.getD_cons_zero, List.getD_cons_succ, Int.reduceLT, Int.reduceLE]
      refine hJ (3 * l.length - (t + r + (g + 1))) _ _ (by omega) ⟨_, _, t, r, g + 1, o4, hc4.sub (sub_upd (sub_refl _) hb1), hi', by rw [hsl, hwl], by omega, ?_⟩
      simp only [Int.natCast_add, Int.natCast_one, Int.cast_ofNat_Int, Int.add_assoc, Int.add_comm, Int.add_left_comm]
end Go.Proofs.Ythkpgjnibolnhaa
