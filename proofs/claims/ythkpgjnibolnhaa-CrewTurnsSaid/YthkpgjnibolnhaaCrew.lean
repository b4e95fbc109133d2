/- crew, its document's answer, and the statements of chapter 31: what each function computes. -/
import Derived.Test.YthkpgjnibolnhaaIr
import Derived.Test.YthkpgjnibolnhaaAbsN
set_option maxRecDepth 100000
set_option linter.unusedSimpArgs false
set_option linter.unusedVariables false
namespace Go.Proofs.Ythkpgjnibolnhaa
open Go.Ab

theorem mid {α : Type} (f : α → List AV) (a : List α) (x : α) (b : List α) : ((a ++ x :: b).map f).getD a.length [] = f x := by simp

def cT (l : List (List UInt8)) : List (List AV) := l.map fun k => [.str k]
theorem cT_length (l : List (List UInt8)) : (cT l).length = l.length := by simp [cT]
theorem cT_strip (l : List (List UInt8)) : (cT l).map (·.map AV.strip1) = cT l := by simp [cT, AV.strip1]

theorem cloneS (l : List (List UInt8)) (hl : l.length * 16 ≤ 140737488355328) : Pure Try.prog 54 [.sl .no 1 (cT l)] (.sl .no 1 (cT l)) := by
  refine Pure.go ir54 ck54 (Nat.le_refl _) fun KP Q hQ => ?_
  simp (disch := first | omega | assumption) only [ir54, steps, mkArgs, pev, rev, oev, optr, ibin, sbin, bound, mmAll, mm2, mk, AV.cells, AV.boxable, AV.one, fillA, fillS, splice_cons, splice_succ, splice_zero, Nat.reduceEqDiff, reduceCtorEq, ↓reduceIte, Nat.reduceAdd, Int.reduceNeg, decide_true, decide_false, List.take_succ_cons, List.take_zero, List.drop_succ_cons, List.drop_zero, List.length_cons, List.length_nil, List.headD_cons, List.cons_append, List.nil_append, Option.map_some, Bool.not_true, Bool.not_false, Bool.false_eq_true, eq_self, List.replicate_zero, List.replicate_succ, List.set_cons_zero, List.set_cons_succ, Nat.lt_add_one, Nat.zero_lt_succ, Nat.le_refl, Nat.reduceLeDiff, Nat.reduceAdd, if_pos, upd_ne, List.getElem?_cons_succ, List.getElem?_cons_zero, Option.some.injEq, Int.cast_ofNat_Int, Int.reduceToNat, Int.reduceEq, List.getD_cons_zero, List.getD_cons_succ, Int.reduceLT, Int.reduceLE]
  refine goB_u (fun h => ?_) ?_
  · simp (disch := first | omega | assumption) only [steps, mkArgs, pev, rev, oev, optr, ibin, sbin, bound, mmAll, mm2, mk, AV.cells, AV.boxable, AV.one, fillA, fillS, splice_cons, splice_succ, splice_zero, Nat.reduceEqDiff, reduceCtorEq, ↓reduceIte, Nat.reduceAdd, Int.reduceNeg, decide_true, decide_false, List.take_succ_cons, List.take_zero, List.drop_succ_cons, List.drop_zero, List.length_cons, List.length_nil, List.headD_cons, List.cons_append, List.nil_append, Option.map_some, Bool.not_true, Bool.not_false, Bool.false_eq_true, eq_self, List.replicate_zero, List.replicate_succ, List.set_cons_zero, List.set_cons_succ, Nat.lt_add_one, Nat.zero_lt_succ, Nat.le_refl, Nat.reduceLeDiff, Nat.reduceAdd, if_pos, upd_ne, List.getElem?_cons_succ, List.getElem?_cons_zero, Option.some.injEq, Int.cast_ofNat_Int, Int.reduceToNat, Int.reduceEq, List.getD_cons_zero, List.getD_cons_succ, Int.reduceLT, Int.reduceLE]
    refine hQ _ _ _ _ nofun rfl ?_
    simp [tupOf, envOf, AV.strip, AV.strip1, h]
  · simp (disch := first | omega | assumption) only [steps, mkArgs, pev, rev, oev, optr, ibin, sbin, bound, mmAll, mm2, mk, AV.cells, AV.boxable, AV.one, fillA, fillS, splice_cons, splice_succ, splice_zero, Nat.reduceEqDiff, reduceCtorEq, ↓reduceIte, Nat.reduceAdd, Int.reduceNeg, decide_true, decide_false, List.take_succ_cons, List.take_zero, List.drop_succ_cons, List.drop_zero, List.length_cons, List.length_nil, List.headD_cons, List.cons_append, List.nil_append, Option.map_some, Bool.not_true, Bool.not_false, Bool.false_eq_true, eq_self, List.replicate_zero, List.replicate_succ, List.set_cons_zero, List.set_cons_succ, Nat.lt_add_one, Nat.zero_lt_succ, Nat.le_refl, Nat.reduceLeDiff, Nat.reduceAdd, if_pos, upd_ne, List.getElem?_cons_succ, List.getElem?_cons_zero, Option.some.injEq, Int.cast_ofNat_Int, Int.reduceToNat, Int.reduceEq, List.getD_cons_zero, List.getD_cons_succ, Int.reduceLT, Int.reduceLE]
    refine goP_own (Owned.full _ _ _) ?_ ?_ fun o' H' h1 h2 h3 => ?_
    · simp [cT_length]; omega
    · simp [cT_length, maxLen]; omega
    · simp (disch := first | omega | assumption) only [steps, mkArgs, pev, rev, oev, optr, ibin, sbin, bound, mmAll, mm2, mk, AV.cells, AV.boxable, AV.one, fillA, fillS, splice_cons, splice_succ, splice_zero, Nat.reduceEqDiff, reduceCtorEq, ↓reduceIte, Nat.reduceAdd, Int.reduceNeg, decide_true, decide_false, List.take_succ_cons, List.take_zero, List.drop_succ_cons, List.drop_zero, List.length_cons, List.length_nil, List.headD_cons, List.cons_append, List.nil_append, Option.map_some, Bool.not_true, Bool.not_false, Bool.false_eq_true, eq_self, List.replicate_zero, List.replicate_succ, List.set_cons_zero, List.set_cons_succ, Nat.lt_add_one, Nat.zero_lt_succ, Nat.le_refl, Nat.reduceLeDiff, Nat.reduceAdd, if_pos, upd_ne, List.getElem?_cons_succ, List.getElem?_cons_zero, Option.some.injEq, Int.cast_ofNat_Int, Int.reduceToNat, Int.reduceEq, List.getD_cons_zero, List.getD_cons_succ, Int.reduceLT, Int.reduceLE]
      refine hQ _ _ _ _ nofun rfl ?_
      simp [tupOf, envOf, AV.strip, AV.strip1, cT_strip]

structure Batch where
  table : List UInt8
  keys : List (List UInt8)

def cB (b : Batch) : List AV := [.str b.table, .sl .no 1 (cT b.keys)]
def cBs (l : List Batch) : List (List AV) := l.map cB
theorem cBs_length (l : List Batch) : (cBs l).length = l.length := by simp [cBs]
theorem cBs_strip (l : List Batch) : (cBs l).map (·.map AV.strip1) = cBs l := by simp [cBs, cB, AV.strip1]

def Batch.small (b : Batch) : Prop := b.keys.length * 16 ≤ 140737488355328

theorem batchC (b : Batch) (hb : b.small) : Pure Try.prog 59 [.agg (cB b)] (.agg (cB b)) := by
  refine Pure.go ir59 ck59 (Nat.le_refl _) fun KP Q hQ => ?_
  simp (disch := first | omega | assumption) only [ir59, cB, steps, mkArgs, pev, rev, oev, optr, ibin, sbin, bound, mmAll, mm2, mk, AV.cells, AV.boxable, AV.one, fillA, fillS, splice_cons, splice_succ, splice_zero, Nat.reduceEqDiff, reduceCtorEq, ↓reduceIte, Nat.reduceAdd, Int.reduceNeg, decide_true, decide_false, List.take_succ_cons, List.take_zero, List.drop_succ_cons, List.drop_zero, List.length_cons, List.length_nil, List.headD_cons, List.cons_append, List.nil_append, Option.map_some, Bool.not_true, Bool.not_false, Bool.false_eq_true, eq_self, List.replicate_zero, List.replicate_succ, List.set_cons_zero, List.set_cons_succ, Nat.lt_add_one, Nat.zero_lt_succ, Nat.le_refl, Nat.reduceLeDiff, Nat.reduceAdd, if_pos, upd_ne, List.getElem?_cons_succ, List.getElem?_cons_zero, Option.some.injEq, Int.cast_ofNat_Int, Int.reduceToNat, Int.reduceEq, List.getD_cons_zero, List.getD_cons_succ, Int.reduceLT, Int.reduceLE]
  refine goA_intro fun b1 hb1 => ?_
  simp (disch := first | omega | assumption) only [steps, mkArgs, pev, rev, oev, optr, ibin, sbin, bound, mmAll, mm2, mk, AV.cells, AV.boxable, AV.one, fillA, fillS, splice_cons, splice_succ, splice_zero, Nat.reduceEqDiff, reduceCtorEq, ↓reduceIte, Nat.reduceAdd, Int.reduceNeg, decide_true, decide_false, List.take_succ_cons, List.take_zero, List.drop_succ_cons, List.drop_zero, List.length_cons, List.length_nil, List.headD_cons, List.cons_append, List.nil_append, Option.map_some, Bool.not_true, Bool.not_false, Bool.false_eq_true, eq_self, List.replicate_zero, List.replicate_succ, List.set_cons_zero, List.set_cons_succ, Nat.lt_add_one, Nat.zero_lt_succ, Nat.le_refl, Nat.reduceLeDiff, Nat.reduceAdd, if_pos, upd_ne, List.getElem?_cons_succ, List.getElem?_cons_zero, Option.some.injEq, Int.cast_ofNat_Int, Int.reduceToNat, Int.reduceEq, List.getD_cons_zero, List.getD_cons_succ, Int.reduceLT, Int.reduceLE]
  refine goA_intro fun b2 hb2 => ?_
  have hn := ne_fresh hb2
  simp (disch := first | omega | assumption) only [steps, mkArgs, pev, rev, oev, optr, ibin, sbin, bound, mmAll, mm2, mk, AV.cells, AV.boxable, AV.one, fillA, fillS, splice_cons, splice_succ, splice_zero, Nat.reduceEqDiff, reduceCtorEq, ↓reduceIte, Nat.reduceAdd, Int.reduceNeg, decide_true, decide_false, List.take_succ_cons, List.take_zero, List.drop_succ_cons, List.drop_zero, List.length_cons, List.length_nil, List.headD_cons, List.cons_append, List.nil_append, Option.map_some, Bool.not_true, Bool.not_false, Bool.false_eq_true, eq_self, List.replicate_zero, List.replicate_succ, List.set_cons_zero, List.set_cons_succ, Nat.lt_add_one, Nat.zero_lt_succ, Nat.le_refl, Nat.reduceLeDiff, Nat.reduceAdd, if_pos, upd_ne, List.getElem?_cons_succ, List.getElem?_cons_zero, Option.some.injEq, Int.cast_ofNat_Int, Int.reduceToNat, Int.reduceEq, List.getD_cons_zero, List.getD_cons_succ, Int.reduceLT, Int.reduceLE]
  refine goK_pure (cloneS b.keys hb) ?_
  simp (disch := first | omega | assumption) only [steps, mkArgs, pev, rev, oev, optr, ibin, sbin, bound, mmAll, mm2, mk, AV.cells, AV.boxable, AV.one, fillA, fillS, splice_cons, splice_succ, splice_zero, Nat.reduceEqDiff, reduceCtorEq, ↓reduceIte, Nat.reduceAdd, Int.reduceNeg, decide_true, decide_false, List.take_succ_cons, List.take_zero, List.drop_succ_cons, List.drop_zero, List.length_cons, List.length_nil, List.headD_cons, List.cons_append, List.nil_append, Option.map_some, Bool.not_true, Bool.not_false, Bool.false_eq_true, eq_self, List.replicate_zero, List.replicate_succ, List.set_cons_zero, List.set_cons_succ, Nat.lt_add_one, Nat.zero_lt_succ, Nat.le_refl, Nat.reduceLeDiff, Nat.reduceAdd, if_pos, upd_ne, List.getElem?_cons_succ, List.getElem?_cons_zero, Option.some.injEq, Int.cast_ofNat_Int, Int.reduceToNat, Int.reduceEq, List.getD_cons_zero, List.getD_cons_succ, Int.reduceLT, Int.reduceLE]
  refine hQ _ _ _ [.agg (cB b)] nofun (by simp (disch := first | omega | assumption) only [ir59, resvs, resv, cB, steps, mkArgs, pev, rev, oev, optr, ibin, sbin, bound, mmAll, mm2, mk, AV.cells, AV.boxable, AV.one, fillA, fillS, splice_cons, splice_succ, splice_zero, Nat.reduceEqDiff, reduceCtorEq, ↓reduceIte, Nat.reduceAdd, Int.reduceNeg, decide_true, decide_false, List.take_succ_cons, List.take_zero, List.drop_succ_cons, List.drop_zero, List.length_cons, List.length_nil, List.headD_cons, List.cons_append, List.nil_append, Option.map_some, Bool.not_true, Bool.not_false, Bool.false_eq_true, eq_self, List.replicate_zero, List.replicate_succ, List.set_cons_zero, List.set_cons_succ, Nat.lt_add_one, Nat.zero_lt_succ, Nat.le_refl, Nat.reduceLeDiff, Nat.reduceAdd, if_pos, upd_ne, List.getElem?_cons_succ, List.getElem?_cons_zero, Option.some.injEq, Int.cast_ofNat_Int, Int.reduceToNat, Int.reduceEq, List.getD_cons_zero, List.getD_cons_succ, Int.reduceLT, Int.reduceLE]) ?_
  simp [tupOf, cB, AV.strip, AV.strip1]

/-! ### a crew in memory -/

def cW (x : Int × Batch) : List AV := [.int .i64 x.1, .str x.2.table, .sl .no 1 (cT x.2.keys)]
def cWs (ws : List (Int × Batch)) : List AV := (ws.map cW).flatten

theorem split_at {α : Type} {l : List α} {i : Nat} (h : i < l.length) : ∃ a x b, l = a ++ x :: b ∧ a.length = i :=
  ⟨l.take i, l[i], l.drop (i + 1), by simp, by simp; omega⟩

theorem cWs_length (ws : List (Int × Batch)) : (cWs ws).length = ws.length * 3 := by
  induction ws with
  | nil => rfl
  | cons x r ih => simp only [cWs, List.map_cons, List.flatten_cons, List.length_append, List.length_cons] at ih ⊢; rw [ih]; simp [cW]; omega

theorem cWs_append (a b : List (Int × Batch)) : cWs (a ++ b) = cWs a ++ cWs b := by simp [cWs]
theorem cWs_cons (x : Int × Batch) (b : List (Int × Batch)) : cWs (x :: b) = cW x ++ cWs b := by simp [cWs]

theorem cWs_drop (a : List (Int × Batch)) (x : Int × Batch) (b : List (Int × Batch)) (j : Nat) : (cWs (a ++ x :: b)).drop (a.length * 3 + j) = (cW x ++ cWs b).drop j := by
  rw [cWs_append, cWs_cons, ← cWs_length, List.drop_append]
  simp

structure CrewAt (H : Heap) (c l : Nat) (o : Own) (ws : List (Int × Batch)) (q : List Batch) : Prop where
  hc : H c = some (.cells [.ms l 0 ws.length ws.length, .sl o 2 (cBs q)])
  hl : H l = some (.cells (cWs ws))
  ne : c ≠ l
  own : Owned H o q.length 2

theorem Owned.sub {H H' : Heap} {o : Own} {n sz : Nat} (h : Owned H o n sz) (hs : Sub H H') : Owned H' o n sz := by
  cases o with
  | tip b d => exact hs _ _ h
  | _ => exact h

theorem CrewAt.sub {H H' : Heap} {c l : Nat} {o : Own} {ws : List (Int × Batch)} {q : List Batch} (h : CrewAt H c l o ws q) (hs : Sub H H') : CrewAt H' c l o ws q := ⟨hs _ _ h.hc, hs _ _ h.hl, h.ne, Owned.sub h.own hs⟩

def stage (ws : List (Int × Batch)) (i : Nat) : Int := (ws.map (·.1)).getD i 0
def canW (ws : List (Int × Batch)) (q : List Batch) (w : Int) : Bool := decide (1 ≤ w) && (decide (w ≤ ws.length) && (decide (stage ws (w - 1).toNat ≠ 0) || decide (0 < q.length)))

theorem stage_mid (a : List (Int × Batch)) (x : Int × Batch) (b : List (Int × Batch)) : stage (a ++ x :: b) a.length = x.1 := by simp [stage]

theorem canC {H : Heap} {c l : Nat} {o : Own} {ws : List (Int × Batch)} {q : List Batch} (hc : CrewAt H c l o ws q) (w : Int) (hn : ws.length ≤ 16) :
    ACalls Try.prog 60 [.ptr c 0, .int .i64 w] H (fun e H' => ∃ v, e = .ret v ∧ (v = .bool (canW ws q w) ∧ H' = H)) := by
  obtain ⟨h1, h2, h3, h4⟩ := hc
  refine ACalls.go ir60 ck60 (Nat.le_refl _) fun KP Q hQ => ?_
  have hql := cBs_length q
  by_cases hw1 : 1 ≤ w
  · by_cases hw2 : w ≤ ws.length
    · obtain ⟨a, x, b, rfl, ha⟩ := split_at (l := ws) (i := (w - 1).toNat) (by omega)
      have hw : w - 1 = (a.length : Int) := by omega
      have hlt : (a.length : Int) < ((a ++ x :: b).length : Nat) := by simp; omega
      have hr := cWs_drop a x b 0
      have hlen := cWs_length (a ++ x :: b)
      have hb : a.length * 3 + 1 ≤ (cWs (a ++ x :: b)).length := by rw [hlen]; simp; omega
      simp only [Nat.add_zero, List.drop_zero] at hr
      have hst := stage_mid a x b
      have hw3 := hw2
      simp only [List.length_append, List.length_cons] at hw3
      by_cases hx : x.1 = 0
      · simp (disch := first | omega | assumption) only [ir60, h1, h2, hw1, hw2, wrap64, hw, hlt, Int.toNat_natCast, Nat.zero_add, Nat.add_zero, hb, hr, cW, hx, ne_eq, not_true_eq_false, hql, steps, mkArgs, pev, rev, oev, optr, ibin, sbin, bound, mmAll, mm2, mk, AV.cells, AV.boxable, AV.one, fillA, fillS, splice_cons, splice_succ, splice_zero, Nat.reduceEqDiff, reduceCtorEq, ↓reduceIte, Nat.reduceAdd, Int.reduceNeg, decide_true, decide_false, List.take_succ_cons, List.take_zero, List.drop_succ_cons, List.drop_zero, List.length_cons, List.length_nil, List.headD_cons, List.cons_append, List.nil_append, Option.map_some, Bool.not_true, Bool.not_false, Bool.false_eq_true, eq_self, List.replicate_zero, List.replicate_succ, List.set_cons_zero, List.set_cons_succ, Nat.lt_add_one, Nat.zero_lt_succ, Nat.le_refl, Nat.reduceLeDiff, Nat.reduceAdd, if_pos, upd_ne, List.getElem?_cons_succ, List.getElem?_cons_zero, Option.some.injEq, Int.cast_ofNat_Int, Int.reduceToNat, Int.reduceEq, List.getD_cons_zero, List.getD_cons_succ, Int.reduceLT, Int.reduceLE]
        refine hQ _ _ _ H _ nofun rfl (Low.refl _) ⟨?_, rfl⟩
        simp [tupOf, envOf, AV.strip, AV.strip1, canW, hw1, hw, hst, hx]
        all_goals (intros; omega)
      · simp (disch := first | omega | assumption) only [ir60, h1, h2, hw1, hw2, wrap64, hw, hlt, Int.toNat_natCast, Nat.zero_add, Nat.add_zero, hb, hr, cW, hx, ne_eq, not_false_eq_true, hql, steps, mkArgs, pev, rev, oev, optr, ibin, sbin, bound, mmAll, mm2, mk, AV.cells, AV.boxable, AV.one, fillA, fillS, splice_cons, splice_succ, splice_zero, Nat.reduceEqDiff, reduceCtorEq, ↓reduceIte, Nat.reduceAdd, Int.reduceNeg, decide_true, decide_false, List.take_succ_cons, List.take_zero, List.drop_succ_cons, List.drop_zero, List.length_cons, List.length_nil, List.headD_cons, List.cons_append, List.nil_append, Option.map_some, Bool.not_true, Bool.not_false, Bool.false_eq_true, eq_self, List.replicate_zero, List.replicate_succ, List.set_cons_zero, List.set_cons_succ, Nat.lt_add_one, Nat.zero_lt_succ, Nat.le_refl, Nat.reduceLeDiff, Nat.reduceAdd, if_pos, upd_ne, List.getElem?_cons_succ, List.getElem?_cons_zero, Option.some.injEq, Int.cast_ofNat_Int, Int.reduceToNat, Int.reduceEq, List.getD_cons_zero, List.getD_cons_succ, Int.reduceLT, Int.reduceLE]
        refine hQ _ _ _ H _ nofun rfl (Low.refl _) ⟨?_, rfl⟩
        simp [tupOf, envOf, AV.strip, AV.strip1, canW, hw1, hw, hst, hx]
        all_goals (intros; omega)
    · simp (disch := first | omega | assumption) only [ir60, h1, h2, hw1, hw2, steps, mkArgs, pev, rev, oev, optr, ibin, sbin, bound, mmAll, mm2, mk, AV.cells, AV.boxable, AV.one, fillA, fillS, splice_cons, splice_succ, splice_zero, Nat.reduceEqDiff, reduceCtorEq, ↓reduceIte, Nat.reduceAdd, Int.reduceNeg, decide_true, decide_false, List.take_succ_cons, List.take_zero, List.drop_succ_cons, List.drop_zero, List.length_cons, List.length_nil, List.headD_cons, List.cons_append, List.nil_append, Option.map_some, Bool.not_true, Bool.not_false, Bool.false_eq_true, eq_self, List.replicate_zero, List.replicate_succ, List.set_cons_zero, List.set_cons_succ, Nat.lt_add_one, Nat.zero_lt_succ, Nat.le_refl, Nat.reduceLeDiff, Nat.reduceAdd, if_pos, upd_ne, List.getElem?_cons_succ, List.getElem?_cons_zero, Option.some.injEq, Int.cast_ofNat_Int, Int.reduceToNat, Int.reduceEq, List.getD_cons_zero, List.getD_cons_succ, Int.reduceLT, Int.reduceLE]
      refine hQ _ _ _ H _ nofun rfl (Low.refl _) ⟨?_, rfl⟩
      simp [tupOf, envOf, AV.strip, AV.strip1, canW, hw1, hw2]
  · simp (disch := first | omega | assumption) only [ir60, h1, h2, hw1, steps, mkArgs, pev, rev, oev, optr, ibin, sbin, bound, mmAll, mm2, mk, AV.cells, AV.boxable, AV.one, fillA, fillS, splice_cons, splice_succ, splice_zero, Nat.reduceEqDiff, reduceCtorEq, ↓reduceIte, Nat.reduceAdd, Int.reduceNeg, decide_true, decide_false, List.take_succ_cons, List.take_zero, List.drop_succ_cons, List.drop_zero, List.length_cons, List.length_nil, List.headD_cons, List.cons_append, List.nil_append, Option.map_some, Bool.not_true, Bool.not_false, Bool.false_eq_true, eq_self, List.replicate_zero, List.replicate_succ, List.set_cons_zero, List.set_cons_succ, Nat.lt_add_one, Nat.zero_lt_succ, Nat.le_refl, Nat.reduceLeDiff, Nat.reduceAdd, if_pos, upd_ne, List.getElem?_cons_succ, List.getElem?_cons_zero, Option.some.injEq, Int.cast_ofNat_Int, Int.reduceToNat, Int.reduceEq, List.getD_cons_zero, List.getD_cons_succ, Int.reduceLT, Int.reduceLE]
    refine hQ _ _ _ H _ nofun rfl (Low.refl _) ⟨?_, rfl⟩
    simp [tupOf, envOf, AV.strip, AV.strip1, canW, hw1]

def cI (l : List Int) : List (List AV) := l.map fun n => [.int .i64 n]
theorem cI_length (l : List Int) : (cI l).length = l.length := by simp [cI]

def cans (ws : List (Int × Batch)) (q : List Batch) (k : Nat) : List Int := ((List.range k).map fun (i : Nat) => (i : Int) + 1).filter (canW ws q)
theorem cans_succ (ws : List (Int × Batch)) (q : List Batch) (k : Nat) : cans ws q (k + 1) = cans ws q k ++ if canW ws q ((k : Int) + 1) then [(k : Int) + 1] else [] := by
  simp only [cans, List.range_succ, List.map_append, List.filter_append, List.map_cons, List.map_nil, List.filter_cons, List.filter_nil]
theorem cans_le (ws : List (Int × Batch)) (q : List Batch) (k : Nat) : (cans ws q k).length ≤ k := by
  refine Nat.le_trans (List.length_filter_le _ _) (by simp)

theorem canAll {H : Heap} {c l : Nat} {o : Own} {ws : List (Int × Batch)} {q : List Batch} (hc : CrewAt H c l o ws q) (hn : ws.length ≤ 16) :
    ACalls Try.prog 41 [.ptr c 0] H (fun e H' => ∃ v, e = .ret v ∧ (v = .sl .no 1 (cI (cans ws q ws.length)) ∧ H' = H)) := by
  refine ACalls.go ir41 ck41 (Nat.le_refl _) fun KP Q hQ => ?_
  simp (disch := first | omega | assumption) only [ir41, steps, mkArgs, pev, rev, oev, optr, ibin, sbin, bound, mmAll, mm2, mk, AV.cells, AV.boxable, AV.one, fillA, fillS, splice_cons, splice_succ, splice_zero, Nat.reduceEqDiff, reduceCtorEq, ↓reduceIte, Nat.reduceAdd, Int.reduceNeg, decide_true, decide_false, List.take_succ_cons, List.take_zero, List.drop_succ_cons, List.drop_zero, List.length_cons, List.length_nil, List.headD_cons, List.cons_append, List.nil_append, Option.map_some, Bool.not_true, Bool.not_false, Bool.false_eq_true, eq_self, List.replicate_zero, List.replicate_succ, List.set_cons_zero, List.set_cons_succ, Nat.lt_add_one, Nat.zero_lt_succ, Nat.le_refl, Nat.reduceLeDiff, Nat.reduceAdd, if_pos, upd_ne, List.getElem?_cons_succ, List.getElem?_cons_zero, Option.some.injEq, Int.cast_ofNat_Int, Int.reduceToNat, Int.reduceEq, List.getD_cons_zero, List.getD_cons_succ, Int.reduceLT, Int.reduceLE]
  refine goL_rule (fun n ρ H' => ∃ k o', k ≤ ws.length ∧ n = ws.length - k ∧ ρ = envOf [(0, .ptr c 0), (3, .sl o' 1 (cI (cans ws q k))), (4, .int .i64 ((k : Int) + 1))] ∧ OwnF H H' o' (cans ws q k).length 1) ws.length ⟨0, .nil, by omega, by omega, by simp (disch := first | omega | assumption) only [steps, mkArgs, pev, rev, oev, optr, ibin, sbin, bound, mmAll, mm2, mk, AV.cells, AV.boxable, AV.one, fillA, fillS, splice_cons, splice_succ, splice_zero, Nat.reduceEqDiff, reduceCtorEq, ↓reduceIte, Nat.reduceAdd, Int.reduceNeg, decide_true, decide_false, List.take_succ_cons, List.take_zero, List.drop_succ_cons, List.drop_zero, List.length_cons, List.length_nil, List.headD_cons, List.cons_append, List.nil_append, Option.map_some, Bool.not_true, Bool.not_false, Bool.false_eq_true, eq_self, List.replicate_zero, List.replicate_succ, List.set_cons_zero, List.set_cons_succ, Nat.lt_add_one, Nat.zero_lt_succ, Nat.le_refl, Nat.reduceLeDiff, Nat.reduceAdd, if_pos, upd_ne, List.getElem?_cons_succ, List.getElem?_cons_zero, Option.some.injEq, Int.cast_ofNat_Int, Int.reduceToNat, Int.reduceEq, List.getD_cons_zero, List.getD_cons_succ, Int.reduceLT, Int.reduceLE] <;> simp [cans, cI], OwnF.nil _ _⟩ ?_
  rintro n ρ H' J ⟨k, o', hk, rfl, rfl, ho⟩ hJ
  have hc' := hc.sub ho.sub
  have h1 := hc'.hc
  have hkl := cans_le ws q k
  have hkk := cI_length (cans ws q k)
  by_cases hlt : (k : Int) + 1 ≤ ws.length
  · simp (disch := first | omega | assumption) only [h1, hlt, steps, mkArgs, pev, rev, oev, optr, ibin, sbin, bound, mmAll, mm2, mk, AV.cells, AV.boxable, AV.one, fillA, fillS, splice_cons, splice_succ, splice_zero, Nat.reduceEqDiff, reduceCtorEq, ↓reduceIte, Nat.reduceAdd, Int.reduceNeg, decide_true, decide_false, List.take_succ_cons, List.take_zero, List.drop_succ_cons, List.drop_zero, List.length_cons, List.length_nil, List.headD_cons, List.cons_append, List.nil_append, Option.map_some, Bool.not_true, Bool.not_false, Bool.false_eq_true, eq_self, List.replicate_zero, List.replicate_succ, List.set_cons_zero, List.set_cons_succ, Nat.lt_add_one, Nat.zero_lt_succ, Nat.le_refl, Nat.reduceLeDiff, Nat.reduceAdd, if_pos, upd_ne, List.getElem?_cons_succ, List.getElem?_cons_zero, Option.some.injEq, Int.cast_ofNat_Int, Int.reduceToNat, Int.reduceEq, List.getD_cons_zero, List.getD_cons_succ, Int.reduceLT, Int.reduceLE]
    refine goK_ret (canC hc' _ hn) fun v H2 ⟨hv, hH⟩ => ?_
    subst hv; subst hH
    have hs := cans_succ ws q k
    cases hcan : canW ws q ((k : Int) + 1) with
    | true =>
      simp (disch := first | omega | assumption) only [steps, mkArgs, pev, rev, oev, optr, ibin, sbin, bound, mmAll, mm2, mk, AV.cells, AV.boxable, AV.one, fillA, fillS, splice_cons, splice_succ, splice_zero, Nat.reduceEqDiff, reduceCtorEq, ↓reduceIte, Nat.reduceAdd, Int.reduceNeg, decide_true, decide_false, List.take_succ_cons, List.take_zero, List.drop_succ_cons, List.drop_zero, List.length_cons, List.length_nil, List.headD_cons, List.cons_append, List.nil_append, Option.map_some, Bool.not_true, Bool.not_false, Bool.false_eq_true, eq_self, List.replicate_zero, List.replicate_succ, List.set_cons_zero, List.set_cons_succ, Nat.lt_add_one, Nat.zero_lt_succ, Nat.le_refl, Nat.reduceLeDiff, Nat.reduceAdd, if_pos, upd_ne, List.getElem?_cons_succ, List.getElem?_cons_zero, Option.some.injEq, Int.cast_ofNat_Int, Int.reduceToNat, Int.reduceEq, List.getD_cons_zero, List.getD_cons_succ, Int.reduceLT, Int.reduceLE]
      refine goP_own (by rw [hkk]; exact ho.own) ?_ ?_ fun o2 H2 g1 g2 g3 => ?_
      · simp only [hkk, List.length_cons, List.length_nil]; omega
      · simp only [hkk, List.length_cons, List.length_nil, maxLen]; omega
      simp (disch := first | omega | assumption) only [wrap64, steps, mkArgs, pev, rev, oev, optr, ibin, sbin, bound, mmAll, mm2, mk, AV.cells, AV.boxable, AV.one, fillA, fillS, splice_cons, splice_succ, splice_zero, Nat.reduceEqDiff, reduceCtorEq, ↓reduceIte, Nat.reduceAdd, Int.reduceNeg, decide_true, decide_false, List.take_succ_cons, List.take_zero, List.drop_succ_cons, List.drop_zero, List.length_cons, List.length_nil, List.headD_cons, List.cons_append, List.nil_append, Option.map_some, Bool.not_true, Bool.not_false, Bool.false_eq_true, eq_self, List.replicate_zero, List.replicate_succ, List.set_cons_zero, List.set_cons_succ, Nat.lt_add_one, Nat.zero_lt_succ, Nat.le_refl, Nat.reduceLeDiff, Nat.reduceAdd, if_pos, upd_ne, List.getElem?_cons_succ, List.getElem?_cons_zero, Option.some.injEq, Int.cast_ofNat_Int, Int.reduceToNat, Int.reduceEq, List.getD_cons_zero, List.getD_cons_succ, Int.reduceLT, Int.reduceLE]
      rw [hcan] at hs
      refine hJ (ws.length - (k + 1)) _ _ (by omega) ⟨k + 1, o2, by omega, rfl, ?_, ?_⟩
      · rw [hs]; simp [cI, AV.strip1]
      · refine (ho.step g1 g2 g3).cast ?_
        rw [hs, hkk]; simp
    | false =>
      simp (disch := first | omega | assumption) only [wrap64, steps, mkArgs, pev, rev, oev, optr, ibin, sbin, bound, mmAll, mm2, mk, AV.cells, AV.boxable, AV.one, fillA, fillS, splice_cons, splice_succ, splice_zero, Nat.reduceEqDiff, reduceCtorEq, ↓reduceIte, Nat.reduceAdd, Int.reduceNeg, decide_true, decide_false, List.take_succ_cons, List.take_zero, List.drop_succ_cons, List.drop_zero, List.length_cons, List.length_nil, List.headD_cons, List.cons_append, List.nil_append, Option.map_some, Bool.not_true, Bool.not_false, Bool.false_eq_true, eq_self, List.replicate_zero, List.replicate_succ, List.set_cons_zero, List.set_cons_succ, Nat.lt_add_one, Nat.zero_lt_succ, Nat.le_refl, Nat.reduceLeDiff, Nat.reduceAdd, if_pos, upd_ne, List.getElem?_cons_succ, List.getElem?_cons_zero, Option.some.injEq, Int.cast_ofNat_Int, Int.reduceToNat, Int.reduceEq, List.getD_cons_zero, List.getD_cons_succ, Int.reduceLT, Int.reduceLE]
      rw [hcan] at hs
      simp only [Bool.false_eq_true, if_false, List.append_nil] at hs
      refine hJ (ws.length - (k + 1)) _ _ (by omega) ⟨k + 1, o', by omega, rfl, ?_, ?_⟩
      · rw [hs]; simp
      · rw [hs]; exact ho
  · simp (disch := first | omega | assumption) only [h1, hlt, steps, mkArgs, pev, rev, oev, optr, ibin, sbin, bound, mmAll, mm2, mk, AV.cells, AV.boxable, AV.one, fillA, fillS, splice_cons, splice_succ, splice_zero, Nat.reduceEqDiff, reduceCtorEq, ↓reduceIte, Nat.reduceAdd, Int.reduceNeg, decide_true, decide_false, List.take_succ_cons, List.take_zero, List.drop_succ_cons, List.drop_zero, List.length_cons, List.length_nil, List.headD_cons, List.cons_append, List.nil_append, Option.map_some, Bool.not_true, Bool.not_false, Bool.false_eq_true, eq_self, List.replicate_zero, List.replicate_succ, List.set_cons_zero, List.set_cons_succ, Nat.lt_add_one, Nat.zero_lt_succ, Nat.le_refl, Nat.reduceLeDiff, Nat.reduceAdd, if_pos, upd_ne, List.getElem?_cons_succ, List.getElem?_cons_zero, Option.some.injEq, Int.cast_ofNat_Int, Int.reduceToNat, Int.reduceEq, List.getD_cons_zero, List.getD_cons_succ, Int.reduceLT, Int.reduceLE]
    have hkn : k = ws.length := by omega
    subst hkn
    refine hQ _ _ _ H _ nofun rfl (Low.of_sub ho.sub) ⟨?_, rfl⟩
    simp [tupOf, envOf, AV.strip, AV.strip1]

theorem waitsC {H : Heap} {c l : Nat} {o : Own} {ws : List (Int × Batch)} {q : List Batch} (hc : CrewAt H c l o ws q) :
    ACalls Try.prog 43 [.ptr c 0] H (fun e H' => ∃ v, e = .ret v ∧ (v = .int .i64 q.length ∧ H' = H)) := by
  refine ACalls.go ir43 ck43 (Nat.le_refl _) fun KP Q hQ => ?_
  have h1 := hc.hc
  simp (disch := first | omega | assumption) only [ir43, h1, steps, mkArgs, pev, rev, oev, optr, ibin, sbin, bound, mmAll, mm2, mk, AV.cells, AV.boxable, AV.one, fillA, fillS, splice_cons, splice_succ, splice_zero, Nat.reduceEqDiff, reduceCtorEq, ↓reduceIte, Nat.reduceAdd, Int.reduceNeg, decide_true, decide_false, List.take_succ_cons, List.take_zero, List.drop_succ_cons, List.drop_zero, List.length_cons, List.length_nil, List.headD_cons, List.cons_append, List.nil_append, Option.map_some, Bool.not_true, Bool.not_false, Bool.false_eq_true, eq_self, List.replicate_zero, List.replicate_succ, List.set_cons_zero, List.set_cons_succ, Nat.lt_add_one, Nat.zero_lt_succ, Nat.le_refl, Nat.reduceLeDiff, Nat.reduceAdd, if_pos, upd_ne, List.getElem?_cons_succ, List.getElem?_cons_zero, Option.some.injEq, Int.cast_ofNat_Int, Int.reduceToNat, Int.reduceEq, List.getD_cons_zero, List.getD_cons_succ, Int.reduceLT, Int.reduceLE]
  refine hQ _ _ _ H _ nofun rfl (Low.refl _) ⟨?_, rfl⟩
  simp [tupOf, envOf, AV.strip, AV.strip1, cBs_length]

theorem dropC {H : Heap} {c l : Nat} {o : Own} {ws : List (Int × Batch)} {q : List Batch} (hc : CrewAt H c l o ws q) :
    ACalls Try.prog 48 [.ptr c 0] H (fun e H' => ∃ v, e = .ret v ∧ (v = .tup [] ∧ CrewAt H' c l .nil ws [] ∧ ∀ b x, b ≠ c → H b = some x → H' b = some x)) := by
  refine ACalls.go ir48 ck48 (Nat.le_refl _) fun KP Q hQ => ?_
  have h1 := hc.hc
  simp (disch := first | omega | assumption) only [ir48, h1, steps, mkArgs, pev, rev, oev, optr, ibin, sbin, bound, mmAll, mm2, mk, AV.cells, AV.boxable, AV.one, fillA, fillS, splice_cons, splice_succ, splice_zero, Nat.reduceEqDiff, reduceCtorEq, ↓reduceIte, Nat.reduceAdd, Int.reduceNeg, decide_true, decide_false, List.take_succ_cons, List.take_zero, List.drop_succ_cons, List.drop_zero, List.length_cons, List.length_nil, List.headD_cons, List.cons_append, List.nil_append, Option.map_some, Bool.not_true, Bool.not_false, Bool.false_eq_true, eq_self, List.replicate_zero, List.replicate_succ, List.set_cons_zero, List.set_cons_succ, Nat.lt_add_one, Nat.zero_lt_succ, Nat.le_refl, Nat.reduceLeDiff, Nat.reduceAdd, if_pos, upd_ne, List.getElem?_cons_succ, List.getElem?_cons_zero, Option.some.injEq, Int.cast_ofNat_Int, Int.reduceToNat, Int.reduceEq, List.getD_cons_zero, List.getD_cons_succ, Int.reduceLT, Int.reduceLE]
  refine hQ _ _ _ _ _ nofun rfl (Low.refl _) ⟨rfl, ⟨by rw [upd_same]; simp [cBs], by rw [upd_ne (Ne.symm hc.ne)]; exact hc.hl, hc.ne, rfl⟩, fun b x hb hx => by rw [upd_ne hb]; exact hx⟩

def busyN (ws : List (Int × Batch)) : Nat := (ws.filter fun x => decide (x.1 ≠ 0)).length

theorem busyC {H : Heap} {c l : Nat} {o : Own} {ws : List (Int × Batch)} {q : List Batch} (hc : CrewAt H c l o ws q) (hn : ws.length ≤ 16) :
    ACalls Try.prog 42 [.ptr c 0] H (fun e H' => ∃ v, e = .ret v ∧ (v = .int .i64 (busyN ws) ∧ H' = H)) := by
  refine ACalls.go ir42 ck42 (Nat.le_refl _) fun KP Q hQ => ?_
  have h1 := hc.hc
  simp (disch := first | omega | assumption) only [ir42, h1, steps, mkArgs, pev, rev, oev, optr, ibin, sbin, bound, mmAll, mm2, mk, AV.cells, AV.boxable, AV.one, fillA, fillS, splice_cons, splice_succ, splice_zero, Nat.reduceEqDiff, reduceCtorEq, ↓reduceIte, Nat.reduceAdd, Int.reduceNeg, decide_true, decide_false, List.take_succ_cons, List.take_zero, List.drop_succ_cons, List.drop_zero, List.length_cons, List.length_nil, List.headD_cons, List.cons_append, List.nil_append, Option.map_some, Bool.not_true, Bool.not_false, Bool.false_eq_true, eq_self, List.replicate_zero, List.replicate_succ, List.set_cons_zero, List.set_cons_succ, Nat.lt_add_one, Nat.zero_lt_succ, Nat.le_refl, Nat.reduceLeDiff, Nat.reduceAdd, if_pos, upd_ne, List.getElem?_cons_succ, List.getElem?_cons_zero, Option.some.injEq, Int.cast_ofNat_Int, Int.reduceToNat, Int.reduceEq, List.getD_cons_zero, List.getD_cons_succ, Int.reduceLT, Int.reduceLE]
  refine goL_rule (fun n ρ H' => ∃ done rest, ws = done ++ rest ∧ n = rest.length ∧ ρ = envOf [(3, .int .i64 (busyN done)), (11, .ms l 0 ws.length ws.length), (12, .int .i64 ws.length), (13, .int .i64 done.length)] ∧ Sub H H') ws.length ⟨[], ws, rfl, rfl, by simp (disch := first | omega | assumption) only [steps, mkArgs, pev, rev, oev, optr, ibin, sbin, bound, mmAll, mm2, mk, AV.cells, AV.boxable, AV.one, fillA, fillS, splice_cons, splice_succ, splice_zero, Nat.reduceEqDiff, reduceCtorEq, ↓reduceIte, Nat.reduceAdd, Int.reduceNeg, decide_true, decide_false, List.take_succ_cons, List.take_zero, List.drop_succ_cons, List.drop_zero, List.length_cons, List.length_nil, List.headD_cons, List.cons_append, List.nil_append, Option.map_some, Bool.not_true, Bool.not_false, Bool.false_eq_true, eq_self, List.replicate_zero, List.replicate_succ, List.set_cons_zero, List.set_cons_succ, Nat.lt_add_one, Nat.zero_lt_succ, Nat.le_refl, Nat.reduceLeDiff, Nat.reduceAdd, if_pos, upd_ne, List.getElem?_cons_succ, List.getElem?_cons_zero, Option.some.injEq, Int.cast_ofNat_Int, Int.reduceToNat, Int.reduceEq, List.getD_cons_zero, List.getD_cons_succ, Int.reduceLT, Int.reduceLE] <;> simp [busyN], sub_refl _⟩ ?_
  rintro n ρ H' J ⟨done, rest, hd, rfl, rfl, ho⟩ hJ
  cases rest with
  | nil =>
    have hlt : ¬ ((done.length : Int) < ws.length) := by rw [hd]; simp
    simp (disch := first | omega | assumption) only [hlt, steps, mkArgs, pev, rev, oev, optr, ibin, sbin, bound, mmAll, mm2, mk, AV.cells, AV.boxable, AV.one, fillA, fillS, splice_cons, splice_succ, splice_zero, Nat.reduceEqDiff, reduceCtorEq, ↓reduceIte, Nat.reduceAdd, Int.reduceNeg, decide_true, decide_false, List.take_succ_cons, List.take_zero, List.drop_succ_cons, List.drop_zero, List.length_cons, List.length_nil, List.headD_cons, List.cons_append, List.nil_append, Option.map_some, Bool.not_true, Bool.not_false, Bool.false_eq_true, eq_self, List.replicate_zero, List.replicate_succ, List.set_cons_zero, List.set_cons_succ, Nat.lt_add_one, Nat.zero_lt_succ, Nat.le_refl, Nat.reduceLeDiff, Nat.reduceAdd, if_pos, upd_ne, List.getElem?_cons_succ, List.getElem?_cons_zero, Option.some.injEq, Int.cast_ofNat_Int, Int.reduceToNat, Int.reduceEq, List.getD_cons_zero, List.getD_cons_succ, Int.reduceLT, Int.reduceLE]
    simp only [List.append_nil] at hd
    subst hd
    refine hQ _ _ _ H _ nofun rfl (Low.of_sub ho) ⟨?_, rfl⟩
    simp [tupOf, envOf, AV.strip, AV.strip1]
  | cons x r =>
    have hlt : ((done.length : Int) < ws.length) := by rw [hd]; simp; omega
    have hl := ho _ _ hc.hl
    have hr := cWs_drop done x r 0
    have hlen := cWs_length ws
    have hb : done.length * 3 + 3 ≤ (cWs ws).length := by rw [hlen, hd]; simp; omega
    simp only [Nat.add_zero, List.drop_zero] at hr
    rw [← hd] at hr
    simp (disch := first | omega | assumption) only [hlt, Int.toNat_natCast, Nat.zero_add, hl, hb, hr, cW, steps, mkArgs, pev, rev, oev, optr, ibin, sbin, bound, mmAll, mm2, mk, AV.cells, AV.boxable, AV.one, fillA, fillS, splice_cons, splice_succ, splice_zero, Nat.reduceEqDiff, reduceCtorEq, ↓reduceIte, Nat.reduceAdd, Int.reduceNeg, decide_true, decide_false, List.take_succ_cons, List.take_zero, List.drop_succ_cons, List.drop_zero, List.length_cons, List.length_nil, List.headD_cons, List.cons_append, List.nil_append, Option.map_some, Bool.not_true, Bool.not_false, Bool.false_eq_true, eq_self, List.replicate_zero, List.replicate_succ, List.set_cons_zero, List.set_cons_succ, Nat.lt_add_one, Nat.zero_lt_succ, Nat.le_refl, Nat.reduceLeDiff, Nat.reduceAdd, if_pos, upd_ne, List.getElem?_cons_succ, List.getElem?_cons_zero, Option.some.injEq, Int.cast_ofNat_Int, Int.reduceToNat, Int.reduceEq, List.getD_cons_zero, List.getD_cons_succ, Int.reduceLT, Int.reduceLE]
    refine goA_intro fun b1 hb1 => ?_
    have hbd : busyN done ≤ done.length := List.length_filter_le _ _
    have hdl : done.length < ws.length := by omega
    by_cases hx : x.1 = 0
    · simp (disch := first | omega | assumption) only [hx, ne_eq, not_true_eq_false, wrap64, steps, mkArgs, pev, rev, oev, optr, ibin, sbin, bound, mmAll, mm2, mk, AV.cells, AV.boxable, AV.one, fillA, fillS, splice_cons, splice_succ, splice_zero, Nat.reduceEqDiff, reduceCtorEq, ↓reduceIte, Nat.reduceAdd, Int.reduceNeg, decide_true, decide_false, List.take_succ_cons, List.take_zero, List.drop_succ_cons, List.drop_zero, List.length_cons, List.length_nil, List.headD_cons, List.cons_append, List.nil_append, Option.map_some, Bool.not_true, Bool.not_false, Bool.false_eq_true, eq_self, List.replicate_zero, List.replicate_succ, List.set_cons_zero, List.set_cons_succ, Nat.lt_add_one, Nat.zero_lt_succ, Nat.le_refl, Nat.reduceLeDiff, Nat.reduceAdd, if_pos, upd_ne, List.getElem?_cons_succ, List.getElem?_cons_zero, Option.some.injEq, Int.cast_ofNat_Int, Int.reduceToNat, Int.reduceEq, List.getD_cons_zero, List.getD_cons_succ, Int.reduceLT, Int.reduceLE]
      refine hJ r.length _ _ (by simp) ⟨done ++ [x], r, by simp [hd], rfl, ?_, sub_upd ho hb1⟩
      simp [busyN, hx]
    · simp (disch := first | omega | assumption) only [hx, ne_eq, not_false_eq_true, wrap64, steps, mkArgs, pev, rev, oev, optr, ibin, sbin, bound, mmAll, mm2, mk, AV.cells, AV.boxable, AV.one, fillA, fillS, splice_cons, splice_succ, splice_zero, Nat.reduceEqDiff, reduceCtorEq, ↓reduceIte, Nat.reduceAdd, Int.reduceNeg, decide_true, decide_false, List.take_succ_cons, List.take_zero, List.drop_succ_cons, List.drop_zero, List.length_cons, List.length_nil, List.headD_cons, List.cons_append, List.nil_append, Option.map_some, Bool.not_true, Bool.not_false, Bool.false_eq_true, eq_self, List.replicate_zero, List.replicate_succ, List.set_cons_zero, List.set_cons_succ, Nat.lt_add_one, Nat.zero_lt_succ, Nat.le_refl, Nat.reduceLeDiff, Nat.reduceAdd, if_pos, upd_ne, List.getElem?_cons_succ, List.getElem?_cons_zero, Option.some.injEq, Int.cast_ofNat_Int, Int.reduceToNat, Int.reduceEq, List.getD_cons_zero, List.getD_cons_succ, Int.reduceLT, Int.reduceLE]
      refine hJ r.length _ _ (by simp) ⟨done ++ [x], r, by simp [hd], rfl, ?_, sub_upd ho hb1⟩
      simp [busyN, hx]

/-- What a step does. -/
def stepW (ws : List (Int × Batch)) (q : List Batch) (w : Int) : (Batch × Int) × List (Int × Batch) × List Batch :=
  if canW ws q w then
    let x := ws.getD (w - 1).toNat (0, ⟨[], []⟩)
    if x.1 = 0 then ((q.headD ⟨[], []⟩, 1), ws.set (w - 1).toNat (1, q.headD ⟨[], []⟩), q.tail)
    else ((x.2, x.1 + 1), ws.set (w - 1).toNat (if x.1 + 1 > 2 then 0 else x.1 + 1, x.2), q)
  else ((⟨[], []⟩, 0), ws, q)

theorem Owned.tail {H : Heap} {o : Own} {n sz : Nat} (h : Owned H o (n + 1) sz) : Owned H (o.cut 1) n sz := by
  cases o with
  | no => exact h
  | nil => cases h
  | full => trivial
  | tip b d => show H b = _; rw [show d + 1 + n = d + (n + 1) by omega]; exact h

theorem splice_mid (a : List (Int × Batch)) (x : Int × Batch) (b : List (Int × Batch)) (j : Nat) (v : List AV) (h : j + v.length ≤ 3) : splice (cWs (a ++ x :: b)) (a.length * 3 + j) v = cWs a ++ (splice (cW x) j v ++ cWs b) := by
  have hl : (cW x).length = 3 := rfl
  unfold splice
  rw [cWs_append, cWs_cons, ← cWs_length]
  simp only [List.take_append, List.drop_append, List.append_assoc]
  have e1 : (cWs a).length + j - (cWs a).length = j := by omega
  have e2 : (cWs a).length + j + v.length - (cWs a).length = j + v.length := by omega
  rw [List.take_of_length_le (by omega), e1, e2, List.drop_of_length_le (l := cWs a) (by omega)]
  have e3 : j - (cW x).length = 0 := by omega
  have e4 : j + v.length - (cW x).length = 0 := by omega
  rw [e3, e4]
  simp

theorem splice_stage (a : List (Int × Batch)) (x : Int × Batch) (b : List (Int × Batch)) (n : Int) : splice (cWs (a ++ x :: b)) (a.length * 3) [.int .i64 n] = cWs (a ++ (n, x.2) :: b) := by
  have := splice_mid a x b 0 [.int .i64 n] (by simp)
  rw [Nat.add_zero] at this
  rw [this, cWs_append, cWs_cons]
  rfl
theorem splice_batch (a : List (Int × Batch)) (x : Int × Batch) (b : List (Int × Batch)) (y : Batch) : splice (cWs (a ++ x :: b)) (a.length * 3 + 1) [.str y.table, .sl .no 1 (cT y.keys)] = cWs (a ++ (x.1, y) :: b) := by
  have := splice_mid a x b 1 [.str y.table, .sl .no 1 (cT y.keys)] (by simp)
  rw [this, cWs_append, cWs_cons]
  rfl
theorem cWs_drop0 (a : List (Int × Batch)) (x : Int × Batch) (b : List (Int × Batch)) : (cWs (a ++ x :: b)).drop (a.length * 3) = [.int .i64 x.1, .str x.2.table, .sl .no 1 (cT x.2.keys)] ++ cWs b := cWs_drop a x b 0
theorem cWs_drop1 (a : List (Int × Batch)) (x : Int × Batch) (b : List (Int × Batch)) : (cWs (a ++ x :: b)).drop (a.length * 3 + 1) = [.str x.2.table, .sl .no 1 (cT x.2.keys)] ++ cWs b := cWs_drop a x b 1

theorem stepC {H : Heap} {c l : Nat} {o : Own} {ws : List (Int × Batch)} {q : List Batch} (hc : CrewAt H c l o ws q) (w : Int) (hn : ws.length ≤ 16) (hst : ∀ x ∈ ws, 0 ≤ x.1 ∧ x.1 ≤ 2) (hsm : (∀ x ∈ ws, x.2.small) ∧ ∀ x ∈ q, x.small) :
    ACalls Try.prog 44 [.ptr c 0, .int .i64 w] H (fun e H' => ∃ v, e = .ret v ∧ (v = .tup [.agg (cB (stepW ws q w).1.1), .int .i64 (stepW ws q w).1.2] ∧ (∃ o', CrewAt H' c l o' (stepW ws q w).2.1 (stepW ws q w).2.2) ∧ ∀ b x, b ≠ c → b ≠ l → H b = some x → H' b = some x)) := by
  refine ACalls.go ir44 ck44 (Nat.le_refl _) fun KP Q hQ => ?_
  simp (disch := first | omega | assumption) only [ir44, steps, mkArgs, pev, rev, oev, optr, ibin, sbin, bound, mmAll, mm2, mk, AV.cells, AV.boxable, AV.one, fillA, fillS, splice_cons, splice_succ, splice_zero, Nat.reduceEqDiff, reduceCtorEq, ↓reduceIte, Nat.reduceAdd, Int.reduceNeg, decide_true, decide_false, List.take_succ_cons, List.take_zero, List.drop_succ_cons, List.drop_zero, List.length_cons, List.length_nil, List.headD_cons, List.cons_append, List.nil_append, Option.map_some, Bool.not_true, Bool.not_false, Bool.false_eq_true, eq_self, List.replicate_zero, List.replicate_succ, List.set_cons_zero, List.set_cons_succ, Nat.lt_add_one, Nat.zero_lt_succ, Nat.le_refl, Nat.reduceLeDiff, Nat.reduceAdd, if_pos, upd_ne, List.getElem?_cons_succ, List.getElem?_cons_zero, Option.some.injEq, Int.cast_ofNat_Int, Int.reduceToNat, Int.reduceEq, List.getD_cons_zero, List.getD_cons_succ, Int.reduceLT, Int.reduceLE]
  refine goA_intro fun b1 hb1 => ?_
  have hc1 := hc.sub (sub_upd (o := .cells [.str [], .sl .nil 1 []]) (sub_refl H) hb1)
  simp (disch := first | omega | assumption) only [steps, mkArgs, pev, rev, oev, optr, ibin, sbin, bound, mmAll, mm2, mk, AV.cells, AV.boxable, AV.one, fillA, fillS, splice_cons, splice_succ, splice_zero, Nat.reduceEqDiff, reduceCtorEq, ↓reduceIte, Nat.reduceAdd, Int.reduceNeg, decide_true, decide_false, List.take_succ_cons, List.take_zero, List.drop_succ_cons, List.drop_zero, List.length_cons, List.length_nil, List.headD_cons, List.cons_append, List.nil_append, Option.map_some, Bool.not_true, Bool.not_false, Bool.false_eq_true, eq_self, List.replicate_zero, List.replicate_succ, List.set_cons_zero, List.set_cons_succ, Nat.lt_add_one, Nat.zero_lt_succ, Nat.le_refl, Nat.reduceLeDiff, Nat.reduceAdd, if_pos, upd_ne, List.getElem?_cons_succ, List.getElem?_cons_zero, Option.some.injEq, Int.cast_ofNat_Int, Int.reduceToNat, Int.reduceEq, List.getD_cons_zero, List.getD_cons_succ, Int.reduceLT, Int.reduceLE]
  refine goK_ret (canC hc1 w hn) fun v H2 ⟨hv, hH⟩ => ?_
  subst hv; subst hH
  have hcb : c ≠ b1 := fun e => by subst e; rw [hc.hc] at hb1; cases hb1
  have hlb : l ≠ b1 := fun e => by subst e; rw [hc.hl] at hb1; cases hb1
  have hcl := hc.ne
  have hlc := Ne.symm hc.ne
  have h1 := hc.hc
  have h2 := hc.hl
  cases hcan : canW ws q w with
  | false =>
    simp (disch := first | omega | assumption) only [steps, mkArgs, pev, rev, oev, optr, ibin, sbin, bound, mmAll, mm2, mk, AV.cells, AV.boxable, AV.one, fillA, fillS, splice_cons, splice_succ, splice_zero, Nat.reduceEqDiff, reduceCtorEq, ↓reduceIte, Nat.reduceAdd, Int.reduceNeg, decide_true, decide_false, List.take_succ_cons, List.take_zero, List.drop_succ_cons, List.drop_zero, List.length_cons, List.length_nil, List.headD_cons, List.cons_append, List.nil_append, Option.map_some, Bool.not_true, Bool.not_false, Bool.false_eq_true, eq_self, List.replicate_zero, List.replicate_succ, List.set_cons_zero, List.set_cons_succ, Nat.lt_add_one, Nat.zero_lt_succ, Nat.le_refl, Nat.reduceLeDiff, Nat.reduceAdd, if_pos, upd_ne, List.getElem?_cons_succ, List.getElem?_cons_zero, Option.some.injEq, Int.cast_ofNat_Int, Int.reduceToNat, Int.reduceEq, List.getD_cons_zero, List.getD_cons_succ, Int.reduceLT, Int.reduceLE]
    refine hQ _ _ _ H [.agg [.str [], .sl .nil 1 []], .int .i64 0] nofun (by simp (disch := first | omega | assumption) only [ir44, resvs, resv, steps, mkArgs, pev, rev, oev, optr, ibin, sbin, bound, mmAll, mm2, mk, AV.cells, AV.boxable, AV.one, fillA, fillS, splice_cons, splice_succ, splice_zero, Nat.reduceEqDiff, reduceCtorEq, ↓reduceIte, Nat.reduceAdd, Int.reduceNeg, decide_true, decide_false, List.take_succ_cons, List.take_zero, List.drop_succ_cons, List.drop_zero, List.length_cons, List.length_nil, List.headD_cons, List.cons_append, List.nil_append, Option.map_some, Bool.not_true, Bool.not_false, Bool.false_eq_true, eq_self, List.replicate_zero, List.replicate_succ, List.set_cons_zero, List.set_cons_succ, Nat.lt_add_one, Nat.zero_lt_succ, Nat.le_refl, Nat.reduceLeDiff, Nat.reduceAdd, if_pos, upd_ne, List.getElem?_cons_succ, List.getElem?_cons_zero, Option.some.injEq, Int.cast_ofNat_Int, Int.reduceToNat, Int.reduceEq, List.getD_cons_zero, List.getD_cons_succ, Int.reduceLT, Int.reduceLE]) (Low.of_sub (sub_upd (sub_refl H) hb1)) ⟨?_, ⟨o, ?_⟩, fun b x _ _ h => h⟩
    · simp [stepW, hcan, tupOf, AV.strip, AV.strip1, cB, cT]
    · simpa [stepW, hcan] using hc
  | true =>
    have hcan' := hcan
    simp only [canW, Bool.and_eq_true, Bool.or_eq_true, decide_eq_true_eq] at hcan'
    obtain ⟨hw1, hw2, hw3⟩ := hcan'
    obtain ⟨a, x, b, rfl, ha⟩ := split_at (l := ws) (i := (w - 1).toNat) (by omega)
    have hw : w - 1 = (a.length : Int) := by omega
    have hlt : (a.length : Int) < ((a ++ x :: b).length : Nat) := by simp; omega
    have hx2 := hst x (by simp)
    rw [hw, Int.toNat_natCast, stage_mid] at hw3
    have hgd : (a ++ x :: b).getD a.length (0, ⟨[], []⟩) = x := by simp
    have hset : ∀ y, (a ++ x :: b).set a.length y = a ++ y :: b := fun y => by simp
    by_cases hx : x.1 = 0
    · cases q with
      | nil => simp [hx] at hw3
      | cons q0 qr =>
        simp (disch := first | omega | assumption) only [h1, h2, wrap64, hw, Int.toNat_natCast, Nat.zero_add, Nat.add_zero, hx, cB, cBs, List.map_cons, List.getD_cons_zero, Int.toNat_zero, cWs_drop0, cWs_drop1, splice_stage, splice_batch, cWs_length, List.length_append, Option.isNone_none, Int.zero_add, Int.reduceLT, steps, mkArgs, pev, rev, oev, optr, ibin, sbin, bound, mmAll, mm2, mk, AV.cells, AV.boxable, AV.one, fillA, fillS, splice_cons, splice_succ, splice_zero, Nat.reduceEqDiff, reduceCtorEq, ↓reduceIte, Nat.reduceAdd, Int.reduceNeg, decide_true, decide_false, List.take_succ_cons, List.take_zero, List.drop_succ_cons, List.drop_zero, List.length_cons, List.length_nil, List.headD_cons, List.cons_append, List.nil_append, Option.map_some, Bool.not_true, Bool.not_false, Bool.false_eq_true, eq_self, List.replicate_zero, List.replicate_succ, List.set_cons_zero, List.set_cons_succ, Nat.lt_add_one, Nat.zero_lt_succ, Nat.le_refl, Nat.reduceLeDiff, Nat.reduceAdd, if_pos, upd_ne, List.getElem?_cons_succ, List.getElem?_cons_zero, Option.some.injEq, Int.cast_ofNat_Int, Int.reduceToNat, Int.reduceEq, List.getD_cons_zero, List.getD_cons_succ, Int.reduceLT, Int.reduceLE]
        refine ⟨by omega, by omega, ?_⟩
        refine goK_pure (batchC q0 (hsm.2 q0 (by simp))) ?_
        simp (disch := first | omega | assumption) only [cB, steps, mkArgs, pev, rev, oev, optr, ibin, sbin, bound, mmAll, mm2, mk, AV.cells, AV.boxable, AV.one, fillA, fillS, splice_cons, splice_succ, splice_zero, Nat.reduceEqDiff, reduceCtorEq, ↓reduceIte, Nat.reduceAdd, Int.reduceNeg, decide_true, decide_false, List.take_succ_cons, List.take_zero, List.drop_succ_cons, List.drop_zero, List.length_cons, List.length_nil, List.headD_cons, List.cons_append, List.nil_append, Option.map_some, Bool.not_true, Bool.not_false, Bool.false_eq_true, eq_self, List.replicate_zero, List.replicate_succ, List.set_cons_zero, List.set_cons_succ, Nat.lt_add_one, Nat.zero_lt_succ, Nat.le_refl, Nat.reduceLeDiff, Nat.reduceAdd, if_pos, upd_ne, List.getElem?_cons_succ, List.getElem?_cons_zero, Option.some.injEq, Int.cast_ofNat_Int, Int.reduceToNat, Int.reduceEq, List.getD_cons_zero, List.getD_cons_succ, Int.reduceLT, Int.reduceLE]
        refine hQ _ _ _ _ [.agg (cB q0), .int .i64 1] nofun (by simp (disch := first | omega | assumption) only [ir44, resvs, resv, cB, steps, mkArgs, pev, rev, oev, optr, ibin, sbin, bound, mmAll, mm2, mk, AV.cells, AV.boxable, AV.one, fillA, fillS, splice_cons, splice_succ, splice_zero, Nat.reduceEqDiff, reduceCtorEq, ↓reduceIte, Nat.reduceAdd, Int.reduceNeg, decide_true, decide_false, List.take_succ_cons, List.take_zero, List.drop_succ_cons, List.drop_zero, List.length_cons, List.length_nil, List.headD_cons, List.cons_append, List.nil_append, Option.map_some, Bool.not_true, Bool.not_false, Bool.false_eq_true, eq_self, List.replicate_zero, List.replicate_succ, List.set_cons_zero, List.set_cons_succ, Nat.lt_add_one, Nat.zero_lt_succ, Nat.le_refl, Nat.reduceLeDiff, Nat.reduceAdd, if_pos, upd_ne, List.getElem?_cons_succ, List.getElem?_cons_zero, Option.some.injEq, Int.cast_ofNat_Int, Int.reduceToNat, Int.reduceEq, List.getD_cons_zero, List.getD_cons_succ, Int.reduceLT, Int.reduceLE]) (Low.refl _) ⟨?_, ⟨o.cut 1, ?_⟩, fun y z h3 h4 h5 => ?_⟩
        · simp [stepW, hcan, hw, hgd, hx, tupOf, AV.strip, AV.strip1, cB]
        · have e : (stepW (a ++ x :: b) (q0 :: qr) w).2 = (a ++ (1, q0) :: b, qr) := by simp [stepW, hcan, hw, hx]
          rw [e]
          refine ⟨?_, ?_, hcl, ?_⟩
          · simp [Heap.upd, hcb, hcl, cBs, cB, List.take_of_length_le]
          · simp [Heap.upd, hlb, hlc]
          · have := Owned.tail hc.own
            cases o with
            | tip t d =>
              have ht : H t = some (.tip (d + 1 + qr.length) 2) := this
              have n1 : t ≠ b1 := fun e => by subst e; rw [hb1] at ht; cases ht
              have n2 : t ≠ c := fun e => by subst e; rw [h1] at ht; cases ht
              have n3 : t ≠ l := fun e => by subst e; rw [h2] at ht; cases ht
              show _ = _
              simp [Heap.upd, n1, n2, n3, ht]
            | _ => exact this
        · have n1 : y ≠ b1 := fun e => by subst e; rw [hb1] at h5; cases h5
          simp [Heap.upd, n1, h3, h4, h5]
    · simp (disch := first | omega | assumption) only [h1, h2, wrap64, hw, Int.toNat_natCast, Nat.zero_add, Nat.add_zero, hx, cWs_drop0, cWs_drop1, splice_stage, splice_batch, cWs_length, List.length_append, steps, mkArgs, pev, rev, oev, optr, ibin, sbin, bound, mmAll, mm2, mk, AV.cells, AV.boxable, AV.one, fillA, fillS, splice_cons, splice_succ, splice_zero, Nat.reduceEqDiff, reduceCtorEq, ↓reduceIte, Nat.reduceAdd, Int.reduceNeg, decide_true, decide_false, List.take_succ_cons, List.take_zero, List.drop_succ_cons, List.drop_zero, List.length_cons, List.length_nil, List.headD_cons, List.cons_append, List.nil_append, Option.map_some, Bool.not_true, Bool.not_false, Bool.false_eq_true, eq_self, List.replicate_zero, List.replicate_succ, List.set_cons_zero, List.set_cons_succ, Nat.lt_add_one, Nat.zero_lt_succ, Nat.le_refl, Nat.reduceLeDiff, Nat.reduceAdd, if_pos, upd_ne, List.getElem?_cons_succ, List.getElem?_cons_zero, Option.some.injEq, Int.cast_ofNat_Int, Int.reduceToNat, Int.reduceEq, List.getD_cons_zero, List.getD_cons_succ, Int.reduceLT, Int.reduceLE]
      refine ⟨by omega, ?_⟩
      have own2 : ∀ y z y', Owned ((((H.upd b1 y).upd l z).upd b1 y')) o q.length 2 := fun y z y' => by
        have := hc.own
        cases o with
        | tip t d =>
          have ht : H t = some (.tip (d + q.length) 2) := this
          have n1 : t ≠ b1 := fun e => by subst e; rw [hb1] at ht; cases ht
          have n3 : t ≠ l := fun e => by subst e; rw [h2] at ht; cases ht
          show _ = _
          simp [Heap.upd, n1, n3, ht]
        | _ => exact this
      by_cases h3 : 2 < x.1 + 1
      · simp (disch := first | omega | assumption) only [h1, h2, h3, wrap64, hw, Int.toNat_natCast, Nat.zero_add, Nat.add_zero, hx, cWs_drop0, cWs_drop1, splice_stage, splice_batch, cWs_length, List.length_append, steps, mkArgs, pev, rev, oev, optr, ibin, sbin, bound, mmAll, mm2, mk, AV.cells, AV.boxable, AV.one, fillA, fillS, splice_cons, splice_succ, splice_zero, Nat.reduceEqDiff, reduceCtorEq, ↓reduceIte, Nat.reduceAdd, Int.reduceNeg, decide_true, decide_false, List.take_succ_cons, List.take_zero, List.drop_succ_cons, List.drop_zero, List.length_cons, List.length_nil, List.headD_cons, List.cons_append, List.nil_append, Option.map_some, Bool.not_true, Bool.not_false, Bool.false_eq_true, eq_self, List.replicate_zero, List.replicate_succ, List.set_cons_zero, List.set_cons_succ, Nat.lt_add_one, Nat.zero_lt_succ, Nat.le_refl, Nat.reduceLeDiff, Nat.reduceAdd, if_pos, upd_ne, List.getElem?_cons_succ, List.getElem?_cons_zero, Option.some.injEq, Int.cast_ofNat_Int, Int.reduceToNat, Int.reduceEq, List.getD_cons_zero, List.getD_cons_succ, Int.reduceLT, Int.reduceLE]
        refine ⟨by omega, ?_⟩
        refine goK_pure (batchC x.2 (hsm.1 x (by simp))) ?_
        simp (disch := first | omega | assumption) only [cB, steps, mkArgs, pev, rev, oev, optr, ibin, sbin, bound, mmAll, mm2, mk, AV.cells, AV.boxable, AV.one, fillA, fillS, splice_cons, splice_succ, splice_zero, Nat.reduceEqDiff, reduceCtorEq, ↓reduceIte, Nat.reduceAdd, Int.reduceNeg, decide_true, decide_false, List.take_succ_cons, List.take_zero, List.drop_succ_cons, List.drop_zero, List.length_cons, List.length_nil, List.headD_cons, List.cons_append, List.nil_append, Option.map_some, Bool.not_true, Bool.not_false, Bool.false_eq_true, eq_self, List.replicate_zero, List.replicate_succ, List.set_cons_zero, List.set_cons_succ, Nat.lt_add_one, Nat.zero_lt_succ, Nat.le_refl, Nat.reduceLeDiff, Nat.reduceAdd, if_pos, upd_ne, List.getElem?_cons_succ, List.getElem?_cons_zero, Option.some.injEq, Int.cast_ofNat_Int, Int.reduceToNat, Int.reduceEq, List.getD_cons_zero, List.getD_cons_succ, Int.reduceLT, Int.reduceLE]
        refine hQ _ _ _ _ [.agg (cB x.2), .int .i64 (x.1 + 1)] nofun (by simp (disch := first | omega | assumption) only [ir44, resvs, resv, cB, steps, mkArgs, pev, rev, oev, optr, ibin, sbin, bound, mmAll, mm2, mk, AV.cells, AV.boxable, AV.one, fillA, fillS, splice_cons, splice_succ, splice_zero, Nat.reduceEqDiff, reduceCtorEq, ↓reduceIte, Nat.reduceAdd, Int.reduceNeg, decide_true, decide_false, List.take_succ_cons, List.take_zero, List.drop_succ_cons, List.drop_zero, List.length_cons, List.length_nil, List.headD_cons, List.cons_append, List.nil_append, Option.map_some, Bool.not_true, Bool.not_false, Bool.false_eq_true, eq_self, List.replicate_zero, List.replicate_succ, List.set_cons_zero, List.set_cons_succ, Nat.lt_add_one, Nat.zero_lt_succ, Nat.le_refl, Nat.reduceLeDiff, Nat.reduceAdd, if_pos, upd_ne, List.getElem?_cons_succ, List.getElem?_cons_zero, Option.some.injEq, Int.cast_ofNat_Int, Int.reduceToNat, Int.reduceEq, List.getD_cons_zero, List.getD_cons_succ, Int.reduceLT, Int.reduceLE]) (Low.refl _) ⟨?_, ⟨o, ?_⟩, fun y z g3 g4 g5 => ?_⟩
        · simp [stepW, hcan, hw, hgd, hx, tupOf, AV.strip, AV.strip1, cB]
        · have e : (stepW (a ++ x :: b) q w).2 = (a ++ (0, x.2) :: b, q) := by simp [stepW, hcan, hw, hx, h3]
          rw [e]
          refine ⟨?_, ?_, hcl, ?_⟩
          · simp [Heap.upd, hcb, hcl, h1]
          · simp [Heap.upd, hlb, hlc]
          · exact own2 _ _ _
        · have n1 : y ≠ b1 := fun e => by subst e; rw [hb1] at g5; cases g5
          simp [Heap.upd, n1, g3, g4, g5]
      · simp (disch := first | omega | assumption) only [h1, h2, h3, wrap64, hw, Int.toNat_natCast, Nat.zero_add, Nat.add_zero, hx, cWs_drop0, cWs_drop1, splice_stage, splice_batch, cWs_length, List.length_append, steps, mkArgs, pev, rev, oev, optr, ibin, sbin, bound, mmAll, mm2, mk, AV.cells, AV.boxable, AV.one, fillA, fillS, splice_cons, splice_succ, splice_zero, Nat.reduceEqDiff, reduceCtorEq, ↓reduceIte, Nat.reduceAdd, Int.reduceNeg, decide_true, decide_false, List.take_succ_cons, List.take_zero, List.drop_succ_cons, List.drop_zero, List.length_cons, List.length_nil, List.headD_cons, List.cons_append, List.nil_append, Option.map_some, Bool.not_true, Bool.not_false, Bool.false_eq_true, eq_self, List.replicate_zero, List.replicate_succ, List.set_cons_zero, List.set_cons_succ, Nat.lt_add_one, Nat.zero_lt_succ, Nat.le_refl, Nat.reduceLeDiff, Nat.reduceAdd, if_pos, upd_ne, List.getElem?_cons_succ, List.getElem?_cons_zero, Option.some.injEq, Int.cast_ofNat_Int, Int.reduceToNat, Int.reduceEq, List.getD_cons_zero, List.getD_cons_succ, Int.reduceLT, Int.reduceLE]
        refine goK_pure (batchC x.2 (hsm.1 x (by simp))) ?_
        simp (disch := first | omega | assumption) only [cB, steps, mkArgs, pev, rev, oev, optr, ibin, sbin, bound, mmAll, mm2, mk, AV.cells, AV.boxable, AV.one, fillA, fillS, splice_cons, splice_succ, splice_zero, Nat.reduceEqDiff, reduceCtorEq, ↓reduceIte, Nat.reduceAdd, Int.reduceNeg, decide_true, decide_false, List.take_succ_cons, List.take_zero, List.drop_succ_cons, List.drop_zero, List.length_cons, List.length_nil, List.headD_cons, List.cons_append, List.nil_append, Option.map_some, Bool.not_true, Bool.not_false, Bool.false_eq_true, eq_self, List.replicate_zero, List.replicate_succ, List.set_cons_zero, List.set_cons_succ, Nat.lt_add_one, Nat.zero_lt_succ, Nat.le_refl, Nat.reduceLeDiff, Nat.reduceAdd, if_pos, upd_ne, List.getElem?_cons_succ, List.getElem?_cons_zero, Option.some.injEq, Int.cast_ofNat_Int, Int.reduceToNat, Int.reduceEq, List.getD_cons_zero, List.getD_cons_succ, Int.reduceLT, Int.reduceLE]
        refine hQ _ _ _ _ [.agg (cB x.2), .int .i64 (x.1 + 1)] nofun (by simp (disch := first | omega | assumption) only [ir44, resvs, resv, cB, steps, mkArgs, pev, rev, oev, optr, ibin, sbin, bound, mmAll, mm2, mk, AV.cells, AV.boxable, AV.one, fillA, fillS, splice_cons, splice_succ, splice_zero, Nat.reduceEqDiff, reduceCtorEq, ↓reduceIte, Nat.reduceAdd, Int.reduceNeg, decide_true, decide_false, List.take_succ_cons, List.take_zero, List.drop_succ_cons, List.drop_zero, List.length_cons, List.length_nil, List.headD_cons, List.cons_append, List.nil_append, Option.map_some, Bool.not_true, Bool.not_false, Bool.false_eq_true, eq_self, List.replicate_zero, List.replicate_succ, List.set_cons_zero, List.set_cons_succ, Nat.lt_add_one, Nat.zero_lt_succ, Nat.le_refl, Nat.reduceLeDiff, Nat.reduceAdd, if_pos, upd_ne, List.getElem?_cons_succ, List.getElem?_cons_zero, Option.some.injEq, Int.cast_ofNat_Int, Int.reduceToNat, Int.reduceEq, List.getD_cons_zero, List.getD_cons_succ, Int.reduceLT, Int.reduceLE]) (Low.refl _) ⟨?_, ⟨o, ?_⟩, fun y z g3 g4 g5 => ?_⟩
        · simp [stepW, hcan, hw, hgd, hx, tupOf, AV.strip, AV.strip1, cB]
        · have e : (stepW (a ++ x :: b) q w).2 = (a ++ (x.1 + 1, x.2) :: b, q) := by simp [stepW, hcan, hw, hx, h3]
          rw [e]
          refine ⟨?_, ?_, hcl, ?_⟩
          · simp [Heap.upd, hcb, hcl, h1]
          · simp [Heap.upd, hlb, hlc]
          · exact own2 _ _ _
        · have n1 : y ≠ b1 := fun e => by subst e; rw [hb1] at g5; cases g5
          simp [Heap.upd, n1, g3, g4, g5]

def idle (n : Nat) : List (Int × Batch) := List.replicate n (0, ⟨[], []⟩)

theorem madeW (n : Nat) : (madeA [.int .i64 0, .str [], .sl .nil 1 []] n).map AV.strip1 = cWs (idle n) := by
  induction n with
  | zero => rfl
  | succ n ih => simp only [madeA, List.map_append, ih, idle, List.replicate_succ, cWs_cons]; rfl

theorem newC {H : Heap} (n : Int) (h1 : 1 ≤ n) (h2 : n ≤ 16) :
    ACalls Try.prog 39 [.int .i64 n] H (fun e H' => ∃ v, e = .ret v ∧ ∃ c l, v = .ptr c 0 ∧ CrewAt H' c l .nil (idle n.toNat) [] ∧ Sub H H' ∧ H c = none ∧ H l = none) := by
  refine ACalls.go ir39 ck39 (Nat.le_refl _) fun KP Q hQ => ?_
  have a1 : ¬ n < 1 := by omega
  have a2 : ¬ (16 < n) := by omega
  simp (disch := first | omega | assumption) only [ir39, a1, a2, steps, mkArgs, pev, rev, oev, optr, ibin, sbin, bound, mmAll, mm2, mk, AV.cells, AV.boxable, AV.one, fillA, fillS, splice_cons, splice_succ, splice_zero, Nat.reduceEqDiff, reduceCtorEq, ↓reduceIte, Nat.reduceAdd, Int.reduceNeg, decide_true, decide_false, List.take_succ_cons, List.take_zero, List.drop_succ_cons, List.drop_zero, List.length_cons, List.length_nil, List.headD_cons, List.cons_append, List.nil_append, Option.map_some, Bool.not_true, Bool.not_false, Bool.false_eq_true, eq_self, List.replicate_zero, List.replicate_succ, List.set_cons_zero, List.set_cons_succ, Nat.lt_add_one, Nat.zero_lt_succ, Nat.le_refl, Nat.reduceLeDiff, Nat.reduceAdd, if_pos, upd_ne, List.getElem?_cons_succ, List.getElem?_cons_zero, Option.some.injEq, Int.cast_ofNat_Int, Int.reduceToNat, Int.reduceEq, List.getD_cons_zero, List.getD_cons_succ, Int.reduceLT, Int.reduceLE]
  refine goA_intro fun l hl => ?_
  simp (disch := first | omega | assumption) only [steps, mkArgs, pev, rev, oev, optr, ibin, sbin, bound, mmAll, mm2, mk, AV.cells, AV.boxable, AV.one, fillA, fillS, splice_cons, splice_succ, splice_zero, Nat.reduceEqDiff, reduceCtorEq, ↓reduceIte, Nat.reduceAdd, Int.reduceNeg, decide_true, decide_false, List.take_succ_cons, List.take_zero, List.drop_succ_cons, List.drop_zero, List.length_cons, List.length_nil, List.headD_cons, List.cons_append, List.nil_append, Option.map_some, Bool.not_true, Bool.not_false, Bool.false_eq_true, eq_self, List.replicate_zero, List.replicate_succ, List.set_cons_zero, List.set_cons_succ, Nat.lt_add_one, Nat.zero_lt_succ, Nat.le_refl, Nat.reduceLeDiff, Nat.reduceAdd, if_pos, upd_ne, List.getElem?_cons_succ, List.getElem?_cons_zero, Option.some.injEq, Int.cast_ofNat_Int, Int.reduceToNat, Int.reduceEq, List.getD_cons_zero, List.getD_cons_succ, Int.reduceLT, Int.reduceLE]
  refine goA_intro fun c hc => ?_
  have hne := ne_fresh hc
  have hc0 := fresh_of hc
  simp (disch := first | omega | assumption) only [steps, mkArgs, pev, rev, oev, optr, ibin, sbin, bound, mmAll, mm2, mk, AV.cells, AV.boxable, AV.one, fillA, fillS, splice_cons, splice_succ, splice_zero, Nat.reduceEqDiff, reduceCtorEq, ↓reduceIte, Nat.reduceAdd, Int.reduceNeg, decide_true, decide_false, List.take_succ_cons, List.take_zero, List.drop_succ_cons, List.drop_zero, List.length_cons, List.length_nil, List.headD_cons, List.cons_append, List.nil_append, Option.map_some, Bool.not_true, Bool.not_false, Bool.false_eq_true, eq_self, List.replicate_zero, List.replicate_succ, List.set_cons_zero, List.set_cons_succ, Nat.lt_add_one, Nat.zero_lt_succ, Nat.le_refl, Nat.reduceLeDiff, Nat.reduceAdd, if_pos, upd_ne, List.getElem?_cons_succ, List.getElem?_cons_zero, Option.some.injEq, Int.cast_ofNat_Int, Int.reduceToNat, Int.reduceEq, List.getD_cons_zero, List.getD_cons_succ, Int.reduceLT, Int.reduceLE]
  have hl2 : ((H.upd l (.cells (madeA [.int .i64 0, .str [], .sl .nil 1 []] n.toNat))).upd c (.cells [.ms l 0 n.toNat n.toNat, .sl .nil 2 []])) l = some (.cells (madeA [.int .i64 0, .str [], .sl .nil 1 []] n.toNat)) := by
    simp [Heap.upd, Ne.symm hne]
  refine hQ _ _ _ _ _ nofun rfl (Low.cells hl2) ⟨c, l, ?_, ⟨?_, ?_, hne, rfl⟩, ?_, hc0, hl⟩
  · simp [tupOf, envOf, AV.strip, AV.strip1]
  · simp [Heap.upd, hne, idle, cBs]
  · rw [upd_same, madeW]
  · intro b x hb
    have n1 : b ≠ l := fun e => by subst e; rw [hl] at hb; cases hb
    have n2 : b ≠ c := fun e => by subst e; rw [hc0] at hb; cases hb
    simp [Heap.upd, n1, n2, hb]

theorem newBad {H : Heap} (n : Int) (h1 : n < 1 ∨ 16 < n) : ACalls Try.prog 39 [.int .i64 n] H (fun e H' => ∃ v, e = .ret v ∧ (v = .nilp ∧ H' = H)) := by
  refine ACalls.go ir39 ck39 (Nat.le_refl _) fun KP Q hQ => ?_
  by_cases a1 : n < 1
  · simp (disch := first | omega | assumption) only [ir39, a1, steps, mkArgs, pev, rev, oev, optr, ibin, sbin, bound, mmAll, mm2, mk, AV.cells, AV.boxable, AV.one, fillA, fillS, splice_cons, splice_succ, splice_zero, Nat.reduceEqDiff, reduceCtorEq, ↓reduceIte, Nat.reduceAdd, Int.reduceNeg, decide_true, decide_false, List.take_succ_cons, List.take_zero, List.drop_succ_cons, List.drop_zero, List.length_cons, List.length_nil, List.headD_cons, List.cons_append, List.nil_append, Option.map_some, Bool.not_true, Bool.not_false, Bool.false_eq_true, eq_self, List.replicate_zero, List.replicate_succ, List.set_cons_zero, List.set_cons_succ, Nat.lt_add_one, Nat.zero_lt_succ, Nat.le_refl, Nat.reduceLeDiff, Nat.reduceAdd, if_pos, upd_ne, List.getElem?_cons_succ, List.getElem?_cons_zero, Option.some.injEq, Int.cast_ofNat_Int, Int.reduceToNat, Int.reduceEq, List.getD_cons_zero, List.getD_cons_succ, Int.reduceLT, Int.reduceLE]
    exact hQ _ _ _ H _ nofun rfl (Low.refl _) ⟨rfl, rfl⟩
  · have a2 : 16 < n := by omega
    simp (disch := first | omega | assumption) only [ir39, a1, a2, steps, mkArgs, pev, rev, oev, optr, ibin, sbin, bound, mmAll, mm2, mk, AV.cells, AV.boxable, AV.one, fillA, fillS, splice_cons, splice_succ, splice_zero, Nat.reduceEqDiff, reduceCtorEq, ↓reduceIte, Nat.reduceAdd, Int.reduceNeg, decide_true, decide_false, List.take_succ_cons, List.take_zero, List.drop_succ_cons, List.drop_zero, List.length_cons, List.length_nil, List.headD_cons, List.cons_append, List.nil_append, Option.map_some, Bool.not_true, Bool.not_false, Bool.false_eq_true, eq_self, List.replicate_zero, List.replicate_succ, List.set_cons_zero, List.set_cons_succ, Nat.lt_add_one, Nat.zero_lt_succ, Nat.le_refl, Nat.reduceLeDiff, Nat.reduceAdd, if_pos, upd_ne, List.getElem?_cons_succ, List.getElem?_cons_zero, Option.some.injEq, Int.cast_ofNat_Int, Int.reduceToNat, Int.reduceEq, List.getD_cons_zero, List.getD_cons_succ, Int.reduceLT, Int.reduceLE]
    exact hQ _ _ _ H _ nofun rfl (Low.refl _) ⟨rfl, rfl⟩

/-- Batches come to wait. -/
theorem layC {H : Heap} {c l : Nat} {o : Own} {ws : List (Int × Batch)} {q : List Batch} (hc : CrewAt H c l o ws q) (bs : List Batch) (hsm : ∀ b ∈ bs, b.small) (hlen : (q.length + bs.length) * 40 ≤ 140737488355328) :
    ACalls Try.prog 40 [.ptr c 0, .sl .no 2 (cBs bs)] H (fun e H' => ∃ v, e = .ret v ∧ (v = .tup [] ∧ (∃ o', CrewAt H' c l o' ws (q ++ bs)) ∧ ∀ b x, b ≠ c → (∀ d, o ≠ .tip b d) → H b = some x → H' b = some x)) := by
  refine ACalls.go ir40 ck40 (Nat.le_refl _) fun KP Q hQ => ?_
  have hbl := cBs_length bs
  simp (disch := first | omega | assumption) only [ir40, hbl, steps, mkArgs, pev, rev, oev, optr, ibin, sbin, bound, mmAll, mm2, mk, AV.cells, AV.boxable, AV.one, fillA, fillS, splice_cons, splice_succ, splice_zero, Nat.reduceEqDiff, reduceCtorEq, ↓reduceIte, Nat.reduceAdd, Int.reduceNeg, decide_true, decide_false, List.take_succ_cons, List.take_zero, List.drop_succ_cons, List.drop_zero, List.length_cons, List.length_nil, List.headD_cons, List.cons_append, List.nil_append, Option.map_some, Bool.not_true, Bool.not_false, Bool.false_eq_true, eq_self, List.replicate_zero, List.replicate_succ, List.set_cons_zero, List.set_cons_succ, Nat.lt_add_one, Nat.zero_lt_succ, Nat.le_refl, Nat.reduceLeDiff, Nat.reduceAdd, if_pos, upd_ne, List.getElem?_cons_succ, List.getElem?_cons_zero, Option.some.injEq, Int.cast_ofNat_Int, Int.reduceToNat, Int.reduceEq, List.getD_cons_zero, List.getD_cons_succ, Int.reduceLT, Int.reduceLE]
  refine goL_rule (fun n ρ H' => ∃ done rest o', bs = done ++ rest ∧ n = rest.length ∧ ρ = envOf [(0, .ptr c 0), (8, .sl .no 2 (cBs bs)), (9, .int .i64 bs.length), (10, .int .i64 done.length)] ∧ CrewAt H' c l o' ws (q ++ done) ∧ (∀ b d, o' = .tip b d → H b = none ∨ ∃ d0, o = .tip b d0) ∧ ∀ b x, b ≠ c → (∀ d, o ≠ .tip b d) → H b = some x → H' b = some x) bs.length ⟨[], bs, o, rfl, rfl, by simp (disch := first | omega | assumption) only [steps, mkArgs, pev, rev, oev, optr, ibin, sbin, bound, mmAll, mm2, mk, AV.cells, AV.boxable, AV.one, fillA, fillS, splice_cons, splice_succ, splice_zero, Nat.reduceEqDiff, reduceCtorEq, ↓reduceIte, Nat.reduceAdd, Int.reduceNeg, decide_true, decide_false, List.take_succ_cons, List.take_zero, List.drop_succ_cons, List.drop_zero, List.length_cons, List.length_nil, List.headD_cons, List.cons_append, List.nil_append, Option.map_some, Bool.not_true, Bool.not_false, Bool.false_eq_true, eq_self, List.replicate_zero, List.replicate_succ, List.set_cons_zero, List.set_cons_succ, Nat.lt_add_one, Nat.zero_lt_succ, Nat.le_refl, Nat.reduceLeDiff, Nat.reduceAdd, if_pos, upd_ne, List.getElem?_cons_succ, List.getElem?_cons_zero, Option.some.injEq, Int.cast_ofNat_Int, Int.reduceToNat, Int.reduceEq, List.getD_cons_zero, List.getD_cons_succ, Int.reduceLT, Int.reduceLE] <;> simp, by simpa using hc, fun b d e => .inr ⟨d, e⟩, fun b x _ _ h => h⟩ ?_
  rintro n ρ H' J ⟨done, rest, o', hd, rfl, rfl, hc', htip, hkeep⟩ hJ
  cases rest with
  | nil =>
    have hlt : ¬ ((done.length : Int) < bs.length) := by rw [hd]; simp
    simp (disch := first | omega | assumption) only [hlt, steps, mkArgs, pev, rev, oev, optr, ibin, sbin, bound, mmAll, mm2, mk, AV.cells, AV.boxable, AV.one, fillA, fillS, splice_cons, splice_succ, splice_zero, Nat.reduceEqDiff, reduceCtorEq, ↓reduceIte, Nat.reduceAdd, Int.reduceNeg, decide_true, decide_false, List.take_succ_cons, List.take_zero, List.drop_succ_cons, List.drop_zero, List.length_cons, List.length_nil, List.headD_cons, List.cons_append, List.nil_append, Option.map_some, Bool.not_true, Bool.not_false, Bool.false_eq_true, eq_self, List.replicate_zero, List.replicate_succ, List.set_cons_zero, List.set_cons_succ, Nat.lt_add_one, Nat.zero_lt_succ, Nat.le_refl, Nat.reduceLeDiff, Nat.reduceAdd, if_pos, upd_ne, List.getElem?_cons_succ, List.getElem?_cons_zero, Option.some.injEq, Int.cast_ofNat_Int, Int.reduceToNat, Int.reduceEq, List.getD_cons_zero, List.getD_cons_succ, Int.reduceLT, Int.reduceLE]
    simp only [List.append_nil] at hd
    subst hd
    exact hQ _ _ _ H' _ nofun rfl (Low.refl _) ⟨rfl, ⟨o', hc'⟩, hkeep⟩
  | cons x r =>
    have hlt : ((done.length : Int) < bs.length) := by rw [hd]; simp; omega
    have hg : (cBs bs).getD done.length [] = cB x := by rw [hd]; exact mid cB done x r
    have hdl : done.length + r.length + 1 = bs.length := by rw [hd]; simp; omega
    have h1 := hc'.hc
    have hql := cBs_length (q ++ done)
    simp only [List.length_append] at hql
    simp (disch := first | omega | assumption) only [hlt, hbl, Int.toNat_natCast, hg, cB, steps, mkArgs, pev, rev, oev, optr, ibin, sbin, bound, mmAll, mm2, mk, AV.cells, AV.boxable, AV.one, fillA, fillS, splice_cons, splice_succ, splice_zero, Nat.reduceEqDiff, reduceCtorEq, ↓reduceIte, Nat.reduceAdd, Int.reduceNeg, decide_true, decide_false, List.take_succ_cons, List.take_zero, List.drop_succ_cons, List.drop_zero, List.length_cons, List.length_nil, List.headD_cons, List.cons_append, List.nil_append, Option.map_some, Bool.not_true, Bool.not_false, Bool.false_eq_true, eq_self, List.replicate_zero, List.replicate_succ, List.set_cons_zero, List.set_cons_succ, Nat.lt_add_one, Nat.zero_lt_succ, Nat.le_refl, Nat.reduceLeDiff, Nat.reduceAdd, if_pos, upd_ne, List.getElem?_cons_succ, List.getElem?_cons_zero, Option.some.injEq, Int.cast_ofNat_Int, Int.reduceToNat, Int.reduceEq, List.getD_cons_zero, List.getD_cons_succ, Int.reduceLT, Int.reduceLE]
    refine goA_intro fun b1 hb1 => ?_
    have hcb : c ≠ b1 := fun e => by subst e; rw [hc'.hc] at hb1; cases hb1
    have hlb : l ≠ b1 := fun e => by subst e; rw [hc'.hl] at hb1; cases hb1
    have hlc := Ne.symm hc'.ne
    simp (disch := first | omega | assumption) only [h1, steps, mkArgs, pev, rev, oev, optr, ibin, sbin, bound, mmAll, mm2, mk, AV.cells, AV.boxable, AV.one, fillA, fillS, splice_cons, splice_succ, splice_zero, Nat.reduceEqDiff, reduceCtorEq, ↓reduceIte, Nat.reduceAdd, Int.reduceNeg, decide_true, decide_false, List.take_succ_cons, List.take_zero, List.drop_succ_cons, List.drop_zero, List.length_cons, List.length_nil, List.headD_cons, List.cons_append, List.nil_append, Option.map_some, Bool.not_true, Bool.not_false, Bool.false_eq_true, eq_self, List.replicate_zero, List.replicate_succ, List.set_cons_zero, List.set_cons_succ, Nat.lt_add_one, Nat.zero_lt_succ, Nat.le_refl, Nat.reduceLeDiff, Nat.reduceAdd, if_pos, upd_ne, List.getElem?_cons_succ, List.getElem?_cons_zero, Option.some.injEq, Int.cast_ofNat_Int, Int.reduceToNat, Int.reduceEq, List.getD_cons_zero, List.getD_cons_succ, Int.reduceLT, Int.reduceLE]
    refine goK_pure (batchC x (hsm x (by rw [hd]; simp))) ?_
    simp (disch := first | omega | assumption) only [h1, cB, steps, mkArgs, pev, rev, oev, optr, ibin, sbin, bound, mmAll, mm2, mk, AV.cells, AV.boxable, AV.one, fillA, fillS, splice_cons, splice_succ, splice_zero, Nat.reduceEqDiff, reduceCtorEq, ↓reduceIte, Nat.reduceAdd, Int.reduceNeg, decide_true, decide_false, List.take_succ_cons, List.take_zero, List.drop_succ_cons, List.drop_zero, List.length_cons, List.length_nil, List.headD_cons, List.cons_append, List.nil_append, Option.map_some, Bool.not_true, Bool.not_false, Bool.false_eq_true, eq_self, List.replicate_zero, List.replicate_succ, List.set_cons_zero, List.set_cons_succ, Nat.lt_add_one, Nat.zero_lt_succ, Nat.le_refl, Nat.reduceLeDiff, Nat.reduceAdd, if_pos, upd_ne, List.getElem?_cons_succ, List.getElem?_cons_zero, Option.some.injEq, Int.cast_ofNat_Int, Int.reduceToNat, Int.reduceEq, List.getD_cons_zero, List.getD_cons_succ, Int.reduceLT, Int.reduceLE]
    have hkl : q.length + done.length + 1 ≤ q.length + bs.length := by omega
    refine goP_own (by rw [hql, ← List.length_append]; exact hc'.own.upd hb1) ?_ ?_ fun o2 H2 g1 g2 g3 => ?_
    · simp only [hql, List.length_cons, List.length_nil]; omega
    · simp only [hql, List.length_cons, List.length_nil, maxLen]; omega
    have nc : ∀ d, o' ≠ .tip c d := fun d e => by
      have := hc'.own; subst e
      have h2 : H' c = _ := this
      rw [h1] at h2; cases h2
    have nl : ∀ d, o' ≠ .tip l d := fun d e => by
      have := hc'.own; subst e
      have h2 : H' l = _ := this
      rw [hc'.hl] at h2; cases h2
    have k1 := g2 c _ (by rw [upd_ne hcb]; exact h1) nc
    have k2 := g2 l _ (by rw [upd_ne hlb]; exact hc'.hl) nl
    simp (disch := first | omega | assumption) only [k1, wrap64, steps, mkArgs, pev, rev, oev, optr, ibin, sbin, bound, mmAll, mm2, mk, AV.cells, AV.boxable, AV.one, fillA, fillS, splice_cons, splice_succ, splice_zero, Nat.reduceEqDiff, reduceCtorEq, ↓reduceIte, Nat.reduceAdd, Int.reduceNeg, decide_true, decide_false, List.take_succ_cons, List.take_zero, List.drop_succ_cons, List.drop_zero, List.length_cons, List.length_nil, List.headD_cons, List.cons_append, List.nil_append, Option.map_some, Bool.not_true, Bool.not_false, Bool.false_eq_true, eq_self, List.replicate_zero, List.replicate_succ, List.set_cons_zero, List.set_cons_succ, Nat.lt_add_one, Nat.zero_lt_succ, Nat.le_refl, Nat.reduceLeDiff, Nat.reduceAdd, if_pos, upd_ne, List.getElem?_cons_succ, List.getElem?_cons_zero, Option.some.injEq, Int.cast_ofNat_Int, Int.reduceToNat, Int.reduceEq, List.getD_cons_zero, List.getD_cons_succ, Int.reduceLT, Int.reduceLE]
    refine hJ r.length _ _ (by simp) ⟨done ++ [x], r, o2, by simp [hd], rfl, ?_, ⟨?_, ?_, hc'.ne, ?_⟩, ?_, ?_⟩
    · simp
    · rw [upd_same]; simp [cBs, cB, AV.strip1]
    · rw [upd_ne hlc]; exact k2
    · have : Owned H2 o2 (q ++ (done ++ [x])).length 2 := by
        rw [hql] at g1; simpa [Nat.add_assoc] using g1
      cases o2 with
      | tip t d =>
        have ht : H2 t = _ := this
        have n1 : t ≠ c := fun e => by subst e; rw [k1] at ht; cases ht
        show _ = _
        rw [upd_ne n1]; exact ht
      | _ => exact this
    · intro b d e
      rcases g3 b d e with h5 | ⟨d0, h5⟩
      · have h6 := fresh_of h5
        by_cases hbo : ∃ d, o = .tip b d
        · exact .inr hbo
        · cases hb : H b with
          | none => exact .inl rfl
          | some z =>
            by_cases hbc : b = c
            · subst hbc; rw [h1] at h6; cases h6
            · have := hkeep b z hbc (fun d e => hbo ⟨d, e⟩) hb
              rw [h6] at this; cases this
      · exact htip b d0 h5
    · intro b z h5 h6 h7
      have h8 := hkeep b z h5 h6 h7
      rw [upd_ne h5]
      refine g2 b z (by rw [upd_ne]; exact h8; exact fun e => by subst e; rw [hb1] at h8; cases h8) fun d e => ?_
      rcases htip b d e with h9 | ⟨d0, h9⟩
      · rw [h7] at h9; cases h9
      · exact h6 d0 h9

/-! ### Turn -/

def minL : List Int → Int → Int
  | [], m => m
  | x :: r, m => minL r (if x < m then x else m)

theorem minC (x : Int) (r : List Int) (hl : (x :: r).length ≤ maxLen) : Pure Try.prog 55 [.sl .no 1 (cI (x :: r))] (.int .i64 (minL r x)) := by
  refine Pure.go ir55 ck55 (Nat.le_refl _) fun KP Q hQ => ?_
  have hlen := cI_length (x :: r)
  have hmax : maxLen = 9223372036854775807 := rfl
  simp only [List.length_cons] at hlen hl
  have h1 : ¬ ((↑(r.length + 1) : Int) < 1) := by omega
  have g0 : (cI (x :: r)).getD 0 [] = [.int .i64 x] := rfl
  generalize hL : cI (x :: r) = L at *
  simp (disch := first | omega | assumption) only [ir55, hlen, h1, Int.toNat_zero, g0, steps, mkArgs, pev, rev, oev, optr, ibin, sbin, bound, mmAll, mm2, mk, AV.cells, AV.boxable, AV.one, fillA, fillS, splice_cons, splice_succ, splice_zero, Nat.reduceEqDiff, reduceCtorEq, ↓reduceIte, Nat.reduceAdd, Int.reduceNeg, decide_true, decide_false, List.take_succ_cons, List.take_zero, List.drop_succ_cons, List.drop_zero, List.length_cons, List.length_nil, List.headD_cons, List.cons_append, List.nil_append, Option.map_some, Bool.not_true, Bool.not_false, Bool.false_eq_true, eq_self, List.replicate_zero, List.replicate_succ, List.set_cons_zero, List.set_cons_succ, Nat.lt_add_one, Nat.zero_lt_succ, Nat.le_refl, Nat.reduceLeDiff, Nat.reduceAdd, if_pos, upd_ne, List.getElem?_cons_succ, List.getElem?_cons_zero, Option.some.injEq, Int.cast_ofNat_Int, Int.reduceToNat, Int.reduceEq, List.getD_cons_zero, List.getD_cons_succ, Int.reduceLT, Int.reduceLE]
  refine goL_rule (fun n ρ H => ∃ done rest m, r = done ++ rest ∧ n = rest.length ∧ ρ = envOf [(0, .sl .no 1 L), (3, .int .i64 m), (4, .int .i64 ((done.length : Int) + 1))] ∧ minL rest m = minL r x ∧ H = Heap.emp) r.length ⟨[], r, x, rfl, rfl, by simp (disch := first | omega | assumption) only [steps, mkArgs, pev, rev, oev, optr, ibin, sbin, bound, mmAll, mm2, mk, AV.cells, AV.boxable, AV.one, fillA, fillS, splice_cons, splice_succ, splice_zero, Nat.reduceEqDiff, reduceCtorEq, ↓reduceIte, Nat.reduceAdd, Int.reduceNeg, decide_true, decide_false, List.take_succ_cons, List.take_zero, List.drop_succ_cons, List.drop_zero, List.length_cons, List.length_nil, List.headD_cons, List.cons_append, List.nil_append, Option.map_some, Bool.not_true, Bool.not_false, Bool.false_eq_true, eq_self, List.replicate_zero, List.replicate_succ, List.set_cons_zero, List.set_cons_succ, Nat.lt_add_one, Nat.zero_lt_succ, Nat.le_refl, Nat.reduceLeDiff, Nat.reduceAdd, if_pos, upd_ne, List.getElem?_cons_succ, List.getElem?_cons_zero, Option.some.injEq, Int.cast_ofNat_Int, Int.reduceToNat, Int.reduceEq, List.getD_cons_zero, List.getD_cons_succ, Int.reduceLT, Int.reduceLE] <;> simp, rfl, rfl⟩ ?_
  rintro n ρ H J ⟨done, rest, m, hd, rfl, rfl, hm, rfl⟩ hJ
  have hll : r.length = done.length + rest.length := by rw [hd]; simp
  cases rest with
  | nil =>
    have hlt : ¬ ((done.length : Int) + 1 < (↑(r.length + 1) : Int)) := by simp at hll; omega
    simp (disch := first | omega | assumption) only [hlen, hlt, steps, mkArgs, pev, rev, oev, optr, ibin, sbin, bound, mmAll, mm2, mk, AV.cells, AV.boxable, AV.one, fillA, fillS, splice_cons, splice_succ, splice_zero, Nat.reduceEqDiff, reduceCtorEq, ↓reduceIte, Nat.reduceAdd, Int.reduceNeg, decide_true, decide_false, List.take_succ_cons, List.take_zero, List.drop_succ_cons, List.drop_zero, List.length_cons, List.length_nil, List.headD_cons, List.cons_append, List.nil_append, Option.map_some, Bool.not_true, Bool.not_false, Bool.false_eq_true, eq_self, List.replicate_zero, List.replicate_succ, List.set_cons_zero, List.set_cons_succ, Nat.lt_add_one, Nat.zero_lt_succ, Nat.le_refl, Nat.reduceLeDiff, Nat.reduceAdd, if_pos, upd_ne, List.getElem?_cons_succ, List.getElem?_cons_zero, Option.some.injEq, Int.cast_ofNat_Int, Int.reduceToNat, Int.reduceEq, List.getD_cons_zero, List.getD_cons_succ, Int.reduceLT, Int.reduceLE]
    refine hQ _ _ _ _ nofun rfl ?_
    simpa [tupOf, envOf, AV.strip, AV.strip1, minL] using hm
  | cons y s =>
    simp only [List.length_cons] at hll
    have hlt : ((done.length : Int) + 1 < (↑(r.length + 1) : Int)) := by omega
    have e1 : L.getD (done.length + 1) [] = [.int .i64 y] := by rw [← hL, hd]; simp [cI]
    have e2 : ((done.length : Int) + 1).toNat = done.length + 1 := by omega
    simp (disch := first | omega | assumption) only [hlen, hlt, e1, e2, wrap64, steps, mkArgs, pev, rev, oev, optr, ibin, sbin, bound, mmAll, mm2, mk, AV.cells, AV.boxable, AV.one, fillA, fillS, splice_cons, splice_succ, splice_zero, Nat.reduceEqDiff, reduceCtorEq, ↓reduceIte, Nat.reduceAdd, Int.reduceNeg, decide_true, decide_false, List.take_succ_cons, List.take_zero, List.drop_succ_cons, List.drop_zero, List.length_cons, List.length_nil, List.headD_cons, List.cons_append, List.nil_append, Option.map_some, Bool.not_true, Bool.not_false, Bool.false_eq_true, eq_self, List.replicate_zero, List.replicate_succ, List.set_cons_zero, List.set_cons_succ, Nat.lt_add_one, Nat.zero_lt_succ, Nat.le_refl, Nat.reduceLeDiff, Nat.reduceAdd, if_pos, upd_ne, List.getElem?_cons_succ, List.getElem?_cons_zero, Option.some.injEq, Int.cast_ofNat_Int, Int.reduceToNat, Int.reduceEq, List.getD_cons_zero, List.getD_cons_succ, Int.reduceLT, Int.reduceLE]
    refine hJ s.length _ _ (by simp) ⟨done ++ [y], s, if y < m then y else m, by simp [hd], rfl, ?_, ?_, rfl⟩
    · simp
    · simpa [minL] using hm

def turnP (p : Int) (l : List Int) : Int := match l with
  | [] => -1
  | x :: r => if p ∈ x :: r then p else minL r x

theorem turnC (p : Int) (l : List Int) (hl : l.length ≤ maxLen) : Pure Try.prog 24 [.int .i64 p, .sl .no 1 (cI l)] (.int .i64 (turnP p l)) := by
  refine Pure.go ir24 ck24 (Nat.le_refl _) fun KP Q hQ => ?_
  have hlen := cI_length l
  have hmax : maxLen = 9223372036854775807 := rfl
  cases l with
  | nil =>
    simp (disch := first | omega | assumption) only [ir24, hlen, Int.natCast_zero, steps, mkArgs, pev, rev, oev, optr, ibin, sbin, bound, mmAll, mm2, mk, AV.cells, AV.boxable, AV.one, fillA, fillS, splice_cons, splice_succ, splice_zero, Nat.reduceEqDiff, reduceCtorEq, ↓reduceIte, Nat.reduceAdd, Int.reduceNeg, decide_true, decide_false, List.take_succ_cons, List.take_zero, List.drop_succ_cons, List.drop_zero, List.length_cons, List.length_nil, List.headD_cons, List.cons_append, List.nil_append, Option.map_some, Bool.not_true, Bool.not_false, Bool.false_eq_true, eq_self, List.replicate_zero, List.replicate_succ, List.set_cons_zero, List.set_cons_succ, Nat.lt_add_one, Nat.zero_lt_succ, Nat.le_refl, Nat.reduceLeDiff, Nat.reduceAdd, if_pos, upd_ne, List.getElem?_cons_succ, List.getElem?_cons_zero, Option.some.injEq, Int.cast_ofNat_Int, Int.reduceToNat, Int.reduceEq, List.getD_cons_zero, List.getD_cons_succ, Int.reduceLT, Int.reduceLE]
    refine hQ _ _ _ _ nofun rfl ?_
    simp [tupOf, envOf, AV.strip, AV.strip1, turnP]
  | cons x r =>
  simp only [List.length_cons] at hlen hl
  have h1 : ¬ ((↑(r.length + 1) : Int) = 0) := by omega
  simp (disch := first | omega | assumption) only [ir24, hlen, h1, steps, mkArgs, pev, rev, oev, optr, ibin, sbin, bound, mmAll, mm2, mk, AV.cells, AV.boxable, AV.one, fillA, fillS, splice_cons, splice_succ, splice_zero, Nat.reduceEqDiff, reduceCtorEq, ↓reduceIte, Nat.reduceAdd, Int.reduceNeg, decide_true, decide_false, List.take_succ_cons, List.take_zero, List.drop_succ_cons, List.drop_zero, List.length_cons, List.length_nil, List.headD_cons, List.cons_append, List.nil_append, Option.map_some, Bool.not_true, Bool.not_false, Bool.false_eq_true, eq_self, List.replicate_zero, List.replicate_succ, List.set_cons_zero, List.set_cons_succ, Nat.lt_add_one, Nat.zero_lt_succ, Nat.le_refl, Nat.reduceLeDiff, Nat.reduceAdd, if_pos, upd_ne, List.getElem?_cons_succ, List.getElem?_cons_zero, Option.some.injEq, Int.cast_ofNat_Int, Int.reduceToNat, Int.reduceEq, List.getD_cons_zero, List.getD_cons_succ, Int.reduceLT, Int.reduceLE]
  refine goK_pure (minC x r (by simpa using hl)) ?_
  simp (disch := first | omega | assumption) only [hlen, steps, mkArgs, pev, rev, oev, optr, ibin, sbin, bound, mmAll, mm2, mk, AV.cells, AV.boxable, AV.one, fillA, fillS, splice_cons, splice_succ, splice_zero, Nat.reduceEqDiff, reduceCtorEq, ↓reduceIte, Nat.reduceAdd, Int.reduceNeg, decide_true, decide_false, List.take_succ_cons, List.take_zero, List.drop_succ_cons, List.drop_zero, List.length_cons, List.length_nil, List.headD_cons, List.cons_append, List.nil_append, Option.map_some, Bool.not_true, Bool.not_false, Bool.false_eq_true, eq_self, List.replicate_zero, List.replicate_succ, List.set_cons_zero, List.set_cons_succ, Nat.lt_add_one, Nat.zero_lt_succ, Nat.le_refl, Nat.reduceLeDiff, Nat.reduceAdd, if_pos, upd_ne, List.getElem?_cons_succ, List.getElem?_cons_zero, Option.some.injEq, Int.cast_ofNat_Int, Int.reduceToNat, Int.reduceEq, List.getD_cons_zero, List.getD_cons_succ, Int.reduceLT, Int.reduceLE]
  refine goL_rule (fun n ρ H => ∃ done rest, x :: r = done ++ rest ∧ n = rest.length ∧ ρ = envOf [(0, .int .i64 p), (5, .int .i64 (minL r x)), (13, .sl .no 1 (cI (x :: r))), (14, .int .i64 ↑(r.length + 1)), (15, .int .i64 done.length)] ∧ p ∉ done ∧ H = Heap.emp) (r.length + 1) ⟨[], x :: r, rfl, rfl, by simp (disch := first | omega | assumption) only [steps, mkArgs, pev, rev, oev, optr, ibin, sbin, bound, mmAll, mm2, mk, AV.cells, AV.boxable, AV.one, fillA, fillS, splice_cons, splice_succ, splice_zero, Nat.reduceEqDiff, reduceCtorEq, ↓reduceIte, Nat.reduceAdd, Int.reduceNeg, decide_true, decide_false, List.take_succ_cons, List.take_zero, List.drop_succ_cons, List.drop_zero, List.length_cons, List.length_nil, List.headD_cons, List.cons_append, List.nil_append, Option.map_some, Bool.not_true, Bool.not_false, Bool.false_eq_true, eq_self, List.replicate_zero, List.replicate_succ, List.set_cons_zero, List.set_cons_succ, Nat.lt_add_one, Nat.zero_lt_succ, Nat.le_refl, Nat.reduceLeDiff, Nat.reduceAdd, if_pos, upd_ne, List.getElem?_cons_succ, List.getElem?_cons_zero, Option.some.injEq, Int.cast_ofNat_Int, Int.reduceToNat, Int.reduceEq, List.getD_cons_zero, List.getD_cons_succ, Int.reduceLT, Int.reduceLE] <;> rfl, by simp, rfl⟩ ?_
  rintro n ρ H J ⟨done, rest, hd, rfl, rfl, hm, rfl⟩ hJ
  have hll : r.length + 1 = done.length + rest.length := by have := congrArg List.length hd; simpa using this
  cases rest with
  | nil =>
    have hlt : ¬ ((done.length : Int) < (↑(r.length + 1) : Int)) := by simp at hll; omega
    simp (disch := first | omega | assumption) only [hlt, steps, mkArgs, pev, rev, oev, optr, ibin, sbin, bound, mmAll, mm2, mk, AV.cells, AV.boxable, AV.one, fillA, fillS, splice_cons, splice_succ, splice_zero, Nat.reduceEqDiff, reduceCtorEq, ↓reduceIte, Nat.reduceAdd, Int.reduceNeg, decide_true, decide_false, List.take_succ_cons, List.take_zero, List.drop_succ_cons, List.drop_zero, List.length_cons, List.length_nil, List.headD_cons, List.cons_append, List.nil_append, Option.map_some, Bool.not_true, Bool.not_false, Bool.false_eq_true, eq_self, List.replicate_zero, List.replicate_succ, List.set_cons_zero, List.set_cons_succ, Nat.lt_add_one, Nat.zero_lt_succ, Nat.le_refl, Nat.reduceLeDiff, Nat.reduceAdd, if_pos, upd_ne, List.getElem?_cons_succ, List.getElem?_cons_zero, Option.some.injEq, Int.cast_ofNat_Int, Int.reduceToNat, Int.reduceEq, List.getD_cons_zero, List.getD_cons_succ, Int.reduceLT, Int.reduceLE]
    refine hQ _ _ _ _ nofun rfl ?_
    simp only [List.append_nil] at hd
    have : p ∉ x :: r := by rw [hd]; exact hm
    simp [tupOf, envOf, AV.strip, AV.strip1, turnP, this]
  | cons y s =>
    simp only [List.length_cons] at hll
    have hlt : ((done.length : Int) < (↑(r.length + 1) : Int)) := by omega
    have e1 : (cI (x :: r)).getD done.length [] = [.int .i64 y] := by rw [hd]; simp [cI]
    by_cases hy : y = p
    · simp (disch := first | omega | assumption) only [hlen, hlt, Int.toNat_natCast, e1, hy, steps, mkArgs, pev, rev, oev, optr, ibin, sbin, bound, mmAll, mm2, mk, AV.cells, AV.boxable, AV.one, fillA, fillS, splice_cons, splice_succ, splice_zero, Nat.reduceEqDiff, reduceCtorEq, ↓reduceIte, Nat.reduceAdd, Int.reduceNeg, decide_true, decide_false, List.take_succ_cons, List.take_zero, List.drop_succ_cons, List.drop_zero, List.length_cons, List.length_nil, List.headD_cons, List.cons_append, List.nil_append, Option.map_some, Bool.not_true, Bool.not_false, Bool.false_eq_true, eq_self, List.replicate_zero, List.replicate_succ, List.set_cons_zero, List.set_cons_succ, Nat.lt_add_one, Nat.zero_lt_succ, Nat.le_refl, Nat.reduceLeDiff, Nat.reduceAdd, if_pos, upd_ne, List.getElem?_cons_succ, List.getElem?_cons_zero, Option.some.injEq, Int.cast_ofNat_Int, Int.reduceToNat, Int.reduceEq, List.getD_cons_zero, List.getD_cons_succ, Int.reduceLT, Int.reduceLE]
      refine hQ _ _ _ _ nofun rfl ?_
      have : p ∈ x :: r := by rw [hd, hy]; simp
      simp [tupOf, envOf, AV.strip, AV.strip1, turnP, this]
    · simp (disch := first | omega | assumption) only [hlen, hlt, Int.toNat_natCast, e1, hy, wrap64, steps, mkArgs, pev, rev, oev, optr, ibin, sbin, bound, mmAll, mm2, mk, AV.cells, AV.boxable, AV.one, fillA, fillS, splice_cons, splice_succ, splice_zero, Nat.reduceEqDiff, reduceCtorEq, ↓reduceIte, Nat.reduceAdd, Int.reduceNeg, decide_true, decide_false, List.take_succ_cons, List.take_zero, List.drop_succ_cons, List.drop_zero, List.length_cons, List.length_nil, List.headD_cons, List.cons_append, List.nil_append, Option.map_some, Bool.not_true, Bool.not_false, Bool.false_eq_true, eq_self, List.replicate_zero, List.replicate_succ, List.set_cons_zero, List.set_cons_succ, Nat.lt_add_one, Nat.zero_lt_succ, Nat.le_refl, Nat.reduceLeDiff, Nat.reduceAdd, if_pos, upd_ne, List.getElem?_cons_succ, List.getElem?_cons_zero, Option.some.injEq, Int.cast_ofNat_Int, Int.reduceToNat, Int.reduceEq, List.getD_cons_zero, List.getD_cons_succ, Int.reduceLT, Int.reduceLE]
      refine hJ s.length _ _ (by simp) ⟨done ++ [y], s, by simp [hd], rfl, ?_, ?_, rfl⟩
      · simp
      · simp [hm]; exact fun e => hy e.symm
end Go.Proofs.Ythkpgjnibolnhaa
