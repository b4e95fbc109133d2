/- CrewTurns: whose turn it is. -/
import Derived.Test.YthkpgjnibolnhaaCrewC
import Derived.Test.YthkpgjnibolnhaaAbsS
set_option maxRecDepth 100000
set_option linter.unusedSimpArgs false
set_option linter.unusedVariables false
set_option pp.deepTerms false
set_option pp.deepTerms.threshold 6
namespace Go.Proofs.Ythkpgjnibolnhaa
open Go.Ab

theorem cI_strip (l : List Int) : (cI l).map (·.map AV.strip1) = cI l := by simp [cI, AV.strip1]
theorem two_mid {α : Type} {a b done rest : List α} {x : α} (h : a = done ++ x :: rest) (hl : a.length = b.length) (hp : b.take done.length = done) : ∃ y r, b = done ++ y :: r := by
  have h1 : done.length < b.length := by rw [← hl, h]; simp
  refine ⟨b[done.length], b.drop (done.length + 1), ?_⟩
  conv => lhs; rw [← List.take_append_drop done.length b, hp, List.drop_eq_getElem_cons h1]
theorem two_step {α : Type} {b done r : List α} {y : α} (h : b = done ++ y :: r) : b.take (done ++ [y]).length = done ++ [y] := by
  subst h
  have e : done ++ y :: r = (done ++ [y]) ++ r := by simp
  rw [e, List.take_left']; rfl
theorem two_end {α : Type} {a b : List α} (hl : a.length = b.length) (hp : b.take a.length = a) : a = b := by
  rw [hl, List.take_length] at hp; exact hp.symm
theorem two_ne {α : Type} {a b done rest r : List α} {x y : α} (h : a = done ++ x :: rest) (h' : b = done ++ y :: r) (hxy : x ≠ y) : a ≠ b := fun e => by
  rw [h, h'] at e
  exact hxy (List.cons.inj (List.append_cancel_left e)).1
theorem cI_get {l a : List Int} {x : Int} {b : List Int} (h : l = a ++ x :: b) : (cI l).getD a.length [] = [.int .i64 x] := getD_mid' h

theorem keepIntsA (l : List Int) (hl : l.length ≤ 300) : ACalls Try.prog 23 [.sl .no 1 (cI l)] Heap.emp (fun e H' => match e with | .ret v => v = .slx 1 (cI l) [[.int .i64 77]] ∧ H' = Heap.emp | .pan _ => False) := by
  refine ACalls.goO (R := fun v H' => v = .slx 1 (cI l) [[.int .i64 77]] ∧ H' = Heap.emp) (RP := fun _ _ => False) ir23 ck23 (Nat.le_refl _) fun KP Q hQ hKP => ?_
  have hll := cI_length l
  simp (disch := first | omega | assumption) only [ir23, hll, wrap64, steps, st2, pev, rev, oev, optr, ibin, sbin, ishf, bound, mmAll, mm2, mk, mkArgs, AV.cells, AV.boxable, AV.one, AV.strip1, fillA, fillS, Nat.reduceEqDiff, reduceCtorEq, ↓reduceIte, Nat.reduceAdd, Int.reduceNeg, Nat.reduceLeDiff, Int.reduceToNat, Int.reduceEq, Int.reduceLT, Int.reduceLE, Int.reduceAdd]
  refine goA_intro fun b hb => ?_
  simp (disch := first | omega | assumption) only [steps, st2, pev, rev, oev, optr, ibin, sbin, ishf, bound, mmAll, mm2, mk, mkArgs, AV.cells, AV.boxable, AV.one, AV.strip1, fillA, fillS, Nat.reduceEqDiff, reduceCtorEq, ↓reduceIte, Nat.reduceAdd, Int.reduceNeg, Nat.reduceLeDiff, Int.reduceToNat, Int.reduceEq, Int.reduceLT, Int.reduceLE, Int.reduceAdd]
  refine goP_own (o := .tip b 0) (show _ = _ by simp [Heap.upd]) (by simp [hll]; omega) (by simp [hll, maxLen]; omega) fun o1 H1 h1 _ _ => ?_
  simp (disch := first | omega | assumption) only [steps, st2, pev, rev, oev, optr, ibin, sbin, ishf, bound, mmAll, mm2, mk, mkArgs, AV.cells, AV.boxable, AV.one, AV.strip1, fillA, fillS, Nat.reduceEqDiff, reduceCtorEq, ↓reduceIte, Nat.reduceAdd, Int.reduceNeg, Nat.reduceLeDiff, Int.reduceToNat, Int.reduceEq, Int.reduceLT, Int.reduceLE, Int.reduceAdd]
  refine goP_own (by simpa [hll, cI_strip] using h1) (by simp [hll]; omega) (by simp [hll, maxLen]; omega) fun o2 H2 h2 _ _ => ?_
  have e1 : ((l.length : Int) ≤ ((cI l ++ [[AV.int .i64 77]]).length : Nat)) := by rw [List.length_append, hll]; simp; omega
  have e2 : (cI l ++ [[AV.int .i64 77]]).take l.length = cI l := by rw [← hll]; simp
  have e3 : (cI l ++ [[AV.int .i64 77]]).drop l.length = [[.int .i64 77]] := by rw [← hll]; simp
  simp (disch := first | omega | assumption) only [hll, cI_strip, e1, e2, e3, steps, st2, pev, rev, oev, optr, ibin, sbin, ishf, bound, mmAll, mm2, mk, mkArgs, AV.cells, AV.boxable, AV.one, AV.strip1, fillA, fillS, Nat.reduceEqDiff, reduceCtorEq, ↓reduceIte, Nat.reduceAdd, Int.reduceNeg, Nat.reduceLeDiff, Int.reduceToNat, Int.reduceEq, Int.reduceLT, Int.reduceLE, Int.reduceAdd]
  refine hQ _ _ _ Heap.emp _ nofun rfl (Low.of_sub (sub_emp _)) ⟨?_, rfl⟩
  simp [tupOf, envOf]
theorem keepInts (l : List Int) (hl : l.length ≤ 300) : Pure Try.prog 23 [.sl .no 1 (cI l)] (.slx 1 (cI l) [[.int .i64 77]]) :=
  (keepIntsA l hl).mono fun e H' h => by cases e with | ret v => exact ⟨by rw [h.1], h.2⟩ | pan v => exact h.elim

theorem sameInts (a b : List Int) (ha : a.length ≤ 300) : Pure Try.prog 49 [.sl .no 1 (cI a), .sl .no 1 (cI b)] (.bool (decide (a = b))) := by
  refine Pure.go ir49 ck49 (Nat.le_refl _) fun KP Q hQ => ?_
  have hal := cI_length a
  have hbl := cI_length b
  by_cases hab : a.length = b.length
  · have e : ((a.length : Int) = b.length) = True := eq_true (by omega)
    simp (disch := first | omega | assumption) only [ir49, hal, hbl, e, steps, st2, pev, rev, oev, optr, ibin, sbin, ishf, bound, mmAll, mm2, mk, mkArgs, AV.cells, AV.boxable, AV.one, AV.strip1, fillA, fillS, Nat.reduceEqDiff, reduceCtorEq, ↓reduceIte, Nat.reduceAdd, Int.reduceNeg, Nat.reduceLeDiff, Int.reduceToNat, Int.reduceEq, Int.reduceLT, Int.reduceLE, Int.reduceAdd]
    refine goL_range a 5 (fun _ : Unit => []) (fun done rest _ H => b.take done.length = done ∧ H = Heap.emp) () (by simp (disch := first | omega | assumption) only [steps, st2, pev, rev, oev, optr, ibin, sbin, ishf, bound, mmAll, mm2, mk, mkArgs, AV.cells, AV.boxable, AV.one, AV.strip1, fillA, fillS, Nat.reduceEqDiff, reduceCtorEq, ↓reduceIte, Nat.reduceAdd, Int.reduceNeg, Nat.reduceLeDiff, Int.reduceToNat, Int.reduceEq, Int.reduceLT, Int.reduceLE, Int.reduceAdd]) ⟨rfl, rfl⟩ ?_ ?_
    · rintro ⟨⟩ H J ⟨hp, rfl⟩ hlt
      have := two_end hab hp
      simp (disch := first | omega | assumption) only [hal, hlt, steps, st2, pev, rev, oev, optr, ibin, sbin, ishf, bound, mmAll, mm2, mk, mkArgs, AV.cells, AV.boxable, AV.one, AV.strip1, fillA, fillS, Nat.reduceEqDiff, reduceCtorEq, ↓reduceIte, Nat.reduceAdd, Int.reduceNeg, Nat.reduceLeDiff, Int.reduceToNat, Int.reduceEq, Int.reduceLT, Int.reduceLE, Int.reduceAdd]
      exact hQ _ _ _ _ nofun rfl (by simp [tupOf, envOf, AV.strip, AV.strip1, this])
    · rintro done x rest ⟨⟩ H J hd hlt _ ⟨hp, rfl⟩ hJ
      obtain ⟨y, r, hy⟩ := two_mid hd hab hp
      have g1 := cI_get hd
      have g2 := cI_get hy
      have hlt2 : (done.length : Int) < b.length := by omega
      by_cases hxy : x = y
      · subst hxy
        simp (disch := first | omega | assumption) only [hal, hbl, hlt, hlt2, g1, g2, wrap64, steps, st2, pev, rev, oev, optr, ibin, sbin, ishf, bound, mmAll, mm2, mk, mkArgs, AV.cells, AV.boxable, AV.one, AV.strip1, fillA, fillS, Nat.reduceEqDiff, reduceCtorEq, ↓reduceIte, Nat.reduceAdd, Int.reduceNeg, Nat.reduceLeDiff, Int.reduceToNat, Int.reduceEq, Int.reduceLT, Int.reduceLE, Int.reduceAdd]
        refine goJ (hJ () _ ⟨two_step hy, rfl⟩) (by simp (disch := first | omega | assumption) only [steps, st2, pev, rev, oev, optr, ibin, sbin, ishf, bound, mmAll, mm2, mk, mkArgs, AV.cells, AV.boxable, AV.one, AV.strip1, fillA, fillS, Nat.reduceEqDiff, reduceCtorEq, ↓reduceIte, Nat.reduceAdd, Int.reduceNeg, Nat.reduceLeDiff, Int.reduceToNat, Int.reduceEq, Int.reduceLT, Int.reduceLE, Int.reduceAdd])
      · simp (disch := first | omega | assumption) only [hal, hbl, hlt, hlt2, g1, g2, hxy, steps, st2, pev, rev, oev, optr, ibin, sbin, ishf, bound, mmAll, mm2, mk, mkArgs, AV.cells, AV.boxable, AV.one, AV.strip1, fillA, fillS, Nat.reduceEqDiff, reduceCtorEq, ↓reduceIte, Nat.reduceAdd, Int.reduceNeg, Nat.reduceLeDiff, Int.reduceToNat, Int.reduceEq, Int.reduceLT, Int.reduceLE, Int.reduceAdd]
        exact hQ _ _ _ _ nofun rfl (by simp [tupOf, envOf, AV.strip, AV.strip1, two_ne hd hy hxy])
  · have e : ¬ ((a.length : Int) = b.length) := by omega
    simp (disch := first | omega | assumption) only [ir49, hal, hbl, e, steps, st2, pev, rev, oev, optr, ibin, sbin, ishf, bound, mmAll, mm2, mk, mkArgs, AV.cells, AV.boxable, AV.one, AV.strip1, fillA, fillS, Nat.reduceEqDiff, reduceCtorEq, ↓reduceIte, Nat.reduceAdd, Int.reduceNeg, Nat.reduceLeDiff, Int.reduceToNat, Int.reduceEq, Int.reduceLT, Int.reduceLE, Int.reduceAdd]
    have hne : ¬ a = b := fun h => hab (by rw [h])
    exact hQ _ _ _ _ nofun rfl (by simp [tupOf, envOf, AV.strip, AV.strip1, hne])

theorem intsStay (a : List Int) (ha : a.length ≤ 300) : Pure Try.prog 26 [.slx 1 (cI a) [[.int .i64 77]], .sl .no 1 (cI a)] (.bool true) := by
  refine Pure.go ir26 ck26 (Nat.le_refl _) fun KP Q hQ => ?_
  have hal := cI_length a
  simp (disch := first | omega | assumption) only [ir26, hal, steps, st2, pev, rev, oev, optr, ibin, sbin, ishf, bound, mmAll, mm2, mk, mkArgs, AV.cells, AV.boxable, AV.one, AV.strip1, fillA, fillS, Nat.reduceEqDiff, reduceCtorEq, ↓reduceIte, Nat.reduceAdd, Int.reduceNeg, Nat.reduceLeDiff, Int.reduceToNat, Int.reduceEq, Int.reduceLT, Int.reduceLE, Int.reduceAdd]
  refine goK_pure (Pure.low (sameInts a a ha)) ?_
  have e1 : (cI a ++ [[AV.int .i64 77]]).getD a.length [] = [.int .i64 77] := by rw [← hal]; simp
  have e2 : (cI a ++ [[AV.int .i64 77]]).take (a.length + 1) = cI a ++ [[.int .i64 77]]  := List.take_of_length_le (by simp [hal])
  have e3 : (((a.length : Nat) : Int) + 1).toNat = a.length + 1 := by omega
  have e4 : ((a.length : Int) < ((cI a ++ [[AV.int .i64 77]]).length : Nat)) := by rw [List.length_append, hal]; simp; omega
  simp (disch := first | omega | assumption) only [hal, wrap64, e3, e2, e1, e4, steps, st2, pev, rev, oev, optr, ibin, sbin, ishf, bound, mmAll, mm2, mk, mkArgs, AV.cells, AV.boxable, AV.one, AV.strip1, fillA, fillS, Nat.reduceEqDiff, reduceCtorEq, ↓reduceIte, Nat.reduceAdd, Int.reduceNeg, Nat.reduceLeDiff, Int.reduceToNat, Int.reduceEq, Int.reduceLT, Int.reduceLE, Int.reduceAdd]
  exact hQ _ _ _ _ nofun rfl (by simp [tupOf, envOf, AV.strip, AV.strip1])
end Go.Proofs.Ythkpgjnibolnhaa
