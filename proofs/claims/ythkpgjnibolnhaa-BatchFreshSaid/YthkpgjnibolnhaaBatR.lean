/- Batches: the document's answer, and that it is the program's. -/
import Derived.Test.YthkpgjnibolnhaaBatQ
set_option maxRecDepth 100000
set_option linter.unusedSimpArgs false
set_option linter.unusedVariables false
namespace Go.Proofs.Ythkpgjnibolnhaa
open Go.Ab

theorem fitsN (n : Need) : fitsAll [.s, .s] (cN n) = true := rfl
theorem keqN (a b : Need) : keqs (cN a) (cN b) = decide (a = b) := keq_need a b
theorem cN_len (n : Need) : (cN n).length = 2 := rfl
theorem cN_take (n : Need) : (cN n).take 2 = cN n := rfl

theorem hasNeedR (l : List Need) (hl : l.length ≤ Big) (n : Need) : Pure Try.prog 20 [.sl .no 2 (cNs l), .agg (cN n)] (.bool (decide (n ∈ l))) := by
  refine Pure.go ir20 ck20 (Nat.le_refl _) fun KP Q hQ => ?_
  simp only [Big] at hl
  have hll := cNs_len l
  simp (disch := first | omega | assumption) only [ir20, cN_len, steps, st2, pev, rev, oev, optr, ibin, sbin, ishf, bound, mmAll, mm2, mk, mkArgs, AV.cells, AV.boxable, AV.one, AV.strip1, fillA, fillS, Nat.reduceEqDiff, reduceCtorEq, ↓reduceIte, Nat.reduceAdd, Int.reduceNeg, Nat.reduceLeDiff, Int.reduceToNat, Int.reduceEq, Int.reduceLT, Int.reduceLE, Int.reduceAdd]
  refine goL_range l 5 (fun _ : Unit => []) (fun done rest _ H => (n ∈ l ↔ n ∈ rest) ∧ H = Heap.emp) () (by simp (disch := first | omega | assumption) only [steps, st2, pev, rev, oev, optr, ibin, sbin, ishf, bound, mmAll, mm2, mk, mkArgs, AV.cells, AV.boxable, AV.one, AV.strip1, fillA, fillS, Nat.reduceEqDiff, reduceCtorEq, ↓reduceIte, Nat.reduceAdd, Int.reduceNeg, Nat.reduceLeDiff, Int.reduceToNat, Int.reduceEq, Int.reduceLT, Int.reduceLE, Int.reduceAdd]) ⟨Iff.rfl, rfl⟩ ?_ ?_
  · rintro ⟨⟩ H J ⟨hn, rfl⟩ hlt
    simp only [List.not_mem_nil, iff_false] at hn
    simp (disch := first | omega | assumption) only [hll, hlt, steps, st2, pev, rev, oev, optr, ibin, sbin, ishf, bound, mmAll, mm2, mk, mkArgs, AV.cells, AV.boxable, AV.one, AV.strip1, fillA, fillS, Nat.reduceEqDiff, reduceCtorEq, ↓reduceIte, Nat.reduceAdd, Int.reduceNeg, Nat.reduceLeDiff, Int.reduceToNat, Int.reduceEq, Int.reduceLT, Int.reduceLE, Int.reduceAdd]
    exact hQ _ _ _ _ nofun rfl (by simp [tupOf, envOf, AV.strip, AV.strip1, hn])
  · rintro done x rest ⟨⟩ H J hd hlt _ ⟨hn, rfl⟩ hJ
    have hg := cNs_get hd
    by_cases hx : x = n
    · simp (disch := first | omega | assumption) only [hll, hlt, hg, cN_len, cN_take, fitsN, keqN, hx, steps, st2, pev, rev, oev, optr, ibin, sbin, ishf, bound, mmAll, mm2, mk, mkArgs, AV.cells, AV.boxable, AV.one, AV.strip1, fillA, fillS, Nat.reduceEqDiff, reduceCtorEq, ↓reduceIte, Nat.reduceAdd, Int.reduceNeg, Nat.reduceLeDiff, Int.reduceToNat, Int.reduceEq, Int.reduceLT, Int.reduceLE, Int.reduceAdd]
      have : n ∈ l := by rw [hn, hx]; exact List.mem_cons_self ..
      exact hQ _ _ _ _ nofun rfl (by simp [tupOf, envOf, AV.strip, AV.strip1, this])
    · simp (disch := first | omega | assumption) only [hll, hlt, hg, cN_len, cN_take, fitsN, keqN, hx, wrap64, steps, st2, pev, rev, oev, optr, ibin, sbin, ishf, bound, mmAll, mm2, mk, mkArgs, AV.cells, AV.boxable, AV.one, AV.strip1, fillA, fillS, Nat.reduceEqDiff, reduceCtorEq, ↓reduceIte, Nat.reduceAdd, Int.reduceNeg, Nat.reduceLeDiff, Int.reduceToNat, Int.reduceEq, Int.reduceLT, Int.reduceLE, Int.reduceAdd]
      refine goJ (hJ () _ ⟨?_, rfl⟩) (by simp (disch := first | omega | assumption) only [steps, st2, pev, rev, oev, optr, ibin, sbin, ishf, bound, mmAll, mm2, mk, mkArgs, AV.cells, AV.boxable, AV.one, AV.strip1, fillA, fillS, Nat.reduceEqDiff, reduceCtorEq, ↓reduceIte, Nat.reduceAdd, Int.reduceNeg, Nat.reduceLeDiff, Int.reduceToNat, Int.reduceEq, Int.reduceLT, Int.reduceLE, Int.reduceAdd])
      rw [hn, List.mem_cons]
      exact ⟨fun h => h.resolve_left (fun e => hx e.symm), .inr⟩

theorem hasR (l : List (List UInt8)) (hl : l.length ≤ Big) (n : List UInt8) : Pure Try.prog 21 [.sl .no 1 (cT l), .str n] (.bool (decide (n ∈ l))) := by
  refine Pure.go ir21 ck21 (Nat.le_refl _) fun KP Q hQ => ?_
  simp only [Big] at hl
  have hll := cT_len l
  simp (disch := first | omega | assumption) only [ir21, steps, st2, pev, rev, oev, optr, ibin, sbin, ishf, bound, mmAll, mm2, mk, mkArgs, AV.cells, AV.boxable, AV.one, AV.strip1, fillA, fillS, Nat.reduceEqDiff, reduceCtorEq, ↓reduceIte, Nat.reduceAdd, Int.reduceNeg, Nat.reduceLeDiff, Int.reduceToNat, Int.reduceEq, Int.reduceLT, Int.reduceLE, Int.reduceAdd]
  refine goL_range l 5 (fun _ : Unit => []) (fun done rest _ H => (n ∈ l ↔ n ∈ rest) ∧ H = Heap.emp) () (by simp (disch := first | omega | assumption) only [steps, st2, pev, rev, oev, optr, ibin, sbin, ishf, bound, mmAll, mm2, mk, mkArgs, AV.cells, AV.boxable, AV.one, AV.strip1, fillA, fillS, Nat.reduceEqDiff, reduceCtorEq, ↓reduceIte, Nat.reduceAdd, Int.reduceNeg, Nat.reduceLeDiff, Int.reduceToNat, Int.reduceEq, Int.reduceLT, Int.reduceLE, Int.reduceAdd]) ⟨Iff.rfl, rfl⟩ ?_ ?_
  · rintro ⟨⟩ H J ⟨hn, rfl⟩ hlt
    simp only [List.not_mem_nil, iff_false] at hn
    simp (disch := first | omega | assumption) only [hll, hlt, steps, st2, pev, rev, oev, optr, ibin, sbin, ishf, bound, mmAll, mm2, mk, mkArgs, AV.cells, AV.boxable, AV.one, AV.strip1, fillA, fillS, Nat.reduceEqDiff, reduceCtorEq, ↓reduceIte, Nat.reduceAdd, Int.reduceNeg, Nat.reduceLeDiff, Int.reduceToNat, Int.reduceEq, Int.reduceLT, Int.reduceLE, Int.reduceAdd]
    exact hQ _ _ _ _ nofun rfl (by simp [tupOf, envOf, AV.strip, AV.strip1, hn])
  · rintro done x rest ⟨⟩ H J hd hlt _ ⟨hn, rfl⟩ hJ
    have hg := cT_get hd
    by_cases hx : x = n
    · simp (disch := first | omega | assumption) only [hll, hlt, hg, hx, steps, st2, pev, rev, oev, optr, ibin, sbin, ishf, bound, mmAll, mm2, mk, mkArgs, AV.cells, AV.boxable, AV.one, AV.strip1, fillA, fillS, Nat.reduceEqDiff, reduceCtorEq, ↓reduceIte, Nat.reduceAdd, Int.reduceNeg, Nat.reduceLeDiff, Int.reduceToNat, Int.reduceEq, Int.reduceLT, Int.reduceLE, Int.reduceAdd]
      have : n ∈ l := by rw [hn, hx]; exact List.mem_cons_self ..
      exact hQ _ _ _ _ nofun rfl (by simp [tupOf, envOf, AV.strip, AV.strip1, this])
    · simp (disch := first | omega | assumption) only [hll, hlt, hg, hx, wrap64, steps, st2, pev, rev, oev, optr, ibin, sbin, ishf, bound, mmAll, mm2, mk, mkArgs, AV.cells, AV.boxable, AV.one, AV.strip1, fillA, fillS, Nat.reduceEqDiff, reduceCtorEq, ↓reduceIte, Nat.reduceAdd, Int.reduceNeg, Nat.reduceLeDiff, Int.reduceToNat, Int.reduceEq, Int.reduceLT, Int.reduceLE, Int.reduceAdd]
      refine goJ (hJ () _ ⟨?_, rfl⟩) (by simp (disch := first | omega | assumption) only [steps, st2, pev, rev, oev, optr, ibin, sbin, ishf, bound, mmAll, mm2, mk, mkArgs, AV.cells, AV.boxable, AV.one, AV.strip1, fillA, fillS, Nat.reduceEqDiff, reduceCtorEq, ↓reduceIte, Nat.reduceAdd, Int.reduceNeg, Nat.reduceLeDiff, Int.reduceToNat, Int.reduceEq, Int.reduceLT, Int.reduceLE, Int.reduceAdd])
      rw [hn, List.mem_cons]
      exact ⟨fun h => h.resolve_left (fun e => hx e.symm), .inr⟩

theorem onceR (l : List Need) (hl : l.length ≤ Big) : Pure Try.prog 37 [.sl .no 2 (cNs l)] (.sl .no 2 (cNs (dd [] l))) := by
  refine Pure.go ir37 ck37 (Nat.le_refl _) fun KP Q hQ => ?_
  have hl0 := hl
  simp only [Big] at hl
  have hll := cNs_len l
  simp (disch := first | omega | assumption) only [ir37, steps, st2, pev, rev, oev, optr, ibin, sbin, ishf, bound, mmAll, mm2, mk, mkArgs, AV.cells, AV.boxable, AV.one, AV.strip1, fillA, fillS, Nat.reduceEqDiff, reduceCtorEq, ↓reduceIte, Nat.reduceAdd, Int.reduceNeg, Nat.reduceLeDiff, Int.reduceToNat, Int.reduceEq, Int.reduceLT, Int.reduceLE, Int.reduceAdd]
  refine goL_range l 4 (fun s : Own × List Need => [(3, .sl s.1 2 (cNs s.2))]) (fun done rest s H => dd s.2 rest = dd [] l ∧ s.2.length ≤ done.length ∧ Owned H s.1 s.2.length 2) (.nil, []) (by simp (disch := first | omega | assumption) only [steps, st2, pev, rev, oev, optr, ibin, sbin, ishf, bound, mmAll, mm2, mk, mkArgs, AV.cells, AV.boxable, AV.one, AV.strip1, fillA, fillS, Nat.reduceEqDiff, reduceCtorEq, ↓reduceIte, Nat.reduceAdd, Int.reduceNeg, Nat.reduceLeDiff, Int.reduceToNat, Int.reduceEq, Int.reduceLT, Int.reduceLE, Int.reduceAdd] <;> simp [cNs]) ⟨rfl, by simp, rfl⟩ ?_ ?_
  · rintro ⟨o, out⟩ H J ⟨hd, hle, ho⟩ hlt
    simp only [dd] at hd
    subst hd
    simp (disch := first | omega | assumption) only [hll, hlt, steps, st2, pev, rev, oev, optr, ibin, sbin, ishf, bound, mmAll, mm2, mk, mkArgs, AV.cells, AV.boxable, AV.one, AV.strip1, fillA, fillS, Nat.reduceEqDiff, reduceCtorEq, ↓reduceIte, Nat.reduceAdd, Int.reduceNeg, Nat.reduceLeDiff, Int.reduceToNat, Int.reduceEq, Int.reduceLT, Int.reduceLE, Int.reduceAdd]
    exact hQ _ _ _ _ nofun rfl (by simp [tupOf, envOf, AV.strip, AV.strip1])
  · rintro done x rest ⟨o, out⟩ H J hl2 hlt hlt' ⟨hd, hle, ho⟩ hJ
    have hg := cNs_get hl2
    simp only at hle ho
    have hle2 := cNs_len out
    simp only [dd] at hd
    simp (disch := first | omega | assumption) only [hll, hlt, hg, cN_len, cN_take, steps, st2, pev, rev, oev, optr, ibin, sbin, ishf, bound, mmAll, mm2, mk, mkArgs, AV.cells, AV.boxable, AV.one, AV.strip1, fillA, fillS, Nat.reduceEqDiff, reduceCtorEq, ↓reduceIte, Nat.reduceAdd, Int.reduceNeg, Nat.reduceLeDiff, Int.reduceToNat, Int.reduceEq, Int.reduceLT, Int.reduceLE, Int.reduceAdd]
    refine goK_pure (Pure.low (hasNeedR out (by simp only [Big]; omega) x)) ?_
    by_cases hx : x ∈ out
    · simp (disch := first | omega | assumption) only [hx, wrap64, steps, st2, pev, rev, oev, optr, ibin, sbin, ishf, bound, mmAll, mm2, mk, mkArgs, AV.cells, AV.boxable, AV.one, AV.strip1, fillA, fillS, Nat.reduceEqDiff, reduceCtorEq, ↓reduceIte, Nat.reduceAdd, Int.reduceNeg, Nat.reduceLeDiff, Int.reduceToNat, Int.reduceEq, Int.reduceLT, Int.reduceLE, Int.reduceAdd]
      simp only [hx, if_true] at hd
      exact goJ (hJ (o, out) _ ⟨hd, by simp; omega, ho⟩) (by simp (disch := first | omega | assumption) only [steps, st2, pev, rev, oev, optr, ibin, sbin, ishf, bound, mmAll, mm2, mk, mkArgs, AV.cells, AV.boxable, AV.one, AV.strip1, fillA, fillS, Nat.reduceEqDiff, reduceCtorEq, ↓reduceIte, Nat.reduceAdd, Int.reduceNeg, Nat.reduceLeDiff, Int.reduceToNat, Int.reduceEq, Int.reduceLT, Int.reduceLE, Int.reduceAdd])
    · simp (disch := first | omega | assumption) only [hll, hlt, hg, hx, cN_len, cN_take, cN, steps, st2, pev, rev, oev, optr, ibin, sbin, ishf, bound, mmAll, mm2, mk, mkArgs, AV.cells, AV.boxable, AV.one, AV.strip1, fillA, fillS, Nat.reduceEqDiff, reduceCtorEq, ↓reduceIte, Nat.reduceAdd, Int.reduceNeg, Nat.reduceLeDiff, Int.reduceToNat, Int.reduceEq, Int.reduceLT, Int.reduceLE, Int.reduceAdd]
      simp only [hx, if_false] at hd
      refine goP_ownS (by rw [hle2]; exact ho) ?_ ?_ fun o' H' hos => ?_
      · simp only [hle2, List.length_cons, List.length_nil]; omega
      · simp only [hle2, List.length_cons, List.length_nil, maxLen]; omega
      simp (disch := first | omega | assumption) only [wrap64, AV.strip1, steps, st2, pev, rev, oev, optr, ibin, sbin, ishf, bound, mmAll, mm2, mk, mkArgs, AV.cells, AV.boxable, AV.one, AV.strip1, fillA, fillS, Nat.reduceEqDiff, reduceCtorEq, ↓reduceIte, Nat.reduceAdd, Int.reduceNeg, Nat.reduceLeDiff, Int.reduceToNat, Int.reduceEq, Int.reduceLT, Int.reduceLE, Int.reduceAdd]
      rw [cNs_app]
      rw [hle2] at hos
      exact goJ (hJ (o', out ++ [x]) _ ⟨hd, by simp; omega, by simpa using hos.own⟩) (by simp (disch := first | omega | assumption) only [steps, st2, pev, rev, oev, optr, ibin, sbin, ishf, bound, mmAll, mm2, mk, mkArgs, AV.cells, AV.boxable, AV.one, AV.strip1, fillA, fillS, Nat.reduceEqDiff, reduceCtorEq, ↓reduceIte, Nat.reduceAdd, Int.reduceNeg, Nat.reduceLeDiff, Int.reduceToNat, Int.reduceEq, Int.reduceLT, Int.reduceLE, Int.reduceAdd])

theorem needP (t k : List UInt8) : Pure Try.prog 19 [.str t, .str k] (.agg [.str t, .str k]) := by
  refine Pure.go ir19 ck19 (Nat.le_refl _) fun KP Q hQ => ?_
  simp (disch := first | omega | assumption) only [ir19, steps, st2, pev, rev, oev, optr, ibin, sbin, ishf, bound, mmAll, mm2, mk, mkArgs, AV.cells, AV.boxable, AV.one, AV.strip1, fillA, fillS, Nat.reduceEqDiff, reduceCtorEq, ↓reduceIte, Nat.reduceAdd, Int.reduceNeg, Nat.reduceLeDiff, Int.reduceToNat, Int.reduceEq, Int.reduceLT, Int.reduceLE, Int.reduceAdd]
  refine goA_intro fun b hb => ?_
  simp (disch := first | omega | assumption) only [steps, st2, pev, rev, oev, optr, ibin, sbin, ishf, bound, mmAll, mm2, mk, mkArgs, AV.cells, AV.boxable, AV.one, AV.strip1, fillA, fillS, Nat.reduceEqDiff, reduceCtorEq, ↓reduceIte, Nat.reduceAdd, Int.reduceNeg, Nat.reduceLeDiff, Int.reduceToNat, Int.reduceEq, Int.reduceLT, Int.reduceLE, Int.reduceAdd]
  refine hQ _ _ _ [.agg [.str t, .str k]] nofun (by simp (disch := first | omega | assumption) only [ir19, resvs, resv, steps, st2, pev, rev, oev, optr, ibin, sbin, ishf, bound, mmAll, mm2, mk, mkArgs, AV.cells, AV.boxable, AV.one, AV.strip1, fillA, fillS, Nat.reduceEqDiff, reduceCtorEq, ↓reduceIte, Nat.reduceAdd, Int.reduceNeg, Nat.reduceLeDiff, Int.reduceToNat, Int.reduceEq, Int.reduceLT, Int.reduceLE, Int.reduceAdd]) (by simp [tupOf, AV.strip, AV.strip1])

theorem sameNeedsR (a b : List Need) (ha : a.length ≤ Big) : Pure Try.prog 18 [.sl .no 2 (cNs a), .sl .no 2 (cNs b)] (.bool (decide (a = b))) := by
  refine Pure.go ir18 ck18 (Nat.le_refl _) fun KP Q hQ => ?_
  simp only [Big] at ha
  have hal := cNs_len a
  have hbl := cNs_len b
  by_cases hlen : a.length = b.length
  · have hli : (a.length : Int) = b.length := by omega
    simp (disch := first | omega | assumption) only [ir18, hal, hbl, hli, steps, st2, pev, rev, oev, optr, ibin, sbin, ishf, bound, mmAll, mm2, mk, mkArgs, AV.cells, AV.boxable, AV.one, AV.strip1, fillA, fillS, Nat.reduceEqDiff, reduceCtorEq, ↓reduceIte, Nat.reduceAdd, Int.reduceNeg, Nat.reduceLeDiff, Int.reduceToNat, Int.reduceEq, Int.reduceLT, Int.reduceLE, Int.reduceAdd]
    refine goL_range a 5 (fun _ : Unit => []) (fun done rest _ H => (∃ rb, b = done ++ rb) ∧ H = Heap.emp) () (by simp (disch := first | omega | assumption) only [steps, st2, pev, rev, oev, optr, ibin, sbin, ishf, bound, mmAll, mm2, mk, mkArgs, AV.cells, AV.boxable, AV.one, AV.strip1, fillA, fillS, Nat.reduceEqDiff, reduceCtorEq, ↓reduceIte, Nat.reduceAdd, Int.reduceNeg, Nat.reduceLeDiff, Int.reduceToNat, Int.reduceEq, Int.reduceLT, Int.reduceLE, Int.reduceAdd]) ⟨⟨b, rfl⟩, rfl⟩ ?_ ?_
    · rintro ⟨⟩ H J ⟨⟨rb, hb⟩, rfl⟩ hlt
      simp (disch := first | omega | assumption) only [hal, hlt, steps, st2, pev, rev, oev, optr, ibin, sbin, ishf, bound, mmAll, mm2, mk, mkArgs, AV.cells, AV.boxable, AV.one, AV.strip1, fillA, fillS, Nat.reduceEqDiff, reduceCtorEq, ↓reduceIte, Nat.reduceAdd, Int.reduceNeg, Nat.reduceLeDiff, Int.reduceToNat, Int.reduceEq, Int.reduceLT, Int.reduceLE, Int.reduceAdd]
      have : a = b := by
        have hz : rb = [] := List.eq_nil_of_length_eq_zero (by have := congrArg List.length hb; simp at this; omega)
        rw [hb, hz, List.append_nil]
      exact hQ _ _ _ _ nofun rfl (by simp [tupOf, envOf, AV.strip, AV.strip1, this])
    · rintro done x rest ⟨⟩ H J hd hlt hlt' ⟨⟨rb, hb⟩, rfl⟩ hJ
      have hg := cNs_get hd
      cases rb with
      | nil => have := congrArg List.length hb; simp at this; omega
      | cons y rb =>
        have hgb := cNs_get hb
        have hltb : (done.length : Int) < b.length := by omega
        by_cases hx : x = y
        · simp (disch := first | omega | assumption) only [hal, hbl, hlt, hltb, hg, hgb, cN_len, cN_take, fitsN, keqN, hx, wrap64, hli, steps, st2, pev, rev, oev, optr, ibin, sbin, ishf, bound, mmAll, mm2, mk, mkArgs, AV.cells, AV.boxable, AV.one, AV.strip1, fillA, fillS, Nat.reduceEqDiff, reduceCtorEq, ↓reduceIte, Nat.reduceAdd, Int.reduceNeg, Nat.reduceLeDiff, Int.reduceToNat, Int.reduceEq, Int.reduceLT, Int.reduceLE, Int.reduceAdd]
          exact goJ (hJ () _ ⟨⟨rb, by rw [hb, hx]; simp⟩, rfl⟩) (by simp (disch := first | omega | assumption) only [steps, st2, pev, rev, oev, optr, ibin, sbin, ishf, bound, mmAll, mm2, mk, mkArgs, AV.cells, AV.boxable, AV.one, AV.strip1, fillA, fillS, Nat.reduceEqDiff, reduceCtorEq, ↓reduceIte, Nat.reduceAdd, Int.reduceNeg, Nat.reduceLeDiff, Int.reduceToNat, Int.reduceEq, Int.reduceLT, Int.reduceLE, Int.reduceAdd])
        · simp (disch := first | omega | assumption) only [hal, hbl, hlt, hltb, hg, hgb, cN_len, cN_take, fitsN, keqN, hx, hli, steps, st2, pev, rev, oev, optr, ibin, sbin, ishf, bound, mmAll, mm2, mk, mkArgs, AV.cells, AV.boxable, AV.one, AV.strip1, fillA, fillS, Nat.reduceEqDiff, reduceCtorEq, ↓reduceIte, Nat.reduceAdd, Int.reduceNeg, Nat.reduceLeDiff, Int.reduceToNat, Int.reduceEq, Int.reduceLT, Int.reduceLE, Int.reduceAdd]
          have : a ≠ b := fun e => by
            rw [hd, hb] at e
            exact hx (List.cons.inj (List.append_cancel_left e)).1
          exact hQ _ _ _ _ nofun rfl (by simp [tupOf, envOf, AV.strip, AV.strip1, this])
  · have hli : ¬ ((a.length : Int) = b.length) := by omega
    simp (disch := first | omega | assumption) only [ir18, hal, hbl, hli, steps, st2, pev, rev, oev, optr, ibin, sbin, ishf, bound, mmAll, mm2, mk, mkArgs, AV.cells, AV.boxable, AV.one, AV.strip1, fillA, fillS, Nat.reduceEqDiff, reduceCtorEq, ↓reduceIte, Nat.reduceAdd, Int.reduceNeg, Nat.reduceLeDiff, Int.reduceToNat, Int.reduceEq, Int.reduceLT, Int.reduceLE, Int.reduceAdd]
    have : a ≠ b := fun e => hlen (by rw [e])
    exact hQ _ _ _ _ nofun rfl (by simp [tupOf, envOf, AV.strip, AV.strip1, this])

theorem sameBatchR (a b : Batch) (ha : a.keys.length ≤ Big) : Pure Try.prog 45 [.agg (cB a), .agg (cB b)] (.bool (decide (a = b))) := by
  refine Pure.go ir45 ck45 (Nat.le_refl _) fun KP Q hQ => ?_
  simp only [Big] at ha
  obtain ⟨at', ak⟩ := a
  obtain ⟨bt, bk⟩ := b
  simp only at ha
  have hal := cT_len ak
  have hbl := cT_len bk
  by_cases ht : at' = bt
  · by_cases hlen : ak.length = bk.length
    · have hli : (ak.length : Int) = bk.length := by omega
      simp (disch := first | omega | assumption) only [ir45, cB, hal, hbl, hli, ht, steps, st2, pev, rev, oev, optr, ibin, sbin, ishf, bound, mmAll, mm2, mk, mkArgs, AV.cells, AV.boxable, AV.one, AV.strip1, fillA, fillS, Nat.reduceEqDiff, reduceCtorEq, ↓reduceIte, Nat.reduceAdd, Int.reduceNeg, Nat.reduceLeDiff, Int.reduceToNat, Int.reduceEq, Int.reduceLT, Int.reduceLE, Int.reduceAdd]
      refine goL_range ak 5 (fun _ : Unit => []) (fun done rest _ H => (∃ rb, bk = done ++ rb) ∧ H = Heap.emp) () (by simp (disch := first | omega | assumption) only [steps, st2, pev, rev, oev, optr, ibin, sbin, ishf, bound, mmAll, mm2, mk, mkArgs, AV.cells, AV.boxable, AV.one, AV.strip1, fillA, fillS, Nat.reduceEqDiff, reduceCtorEq, ↓reduceIte, Nat.reduceAdd, Int.reduceNeg, Nat.reduceLeDiff, Int.reduceToNat, Int.reduceEq, Int.reduceLT, Int.reduceLE, Int.reduceAdd]) ⟨⟨bk, rfl⟩, rfl⟩ ?_ ?_
      · rintro ⟨⟩ H J ⟨⟨rb, hb⟩, rfl⟩ hlt
        simp (disch := first | omega | assumption) only [hal, hlt, steps, st2, pev, rev, oev, optr, ibin, sbin, ishf, bound, mmAll, mm2, mk, mkArgs, AV.cells, AV.boxable, AV.one, AV.strip1, fillA, fillS, Nat.reduceEqDiff, reduceCtorEq, ↓reduceIte, Nat.reduceAdd, Int.reduceNeg, Nat.reduceLeDiff, Int.reduceToNat, Int.reduceEq, Int.reduceLT, Int.reduceLE, Int.reduceAdd]
        have : ak = bk := by
          have hz : rb = [] := List.eq_nil_of_length_eq_zero (by have := congrArg List.length hb; simp at this; omega)
          rw [hb, hz, List.append_nil]
        exact hQ _ _ _ _ nofun rfl (by simp [tupOf, envOf, AV.strip, AV.strip1, this, ht])
      · rintro done x rest ⟨⟩ H J hd hlt hlt' ⟨⟨rb, hb⟩, rfl⟩ hJ
        have hg := cT_get hd
        cases rb with
        | nil => have := congrArg List.length hb; simp at this; omega
        | cons y rb =>
          have hgb := cT_get hb
          have hltb : (done.length : Int) < bk.length := by omega
          by_cases hx : x = y
          · simp (disch := first | omega | assumption) only [hal, hbl, hlt, hltb, hg, hgb, hx, wrap64, hli, steps, st2, pev, rev, oev, optr, ibin, sbin, ishf, bound, mmAll, mm2, mk, mkArgs, AV.cells, AV.boxable, AV.one, AV.strip1, fillA, fillS, Nat.reduceEqDiff, reduceCtorEq, ↓reduceIte, Nat.reduceAdd, Int.reduceNeg, Nat.reduceLeDiff, Int.reduceToNat, Int.reduceEq, Int.reduceLT, Int.reduceLE, Int.reduceAdd]
            exact goJ (hJ () _ ⟨⟨rb, by rw [hb, hx]; simp⟩, rfl⟩) (by simp (disch := first | omega | assumption) only [steps, st2, pev, rev, oev, optr, ibin, sbin, ishf, bound, mmAll, mm2, mk, mkArgs, AV.cells, AV.boxable, AV.one, AV.strip1, fillA, fillS, Nat.reduceEqDiff, reduceCtorEq, ↓reduceIte, Nat.reduceAdd, Int.reduceNeg, Nat.reduceLeDiff, Int.reduceToNat, Int.reduceEq, Int.reduceLT, Int.reduceLE, Int.reduceAdd])
          · simp (disch := first | omega | assumption) only [hal, hbl, hlt, hltb, hg, hgb, hx, hli, steps, st2, pev, rev, oev, optr, ibin, sbin, ishf, bound, mmAll, mm2, mk, mkArgs, AV.cells, AV.boxable, AV.one, AV.strip1, fillA, fillS, Nat.reduceEqDiff, reduceCtorEq, ↓reduceIte, Nat.reduceAdd, Int.reduceNeg, Nat.reduceLeDiff, Int.reduceToNat, Int.reduceEq, Int.reduceLT, Int.reduceLE, Int.reduceAdd]
            have : ak ≠ bk := fun e => by
              rw [hd, hb] at e
              exact hx (List.cons.inj (List.append_cancel_left e)).1
            exact hQ _ _ _ _ nofun rfl (by simp [tupOf, envOf, AV.strip, AV.strip1, this])
    · have hli : ¬ ((ak.length : Int) = bk.length) := by omega
      simp (disch := first | omega | assumption) only [ir45, cB, hal, hbl, hli, ht, steps, st2, pev, rev, oev, optr, ibin, sbin, ishf, bound, mmAll, mm2, mk, mkArgs, AV.cells, AV.boxable, AV.one, AV.strip1, fillA, fillS, Nat.reduceEqDiff, reduceCtorEq, ↓reduceIte, Nat.reduceAdd, Int.reduceNeg, Nat.reduceLeDiff, Int.reduceToNat, Int.reduceEq, Int.reduceLT, Int.reduceLE, Int.reduceAdd]
      have : ak ≠ bk := fun e => hlen (by rw [e])
      exact hQ _ _ _ _ nofun rfl (by simp [tupOf, envOf, AV.strip, AV.strip1, this])
  · simp (disch := first | omega | assumption) only [ir45, cB, ht, steps, st2, pev, rev, oev, optr, ibin, sbin, ishf, bound, mmAll, mm2, mk, mkArgs, AV.cells, AV.boxable, AV.one, AV.strip1, fillA, fillS, Nat.reduceEqDiff, reduceCtorEq, ↓reduceIte, Nat.reduceAdd, Int.reduceNeg, Nat.reduceLeDiff, Int.reduceToNat, Int.reduceEq, Int.reduceLT, Int.reduceLE, Int.reduceAdd]
    exact hQ _ _ _ _ nofun rfl (by simp [tupOf, envOf, AV.strip, AV.strip1, ht])

theorem sameBatchesR (a b : List Batch) (ha : a.length ≤ Big) (hk : ∀ x ∈ a, x.keys.length ≤ Big) : Pure Try.prog 15 [.sl .no 2 (cBs a), .sl .no 2 (cBs b)] (.bool (decide (a = b))) := by
  refine Pure.go ir15 ck15 (Nat.le_refl _) fun KP Q hQ => ?_
  simp only [Big] at ha
  have hal := cBs_len a
  have hbl := cBs_len b
  have cB_len : ∀ x, (cB x).length = 2 := fun _ => rfl
  have cB_take : ∀ x, (cB x).take 2 = cB x := fun _ => rfl
  by_cases hlen : a.length = b.length
  · have hli : (a.length : Int) = b.length := by omega
    simp (disch := first | omega | assumption) only [ir15, hal, hbl, hli, steps, st2, pev, rev, oev, optr, ibin, sbin, ishf, bound, mmAll, mm2, mk, mkArgs, AV.cells, AV.boxable, AV.one, AV.strip1, fillA, fillS, Nat.reduceEqDiff, reduceCtorEq, ↓reduceIte, Nat.reduceAdd, Int.reduceNeg, Nat.reduceLeDiff, Int.reduceToNat, Int.reduceEq, Int.reduceLT, Int.reduceLE, Int.reduceAdd]
    refine goL_range a 5 (fun _ : Unit => []) (fun done rest _ H => (∃ rb, b = done ++ rb) ∧ H = Heap.emp) () (by simp (disch := first | omega | assumption) only [steps, st2, pev, rev, oev, optr, ibin, sbin, ishf, bound, mmAll, mm2, mk, mkArgs, AV.cells, AV.boxable, AV.one, AV.strip1, fillA, fillS, Nat.reduceEqDiff, reduceCtorEq, ↓reduceIte, Nat.reduceAdd, Int.reduceNeg, Nat.reduceLeDiff, Int.reduceToNat, Int.reduceEq, Int.reduceLT, Int.reduceLE, Int.reduceAdd]) ⟨⟨b, rfl⟩, rfl⟩ ?_ ?_
    · rintro ⟨⟩ H J ⟨⟨rb, hb⟩, rfl⟩ hlt
      simp (disch := first | omega | assumption) only [hal, hlt, steps, st2, pev, rev, oev, optr, ibin, sbin, ishf, bound, mmAll, mm2, mk, mkArgs, AV.cells, AV.boxable, AV.one, AV.strip1, fillA, fillS, Nat.reduceEqDiff, reduceCtorEq, ↓reduceIte, Nat.reduceAdd, Int.reduceNeg, Nat.reduceLeDiff, Int.reduceToNat, Int.reduceEq, Int.reduceLT, Int.reduceLE, Int.reduceAdd]
      have : a = b := by
        have hz : rb = [] := List.eq_nil_of_length_eq_zero (by have := congrArg List.length hb; simp at this; omega)
        rw [hb, hz, List.append_nil]
      exact hQ _ _ _ _ nofun rfl (by simp [tupOf, envOf, AV.strip, AV.strip1, this])
    · rintro done x rest ⟨⟩ H J hd hlt hlt' ⟨⟨rb, hb⟩, rfl⟩ hJ
      have hg := cBs_get hd
      cases rb with
      | nil => have := congrArg List.length hb; simp at this; omega
      | cons y rb =>
        have hgb := cBs_get hb
        have hltb : (done.length : Int) < b.length := by omega
        simp (disch := first | omega | assumption) only [hal, hbl, hlt, hltb, hg, hgb, cB_len, cB_take, hli, steps, st2, pev, rev, oev, optr, ibin, sbin, ishf, bound, mmAll, mm2, mk, mkArgs, AV.cells, AV.boxable, AV.one, AV.strip1, fillA, fillS, Nat.reduceEqDiff, reduceCtorEq, ↓reduceIte, Nat.reduceAdd, Int.reduceNeg, Nat.reduceLeDiff, Int.reduceToNat, Int.reduceEq, Int.reduceLT, Int.reduceLE, Int.reduceAdd]
        refine goK_pure (sameBatchR x y (hk x (by rw [hd]; simp))) ?_
        by_cases hx : x = y
        · simp (disch := first | omega | assumption) only [hx, wrap64, steps, st2, pev, rev, oev, optr, ibin, sbin, ishf, bound, mmAll, mm2, mk, mkArgs, AV.cells, AV.boxable, AV.one, AV.strip1, fillA, fillS, Nat.reduceEqDiff, reduceCtorEq, ↓reduceIte, Nat.reduceAdd, Int.reduceNeg, Nat.reduceLeDiff, Int.reduceToNat, Int.reduceEq, Int.reduceLT, Int.reduceLE, Int.reduceAdd]
          exact goJ (hJ () _ ⟨⟨rb, by rw [hb, hx]; simp⟩, rfl⟩) (by simp (disch := first | omega | assumption) only [steps, st2, pev, rev, oev, optr, ibin, sbin, ishf, bound, mmAll, mm2, mk, mkArgs, AV.cells, AV.boxable, AV.one, AV.strip1, fillA, fillS, Nat.reduceEqDiff, reduceCtorEq, ↓reduceIte, Nat.reduceAdd, Int.reduceNeg, Nat.reduceLeDiff, Int.reduceToNat, Int.reduceEq, Int.reduceLT, Int.reduceLE, Int.reduceAdd])
        · simp (disch := first | omega | assumption) only [hx, steps, st2, pev, rev, oev, optr, ibin, sbin, ishf, bound, mmAll, mm2, mk, mkArgs, AV.cells, AV.boxable, AV.one, AV.strip1, fillA, fillS, Nat.reduceEqDiff, reduceCtorEq, ↓reduceIte, Nat.reduceAdd, Int.reduceNeg, Nat.reduceLeDiff, Int.reduceToNat, Int.reduceEq, Int.reduceLT, Int.reduceLE, Int.reduceAdd]
          have : a ≠ b := fun e => by
            rw [hd, hb] at e
            exact hx (List.cons.inj (List.append_cancel_left e)).1
          exact hQ _ _ _ _ nofun rfl (by simp [tupOf, envOf, AV.strip, AV.strip1, this])
  · have hli : ¬ ((a.length : Int) = b.length) := by omega
    simp (disch := first | omega | assumption) only [ir15, hal, hbl, hli, steps, st2, pev, rev, oev, optr, ibin, sbin, ishf, bound, mmAll, mm2, mk, mkArgs, AV.cells, AV.boxable, AV.one, AV.strip1, fillA, fillS, Nat.reduceEqDiff, reduceCtorEq, ↓reduceIte, Nat.reduceAdd, Int.reduceNeg, Nat.reduceLeDiff, Int.reduceToNat, Int.reduceEq, Int.reduceLT, Int.reduceLE, Int.reduceAdd]
    have : a ≠ b := fun e => hlen (by rw [e])
    exact hQ _ _ _ _ nofun rfl (by simp [tupOf, envOf, AV.strip, AV.strip1, this])

/-! few and small -/

def lightN : List Need → Int → Int
  | [], n => n
  | x :: r, n => lightN r (IntKind.wrap .i64 (IntKind.wrap .i64 (IntKind.wrap .i64 (n + 1) + x.t.length) + x.k.length))
def lightB (l : List Need) : Bool := decide (lightN l 0 ≤ 3000) && decide (l.length ≤ 300)

theorem lightR (l : List Need) (hl : l.length ≤ maxLen) : Pure Try.prog 13 [.sl .no 2 (cNs l)] (.bool (lightB l)) := by
  refine Pure.go ir13 ck13 (Nat.le_refl _) fun KP Q hQ => ?_
  simp only [maxLen] at hl
  have hll := cNs_len l
  simp (disch := first | omega | assumption) only [ir13, steps, st2, pev, rev, oev, optr, ibin, sbin, ishf, bound, mmAll, mm2, mk, mkArgs, AV.cells, AV.boxable, AV.one, AV.strip1, fillA, fillS, Nat.reduceEqDiff, reduceCtorEq, ↓reduceIte, Nat.reduceAdd, Int.reduceNeg, Nat.reduceLeDiff, Int.reduceToNat, Int.reduceEq, Int.reduceLT, Int.reduceLE, Int.reduceAdd]
  refine goL_range l 4 (fun n : Int => [(3, .int .i64 n)]) (fun done rest n H => lightN rest n = lightN l 0 ∧ H = Heap.emp) 0 (by simp (disch := first | omega | assumption) only [steps, st2, pev, rev, oev, optr, ibin, sbin, ishf, bound, mmAll, mm2, mk, mkArgs, AV.cells, AV.boxable, AV.one, AV.strip1, fillA, fillS, Nat.reduceEqDiff, reduceCtorEq, ↓reduceIte, Nat.reduceAdd, Int.reduceNeg, Nat.reduceLeDiff, Int.reduceToNat, Int.reduceEq, Int.reduceLT, Int.reduceLE, Int.reduceAdd]) ⟨rfl, rfl⟩ ?_ ?_
  · rintro n H J ⟨hn, rfl⟩ hlt
    simp only [lightN] at hn
    subst hn
    by_cases h1 : lightN l 0 ≤ 3000
    · simp (disch := first | omega | assumption) only [hll, hlt, h1, steps, st2, pev, rev, oev, optr, ibin, sbin, ishf, bound, mmAll, mm2, mk, mkArgs, AV.cells, AV.boxable, AV.one, AV.strip1, fillA, fillS, Nat.reduceEqDiff, reduceCtorEq, ↓reduceIte, Nat.reduceAdd, Int.reduceNeg, Nat.reduceLeDiff, Int.reduceToNat, Int.reduceEq, Int.reduceLT, Int.reduceLE, Int.reduceAdd]
      refine hQ _ _ _ _ nofun rfl ?_
      simp [tupOf, envOf, AV.strip, AV.strip1, lightB, h1]
      omega
    · simp (disch := first | omega | assumption) only [hll, hlt, h1, steps, st2, pev, rev, oev, optr, ibin, sbin, ishf, bound, mmAll, mm2, mk, mkArgs, AV.cells, AV.boxable, AV.one, AV.strip1, fillA, fillS, Nat.reduceEqDiff, reduceCtorEq, ↓reduceIte, Nat.reduceAdd, Int.reduceNeg, Nat.reduceLeDiff, Int.reduceToNat, Int.reduceEq, Int.reduceLT, Int.reduceLE, Int.reduceAdd]
      exact hQ _ _ _ _ nofun rfl (by simp [tupOf, envOf, AV.strip, AV.strip1, lightB, h1])
  · rintro done x rest n H J hd hlt hlt' ⟨hn, rfl⟩ hJ
    have hg := cNs_get hd
    simp only [lightN] at hn
    simp (disch := first | omega | assumption) only [hll, hlt, hg, cN, steps, st2, pev, rev, oev, optr, ibin, sbin, ishf, bound, mmAll, mm2, mk, mkArgs, AV.cells, AV.boxable, AV.one, AV.strip1, fillA, fillS, Nat.reduceEqDiff, reduceCtorEq, ↓reduceIte, Nat.reduceAdd, Int.reduceNeg, Nat.reduceLeDiff, Int.reduceToNat, Int.reduceEq, Int.reduceLT, Int.reduceLE, Int.reduceAdd]
    have hw : IntKind.wrap .i64 ((done.length : Int) + 1) = done.length + 1 := wrap64 (by omega) (by omega)
    rw [hw]
    exact goJ (hJ _ _ ⟨hn, rfl⟩) (by simp (disch := first | omega | assumption) only [steps, st2, pev, rev, oev, optr, ibin, sbin, ishf, bound, mmAll, mm2, mk, mkArgs, AV.cells, AV.boxable, AV.one, AV.strip1, fillA, fillS, Nat.reduceEqDiff, reduceCtorEq, ↓reduceIte, Nat.reduceAdd, Int.reduceNeg, Nat.reduceLeDiff, Int.reduceToNat, Int.reduceEq, Int.reduceLT, Int.reduceLE, Int.reduceAdd])
end Go.Proofs.Ythkpgjnibolnhaa
