/- Good text and good values: the document's answer. -/
import Derived.Test.YtpjafglhdlfnbaaDoorCode
import Derived.Test.YtpjafglhdlfnbaaDoorValE
set_option maxRecDepth 100000
set_option linter.unusedSimpArgs false
set_option linter.unusedVariables false
namespace Go.Proofs.YtpjafglhdlfnbaaDoor
open Go.Ab

def cZ (l : List Int) : List (List AV) := l.map fun n => [.int .i64 n]
theorem cZ_len (l : List Int) : (cZ l).length = l.length := by simp [cZ]

def codesG : Nat → List UInt8 → List Int
  | 0, _ => []
  | k + 1, l => if l = [] then [] else ((codeN l).1 : Int) :: codesG k (l.drop (codeN l).2)
theorem codesG_nil (k : Nat) : codesG k [] = [] := by cases k <;> simp [codesG]
def codesM (s : List UInt8) : List Int := if Lib.validD s then codesG s.length s else []

theorem codeN_bad {l : List UInt8} (hne : l ≠ []) (h : (codeN l).2 = 0) : Lib.validD l = false := by
  have hw := Lib.decodeL_width l
  unfold codeN at h
  rw [if_neg hne] at h
  split at h
  · rename_i e
    rw [Lib.validD_step l hne, e]; simp
  · omega
theorem codeN_good {l : List UInt8} (hne : l ≠ []) (h : (codeN l).2 ≠ 0) : Lib.validD l = Lib.validD (l.drop (codeN l).2) ∧ (codeN l).2 ≤ l.length := by
  unfold codeN at h ⊢
  rw [if_neg hne] at h ⊢
  split at h
  · simp at h
  · rename_i e
    rw [if_neg e]
    refine ⟨?_, Lib.decodeL_le l hne⟩
    rw [Lib.validD_step l hne, if_neg]
    rintro ⟨a, b⟩
    exact e (Prod.ext a b)

theorem CodesR (s : List UInt8) (hs : s.length ≤ Lim) : Pure Tryd.prog 93 [.str s] (.tup [.sl .no 1 (cZ (codesM s)), .bool (Lib.validD s)]) := by
  refine Pure.go ir93 ck93 (Nat.le_refl _) fun KP Q hQ => ?_
  have hs' := hs
  simp only [Lim] at hs
  simp (disch := first | omega | assumption) only [ir93, steps, st2, pev, rev, oev, optr, ibin, sbin, ishf, bound, mmAll, mm2, mk, mkArgs, AV.cells, AV.boxable, AV.one, AV.strip1, fillA, fillS, Nat.reduceEqDiff, reduceCtorEq, ↓reduceIte, Nat.reduceAdd, Int.reduceNeg, Nat.reduceLeDiff, Int.reduceToNat, Int.reduceEq, Int.reduceLT, Int.reduceLE, Int.reduceAdd]
  refine goL_st (fun x : Own × List Int × Nat => [(4, .sl x.1 1 (cZ x.2.1)), (5, .int .i64 x.2.2)])
    (fun x H => x.2.2 ≤ s.length ∧ x.2.1.length ≤ x.2.2 ∧ codesG s.length s = x.2.1 ++ codesG (s.length - x.2.1.length) (s.drop x.2.2) ∧ Lib.validD s = Lib.validD (s.drop x.2.2) ∧ OwnS Heap.emp .nil H x.1 x.2.1.length 1) (fun x => s.length - x.2.2) (.nil, [], 0) (by simp (disch := first | omega | assumption) only [cZ, steps, st2, pev, rev, oev, optr, ibin, sbin, ishf, bound, mmAll, mm2, mk, mkArgs, AV.cells, AV.boxable, AV.one, AV.strip1, fillA, fillS, Nat.reduceEqDiff, reduceCtorEq, ↓reduceIte, Nat.reduceAdd, Int.reduceNeg, Nat.reduceLeDiff, Int.reduceToNat, Int.reduceEq, Int.reduceLT, Int.reduceLE, Int.reduceAdd]) ⟨by simp, by simp, by simp, by simp, OwnS.refl rfl⟩ ?_
  rintro ⟨o, acc, i⟩ H J ⟨hi, hai, hc, hv, hs1⟩ hJ
  simp only at hi hai hc hv hs1
  by_cases hlt : i < s.length
  case neg =>
    have hlt' : ¬ (i : Int) < s.length := by omega
    rw [List.drop_of_length_le (by omega)] at hc hv
    rw [codesG_nil, List.append_nil] at hc
    rw [Lib.validD_nil] at hv
    simp (disch := first | omega | assumption) only [hlt', steps, st2, pev, rev, oev, optr, ibin, sbin, ishf, bound, mmAll, mm2, mk, mkArgs, AV.cells, AV.boxable, AV.one, AV.strip1, fillA, fillS, Nat.reduceEqDiff, reduceCtorEq, ↓reduceIte, Nat.reduceAdd, Int.reduceNeg, Nat.reduceLeDiff, Int.reduceToNat, Int.reduceEq, Int.reduceLT, Int.reduceLE, Int.reduceAdd]
    exact hQ _ _ _ _ nofun rfl (by simp [tupOf, envOf, AV.strip, AV.strip1, codesM, hv, hc])
  have hlt' : (i : Int) < s.length := by omega
  have hne : s.drop i ≠ [] := fun e => by have := congrArg List.length e; simp at this; omega
  have hcl := cZ_len acc
  simp (disch := first | omega | assumption) only [hlt', steps, st2, pev, rev, oev, optr, ibin, sbin, ishf, bound, mmAll, mm2, mk, mkArgs, AV.cells, AV.boxable, AV.one, AV.strip1, fillA, fillS, Nat.reduceEqDiff, reduceCtorEq, ↓reduceIte, Nat.reduceAdd, Int.reduceNeg, Nat.reduceLeDiff, Int.reduceToNat, Int.reduceEq, Int.reduceLT, Int.reduceLE, Int.reduceAdd]
  refine goK_pure (Pure.low (CodeR s i hlt hs')) ?_
  by_cases h0 : (codeN (s.drop i)).2 = 0
  · rw [codeN_bad hne h0] at hv
    have h0' : ((codeN (s.drop i)).2 : Int) = 0 := by omega
    simp (disch := first | omega | assumption) only [h0', steps, st2, pev, rev, oev, optr, ibin, sbin, ishf, bound, mmAll, mm2, mk, mkArgs, AV.cells, AV.boxable, AV.one, AV.strip1, fillA, fillS, Nat.reduceEqDiff, reduceCtorEq, ↓reduceIte, Nat.reduceAdd, Int.reduceNeg, Nat.reduceLeDiff, Int.reduceToNat, Int.reduceEq, Int.reduceLT, Int.reduceLE, Int.reduceAdd]
    exact hQ _ _ _ _ nofun rfl (by simp [tupOf, envOf, AV.strip, AV.strip1, codesM, hv, cZ])
  · obtain ⟨g1, g2⟩ := codeN_good hne h0
    rw [List.length_drop] at g2
    rw [List.drop_drop] at g1
    have h0' : ¬ ((codeN (s.drop i)).2 : Int) = 0 := by omega
    simp (disch := first | omega | assumption) only [h0', steps, st2, pev, rev, oev, optr, ibin, sbin, ishf, bound, mmAll, mm2, mk, mkArgs, AV.cells, AV.boxable, AV.one, AV.strip1, fillA, fillS, Nat.reduceEqDiff, reduceCtorEq, ↓reduceIte, Nat.reduceAdd, Int.reduceNeg, Nat.reduceLeDiff, Int.reduceToNat, Int.reduceEq, Int.reduceLT, Int.reduceLE, Int.reduceAdd]
    refine goP_ownS (by rw [hcl]; exact hs1.own) ?_ ?_ fun o' H' hs2 => ?_
    · simp only [hcl, List.length_cons, List.length_nil]; omega
    · simp only [hcl, List.length_cons, List.length_nil, maxLen]; omega
    simp (disch := first | omega | assumption) only [wrap64, steps, st2, pev, rev, oev, optr, ibin, sbin, ishf, bound, mmAll, mm2, mk, mkArgs, AV.cells, AV.boxable, AV.one, AV.strip1, fillA, fillS, Nat.reduceEqDiff, reduceCtorEq, ↓reduceIte, Nat.reduceAdd, Int.reduceNeg, Nat.reduceLeDiff, Int.reduceToNat, Int.reduceEq, Int.reduceLT, Int.reduceLE, Int.reduceAdd]
    refine goJ (hJ (o', acc ++ [((codeN (s.drop i)).1 : Int)], i + (codeN (s.drop i)).2) H' (by simp only; omega) ⟨by simp only; omega, by simp only [List.length_append, List.length_cons, List.length_nil]; omega, ?_, by rw [hv, g1], hs1.trans (by simpa [hcl] using hs2)⟩) (by simp (disch := first | omega | assumption) only [cZ, List.map_append, Int.natCast_add, steps, st2, pev, rev, oev, optr, ibin, sbin, ishf, bound, mmAll, mm2, mk, mkArgs, AV.cells, AV.boxable, AV.one, AV.strip1, fillA, fillS, Nat.reduceEqDiff, reduceCtorEq, ↓reduceIte, Nat.reduceAdd, Int.reduceNeg, Nat.reduceLeDiff, Int.reduceToNat, Int.reduceEq, Int.reduceLT, Int.reduceLE, Int.reduceAdd])
    rw [hc]
    obtain ⟨k, hk⟩ : ∃ k, s.length - acc.length = k + 1 := ⟨s.length - acc.length - 1, by omega⟩
    have hk2 : s.length - (acc ++ [((codeN (s.drop i)).1 : Int)]).length = k := by simp only [List.length_append, List.length_cons, List.length_nil]; omega
    simp only [hk, hk2, codesG]
    rw [if_neg hne, List.drop_drop]
    simp

theorem GoodR (s : List UInt8) (hs : s.length ≤ Lim) : Pure Tryd.prog 62 [.str s] (.bool (Lib.validD s)) := by
  refine Pure.go ir62 ck62 (Nat.le_refl _) fun KP Q hQ => ?_
  simp (disch := first | omega | assumption) only [ir62, steps, st2, pev, rev, oev, optr, ibin, sbin, ishf, bound, mmAll, mm2, mk, mkArgs, AV.cells, AV.boxable, AV.one, AV.strip1, fillA, fillS, Nat.reduceEqDiff, reduceCtorEq, ↓reduceIte, Nat.reduceAdd, Int.reduceNeg, Nat.reduceLeDiff, Int.reduceToNat, Int.reduceEq, Int.reduceLT, Int.reduceLE, Int.reduceAdd]
  refine goK_pure (CodesR s hs) ?_
  simp (disch := first | omega | assumption) only [steps, st2, pev, rev, oev, optr, ibin, sbin, ishf, bound, mmAll, mm2, mk, mkArgs, AV.cells, AV.boxable, AV.one, AV.strip1, fillA, fillS, Nat.reduceEqDiff, reduceCtorEq, ↓reduceIte, Nat.reduceAdd, Int.reduceNeg, Nat.reduceLeDiff, Int.reduceToNat, Int.reduceEq, Int.reduceLT, Int.reduceLE, Int.reduceAdd]
  exact hQ _ _ _ _ nofun rfl (by simp [tupOf, envOf, AV.strip, AV.strip1])
end Go.Proofs.YtpjafglhdlfnbaaDoor
