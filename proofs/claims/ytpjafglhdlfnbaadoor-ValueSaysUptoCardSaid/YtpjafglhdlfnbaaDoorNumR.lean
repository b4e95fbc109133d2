/- How long a number is, by the document's answer. -/
import Derived.Test.YtpjafglhdlfnbaaDoorNumC
set_option maxRecDepth 100000
set_option linter.unusedSimpArgs false
set_option linter.unusedVariables false
namespace Go.Proofs.YtpjafglhdlfnbaaDoor
open Go.Ab

theorem u8_ne {c : UInt8} {n : Nat} (hn : n < 256) (h : c ≠ UInt8.ofNat n) : ¬ ((c.toNat : Int) = n) := fun e => by
  have h2 := u8_is c n hn
  rw [e] at h2
  simp at h2
  exact h h2

theorem numeralR (s : List UInt8) (hs : s.length ≤ Lim) : Pure Tryd.prog 92 [.str s] (.tup [.int .i64 (numN s).1, .int .i64 (numN s).2]) := by
  refine Pure.go ir92 ck92 (Nat.le_refl _) fun KP Q hQ => ?_
  have hs' := hs
  simp only [Lim] at hs
  simp (disch := first | omega | assumption) only [ir92, steps, st2, pev, rev, oev, optr, ibin, sbin, ishf, bound, mmAll, mm2, mk, mkArgs, AV.cells, AV.boxable, AV.one, AV.strip1, fillA, fillS, Nat.reduceEqDiff, reduceCtorEq, ↓reduceIte, Nat.reduceAdd, Int.reduceNeg, Nat.reduceLeDiff, Int.reduceToNat, Int.reduceEq, Int.reduceLT, Int.reduceLE, Int.reduceAdd]
  -- the sign
  refine goU_cut (fun i : Nat => [(4, .int .i64 i)]) (fun i H => (i = if s.head? = some 45 then 1 else 0) ∧ H = Heap.emp) (fun J hJ => ?_) ?_
  · cases s with
    | nil =>
      simp (disch := first | omega | assumption) only [steps, st2, pev, rev, oev, optr, ibin, sbin, ishf, bound, mmAll, mm2, mk, mkArgs, AV.cells, AV.boxable, AV.one, AV.strip1, fillA, fillS, Nat.reduceEqDiff, reduceCtorEq, ↓reduceIte, Nat.reduceAdd, Int.reduceNeg, Nat.reduceLeDiff, Int.reduceToNat, Int.reduceEq, Int.reduceLT, Int.reduceLE, Int.reduceAdd]
      exact goJ (hJ 0 _ ⟨rfl, rfl⟩) (by simp (disch := first | omega | assumption) only [steps, st2, pev, rev, oev, optr, ibin, sbin, ishf, bound, mmAll, mm2, mk, mkArgs, AV.cells, AV.boxable, AV.one, AV.strip1, fillA, fillS, Nat.reduceEqDiff, reduceCtorEq, ↓reduceIte, Nat.reduceAdd, Int.reduceNeg, Nat.reduceLeDiff, Int.reduceToNat, Int.reduceEq, Int.reduceLT, Int.reduceLE, Int.reduceAdd])
    | cons c t =>
      have hp : (0 : Int) < ((t.length + 1 : Nat) : Int) := by omega
      by_cases h : c = 45
      · have h' : (c.toNat : Int) = 45 := by rw [h]; rfl
        simp (disch := first | omega | assumption) only [hp, h', steps, st2, pev, rev, oev, optr, ibin, sbin, ishf, bound, mmAll, mm2, mk, mkArgs, AV.cells, AV.boxable, AV.one, AV.strip1, fillA, fillS, Nat.reduceEqDiff, reduceCtorEq, ↓reduceIte, Nat.reduceAdd, Int.reduceNeg, Nat.reduceLeDiff, Int.reduceToNat, Int.reduceEq, Int.reduceLT, Int.reduceLE, Int.reduceAdd]
        exact goJ (hJ 1 _ ⟨by rw [h]; rfl, rfl⟩) (by simp (disch := first | omega | assumption) only [wrap64, steps, st2, pev, rev, oev, optr, ibin, sbin, ishf, bound, mmAll, mm2, mk, mkArgs, AV.cells, AV.boxable, AV.one, AV.strip1, fillA, fillS, Nat.reduceEqDiff, reduceCtorEq, ↓reduceIte, Nat.reduceAdd, Int.reduceNeg, Nat.reduceLeDiff, Int.reduceToNat, Int.reduceEq, Int.reduceLT, Int.reduceLE, Int.reduceAdd])
      · have h' : ¬ (c.toNat : Int) = 45 := u8_ne (n := 45) (by omega) h
        simp (disch := first | omega | assumption) only [hp, h', steps, st2, pev, rev, oev, optr, ibin, sbin, ishf, bound, mmAll, mm2, mk, mkArgs, AV.cells, AV.boxable, AV.one, AV.strip1, fillA, fillS, Nat.reduceEqDiff, reduceCtorEq, ↓reduceIte, Nat.reduceAdd, Int.reduceNeg, Nat.reduceLeDiff, Int.reduceToNat, Int.reduceEq, Int.reduceLT, Int.reduceLE, Int.reduceAdd]
        exact goJ (hJ 0 _ ⟨by simp [h], rfl⟩) (by simp (disch := first | omega | assumption) only [steps, st2, pev, rev, oev, optr, ibin, sbin, ishf, bound, mmAll, mm2, mk, mkArgs, AV.cells, AV.boxable, AV.one, AV.strip1, fillA, fillS, Nat.reduceEqDiff, reduceCtorEq, ↓reduceIte, Nat.reduceAdd, Int.reduceNeg, Nat.reduceLeDiff, Int.reduceToNat, Int.reduceEq, Int.reduceLT, Int.reduceLE, Int.reduceAdd])
  rintro i H ⟨hi, rfl⟩
  have hil : i ≤ s.length := by
    rw [hi]; split
    · rename_i h; cases s <;> simp_all
    · omega
  have hw : wholeN s = if run1 (s.drop i) = 0 then 0 else i + intN (s.drop i) := by
    unfold wholeN
    rw [hi]
    split
    · cases s <;> simp_all
    · simp only [List.drop_zero, Nat.zero_add]
      split
      · rename_i h; simp [intN, h]
      · rfl
  have hrl := run1_le (s.drop i)
  rw [List.length_drop] at hrl
  simp (disch := first | omega | assumption) only [steps, st2, pev, rev, oev, optr, ibin, sbin, ishf, bound, mmAll, mm2, mk, mkArgs, AV.cells, AV.boxable, AV.one, AV.strip1, fillA, fillS, Nat.reduceEqDiff, reduceCtorEq, ↓reduceIte, Nat.reduceAdd, Int.reduceNeg, Nat.reduceLeDiff, Int.reduceToNat, Int.reduceEq, Int.reduceLT, Int.reduceLE, Int.reduceAdd]
  refine goK_pure (runR s i (by omega) (by omega) hs') ?_
  rw [Int.toNat_natCast]
  by_cases h0 : run1 (s.drop i) = 0
  · have hw0 : wholeN s = 0 := by rw [hw, if_pos h0]
    simp (disch := first | omega | assumption) only [h0, steps, st2, pev, rev, oev, optr, ibin, sbin, ishf, bound, mmAll, mm2, mk, mkArgs, AV.cells, AV.boxable, AV.one, AV.strip1, fillA, fillS, Nat.reduceEqDiff, reduceCtorEq, ↓reduceIte, Nat.reduceAdd, Int.reduceNeg, Nat.reduceLeDiff, Int.reduceToNat, Int.reduceEq, Int.reduceLT, Int.reduceLE, Int.reduceAdd]
    exact hQ _ _ _ _ nofun rfl (by simp [tupOf, envOf, AV.strip, AV.strip1, numN, hw0])
  have h0' : ¬ ((run1 (s.drop i) : Int) = 0) := by omega
  rw [if_neg h0] at hw
  simp (disch := first | omega | assumption) only [h0', steps, st2, pev, rev, oev, optr, ibin, sbin, ishf, bound, mmAll, mm2, mk, mkArgs, AV.cells, AV.boxable, AV.one, AV.strip1, fillA, fillS, Nat.reduceEqDiff, reduceCtorEq, ↓reduceIte, Nat.reduceAdd, Int.reduceNeg, Nat.reduceLeDiff, Int.reduceToNat, Int.reduceEq, Int.reduceLT, Int.reduceLE, Int.reduceAdd]
  -- no nought ahead of more digits
  have hlt : (i : Int) < s.length := by omega
  refine goU_cut (fun k : Nat => [(5, .int .i64 k)]) (fun k H => k = intN (s.drop i) ∧ H = Heap.emp) (fun J hJ => ?_) ?_
  · rcases drop_cases s i with ⟨e1, e2⟩ | ⟨e1, e2⟩
    · rw [e1] at h0; exact absurd rfl h0
    have hg : (s.drop i).getD 0 0 = s.getD i 0 := by rw [e2]; rfl
    by_cases h : s.getD i 0 = 48
    · have h' : ((s.getD i 0).toNat : Int) = 48 := by rw [h]; rfl
      simp (disch := first | omega | assumption) only [hlt, h', steps, st2, pev, rev, oev, optr, ibin, sbin, ishf, bound, mmAll, mm2, mk, mkArgs, AV.cells, AV.boxable, AV.one, AV.strip1, fillA, fillS, Nat.reduceEqDiff, reduceCtorEq, ↓reduceIte, Nat.reduceAdd, Int.reduceNeg, Nat.reduceLeDiff, Int.reduceToNat, Int.reduceEq, Int.reduceLT, Int.reduceLE, Int.reduceAdd]
      exact goJ (hJ 1 _ ⟨by unfold intN; rw [if_neg h0, hg, if_pos h], rfl⟩) (by simp (disch := first | omega | assumption) only [steps, st2, pev, rev, oev, optr, ibin, sbin, ishf, bound, mmAll, mm2, mk, mkArgs, AV.cells, AV.boxable, AV.one, AV.strip1, fillA, fillS, Nat.reduceEqDiff, reduceCtorEq, ↓reduceIte, Nat.reduceAdd, Int.reduceNeg, Nat.reduceLeDiff, Int.reduceToNat, Int.reduceEq, Int.reduceLT, Int.reduceLE, Int.reduceAdd])
    · have h' : ¬ ((s.getD i 0).toNat : Int) = 48 := u8_ne (n := 48) (by omega) h
      simp (disch := first | omega | assumption) only [hlt, h', steps, st2, pev, rev, oev, optr, ibin, sbin, ishf, bound, mmAll, mm2, mk, mkArgs, AV.cells, AV.boxable, AV.one, AV.strip1, fillA, fillS, Nat.reduceEqDiff, reduceCtorEq, ↓reduceIte, Nat.reduceAdd, Int.reduceNeg, Nat.reduceLeDiff, Int.reduceToNat, Int.reduceEq, Int.reduceLT, Int.reduceLE, Int.reduceAdd]
      exact goJ (hJ (run1 (s.drop i)) _ ⟨by unfold intN; rw [if_neg h0, hg, if_neg h], rfl⟩) (by simp (disch := first | omega | assumption) only [steps, st2, pev, rev, oev, optr, ibin, sbin, ishf, bound, mmAll, mm2, mk, mkArgs, AV.cells, AV.boxable, AV.one, AV.strip1, fillA, fillS, Nat.reduceEqDiff, reduceCtorEq, ↓reduceIte, Nat.reduceAdd, Int.reduceNeg, Nat.reduceLeDiff, Int.reduceToNat, Int.reduceEq, Int.reduceLT, Int.reduceLE, Int.reduceAdd])
  rintro k H ⟨hk, rfl⟩
  subst hk
  have hn0 : wholeN s ≠ 0 := by have := intN_pos h0; omega
  have hwl := wholeN_le s
  have hik : (i : Int) + (intN (s.drop i) : Int) = wholeN s := by omega
  have hnum : numN s = (wholeN s + fracN (s.drop (wholeN s)) + powN (s.drop (wholeN s + fracN (s.drop (wholeN s)))), if fracN (s.drop (wholeN s)) = 0 ∧ powN (s.drop (wholeN s + fracN (s.drop (wholeN s)))) = 0 then 3 else 4) := by
    unfold numN; rw [if_neg hn0]
  generalize wholeN s = n at hn0 hwl hik hnum
  simp (disch := first | omega | assumption) only [wrap64, hik, steps, st2, pev, rev, oev, optr, ibin, sbin, ishf, bound, mmAll, mm2, mk, mkArgs, AV.cells, AV.boxable, AV.one, AV.strip1, fillA, fillS, Nat.reduceEqDiff, reduceCtorEq, ↓reduceIte, Nat.reduceAdd, Int.reduceNeg, Nat.reduceLeDiff, Int.reduceToNat, Int.reduceEq, Int.reduceLT, Int.reduceLE, Int.reduceAdd]
  -- the fraction
  refine goU_cut (fun x : Nat × Int => [(4, .int .i64 x.1), (6, .int .i64 x.2)]) (fun x H => x = (n + fracN (s.drop n), if fracN (s.drop n) = 0 then 3 else 4) ∧ H = Heap.emp) (fun J hJ => ?_) ?_
  · simp (disch := first | omega | assumption) only [wrap64, hik, steps, st2, pev, rev, oev, optr, ibin, sbin, ishf, bound, mmAll, mm2, mk, mkArgs, AV.cells, AV.boxable, AV.one, AV.strip1, fillA, fillS, Nat.reduceEqDiff, reduceCtorEq, ↓reduceIte, Nat.reduceAdd, Int.reduceNeg, Nat.reduceLeDiff, Int.reduceToNat, Int.reduceEq, Int.reduceLT, Int.reduceLE, Int.reduceAdd]
    rcases drop_cases s n with ⟨e1, e2⟩ | ⟨e1, e2⟩
    · have hlt : ¬ (n : Int) < s.length := by omega
      have hf : fracN (s.drop n) = 0 := by simp [fracN, e1]
      simp (disch := first | omega | assumption) only [hlt, steps, st2, pev, rev, oev, optr, ibin, sbin, ishf, bound, mmAll, mm2, mk, mkArgs, AV.cells, AV.boxable, AV.one, AV.strip1, fillA, fillS, Nat.reduceEqDiff, reduceCtorEq, ↓reduceIte, Nat.reduceAdd, Int.reduceNeg, Nat.reduceLeDiff, Int.reduceToNat, Int.reduceEq, Int.reduceLT, Int.reduceLE, Int.reduceAdd]
      exact goJ (hJ (n, 3) _ ⟨by simp [hf], rfl⟩) (by simp (disch := first | omega | assumption) only [steps, st2, pev, rev, oev, optr, ibin, sbin, ishf, bound, mmAll, mm2, mk, mkArgs, AV.cells, AV.boxable, AV.one, AV.strip1, fillA, fillS, Nat.reduceEqDiff, reduceCtorEq, ↓reduceIte, Nat.reduceAdd, Int.reduceNeg, Nat.reduceLeDiff, Int.reduceToNat, Int.reduceEq, Int.reduceLT, Int.reduceLE, Int.reduceAdd])
    · have hlt : (n : Int) < s.length := by omega
      by_cases h : s.getD n 0 = 46
      · have hto : ((n : Int) + 1).toNat = n + 1 := by omega
        have hv : ((s.getD n 0).toNat : Int) = 46 := by rw [h]; rfl
        simp (disch := first | omega | assumption) only [hlt, hv, wrap64, steps, st2, pev, rev, oev, optr, ibin, sbin, ishf, bound, mmAll, mm2, mk, mkArgs, AV.cells, AV.boxable, AV.one, AV.strip1, fillA, fillS, Nat.reduceEqDiff, reduceCtorEq, ↓reduceIte, Nat.reduceAdd, Int.reduceNeg, Nat.reduceLeDiff, Int.reduceToNat, Int.reduceEq, Int.reduceLT, Int.reduceLE, Int.reduceAdd]
        refine goK_pure (runR s (n + 1) (by omega) (by omega) hs') ?_
        rw [hto]
        have hrl2 := run1_le (s.drop (n + 1))
        rw [List.length_drop] at hrl2
        by_cases hr : 0 < run1 (s.drop (n + 1))
        · have hf : fracN (s.drop n) = 1 + run1 (s.drop (n + 1)) := by rw [e2, h]; simp only [fracN, List.head?_cons, List.tail_cons, true_and]; rw [if_pos hr]
          have hr' : (0 : Int) < run1 (s.drop (n + 1)) := by omega
          simp (disch := first | omega | assumption) only [hr', wrap64, steps, st2, pev, rev, oev, optr, ibin, sbin, ishf, bound, mmAll, mm2, mk, mkArgs, AV.cells, AV.boxable, AV.one, AV.strip1, fillA, fillS, Nat.reduceEqDiff, reduceCtorEq, ↓reduceIte, Nat.reduceAdd, Int.reduceNeg, Nat.reduceLeDiff, Int.reduceToNat, Int.reduceEq, Int.reduceLT, Int.reduceLE, Int.reduceAdd]
          refine goK_pure (runR s (n + 1) (by omega) (by omega) hs') ?_
          rw [hto]
          simp (disch := first | omega | assumption) only [wrap64, steps, st2, pev, rev, oev, optr, ibin, sbin, ishf, bound, mmAll, mm2, mk, mkArgs, AV.cells, AV.boxable, AV.one, AV.strip1, fillA, fillS, Nat.reduceEqDiff, reduceCtorEq, ↓reduceIte, Nat.reduceAdd, Int.reduceNeg, Nat.reduceLeDiff, Int.reduceToNat, Int.reduceEq, Int.reduceLT, Int.reduceLE, Int.reduceAdd]
          exact goJ (hJ (n + 1 + run1 (s.drop (n + 1)), 4) _ ⟨by rw [hf]; simp; omega, rfl⟩) (by simp (disch := first | omega | assumption) only [Int.natCast_add, Int.natCast_one, steps, st2, pev, rev, oev, optr, ibin, sbin, ishf, bound, mmAll, mm2, mk, mkArgs, AV.cells, AV.boxable, AV.one, AV.strip1, fillA, fillS, Nat.reduceEqDiff, reduceCtorEq, ↓reduceIte, Nat.reduceAdd, Int.reduceNeg, Nat.reduceLeDiff, Int.reduceToNat, Int.reduceEq, Int.reduceLT, Int.reduceLE, Int.reduceAdd])
        · have hf : fracN (s.drop n) = 0 := by rw [e2, h]; simp only [fracN, List.head?_cons, List.tail_cons, true_and]; rw [if_neg hr]
          have hr' : ¬ (0 : Int) < run1 (s.drop (n + 1)) := by omega
          simp (disch := first | omega | assumption) only [hr', steps, st2, pev, rev, oev, optr, ibin, sbin, ishf, bound, mmAll, mm2, mk, mkArgs, AV.cells, AV.boxable, AV.one, AV.strip1, fillA, fillS, Nat.reduceEqDiff, reduceCtorEq, ↓reduceIte, Nat.reduceAdd, Int.reduceNeg, Nat.reduceLeDiff, Int.reduceToNat, Int.reduceEq, Int.reduceLT, Int.reduceLE, Int.reduceAdd]
          exact goJ (hJ (n, 3) _ ⟨by simp [hf], rfl⟩) (by simp (disch := first | omega | assumption) only [steps, st2, pev, rev, oev, optr, ibin, sbin, ishf, bound, mmAll, mm2, mk, mkArgs, AV.cells, AV.boxable, AV.one, AV.strip1, fillA, fillS, Nat.reduceEqDiff, reduceCtorEq, ↓reduceIte, Nat.reduceAdd, Int.reduceNeg, Nat.reduceLeDiff, Int.reduceToNat, Int.reduceEq, Int.reduceLT, Int.reduceLE, Int.reduceAdd])
      · have h' : ¬ ((s.getD n 0).toNat : Int) = 46 := u8_ne (n := 46) (by omega) h
        have hf : fracN (s.drop n) = 0 := by rw [e2]; simp only [fracN, List.head?_cons, Option.some.injEq]; rw [if_neg (fun e => h e.1)]
        simp (disch := first | omega | assumption) only [hlt, h', steps, st2, pev, rev, oev, optr, ibin, sbin, ishf, bound, mmAll, mm2, mk, mkArgs, AV.cells, AV.boxable, AV.one, AV.strip1, fillA, fillS, Nat.reduceEqDiff, reduceCtorEq, ↓reduceIte, Nat.reduceAdd, Int.reduceNeg, Nat.reduceLeDiff, Int.reduceToNat, Int.reduceEq, Int.reduceLT, Int.reduceLE, Int.reduceAdd]
        exact goJ (hJ (n, 3) _ ⟨by simp [hf], rfl⟩) (by simp (disch := first | omega | assumption) only [steps, st2, pev, rev, oev, optr, ibin, sbin, ishf, bound, mmAll, mm2, mk, mkArgs, AV.cells, AV.boxable, AV.one, AV.strip1, fillA, fillS, Nat.reduceEqDiff, reduceCtorEq, ↓reduceIte, Nat.reduceAdd, Int.reduceNeg, Nat.reduceLeDiff, Int.reduceToNat, Int.reduceEq, Int.reduceLT, Int.reduceLE, Int.reduceAdd])
  rintro ⟨m, k⟩ H ⟨hx, rfl⟩
  simp only [Prod.mk.injEq] at hx
  obtain ⟨hm, hk⟩ := hx
  have hml : m ≤ s.length := by
    have := fracN_le (s.drop n)
    rw [List.length_drop] at this
    omega
  rw [← hm] at hnum
  simp (disch := first | omega | assumption) only [steps, st2, pev, rev, oev, optr, ibin, sbin, ishf, bound, mmAll, mm2, mk, mkArgs, AV.cells, AV.boxable, AV.one, AV.strip1, fillA, fillS, Nat.reduceEqDiff, reduceCtorEq, ↓reduceIte, Nat.reduceAdd, Int.reduceNeg, Nat.reduceLeDiff, Int.reduceToNat, Int.reduceEq, Int.reduceLT, Int.reduceLE, Int.reduceAdd]
  -- the exponent
  refine goU_cut (fun x : Nat × Int => [(4, .int .i64 x.1), (6, .int .i64 x.2)]) (fun x H => x = (m + powN (s.drop m), if powN (s.drop m) = 0 then k else 4) ∧ H = Heap.emp) (fun J hJ => ?_) ?_
  · rcases drop_cases s m with ⟨e1, e2⟩ | ⟨e1, e2⟩
    · have hlt : ¬ (m : Int) < s.length := by omega
      have hp : powN (s.drop m) = 0 := by rw [e1]; rfl
      simp (disch := first | omega | assumption) only [hlt, steps, st2, pev, rev, oev, optr, ibin, sbin, ishf, bound, mmAll, mm2, mk, mkArgs, AV.cells, AV.boxable, AV.one, AV.strip1, fillA, fillS, Nat.reduceEqDiff, reduceCtorEq, ↓reduceIte, Nat.reduceAdd, Int.reduceNeg, Nat.reduceLeDiff, Int.reduceToNat, Int.reduceEq, Int.reduceLT, Int.reduceLE, Int.reduceAdd]
      exact goJ (hJ (m, k) _ ⟨by simp [hp], rfl⟩) (by simp (disch := first | omega | assumption) only [steps, st2, pev, rev, oev, optr, ibin, sbin, ishf, bound, mmAll, mm2, mk, mkArgs, AV.cells, AV.boxable, AV.one, AV.strip1, fillA, fillS, Nat.reduceEqDiff, reduceCtorEq, ↓reduceIte, Nat.reduceAdd, Int.reduceNeg, Nat.reduceLeDiff, Int.reduceToNat, Int.reduceEq, Int.reduceLT, Int.reduceLE, Int.reduceAdd])
    · have hlt : (m : Int) < s.length := by omega
      obtain ⟨c, hc⟩ : ∃ c, s.getD m 0 = c := ⟨_, rfl⟩
      rw [hc] at e2
      by_cases h : isE c = true
      · have hE : c = 101 ∨ c = 69 := by simpa [isE] using h
        have hp : powN (s.drop m) = if run1 (s.drop (m + 1 + sgN (s.drop (m + 1)))) = 0 then 0 else 1 + sgN (s.drop (m + 1)) + run1 (s.drop (m + 1 + sgN (s.drop (m + 1)))) := by
          rw [e2]; simp only [powN, h, if_true, List.drop_drop]
        have hto : ((m : Int) + 1).toNat = m + 1 := by omega
        have hm1 : (0 : Int) ≤ (m : Int) + 1 := by omega
        have hsg := sgN_le (s.drop (m + 1))
        rw [List.length_drop] at hsg
        rcases hE with he | he
        case' inl =>
          have hv : (c.toNat : Int) = 101 := by rw [he]; rfl
          simp (disch := first | omega | assumption) only [hlt, hc, hv, wrap64, steps, st2, pev, rev, oev, optr, ibin, sbin, ishf, bound, mmAll, mm2, mk, mkArgs, AV.cells, AV.boxable, AV.one, AV.strip1, fillA, fillS, Nat.reduceEqDiff, reduceCtorEq, ↓reduceIte, Nat.reduceAdd, Int.reduceNeg, Nat.reduceLeDiff, Int.reduceToNat, Int.reduceEq, Int.reduceLT, Int.reduceLE, Int.reduceAdd]
        case' inr =>
          have hv : (c.toNat : Int) = 69 := by rw [he]; rfl
          have hv2 : ¬ (69 : Int) = 101 := by omega
          simp (disch := first | omega | assumption) only [hlt, hc, hv, hv2, wrap64, steps, st2, pev, rev, oev, optr, ibin, sbin, ishf, bound, mmAll, mm2, mk, mkArgs, AV.cells, AV.boxable, AV.one, AV.strip1, fillA, fillS, Nat.reduceEqDiff, reduceCtorEq, ↓reduceIte, Nat.reduceAdd, Int.reduceNeg, Nat.reduceLeDiff, Int.reduceToNat, Int.reduceEq, Int.reduceLT, Int.reduceLE, Int.reduceAdd]
        all_goals
          refine goU_cut (fun q : Nat => [(7, .int .i64 q)]) (fun q H => q = m + 1 + sgN (s.drop (m + 1)) ∧ H = Heap.emp) (fun J2 hJ2 => ?_) ?_
          · rcases drop_cases s (m + 1) with ⟨f1, f2⟩ | ⟨f1, f2⟩
            · have hq : ¬ ((m : Int) + 1 < s.length) := by omega
              simp (disch := first | omega | assumption) only [wrap64, hq, steps, st2, pev, rev, oev, optr, ibin, sbin, ishf, bound, mmAll, mm2, mk, mkArgs, AV.cells, AV.boxable, AV.one, AV.strip1, fillA, fillS, Nat.reduceEqDiff, reduceCtorEq, ↓reduceIte, Nat.reduceAdd, Int.reduceNeg, Nat.reduceLeDiff, Int.reduceToNat, Int.reduceEq, Int.reduceLT, Int.reduceLE, Int.reduceAdd]
              exact goJ (hJ2 (m + 1) _ ⟨by rw [f1]; rfl, rfl⟩) (by simp (disch := first | omega | assumption) only [Int.natCast_add, Int.natCast_one, steps, st2, pev, rev, oev, optr, ibin, sbin, ishf, bound, mmAll, mm2, mk, mkArgs, AV.cells, AV.boxable, AV.one, AV.strip1, fillA, fillS, Nat.reduceEqDiff, reduceCtorEq, ↓reduceIte, Nat.reduceAdd, Int.reduceNeg, Nat.reduceLeDiff, Int.reduceToNat, Int.reduceEq, Int.reduceLT, Int.reduceLE, Int.reduceAdd])
            · have hq : (m : Int) + 1 < s.length := by omega
              obtain ⟨d, hd⟩ : ∃ d, s.getD (m + 1) 0 = d := ⟨_, rfl⟩
              rw [hd] at f2
              by_cases d43 : d = 43
              · have hv3 : (d.toNat : Int) = 43 := by rw [d43]; rfl
                simp (disch := first | omega | assumption) only [wrap64, hq, hto, hm1, hd, hv3, steps, st2, pev, rev, oev, optr, ibin, sbin, ishf, bound, mmAll, mm2, mk, mkArgs, AV.cells, AV.boxable, AV.one, AV.strip1, fillA, fillS, Nat.reduceEqDiff, reduceCtorEq, ↓reduceIte, Nat.reduceAdd, Int.reduceNeg, Nat.reduceLeDiff, Int.reduceToNat, Int.reduceEq, Int.reduceLT, Int.reduceLE, Int.reduceAdd]
                exact goJ (hJ2 (m + 1 + 1) _ ⟨by rw [f2, d43]; rfl, rfl⟩) (by simp (disch := first | omega | assumption) only [Int.natCast_add, Int.natCast_one, steps, st2, pev, rev, oev, optr, ibin, sbin, ishf, bound, mmAll, mm2, mk, mkArgs, AV.cells, AV.boxable, AV.one, AV.strip1, fillA, fillS, Nat.reduceEqDiff, reduceCtorEq, ↓reduceIte, Nat.reduceAdd, Int.reduceNeg, Nat.reduceLeDiff, Int.reduceToNat, Int.reduceEq, Int.reduceLT, Int.reduceLE, Int.reduceAdd])
              · have hv3 : ¬ (d.toNat : Int) = 43 := u8_ne (n := 43) (by omega) d43
                by_cases d45 : d = 45
                · have hv4 : (d.toNat : Int) = 45 := by rw [d45]; rfl
                  have hv5 : ¬ (45 : Int) = 43 := by omega
                  simp (disch := first | omega | assumption) only [wrap64, hq, hto, hm1, hd, hv4, hv5, steps, st2, pev, rev, oev, optr, ibin, sbin, ishf, bound, mmAll, mm2, mk, mkArgs, AV.cells, AV.boxable, AV.one, AV.strip1, fillA, fillS, Nat.reduceEqDiff, reduceCtorEq, ↓reduceIte, Nat.reduceAdd, Int.reduceNeg, Nat.reduceLeDiff, Int.reduceToNat, Int.reduceEq, Int.reduceLT, Int.reduceLE, Int.reduceAdd]
                  exact goJ (hJ2 (m + 1 + 1) _ ⟨by rw [f2, d45]; rfl, rfl⟩) (by simp (disch := first | omega | assumption) only [Int.natCast_add, Int.natCast_one, steps, st2, pev, rev, oev, optr, ibin, sbin, ishf, bound, mmAll, mm2, mk, mkArgs, AV.cells, AV.boxable, AV.one, AV.strip1, fillA, fillS, Nat.reduceEqDiff, reduceCtorEq, ↓reduceIte, Nat.reduceAdd, Int.reduceNeg, Nat.reduceLeDiff, Int.reduceToNat, Int.reduceEq, Int.reduceLT, Int.reduceLE, Int.reduceAdd])
                · have hv4 : ¬ (d.toNat : Int) = 45 := u8_ne (n := 45) (by omega) d45
                  simp (disch := first | omega | assumption) only [wrap64, hq, hto, hm1, hd, hv3, hv4, steps, st2, pev, rev, oev, optr, ibin, sbin, ishf, bound, mmAll, mm2, mk, mkArgs, AV.cells, AV.boxable, AV.one, AV.strip1, fillA, fillS, Nat.reduceEqDiff, reduceCtorEq, ↓reduceIte, Nat.reduceAdd, Int.reduceNeg, Nat.reduceLeDiff, Int.reduceToNat, Int.reduceEq, Int.reduceLT, Int.reduceLE, Int.reduceAdd]
                  exact goJ (hJ2 (m + 1) _ ⟨by rw [f2]; simp [sgN, d43, d45], rfl⟩) (by simp (disch := first | omega | assumption) only [Int.natCast_add, Int.natCast_one, steps, st2, pev, rev, oev, optr, ibin, sbin, ishf, bound, mmAll, mm2, mk, mkArgs, AV.cells, AV.boxable, AV.one, AV.strip1, fillA, fillS, Nat.reduceEqDiff, reduceCtorEq, ↓reduceIte, Nat.reduceAdd, Int.reduceNeg, Nat.reduceLeDiff, Int.reduceToNat, Int.reduceEq, Int.reduceLT, Int.reduceLE, Int.reduceAdd])
          rintro q H ⟨hq, rfl⟩
          rw [← hq] at hp
          have hql : q ≤ s.length := by omega
          simp (disch := first | omega | assumption) only [steps, st2, pev, rev, oev, optr, ibin, sbin, ishf, bound, mmAll, mm2, mk, mkArgs, AV.cells, AV.boxable, AV.one, AV.strip1, fillA, fillS, Nat.reduceEqDiff, reduceCtorEq, ↓reduceIte, Nat.reduceAdd, Int.reduceNeg, Nat.reduceLeDiff, Int.reduceToNat, Int.reduceEq, Int.reduceLT, Int.reduceLE, Int.reduceAdd]
          refine goK_pure (runR s q (by omega) (by omega) hs') ?_
          rw [Int.toNat_natCast]
          have hrl3 := run1_le (s.drop q)
          rw [List.length_drop] at hrl3
          by_cases hr : run1 (s.drop q) = 0
          · have hr' : ¬ (0 : Int) < run1 (s.drop q) := by omega
            rw [if_pos hr] at hp
            simp (disch := first | omega | assumption) only [hr', steps, st2, pev, rev, oev, optr, ibin, sbin, ishf, bound, mmAll, mm2, mk, mkArgs, AV.cells, AV.boxable, AV.one, AV.strip1, fillA, fillS, Nat.reduceEqDiff, reduceCtorEq, ↓reduceIte, Nat.reduceAdd, Int.reduceNeg, Nat.reduceLeDiff, Int.reduceToNat, Int.reduceEq, Int.reduceLT, Int.reduceLE, Int.reduceAdd]
            exact goJ (hJ (m, k) _ ⟨by simp [hp], rfl⟩) (by simp (disch := first | omega | assumption) only [steps, st2, pev, rev, oev, optr, ibin, sbin, ishf, bound, mmAll, mm2, mk, mkArgs, AV.cells, AV.boxable, AV.one, AV.strip1, fillA, fillS, Nat.reduceEqDiff, reduceCtorEq, ↓reduceIte, Nat.reduceAdd, Int.reduceNeg, Nat.reduceLeDiff, Int.reduceToNat, Int.reduceEq, Int.reduceLT, Int.reduceLE, Int.reduceAdd])
          · have hr' : (0 : Int) < run1 (s.drop q) := by omega
            rw [if_neg hr] at hp
            simp (disch := first | omega | assumption) only [hr', steps, st2, pev, rev, oev, optr, ibin, sbin, ishf, bound, mmAll, mm2, mk, mkArgs, AV.cells, AV.boxable, AV.one, AV.strip1, fillA, fillS, Nat.reduceEqDiff, reduceCtorEq, ↓reduceIte, Nat.reduceAdd, Int.reduceNeg, Nat.reduceLeDiff, Int.reduceToNat, Int.reduceEq, Int.reduceLT, Int.reduceLE, Int.reduceAdd]
            refine goK_pure (runR s q (by omega) (by omega) hs') ?_
            rw [Int.toNat_natCast]
            simp (disch := first | omega | assumption) only [wrap64, steps, st2, pev, rev, oev, optr, ibin, sbin, ishf, bound, mmAll, mm2, mk, mkArgs, AV.cells, AV.boxable, AV.one, AV.strip1, fillA, fillS, Nat.reduceEqDiff, reduceCtorEq, ↓reduceIte, Nat.reduceAdd, Int.reduceNeg, Nat.reduceLeDiff, Int.reduceToNat, Int.reduceEq, Int.reduceLT, Int.reduceLE, Int.reduceAdd]
            exact goJ (hJ (q + run1 (s.drop q), 4) _ ⟨by rw [hp]; simp; omega, rfl⟩) (by simp (disch := first | omega | assumption) only [Int.natCast_add, steps, st2, pev, rev, oev, optr, ibin, sbin, ishf, bound, mmAll, mm2, mk, mkArgs, AV.cells, AV.boxable, AV.one, AV.strip1, fillA, fillS, Nat.reduceEqDiff, reduceCtorEq, ↓reduceIte, Nat.reduceAdd, Int.reduceNeg, Nat.reduceLeDiff, Int.reduceToNat, Int.reduceEq, Int.reduceLT, Int.reduceLE, Int.reduceAdd])
      · have h1 : c ≠ 101 := fun e => h (by simp [isE, e])
        have h2 : c ≠ 69 := fun e => h (by simp [isE, e])
        have hp : powN (s.drop m) = 0 := by rw [e2]; simp [powN, h]
        have h1' : ¬ (c.toNat : Int) = 101 := u8_ne (n := 101) (by omega) h1
        have h2' : ¬ (c.toNat : Int) = 69 := u8_ne (n := 69) (by omega) h2
        simp (disch := first | omega | assumption) only [hlt, hc, h1', h2', steps, st2, pev, rev, oev, optr, ibin, sbin, ishf, bound, mmAll, mm2, mk, mkArgs, AV.cells, AV.boxable, AV.one, AV.strip1, fillA, fillS, Nat.reduceEqDiff, reduceCtorEq, ↓reduceIte, Nat.reduceAdd, Int.reduceNeg, Nat.reduceLeDiff, Int.reduceToNat, Int.reduceEq, Int.reduceLT, Int.reduceLE, Int.reduceAdd]
        exact goJ (hJ (m, k) _ ⟨by simp [hp], rfl⟩) (by simp (disch := first | omega | assumption) only [steps, st2, pev, rev, oev, optr, ibin, sbin, ishf, bound, mmAll, mm2, mk, mkArgs, AV.cells, AV.boxable, AV.one, AV.strip1, fillA, fillS, Nat.reduceEqDiff, reduceCtorEq, ↓reduceIte, Nat.reduceAdd, Int.reduceNeg, Nat.reduceLeDiff, Int.reduceToNat, Int.reduceEq, Int.reduceLT, Int.reduceLE, Int.reduceAdd])
  rintro ⟨m2, k2⟩ H ⟨hx, rfl⟩
  simp only [Prod.mk.injEq] at hx
  obtain ⟨hm2, hk2⟩ := hx
  have hfin : numN s = (m2, k2) := by
    rw [hnum, hm2, hk2, hk]
    by_cases a : fracN (s.drop n) = 0 <;> by_cases b : powN (s.drop m) = 0 <;> simp [a, b]
  simp (disch := first | omega | assumption) only [steps, st2, pev, rev, oev, optr, ibin, sbin, ishf, bound, mmAll, mm2, mk, mkArgs, AV.cells, AV.boxable, AV.one, AV.strip1, fillA, fillS, Nat.reduceEqDiff, reduceCtorEq, ↓reduceIte, Nat.reduceAdd, Int.reduceNeg, Nat.reduceLeDiff, Int.reduceToNat, Int.reduceEq, Int.reduceLT, Int.reduceLE, Int.reduceAdd]
  exact hQ _ _ _ _ nofun rfl (by simp [tupOf, envOf, AV.strip, AV.strip1, hfin])
end Go.Proofs.YtpjafglhdlfnbaaDoor
