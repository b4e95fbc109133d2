/- How long a number is, and of which kind. -/
import Derived.Test.YtpjafglhdlfnbaaDoorNum
set_option maxRecDepth 100000
set_option linter.unusedSimpArgs false
set_option linter.unusedVariables false
namespace Go.Proofs.YtpjafglhdlfnbaaDoor
open Go.Ab

theorem prefix1 (c : UInt8) (s : List UInt8) : [c].isPrefixOf s = decide (s.head? = some c) := by
  cases s with
  | nil => rfl
  | cons d r =>
    by_cases h : d = c
    · subst h; simp [List.isPrefixOf]
    · have h' : ¬ c = d := fun e => h e.symm
      simp [List.isPrefixOf, h, h']

/-- digits with no nought ahead -/
def intN (s : List UInt8) : Nat := if run1 s = 0 then 0 else if s.getD 0 0 = 48 then 1 else run1 s
def wholeN (s : List UInt8) : Nat := if s.head? = some 45 then (if run1 s.tail = 0 then 0 else 1 + intN s.tail) else intN s
theorem intN_le (s : List UInt8) : intN s ≤ s.length := by have := run1_le s; unfold intN; split <;> (try split) <;> omega
theorem intN_pos {s : List UInt8} (h : run1 s ≠ 0) : 0 < intN s := by unfold intN; simp only [h, if_false]; split <;> omega
theorem wholeN_le (s : List UInt8) : wholeN s ≤ s.length := by
  have h1 := intN_le s
  have h2 := intN_le s.tail
  unfold wholeN
  split
  · rename_i h
    cases s with
    | nil => simp at h
    | cons c r =>
      simp only [List.tail_cons, List.length_cons] at h2 ⊢
      by_cases h0 : run1 r = 0 <;> simp only [h0, if_true, if_false] <;> omega
  · exact h1

theorem u8_eq {a b : UInt8} : ((a.toNat : Int) = (b.toNat : Int)) = (a = b) := by
  apply propext
  rw [Int.natCast_inj]
  exact UInt8.toNat_inj

theorem u8_is (a : UInt8) (n : Nat) (hn : n < 256) : decide ((a.toNat : Int) = n) = decide (a = UInt8.ofNat n) := by
  rw [decide_eq_decide]
  have : (UInt8.ofNat n).toNat = n := by simp [UInt8.toNat_ofNat']; omega
  constructor
  · intro h; apply UInt8.toNat_inj.1; rw [this]; omega
  · intro h; subst h; rw [this]

theorem wholeC (s : List UInt8) (hs : s.length ≤ Lim) : Pure Tryd.prog 131 [.str s] (.int .i64 (wholeN s)) := by
  refine Pure.go ir131 ck131 (Nat.le_refl _) fun KP Q hQ => ?_
  simp only [Lim] at hs
  simp (disch := first | omega | assumption) only [ir131, steps, st2, pev, rev, oev, optr, ibin, sbin, ishf, bound, mmAll, mm2, mk, mkArgs, AV.cells, AV.boxable, AV.one, AV.strip1, fillA, fillS, Nat.reduceEqDiff, reduceCtorEq, ↓reduceIte, Nat.reduceAdd, Int.reduceNeg, Nat.reduceLeDiff, Int.reduceToNat, Int.reduceEq, Int.reduceLT, Int.reduceLE, Int.reduceAdd]
  refine goK_pure (prefixC s [45]) ?_
  rw [prefix1]
  by_cases h : s.head? = some 45
  · cases s with
    | nil => simp at h
    | cons c r =>
      have hc : c = 45 := by simpa using h
      subst hc
      simp only [List.length_cons] at hs
      have h1 : (1 : Int) ≤ ((r.length + 1 : Nat) : Int) := by omega
      have h2 : (1 : Int) < ((r.length + 1 : Nat) : Int) ∨ r = [] := by cases r <;> simp; omega
      simp (disch := first | omega | assumption) only [h, h1, Int.toNat_one, steps, st2, pev, rev, oev, optr, ibin, sbin, ishf, bound, mmAll, mm2, mk, mkArgs, AV.cells, AV.boxable, AV.one, AV.strip1, fillA, fillS, Nat.reduceEqDiff, reduceCtorEq, ↓reduceIte, Nat.reduceAdd, Int.reduceNeg, Nat.reduceLeDiff, Int.reduceToNat, Int.reduceEq, Int.reduceLT, Int.reduceLE, Int.reduceAdd]
      refine goK_pure (digitsC r (by simp only [Lim]; omega)) ?_
      by_cases h0 : run1 r = 0
      · simp (disch := first | omega | assumption) only [h0, steps, st2, pev, rev, oev, optr, ibin, sbin, ishf, bound, mmAll, mm2, mk, mkArgs, AV.cells, AV.boxable, AV.one, AV.strip1, fillA, fillS, Nat.reduceEqDiff, reduceCtorEq, ↓reduceIte, Nat.reduceAdd, Int.reduceNeg, Nat.reduceLeDiff, Int.reduceToNat, Int.reduceEq, Int.reduceLT, Int.reduceLE, Int.reduceAdd]
        exact hQ _ _ _ _ nofun rfl (by simp [tupOf, envOf, AV.strip, AV.strip1, wholeN, h0])
      · have h0' : ¬ ((run1 r : Int) = 0) := by omega
        have hrl := run1_le r
        have hlt : (1 : Int) < ((r.length + 1 : Nat) : Int) := by omega
        have e := u8_is (r.getD 0 0) 48 (by omega)
        by_cases h48 : r.getD 0 0 = 48
        · have hi : intN r = 1 := by simp only [intN, h0, h48, if_false, if_true]
          simp (disch := first | omega | assumption) only [h0', hlt, Int.toNat_one, h48, UInt8.reduceToNat, wrap64, steps, st2, pev, rev, oev, optr, ibin, sbin, ishf, bound, mmAll, mm2, mk, mkArgs, AV.cells, AV.boxable, AV.one, AV.strip1, fillA, fillS, Nat.reduceEqDiff, reduceCtorEq, ↓reduceIte, Nat.reduceAdd, Int.reduceNeg, Nat.reduceLeDiff, Int.reduceToNat, Int.reduceEq, Int.reduceLT, Int.reduceLE, Int.reduceAdd]
          exact hQ _ _ _ _ nofun rfl (by simp [tupOf, envOf, AV.strip, AV.strip1, wholeN, h0, hi])
        · have h48' : ¬ ((r.getD 0 0).toNat : Int) = 48 := by
            intro hh
            rw [decide_eq_true (by exact hh)] at e
            exact h48 (by simpa using e.symm)
          have hi : intN r = run1 r := by simp only [intN, h0, h48, if_false]
          simp (disch := first | omega | assumption) only [h0', hlt, Int.toNat_one, h48', wrap64, steps, st2, pev, rev, oev, optr, ibin, sbin, ishf, bound, mmAll, mm2, mk, mkArgs, AV.cells, AV.boxable, AV.one, AV.strip1, fillA, fillS, Nat.reduceEqDiff, reduceCtorEq, ↓reduceIte, Nat.reduceAdd, Int.reduceNeg, Nat.reduceLeDiff, Int.reduceToNat, Int.reduceEq, Int.reduceLT, Int.reduceLE, Int.reduceAdd]
          exact hQ _ _ _ _ nofun rfl (by simp [tupOf, envOf, AV.strip, AV.strip1, wholeN, h0, hi])
  · simp (disch := first | omega | assumption) only [h, steps, st2, pev, rev, oev, optr, ibin, sbin, ishf, bound, mmAll, mm2, mk, mkArgs, AV.cells, AV.boxable, AV.one, AV.strip1, fillA, fillS, Nat.reduceEqDiff, reduceCtorEq, ↓reduceIte, Nat.reduceAdd, Int.reduceNeg, Nat.reduceLeDiff, Int.reduceToNat, Int.reduceEq, Int.reduceLT, Int.reduceLE, Int.reduceAdd]
    refine goK_pure (digitsC s (by simp only [Lim]; omega)) ?_
    by_cases h0 : run1 s = 0
    · simp (disch := first | omega | assumption) only [h0, steps, st2, pev, rev, oev, optr, ibin, sbin, ishf, bound, mmAll, mm2, mk, mkArgs, AV.cells, AV.boxable, AV.one, AV.strip1, fillA, fillS, Nat.reduceEqDiff, reduceCtorEq, ↓reduceIte, Nat.reduceAdd, Int.reduceNeg, Nat.reduceLeDiff, Int.reduceToNat, Int.reduceEq, Int.reduceLT, Int.reduceLE, Int.reduceAdd]
      exact hQ _ _ _ _ nofun rfl (by simp [tupOf, envOf, AV.strip, AV.strip1, wholeN, h, intN, h0])
    · have h0' : ¬ ((run1 s : Int) = 0) := by omega
      have hrl := run1_le s
      have hlt : (0 : Int) < (s.length : Int) := by omega
      have e := u8_is (s.getD 0 0) 48 (by omega)
      by_cases h48 : s.getD 0 0 = 48
      · have hi : intN s = 1 := by simp only [intN, h0, h48, if_false, if_true]
        simp (disch := first | omega | assumption) only [h0', hlt, h48, UInt8.reduceToNat, wrap64, steps, st2, pev, rev, oev, optr, ibin, sbin, ishf, bound, mmAll, mm2, mk, mkArgs, AV.cells, AV.boxable, AV.one, AV.strip1, fillA, fillS, Nat.reduceEqDiff, reduceCtorEq, ↓reduceIte, Nat.reduceAdd, Int.reduceNeg, Nat.reduceLeDiff, Int.reduceToNat, Int.reduceEq, Int.reduceLT, Int.reduceLE, Int.reduceAdd]
        exact hQ _ _ _ _ nofun rfl (by simp [tupOf, envOf, AV.strip, AV.strip1, wholeN, h, hi])
      · have h48' : ¬ ((s.getD 0 0).toNat : Int) = 48 := by
          intro hh
          rw [decide_eq_true (by exact hh)] at e
          exact h48 (by simpa using e.symm)
        have hi : intN s = run1 s := by simp only [intN, h0, h48, if_false]
        simp (disch := first | omega | assumption) only [h0', hlt, h48', wrap64, steps, st2, pev, rev, oev, optr, ibin, sbin, ishf, bound, mmAll, mm2, mk, mkArgs, AV.cells, AV.boxable, AV.one, AV.strip1, fillA, fillS, Nat.reduceEqDiff, reduceCtorEq, ↓reduceIte, Nat.reduceAdd, Int.reduceNeg, Nat.reduceLeDiff, Int.reduceToNat, Int.reduceEq, Int.reduceLT, Int.reduceLE, Int.reduceAdd]
        exact hQ _ _ _ _ nofun rfl (by simp [tupOf, envOf, AV.strip, AV.strip1, wholeN, h, hi])

/-- an exponent -/
def isE (c : UInt8) : Bool := decide (c = 101) || decide (c = 69)
def sgN (r : List UInt8) : Nat := if r.head? = some 43 ∨ r.head? = some 45 then 1 else 0
def powN : List UInt8 → Nat
  | [] => 0
  | c :: r => if isE c then (if run1 (r.drop (sgN r)) = 0 then 0 else 1 + sgN r + run1 (r.drop (sgN r))) else 0
theorem sgN_le (r : List UInt8) : sgN r ≤ r.length := by
  unfold sgN
  split
  · cases r <;> simp_all
  · omega
theorem powN_le : ∀ s, powN s ≤ s.length
  | [] => by simp [powN]
  | c :: r => by
    have h := run1_le (r.drop (sgN r))
    have h2 := sgN_le r
    rw [List.length_drop] at h
    simp only [powN, List.length_cons]
    split
    · split <;> omega
    · omega

theorem powerC (s : List UInt8) (hs : s.length ≤ Lim) : Pure Tryd.prog 133 [.str s] (.int .i64 (powN s)) := by
  refine Pure.go ir133 ck133 (Nat.le_refl _) fun KP Q hQ => ?_
  simp only [Lim] at hs
  cases s with
  | nil =>
    simp (disch := first | omega | assumption) only [ir133, steps, st2, pev, rev, oev, optr, ibin, sbin, ishf, bound, mmAll, mm2, mk, mkArgs, AV.cells, AV.boxable, AV.one, AV.strip1, fillA, fillS, Nat.reduceEqDiff, reduceCtorEq, ↓reduceIte, Nat.reduceAdd, Int.reduceNeg, Nat.reduceLeDiff, Int.reduceToNat, Int.reduceEq, Int.reduceLT, Int.reduceLE, Int.reduceAdd]
    exact hQ _ _ _ _ nofun rfl (by simp [tupOf, envOf, AV.strip, AV.strip1, powN])
  | cons c r =>
    simp only [List.length_cons] at hs
    have hne : ¬ (c :: r = []) := by simp
    have hp : (0 : Int) < ((r.length + 1 : Nat) : Int) := by omega
    have e1 := u8_is c 101 (by omega)
    have e2 := u8_is c 69 (by omega)
    have hE : ∀ (P : Prop), P → P := fun _ h => h
    by_cases hc : isE c = true
    case neg =>
      have hc1 : ¬ (c.toNat : Int) = 101 := by
        intro hh; rw [decide_eq_true (by exact hh)] at e1
        exact hc (by simp [isE, (by simpa using e1.symm : c = 101)])
      have hc2 : ¬ (c.toNat : Int) = 69 := by
        intro hh; rw [decide_eq_true (by exact hh)] at e2
        exact hc (by simp [isE, (by simpa using e2.symm : c = 69)])
      simp (disch := first | omega | assumption) only [ir133, hne, hp, hc1, hc2, steps, st2, pev, rev, oev, optr, ibin, sbin, ishf, bound, mmAll, mm2, mk, mkArgs, AV.cells, AV.boxable, AV.one, AV.strip1, fillA, fillS, Nat.reduceEqDiff, reduceCtorEq, ↓reduceIte, Nat.reduceAdd, Int.reduceNeg, Nat.reduceLeDiff, Int.reduceToNat, Int.reduceEq, Int.reduceLT, Int.reduceLE, Int.reduceAdd]
      have hcf : isE c = false := by simpa using hc
      exact hQ _ _ _ _ nofun rfl (by simp [tupOf, envOf, AV.strip, AV.strip1, powN, hcf])
    -- behind the letter
    have fin : ∀ k : Nat, run1 (r.drop (sgN r)) = k → powN (c :: r) = if k = 0 then 0 else 1 + sgN r + k := fun k hk => by subst hk; simp only [powN, hc, if_true]
    have hcase : (c.toNat : Int) = 101 ∨ (¬ (c.toNat : Int) = 101 ∧ (c.toNat : Int) = 69) := by
      simp only [isE, Bool.or_eq_true, decide_eq_true_eq] at hc
      rcases hc with rfl | rfl
      · exact .inl rfl
      · exact .inr ⟨by decide, rfl⟩
    have hdl := run1_le (r.drop (sgN r))
    rw [List.length_drop] at hdl
    have hsl := sgN_le r
    cases r with
    | nil =>
      have k0 := fin 0 (by simp [sgN, run1])
      rcases hcase with h1 | ⟨h1, h2⟩
      · simp (disch := first | omega | assumption) only [ir133, h1, steps, st2, pev, rev, oev, optr, ibin, sbin, ishf, bound, mmAll, mm2, mk, mkArgs, AV.cells, AV.boxable, AV.one, AV.strip1, fillA, fillS, Nat.reduceEqDiff, reduceCtorEq, ↓reduceIte, Nat.reduceAdd, Int.reduceNeg, Nat.reduceLeDiff, Int.reduceToNat, Int.reduceEq, Int.reduceLT, Int.reduceLE, Int.reduceAdd]
        refine goK_pure (digitsC [] (by simp)) ?_
        simp (disch := first | omega | assumption) only [run1, steps, st2, pev, rev, oev, optr, ibin, sbin, ishf, bound, mmAll, mm2, mk, mkArgs, AV.cells, AV.boxable, AV.one, AV.strip1, fillA, fillS, Nat.reduceEqDiff, reduceCtorEq, ↓reduceIte, Nat.reduceAdd, Int.reduceNeg, Nat.reduceLeDiff, Int.reduceToNat, Int.reduceEq, Int.reduceLT, Int.reduceLE, Int.reduceAdd]
        exact hQ _ _ _ _ nofun rfl (by simp [tupOf, envOf, AV.strip, AV.strip1, k0])
      · simp (disch := first | omega | assumption) only [ir133, h1, h2, steps, st2, pev, rev, oev, optr, ibin, sbin, ishf, bound, mmAll, mm2, mk, mkArgs, AV.cells, AV.boxable, AV.one, AV.strip1, fillA, fillS, Nat.reduceEqDiff, reduceCtorEq, ↓reduceIte, Nat.reduceAdd, Int.reduceNeg, Nat.reduceLeDiff, Int.reduceToNat, Int.reduceEq, Int.reduceLT, Int.reduceLE, Int.reduceAdd]
        refine goK_pure (digitsC [] (by simp)) ?_
        simp (disch := first | omega | assumption) only [run1, steps, st2, pev, rev, oev, optr, ibin, sbin, ishf, bound, mmAll, mm2, mk, mkArgs, AV.cells, AV.boxable, AV.one, AV.strip1, fillA, fillS, Nat.reduceEqDiff, reduceCtorEq, ↓reduceIte, Nat.reduceAdd, Int.reduceNeg, Nat.reduceLeDiff, Int.reduceToNat, Int.reduceEq, Int.reduceLT, Int.reduceLE, Int.reduceAdd]
        exact hQ _ _ _ _ nofun rfl (by simp [tupOf, envOf, AV.strip, AV.strip1, k0])
    | cons d t =>
      simp only [List.length_cons] at hs
      have hl1 : (1 : Int) < ((t.length + 1 + 1 : Nat) : Int) := by omega
      have hl2 : (2 : Int) ≤ ((t.length + 1 + 1 : Nat) : Int) := by omega
      have hl3 : (1 : Int) ≤ ((t.length + 1 + 1 : Nat) : Int) := by omega
      have f1 := u8_is d 43 (by omega)
      have f2 := u8_is d 45 (by omega)
      by_cases hsg : d = 43 ∨ d = 45
      · have hsg1 : sgN (d :: t) = 1 := by simp only [sgN, List.head?_cons, Option.some.injEq, hsg, if_true]
        have k0 := fin (run1 t) (by rw [hsg1]; rfl)
        rw [hsg1] at k0 hdl
        have hd : (d.toNat : Int) = 43 ∨ (¬ (d.toNat : Int) = 43 ∧ (d.toNat : Int) = 45) := by
          rcases hsg with rfl | rfl
          · exact .inl rfl
          · exact .inr ⟨by decide, rfl⟩
        rcases hcase with h1 | ⟨h1, h2⟩ <;> rcases hd with h3 | ⟨h3, h4⟩
        all_goals
          simp only [hl1, hl2, List.length_cons, List.drop_succ_cons, List.drop_zero] at hdl
        · simp (disch := first | omega | assumption) only [ir133, h1, h3, hl1, hl2, Int.toNat_one, steps, st2, pev, rev, oev, optr, ibin, sbin, ishf, bound, mmAll, mm2, mk, mkArgs, AV.cells, AV.boxable, AV.one, AV.strip1, fillA, fillS, Nat.reduceEqDiff, reduceCtorEq, ↓reduceIte, Nat.reduceAdd, Int.reduceNeg, Nat.reduceLeDiff, Int.reduceToNat, Int.reduceEq, Int.reduceLT, Int.reduceLE, Int.reduceAdd]
          refine goK_pure (digitsC t (by simp only [Lim]; omega)) ?_
          by_cases hz : run1 t = 0
          · simp (disch := first | omega | assumption) only [hz, steps, st2, pev, rev, oev, optr, ibin, sbin, ishf, bound, mmAll, mm2, mk, mkArgs, AV.cells, AV.boxable, AV.one, AV.strip1, fillA, fillS, Nat.reduceEqDiff, reduceCtorEq, ↓reduceIte, Nat.reduceAdd, Int.reduceNeg, Nat.reduceLeDiff, Int.reduceToNat, Int.reduceEq, Int.reduceLT, Int.reduceLE, Int.reduceAdd]
            exact hQ _ _ _ _ nofun rfl (by simp [tupOf, envOf, AV.strip, AV.strip1, k0, hz])
          · have hz' : ¬ (run1 t : Int) = 0 := by omega
            simp (disch := first | omega | assumption) only [hz', wrap64, steps, st2, pev, rev, oev, optr, ibin, sbin, ishf, bound, mmAll, mm2, mk, mkArgs, AV.cells, AV.boxable, AV.one, AV.strip1, fillA, fillS, Nat.reduceEqDiff, reduceCtorEq, ↓reduceIte, Nat.reduceAdd, Int.reduceNeg, Nat.reduceLeDiff, Int.reduceToNat, Int.reduceEq, Int.reduceLT, Int.reduceLE, Int.reduceAdd]
            exact hQ _ _ _ _ nofun rfl (by simp [tupOf, envOf, AV.strip, AV.strip1, k0, hz])
        · simp (disch := first | omega | assumption) only [ir133, h1, h3, h4, hl1, hl2, Int.toNat_one, steps, st2, pev, rev, oev, optr, ibin, sbin, ishf, bound, mmAll, mm2, mk, mkArgs, AV.cells, AV.boxable, AV.one, AV.strip1, fillA, fillS, Nat.reduceEqDiff, reduceCtorEq, ↓reduceIte, Nat.reduceAdd, Int.reduceNeg, Nat.reduceLeDiff, Int.reduceToNat, Int.reduceEq, Int.reduceLT, Int.reduceLE, Int.reduceAdd]
          refine goK_pure (digitsC t (by simp only [Lim]; omega)) ?_
          by_cases hz : run1 t = 0
          · simp (disch := first | omega | assumption) only [hz, steps, st2, pev, rev, oev, optr, ibin, sbin, ishf, bound, mmAll, mm2, mk, mkArgs, AV.cells, AV.boxable, AV.one, AV.strip1, fillA, fillS, Nat.reduceEqDiff, reduceCtorEq, ↓reduceIte, Nat.reduceAdd, Int.reduceNeg, Nat.reduceLeDiff, Int.reduceToNat, Int.reduceEq, Int.reduceLT, Int.reduceLE, Int.reduceAdd]
            exact hQ _ _ _ _ nofun rfl (by simp [tupOf, envOf, AV.strip, AV.strip1, k0, hz])
          · have hz' : ¬ (run1 t : Int) = 0 := by omega
            simp (disch := first | omega | assumption) only [hz', wrap64, steps, st2, pev, rev, oev, optr, ibin, sbin, ishf, bound, mmAll, mm2, mk, mkArgs, AV.cells, AV.boxable, AV.one, AV.strip1, fillA, fillS, Nat.reduceEqDiff, reduceCtorEq, ↓reduceIte, Nat.reduceAdd, Int.reduceNeg, Nat.reduceLeDiff, Int.reduceToNat, Int.reduceEq, Int.reduceLT, Int.reduceLE, Int.reduceAdd]
            exact hQ _ _ _ _ nofun rfl (by simp [tupOf, envOf, AV.strip, AV.strip1, k0, hz])
        · simp (disch := first | omega | assumption) only [ir133, h1, h2, h3, hl1, hl2, Int.toNat_one, steps, st2, pev, rev, oev, optr, ibin, sbin, ishf, bound, mmAll, mm2, mk, mkArgs, AV.cells, AV.boxable, AV.one, AV.strip1, fillA, fillS, Nat.reduceEqDiff, reduceCtorEq, ↓reduceIte, Nat.reduceAdd, Int.reduceNeg, Nat.reduceLeDiff, Int.reduceToNat, Int.reduceEq, Int.reduceLT, Int.reduceLE, Int.reduceAdd]
          refine goK_pure (digitsC t (by simp only [Lim]; omega)) ?_
          by_cases hz : run1 t = 0
          · simp (disch := first | omega | assumption) only [hz, steps, st2, pev, rev, oev, optr, ibin, sbin, ishf, bound, mmAll, mm2, mk, mkArgs, AV.cells, AV.boxable, AV.one, AV.strip1, fillA, fillS, Nat.reduceEqDiff, reduceCtorEq, ↓reduceIte, Nat.reduceAdd, Int.reduceNeg, Nat.reduceLeDiff, Int.reduceToNat, Int.reduceEq, Int.reduceLT, Int.reduceLE, Int.reduceAdd]
            exact hQ _ _ _ _ nofun rfl (by simp [tupOf, envOf, AV.strip, AV.strip1, k0, hz])
          · have hz' : ¬ (run1 t : Int) = 0 := by omega
            simp (disch := first | omega | assumption) only [hz', wrap64, steps, st2, pev, rev, oev, optr, ibin, sbin, ishf, bound, mmAll, mm2, mk, mkArgs, AV.cells, AV.boxable, AV.one, AV.strip1, fillA, fillS, Nat.reduceEqDiff, reduceCtorEq, ↓reduceIte, Nat.reduceAdd, Int.reduceNeg, Nat.reduceLeDiff, Int.reduceToNat, Int.reduceEq, Int.reduceLT, Int.reduceLE, Int.reduceAdd]
            exact hQ _ _ _ _ nofun rfl (by simp [tupOf, envOf, AV.strip, AV.strip1, k0, hz])
        · simp (disch := first | omega | assumption) only [ir133, h1, h2, h3, h4, hl1, hl2, Int.toNat_one, steps, st2, pev, rev, oev, optr, ibin, sbin, ishf, bound, mmAll, mm2, mk, mkArgs, AV.cells, AV.boxable, AV.one, AV.strip1, fillA, fillS, Nat.reduceEqDiff, reduceCtorEq, ↓reduceIte, Nat.reduceAdd, Int.reduceNeg, Nat.reduceLeDiff, Int.reduceToNat, Int.reduceEq, Int.reduceLT, Int.reduceLE, Int.reduceAdd]
          refine goK_pure (digitsC t (by simp only [Lim]; omega)) ?_
          by_cases hz : run1 t = 0
          · simp (disch := first | omega | assumption) only [hz, steps, st2, pev, rev, oev, optr, ibin, sbin, ishf, bound, mmAll, mm2, mk, mkArgs, AV.cells, AV.boxable, AV.one, AV.strip1, fillA, fillS, Nat.reduceEqDiff, reduceCtorEq, ↓reduceIte, Nat.reduceAdd, Int.reduceNeg, Nat.reduceLeDiff, Int.reduceToNat, Int.reduceEq, Int.reduceLT, Int.reduceLE, Int.reduceAdd]
            exact hQ _ _ _ _ nofun rfl (by simp [tupOf, envOf, AV.strip, AV.strip1, k0, hz])
          · have hz' : ¬ (run1 t : Int) = 0 := by omega
            simp (disch := first | omega | assumption) only [hz', wrap64, steps, st2, pev, rev, oev, optr, ibin, sbin, ishf, bound, mmAll, mm2, mk, mkArgs, AV.cells, AV.boxable, AV.one, AV.strip1, fillA, fillS, Nat.reduceEqDiff, reduceCtorEq, ↓reduceIte, Nat.reduceAdd, Int.reduceNeg, Nat.reduceLeDiff, Int.reduceToNat, Int.reduceEq, Int.reduceLT, Int.reduceLE, Int.reduceAdd]
            exact hQ _ _ _ _ nofun rfl (by simp [tupOf, envOf, AV.strip, AV.strip1, k0, hz])
      · have hsg0 : sgN (d :: t) = 0 := by simp only [sgN, List.head?_cons, Option.some.injEq, hsg, if_false]
        have k0 := fin (run1 (d :: t)) (by rw [hsg0]; rfl)
        rw [hsg0] at k0 hdl
        have h3 : ¬ (d.toNat : Int) = 43 := by
          intro hh; rw [decide_eq_true (by exact hh)] at f1
          exact hsg (.inl (by simpa using f1.symm))
        have h4 : ¬ (d.toNat : Int) = 45 := by
          intro hh; rw [decide_eq_true (by exact hh)] at f2
          exact hsg (.inr (by simpa using f2.symm))
        simp only [List.drop_zero, List.length_cons] at hdl
        rcases hcase with h1 | ⟨h1, h2⟩
        · simp (disch := first | omega | assumption) only [ir133, h1, h3, h4, hl1, hl3, Int.toNat_one, steps, st2, pev, rev, oev, optr, ibin, sbin, ishf, bound, mmAll, mm2, mk, mkArgs, AV.cells, AV.boxable, AV.one, AV.strip1, fillA, fillS, Nat.reduceEqDiff, reduceCtorEq, ↓reduceIte, Nat.reduceAdd, Int.reduceNeg, Nat.reduceLeDiff, Int.reduceToNat, Int.reduceEq, Int.reduceLT, Int.reduceLE, Int.reduceAdd]
          refine goK_pure (digitsC (d :: t) (by simp only [Lim, List.length_cons]; omega)) ?_
          by_cases hz : run1 (d :: t) = 0
          · simp (disch := first | omega | assumption) only [hz, steps, st2, pev, rev, oev, optr, ibin, sbin, ishf, bound, mmAll, mm2, mk, mkArgs, AV.cells, AV.boxable, AV.one, AV.strip1, fillA, fillS, Nat.reduceEqDiff, reduceCtorEq, ↓reduceIte, Nat.reduceAdd, Int.reduceNeg, Nat.reduceLeDiff, Int.reduceToNat, Int.reduceEq, Int.reduceLT, Int.reduceLE, Int.reduceAdd]
            exact hQ _ _ _ _ nofun rfl (by simp [tupOf, envOf, AV.strip, AV.strip1, k0, hz])
          · have hz' : ¬ (run1 (d :: t) : Int) = 0 := by omega
            simp (disch := first | omega | assumption) only [hz', wrap64, steps, st2, pev, rev, oev, optr, ibin, sbin, ishf, bound, mmAll, mm2, mk, mkArgs, AV.cells, AV.boxable, AV.one, AV.strip1, fillA, fillS, Nat.reduceEqDiff, reduceCtorEq, ↓reduceIte, Nat.reduceAdd, Int.reduceNeg, Nat.reduceLeDiff, Int.reduceToNat, Int.reduceEq, Int.reduceLT, Int.reduceLE, Int.reduceAdd]
            exact hQ _ _ _ _ nofun rfl (by simp [tupOf, envOf, AV.strip, AV.strip1, k0, hz])
        · simp (disch := first | omega | assumption) only [ir133, h1, h2, h3, h4, hl1, hl3, Int.toNat_one, steps, st2, pev, rev, oev, optr, ibin, sbin, ishf, bound, mmAll, mm2, mk, mkArgs, AV.cells, AV.boxable, AV.one, AV.strip1, fillA, fillS, Nat.reduceEqDiff, reduceCtorEq, ↓reduceIte, Nat.reduceAdd, Int.reduceNeg, Nat.reduceLeDiff, Int.reduceToNat, Int.reduceEq, Int.reduceLT, Int.reduceLE, Int.reduceAdd]
          refine goK_pure (digitsC (d :: t) (by simp only [Lim, List.length_cons]; omega)) ?_
          by_cases hz : run1 (d :: t) = 0
          · simp (disch := first | omega | assumption) only [hz, steps, st2, pev, rev, oev, optr, ibin, sbin, ishf, bound, mmAll, mm2, mk, mkArgs, AV.cells, AV.boxable, AV.one, AV.strip1, fillA, fillS, Nat.reduceEqDiff, reduceCtorEq, ↓reduceIte, Nat.reduceAdd, Int.reduceNeg, Nat.reduceLeDiff, Int.reduceToNat, Int.reduceEq, Int.reduceLT, Int.reduceLE, Int.reduceAdd]
            exact hQ _ _ _ _ nofun rfl (by simp [tupOf, envOf, AV.strip, AV.strip1, k0, hz])
          · have hz' : ¬ (run1 (d :: t) : Int) = 0 := by omega
            simp (disch := first | omega | assumption) only [hz', wrap64, steps, st2, pev, rev, oev, optr, ibin, sbin, ishf, bound, mmAll, mm2, mk, mkArgs, AV.cells, AV.boxable, AV.one, AV.strip1, fillA, fillS, Nat.reduceEqDiff, reduceCtorEq, ↓reduceIte, Nat.reduceAdd, Int.reduceNeg, Nat.reduceLeDiff, Int.reduceToNat, Int.reduceEq, Int.reduceLT, Int.reduceLE, Int.reduceAdd]
            exact hQ _ _ _ _ nofun rfl (by simp [tupOf, envOf, AV.strip, AV.strip1, k0, hz])
end Go.Proofs.YtpjafglhdlfnbaaDoor
