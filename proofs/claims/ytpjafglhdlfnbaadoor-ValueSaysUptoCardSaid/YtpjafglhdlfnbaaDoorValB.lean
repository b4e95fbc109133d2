/- Values: whether they are the same; copies; variables. -/
import Derived.Test.YtpjafglhdlfnbaaDoorVal
set_option maxRecDepth 100000
set_option linter.unusedSimpArgs false
set_option linter.unusedVariables false
namespace Go.Proofs.YtpjafglhdlfnbaaDoor
open Go.Ab

noncomputable def eqd {α : Type} (a b : α) : Bool := @decide (a = b) (Classical.propDecidable _)
theorem eqd_true {α : Type} {a b : α} (h : a = b) : eqd a b = true := by simp [eqd, h]
theorem eqd_false {α : Type} {a b : α} (h : a ≠ b) : eqd a b = false := by simp [eqd, h]
theorem eqd_comm {α : Type} (a b : α) : eqd a b = eqd b a := by
  by_cases h : a = b
  · rw [eqd_true h, eqd_true h.symm]
  · rw [eqd_false h, eqd_false (Ne.symm h)]

def cT (l : List (List UInt8)) : List (List AV) := l.map fun k => [.str k]
theorem cT_len (l : List (List UInt8)) : (cT l).length = l.length := by simp [cT]
theorem cT_strip (l : List (List UInt8)) : (cT l).map (·.map AV.strip1) = cT l := by simp [cT, AV.strip1]
theorem cT_get {l a : List (List UInt8)} {x : List UInt8} {b : List (List UInt8)} (h : l = a ++ x :: b) : (cT l).getD a.length [] = [.str x] := getD_mid' h

/-- A loop over two lists of one length. -/
theorem two_mid {α : Type} {a b done rest : List α} {x : α} (h : a = done ++ x :: rest) (hl : a.length = b.length) (hp : b.take done.length = done) : ∃ y r, b = done ++ y :: r := by
  have h1 : done.length < b.length := by rw [← hl, h]; simp
  refine ⟨b[done.length], b.drop (done.length + 1), ?_⟩
  conv => lhs; rw [← List.take_append_drop done.length b, hp, List.drop_eq_getElem_cons h1]

theorem two_step {α : Type} {b done r : List α} {y : α} (h : b = done ++ y :: r) : b.take (done ++ [y]).length = done ++ [y] := by
  subst h
  have e : done ++ y :: r = (done ++ [y]) ++ r := by simp
  rw [e, List.take_left']; rfl
theorem two_end {α : Type} {a b : List α} (hl : a.length = b.length) (hp : b.take a.length = a) : a = b := by
  rw [hl, List.take_length] at hp; exact hp.symm
theorem two_ne {α : Type} {a b done rest r : List α} {x y : α} (h : a = done ++ x :: rest) (h' : b = done ++ y :: r) (hxy : x ≠ y) : a ≠ b := fun e => by
  rw [h, h'] at e
  exact hxy (List.cons.inj (List.append_cancel_left e)).1

theorem sameTextsK (a b : List (List UInt8)) (ha : a.length ≤ Lim) : Pure Tryd.prog 36 [.sl .no 1 (cT a), .sl .no 1 (cT b)] (.bool (eqd a b)) := by
  refine Pure.go ir36 ck36 (Nat.le_refl _) fun KP Q hQ => ?_
  have h1 := cT_len a
  have h2 := cT_len b
  simp only [Lim] at ha
  by_cases hl : a.length = b.length
  case neg =>
    have hl' : ¬ ((a.length : Int) = b.length) := by omega
    have hne : a ≠ b := fun e => hl (by rw [e])
    simp (disch := first | omega | assumption) only [ir36, h1, h2, hl', steps, st2, pev, rev, oev, optr, ibin, sbin, ishf, bound, mmAll, mm2, mk, mkArgs, AV.cells, AV.boxable, AV.one, AV.strip1, fillA, fillS, Nat.reduceEqDiff, reduceCtorEq, ↓reduceIte, Nat.reduceAdd, Int.reduceNeg, Nat.reduceLeDiff, Int.reduceToNat, Int.reduceEq, Int.reduceLT, Int.reduceLE, Int.reduceAdd]
    exact hQ _ _ _ _ nofun rfl (by simp [tupOf, envOf, AV.strip, AV.strip1, eqd_false hne])
  have hl' : ((a.length : Int) = b.length) = True := eq_true (by omega)
  simp (disch := first | omega | assumption) only [ir36, h1, h2, hl', steps, st2, pev, rev, oev, optr, ibin, sbin, ishf, bound, mmAll, mm2, mk, mkArgs, AV.cells, AV.boxable, AV.one, AV.strip1, fillA, fillS, Nat.reduceEqDiff, reduceCtorEq, ↓reduceIte, Nat.reduceAdd, Int.reduceNeg, Nat.reduceLeDiff, Int.reduceToNat, Int.reduceEq, Int.reduceLT, Int.reduceLE, Int.reduceAdd]
  refine goL_range a 5 (fun _ : Unit => []) (fun done rest n H => b.take done.length = done) () (by simp (disch := first | omega | assumption) only [steps, st2, pev, rev, oev, optr, ibin, sbin, ishf, bound, mmAll, mm2, mk, mkArgs, AV.cells, AV.boxable, AV.one, AV.strip1, fillA, fillS, Nat.reduceEqDiff, reduceCtorEq, ↓reduceIte, Nat.reduceAdd, Int.reduceNeg, Nat.reduceLeDiff, Int.reduceToNat, Int.reduceEq, Int.reduceLT, Int.reduceLE, Int.reduceAdd]) rfl ?_ ?_
  · rintro n H J hp hlt
    simp (disch := first | omega | assumption) only [h1, hlt, steps, st2, pev, rev, oev, optr, ibin, sbin, ishf, bound, mmAll, mm2, mk, mkArgs, AV.cells, AV.boxable, AV.one, AV.strip1, fillA, fillS, Nat.reduceEqDiff, reduceCtorEq, ↓reduceIte, Nat.reduceAdd, Int.reduceNeg, Nat.reduceLeDiff, Int.reduceToNat, Int.reduceEq, Int.reduceLT, Int.reduceLE, Int.reduceAdd]
    exact hQ _ _ _ _ nofun rfl (by simp [tupOf, envOf, AV.strip, AV.strip1, eqd_true (two_end hl hp)])
  · rintro done x rest n H J hd hlt _ hp hJ
    obtain ⟨y, r, hb⟩ := two_mid hd hl hp
    have g1 := cT_get hd
    have g2 := cT_get hb
    have hlt2 : (done.length : Int) < b.length := by omega
    by_cases hxy : x = y
    · simp (disch := first | omega | assumption) only [h1, h2, hlt, hlt2, g1, g2, hxy, steps, st2, pev, rev, oev, optr, ibin, sbin, ishf, bound, mmAll, mm2, mk, mkArgs, AV.cells, AV.boxable, AV.one, AV.strip1, fillA, fillS, Nat.reduceEqDiff, reduceCtorEq, ↓reduceIte, Nat.reduceAdd, Int.reduceNeg, Nat.reduceLeDiff, Int.reduceToNat, Int.reduceEq, Int.reduceLT, Int.reduceLE, Int.reduceAdd]
      exact goJ (hJ () _ (by rw [hxy]; exact two_step hb)) (by simp (disch := first | omega | assumption) only [wrap64, steps, st2, pev, rev, oev, optr, ibin, sbin, ishf, bound, mmAll, mm2, mk, mkArgs, AV.cells, AV.boxable, AV.one, AV.strip1, fillA, fillS, Nat.reduceEqDiff, reduceCtorEq, ↓reduceIte, Nat.reduceAdd, Int.reduceNeg, Nat.reduceLeDiff, Int.reduceToNat, Int.reduceEq, Int.reduceLT, Int.reduceLE, Int.reduceAdd])
    · simp (disch := first | omega | assumption) only [h1, h2, hlt, hlt2, g1, g2, hxy, steps, st2, pev, rev, oev, optr, ibin, sbin, ishf, bound, mmAll, mm2, mk, mkArgs, AV.cells, AV.boxable, AV.one, AV.strip1, fillA, fillS, Nat.reduceEqDiff, reduceCtorEq, ↓reduceIte, Nat.reduceAdd, Int.reduceNeg, Nat.reduceLeDiff, Int.reduceToNat, Int.reduceEq, Int.reduceLT, Int.reduceLE, Int.reduceAdd]
      exact hQ _ _ _ _ nofun rfl (by simp [tupOf, envOf, AV.strip, AV.strip1, eqd_false (two_ne hd hb hxy)])

/-! ### tokens -/

structure Tok where
  k : Int
  s : List UInt8

def cK (t : Tok) : List AV := [.int .i64 t.k, .str t.s]
def cKs (l : List Tok) : List (List AV) := l.map cK
theorem cKs_len (l : List Tok) : (cKs l).length = l.length := by simp [cKs]
theorem cKs_strip (l : List Tok) : (cKs l).map (·.map AV.strip1) = cKs l := by simp [cKs, cK, AV.strip1]
theorem cKs_get {l a : List Tok} {x : Tok} {b : List Tok} (h : l = a ++ x :: b) : (cKs l).getD a.length [] = [.int .i64 x.k, .str x.s] := getD_mid' h

theorem tok_eq (x y : Tok) : (decide (x.k = y.k) && decide (x.s = y.s)) = eqd x y := by
  by_cases h : x = y
  · subst h; simp [eqd_true rfl]
  · rw [eqd_false h]
    obtain ⟨k1, s1⟩ := x
    obtain ⟨k2, s2⟩ := y
    simp only [Tok.mk.injEq, not_and] at h
    simp only [Bool.and_eq_false_iff, decide_eq_false_iff_not]
    by_cases hk : k1 = k2
    · exact .inr (h hk)
    · exact .inl hk

theorem sameTokensR (a b : List Tok) (ha : a.length ≤ Lim) : Pure Tryd.prog 29 [.sl .no 2 (cKs a), .sl .no 2 (cKs b)] (.bool (eqd a b)) := by
  refine Pure.go ir29 ck29 (Nat.le_refl _) fun KP Q hQ => ?_
  have h1 := cKs_len a
  have h2 := cKs_len b
  simp only [Lim] at ha
  by_cases hl : a.length = b.length
  case neg =>
    have hl' : ¬ ((a.length : Int) = b.length) := by omega
    have hne : a ≠ b := fun e => hl (by rw [e])
    simp (disch := first | omega | assumption) only [ir29, h1, h2, hl', steps, st2, pev, rev, oev, optr, ibin, sbin, ishf, bound, mmAll, mm2, mk, mkArgs, AV.cells, AV.boxable, AV.one, AV.strip1, fillA, fillS, Nat.reduceEqDiff, reduceCtorEq, ↓reduceIte, Nat.reduceAdd, Int.reduceNeg, Nat.reduceLeDiff, Int.reduceToNat, Int.reduceEq, Int.reduceLT, Int.reduceLE, Int.reduceAdd]
    exact hQ _ _ _ _ nofun rfl (by simp [tupOf, envOf, AV.strip, AV.strip1, eqd_false hne])
  have hl' : ((a.length : Int) = b.length) = True := eq_true (by omega)
  simp (disch := first | omega | assumption) only [ir29, h1, h2, hl', steps, st2, pev, rev, oev, optr, ibin, sbin, ishf, bound, mmAll, mm2, mk, mkArgs, AV.cells, AV.boxable, AV.one, AV.strip1, fillA, fillS, Nat.reduceEqDiff, reduceCtorEq, ↓reduceIte, Nat.reduceAdd, Int.reduceNeg, Nat.reduceLeDiff, Int.reduceToNat, Int.reduceEq, Int.reduceLT, Int.reduceLE, Int.reduceAdd]
  refine goL_range a 5 (fun _ : Unit => []) (fun done rest n H => b.take done.length = done) () (by simp (disch := first | omega | assumption) only [steps, st2, pev, rev, oev, optr, ibin, sbin, ishf, bound, mmAll, mm2, mk, mkArgs, AV.cells, AV.boxable, AV.one, AV.strip1, fillA, fillS, Nat.reduceEqDiff, reduceCtorEq, ↓reduceIte, Nat.reduceAdd, Int.reduceNeg, Nat.reduceLeDiff, Int.reduceToNat, Int.reduceEq, Int.reduceLT, Int.reduceLE, Int.reduceAdd]) rfl ?_ ?_
  · rintro n H J hp hlt
    simp (disch := first | omega | assumption) only [h1, hlt, steps, st2, pev, rev, oev, optr, ibin, sbin, ishf, bound, mmAll, mm2, mk, mkArgs, AV.cells, AV.boxable, AV.one, AV.strip1, fillA, fillS, Nat.reduceEqDiff, reduceCtorEq, ↓reduceIte, Nat.reduceAdd, Int.reduceNeg, Nat.reduceLeDiff, Int.reduceToNat, Int.reduceEq, Int.reduceLT, Int.reduceLE, Int.reduceAdd]
    exact hQ _ _ _ _ nofun rfl (by simp [tupOf, envOf, AV.strip, AV.strip1, eqd_true (two_end hl hp)])
  · rintro done x rest n H J hd hlt _ hp hJ
    obtain ⟨y, r, hb⟩ := two_mid hd hl hp
    have g1 := cKs_get hd
    have g2 := cKs_get hb
    have hlt2 : (done.length : Int) < b.length := by omega
    have hk := tok_eq x y
    by_cases hxy : x = y
    · rw [eqd_true hxy] at hk
      simp (disch := first | omega | assumption) only [h1, h2, hlt, hlt2, g1, g2, fitsAll, K1.fits, keqs, AV.keq1, Bool.and_true, Bool.true_and, hk, steps, st2, pev, rev, oev, optr, ibin, sbin, ishf, bound, mmAll, mm2, mk, mkArgs, AV.cells, AV.boxable, AV.one, AV.strip1, fillA, fillS, Nat.reduceEqDiff, reduceCtorEq, ↓reduceIte, Nat.reduceAdd, Int.reduceNeg, Nat.reduceLeDiff, Int.reduceToNat, Int.reduceEq, Int.reduceLT, Int.reduceLE, Int.reduceAdd]
      exact goJ (hJ () _ (by rw [hxy]; exact two_step hb)) (by simp (disch := first | omega | assumption) only [wrap64, steps, st2, pev, rev, oev, optr, ibin, sbin, ishf, bound, mmAll, mm2, mk, mkArgs, AV.cells, AV.boxable, AV.one, AV.strip1, fillA, fillS, Nat.reduceEqDiff, reduceCtorEq, ↓reduceIte, Nat.reduceAdd, Int.reduceNeg, Nat.reduceLeDiff, Int.reduceToNat, Int.reduceEq, Int.reduceLT, Int.reduceLE, Int.reduceAdd])
    · rw [eqd_false hxy] at hk
      simp (disch := first | omega | assumption) only [h1, h2, hlt, hlt2, g1, g2, fitsAll, K1.fits, keqs, AV.keq1, Bool.and_true, Bool.true_and, hk, steps, st2, pev, rev, oev, optr, ibin, sbin, ishf, bound, mmAll, mm2, mk, mkArgs, AV.cells, AV.boxable, AV.one, AV.strip1, fillA, fillS, Nat.reduceEqDiff, reduceCtorEq, ↓reduceIte, Nat.reduceAdd, Int.reduceNeg, Nat.reduceLeDiff, Int.reduceToNat, Int.reduceEq, Int.reduceLT, Int.reduceLE, Int.reduceAdd]
      exact hQ _ _ _ _ nofun rfl (by simp [tupOf, envOf, AV.strip, AV.strip1, eqd_false (two_ne hd hb hxy)])

/-! ### the same value -/

theorem val_ext {k k' n n' : Int} {s s' : List UInt8} {l l' : List Val} {m m' : List Mem} : (Val.mk k n s l m = Val.mk k' n' s' l' m') = (k = k' ∧ n = n' ∧ s = s' ∧ l = l' ∧ m = m') := by simp

theorem eqFuncV (f : FuncId) (hf : Program.callable Tryd.prog f = true) (a b : List Val) (ha : a.length ≤ Lim) (hc : ∀ x ∈ a, ∀ y, Pure Tryd.prog f [.agg (cV x), .agg (cV y)] (.bool (eqd x y))) :
    Pure Tryd.prog 52 [.sl .no 5 (cVs a), .sl .no 5 (cVs b), .clo f [] []] (.bool (eqd a b)) := by
  refine Pure.go ir52 ck52 (Nat.le_refl _) fun KP Q hQ => ?_
  have h1 := cVs_len a
  have h2 := cVs_len b
  simp only [Lim] at ha
  by_cases hl : a.length = b.length
  case neg =>
    have hl' : ¬ ((a.length : Int) = b.length) := by omega
    have hne : a ≠ b := fun e => hl (by rw [e])
    simp (disch := first | omega | assumption) only [ir52, h1, h2, hl', steps, st2, pev, rev, oev, optr, ibin, sbin, ishf, bound, mmAll, mm2, mk, mkArgs, AV.cells, AV.boxable, AV.one, AV.strip1, fillA, fillS, Nat.reduceEqDiff, reduceCtorEq, ↓reduceIte, Nat.reduceAdd, Int.reduceNeg, Nat.reduceLeDiff, Int.reduceToNat, Int.reduceEq, Int.reduceLT, Int.reduceLE, Int.reduceAdd]
    exact hQ _ _ _ _ nofun rfl (by simp [tupOf, envOf, AV.strip, AV.strip1, eqd_false hne])
  have hl' : ((a.length : Int) = b.length) = True := eq_true (by omega)
  simp (disch := first | omega | assumption) only [ir52, h1, h2, hl', steps, st2, pev, rev, oev, optr, ibin, sbin, ishf, bound, mmAll, mm2, mk, mkArgs, AV.cells, AV.boxable, AV.one, AV.strip1, fillA, fillS, Nat.reduceEqDiff, reduceCtorEq, ↓reduceIte, Nat.reduceAdd, Int.reduceNeg, Nat.reduceLeDiff, Int.reduceToNat, Int.reduceEq, Int.reduceLT, Int.reduceLE, Int.reduceAdd]
  refine goL_range a 17 (fun _ : Unit => []) (fun done rest n H => b.take done.length = done) () (by simp (disch := first | omega | assumption) only [steps, st2, pev, rev, oev, optr, ibin, sbin, ishf, bound, mmAll, mm2, mk, mkArgs, AV.cells, AV.boxable, AV.one, AV.strip1, fillA, fillS, Nat.reduceEqDiff, reduceCtorEq, ↓reduceIte, Nat.reduceAdd, Int.reduceNeg, Nat.reduceLeDiff, Int.reduceToNat, Int.reduceEq, Int.reduceLT, Int.reduceLE, Int.reduceAdd]) rfl ?_ ?_
  · rintro n H J hp hlt
    simp (disch := first | omega | assumption) only [h1, hlt, steps, st2, pev, rev, oev, optr, ibin, sbin, ishf, bound, mmAll, mm2, mk, mkArgs, AV.cells, AV.boxable, AV.one, AV.strip1, fillA, fillS, Nat.reduceEqDiff, reduceCtorEq, ↓reduceIte, Nat.reduceAdd, Int.reduceNeg, Nat.reduceLeDiff, Int.reduceToNat, Int.reduceEq, Int.reduceLT, Int.reduceLE, Int.reduceAdd]
    exact hQ _ _ _ _ nofun rfl (by simp [tupOf, envOf, AV.strip, AV.strip1, eqd_true (two_end hl hp)])
  · rintro done x rest n H J hd hlt _ hp hJ
    obtain ⟨y, r, hb⟩ := two_mid hd hl hp
    have g1 := cVs_get hd
    have g2 := cVs_get hb
    have hlt2 : (done.length : Int) < b.length := by omega
    simp (disch := first | omega | assumption) only [cV_len, cV_take, cV_splice, cM_len, cM_take, cM_splice, cM_mk, h1, h2, hlt, hlt2, g1, g2, steps, st2, pev, rev, oev, optr, ibin, sbin, ishf, bound, mmAll, mm2, mk, mkArgs, AV.cells, AV.boxable, AV.one, AV.strip1, fillA, fillS, Nat.reduceEqDiff, reduceCtorEq, ↓reduceIte, Nat.reduceAdd, Int.reduceNeg, Nat.reduceLeDiff, Int.reduceToNat, Int.reduceEq, Int.reduceLT, Int.reduceLE, Int.reduceAdd]
    refine goA_intro fun b1 hb1 => ?_
    simp (disch := first | omega | assumption) only [cV_len, cV_take, cV_splice, cM_len, cM_take, cM_splice, cM_mk, h1, h2, hlt, hlt2, g1, g2, steps, st2, pev, rev, oev, optr, ibin, sbin, ishf, bound, mmAll, mm2, mk, mkArgs, AV.cells, AV.boxable, AV.one, AV.strip1, fillA, fillS, Nat.reduceEqDiff, reduceCtorEq, ↓reduceIte, Nat.reduceAdd, Int.reduceNeg, Nat.reduceLeDiff, Int.reduceToNat, Int.reduceEq, Int.reduceLT, Int.reduceLE, Int.reduceAdd]
    refine goA_intro fun b2 hb2 => ?_
    have hne := ne_fresh hb2
    simp (disch := first | omega | assumption) only [cV_len, cV_take, cV_splice, cM_len, cM_take, cM_splice, cM_mk, Ne.symm hne, hne, steps, st2, pev, rev, oev, optr, ibin, sbin, ishf, bound, mmAll, mm2, mk, mkArgs, AV.cells, AV.boxable, AV.one, AV.strip1, fillA, fillS, Nat.reduceEqDiff, reduceCtorEq, ↓reduceIte, Nat.reduceAdd, Int.reduceNeg, Nat.reduceLeDiff, Int.reduceToNat, Int.reduceEq, Int.reduceLT, Int.reduceLE, Int.reduceAdd]
    refine ⟨hf, goK_pure (hc x (by rw [hd]; simp) y) ?_⟩
    by_cases hxy : x = y
    · simp (disch := first | omega | assumption) only [eqd_true hxy, steps, st2, pev, rev, oev, optr, ibin, sbin, ishf, bound, mmAll, mm2, mk, mkArgs, AV.cells, AV.boxable, AV.one, AV.strip1, fillA, fillS, Nat.reduceEqDiff, reduceCtorEq, ↓reduceIte, Nat.reduceAdd, Int.reduceNeg, Nat.reduceLeDiff, Int.reduceToNat, Int.reduceEq, Int.reduceLT, Int.reduceLE, Int.reduceAdd]
      exact goJ (hJ () _ (by rw [hxy]; exact two_step hb)) (by simp (disch := first | omega | assumption) only [wrap64, steps, st2, pev, rev, oev, optr, ibin, sbin, ishf, bound, mmAll, mm2, mk, mkArgs, AV.cells, AV.boxable, AV.one, AV.strip1, fillA, fillS, Nat.reduceEqDiff, reduceCtorEq, ↓reduceIte, Nat.reduceAdd, Int.reduceNeg, Nat.reduceLeDiff, Int.reduceToNat, Int.reduceEq, Int.reduceLT, Int.reduceLE, Int.reduceAdd])
    · simp (disch := first | omega | assumption) only [eqd_false hxy, steps, st2, pev, rev, oev, optr, ibin, sbin, ishf, bound, mmAll, mm2, mk, mkArgs, AV.cells, AV.boxable, AV.one, AV.strip1, fillA, fillS, Nat.reduceEqDiff, reduceCtorEq, ↓reduceIte, Nat.reduceAdd, Int.reduceNeg, Nat.reduceLeDiff, Int.reduceToNat, Int.reduceEq, Int.reduceLT, Int.reduceLE, Int.reduceAdd]
      exact hQ _ _ _ _ nofun rfl (by simp [tupOf, envOf, AV.strip, AV.strip1, eqd_false (two_ne hd hb hxy)])

theorem eqFuncM (f : FuncId) (hf : Program.callable Tryd.prog f = true) (a b : List Mem) (ha : a.length ≤ Lim) (hc : ∀ x ∈ a, ∀ y, Pure Tryd.prog f [.agg (cM x), .agg (cM y)] (.bool (eqd x y))) :
    Pure Tryd.prog 53 [.sl .no 6 (cMs a), .sl .no 6 (cMs b), .clo f [] []] (.bool (eqd a b)) := by
  refine Pure.go ir53 ck53 (Nat.le_refl _) fun KP Q hQ => ?_
  have h1 := cMs_len a
  have h2 := cMs_len b
  simp only [Lim] at ha
  by_cases hl : a.length = b.length
  case neg =>
    have hl' : ¬ ((a.length : Int) = b.length) := by omega
    have hne : a ≠ b := fun e => hl (by rw [e])
    simp (disch := first | omega | assumption) only [ir53, h1, h2, hl', steps, st2, pev, rev, oev, optr, ibin, sbin, ishf, bound, mmAll, mm2, mk, mkArgs, AV.cells, AV.boxable, AV.one, AV.strip1, fillA, fillS, Nat.reduceEqDiff, reduceCtorEq, ↓reduceIte, Nat.reduceAdd, Int.reduceNeg, Nat.reduceLeDiff, Int.reduceToNat, Int.reduceEq, Int.reduceLT, Int.reduceLE, Int.reduceAdd]
    exact hQ _ _ _ _ nofun rfl (by simp [tupOf, envOf, AV.strip, AV.strip1, eqd_false hne])
  have hl' : ((a.length : Int) = b.length) = True := eq_true (by omega)
  simp (disch := first | omega | assumption) only [ir53, h1, h2, hl', steps, st2, pev, rev, oev, optr, ibin, sbin, ishf, bound, mmAll, mm2, mk, mkArgs, AV.cells, AV.boxable, AV.one, AV.strip1, fillA, fillS, Nat.reduceEqDiff, reduceCtorEq, ↓reduceIte, Nat.reduceAdd, Int.reduceNeg, Nat.reduceLeDiff, Int.reduceToNat, Int.reduceEq, Int.reduceLT, Int.reduceLE, Int.reduceAdd]
  refine goL_range a 17 (fun _ : Unit => []) (fun done rest n H => b.take done.length = done) () (by simp (disch := first | omega | assumption) only [steps, st2, pev, rev, oev, optr, ibin, sbin, ishf, bound, mmAll, mm2, mk, mkArgs, AV.cells, AV.boxable, AV.one, AV.strip1, fillA, fillS, Nat.reduceEqDiff, reduceCtorEq, ↓reduceIte, Nat.reduceAdd, Int.reduceNeg, Nat.reduceLeDiff, Int.reduceToNat, Int.reduceEq, Int.reduceLT, Int.reduceLE, Int.reduceAdd]) rfl ?_ ?_
  · rintro n H J hp hlt
    simp (disch := first | omega | assumption) only [h1, hlt, steps, st2, pev, rev, oev, optr, ibin, sbin, ishf, bound, mmAll, mm2, mk, mkArgs, AV.cells, AV.boxable, AV.one, AV.strip1, fillA, fillS, Nat.reduceEqDiff, reduceCtorEq, ↓reduceIte, Nat.reduceAdd, Int.reduceNeg, Nat.reduceLeDiff, Int.reduceToNat, Int.reduceEq, Int.reduceLT, Int.reduceLE, Int.reduceAdd]
    exact hQ _ _ _ _ nofun rfl (by simp [tupOf, envOf, AV.strip, AV.strip1, eqd_true (two_end hl hp)])
  · rintro done x rest n H J hd hlt _ hp hJ
    obtain ⟨y, r, hb⟩ := two_mid hd hl hp
    have g1 := cMs_get hd
    have g2 := cMs_get hb
    have hlt2 : (done.length : Int) < b.length := by omega
    simp (disch := first | omega | assumption) only [cV_len, cV_take, cV_splice, cM_len, cM_take, cM_splice, cM_mk, h1, h2, hlt, hlt2, g1, g2, steps, st2, pev, rev, oev, optr, ibin, sbin, ishf, bound, mmAll, mm2, mk, mkArgs, AV.cells, AV.boxable, AV.one, AV.strip1, fillA, fillS, Nat.reduceEqDiff, reduceCtorEq, ↓reduceIte, Nat.reduceAdd, Int.reduceNeg, Nat.reduceLeDiff, Int.reduceToNat, Int.reduceEq, Int.reduceLT, Int.reduceLE, Int.reduceAdd]
    refine goA_intro fun b1 hb1 => ?_
    simp (disch := first | omega | assumption) only [cV_len, cV_take, cV_splice, cM_len, cM_take, cM_splice, cM_mk, h1, h2, hlt, hlt2, g1, g2, steps, st2, pev, rev, oev, optr, ibin, sbin, ishf, bound, mmAll, mm2, mk, mkArgs, AV.cells, AV.boxable, AV.one, AV.strip1, fillA, fillS, Nat.reduceEqDiff, reduceCtorEq, ↓reduceIte, Nat.reduceAdd, Int.reduceNeg, Nat.reduceLeDiff, Int.reduceToNat, Int.reduceEq, Int.reduceLT, Int.reduceLE, Int.reduceAdd]
    refine goA_intro fun b2 hb2 => ?_
    have hne := ne_fresh hb2
    simp (disch := first | omega | assumption) only [cV_len, cV_take, cV_splice, cM_len, cM_take, cM_splice, cM_mk, Ne.symm hne, hne, steps, st2, pev, rev, oev, optr, ibin, sbin, ishf, bound, mmAll, mm2, mk, mkArgs, AV.cells, AV.boxable, AV.one, AV.strip1, fillA, fillS, Nat.reduceEqDiff, reduceCtorEq, ↓reduceIte, Nat.reduceAdd, Int.reduceNeg, Nat.reduceLeDiff, Int.reduceToNat, Int.reduceEq, Int.reduceLT, Int.reduceLE, Int.reduceAdd]
    refine ⟨hf, goK_pure (hc x (by rw [hd]; simp) y) ?_⟩
    by_cases hxy : x = y
    · simp (disch := first | omega | assumption) only [eqd_true hxy, steps, st2, pev, rev, oev, optr, ibin, sbin, ishf, bound, mmAll, mm2, mk, mkArgs, AV.cells, AV.boxable, AV.one, AV.strip1, fillA, fillS, Nat.reduceEqDiff, reduceCtorEq, ↓reduceIte, Nat.reduceAdd, Int.reduceNeg, Nat.reduceLeDiff, Int.reduceToNat, Int.reduceEq, Int.reduceLT, Int.reduceLE, Int.reduceAdd]
      exact goJ (hJ () _ (by rw [hxy]; exact two_step hb)) (by simp (disch := first | omega | assumption) only [wrap64, steps, st2, pev, rev, oev, optr, ibin, sbin, ishf, bound, mmAll, mm2, mk, mkArgs, AV.cells, AV.boxable, AV.one, AV.strip1, fillA, fillS, Nat.reduceEqDiff, reduceCtorEq, ↓reduceIte, Nat.reduceAdd, Int.reduceNeg, Nat.reduceLeDiff, Int.reduceToNat, Int.reduceEq, Int.reduceLT, Int.reduceLE, Int.reduceAdd])
    · simp (disch := first | omega | assumption) only [eqd_false hxy, steps, st2, pev, rev, oev, optr, ibin, sbin, ishf, bound, mmAll, mm2, mk, mkArgs, AV.cells, AV.boxable, AV.one, AV.strip1, fillA, fillS, Nat.reduceEqDiff, reduceCtorEq, ↓reduceIte, Nat.reduceAdd, Int.reduceNeg, Nat.reduceLeDiff, Int.reduceToNat, Int.reduceEq, Int.reduceLT, Int.reduceLE, Int.reduceAdd]
      exact hQ _ _ _ _ nofun rfl (by simp [tupOf, envOf, AV.strip, AV.strip1, eqd_false (two_ne hd hb hxy)])

theorem mem_same (s t : List UInt8) (v u : Val) (hc : Pure Tryd.prog 25 [.agg (cV v), .agg (cV u)] (.bool (eqd v u))) : Pure Tryd.prog 54 [.agg (cM (.mk s v)), .agg (cM (.mk t u))] (.bool (eqd (Mem.mk s v) (Mem.mk t u))) := by
  refine Pure.go ir54 ck54 (Nat.le_refl _) fun KP Q hQ => ?_
  by_cases h1 : s = t
  · simp (disch := first | omega | assumption) only [cV_len, cV_take, cV_splice, cM_len, cM_take, cM_splice, cM_mk, ir54, h1, steps, st2, pev, rev, oev, optr, ibin, sbin, ishf, bound, mmAll, mm2, mk, mkArgs, AV.cells, AV.boxable, AV.one, AV.strip1, fillA, fillS, Nat.reduceEqDiff, reduceCtorEq, ↓reduceIte, Nat.reduceAdd, Int.reduceNeg, Nat.reduceLeDiff, Int.reduceToNat, Int.reduceEq, Int.reduceLT, Int.reduceLE, Int.reduceAdd]
    refine goK_pure hc ?_
    simp (disch := first | omega | assumption) only [steps, st2, pev, rev, oev, optr, ibin, sbin, ishf, bound, mmAll, mm2, mk, mkArgs, AV.cells, AV.boxable, AV.one, AV.strip1, fillA, fillS, Nat.reduceEqDiff, reduceCtorEq, ↓reduceIte, Nat.reduceAdd, Int.reduceNeg, Nat.reduceLeDiff, Int.reduceToNat, Int.reduceEq, Int.reduceLT, Int.reduceLE, Int.reduceAdd]
    have : eqd (Mem.mk t v) (Mem.mk t u) = eqd v u := by
      by_cases h : v = u
      · rw [eqd_true h, eqd_true (by rw [h])]
      · rw [eqd_false h, eqd_false (by simp [h])]
    exact hQ _ _ _ _ nofun rfl (by simp [tupOf, envOf, AV.strip, AV.strip1, this, h1])
  · simp (disch := first | omega | assumption) only [cV_len, cV_take, cV_splice, cM_len, cM_take, cM_splice, cM_mk, ir54, h1, steps, st2, pev, rev, oev, optr, ibin, sbin, ishf, bound, mmAll, mm2, mk, mkArgs, AV.cells, AV.boxable, AV.one, AV.strip1, fillA, fillS, Nat.reduceEqDiff, reduceCtorEq, ↓reduceIte, Nat.reduceAdd, Int.reduceNeg, Nat.reduceLeDiff, Int.reduceToNat, Int.reduceEq, Int.reduceLT, Int.reduceLE, Int.reduceAdd]
    have : eqd (Mem.mk s v) (Mem.mk t u) = false := eqd_false (by simp [h1])
    exact hQ _ _ _ _ nofun rfl (by simp [tupOf, envOf, AV.strip, AV.strip1, this])

theorem sameP : ∀ v, bV v ≤ Lim → ∀ u, Pure Tryd.prog 25 [.agg (cV v), .agg (cV u)] (.bool (eqd v u)) := by
  refine Val.ind fun k n s l m ihl ihm hb u => ?_
  obtain ⟨k', n', s', l', m'⟩ := u
  have hb' : 1 + s.length + bVs l + bMs m ≤ Lim := hb
  have hll := bVs_len l
  have hml := bMs_len m
  have il : ∀ x ∈ l, ∀ y, Pure Tryd.prog 25 [.agg (cV x), .agg (cV y)] (.bool (eqd x y)) := fun x hx y => by
    obtain ⟨a, b, hd⟩ := List.append_of_mem hx
    have := bVs_mid a x b
    rw [← hd] at this
    exact ihl x hx (by omega) y
  have im : ∀ x ∈ m, ∀ y, Pure Tryd.prog 54 [.agg (cM x), .agg (cM y)] (.bool (eqd x y)) := fun x hx y => by
    obtain ⟨a, b, hd⟩ := List.append_of_mem hx
    have := bMs_mid a x b
    rw [← hd] at this
    obtain ⟨t, v⟩ := x
    obtain ⟨t', v'⟩ := y
    simp only [bM] at this
    exact mem_same t t' v v' (ihm t v hx (by omega) v')
  refine Pure.go ir25 ck25 (Nat.le_refl _) fun KP Q hQ => ?_
  by_cases h1 : k = k'
  case neg =>
    have hne : ¬ (Val.mk k n s l m = Val.mk k' n' s' l' m') := by simp [h1]
    simp (disch := first | omega | assumption) only [ir25, cV_mk, h1, steps, st2, pev, rev, oev, optr, ibin, sbin, ishf, bound, mmAll, mm2, mk, mkArgs, AV.cells, AV.boxable, AV.one, AV.strip1, fillA, fillS, Nat.reduceEqDiff, reduceCtorEq, ↓reduceIte, Nat.reduceAdd, Int.reduceNeg, Nat.reduceLeDiff, Int.reduceToNat, Int.reduceEq, Int.reduceLT, Int.reduceLE, Int.reduceAdd]
    exact hQ _ _ _ _ nofun rfl (by simp [tupOf, envOf, AV.strip, AV.strip1, eqd_false hne])
  by_cases h2 : n = n'
  case neg =>
    have hne : ¬ (Val.mk k n s l m = Val.mk k' n' s' l' m') := by simp [h2]
    simp (disch := first | omega | assumption) only [ir25, cV_mk, h1, h2, steps, st2, pev, rev, oev, optr, ibin, sbin, ishf, bound, mmAll, mm2, mk, mkArgs, AV.cells, AV.boxable, AV.one, AV.strip1, fillA, fillS, Nat.reduceEqDiff, reduceCtorEq, ↓reduceIte, Nat.reduceAdd, Int.reduceNeg, Nat.reduceLeDiff, Int.reduceToNat, Int.reduceEq, Int.reduceLT, Int.reduceLE, Int.reduceAdd]
    exact hQ _ _ _ _ nofun rfl (by simp [tupOf, envOf, AV.strip, AV.strip1, eqd_false hne])
  by_cases h3 : s = s'
  case neg =>
    have hne : ¬ (Val.mk k n s l m = Val.mk k' n' s' l' m') := by simp [h3]
    simp (disch := first | omega | assumption) only [ir25, cV_mk, h1, h2, h3, steps, st2, pev, rev, oev, optr, ibin, sbin, ishf, bound, mmAll, mm2, mk, mkArgs, AV.cells, AV.boxable, AV.one, AV.strip1, fillA, fillS, Nat.reduceEqDiff, reduceCtorEq, ↓reduceIte, Nat.reduceAdd, Int.reduceNeg, Nat.reduceLeDiff, Int.reduceToNat, Int.reduceEq, Int.reduceLT, Int.reduceLE, Int.reduceAdd]
    exact hQ _ _ _ _ nofun rfl (by simp [tupOf, envOf, AV.strip, AV.strip1, eqd_false hne])
  simp (disch := first | omega | assumption) only [ir25, cV_mk, h1, h2, h3, steps, st2, pev, rev, oev, optr, ibin, sbin, ishf, bound, mmAll, mm2, mk, mkArgs, AV.cells, AV.boxable, AV.one, AV.strip1, fillA, fillS, Nat.reduceEqDiff, reduceCtorEq, ↓reduceIte, Nat.reduceAdd, Int.reduceNeg, Nat.reduceLeDiff, Int.reduceToNat, Int.reduceEq, Int.reduceLT, Int.reduceLE, Int.reduceAdd]
  refine goK_pure (eqFuncV _ (by kernel_rfl) l l' (by omega) il) ?_
  by_cases h4 : l = l'
  case neg =>
    have hne : ¬ (Val.mk k n s l m = Val.mk k' n' s' l' m') := by simp [h4]
    simp (disch := first | omega | assumption) only [eqd_false h4, steps, st2, pev, rev, oev, optr, ibin, sbin, ishf, bound, mmAll, mm2, mk, mkArgs, AV.cells, AV.boxable, AV.one, AV.strip1, fillA, fillS, Nat.reduceEqDiff, reduceCtorEq, ↓reduceIte, Nat.reduceAdd, Int.reduceNeg, Nat.reduceLeDiff, Int.reduceToNat, Int.reduceEq, Int.reduceLT, Int.reduceLE, Int.reduceAdd]
    exact hQ _ _ _ _ nofun rfl (by simp [tupOf, envOf, AV.strip, AV.strip1, eqd_false hne])
  simp (disch := first | omega | assumption) only [eqd_true h4, steps, st2, pev, rev, oev, optr, ibin, sbin, ishf, bound, mmAll, mm2, mk, mkArgs, AV.cells, AV.boxable, AV.one, AV.strip1, fillA, fillS, Nat.reduceEqDiff, reduceCtorEq, ↓reduceIte, Nat.reduceAdd, Int.reduceNeg, Nat.reduceLeDiff, Int.reduceToNat, Int.reduceEq, Int.reduceLT, Int.reduceLE, Int.reduceAdd]
  refine goK_pure (eqFuncM _ (by kernel_rfl) m m' (by omega) im) ?_
  simp (disch := first | omega | assumption) only [steps, st2, pev, rev, oev, optr, ibin, sbin, ishf, bound, mmAll, mm2, mk, mkArgs, AV.cells, AV.boxable, AV.one, AV.strip1, fillA, fillS, Nat.reduceEqDiff, reduceCtorEq, ↓reduceIte, Nat.reduceAdd, Int.reduceNeg, Nat.reduceLeDiff, Int.reduceToNat, Int.reduceEq, Int.reduceLT, Int.reduceLE, Int.reduceAdd]
  have : eqd (Val.mk k n s l m) (Val.mk k' n' s' l' m') = eqd m m' := by
    by_cases h : m = m'
    · rw [eqd_true h, eqd_true (by rw [h1, h2, h3, h4, h])]
    · rw [eqd_false h, eqd_false (by simp [h])]
  exact hQ _ _ _ _ nofun rfl (by simp [tupOf, envOf, AV.strip, AV.strip1, this])
end Go.Proofs.YtpjafglhdlfnbaaDoor
