/- Values: the document's answer's Same; copies; variables. -/
import Derived.Test.YtpjafglhdlfnbaaDoorValB
set_option maxRecDepth 100000
set_option linter.unusedSimpArgs false
set_option linter.unusedVariables false
namespace Go.Proofs.YtpjafglhdlfnbaaDoor
open Go.Ab

theorem memEq (s t : List UInt8) (v u : Val) : eqd (Mem.mk s v) (Mem.mk t u) = (decide (s = t) && eqd v u) := by
  by_cases h : s = t
  · by_cases h' : v = u
    · rw [eqd_true h', eqd_true (by rw [h, h'])]; simp [h]
    · rw [eqd_false h', eqd_false (by simp [h'])]; simp
  · rw [eqd_false (by simp [h])]; simp [h]

theorem membersR (a b : List Mem) (ha : a.length ≤ Lim) (hc : ∀ s v, Mem.mk s v ∈ a → ∀ u, Pure Tryd.prog 20 [.agg (cV v), .agg (cV u)] (.bool (eqd v u))) :
    Pure Tryd.prog 51 [.sl .no 6 (cMs a), .sl .no 6 (cMs b)] (.bool (eqd a b)) := by
  refine Pure.go ir51 ck51 (Nat.le_refl _) fun KP Q hQ => ?_
  have h1 := cMs_len a
  have h2 := cMs_len b
  simp only [Lim] at ha
  by_cases hl : a.length = b.length
  case neg =>
    have hl' : ¬ ((a.length : Int) = b.length) := by omega
    have hne : a ≠ b := fun e => hl (by rw [e])
    simp (disch := first | omega | assumption) only [ir51, h1, h2, hl', steps, st2, pev, rev, oev, optr, ibin, sbin, ishf, bound, mmAll, mm2, mk, mkArgs, AV.cells, AV.boxable, AV.one, AV.strip1, fillA, fillS, Nat.reduceEqDiff, reduceCtorEq, ↓reduceIte, Nat.reduceAdd, Int.reduceNeg, Nat.reduceLeDiff, Int.reduceToNat, Int.reduceEq, Int.reduceLT, Int.reduceLE, Int.reduceAdd]
    exact hQ _ _ _ _ nofun rfl (by simp [tupOf, envOf, AV.strip, AV.strip1, eqd_false hne])
  have hl' : ((a.length : Int) = b.length) = True := eq_true (by omega)
  simp (disch := first | omega | assumption) only [ir51, h1, h2, hl', steps, st2, pev, rev, oev, optr, ibin, sbin, ishf, bound, mmAll, mm2, mk, mkArgs, AV.cells, AV.boxable, AV.one, AV.strip1, fillA, fillS, Nat.reduceEqDiff, reduceCtorEq, ↓reduceIte, Nat.reduceAdd, Int.reduceNeg, Nat.reduceLeDiff, Int.reduceToNat, Int.reduceEq, Int.reduceLT, Int.reduceLE, Int.reduceAdd]
  refine goL_range a 5 (fun _ : Unit => []) (fun done rest n H => b.take done.length = done) () (by simp (disch := first | omega | assumption) only [steps, st2, pev, rev, oev, optr, ibin, sbin, ishf, bound, mmAll, mm2, mk, mkArgs, AV.cells, AV.boxable, AV.one, AV.strip1, fillA, fillS, Nat.reduceEqDiff, reduceCtorEq, ↓reduceIte, Nat.reduceAdd, Int.reduceNeg, Nat.reduceLeDiff, Int.reduceToNat, Int.reduceEq, Int.reduceLT, Int.reduceLE, Int.reduceAdd]) rfl ?_ ?_
  · rintro n H J hp hlt
    simp (disch := first | omega | assumption) only [h1, hlt, steps, st2, pev, rev, oev, optr, ibin, sbin, ishf, bound, mmAll, mm2, mk, mkArgs, AV.cells, AV.boxable, AV.one, AV.strip1, fillA, fillS, Nat.reduceEqDiff, reduceCtorEq, ↓reduceIte, Nat.reduceAdd, Int.reduceNeg, Nat.reduceLeDiff, Int.reduceToNat, Int.reduceEq, Int.reduceLT, Int.reduceLE, Int.reduceAdd]
    exact hQ _ _ _ _ nofun rfl (by simp [tupOf, envOf, AV.strip, AV.strip1, eqd_true (two_end hl hp)])
  · rintro done x rest n H J hd hlt _ hp hJ
    obtain ⟨y, r, hb⟩ := two_mid hd hl hp
    have g1 := cMs_get hd
    have g2 := cMs_get hb
    have hlt2 : (done.length : Int) < b.length := by omega
    have hmem : x ∈ a := by rw [hd]; simp
    have hst := two_step hb
    have hne : x ≠ y → a ≠ b := two_ne hd hb
    obtain ⟨s, v⟩ := x
    obtain ⟨t, u⟩ := y
    by_cases hs : s = t
    case neg =>
      have hne2 := hne (by simp [hs])
      simp (disch := first | omega | assumption) only [cV_len, cV_take, cV_splice, cM_len, cM_take, cM_splice, cM_mk, h1, h2, hlt, hlt2, g1, g2, hs, steps, st2, pev, rev, oev, optr, ibin, sbin, ishf, bound, mmAll, mm2, mk, mkArgs, AV.cells, AV.boxable, AV.one, AV.strip1, fillA, fillS, Nat.reduceEqDiff, reduceCtorEq, ↓reduceIte, Nat.reduceAdd, Int.reduceNeg, Nat.reduceLeDiff, Int.reduceToNat, Int.reduceEq, Int.reduceLT, Int.reduceLE, Int.reduceAdd]
      exact hQ _ _ _ _ nofun rfl (by simp [tupOf, envOf, AV.strip, AV.strip1, eqd_false hne2])
    simp (disch := first | omega | assumption) only [cV_len, cV_take, cV_splice, cM_len, cM_take, cM_splice, cM_mk, h1, h2, hlt, hlt2, g1, g2, hs, steps, st2, pev, rev, oev, optr, ibin, sbin, ishf, bound, mmAll, mm2, mk, mkArgs, AV.cells, AV.boxable, AV.one, AV.strip1, fillA, fillS, Nat.reduceEqDiff, reduceCtorEq, ↓reduceIte, Nat.reduceAdd, Int.reduceNeg, Nat.reduceLeDiff, Int.reduceToNat, Int.reduceEq, Int.reduceLT, Int.reduceLE, Int.reduceAdd]
    refine goK_pure (hc s v hmem u) ?_
    by_cases hv : v = u
    · simp (disch := first | omega | assumption) only [eqd_true hv, steps, st2, pev, rev, oev, optr, ibin, sbin, ishf, bound, mmAll, mm2, mk, mkArgs, AV.cells, AV.boxable, AV.one, AV.strip1, fillA, fillS, Nat.reduceEqDiff, reduceCtorEq, ↓reduceIte, Nat.reduceAdd, Int.reduceNeg, Nat.reduceLeDiff, Int.reduceToNat, Int.reduceEq, Int.reduceLT, Int.reduceLE, Int.reduceAdd]
      exact goJ (hJ () _ (by rw [hs, hv]; exact hst)) (by simp (disch := first | omega | assumption) only [wrap64, steps, st2, pev, rev, oev, optr, ibin, sbin, ishf, bound, mmAll, mm2, mk, mkArgs, AV.cells, AV.boxable, AV.one, AV.strip1, fillA, fillS, Nat.reduceEqDiff, reduceCtorEq, ↓reduceIte, Nat.reduceAdd, Int.reduceNeg, Nat.reduceLeDiff, Int.reduceToNat, Int.reduceEq, Int.reduceLT, Int.reduceLE, Int.reduceAdd])
    · have := hne (by simp [hv])
      simp (disch := first | omega | assumption) only [eqd_false hv, steps, st2, pev, rev, oev, optr, ibin, sbin, ishf, bound, mmAll, mm2, mk, mkArgs, AV.cells, AV.boxable, AV.one, AV.strip1, fillA, fillS, Nat.reduceEqDiff, reduceCtorEq, ↓reduceIte, Nat.reduceAdd, Int.reduceNeg, Nat.reduceLeDiff, Int.reduceToNat, Int.reduceEq, Int.reduceLT, Int.reduceLE, Int.reduceAdd]
      exact hQ _ _ _ _ nofun rfl (by simp [tupOf, envOf, AV.strip, AV.strip1, eqd_false this])

theorem sameR : ∀ v, bV v ≤ Lim → ∀ u, Pure Tryd.prog 20 [.agg (cV v), .agg (cV u)] (.bool (eqd v u)) := by
  refine Val.ind fun k n s l m ihl ihm hb u => ?_
  obtain ⟨k', n', s', l', m'⟩ := u
  have hb' : 1 + s.length + bVs l + bMs m ≤ Lim := hb
  have hll := bVs_len l
  have hml := bMs_len m
  have il : ∀ x ∈ l, ∀ y, Pure Tryd.prog 20 [.agg (cV x), .agg (cV y)] (.bool (eqd x y)) := fun x hx y => by
    obtain ⟨a, b, hd⟩ := List.append_of_mem hx
    have := bVs_mid a x b
    rw [← hd] at this
    exact ihl x hx (by omega) y
  have im : ∀ s v, Mem.mk s v ∈ m → ∀ u, Pure Tryd.prog 20 [.agg (cV v), .agg (cV u)] (.bool (eqd v u)) := fun t v hx u => by
    obtain ⟨a, b, hd⟩ := List.append_of_mem hx
    have := bMs_mid a (.mk t v) b
    rw [← hd] at this
    simp only [bM] at this
    exact ihm t v hx (by omega) u
  refine Pure.go ir20 ck20 (Nat.le_refl _) fun KP Q hQ => ?_
  have hlb := cVs_len l
  have hlb' := cVs_len l'
  by_cases h1 : k = k'
  case neg =>
    have hne : ¬ (Val.mk k n s l m = Val.mk k' n' s' l' m') := by simp [h1]
    simp (disch := first | omega | assumption) only [ir20, cV_mk, h1, steps, st2, pev, rev, oev, optr, ibin, sbin, ishf, bound, mmAll, mm2, mk, mkArgs, AV.cells, AV.boxable, AV.one, AV.strip1, fillA, fillS, Nat.reduceEqDiff, reduceCtorEq, ↓reduceIte, Nat.reduceAdd, Int.reduceNeg, Nat.reduceLeDiff, Int.reduceToNat, Int.reduceEq, Int.reduceLT, Int.reduceLE, Int.reduceAdd]
    exact hQ _ _ _ _ nofun rfl (by simp [tupOf, envOf, AV.strip, AV.strip1, eqd_false hne])
  by_cases h2 : n = n'
  case neg =>
    have hne : ¬ (Val.mk k n s l m = Val.mk k' n' s' l' m') := by simp [h2]
    simp (disch := first | omega | assumption) only [ir20, cV_mk, h1, h2, steps, st2, pev, rev, oev, optr, ibin, sbin, ishf, bound, mmAll, mm2, mk, mkArgs, AV.cells, AV.boxable, AV.one, AV.strip1, fillA, fillS, Nat.reduceEqDiff, reduceCtorEq, ↓reduceIte, Nat.reduceAdd, Int.reduceNeg, Nat.reduceLeDiff, Int.reduceToNat, Int.reduceEq, Int.reduceLT, Int.reduceLE, Int.reduceAdd]
    exact hQ _ _ _ _ nofun rfl (by simp [tupOf, envOf, AV.strip, AV.strip1, eqd_false hne])
  by_cases h3 : s = s'
  case neg =>
    have hne : ¬ (Val.mk k n s l m = Val.mk k' n' s' l' m') := by simp [h3]
    simp (disch := first | omega | assumption) only [ir20, cV_mk, h1, h2, h3, steps, st2, pev, rev, oev, optr, ibin, sbin, ishf, bound, mmAll, mm2, mk, mkArgs, AV.cells, AV.boxable, AV.one, AV.strip1, fillA, fillS, Nat.reduceEqDiff, reduceCtorEq, ↓reduceIte, Nat.reduceAdd, Int.reduceNeg, Nat.reduceLeDiff, Int.reduceToNat, Int.reduceEq, Int.reduceLT, Int.reduceLE, Int.reduceAdd]
    exact hQ _ _ _ _ nofun rfl (by simp [tupOf, envOf, AV.strip, AV.strip1, eqd_false hne])
  by_cases hl : l.length = l'.length
  case neg =>
    have hl' : ¬ ((l.length : Int) = l'.length) := by omega
    have hne : ¬ (Val.mk k n s l m = Val.mk k' n' s' l' m') := by simp only [Val.mk.injEq]; rintro ⟨_, _, _, e, _⟩; exact hl (by rw [e])
    simp (disch := first | omega | assumption) only [ir20, cV_mk, h1, h2, h3, hlb, hlb', hl', steps, st2, pev, rev, oev, optr, ibin, sbin, ishf, bound, mmAll, mm2, mk, mkArgs, AV.cells, AV.boxable, AV.one, AV.strip1, fillA, fillS, Nat.reduceEqDiff, reduceCtorEq, ↓reduceIte, Nat.reduceAdd, Int.reduceNeg, Nat.reduceLeDiff, Int.reduceToNat, Int.reduceEq, Int.reduceLT, Int.reduceLE, Int.reduceAdd]
    exact hQ _ _ _ _ nofun rfl (by simp [tupOf, envOf, AV.strip, AV.strip1, eqd_false hne])
  have hl' : ((l.length : Int) = l'.length) = True := eq_true (by omega)
  simp (disch := first | omega | assumption) only [ir20, cV_mk, h1, h2, h3, hlb, hlb', hl', steps, st2, pev, rev, oev, optr, ibin, sbin, ishf, bound, mmAll, mm2, mk, mkArgs, AV.cells, AV.boxable, AV.one, AV.strip1, fillA, fillS, Nat.reduceEqDiff, reduceCtorEq, ↓reduceIte, Nat.reduceAdd, Int.reduceNeg, Nat.reduceLeDiff, Int.reduceToNat, Int.reduceEq, Int.reduceLT, Int.reduceLE, Int.reduceAdd]
  simp only [Lim] at hb'
  refine goL_range l 5 (fun _ : Unit => []) (fun done rest n H => l'.take done.length = done) () (by simp (disch := first | omega | assumption) only [steps, st2, pev, rev, oev, optr, ibin, sbin, ishf, bound, mmAll, mm2, mk, mkArgs, AV.cells, AV.boxable, AV.one, AV.strip1, fillA, fillS, Nat.reduceEqDiff, reduceCtorEq, ↓reduceIte, Nat.reduceAdd, Int.reduceNeg, Nat.reduceLeDiff, Int.reduceToNat, Int.reduceEq, Int.reduceLT, Int.reduceLE, Int.reduceAdd]) rfl ?_ ?_
  · rintro _ H J hp hlt
    have e4 := two_end hl hp
    simp (disch := first | omega | assumption) only [hlb, hlt, steps, st2, pev, rev, oev, optr, ibin, sbin, ishf, bound, mmAll, mm2, mk, mkArgs, AV.cells, AV.boxable, AV.one, AV.strip1, fillA, fillS, Nat.reduceEqDiff, reduceCtorEq, ↓reduceIte, Nat.reduceAdd, Int.reduceNeg, Nat.reduceLeDiff, Int.reduceToNat, Int.reduceEq, Int.reduceLT, Int.reduceLE, Int.reduceAdd]
    refine goK_pure (membersR m m' (by simp only [Lim]; omega) im) ?_
    simp (disch := first | omega | assumption) only [steps, st2, pev, rev, oev, optr, ibin, sbin, ishf, bound, mmAll, mm2, mk, mkArgs, AV.cells, AV.boxable, AV.one, AV.strip1, fillA, fillS, Nat.reduceEqDiff, reduceCtorEq, ↓reduceIte, Nat.reduceAdd, Int.reduceNeg, Nat.reduceLeDiff, Int.reduceToNat, Int.reduceEq, Int.reduceLT, Int.reduceLE, Int.reduceAdd]
    have : eqd (Val.mk k n s l m) (Val.mk k' n' s' l' m') = eqd m m' := by
      by_cases h : m = m'
      · rw [eqd_true h, eqd_true (by rw [h1, h2, h3, e4, h])]
      · rw [eqd_false h, eqd_false (by simp [h])]
    exact hQ _ _ _ _ nofun rfl (by simp [tupOf, envOf, AV.strip, AV.strip1, this])
  · rintro done x rest _ H J hd hlt _ hp hJ
    obtain ⟨y, r, hb⟩ := two_mid hd hl hp
    have g1 := cVs_get hd
    have g2 := cVs_get hb
    have hlt2 : (done.length : Int) < l'.length := by omega
    simp (disch := first | omega | assumption) only [cV_len, cV_take, cV_splice, cM_len, cM_take, cM_splice, cM_mk, hlb, hlb', hlt, hlt2, g1, g2, steps, st2, pev, rev, oev, optr, ibin, sbin, ishf, bound, mmAll, mm2, mk, mkArgs, AV.cells, AV.boxable, AV.one, AV.strip1, fillA, fillS, Nat.reduceEqDiff, reduceCtorEq, ↓reduceIte, Nat.reduceAdd, Int.reduceNeg, Nat.reduceLeDiff, Int.reduceToNat, Int.reduceEq, Int.reduceLT, Int.reduceLE, Int.reduceAdd]
    refine goK_pure (il x (by rw [hd]; simp) y) ?_
    by_cases hxy : x = y
    · simp (disch := first | omega | assumption) only [eqd_true hxy, steps, st2, pev, rev, oev, optr, ibin, sbin, ishf, bound, mmAll, mm2, mk, mkArgs, AV.cells, AV.boxable, AV.one, AV.strip1, fillA, fillS, Nat.reduceEqDiff, reduceCtorEq, ↓reduceIte, Nat.reduceAdd, Int.reduceNeg, Nat.reduceLeDiff, Int.reduceToNat, Int.reduceEq, Int.reduceLT, Int.reduceLE, Int.reduceAdd]
      exact goJ (hJ () _ (by rw [hxy]; exact two_step hb)) (by simp (disch := first | omega | assumption) only [wrap64, steps, st2, pev, rev, oev, optr, ibin, sbin, ishf, bound, mmAll, mm2, mk, mkArgs, AV.cells, AV.boxable, AV.one, AV.strip1, fillA, fillS, Nat.reduceEqDiff, reduceCtorEq, ↓reduceIte, Nat.reduceAdd, Int.reduceNeg, Nat.reduceLeDiff, Int.reduceToNat, Int.reduceEq, Int.reduceLT, Int.reduceLE, Int.reduceAdd])
    · have hne : ¬ (Val.mk k n s l m = Val.mk k' n' s' l' m') := by simp only [Val.mk.injEq]; rintro ⟨_, _, _, e, _⟩; exact two_ne hd hb hxy e
      simp (disch := first | omega | assumption) only [eqd_false hxy, steps, st2, pev, rev, oev, optr, ibin, sbin, ishf, bound, mmAll, mm2, mk, mkArgs, AV.cells, AV.boxable, AV.one, AV.strip1, fillA, fillS, Nat.reduceEqDiff, reduceCtorEq, ↓reduceIte, Nat.reduceAdd, Int.reduceNeg, Nat.reduceLeDiff, Int.reduceToNat, Int.reduceEq, Int.reduceLT, Int.reduceLE, Int.reduceAdd]
      exact hQ _ _ _ _ nofun rfl (by simp [tupOf, envOf, AV.strip, AV.strip1, eqd_false hne])

/-! ### copies -/

theorem copyMs (m : List Mem) (hm : bMs m ≤ Lim) (hc : ∀ s v, Mem.mk s v ∈ m → Pure Tryd.prog 26 [.agg (cV v)] (.agg (cV v))) : Pure Tryd.prog 55 [.sl .no 6 (cMs m)] (.sl .no 6 (cMs m)) := by
  refine Pure.go ir55 ck55 (Nat.le_refl _) fun KP Q hQ => ?_
  have h1 := cMs_len m
  have hml := bMs_len m
  simp only [Lim] at hm
  simp (disch := first | omega | assumption) only [ir55, steps, st2, pev, rev, oev, optr, ibin, sbin, ishf, bound, mmAll, mm2, mk, mkArgs, AV.cells, AV.boxable, AV.one, AV.strip1, fillA, fillS, Nat.reduceEqDiff, reduceCtorEq, ↓reduceIte, Nat.reduceAdd, Int.reduceNeg, Nat.reduceLeDiff, Int.reduceToNat, Int.reduceEq, Int.reduceLT, Int.reduceLE, Int.reduceAdd]
  refine goL_range m 4 (fun x : Own × List Mem => [(3, .sl x.1 6 (cMs x.2))]) (fun done rest x H => x.2 = done ∧ OwnF Heap.emp H x.1 done.length 6) (.nil, []) (by simp (disch := first | omega | assumption) only [cMs, steps, st2, pev, rev, oev, optr, ibin, sbin, ishf, bound, mmAll, mm2, mk, mkArgs, AV.cells, AV.boxable, AV.one, AV.strip1, fillA, fillS, Nat.reduceEqDiff, reduceCtorEq, ↓reduceIte, Nat.reduceAdd, Int.reduceNeg, Nat.reduceLeDiff, Int.reduceToNat, Int.reduceEq, Int.reduceLT, Int.reduceLE, Int.reduceAdd]) ⟨rfl, OwnF.nil _ _⟩ ?_ ?_
  · rintro ⟨o, done⟩ H J ⟨rfl, ho⟩ hlt
    simp (disch := first | omega | assumption) only [h1, hlt, steps, st2, pev, rev, oev, optr, ibin, sbin, ishf, bound, mmAll, mm2, mk, mkArgs, AV.cells, AV.boxable, AV.one, AV.strip1, fillA, fillS, Nat.reduceEqDiff, reduceCtorEq, ↓reduceIte, Nat.reduceAdd, Int.reduceNeg, Nat.reduceLeDiff, Int.reduceToNat, Int.reduceEq, Int.reduceLT, Int.reduceLE, Int.reduceAdd]
    exact hQ _ _ _ _ nofun rfl (by simp [tupOf, envOf, AV.strip, AV.strip1])
  · rintro done x rest ⟨o, ds⟩ H J hd hlt hlt' ⟨hds, ho⟩ hJ
    simp only at hds ho hJ ⊢
    obtain rfl : done = ds := hds.symm
    have hg := cMs_get hd
    have hmem : x ∈ m := by rw [hd]; simp
    have h2 := cMs_len done
    obtain ⟨s, v⟩ := x
    simp (disch := first | omega | assumption) only [cV_len, cV_take, cV_splice, cM_len, cM_take, cM_splice, cM_mk, h1, hlt, hg, steps, st2, pev, rev, oev, optr, ibin, sbin, ishf, bound, mmAll, mm2, mk, mkArgs, AV.cells, AV.boxable, AV.one, AV.strip1, fillA, fillS, Nat.reduceEqDiff, reduceCtorEq, ↓reduceIte, Nat.reduceAdd, Int.reduceNeg, Nat.reduceLeDiff, Int.reduceToNat, Int.reduceEq, Int.reduceLT, Int.reduceLE, Int.reduceAdd]
    refine goK_pure (hc s v hmem) ?_
    simp (disch := first | omega | assumption) only [cV_len, cV_take, cV_splice, cM_len, cM_take, cM_splice, cM_mk, h1, hlt, hg, steps, st2, pev, rev, oev, optr, ibin, sbin, ishf, bound, mmAll, mm2, mk, mkArgs, AV.cells, AV.boxable, AV.one, AV.strip1, fillA, fillS, Nat.reduceEqDiff, reduceCtorEq, ↓reduceIte, Nat.reduceAdd, Int.reduceNeg, Nat.reduceLeDiff, Int.reduceToNat, Int.reduceEq, Int.reduceLT, Int.reduceLE, Int.reduceAdd]
    refine goP_ownS (by rw [h2]; exact ho.own) ?_ ?_ fun o' H' hs => ?_
    · simp only [h2, List.length_cons, List.length_nil]; omega
    · simp only [h2, List.length_cons, List.length_nil, maxLen]; omega
    rw [h2] at hs
    simp (disch := first | omega | assumption) only [wrap64, steps, st2, pev, rev, oev, optr, ibin, sbin, ishf, bound, mmAll, mm2, mk, mkArgs, AV.cells, AV.boxable, AV.one, AV.strip1, fillA, fillS, Nat.reduceEqDiff, reduceCtorEq, ↓reduceIte, Nat.reduceAdd, Int.reduceNeg, Nat.reduceLeDiff, Int.reduceToNat, Int.reduceEq, Int.reduceLT, Int.reduceLE, Int.reduceAdd]
    refine goJ (hJ (o', done ++ [.mk s v]) H' ⟨rfl, (ho.stepS hs).cast (by simp)⟩) (by simp (disch := first | omega | assumption) only [cMs_map, List.map_append, List.map_cons, cM_mk, cV_strip, AV.strip1, steps, st2, pev, rev, oev, optr, ibin, sbin, ishf, bound, mmAll, mm2, mk, mkArgs, AV.cells, AV.boxable, AV.one, AV.strip1, fillA, fillS, Nat.reduceEqDiff, reduceCtorEq, ↓reduceIte, Nat.reduceAdd, Int.reduceNeg, Nat.reduceLeDiff, Int.reduceToNat, Int.reduceEq, Int.reduceLT, Int.reduceLE, Int.reduceAdd])

theorem copyV : ∀ v, bV v ≤ Lim → Pure Tryd.prog 26 [.agg (cV v)] (.agg (cV v)) := by
  refine Val.ind fun k n s l m ihl ihm hb => ?_
  have hb' : 1 + s.length + bVs l + bMs m ≤ Lim := hb
  have hll := bVs_len l
  have hml := bMs_len m
  have il : ∀ x ∈ l, Pure Tryd.prog 26 [.agg (cV x)] (.agg (cV x)) := fun x hx => by
    obtain ⟨a, b, hd⟩ := List.append_of_mem hx
    have := bVs_mid a x b
    rw [← hd] at this
    exact ihl x hx (by omega)
  have im : ∀ s v, Mem.mk s v ∈ m → Pure Tryd.prog 26 [.agg (cV v)] (.agg (cV v)) := fun t v hx => by
    obtain ⟨a, b, hd⟩ := List.append_of_mem hx
    have := bMs_mid a (.mk t v) b
    rw [← hd] at this
    simp only [bM] at this
    exact ihm t v hx (by omega)
  refine Pure.go ir26 ck26 (Nat.le_refl _) fun KP Q hQ => ?_
  have h1 := cVs_len l
  simp (disch := first | omega | assumption) only [ir26, cV_mk, steps, st2, pev, rev, oev, optr, ibin, sbin, ishf, bound, mmAll, mm2, mk, mkArgs, AV.cells, AV.boxable, AV.one, AV.strip1, fillA, fillS, Nat.reduceEqDiff, reduceCtorEq, ↓reduceIte, Nat.reduceAdd, Int.reduceNeg, Nat.reduceLeDiff, Int.reduceToNat, Int.reduceEq, Int.reduceLT, Int.reduceLE, Int.reduceAdd]
  refine goA_intro fun b hb => ?_
  simp (disch := first | omega | assumption) only [steps, st2, pev, rev, oev, optr, ibin, sbin, ishf, bound, mmAll, mm2, mk, mkArgs, AV.cells, AV.boxable, AV.one, AV.strip1, fillA, fillS, Nat.reduceEqDiff, reduceCtorEq, ↓reduceIte, Nat.reduceAdd, Int.reduceNeg, Nat.reduceLeDiff, Int.reduceToNat, Int.reduceEq, Int.reduceLT, Int.reduceLE, Int.reduceAdd]
  refine goA_intro fun b2 hb2 => ?_
  have hne := ne_fresh hb2
  have hb0 := fresh_of hb2
  simp (disch := first | omega | assumption) only [steps, st2, pev, rev, oev, optr, ibin, sbin, ishf, bound, mmAll, mm2, mk, mkArgs, AV.cells, AV.boxable, AV.one, AV.strip1, fillA, fillS, Nat.reduceEqDiff, reduceCtorEq, ↓reduceIte, Nat.reduceAdd, Int.reduceNeg, Nat.reduceLeDiff, Int.reduceToNat, Int.reduceEq, Int.reduceLT, Int.reduceLE, Int.reduceAdd]
  simp only [Lim] at hb'
  refine goL_range l 4 (fun x : Own × List Val => [(3, .sl x.1 5 (cVs x.2))]) (fun done rest x H => x.2 = done ∧ OwnF ((Heap.emp.upd b (.cells [.int .i64 k, .int .i64 n, .str s, .sl .no 5 (cVs l), .sl .no 6 (cMs m)])).upd b2 (.cells [.int .i64 0, .int .i64 0, .str [], .sl .nil 5 [], .sl .nil 6 []])) H x.1 done.length 5) (.nil, []) (by simp (disch := first | omega | assumption) only [cVs, steps, st2, pev, rev, oev, optr, ibin, sbin, ishf, bound, mmAll, mm2, mk, mkArgs, AV.cells, AV.boxable, AV.one, AV.strip1, fillA, fillS, Nat.reduceEqDiff, reduceCtorEq, ↓reduceIte, Nat.reduceAdd, Int.reduceNeg, Nat.reduceLeDiff, Int.reduceToNat, Int.reduceEq, Int.reduceLT, Int.reduceLE, Int.reduceAdd]) ⟨rfl, OwnF.nil _ _⟩ ?_ ?_
  · rintro ⟨o, done⟩ H J ⟨rfl, ho⟩ hlt
    have e1 : H b = some (.cells [.int .i64 k, .int .i64 n, .str s, .sl .no 5 (cVs done), .sl .no 6 (cMs m)]) := ho.sub b _ (by simp [Heap.upd, Ne.symm hne])
    have e2 : H b2 = some (.cells [.int .i64 0, .int .i64 0, .str [], .sl .nil 5 [], .sl .nil 6 []]) := ho.sub b2 _ (by simp [Heap.upd])
    simp (disch := first | omega | assumption) only [h1, hlt, e1, steps, st2, pev, rev, oev, optr, ibin, sbin, ishf, bound, mmAll, mm2, mk, mkArgs, AV.cells, AV.boxable, AV.one, AV.strip1, fillA, fillS, Nat.reduceEqDiff, reduceCtorEq, ↓reduceIte, Nat.reduceAdd, Int.reduceNeg, Nat.reduceLeDiff, Int.reduceToNat, Int.reduceEq, Int.reduceLT, Int.reduceLE, Int.reduceAdd]
    refine goK_pure (copyMs m (by simp only [Lim]; omega) im) ?_
    simp (disch := first | omega | assumption) only [e1, e2, hne, Ne.symm hne, steps, st2, pev, rev, oev, optr, ibin, sbin, ishf, bound, mmAll, mm2, mk, mkArgs, AV.cells, AV.boxable, AV.one, AV.strip1, fillA, fillS, Nat.reduceEqDiff, reduceCtorEq, ↓reduceIte, Nat.reduceAdd, Int.reduceNeg, Nat.reduceLeDiff, Int.reduceToNat, Int.reduceEq, Int.reduceLT, Int.reduceLE, Int.reduceAdd]
    refine hQ _ _ _ [.agg [.int .i64 k, .int .i64 n, .str s, .sl o 5 (cVs done), .sl .no 6 (cMs m)]] nofun (by simp (disch := first | omega | assumption) only [ir26, resvs, resv, hne, Ne.symm hne, steps, st2, pev, rev, oev, optr, ibin, sbin, ishf, bound, mmAll, mm2, mk, mkArgs, AV.cells, AV.boxable, AV.one, AV.strip1, fillA, fillS, Nat.reduceEqDiff, reduceCtorEq, ↓reduceIte, Nat.reduceAdd, Int.reduceNeg, Nat.reduceLeDiff, Int.reduceToNat, Int.reduceEq, Int.reduceLT, Int.reduceLE, Int.reduceAdd]) ?_
    simp [tupOf, AV.strip, AV.strip1, cV_mk]
  · rintro done x rest ⟨o, ds⟩ H J hd hlt hlt' ⟨hds, ho⟩ hJ
    simp only at hds ho hJ ⊢
    obtain rfl : done = ds := hds.symm
    have hg := cVs_get hd
    have hmem : x ∈ l := by rw [hd]; simp
    have h2 := cVs_len done
    have e1 : H b = some (.cells [.int .i64 k, .int .i64 n, .str s, .sl .no 5 (cVs l), .sl .no 6 (cMs m)]) := ho.sub b _ (by simp [Heap.upd, Ne.symm hne])
    simp (disch := first | omega | assumption) only [cV_len, cV_take, cV_splice, cM_len, cM_take, cM_splice, cM_mk, h1, hlt, hg, e1, steps, st2, pev, rev, oev, optr, ibin, sbin, ishf, bound, mmAll, mm2, mk, mkArgs, AV.cells, AV.boxable, AV.one, AV.strip1, fillA, fillS, Nat.reduceEqDiff, reduceCtorEq, ↓reduceIte, Nat.reduceAdd, Int.reduceNeg, Nat.reduceLeDiff, Int.reduceToNat, Int.reduceEq, Int.reduceLT, Int.reduceLE, Int.reduceAdd]
    refine goK_pure (il x hmem) ?_
    simp (disch := first | omega | assumption) only [cV_len, cV_take, cV_splice, cM_len, cM_take, cM_splice, cM_mk, h1, hlt, hg, steps, st2, pev, rev, oev, optr, ibin, sbin, ishf, bound, mmAll, mm2, mk, mkArgs, AV.cells, AV.boxable, AV.one, AV.strip1, fillA, fillS, Nat.reduceEqDiff, reduceCtorEq, ↓reduceIte, Nat.reduceAdd, Int.reduceNeg, Nat.reduceLeDiff, Int.reduceToNat, Int.reduceEq, Int.reduceLT, Int.reduceLE, Int.reduceAdd]
    refine goP_ownS (by rw [h2]; exact ho.own) ?_ ?_ fun o' H' hs => ?_
    · simp only [h2, List.length_cons, List.length_nil]; omega
    · simp only [h2, List.length_cons, List.length_nil, maxLen]; omega
    rw [h2] at hs
    simp (disch := first | omega | assumption) only [wrap64, steps, st2, pev, rev, oev, optr, ibin, sbin, ishf, bound, mmAll, mm2, mk, mkArgs, AV.cells, AV.boxable, AV.one, AV.strip1, fillA, fillS, Nat.reduceEqDiff, reduceCtorEq, ↓reduceIte, Nat.reduceAdd, Int.reduceNeg, Nat.reduceLeDiff, Int.reduceToNat, Int.reduceEq, Int.reduceLT, Int.reduceLE, Int.reduceAdd]
    refine goJ (hJ (o', done ++ [x]) H' ⟨rfl, (ho.stepS hs).cast (by simp)⟩) (by simp (disch := first | omega | assumption) only [cVs_map, List.map_append, List.map_cons, cV_strip, AV.strip1, steps, st2, pev, rev, oev, optr, ibin, sbin, ishf, bound, mmAll, mm2, mk, mkArgs, AV.cells, AV.boxable, AV.one, AV.strip1, fillA, fillS, Nat.reduceEqDiff, reduceCtorEq, ↓reduceIte, Nat.reduceAdd, Int.reduceNeg, Nat.reduceLeDiff, Int.reduceToNat, Int.reduceEq, Int.reduceLT, Int.reduceLE, Int.reduceAdd])
end Go.Proofs.YtpjafglhdlfnbaaDoor
