/- Batches: BatchPlans, BatchOnce, BatchCounts, BatchSplits. -/
import Derived.Test.YthkpgjnibolnhaaBatL
set_option maxRecDepth 100000
set_option linter.unusedSimpArgs false
set_option linter.unusedVariables false
namespace Go.Proofs.Ythkpgjnibolnhaa
open Go.Ab

def exL : List Need := [⟨[97], [49]⟩, ⟨[98], [49]⟩, ⟨[97], [50]⟩, ⟨[97], [49]⟩, ⟨[97], [51]⟩]
theorem exL_plan : planP (clampS 2) exL = [⟨[97], [[49], [50]]⟩, ⟨[97], [[51]]⟩, ⟨[98], [[49]]⟩] := by decide

theorem awakeB : Pure Try.prog 14 [] (.bool true) := by
  refine Pure.go ir14 ck14 (Nat.le_refl _) fun KP Q hQ => ?_
  simp (disch := first | omega | assumption) only [ir14, steps, st2, pev, rev, oev, optr, ibin, sbin, ishf, bound, mmAll, mm2, mk, mkArgs, AV.cells, AV.boxable, AV.one, AV.strip1, fillA, fillS, Nat.reduceEqDiff, reduceCtorEq, ↓reduceIte, Nat.reduceAdd, Int.reduceNeg, Nat.reduceLeDiff, Int.reduceToNat, Int.reduceEq, Int.reduceLT, Int.reduceLE, Int.reduceAdd]
  refine goK_pure (needP _ _) ?_
  simp (disch := first | omega | assumption) only [steps, st2, pev, rev, oev, optr, ibin, sbin, ishf, bound, mmAll, mm2, mk, mkArgs, AV.cells, AV.boxable, AV.one, AV.strip1, fillA, fillS, Nat.reduceEqDiff, reduceCtorEq, ↓reduceIte, Nat.reduceAdd, Int.reduceNeg, Nat.reduceLeDiff, Int.reduceToNat, Int.reduceEq, Int.reduceLT, Int.reduceLE, Int.reduceAdd]
  refine goK_pure (needP _ _) ?_
  simp (disch := first | omega | assumption) only [steps, st2, pev, rev, oev, optr, ibin, sbin, ishf, bound, mmAll, mm2, mk, mkArgs, AV.cells, AV.boxable, AV.one, AV.strip1, fillA, fillS, Nat.reduceEqDiff, reduceCtorEq, ↓reduceIte, Nat.reduceAdd, Int.reduceNeg, Nat.reduceLeDiff, Int.reduceToNat, Int.reduceEq, Int.reduceLT, Int.reduceLE, Int.reduceAdd]
  refine goK_pure (needP _ _) ?_
  simp (disch := first | omega | assumption) only [steps, st2, pev, rev, oev, optr, ibin, sbin, ishf, bound, mmAll, mm2, mk, mkArgs, AV.cells, AV.boxable, AV.one, AV.strip1, fillA, fillS, Nat.reduceEqDiff, reduceCtorEq, ↓reduceIte, Nat.reduceAdd, Int.reduceNeg, Nat.reduceLeDiff, Int.reduceToNat, Int.reduceEq, Int.reduceLT, Int.reduceLE, Int.reduceAdd]
  refine goK_pure (needP _ _) ?_
  simp (disch := first | omega | assumption) only [steps, st2, pev, rev, oev, optr, ibin, sbin, ishf, bound, mmAll, mm2, mk, mkArgs, AV.cells, AV.boxable, AV.one, AV.strip1, fillA, fillS, Nat.reduceEqDiff, reduceCtorEq, ↓reduceIte, Nat.reduceAdd, Int.reduceNeg, Nat.reduceLeDiff, Int.reduceToNat, Int.reduceEq, Int.reduceLT, Int.reduceLE, Int.reduceAdd]
  refine goK_pure (needP _ _) ?_
  simp (disch := first | omega | assumption) only [steps, st2, pev, rev, oev, optr, ibin, sbin, ishf, bound, mmAll, mm2, mk, mkArgs, AV.cells, AV.boxable, AV.one, AV.strip1, fillA, fillS, Nat.reduceEqDiff, reduceCtorEq, ↓reduceIte, Nat.reduceAdd, Int.reduceNeg, Nat.reduceLeDiff, Int.reduceToNat, Int.reduceEq, Int.reduceLT, Int.reduceLE, Int.reduceAdd]
  refine goK_pure (Pure.low (planA 2 exL (by decide))) ?_
  rw [exL_plan]
  simp (disch := first | omega | assumption) only [cBs, cB, cT, steps, st2, pev, rev, oev, optr, ibin, sbin, ishf, bound, mmAll, mm2, mk, mkArgs, AV.cells, AV.boxable, AV.one, AV.strip1, fillA, fillS, Nat.reduceEqDiff, reduceCtorEq, ↓reduceIte, Nat.reduceAdd, Int.reduceNeg, Nat.reduceLeDiff, Int.reduceToNat, Int.reduceEq, Int.reduceLT, Int.reduceLE, Int.reduceAdd]
  exact hQ _ _ _ _ nofun rfl (by simp [tupOf, envOf, AV.strip, AV.strip1])

theorem light_len {l : List Need} (h : lightB l = true) : l.length ≤ 300 := by
  simp only [lightB, Bool.and_eq_true, decide_eq_true_eq] at h; exact h.2

theorem plan_len (n : Int) {l : List Need} (hl : l.length ≤ 300) : (planP (clampS n) l).length ≤ 90000 := by
  have hcl := clamp_pos n
  have hol : (dd [] l).length ≤ 300 := by have := dd_len l []; simp at this; omega
  have h1 : ∀ t ∈ dd [] ((dd [] l).map (·.t)), ((chunks (clampS n) (keysOf t (dd [] l))).map fun c => (⟨t, c⟩ : Batch)).length ≤ 300 := fun t _ => by
    rw [List.length_map]
    have := chunks_le (clampS n) hcl.1 (keysOf t (dd [] l))
    have := keysOf_len t (dd [] l)
    omega
  have h2 := flatMap_len _ _ _ h1
  have h3 := tabs_len (dd [] l)
  have := Nat.mul_le_mul_right 300 (Nat.le_trans h3 hol)
  simp only [planP]
  omega

/-- BatchPlans is true. -/
theorem plans (n : Int) (l : List Need) (hl : l.length ≤ maxLen) : Pure Try.prog 3 [.int .i64 n, .sl .no 2 (cNs l)] (.bool true) := by
  refine Pure.go ir3 ck3 (Nat.le_refl _) fun KP Q hQ => ?_
  have hll := cNs_len l
  simp (disch := first | omega | assumption) only [ir3, steps, st2, pev, rev, oev, optr, ibin, sbin, ishf, bound, mmAll, mm2, mk, mkArgs, AV.cells, AV.boxable, AV.one, AV.strip1, fillA, fillS, Nat.reduceEqDiff, reduceCtorEq, ↓reduceIte, Nat.reduceAdd, Int.reduceNeg, Nat.reduceLeDiff, Int.reduceToNat, Int.reduceEq, Int.reduceLT, Int.reduceLE, Int.reduceAdd]
  refine goK_pure (lightR l hl) ?_
  by_cases h : lightB l = true
  · have hl3 := light_len h
    have hp3 := plan_len n hl3
    simp (disch := first | omega | assumption) only [h, steps, st2, pev, rev, oev, optr, ibin, sbin, ishf, bound, mmAll, mm2, mk, mkArgs, AV.cells, AV.boxable, AV.one, AV.strip1, fillA, fillS, Nat.reduceEqDiff, reduceCtorEq, ↓reduceIte, Nat.reduceAdd, Int.reduceNeg, Nat.reduceLeDiff, Int.reduceToNat, Int.reduceEq, Int.reduceLT, Int.reduceLE, Int.reduceAdd]
    refine goP_ownS (o := .nil) (xs := []) rfl ?_ ?_ fun o' H' hos => ?_
    · simp only [hll, List.length_nil]; omega
    · simp only [hll, List.length_nil, maxLen]; omega
    simp only [List.nil_append, cNs_strip]
    simp (disch := first | omega | assumption) only [steps, st2, pev, rev, oev, optr, ibin, sbin, ishf, bound, mmAll, mm2, mk, mkArgs, AV.cells, AV.boxable, AV.one, AV.strip1, fillA, fillS, Nat.reduceEqDiff, reduceCtorEq, ↓reduceIte, Nat.reduceAdd, Int.reduceNeg, Nat.reduceLeDiff, Int.reduceToNat, Int.reduceEq, Int.reduceLT, Int.reduceLE, Int.reduceAdd]
    refine goK_pure (Pure.low (planA n l (by omega))) ?_
    simp (disch := first | omega | assumption) only [steps, st2, pev, rev, oev, optr, ibin, sbin, ishf, bound, mmAll, mm2, mk, mkArgs, AV.cells, AV.boxable, AV.one, AV.strip1, fillA, fillS, Nat.reduceEqDiff, reduceCtorEq, ↓reduceIte, Nat.reduceAdd, Int.reduceNeg, Nat.reduceLeDiff, Int.reduceToNat, Int.reduceEq, Int.reduceLT, Int.reduceLE, Int.reduceAdd]
    refine goK_pure (planR n l (by omega)) ?_
    simp (disch := first | omega | assumption) only [steps, st2, pev, rev, oev, optr, ibin, sbin, ishf, bound, mmAll, mm2, mk, mkArgs, AV.cells, AV.boxable, AV.one, AV.strip1, fillA, fillS, Nat.reduceEqDiff, reduceCtorEq, ↓reduceIte, Nat.reduceAdd, Int.reduceNeg, Nat.reduceLeDiff, Int.reduceToNat, Int.reduceEq, Int.reduceLT, Int.reduceLE, Int.reduceAdd]
    refine goK_pure (sameBatchesR _ _ (by simp only [Big]; omega) fun x hx => by have := (plan_sizes _ (clamp_pos n).1 l x hx).2; have := (clamp_pos n).2; simp only [Big]; omega) ?_
    simp (disch := first | omega | assumption) only [steps, st2, pev, rev, oev, optr, ibin, sbin, ishf, bound, mmAll, mm2, mk, mkArgs, AV.cells, AV.boxable, AV.one, AV.strip1, fillA, fillS, Nat.reduceEqDiff, reduceCtorEq, ↓reduceIte, Nat.reduceAdd, Int.reduceNeg, Nat.reduceLeDiff, Int.reduceToNat, Int.reduceEq, Int.reduceLT, Int.reduceLE, Int.reduceAdd]
    refine goK_pure (Pure.low (sameNeedsR l l (by simp only [Big]; omega))) ?_
    simp (disch := first | omega | assumption) only [steps, st2, pev, rev, oev, optr, ibin, sbin, ishf, bound, mmAll, mm2, mk, mkArgs, AV.cells, AV.boxable, AV.one, AV.strip1, fillA, fillS, Nat.reduceEqDiff, reduceCtorEq, ↓reduceIte, Nat.reduceAdd, Int.reduceNeg, Nat.reduceLeDiff, Int.reduceToNat, Int.reduceEq, Int.reduceLT, Int.reduceLE, Int.reduceAdd]
    refine goK_pure awakeB ?_
    simp (disch := first | omega | assumption) only [steps, st2, pev, rev, oev, optr, ibin, sbin, ishf, bound, mmAll, mm2, mk, mkArgs, AV.cells, AV.boxable, AV.one, AV.strip1, fillA, fillS, Nat.reduceEqDiff, reduceCtorEq, ↓reduceIte, Nat.reduceAdd, Int.reduceNeg, Nat.reduceLeDiff, Int.reduceToNat, Int.reduceEq, Int.reduceLT, Int.reduceLE, Int.reduceAdd]
    exact hQ _ _ _ _ nofun rfl (by simp [tupOf, envOf, AV.strip, AV.strip1])
  · have h : lightB l = false := by simpa using h
    simp (disch := first | omega | assumption) only [h, steps, st2, pev, rev, oev, optr, ibin, sbin, ishf, bound, mmAll, mm2, mk, mkArgs, AV.cells, AV.boxable, AV.one, AV.strip1, fillA, fillS, Nat.reduceEqDiff, reduceCtorEq, ↓reduceIte, Nat.reduceAdd, Int.reduceNeg, Nat.reduceLeDiff, Int.reduceToNat, Int.reduceEq, Int.reduceLT, Int.reduceLE, Int.reduceAdd]
    refine goK_pure awakeB ?_
    simp (disch := first | omega | assumption) only [steps, st2, pev, rev, oev, optr, ibin, sbin, ishf, bound, mmAll, mm2, mk, mkArgs, AV.cells, AV.boxable, AV.one, AV.strip1, fillA, fillS, Nat.reduceEqDiff, reduceCtorEq, ↓reduceIte, Nat.reduceAdd, Int.reduceNeg, Nat.reduceLeDiff, Int.reduceToNat, Int.reduceEq, Int.reduceLT, Int.reduceLE, Int.reduceAdd]
    exact hQ _ _ _ _ nofun rfl (by simp [tupOf, envOf, AV.strip, AV.strip1])

/-- BatchOnce is true. -/
theorem once1 (n : Int) (l : List Need) (hl : l.length ≤ maxLen) : Pure Try.prog 4 [.int .i64 n, .sl .no 2 (cNs l)] (.bool true) := by
  refine Pure.go ir4 ck4 (Nat.le_refl _) fun KP Q hQ => ?_
  have hll := cNs_len l
  simp (disch := first | omega | assumption) only [ir4, steps, st2, pev, rev, oev, optr, ibin, sbin, ishf, bound, mmAll, mm2, mk, mkArgs, AV.cells, AV.boxable, AV.one, AV.strip1, fillA, fillS, Nat.reduceEqDiff, reduceCtorEq, ↓reduceIte, Nat.reduceAdd, Int.reduceNeg, Nat.reduceLeDiff, Int.reduceToNat, Int.reduceEq, Int.reduceLT, Int.reduceLE, Int.reduceAdd]
  refine goK_pure (lightR l hl) ?_
  by_cases h : lightB l = true
  · have hl3 := light_len h
    have hcl := clamp_pos n
    obtain ⟨p, hp⟩ : ∃ p, planP (clampS n) l = p := ⟨_, rfl⟩
    have hp3 := plan_len n hl3
    have hsz := plan_sizes _ hcl.1 l
    have hmem := needs_mem _ hcl.1 l
    have hnd := needs_nodup _ hcl.1 l
    rw [hp] at hp3 hsz hmem hnd
    have hpl := cBs_len p
    simp (disch := first | omega | assumption) only [h, steps, st2, pev, rev, oev, optr, ibin, sbin, ishf, bound, mmAll, mm2, mk, mkArgs, AV.cells, AV.boxable, AV.one, AV.strip1, fillA, fillS, Nat.reduceEqDiff, reduceCtorEq, ↓reduceIte, Nat.reduceAdd, Int.reduceNeg, Nat.reduceLeDiff, Int.reduceToNat, Int.reduceEq, Int.reduceLT, Int.reduceLE, Int.reduceAdd]
    refine goK_pure (planA n l (by omega)) ?_
    rw [hp]
    have hall : (needsOf p).length ≤ 300 * 1 + 90000 * 64 := by
      have := flatMap_len (fun b : Batch => b.keys.map fun k => (⟨b.table, k⟩ : Need)) 64 p fun b hb => by rw [List.length_map]; have := (hsz b hb).2; omega
      simp only [needsOf]; omega
    simp (disch := first | omega | assumption) only [mmS, hpl, steps, st2, pev, rev, oev, optr, ibin, sbin, ishf, bound, mmAll, mk, mkArgs, AV.cells, AV.boxable, AV.one, AV.strip1, fillA, fillS, Nat.reduceEqDiff, reduceCtorEq, ↓reduceIte, Nat.reduceAdd, Int.reduceNeg, Nat.reduceLeDiff, Int.reduceToNat, Int.reduceEq, Int.reduceLT, Int.reduceLE, Int.reduceAdd]
    refine goL_range p 8 (fun s : Own × List Need => [(7, .sl s.1 2 (cNs s.2))]) (fun done rest s H => s.2 = needsOf done ∧ Owned H s.1 s.2.length 2) (.nil, []) (by simp (disch := first | omega | assumption) only [steps, st2, pev, rev, oev, optr, ibin, sbin, ishf, bound, mmAll, mm2, mk, mkArgs, AV.cells, AV.boxable, AV.one, AV.strip1, fillA, fillS, Nat.reduceEqDiff, reduceCtorEq, ↓reduceIte, Nat.reduceAdd, Int.reduceNeg, Nat.reduceLeDiff, Int.reduceToNat, Int.reduceEq, Int.reduceLT, Int.reduceLE, Int.reduceAdd] <;> simp [cNs]) ⟨rfl, rfl⟩ ?_ ?_
    · rintro ⟨o1, all⟩ H J ⟨ha, how⟩ hlt
      simp only at ha
      subst ha
      simp (disch := first | omega | assumption) only [hpl, hlt, steps, st2, pev, rev, oev, optr, ibin, sbin, ishf, bound, mmAll, mm2, mk, mkArgs, AV.cells, AV.boxable, AV.one, AV.strip1, fillA, fillS, Nat.reduceEqDiff, reduceCtorEq, ↓reduceIte, Nat.reduceAdd, Int.reduceNeg, Nat.reduceLeDiff, Int.reduceToNat, Int.reduceEq, Int.reduceLT, Int.reduceLE, Int.reduceAdd]
      refine goL_range l 11 (fun _ : Unit => []) (fun done rest _ H => True) () (by simp (disch := first | omega | assumption) only [steps, st2, pev, rev, oev, optr, ibin, sbin, ishf, bound, mmAll, mm2, mk, mkArgs, AV.cells, AV.boxable, AV.one, AV.strip1, fillA, fillS, Nat.reduceEqDiff, reduceCtorEq, ↓reduceIte, Nat.reduceAdd, Int.reduceNeg, Nat.reduceLeDiff, Int.reduceToNat, Int.reduceEq, Int.reduceLT, Int.reduceLE, Int.reduceAdd]) trivial ?_ ?_
      · rintro ⟨⟩ H J _ hlt
        simp (disch := first | omega | assumption) only [hll, hlt, steps, st2, pev, rev, oev, optr, ibin, sbin, ishf, bound, mmAll, mm2, mk, mkArgs, AV.cells, AV.boxable, AV.one, AV.strip1, fillA, fillS, Nat.reduceEqDiff, reduceCtorEq, ↓reduceIte, Nat.reduceAdd, Int.reduceNeg, Nat.reduceLeDiff, Int.reduceToNat, Int.reduceEq, Int.reduceLT, Int.reduceLE, Int.reduceAdd]
        refine goK_pure awakeB ?_
        simp (disch := first | omega | assumption) only [steps, st2, pev, rev, oev, optr, ibin, sbin, ishf, bound, mmAll, mm2, mk, mkArgs, AV.cells, AV.boxable, AV.one, AV.strip1, fillA, fillS, Nat.reduceEqDiff, reduceCtorEq, ↓reduceIte, Nat.reduceAdd, Int.reduceNeg, Nat.reduceLeDiff, Int.reduceToNat, Int.reduceEq, Int.reduceLT, Int.reduceLE, Int.reduceAdd]
        exact hQ _ _ _ _ nofun rfl (by simp [tupOf, envOf, AV.strip, AV.strip1])
      · rintro done x rest ⟨⟩ H J hd hlt hlt' _ hJ
        have hg := cNs_get hd
        simp (disch := first | omega | assumption) only [hll, hlt, hg, cN_len, cN_take, steps, st2, pev, rev, oev, optr, ibin, sbin, ishf, bound, mmAll, mm2, mk, mkArgs, AV.cells, AV.boxable, AV.one, AV.strip1, fillA, fillS, Nat.reduceEqDiff, reduceCtorEq, ↓reduceIte, Nat.reduceAdd, Int.reduceNeg, Nat.reduceLeDiff, Int.reduceToNat, Int.reduceEq, Int.reduceLT, Int.reduceLE, Int.reduceAdd]
        refine goK_pure (Pure.low (hasNeedR (needsOf p) (by simp only [Big]; omega) x)) ?_
        have hx : x ∈ needsOf p := (hmem x).2 (by rw [hd]; simp)
        simp (disch := first | omega | assumption) only [hx, wrap64, steps, st2, pev, rev, oev, optr, ibin, sbin, ishf, bound, mmAll, mm2, mk, mkArgs, AV.cells, AV.boxable, AV.one, AV.strip1, fillA, fillS, Nat.reduceEqDiff, reduceCtorEq, ↓reduceIte, Nat.reduceAdd, Int.reduceNeg, Nat.reduceLeDiff, Int.reduceToNat, Int.reduceEq, Int.reduceLT, Int.reduceLE, Int.reduceAdd]
        exact goJ (hJ () _ trivial) (by simp (disch := first | omega | assumption) only [steps, st2, pev, rev, oev, optr, ibin, sbin, ishf, bound, mmAll, mm2, mk, mkArgs, AV.cells, AV.boxable, AV.one, AV.strip1, fillA, fillS, Nat.reduceEqDiff, reduceCtorEq, ↓reduceIte, Nat.reduceAdd, Int.reduceNeg, Nat.reduceLeDiff, Int.reduceToNat, Int.reduceEq, Int.reduceLT, Int.reduceLE, Int.reduceAdd])
    · rintro done b rest ⟨o1, all⟩ H J hd hlt hlt' ⟨ha, how⟩ hJ
      have hg := cBs_get hd
      simp only at ha how
      obtain ⟨h1, h2⟩ := hsz b (by rw [hd]; simp)
      obtain ⟨bt, bk⟩ := b
      simp only at h1 h2
      have hkl := cT_len bk
      have e1 : ¬ ((bk.length : Int) < 1) := by omega
      have e2 : ¬ ((clampS n : Int) < bk.length) := by omega
      simp (disch := first | omega | assumption) only [hpl, hlt, hg, cB, hkl, e1, e2, mmS, steps, st2, pev, rev, oev, optr, ibin, sbin, ishf, bound, mmAll, mk, mkArgs, AV.cells, AV.boxable, AV.one, AV.strip1, fillA, fillS, Nat.reduceEqDiff, reduceCtorEq, ↓reduceIte, Nat.reduceAdd, Int.reduceNeg, Nat.reduceLeDiff, Int.reduceToNat, Int.reduceEq, Int.reduceLT, Int.reduceLE, Int.reduceAdd]
      refine goL_range bk 9 (fun s : Own × List Need => [(7, .sl s.1 2 (cNs s.2))]) (fun dn rs s H => s.2 = needsOf done ++ dn.map (fun k => (⟨bt, k⟩ : Need)) ∧ Owned H s.1 s.2.length 2) (o1, all) (by simp (disch := first | omega | assumption) only [steps, st2, pev, rev, oev, optr, ibin, sbin, ishf, bound, mmAll, mm2, mk, mkArgs, AV.cells, AV.boxable, AV.one, AV.strip1, fillA, fillS, Nat.reduceEqDiff, reduceCtorEq, ↓reduceIte, Nat.reduceAdd, Int.reduceNeg, Nat.reduceLeDiff, Int.reduceToNat, Int.reduceEq, Int.reduceLT, Int.reduceLE, Int.reduceAdd]) ⟨by simp [ha], how⟩ ?_ ?_
      · rintro ⟨o2, all2⟩ H2 J2 ⟨ha2, how2⟩ hlt2
        simp (disch := first | omega | assumption) only [hpl, hlt, hg, cB, hkl, hlt2, wrap64, steps, st2, pev, rev, oev, optr, ibin, sbin, ishf, bound, mmAll, mm2, mk, mkArgs, AV.cells, AV.boxable, AV.one, AV.strip1, fillA, fillS, Nat.reduceEqDiff, reduceCtorEq, ↓reduceIte, Nat.reduceAdd, Int.reduceNeg, Nat.reduceLeDiff, Int.reduceToNat, Int.reduceEq, Int.reduceLT, Int.reduceLE, Int.reduceAdd]
        refine goJ (hJ (o2, all2) _ ⟨?_, how2⟩) (by simp (disch := first | omega | assumption) only [steps, st2, pev, rev, oev, optr, ibin, sbin, ishf, bound, mmAll, mm2, mk, mkArgs, AV.cells, AV.boxable, AV.one, AV.strip1, fillA, fillS, Nat.reduceEqDiff, reduceCtorEq, ↓reduceIte, Nat.reduceAdd, Int.reduceNeg, Nat.reduceLeDiff, Int.reduceToNat, Int.reduceEq, Int.reduceLT, Int.reduceLE, Int.reduceAdd])
        simp only at ha2
        rw [ha2]; simp [needsOf]
      · rintro dn k rs ⟨o2, all2⟩ H2 J2 hd2 hlt2 hlt2' ⟨ha2, how2⟩ hJ2
        have hg2 := cT_get hd2
        simp only at ha2 how2
        have e : needsOf p = all2 ++ (⟨bt, k⟩ : Need) :: (rs.map (fun k => (⟨bt, k⟩ : Need)) ++ needsOf rest) := by
          rw [ha2, hd, hd2]; simp [needsOf]
        have hnm : (⟨bt, k⟩ : Need) ∉ all2 := fun hm => by
          rw [e, List.nodup_append] at hnd
          exact hnd.2.2 _ hm _ (List.mem_cons_self ..) rfl
        have hlm : (⟨bt, k⟩ : Need) ∈ l := (hmem _).1 (by rw [e]; simp)
        have hal : all2.length ≤ 300 * 1 + 90000 * 64 := by rw [e] at hall; simp at hall; omega
        have hal2 := cNs_len all2
        simp (disch := first | omega | assumption) only [hpl, hlt, hg, cB, hkl, hlt2, hg2, steps, st2, pev, rev, oev, optr, ibin, sbin, ishf, bound, mmAll, mm2, mk, mkArgs, AV.cells, AV.boxable, AV.one, AV.strip1, fillA, fillS, Nat.reduceEqDiff, reduceCtorEq, ↓reduceIte, Nat.reduceAdd, Int.reduceNeg, Nat.reduceLeDiff, Int.reduceToNat, Int.reduceEq, Int.reduceLT, Int.reduceLE, Int.reduceAdd]
        refine goK_pure (needP bt k) ?_
        simp (disch := first | omega | assumption) only [steps, st2, pev, rev, oev, optr, ibin, sbin, ishf, bound, mmAll, mm2, mk, mkArgs, AV.cells, AV.boxable, AV.one, AV.strip1, fillA, fillS, Nat.reduceEqDiff, reduceCtorEq, ↓reduceIte, Nat.reduceAdd, Int.reduceNeg, Nat.reduceLeDiff, Int.reduceToNat, Int.reduceEq, Int.reduceLT, Int.reduceLE, Int.reduceAdd]
        refine goA_intro fun b1 hb1 => ?_
        simp (disch := first | omega | assumption) only [steps, st2, pev, rev, oev, optr, ibin, sbin, ishf, bound, mmAll, mm2, mk, mkArgs, AV.cells, AV.boxable, AV.one, AV.strip1, fillA, fillS, Nat.reduceEqDiff, reduceCtorEq, ↓reduceIte, Nat.reduceAdd, Int.reduceNeg, Nat.reduceLeDiff, Int.reduceToNat, Int.reduceEq, Int.reduceLT, Int.reduceLE, Int.reduceAdd]
        refine goK_pure (Pure.low (hasNeedR all2 (by simp only [Big]; omega) ⟨bt, k⟩)) ?_
        simp (disch := first | omega | assumption) only [hnm, steps, st2, pev, rev, oev, optr, ibin, sbin, ishf, bound, mmAll, mm2, mk, mkArgs, AV.cells, AV.boxable, AV.one, AV.strip1, fillA, fillS, Nat.reduceEqDiff, reduceCtorEq, ↓reduceIte, Nat.reduceAdd, Int.reduceNeg, Nat.reduceLeDiff, Int.reduceToNat, Int.reduceEq, Int.reduceLT, Int.reduceLE, Int.reduceAdd]
        refine goK_pure (hasNeedR l (by simp only [Big]; omega) ⟨bt, k⟩) ?_
        simp (disch := first | omega | assumption) only [hlm, steps, st2, pev, rev, oev, optr, ibin, sbin, ishf, bound, mmAll, mm2, mk, mkArgs, AV.cells, AV.boxable, AV.one, AV.strip1, fillA, fillS, Nat.reduceEqDiff, reduceCtorEq, ↓reduceIte, Nat.reduceAdd, Int.reduceNeg, Nat.reduceLeDiff, Int.reduceToNat, Int.reduceEq, Int.reduceLT, Int.reduceLE, Int.reduceAdd]
        refine goP_ownS (by rw [hal2]; exact Owned.upd how2 hb1) ?_ ?_ fun o' H' hos => ?_
        · simp only [hal2, List.length_cons, List.length_nil]; omega
        · simp only [hal2, List.length_cons, List.length_nil, maxLen]; omega
        simp only [hal2, List.length_cons, List.length_nil, Nat.zero_add] at hos
        have happ := cNs_app all2 ⟨bt, k⟩
        simp only at happ
        simp (disch := first | omega | assumption) only [wrap64, AV.strip1, happ, steps, st2, pev, rev, oev, optr, ibin, sbin, ishf, bound, mmAll, mm2, mk, mkArgs, AV.cells, AV.boxable, AV.one, AV.strip1, fillA, fillS, Nat.reduceEqDiff, reduceCtorEq, ↓reduceIte, Nat.reduceAdd, Int.reduceNeg, Nat.reduceLeDiff, Int.reduceToNat, Int.reduceEq, Int.reduceLT, Int.reduceLE, Int.reduceAdd]
        refine goJ (hJ2 (o', all2 ++ [⟨bt, k⟩]) _ ⟨by rw [ha2]; simp, by simpa using hos.own⟩) (by simp (disch := first | omega | assumption) only [steps, st2, pev, rev, oev, optr, ibin, sbin, ishf, bound, mmAll, mm2, mk, mkArgs, AV.cells, AV.boxable, AV.one, AV.strip1, fillA, fillS, Nat.reduceEqDiff, reduceCtorEq, ↓reduceIte, Nat.reduceAdd, Int.reduceNeg, Nat.reduceLeDiff, Int.reduceToNat, Int.reduceEq, Int.reduceLT, Int.reduceLE, Int.reduceAdd])
  · have h : lightB l = false := by simpa using h
    simp (disch := first | omega | assumption) only [h, steps, st2, pev, rev, oev, optr, ibin, sbin, ishf, bound, mmAll, mm2, mk, mkArgs, AV.cells, AV.boxable, AV.one, AV.strip1, fillA, fillS, Nat.reduceEqDiff, reduceCtorEq, ↓reduceIte, Nat.reduceAdd, Int.reduceNeg, Nat.reduceLeDiff, Int.reduceToNat, Int.reduceEq, Int.reduceLT, Int.reduceLE, Int.reduceAdd]
    refine goK_pure awakeB ?_
    simp (disch := first | omega | assumption) only [steps, st2, pev, rev, oev, optr, ibin, sbin, ishf, bound, mmAll, mm2, mk, mkArgs, AV.cells, AV.boxable, AV.one, AV.strip1, fillA, fillS, Nat.reduceEqDiff, reduceCtorEq, ↓reduceIte, Nat.reduceAdd, Int.reduceNeg, Nat.reduceLeDiff, Int.reduceToNat, Int.reduceEq, Int.reduceLT, Int.reduceLE, Int.reduceAdd]
    exact hQ _ _ _ _ nofun rfl (by simp [tupOf, envOf, AV.strip, AV.strip1])

theorem filter_snoc (t : List UInt8) (dn : List Need) (x : Need) : (dn ++ [x]).filter (fun n => decide (n.t = t)) = if x.t = t then dn.filter (fun n => decide (n.t = t)) ++ [x] else dn.filter (fun n => decide (n.t = t)) := by
  rw [List.filter_append, List.filter_cons, List.filter_nil]
  by_cases h : x.t = t <;> simp [h]

/-- BatchSplits is true. -/
theorem splits (n : Int) (l : List Need) (hl : l.length ≤ maxLen) : Pure Try.prog 6 [.int .i64 n, .sl .no 2 (cNs l)] (.bool true) := by
  refine Pure.go ir6 ck6 (Nat.le_refl _) fun KP Q hQ => ?_
  have hll := cNs_len l
  simp (disch := first | omega | assumption) only [ir6, steps, st2, pev, rev, oev, optr, ibin, sbin, ishf, bound, mmAll, mm2, mk, mkArgs, AV.cells, AV.boxable, AV.one, AV.strip1, fillA, fillS, Nat.reduceEqDiff, reduceCtorEq, ↓reduceIte, Nat.reduceAdd, Int.reduceNeg, Nat.reduceLeDiff, Int.reduceToNat, Int.reduceEq, Int.reduceLT, Int.reduceLE, Int.reduceAdd]
  refine goK_pure (lightR l hl) ?_
  by_cases h : lightB l = true
  · have hl3 := light_len h
    have hsp := plan_split (clampS n) l
    simp (disch := first | omega | assumption) only [h, steps, st2, pev, rev, oev, optr, ibin, sbin, ishf, bound, mmAll, mm2, mk, mkArgs, AV.cells, AV.boxable, AV.one, AV.strip1, fillA, fillS, Nat.reduceEqDiff, reduceCtorEq, ↓reduceIte, Nat.reduceAdd, Int.reduceNeg, Nat.reduceLeDiff, Int.reduceToNat, Int.reduceEq, Int.reduceLT, Int.reduceLE, Int.reduceAdd]
    refine goL_range l 7 (fun s : Own × List (List UInt8) × Own × List Batch => [(5, .sl s.1 1 (cT s.2.1)), (6, .sl s.2.2.1 2 (cBs s.2.2.2))])
      (fun done rest s H => s.2.1 = dd [] (done.map (·.t)) ∧ s.2.2.2 = (s.2.1.flatMap fun t => planP (clampS n) (l.filter fun m => decide (m.t = t))) ∧ Sep H [(s.1, s.2.1.length, 1), (s.2.2.1, s.2.2.2.length, 2)]) (.nil, [], .nil, []) (by simp (disch := first | omega | assumption) only [steps, st2, pev, rev, oev, optr, ibin, sbin, ishf, bound, mmAll, mm2, mk, mkArgs, AV.cells, AV.boxable, AV.one, AV.strip1, fillA, fillS, Nat.reduceEqDiff, reduceCtorEq, ↓reduceIte, Nat.reduceAdd, Int.reduceNeg, Nat.reduceLeDiff, Int.reduceToNat, Int.reduceEq, Int.reduceLT, Int.reduceLE, Int.reduceAdd] <;> simp [cT, cBs]) ⟨rfl, rfl, ⟨by simp [Owned], by simp [tipOf]⟩⟩ ?_ ?_
    · rintro ⟨o1, ts, o2, all⟩ H J ⟨hts, hall, _⟩ hlt
      simp only at hts hall
      rw [hts, hsp] at hall
      subst hall
      simp (disch := first | omega | assumption) only [hll, hlt, steps, st2, pev, rev, oev, optr, ibin, sbin, ishf, bound, mmAll, mm2, mk, mkArgs, AV.cells, AV.boxable, AV.one, AV.strip1, fillA, fillS, Nat.reduceEqDiff, reduceCtorEq, ↓reduceIte, Nat.reduceAdd, Int.reduceNeg, Nat.reduceLeDiff, Int.reduceToNat, Int.reduceEq, Int.reduceLT, Int.reduceLE, Int.reduceAdd]
      refine goK_pure (planA n l (by omega)) ?_
      simp (disch := first | omega | assumption) only [steps, st2, pev, rev, oev, optr, ibin, sbin, ishf, bound, mmAll, mm2, mk, mkArgs, AV.cells, AV.boxable, AV.one, AV.strip1, fillA, fillS, Nat.reduceEqDiff, reduceCtorEq, ↓reduceIte, Nat.reduceAdd, Int.reduceNeg, Nat.reduceLeDiff, Int.reduceToNat, Int.reduceEq, Int.reduceLT, Int.reduceLE, Int.reduceAdd]
      have hp3 := plan_len n hl3
      refine goK_pure (Pure.low (sameBatchesR _ _ (by simp only [Big]; omega) fun x hx => by have := (plan_sizes _ (clamp_pos n).1 l x hx).2; have := (clamp_pos n).2; simp only [Big]; omega)) ?_
      simp (disch := first | omega | assumption) only [steps, st2, pev, rev, oev, optr, ibin, sbin, ishf, bound, mmAll, mm2, mk, mkArgs, AV.cells, AV.boxable, AV.one, AV.strip1, fillA, fillS, Nat.reduceEqDiff, reduceCtorEq, ↓reduceIte, Nat.reduceAdd, Int.reduceNeg, Nat.reduceLeDiff, Int.reduceToNat, Int.reduceEq, Int.reduceLT, Int.reduceLE, Int.reduceAdd]
      refine goK_pure awakeB ?_
      simp (disch := first | omega | assumption) only [steps, st2, pev, rev, oev, optr, ibin, sbin, ishf, bound, mmAll, mm2, mk, mkArgs, AV.cells, AV.boxable, AV.one, AV.strip1, fillA, fillS, Nat.reduceEqDiff, reduceCtorEq, ↓reduceIte, Nat.reduceAdd, Int.reduceNeg, Nat.reduceLeDiff, Int.reduceToNat, Int.reduceEq, Int.reduceLT, Int.reduceLE, Int.reduceAdd]
      exact hQ _ _ _ _ nofun rfl (by simp [tupOf, envOf, AV.strip, AV.strip1])
    · rintro done x rest ⟨o1, ts, o2, all⟩ H J hd hlt hlt' ⟨hts, hall, hsep⟩ hJ
      have hg := cNs_get hd
      simp only at hts hall hsep
      have htl := cT_len ts
      have htl2 := tabs_len done
      rw [← hts] at htl2
      have hts2 : (x.t ∈ ts → dd [] ((done ++ [x]).map (·.t)) = ts) ∧ (x.t ∉ ts → dd [] ((done ++ [x]).map (·.t)) = ts ++ [x.t]) := by
        rw [List.map_append, List.map_cons, List.map_nil, dd_app, ← hts]
        exact ⟨fun h => if_pos h, fun h => if_neg h⟩
      simp (disch := first | omega | assumption) only [hll, hlt, hg, cN, steps, st2, pev, rev, oev, optr, ibin, sbin, ishf, bound, mmAll, mm2, mk, mkArgs, AV.cells, AV.boxable, AV.one, AV.strip1, fillA, fillS, Nat.reduceEqDiff, reduceCtorEq, ↓reduceIte, Nat.reduceAdd, Int.reduceNeg, Nat.reduceLeDiff, Int.reduceToNat, Int.reduceEq, Int.reduceLT, Int.reduceLE, Int.reduceAdd]
      refine goK_pure (Pure.low (hasR ts (by simp only [Big]; omega) x.t)) ?_
      by_cases hx : x.t ∈ ts
      · simp (disch := first | omega | assumption) only [hx, wrap64, steps, st2, pev, rev, oev, optr, ibin, sbin, ishf, bound, mmAll, mm2, mk, mkArgs, AV.cells, AV.boxable, AV.one, AV.strip1, fillA, fillS, Nat.reduceEqDiff, reduceCtorEq, ↓reduceIte, Nat.reduceAdd, Int.reduceNeg, Nat.reduceLeDiff, Int.reduceToNat, Int.reduceEq, Int.reduceLT, Int.reduceLE, Int.reduceAdd]
        exact goJ (hJ (o1, ts, o2, all) _ ⟨(hts2.1 hx).symm, hall, hsep⟩) (by simp (disch := first | omega | assumption) only [steps, st2, pev, rev, oev, optr, ibin, sbin, ishf, bound, mmAll, mm2, mk, mkArgs, AV.cells, AV.boxable, AV.one, AV.strip1, fillA, fillS, Nat.reduceEqDiff, reduceCtorEq, ↓reduceIte, Nat.reduceAdd, Int.reduceNeg, Nat.reduceLeDiff, Int.reduceToNat, Int.reduceEq, Int.reduceLT, Int.reduceLE, Int.reduceAdd])
      · simp (disch := first | omega | assumption) only [hll, hlt, hg, cN, hx, steps, st2, pev, rev, oev, optr, ibin, sbin, ishf, bound, mmAll, mm2, mk, mkArgs, AV.cells, AV.boxable, AV.one, AV.strip1, fillA, fillS, Nat.reduceEqDiff, reduceCtorEq, ↓reduceIte, Nat.reduceAdd, Int.reduceNeg, Nat.reduceLeDiff, Int.reduceToNat, Int.reduceEq, Int.reduceLT, Int.reduceLE, Int.reduceAdd]
        have how := hsep.own _ (List.mem_cons_self ..)
        simp only at how
        refine goP_ownS (by rw [htl]; exact how) ?_ ?_ fun o3 H3 hos => ?_
        · simp only [htl, List.length_cons, List.length_nil]; omega
        · simp only [htl, List.length_cons, List.length_nil, maxLen]; omega
        simp only [htl, List.length_cons, List.length_nil, Nat.zero_add] at hos
        have hsep3 : Sep H3 ([(o3, ts.length + 1, 1)] ++ (o2, all.length, 2) :: []) := Sep.step (a := []) hsep hos
        have hab : all.length ≤ ts.length * 90000 := by
          rw [hall]
          exact flatMap_len _ _ _ fun t _ => plan_len n (Nat.le_trans (List.length_filter_le _ _) hl3)
        simp (disch := first | omega | assumption) only [AV.strip1, cT_app, steps, st2, pev, rev, oev, optr, ibin, sbin, ishf, bound, mmAll, mm2, mk, mkArgs, AV.cells, AV.boxable, AV.one, AV.strip1, fillA, fillS, Nat.reduceEqDiff, reduceCtorEq, ↓reduceIte, Nat.reduceAdd, Int.reduceNeg, Nat.reduceLeDiff, Int.reduceToNat, Int.reduceEq, Int.reduceLT, Int.reduceLE, Int.reduceAdd]
        refine goL_range l 9 (fun s : Own × List Need => [(8, .sl s.1 2 (cNs s.2))]) (fun dn rs s H' => s.2 = dn.filter (fun m => decide (m.t = x.t)) ∧ Sep H' [(o3, ts.length + 1, 1), (o2, all.length, 2), (s.1, s.2.length, 2)]) (.nil, []) (by simp (disch := first | omega | assumption) only [steps, st2, pev, rev, oev, optr, ibin, sbin, ishf, bound, mmAll, mm2, mk, mkArgs, AV.cells, AV.boxable, AV.one, AV.strip1, fillA, fillS, Nat.reduceEqDiff, reduceCtorEq, ↓reduceIte, Nat.reduceAdd, Int.reduceNeg, Nat.reduceLeDiff, Int.reduceToNat, Int.reduceEq, Int.reduceLT, Int.reduceLE, Int.reduceAdd] <;> simp [cNs]) ⟨rfl, ?_⟩ ?_ ?_
        · refine ⟨fun y hy => ?_, ?_⟩
          · simp only [List.mem_cons, List.not_mem_nil, or_false] at hy
            rcases hy with rfl | rfl | rfl
            · exact hsep3.own _ (by simp)
            · exact hsep3.own _ (by simp)
            · rfl
          · have := hsep3.nd
            simp only [List.cons_append, List.nil_append, List.filterMap_cons, List.filterMap_nil, tipOf] at this ⊢
            exact this
        · rintro ⟨o4, own⟩ H4 J4 ⟨hown, hsep4⟩ hlt4
          simp only at hown hsep4
          subst hown
          have hfl : (l.filter fun m => decide (m.t = x.t)).length ≤ 300 := Nat.le_trans (List.length_filter_le _ _) hl3
          have hpl := plan_len n hfl
          have hpb := cBs_len (planP (clampS n) (l.filter fun m => decide (m.t = x.t)))
          have hal := cBs_len all
          simp (disch := first | omega | assumption) only [hll, hlt4, steps, st2, pev, rev, oev, optr, ibin, sbin, ishf, bound, mmAll, mm2, mk, mkArgs, AV.cells, AV.boxable, AV.one, AV.strip1, fillA, fillS, Nat.reduceEqDiff, reduceCtorEq, ↓reduceIte, Nat.reduceAdd, Int.reduceNeg, Nat.reduceLeDiff, Int.reduceToNat, Int.reduceEq, Int.reduceLT, Int.reduceLE, Int.reduceAdd]
          refine goK_pure (Pure.low (planA n _ (by omega))) ?_
          simp (disch := first | omega | assumption) only [steps, st2, pev, rev, oev, optr, ibin, sbin, ishf, bound, mmAll, mm2, mk, mkArgs, AV.cells, AV.boxable, AV.one, AV.strip1, fillA, fillS, Nat.reduceEqDiff, reduceCtorEq, ↓reduceIte, Nat.reduceAdd, Int.reduceNeg, Nat.reduceLeDiff, Int.reduceToNat, Int.reduceEq, Int.reduceLT, Int.reduceLE, Int.reduceAdd]
          have ho2 := hsep4.own (o2, all.length, 2) (by simp)
          simp only at ho2
          refine goP_ownS (by rw [hal]; exact ho2) ?_ ?_ fun o5 H5 hos5 => ?_
          · simp only [hal, hpb]; omega
          · simp only [hal, hpb, maxLen]; omega
          simp only [hal, hpb] at hos5
          have hs5 := Sep.step (a := [(o3, ts.length + 1, 1)]) hsep4 hos5
          simp (disch := first | omega | assumption) only [wrap64, cBs_strip, steps, st2, pev, rev, oev, optr, ibin, sbin, ishf, bound, mmAll, mm2, mk, mkArgs, AV.cells, AV.boxable, AV.one, AV.strip1, fillA, fillS, Nat.reduceEqDiff, reduceCtorEq, ↓reduceIte, Nat.reduceAdd, Int.reduceNeg, Nat.reduceLeDiff, Int.reduceToNat, Int.reduceEq, Int.reduceLT, Int.reduceLE, Int.reduceAdd]
          refine goJ (hJ (o3, ts ++ [x.t], o5, all ++ planP (clampS n) (l.filter fun m => decide (m.t = x.t))) _ ⟨(hts2.2 hx).symm, ?_, ?_⟩) (by simp [cBs] <;> simp (disch := first | omega | assumption) only [steps, st2, pev, rev, oev, optr, ibin, sbin, ishf, bound, mmAll, mm2, mk, mkArgs, AV.cells, AV.boxable, AV.one, AV.strip1, fillA, fillS, Nat.reduceEqDiff, reduceCtorEq, ↓reduceIte, Nat.reduceAdd, Int.reduceNeg, Nat.reduceLeDiff, Int.reduceToNat, Int.reduceEq, Int.reduceLT, Int.reduceLE, Int.reduceAdd])
          · rw [hall]; simp
          · refine ⟨fun y hy => ?_, ?_⟩
            · simp only [List.mem_cons, List.not_mem_nil, or_false] at hy
              rcases hy with rfl | rfl
              · have := hs5.own (o3, ts.length + 1, 1) (by simp)
                simpa using this
              · have := hs5.own (o5, all.length + (planP (clampS n) (l.filter fun m => decide (m.t = x.t))).length, 2) (by simp)
                simpa using this
            · have := hs5.nd
              simp only [List.cons_append, List.nil_append, List.filterMap_cons, List.filterMap_nil] at this ⊢
              cases h3 : tipOf o3 <;> cases h5 : tipOf o5 <;> simp_all
              all_goals (cases h4 : tipOf o4 <;> simp_all)
        · rintro dn y rs ⟨o4, own⟩ H4 J4 hd4 hlt4 hlt4' ⟨hown, hsep4⟩ hJ4
          have hg4 := cNs_get hd4
          have hfs := filter_snoc x.t dn y
          simp only at hown hsep4
          have hol := cNs_len own
          have hob : own.length ≤ 300 := by rw [hown]; have := List.length_filter_le (fun m : Need => decide (m.t = x.t)) dn; omega
          by_cases hy : y.t = x.t
          · rw [if_pos hy] at hfs
            simp (disch := first | omega | assumption) only [hll, hlt4, hg4, hlt, hg, cN, hy, steps, st2, pev, rev, oev, optr, ibin, sbin, ishf, bound, mmAll, mm2, mk, mkArgs, AV.cells, AV.boxable, AV.one, AV.strip1, fillA, fillS, Nat.reduceEqDiff, reduceCtorEq, ↓reduceIte, Nat.reduceAdd, Int.reduceNeg, Nat.reduceLeDiff, Int.reduceToNat, Int.reduceEq, Int.reduceLT, Int.reduceLE, Int.reduceAdd]
            have ho4 := hsep4.own (o4, own.length, 2) (by simp)
            simp only at ho4
            refine goP_ownS (by rw [hol]; exact ho4) ?_ ?_ fun o5 H5 hos5 => ?_
            · simp only [hol, List.length_cons, List.length_nil]; omega
            · simp only [hol, List.length_cons, List.length_nil, maxLen]; omega
            simp only [hol, List.length_cons, List.length_nil, Nat.zero_add] at hos5
            have hs5 := Sep.step (a := [(o3, ts.length + 1, 1), (o2, all.length, 2)]) (b := []) hsep4 hos5
            have happ := cNs_app own y
            rw [hy] at happ
            simp (disch := first | omega | assumption) only [wrap64, AV.strip1, happ, steps, st2, pev, rev, oev, optr, ibin, sbin, ishf, bound, mmAll, mm2, mk, mkArgs, AV.cells, AV.boxable, AV.one, AV.strip1, fillA, fillS, Nat.reduceEqDiff, reduceCtorEq, ↓reduceIte, Nat.reduceAdd, Int.reduceNeg, Nat.reduceLeDiff, Int.reduceToNat, Int.reduceEq, Int.reduceLT, Int.reduceLE, Int.reduceAdd]
            exact goJ (hJ4 (o5, own ++ [y]) _ ⟨by rw [hfs, hown], by simpa using hs5⟩) (by simp (disch := first | omega | assumption) only [steps, st2, pev, rev, oev, optr, ibin, sbin, ishf, bound, mmAll, mm2, mk, mkArgs, AV.cells, AV.boxable, AV.one, AV.strip1, fillA, fillS, Nat.reduceEqDiff, reduceCtorEq, ↓reduceIte, Nat.reduceAdd, Int.reduceNeg, Nat.reduceLeDiff, Int.reduceToNat, Int.reduceEq, Int.reduceLT, Int.reduceLE, Int.reduceAdd])
          · rw [if_neg hy] at hfs
            simp (disch := first | omega | assumption) only [hll, hlt4, hg4, hlt, hg, cN, hy, wrap64, steps, st2, pev, rev, oev, optr, ibin, sbin, ishf, bound, mmAll, mm2, mk, mkArgs, AV.cells, AV.boxable, AV.one, AV.strip1, fillA, fillS, Nat.reduceEqDiff, reduceCtorEq, ↓reduceIte, Nat.reduceAdd, Int.reduceNeg, Nat.reduceLeDiff, Int.reduceToNat, Int.reduceEq, Int.reduceLT, Int.reduceLE, Int.reduceAdd]
            exact goJ (hJ4 (o4, own) _ ⟨by rw [hfs, hown], hsep4⟩) (by simp (disch := first | omega | assumption) only [steps, st2, pev, rev, oev, optr, ibin, sbin, ishf, bound, mmAll, mm2, mk, mkArgs, AV.cells, AV.boxable, AV.one, AV.strip1, fillA, fillS, Nat.reduceEqDiff, reduceCtorEq, ↓reduceIte, Nat.reduceAdd, Int.reduceNeg, Nat.reduceLeDiff, Int.reduceToNat, Int.reduceEq, Int.reduceLT, Int.reduceLE, Int.reduceAdd])
  · have h : lightB l = false := by simpa using h
    simp (disch := first | omega | assumption) only [h, steps, st2, pev, rev, oev, optr, ibin, sbin, ishf, bound, mmAll, mm2, mk, mkArgs, AV.cells, AV.boxable, AV.one, AV.strip1, fillA, fillS, Nat.reduceEqDiff, reduceCtorEq, ↓reduceIte, Nat.reduceAdd, Int.reduceNeg, Nat.reduceLeDiff, Int.reduceToNat, Int.reduceEq, Int.reduceLT, Int.reduceLE, Int.reduceAdd]
    refine goK_pure awakeB ?_
    simp (disch := first | omega | assumption) only [steps, st2, pev, rev, oev, optr, ibin, sbin, ishf, bound, mmAll, mm2, mk, mkArgs, AV.cells, AV.boxable, AV.one, AV.strip1, fillA, fillS, Nat.reduceEqDiff, reduceCtorEq, ↓reduceIte, Nat.reduceAdd, Int.reduceNeg, Nat.reduceLeDiff, Int.reduceToNat, Int.reduceEq, Int.reduceLT, Int.reduceLE, Int.reduceAdd]
    exact hQ _ _ _ _ nofun rfl (by simp [tupOf, envOf, AV.strip, AV.strip1])
end Go.Proofs.Ythkpgjnibolnhaa
