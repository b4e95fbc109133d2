/- Batches: BatchCounts. -/
import Derived.Test.YthkpgjnibolnhaaBatM
set_option maxRecDepth 100000
set_option linter.unusedSimpArgs false
set_option linter.unusedVariables false
namespace Go.Proofs.Ythkpgjnibolnhaa
open Go.Ab

theorem want_le (s : Nat) (hs : 0 < s) (hs2 : s ≤ 64) (l : List Need) (hl : l.length ≤ 300) : ∀ ts : List (List UInt8), wantN s l ts ≤ ts.length * 400
  | [] => by simp [wantN]
  | t :: r => by
    have := want_le s hs hs2 l hl r
    have h1 : ((keysOf t (dd [] l)).length + s - 1) / s ≤ 400 := by
      have h2 := keysOf_len t (dd [] l)
      have h3 := dd_len l []
      simp at h3
      exact Nat.le_trans (Nat.div_le_self _ _) (by omega)
    simp only [wantN, List.map_cons, List.sum_cons, List.length_cons, Nat.succ_mul] at this ⊢
    omega
theorem want_app (s : Nat) (l : List Need) (ts : List (List UInt8)) (t : List UInt8) : wantN s l (ts ++ [t]) = wantN s l ts + ((keysOf t (dd [] l)).length + s - 1) / s := by
  simp [wantN]

/-- BatchCounts is true. -/
theorem counts (n : Int) (l : List Need) (hl : l.length ≤ maxLen) : Pure Try.prog 5 [.int .i64 n, .sl .no 2 (cNs l)] (.bool true) := by
  refine Pure.go ir5 ck5 (Nat.le_refl _) fun KP Q hQ => ?_
  have hll := cNs_len l
  simp (disch := first | omega | assumption) only [ir5, steps, st2, pev, rev, oev, optr, ibin, sbin, ishf, bound, mmAll, mm2, mk, mkArgs, AV.cells, AV.boxable, AV.one, AV.strip1, fillA, fillS, Nat.reduceEqDiff, reduceCtorEq, ↓reduceIte, Nat.reduceAdd, Int.reduceNeg, Nat.reduceLeDiff, Int.reduceToNat, Int.reduceEq, Int.reduceLT, Int.reduceLE, Int.reduceAdd]
  refine goK_pure (lightR l hl) ?_
  by_cases h : lightB l = true
  · have hl3 := light_len h
    have hcl := clamp_pos n
    have hwl := want_le _ hcl.1 hcl.2 l hl3
    have hpc := plan_count (clampS n) l
    have hpr := plan_runs _ hcl.1 l
    simp (disch := first | omega | assumption) only [h, mmS, steps, st2, pev, rev, oev, optr, ibin, sbin, ishf, bound, mmAll, mk, mkArgs, AV.cells, AV.boxable, AV.one, AV.strip1, fillA, fillS, Nat.reduceEqDiff, reduceCtorEq, ↓reduceIte, Nat.reduceAdd, Int.reduceNeg, Nat.reduceLeDiff, Int.reduceToNat, Int.reduceEq, Int.reduceLT, Int.reduceLE, Int.reduceAdd]
    refine goL_range l 8 (fun s : Own × List (List UInt8) => [(6, .int .i64 (wantN (clampS n) l s.2)), (7, .sl s.1 1 (cT s.2))])
      (fun done rest s H => s.2 = dd [] (done.map (·.t)) ∧ Owned H s.1 s.2.length 1) (.nil, []) (by simp (disch := first | omega | assumption) only [steps, st2, pev, rev, oev, optr, ibin, sbin, ishf, bound, mmAll, mm2, mk, mkArgs, AV.cells, AV.boxable, AV.one, AV.strip1, fillA, fillS, Nat.reduceEqDiff, reduceCtorEq, ↓reduceIte, Nat.reduceAdd, Int.reduceNeg, Nat.reduceLeDiff, Int.reduceToNat, Int.reduceEq, Int.reduceLT, Int.reduceLE, Int.reduceAdd] <;> simp [cT, wantN]) ⟨rfl, rfl⟩ ?_ ?_
    · rintro ⟨o1, ts⟩ H J ⟨hts, _⟩ hlt
      simp only at hts
      rw [← hts] at hpc hpr
      simp (disch := first | omega | assumption) only [hll, hlt, steps, st2, pev, rev, oev, optr, ibin, sbin, ishf, bound, mmAll, mm2, mk, mkArgs, AV.cells, AV.boxable, AV.one, AV.strip1, fillA, fillS, Nat.reduceEqDiff, reduceCtorEq, ↓reduceIte, Nat.reduceAdd, Int.reduceNeg, Nat.reduceLeDiff, Int.reduceToNat, Int.reduceEq, Int.reduceLT, Int.reduceLE, Int.reduceAdd]
      refine goK_pure (planA n l (by omega)) ?_
      have hp3 := plan_len n hl3
      obtain ⟨p, hp⟩ : ∃ p, planP (clampS n) l = p := ⟨_, rfl⟩
      rw [hp] at hpc hpr hp3
      rw [hp]
      have hpl := cBs_len p
      have htl := cT_len ts
      simp (disch := first | omega | assumption) only [steps, st2, pev, rev, oev, optr, ibin, sbin, ishf, bound, mmAll, mm2, mk, mkArgs, AV.cells, AV.boxable, AV.one, AV.strip1, fillA, fillS, Nat.reduceEqDiff, reduceCtorEq, ↓reduceIte, Nat.reduceAdd, Int.reduceNeg, Nat.reduceLeDiff, Int.reduceToNat, Int.reduceEq, Int.reduceLT, Int.reduceLE, Int.reduceAdd]
      refine goL_range p 14 (fun s : Nat × List UInt8 × Bool => [(12, .int .i64 s.1), (13, .str s.2.1)]) (fun done rest s H => (rest.map (·.table)).foldl rnS s = (p.map (·.table)).foldl rnS (0, [], true) ∧ s.2.2 = done.isEmpty ∧ s.1 ≤ done.length) (0, [], true) (by simp (disch := first | omega | assumption) only [steps, st2, pev, rev, oev, optr, ibin, sbin, ishf, bound, mmAll, mm2, mk, mkArgs, AV.cells, AV.boxable, AV.one, AV.strip1, fillA, fillS, Nat.reduceEqDiff, reduceCtorEq, ↓reduceIte, Nat.reduceAdd, Int.reduceNeg, Nat.reduceLeDiff, Int.reduceToNat, Int.reduceEq, Int.reduceLT, Int.reduceLE, Int.reduceAdd] <;> simp) ⟨rfl, rfl, by simp⟩ ?_ ?_
      · rintro ⟨c, was, f⟩ H J ⟨hf, _, _⟩ hlt
        simp only [List.map_nil, List.foldl_nil] at hf
        rw [← hf] at hpr
        simp only at hpr
        have e1 : (p.length : Int) = wantN (clampS n) l ts := by rw [hpc]
        have e2 : (c : Int) = ts.length := by rw [hpr]
        simp (disch := first | omega | assumption) only [hpl, hlt, steps, st2, pev, rev, oev, optr, ibin, sbin, ishf, bound, mmAll, mm2, mk, mkArgs, AV.cells, AV.boxable, AV.one, AV.strip1, fillA, fillS, Nat.reduceEqDiff, reduceCtorEq, ↓reduceIte, Nat.reduceAdd, Int.reduceNeg, Nat.reduceLeDiff, Int.reduceToNat, Int.reduceEq, Int.reduceLT, Int.reduceLE, Int.reduceAdd]
        rw [e1, e2]
        simp (disch := first | omega | assumption) only [htl, steps, st2, pev, rev, oev, optr, ibin, sbin, ishf, bound, mmAll, mm2, mk, mkArgs, AV.cells, AV.boxable, AV.one, AV.strip1, fillA, fillS, Nat.reduceEqDiff, reduceCtorEq, ↓reduceIte, Nat.reduceAdd, Int.reduceNeg, Nat.reduceLeDiff, Int.reduceToNat, Int.reduceEq, Int.reduceLT, Int.reduceLE, Int.reduceAdd]
        refine goK_pure awakeB ?_
        simp (disch := first | omega | assumption) only [steps, st2, pev, rev, oev, optr, ibin, sbin, ishf, bound, mmAll, mm2, mk, mkArgs, AV.cells, AV.boxable, AV.one, AV.strip1, fillA, fillS, Nat.reduceEqDiff, reduceCtorEq, ↓reduceIte, Nat.reduceAdd, Int.reduceNeg, Nat.reduceLeDiff, Int.reduceToNat, Int.reduceEq, Int.reduceLT, Int.reduceLE, Int.reduceAdd]
        exact hQ _ _ _ _ nofun rfl (by simp [tupOf, envOf, AV.strip, AV.strip1])
      · rintro done b rest ⟨c, was, f⟩ H J hd hlt hlt' ⟨hf, hemp, hc⟩ hJ
        have hg := cBs_get hd
        simp only at hemp hc
        simp only [List.map_cons, List.foldl_cons] at hf
        obtain ⟨bt, bk⟩ := b
        by_cases h0 : done = []
        · subst h0
          simp only [List.isEmpty_nil] at hemp
          subst hemp
          have hlt0 : (0 : Int) < p.length := by simpa using hlt
          simp only [List.length_nil] at hg
          simp (disch := first | omega | assumption) only [hpl, hlt0, hg, cB, wrap64, steps, st2, pev, rev, oev, optr, ibin, sbin, ishf, bound, mmAll, mm2, mk, mkArgs, AV.cells, AV.boxable, AV.one, AV.strip1, fillA, fillS, Nat.reduceEqDiff, reduceCtorEq, ↓reduceIte, Nat.reduceAdd, Int.reduceNeg, Nat.reduceLeDiff, Int.reduceToNat, Int.reduceEq, Int.reduceLT, Int.reduceLE, Int.reduceAdd]
          refine goJ (hJ (c + 1, bt, false) _ ⟨?_, by simp, by simpa using hc⟩) (by simp (disch := first | omega | assumption) only [Int.natCast_add, Int.natCast_one, steps, st2, pev, rev, oev, optr, ibin, sbin, ishf, bound, mmAll, mm2, mk, mkArgs, AV.cells, AV.boxable, AV.one, AV.strip1, fillA, fillS, Nat.reduceEqDiff, reduceCtorEq, ↓reduceIte, Nat.reduceAdd, Int.reduceNeg, Nat.reduceLeDiff, Int.reduceToNat, Int.reduceEq, Int.reduceLT, Int.reduceLE, Int.reduceAdd])
          rw [← hf]
          simp [rnS]
        · have hz : ¬ ((done.length : Int) = 0) := fun e => h0 (List.eq_nil_of_length_eq_zero (by omega))
          have hfalse : f = false := by rw [hemp]; cases done with | nil => exact absurd rfl h0 | cons _ _ => rfl
          subst hfalse
          by_cases hw : bt = was
          · simp (disch := first | omega | assumption) only [hpl, hlt, hg, cB, hz, hw, wrap64, steps, st2, pev, rev, oev, optr, ibin, sbin, ishf, bound, mmAll, mm2, mk, mkArgs, AV.cells, AV.boxable, AV.one, AV.strip1, fillA, fillS, Nat.reduceEqDiff, reduceCtorEq, ↓reduceIte, Nat.reduceAdd, Int.reduceNeg, Nat.reduceLeDiff, Int.reduceToNat, Int.reduceEq, Int.reduceLT, Int.reduceLE, Int.reduceAdd]
            refine goJ (hJ (c, bt, false) _ ⟨?_, by simp, by simp; omega⟩) (by simp (disch := first | omega | assumption) only [hw, steps, st2, pev, rev, oev, optr, ibin, sbin, ishf, bound, mmAll, mm2, mk, mkArgs, AV.cells, AV.boxable, AV.one, AV.strip1, fillA, fillS, Nat.reduceEqDiff, reduceCtorEq, ↓reduceIte, Nat.reduceAdd, Int.reduceNeg, Nat.reduceLeDiff, Int.reduceToNat, Int.reduceEq, Int.reduceLT, Int.reduceLE, Int.reduceAdd])
            rw [← hf]
            simp [rnS, hw]
          · simp (disch := first | omega | assumption) only [hpl, hlt, hg, cB, hz, hw, wrap64, steps, st2, pev, rev, oev, optr, ibin, sbin, ishf, bound, mmAll, mm2, mk, mkArgs, AV.cells, AV.boxable, AV.one, AV.strip1, fillA, fillS, Nat.reduceEqDiff, reduceCtorEq, ↓reduceIte, Nat.reduceAdd, Int.reduceNeg, Nat.reduceLeDiff, Int.reduceToNat, Int.reduceEq, Int.reduceLT, Int.reduceLE, Int.reduceAdd]
            refine goJ (hJ (c + 1, bt, false) _ ⟨?_, by simp, by simp; omega⟩) (by simp (disch := first | omega | assumption) only [Int.natCast_add, Int.natCast_one, steps, st2, pev, rev, oev, optr, ibin, sbin, ishf, bound, mmAll, mm2, mk, mkArgs, AV.cells, AV.boxable, AV.one, AV.strip1, fillA, fillS, Nat.reduceEqDiff, reduceCtorEq, ↓reduceIte, Nat.reduceAdd, Int.reduceNeg, Nat.reduceLeDiff, Int.reduceToNat, Int.reduceEq, Int.reduceLT, Int.reduceLE, Int.reduceAdd])
            rw [← hf]
            simp [rnS, hw]
    · rintro done x rest ⟨o1, ts⟩ H J hd hlt hlt' ⟨hts, how⟩ hJ
      have hg := cNs_get hd
      simp only at hts how
      have htl := cT_len ts
      have htl2 := tabs_len done
      rw [← hts] at htl2
      have hts2 : (x.t ∈ ts → dd [] ((done ++ [x]).map (·.t)) = ts) ∧ (x.t ∉ ts → dd [] ((done ++ [x]).map (·.t)) = ts ++ [x.t]) := by
        rw [List.map_append, List.map_cons, List.map_nil, dd_app, ← hts]
        exact ⟨fun h => if_pos h, fun h => if_neg h⟩
      simp (disch := first | omega | assumption) only [hll, hlt, hg, cN, steps, st2, pev, rev, oev, optr, ibin, sbin, ishf, bound, mmAll, mm2, mk, mkArgs, AV.cells, AV.boxable, AV.one, AV.strip1, fillA, fillS, Nat.reduceEqDiff, reduceCtorEq, ↓reduceIte, Nat.reduceAdd, Int.reduceNeg, Nat.reduceLeDiff, Int.reduceToNat, Int.reduceEq, Int.reduceLT, Int.reduceLE, Int.reduceAdd]
      refine goK_pure (Pure.low (hasR ts (by simp only [Big]; omega) x.t)) ?_
      by_cases hx : x.t ∈ ts
      · simp (disch := first | omega | assumption) only [hx, wrap64, steps, st2, pev, rev, oev, optr, ibin, sbin, ishf, bound, mmAll, mm2, mk, mkArgs, AV.cells, AV.boxable, AV.one, AV.strip1, fillA, fillS, Nat.reduceEqDiff, reduceCtorEq, ↓reduceIte, Nat.reduceAdd, Int.reduceNeg, Nat.reduceLeDiff, Int.reduceToNat, Int.reduceEq, Int.reduceLT, Int.reduceLE, Int.reduceAdd]
        exact goJ (hJ (o1, ts) _ ⟨(hts2.1 hx).symm, how⟩) (by simp (disch := first | omega | assumption) only [steps, st2, pev, rev, oev, optr, ibin, sbin, ishf, bound, mmAll, mm2, mk, mkArgs, AV.cells, AV.boxable, AV.one, AV.strip1, fillA, fillS, Nat.reduceEqDiff, reduceCtorEq, ↓reduceIte, Nat.reduceAdd, Int.reduceNeg, Nat.reduceLeDiff, Int.reduceToNat, Int.reduceEq, Int.reduceLT, Int.reduceLE, Int.reduceAdd])
      · simp (disch := first | omega | assumption) only [hll, hlt, hg, cN, hx, steps, st2, pev, rev, oev, optr, ibin, sbin, ishf, bound, mmAll, mm2, mk, mkArgs, AV.cells, AV.boxable, AV.one, AV.strip1, fillA, fillS, Nat.reduceEqDiff, reduceCtorEq, ↓reduceIte, Nat.reduceAdd, Int.reduceNeg, Nat.reduceLeDiff, Int.reduceToNat, Int.reduceEq, Int.reduceLT, Int.reduceLE, Int.reduceAdd]
        refine goP_ownS (by rw [htl]; exact how) ?_ ?_ fun o3 H3 hos => ?_
        · simp only [htl, List.length_cons, List.length_nil]; omega
        · simp only [htl, List.length_cons, List.length_nil, maxLen]; omega
        simp only [htl, List.length_cons, List.length_nil, Nat.zero_add] at hos
        simp (disch := first | omega | assumption) only [AV.strip1, cT_app, steps, st2, pev, rev, oev, optr, ibin, sbin, ishf, bound, mmAll, mm2, mk, mkArgs, AV.cells, AV.boxable, AV.one, AV.strip1, fillA, fillS, Nat.reduceEqDiff, reduceCtorEq, ↓reduceIte, Nat.reduceAdd, Int.reduceNeg, Nat.reduceLeDiff, Int.reduceToNat, Int.reduceEq, Int.reduceLT, Int.reduceLE, Int.reduceAdd]
        refine goL_range l 10 (fun s : Own × List (List UInt8) => [(9, .sl s.1 1 (cT s.2))]) (fun dn rs s H' => s.2 = dd [] ((dn.filter (fun m => decide (m.t = x.t))).map (·.k)) ∧ Sep H' [(o3, ts.length + 1, 1), (s.1, s.2.length, 1)]) (.nil, []) (by simp (disch := first | omega | assumption) only [steps, st2, pev, rev, oev, optr, ibin, sbin, ishf, bound, mmAll, mm2, mk, mkArgs, AV.cells, AV.boxable, AV.one, AV.strip1, fillA, fillS, Nat.reduceEqDiff, reduceCtorEq, ↓reduceIte, Nat.reduceAdd, Int.reduceNeg, Nat.reduceLeDiff, Int.reduceToNat, Int.reduceEq, Int.reduceLT, Int.reduceLE, Int.reduceAdd] <;> simp [cT]) ⟨rfl, ?_⟩ ?_ ?_
        · refine ⟨fun y hy => ?_, ?_⟩
          · simp only [List.mem_cons, List.not_mem_nil, or_false] at hy
            rcases hy with rfl | rfl
            · exact hos.own
            · rfl
          · cases o3 <;> simp [tipOf]
        · rintro ⟨o4, ks⟩ H4 J4 ⟨hks, hsep4⟩ hlt4
          simp only at hks hsep4
          rw [keys_dd] at hks
          have hkl := cT_len ks
          have hkb : ks.length ≤ 300 := by rw [hks]; have := keysOf_len x.t (dd [] l); have := dd_len l []; simp at this; omega
          have hwt := hwl ts
          have hwa := want_app (clampS n) l ts x.t
          rw [← hks] at hwa
          have hwt2 := hwl (ts ++ [x.t])
          simp only [List.length_append, List.length_cons, List.length_nil] at hwt2
          have hnz : ¬ ((clampS n : Int) = 0) := by omega
          have htd : (((ks.length : Int) + clampS n) - 1).tdiv (clampS n) = (((ks.length + clampS n - 1) / clampS n : Nat) : Int) := by
            rw [show ((ks.length : Int) + clampS n) - 1 = ((ks.length + clampS n - 1 : Nat) : Int) by omega]
            rfl
          have hdb : (ks.length + clampS n - 1) / clampS n ≤ 400 := Nat.le_trans (Nat.div_le_self _ _) (by omega)
          obtain ⟨dv, hdv⟩ : ∃ dv, (ks.length + clampS n - 1) / clampS n = dv := ⟨_, rfl⟩
          rw [hdv] at htd hdb hwa
          simp (disch := first | omega | assumption) only [hll, hlt4, hkl, wrap64, hnz, htd, steps, st2, pev, rev, oev, optr, ibin, sbin, ishf, bound, mmAll, mm2, mk, mkArgs, AV.cells, AV.boxable, AV.one, AV.strip1, fillA, fillS, Nat.reduceEqDiff, reduceCtorEq, ↓reduceIte, Nat.reduceAdd, Int.reduceNeg, Nat.reduceLeDiff, Int.reduceToNat, Int.reduceEq, Int.reduceLT, Int.reduceLE, Int.reduceAdd]
          refine goJ (hJ (o3, ts ++ [x.t]) _ ⟨(hts2.2 hx).symm, ?_⟩) (by simp [hwa] <;> simp (disch := first | omega | assumption) only [steps, st2, pev, rev, oev, optr, ibin, sbin, ishf, bound, mmAll, mm2, mk, mkArgs, AV.cells, AV.boxable, AV.one, AV.strip1, fillA, fillS, Nat.reduceEqDiff, reduceCtorEq, ↓reduceIte, Nat.reduceAdd, Int.reduceNeg, Nat.reduceLeDiff, Int.reduceToNat, Int.reduceEq, Int.reduceLT, Int.reduceLE, Int.reduceAdd])
          have := hsep4.own (o3, ts.length + 1, 1) (by simp)
          simpa using this
        · rintro dn y rs ⟨o4, ks⟩ H4 J4 hd4 hlt4 hlt4' ⟨hks, hsep4⟩ hJ4
          have hg4 := cNs_get hd4
          have hfs := filter_snoc x.t dn y
          simp only at hks hsep4
          have hkl := cT_len ks
          have hkb : ks.length ≤ 300 := by
            rw [hks]
            have h1 := dd_len ((dn.filter (fun m : Need => decide (m.t = x.t))).map (·.k)) []
            have h2 := List.length_filter_le (fun m : Need => decide (m.t = x.t)) dn
            simp at h1; omega
          by_cases hy : y.t = x.t
          · rw [if_pos hy] at hfs
            have hdm : (y.k ∈ ks → dd [] (((dn ++ [y]).filter (fun m => decide (m.t = x.t))).map (·.k)) = ks) ∧ (y.k ∉ ks → dd [] (((dn ++ [y]).filter (fun m => decide (m.t = x.t))).map (·.k)) = ks ++ [y.k]) := by
              rw [hfs, List.map_append, List.map_cons, List.map_nil, dd_app, ← hks]
              exact ⟨fun h => if_pos h, fun h => if_neg h⟩
            simp (disch := first | omega | assumption) only [hll, hlt4, hg4, hlt, hg, cN, hy, steps, st2, pev, rev, oev, optr, ibin, sbin, ishf, bound, mmAll, mm2, mk, mkArgs, AV.cells, AV.boxable, AV.one, AV.strip1, fillA, fillS, Nat.reduceEqDiff, reduceCtorEq, ↓reduceIte, Nat.reduceAdd, Int.reduceNeg, Nat.reduceLeDiff, Int.reduceToNat, Int.reduceEq, Int.reduceLT, Int.reduceLE, Int.reduceAdd]
            refine goK_pure (Pure.low (hasR ks (by simp only [Big]; omega) y.k)) ?_
            by_cases hyk : y.k ∈ ks
            · simp (disch := first | omega | assumption) only [hyk, wrap64, steps, st2, pev, rev, oev, optr, ibin, sbin, ishf, bound, mmAll, mm2, mk, mkArgs, AV.cells, AV.boxable, AV.one, AV.strip1, fillA, fillS, Nat.reduceEqDiff, reduceCtorEq, ↓reduceIte, Nat.reduceAdd, Int.reduceNeg, Nat.reduceLeDiff, Int.reduceToNat, Int.reduceEq, Int.reduceLT, Int.reduceLE, Int.reduceAdd]
              exact goJ (hJ4 (o4, ks) _ ⟨(hdm.1 hyk).symm, hsep4⟩) (by simp (disch := first | omega | assumption) only [steps, st2, pev, rev, oev, optr, ibin, sbin, ishf, bound, mmAll, mm2, mk, mkArgs, AV.cells, AV.boxable, AV.one, AV.strip1, fillA, fillS, Nat.reduceEqDiff, reduceCtorEq, ↓reduceIte, Nat.reduceAdd, Int.reduceNeg, Nat.reduceLeDiff, Int.reduceToNat, Int.reduceEq, Int.reduceLT, Int.reduceLE, Int.reduceAdd])
            · simp (disch := first | omega | assumption) only [hyk, hll, hlt4, hg4, cN, steps, st2, pev, rev, oev, optr, ibin, sbin, ishf, bound, mmAll, mm2, mk, mkArgs, AV.cells, AV.boxable, AV.one, AV.strip1, fillA, fillS, Nat.reduceEqDiff, reduceCtorEq, ↓reduceIte, Nat.reduceAdd, Int.reduceNeg, Nat.reduceLeDiff, Int.reduceToNat, Int.reduceEq, Int.reduceLT, Int.reduceLE, Int.reduceAdd]
              have ho4 := hsep4.own (o4, ks.length, 1) (by simp)
              simp only at ho4
              refine goP_ownS (by rw [hkl]; exact ho4) ?_ ?_ fun o5 H5 hos5 => ?_
              · simp only [hkl, List.length_cons, List.length_nil]; omega
              · simp only [hkl, List.length_cons, List.length_nil, maxLen]; omega
              simp only [hkl, List.length_cons, List.length_nil, Nat.zero_add] at hos5
              have hs5 := Sep.step (a := [(o3, ts.length + 1, 1)]) (b := []) hsep4 hos5
              simp (disch := first | omega | assumption) only [wrap64, AV.strip1, cT_app, steps, st2, pev, rev, oev, optr, ibin, sbin, ishf, bound, mmAll, mm2, mk, mkArgs, AV.cells, AV.boxable, AV.one, AV.strip1, fillA, fillS, Nat.reduceEqDiff, reduceCtorEq, ↓reduceIte, Nat.reduceAdd, Int.reduceNeg, Nat.reduceLeDiff, Int.reduceToNat, Int.reduceEq, Int.reduceLT, Int.reduceLE, Int.reduceAdd]
              exact goJ (hJ4 (o5, ks ++ [y.k]) _ ⟨(hdm.2 hyk).symm, by simpa using hs5⟩) (by simp (disch := first | omega | assumption) only [steps, st2, pev, rev, oev, optr, ibin, sbin, ishf, bound, mmAll, mm2, mk, mkArgs, AV.cells, AV.boxable, AV.one, AV.strip1, fillA, fillS, Nat.reduceEqDiff, reduceCtorEq, ↓reduceIte, Nat.reduceAdd, Int.reduceNeg, Nat.reduceLeDiff, Int.reduceToNat, Int.reduceEq, Int.reduceLT, Int.reduceLE, Int.reduceAdd])
          · rw [if_neg hy] at hfs
            simp (disch := first | omega | assumption) only [hll, hlt4, hg4, hlt, hg, cN, hy, wrap64, steps, st2, pev, rev, oev, optr, ibin, sbin, ishf, bound, mmAll, mm2, mk, mkArgs, AV.cells, AV.boxable, AV.one, AV.strip1, fillA, fillS, Nat.reduceEqDiff, reduceCtorEq, ↓reduceIte, Nat.reduceAdd, Int.reduceNeg, Nat.reduceLeDiff, Int.reduceToNat, Int.reduceEq, Int.reduceLT, Int.reduceLE, Int.reduceAdd]
            exact goJ (hJ4 (o4, ks) _ ⟨by rw [hfs, hks], hsep4⟩) (by simp (disch := first | omega | assumption) only [steps, st2, pev, rev, oev, optr, ibin, sbin, ishf, bound, mmAll, mm2, mk, mkArgs, AV.cells, AV.boxable, AV.one, AV.strip1, fillA, fillS, Nat.reduceEqDiff, reduceCtorEq, ↓reduceIte, Nat.reduceAdd, Int.reduceNeg, Nat.reduceLeDiff, Int.reduceToNat, Int.reduceEq, Int.reduceLT, Int.reduceLE, Int.reduceAdd])
  · have h : lightB l = false := by simpa using h
    simp (disch := first | omega | assumption) only [h, steps, st2, pev, rev, oev, optr, ibin, sbin, ishf, bound, mmAll, mm2, mk, mkArgs, AV.cells, AV.boxable, AV.one, AV.strip1, fillA, fillS, Nat.reduceEqDiff, reduceCtorEq, ↓reduceIte, Nat.reduceAdd, Int.reduceNeg, Nat.reduceLeDiff, Int.reduceToNat, Int.reduceEq, Int.reduceLT, Int.reduceLE, Int.reduceAdd]
    refine goK_pure awakeB ?_
    simp (disch := first | omega | assumption) only [steps, st2, pev, rev, oev, optr, ibin, sbin, ishf, bound, mmAll, mm2, mk, mkArgs, AV.cells, AV.boxable, AV.one, AV.strip1, fillA, fillS, Nat.reduceEqDiff, reduceCtorEq, ↓reduceIte, Nat.reduceAdd, Int.reduceNeg, Nat.reduceLeDiff, Int.reduceToNat, Int.reduceEq, Int.reduceLT, Int.reduceLE, Int.reduceAdd]
    exact hQ _ _ _ _ nofun rfl (by simp [tupOf, envOf, AV.strip, AV.strip1])
end Go.Proofs.Ythkpgjnibolnhaa
