/- Batches: the document's plan; the page's example. -/
import Derived.Test.YthkpgjnibolnhaaBatR
set_option maxRecDepth 100000
set_option linter.unusedSimpArgs false
set_option linter.unusedVariables false
namespace Go.Proofs.Ythkpgjnibolnhaa
open Go.Ab

def rcS (s : Nat) (p : List (List (List UInt8)) × List (List UInt8)) (x : List UInt8) : List (List (List UInt8)) × List (List UInt8) := if p.2.length = s then (p.1 ++ [p.2], [x]) else (p.1, p.2 ++ [x])
def rc (s : Nat) (ks : List (List UInt8)) : List (List (List UInt8)) × List (List UInt8) := ks.foldl (rcS s) ([], [])

theorem rc_app (s : Nat) (ks : List (List UInt8)) (x : List UInt8) : rc s (ks ++ [x]) = rcS s (rc s ks) x := by simp [rc]

theorem rc_inv (s : Nat) (hs : 0 < s) (xs : List (List UInt8)) : ∀ n ks, ks.length = n → (ks = [] ∧ rc s ks = ([], [])) ∨ ∃ q, rc s ks = ((List.range q).map (fun k => (ks.drop (k * s)).take s), ks.drop (q * s)) ∧ q * s < ks.length ∧ ks.length ≤ q * s + s := by
  intro n
  induction n with
  | zero => intro ks h; have := List.eq_nil_of_length_eq_zero h; subst this; exact .inl ⟨rfl, rfl⟩
  | succ n ih =>
    intro ks h
    right
    obtain ⟨a, x, rfl⟩ : ∃ a x, ks = a ++ [x] := by
      have hne : ks ≠ [] := fun e => by subst e; simp at h
      exact ⟨ks.dropLast, ks.getLast hne, (List.dropLast_concat_getLast hne).symm⟩
    have ha : a.length = n := by simpa using h
    rcases ih a ha with ⟨rfl, h1⟩ | ⟨q, h1, h2, h3⟩
    · refine ⟨0, ?_, by simp, by simp; omega⟩
      rw [rc_app, h1]
      simp [rcS]; omega
    · have hl : (a.drop (q * s)).length = a.length - q * s := List.length_drop
      have hdl : ∀ k, k ≤ q → (a ++ [x]).drop (k * s) = a.drop (k * s) ++ [x] := fun k hk => by
        have : k * s ≤ q * s := Nat.mul_le_mul_right s hk
        rw [List.drop_append_of_le_length (by omega)]
      by_cases hf : a.length = q * s + s
      · refine ⟨q + 1, ?_, by simp [Nat.succ_mul]; omega, by simp [Nat.succ_mul]; omega⟩
        rw [rc_app, h1]
        simp only [rcS, hl, List.range_succ, List.map_append, List.map_cons, List.map_nil]
        rw [if_pos (by omega)]
        congr 1
        · congr 1
          · refine List.map_congr_left fun k hk => ?_
            have hk := List.mem_range.1 hk
            rw [hdl k (by omega), List.take_append_of_le_length]
            have : (k + 1) * s ≤ q * s := Nat.mul_le_mul_right s hk
            rw [Nat.succ_mul] at this
            simp; omega
          · rw [hdl q (Nat.le_refl _), List.take_append_of_le_length (by rw [hl]; omega), List.take_of_length_le (by rw [hl]; omega)]
        · rw [Nat.succ_mul, ← hf]; simp
      · refine ⟨q, ?_, by simp; omega, by simp; omega⟩
        rw [rc_app, h1]
        simp only [rcS, hl]
        rw [if_neg (by omega), hdl q (Nat.le_refl _)]
        congr 1
        refine List.map_congr_left fun k hk => ?_
        have hk := List.mem_range.1 hk
        rw [hdl k (by omega), List.take_append_of_le_length]
        have : (k + 1) * s ≤ q * s := Nat.mul_le_mul_right s hk
        rw [Nat.succ_mul] at this
        simp; omega

theorem rc_chunks (s : Nat) (hs : 0 < s) (ks : List (List UInt8)) (hne : ks ≠ []) : (rc s ks).1 ++ [(rc s ks).2] = chunks s ks := by
  rcases rc_inv s hs ks _ ks rfl with ⟨h, _⟩ | ⟨q, h1, h2, h3⟩
  · exact absurd h hne
  · have hq : (ks.length + s - 1) / s = q + 1 := by
      have e : (q + 1) * s = q * s + s := Nat.succ_mul q s
      have e2 : (q + 2) * s = q * s + s + s := by rw [Nat.succ_mul, Nat.succ_mul]
      have h4 : q + 1 ≤ (ks.length + s - 1) / s := (Nat.le_div_iff_mul_le hs).2 (by omega)
      have h5 : (ks.length + s - 1) / s < q + 2 := (Nat.div_lt_iff_lt_mul hs).2 (by omega)
      omega
    rw [h1, chunks, hq, List.range_succ, List.map_append, List.map_cons, List.map_nil]
    congr 2
    rw [List.take_of_length_le]
    simp; omega

theorem rc_len (s : Nat) (ks : List (List UInt8)) : (rc s ks).1.length ≤ ks.length ∧ (rc s ks).2.length ≤ ks.length := by
  suffices h : ∀ (ks : List (List UInt8)) p, (ks.foldl (rcS s) p).1.length ≤ p.1.length + ks.length ∧ (ks.foldl (rcS s) p).2.length ≤ p.2.length + ks.length by
    simpa [rc] using h ks ([], [])
  intro ks
  induction ks with
  | nil => intro p; simp
  | cons x r ih =>
    intro p
    have := ih (rcS s p x)
    simp only [List.foldl_cons, List.length_cons]
    unfold rcS at this ⊢
    split at this
    · simp only [List.length_append, List.length_cons, List.length_nil] at this
      rename_i hp
      simp only [hp, if_true]; omega
    · simp only [List.length_append, List.length_cons, List.length_nil] at this
      rename_i hp
      simp only [hp, if_false]; omega

theorem planP_r (s : Nat) (hs : 0 < s) (l : List Need) : planP s l = (dd [] ((dd [] l).map (·.t))).flatMap fun t => ((rc s (keysOf t (dd [] l))).1 ++ [(rc s (keysOf t (dd [] l))).2]).map fun c => ⟨t, c⟩ := by
  unfold planP
  have : ∀ t ∈ dd [] ((dd [] l).map (·.t)), ((chunks s (keysOf t (dd [] l))).map fun c => (⟨t, c⟩ : Batch)) = ((rc s (keysOf t (dd [] l))).1 ++ [(rc s (keysOf t (dd [] l))).2]).map fun c => ⟨t, c⟩ := fun t ht => by
    rw [rc_chunks s hs]
    intro h
    have := ((dd_mem t _ _).1 ht).resolve_left (by simp)
    obtain ⟨n, hn, rfl⟩ := List.mem_map.1 this
    have h2 : n.k ∈ keysOf n.t (dd [] l) := by
      simp only [keysOf, List.mem_map, List.mem_filter, decide_eq_true_eq]
      exact ⟨n, ⟨hn, rfl⟩, rfl⟩
    rw [h] at h2; cases h2
  rw [List.flatMap_def, List.flatMap_def, List.map_congr_left this]

theorem planR (n : Int) (l : List Need) (hl : l.length ≤ 65536) : Pure Try.prog 17 [.int .i64 n, .sl .no 2 (cNs l)] (.sl .no 2 (cBs (planP (clampS n) l))) := by
  refine Pure.go ir17 ck17 (Nat.le_refl _) fun KP Q hQ => ?_
  have hcl := clamp_pos n
  simp (disch := first | omega | assumption) only [ir17, mmS, steps, st2, pev, rev, oev, optr, ibin, sbin, ishf, bound, mmAll, mk, mkArgs, AV.cells, AV.boxable, AV.one, AV.strip1, fillA, fillS, Nat.reduceEqDiff, reduceCtorEq, ↓reduceIte, Nat.reduceAdd, Int.reduceNeg, Nat.reduceLeDiff, Int.reduceToNat, Int.reduceEq, Int.reduceLT, Int.reduceLE, Int.reduceAdd]
  refine goK_pure (onceR l (by simp only [Big]; omega)) ?_
  have hpr := planP_r (clampS n) hcl.1 l
  obtain ⟨o, ho⟩ : ∃ o, dd [] l = o := ⟨_, rfl⟩
  have hol : o.length ≤ 65536 := by have := dd_len l []; rw [ho] at this; simp at this; omega
  have hll := cNs_len o
  rw [ho] at hpr
  rw [ho]
  simp (disch := first | omega | assumption) only [hll, steps, st2, pev, rev, oev, optr, ibin, sbin, ishf, bound, mmAll, mm2, mk, mkArgs, AV.cells, AV.boxable, AV.one, AV.strip1, fillA, fillS, Nat.reduceEqDiff, reduceCtorEq, ↓reduceIte, Nat.reduceAdd, Int.reduceNeg, Nat.reduceLeDiff, Int.reduceToNat, Int.reduceEq, Int.reduceLT, Int.reduceLE, Int.reduceAdd]
  refine goL_range o 6 (fun s : Own × List (List UInt8) => [(5, .sl s.1 1 (cT s.2))]) (fun done rest s H => s.2 = dd [] (done.map (·.t)) ∧ Owned H s.1 s.2.length 1) (.nil, []) (by simp (disch := first | omega | assumption) only [steps, st2, pev, rev, oev, optr, ibin, sbin, ishf, bound, mmAll, mm2, mk, mkArgs, AV.cells, AV.boxable, AV.one, AV.strip1, fillA, fillS, Nat.reduceEqDiff, reduceCtorEq, ↓reduceIte, Nat.reduceAdd, Int.reduceNeg, Nat.reduceLeDiff, Int.reduceToNat, Int.reduceEq, Int.reduceLT, Int.reduceLE, Int.reduceAdd] <;> simp [cT]) ⟨rfl, rfl⟩ ?_ ?_
  · rintro ⟨o1, ts⟩ H J ⟨hts, _⟩ hlt
    simp only at hts
    have htl := cT_len ts
    have htl2 := tabs_len o
    rw [← hts] at htl2 hpr
    simp (disch := first | omega | assumption) only [hll, hlt, steps, st2, pev, rev, oev, optr, ibin, sbin, ishf, bound, mmAll, mm2, mk, mkArgs, AV.cells, AV.boxable, AV.one, AV.strip1, fillA, fillS, Nat.reduceEqDiff, reduceCtorEq, ↓reduceIte, Nat.reduceAdd, Int.reduceNeg, Nat.reduceLeDiff, Int.reduceToNat, Int.reduceEq, Int.reduceLT, Int.reduceLE, Int.reduceAdd]
    refine goL_range ts 8 (fun s : Own × List Batch => [(7, .sl s.1 2 (cBs s.2))]) (fun done rest s H' => s.2 ++ (rest.flatMap fun t => ((rc (clampS n) (keysOf t o)).1 ++ [(rc (clampS n) (keysOf t o)).2]).map fun c => (⟨t, c⟩ : Batch)) = planP (clampS n) l ∧ Owned H' s.1 s.2.length 2 ∧ s.2.length ≤ done.length * 65537) (.nil, [])
      (by simp (disch := first | omega | assumption) only [steps, st2, pev, rev, oev, optr, ibin, sbin, ishf, bound, mmAll, mm2, mk, mkArgs, AV.cells, AV.boxable, AV.one, AV.strip1, fillA, fillS, Nat.reduceEqDiff, reduceCtorEq, ↓reduceIte, Nat.reduceAdd, Int.reduceNeg, Nat.reduceLeDiff, Int.reduceToNat, Int.reduceEq, Int.reduceLT, Int.reduceLE, Int.reduceAdd] <;> simp [cBs]) ⟨by rw [List.nil_append, hpr], rfl, by simp⟩ ?_ ?_
    · rintro ⟨o2, out⟩ H J ⟨hout, how, _⟩ hlt
      simp only [List.flatMap_nil, List.append_nil] at hout
      subst hout
      simp (disch := first | omega | assumption) only [htl, hlt, steps, st2, pev, rev, oev, optr, ibin, sbin, ishf, bound, mmAll, mm2, mk, mkArgs, AV.cells, AV.boxable, AV.one, AV.strip1, fillA, fillS, Nat.reduceEqDiff, reduceCtorEq, ↓reduceIte, Nat.reduceAdd, Int.reduceNeg, Nat.reduceLeDiff, Int.reduceToNat, Int.reduceEq, Int.reduceLT, Int.reduceLE, Int.reduceAdd]
      exact hQ _ _ _ _ nofun rfl (by simp [tupOf, envOf, AV.strip, AV.strip1])
    · rintro done t rest ⟨o2, out⟩ H J hd hlt hlt' ⟨hout, how, hob⟩ hJ
      have hg := cT_get hd
      simp only at hob how hout
      simp (disch := first | omega | assumption) only [htl, hlt, hg, steps, st2, pev, rev, oev, optr, ibin, sbin, ishf, bound, mmAll, mm2, mk, mkArgs, AV.cells, AV.boxable, AV.one, AV.strip1, fillA, fillS, Nat.reduceEqDiff, reduceCtorEq, ↓reduceIte, Nat.reduceAdd, Int.reduceNeg, Nat.reduceLeDiff, Int.reduceToNat, Int.reduceEq, Int.reduceLT, Int.reduceLE, Int.reduceAdd]
      refine goA_intro fun b9 hb9 => ?_
      simp (disch := first | omega | assumption) only [steps, st2, pev, rev, oev, optr, ibin, sbin, ishf, bound, mmAll, mm2, mk, mkArgs, AV.cells, AV.boxable, AV.one, AV.strip1, fillA, fillS, Nat.reduceEqDiff, reduceCtorEq, ↓reduceIte, Nat.reduceAdd, Int.reduceNeg, Nat.reduceLeDiff, Int.reduceToNat, Int.reduceEq, Int.reduceLT, Int.reduceLE, Int.reduceAdd]
      refine goL_range o 10 (fun s : Own × List Batch => [(7, .sl s.1 2 (cBs s.2))]) (fun dn rs s H' => s.2 = out ++ ((rc (clampS n) (keysOf t dn)).1).map (fun c => (⟨t, c⟩ : Batch)) ∧ ∃ o3, H' b9 = some (.cells [.str t, .sl o3 1 (cT (rc (clampS n) (keysOf t dn)).2)]) ∧ Sep H' [(s.1, s.2.length, 2), (o3, (rc (clampS n) (keysOf t dn)).2.length, 1)]) (o2, out)
        (by simp (disch := first | omega | assumption) only [steps, st2, pev, rev, oev, optr, ibin, sbin, ishf, bound, mmAll, mm2, mk, mkArgs, AV.cells, AV.boxable, AV.one, AV.strip1, fillA, fillS, Nat.reduceEqDiff, reduceCtorEq, ↓reduceIte, Nat.reduceAdd, Int.reduceNeg, Nat.reduceLeDiff, Int.reduceToNat, Int.reduceEq, Int.reduceLT, Int.reduceLE, Int.reduceAdd]) ⟨by simp [keysOf, rc], .nil, by simp [Heap.upd, keysOf, rc, cT], ?_⟩ ?_ ?_
      · refine ⟨fun x hx => ?_, ?_⟩
        · simp only [List.mem_cons, List.not_mem_nil, or_false] at hx
          rcases hx with rfl | rfl
          · exact Owned.upd how hb9
          · rfl
        · cases o2 <;> simp [tipOf]
      · rintro ⟨o4, out4⟩ H4 J4 ⟨hout4, o3, h9, hsep⟩ hlt4
        simp only at hout4
        have hrl := rc_len (clampS n) (keysOf t o)
        have hkl := keysOf_len t o
        have ho4 := hsep.own _ (List.mem_cons_self ..)
        simp only at ho4
        have h4l := cBs_len out4
        have hd1 : done.length * 65537 + 65537 ≤ 4295098369 := by omega
        have h4b : out4.length ≤ done.length * 65537 + 65536 := by rw [hout4]; simp; omega
        simp (disch := first | omega | assumption) only [hll, hlt4, h9, steps, st2, pev, rev, oev, optr, ibin, sbin, ishf, bound, mmAll, mm2, mk, mkArgs, AV.cells, AV.boxable, AV.one, AV.strip1, fillA, fillS, Nat.reduceEqDiff, reduceCtorEq, ↓reduceIte, Nat.reduceAdd, Int.reduceNeg, Nat.reduceLeDiff, Int.reduceToNat, Int.reduceEq, Int.reduceLT, Int.reduceLE, Int.reduceAdd]
        refine goP_ownS (by rw [h4l]; exact ho4) ?_ ?_ fun o' H' hos => ?_
        · simp only [h4l, List.length_cons, List.length_nil]; omega
        · simp only [h4l, List.length_cons, List.length_nil, maxLen]; omega
        simp only [h4l, List.length_cons, List.length_nil, Nat.zero_add] at hos
        simp (disch := first | omega | assumption) only [wrap64, AV.strip1, steps, st2, pev, rev, oev, optr, ibin, sbin, ishf, bound, mmAll, mm2, mk, mkArgs, AV.cells, AV.boxable, AV.one, AV.strip1, fillA, fillS, Nat.reduceEqDiff, reduceCtorEq, ↓reduceIte, Nat.reduceAdd, Int.reduceNeg, Nat.reduceLeDiff, Int.reduceToNat, Int.reduceEq, Int.reduceLT, Int.reduceLE, Int.reduceAdd]
        refine goJ (hJ (o', out4 ++ [⟨t, (rc (clampS n) (keysOf t o)).2⟩]) _ ⟨?_, by simpa using hos.own, ?_⟩) (by simp [cBs, cB] <;> simp (disch := first | omega | assumption) only [steps, st2, pev, rev, oev, optr, ibin, sbin, ishf, bound, mmAll, mm2, mk, mkArgs, AV.cells, AV.boxable, AV.one, AV.strip1, fillA, fillS, Nat.reduceEqDiff, reduceCtorEq, ↓reduceIte, Nat.reduceAdd, Int.reduceNeg, Nat.reduceLeDiff, Int.reduceToNat, Int.reduceEq, Int.reduceLT, Int.reduceLE, Int.reduceAdd])
        · rw [← hout, hout4]; simp
        · simp; omega
      · rintro dn x rs ⟨o4, out4⟩ H4 J4 hd4 hlt4 hlt4' ⟨hout4, o3, h9, hsep⟩ hJ4
        have hgn := cNs_get hd4
        have hkd := keysOf_app t dn x
        simp only at hout4
        by_cases hx : x.t = t
        · rw [if_pos hx] at hkd
          have hra := rc_app (clampS n) (keysOf t dn) x.k
          rw [← hkd] at hra
          have hrl := rc_len (clampS n) (keysOf t dn)
          have hkl := keysOf_len t dn
          obtain ⟨⟨outs, cur⟩, hrc⟩ : ∃ p, rc (clampS n) (keysOf t dn) = p := ⟨_, rfl⟩
          rw [hrc] at hra hrl h9 hout4 hsep
          simp only [rcS] at hra hrl h9 hout4 hsep
          have hcl2 := cT_len cur
          have h4l := cBs_len out4
          have hd1 : done.length * 65537 + 65537 ≤ 4295098369 := by omega
          have h4b : out4.length ≤ done.length * 65537 + 65536 := by rw [hout4]; simp; omega
          by_cases hf : cur.length = clampS n
          · rw [if_pos hf] at hra
            have hf' : (cur.length : Int) = clampS n := by omega
            simp (disch := first | omega | assumption) only [hll, hlt4, hgn, cN, htl, hlt, hg, hx, h9, hcl2, hf', steps, st2, pev, rev, oev, optr, ibin, sbin, ishf, bound, mmAll, mm2, mk, mkArgs, AV.cells, AV.boxable, AV.one, AV.strip1, fillA, fillS, Nat.reduceEqDiff, reduceCtorEq, ↓reduceIte, Nat.reduceAdd, Int.reduceNeg, Nat.reduceLeDiff, Int.reduceToNat, Int.reduceEq, Int.reduceLT, Int.reduceLE, Int.reduceAdd]
            have ho4 := hsep.own _ (List.mem_cons_self ..)
            simp only at ho4
            refine goP_ownS (by rw [h4l]; exact ho4) ?_ ?_ fun o' H' hos => ?_
            · simp only [h4l, List.length_cons, List.length_nil]; omega
            · simp only [h4l, List.length_cons, List.length_nil, maxLen]; omega
            simp only [h4l, List.length_cons, List.length_nil, Nat.zero_add] at hos
            have k9 := keptC hos.kept ho4 h9
            have hg' := cT_get hd
            simp (disch := first | omega | assumption) only [k9, htl, hlt, hg', hll, hlt4, hgn, cN, AV.strip1, steps, st2, pev, rev, oev, optr, ibin, sbin, ishf, bound, mmAll, mm2, mk, mkArgs, AV.cells, AV.boxable, AV.one, AV.strip1, fillA, fillS, Nat.reduceEqDiff, reduceCtorEq, ↓reduceIte, Nat.reduceAdd, Int.reduceNeg, Nat.reduceLeDiff, Int.reduceToNat, Int.reduceEq, Int.reduceLT, Int.reduceLE, Int.reduceAdd]
            refine goP_ownS (o := .nil) (xs := []) rfl (by simp) (by simp [maxLen]) fun o5 H5 hos5 => ?_
            simp only [List.length_cons, List.length_nil, Nat.zero_add] at hos5
            have k95 : H5 b9 = some (.cells [.str t, .sl .nil 1 []]) := hos5.kept _ _ (upd_same ..) (fun d e => by cases e)
            simp (disch := first | omega | assumption) only [k95, wrap64, AV.strip1, steps, st2, pev, rev, oev, optr, ibin, sbin, ishf, bound, mmAll, mm2, mk, mkArgs, AV.cells, AV.boxable, AV.one, AV.strip1, fillA, fillS, Nat.reduceEqDiff, reduceCtorEq, ↓reduceIte, Nat.reduceAdd, Int.reduceNeg, Nat.reduceLeDiff, Int.reduceToNat, Int.reduceEq, Int.reduceLT, Int.reduceLE, Int.reduceAdd]
            refine goJ (hJ4 (o', out4 ++ [⟨t, cur⟩]) _ ⟨?_, o5, ?_, ?_⟩) (by simp [cBs, cB] <;> simp (disch := first | omega | assumption) only [steps, st2, pev, rev, oev, optr, ibin, sbin, ishf, bound, mmAll, mm2, mk, mkArgs, AV.cells, AV.boxable, AV.one, AV.strip1, fillA, fillS, Nat.reduceEqDiff, reduceCtorEq, ↓reduceIte, Nat.reduceAdd, Int.reduceNeg, Nat.reduceLeDiff, Int.reduceToNat, Int.reduceEq, Int.reduceLT, Int.reduceLE, Int.reduceAdd])
            · rw [hra, hout4]; simp
            · rw [hra, upd_same]; simp [cT]
            · rw [hra]
              have s1 : Sep (H'.upd b9 (.cells [.str t, .sl .nil 1 []])) ([(o', out4.length + 1, 2)] ++ (.nil, 0, 1) :: []) := by
                refine ⟨fun y hy => ?_, ?_⟩
                · simp only [List.cons_append, List.nil_append, List.mem_cons, List.not_mem_nil, or_false] at hy
                  rcases hy with rfl | rfl
                  · exact Owned.setC hos.own k9
                  · rfl
                · cases o' <;> simp [tipOf]
              have s2 := s1.step hos5
              have s3 := s2.mono (H' := H5.upd b9 (.cells [.str t, .sl o5 1 [[.str x.k]]])) fun c n sz hc => by
                have : c ≠ b9 := fun e => by subst e; rw [k95] at hc; cases hc
                simp [Heap.upd, this, hc]
              simpa using s3
          · rw [if_neg hf] at hra
            have hf' : ¬ ((cur.length : Int) = clampS n) := by omega
            simp (disch := first | omega | assumption) only [hll, hlt4, hgn, cN, htl, hlt, hg, hx, h9, hcl2, hf', steps, st2, pev, rev, oev, optr, ibin, sbin, ishf, bound, mmAll, mm2, mk, mkArgs, AV.cells, AV.boxable, AV.one, AV.strip1, fillA, fillS, Nat.reduceEqDiff, reduceCtorEq, ↓reduceIte, Nat.reduceAdd, Int.reduceNeg, Nat.reduceLeDiff, Int.reduceToNat, Int.reduceEq, Int.reduceLT, Int.reduceLE, Int.reduceAdd]
            have ho3 := hsep.own (o3, cur.length, 1) (by simp)
            simp only at ho3
            refine goP_ownS (by rw [hcl2]; exact ho3) ?_ ?_ fun o' H' hos => ?_
            · simp only [hcl2, List.length_cons, List.length_nil]; omega
            · simp only [hcl2, List.length_cons, List.length_nil, maxLen]; omega
            simp only [hcl2, List.length_cons, List.length_nil, Nat.zero_add] at hos
            have k9 := keptC hos.kept ho3 h9
            simp (disch := first | omega | assumption) only [k9, wrap64, AV.strip1, steps, st2, pev, rev, oev, optr, ibin, sbin, ishf, bound, mmAll, mm2, mk, mkArgs, AV.cells, AV.boxable, AV.one, AV.strip1, fillA, fillS, Nat.reduceEqDiff, reduceCtorEq, ↓reduceIte, Nat.reduceAdd, Int.reduceNeg, Nat.reduceLeDiff, Int.reduceToNat, Int.reduceEq, Int.reduceLT, Int.reduceLE, Int.reduceAdd]
            refine goJ (hJ4 (o4, out4) _ ⟨?_, o', ?_, ?_⟩) (by simp (disch := first | omega | assumption) only [steps, st2, pev, rev, oev, optr, ibin, sbin, ishf, bound, mmAll, mm2, mk, mkArgs, AV.cells, AV.boxable, AV.one, AV.strip1, fillA, fillS, Nat.reduceEqDiff, reduceCtorEq, ↓reduceIte, Nat.reduceAdd, Int.reduceNeg, Nat.reduceLeDiff, Int.reduceToNat, Int.reduceEq, Int.reduceLT, Int.reduceLE, Int.reduceAdd])
            · rw [hra, hout4]
            · rw [hra, upd_same, cT_app]
            · rw [hra]
              have s2 := Sep.step (a := [(o4, out4.length, 2)]) (b := []) hsep hos
              have s3 := s2.mono (H' := H'.upd b9 (.cells [.str t, .sl o' 1 (cT cur ++ [[.str x.k]])])) fun c n sz hc => by
                have : c ≠ b9 := fun e => by subst e; rw [k9] at hc; cases hc
                simp [Heap.upd, this, hc]
              simpa using s3
        · rw [if_neg hx, List.append_nil] at hkd
          simp (disch := first | omega | assumption) only [hll, hlt4, hgn, cN, htl, hlt, hg, hx, wrap64, steps, st2, pev, rev, oev, optr, ibin, sbin, ishf, bound, mmAll, mm2, mk, mkArgs, AV.cells, AV.boxable, AV.one, AV.strip1, fillA, fillS, Nat.reduceEqDiff, reduceCtorEq, ↓reduceIte, Nat.reduceAdd, Int.reduceNeg, Nat.reduceLeDiff, Int.reduceToNat, Int.reduceEq, Int.reduceLT, Int.reduceLE, Int.reduceAdd]
          exact goJ (hJ4 (o4, out4) _ ⟨by rw [hkd]; exact hout4, o3, by rw [hkd]; exact h9, by rw [hkd]; exact hsep⟩) (by simp (disch := first | omega | assumption) only [steps, st2, pev, rev, oev, optr, ibin, sbin, ishf, bound, mmAll, mm2, mk, mkArgs, AV.cells, AV.boxable, AV.one, AV.strip1, fillA, fillS, Nat.reduceEqDiff, reduceCtorEq, ↓reduceIte, Nat.reduceAdd, Int.reduceNeg, Nat.reduceLeDiff, Int.reduceToNat, Int.reduceEq, Int.reduceLT, Int.reduceLE, Int.reduceAdd])
  · rintro done x rest ⟨o1, ts⟩ H J hd hlt hlt' ⟨hts, how⟩ hJ
    have hg := cNs_get hd
    simp only at hts how
    have htl := cT_len ts
    have htl2 := tabs_len done
    rw [← hts] at htl2
    have hts2 : (x.t ∈ ts → dd [] ((done ++ [x]).map (·.t)) = ts) ∧ (x.t ∉ ts → dd [] ((done ++ [x]).map (·.t)) = ts ++ [x.t]) := by
      rw [List.map_append, List.map_cons, List.map_nil, dd_app, ← hts]
      exact ⟨fun h => if_pos h, fun h => if_neg h⟩
    simp (disch := first | omega | assumption) only [hll, hlt, hg, cN, steps, st2, pev, rev, oev, optr, ibin, sbin, ishf, bound, mmAll, mm2, mk, mkArgs, AV.cells, AV.boxable, AV.one, AV.strip1, fillA, fillS, Nat.reduceEqDiff, reduceCtorEq, ↓reduceIte, Nat.reduceAdd, Int.reduceNeg, Nat.reduceLeDiff, Int.reduceToNat, Int.reduceEq, Int.reduceLT, Int.reduceLE, Int.reduceAdd]
    refine goK_pure (Pure.low (hasR ts (by simp only [Big]; omega) x.t)) ?_
    by_cases hx : x.t ∈ ts
    · have hts2 := hts2.1 hx
      simp (disch := first | omega | assumption) only [hx, wrap64, steps, st2, pev, rev, oev, optr, ibin, sbin, ishf, bound, mmAll, mm2, mk, mkArgs, AV.cells, AV.boxable, AV.one, AV.strip1, fillA, fillS, Nat.reduceEqDiff, reduceCtorEq, ↓reduceIte, Nat.reduceAdd, Int.reduceNeg, Nat.reduceLeDiff, Int.reduceToNat, Int.reduceEq, Int.reduceLT, Int.reduceLE, Int.reduceAdd]
      exact goJ (hJ (o1, ts) _ ⟨hts2.symm, how⟩) (by simp (disch := first | omega | assumption) only [steps, st2, pev, rev, oev, optr, ibin, sbin, ishf, bound, mmAll, mm2, mk, mkArgs, AV.cells, AV.boxable, AV.one, AV.strip1, fillA, fillS, Nat.reduceEqDiff, reduceCtorEq, ↓reduceIte, Nat.reduceAdd, Int.reduceNeg, Nat.reduceLeDiff, Int.reduceToNat, Int.reduceEq, Int.reduceLT, Int.reduceLE, Int.reduceAdd])
    · have hts2 := hts2.2 hx
      simp (disch := first | omega | assumption) only [hll, hlt, hg, cN, hx, steps, st2, pev, rev, oev, optr, ibin, sbin, ishf, bound, mmAll, mm2, mk, mkArgs, AV.cells, AV.boxable, AV.one, AV.strip1, fillA, fillS, Nat.reduceEqDiff, reduceCtorEq, ↓reduceIte, Nat.reduceAdd, Int.reduceNeg, Nat.reduceLeDiff, Int.reduceToNat, Int.reduceEq, Int.reduceLT, Int.reduceLE, Int.reduceAdd]
      refine goP_ownS (by rw [htl]; exact how) ?_ ?_ fun o' H' hos => ?_
      · simp only [htl, List.length_cons, List.length_nil]; omega
      · simp only [htl, List.length_cons, List.length_nil, maxLen]; omega
      simp (disch := first | omega | assumption) only [wrap64, AV.strip1, cT_app, steps, st2, pev, rev, oev, optr, ibin, sbin, ishf, bound, mmAll, mm2, mk, mkArgs, AV.cells, AV.boxable, AV.one, AV.strip1, fillA, fillS, Nat.reduceEqDiff, reduceCtorEq, ↓reduceIte, Nat.reduceAdd, Int.reduceNeg, Nat.reduceLeDiff, Int.reduceToNat, Int.reduceEq, Int.reduceLT, Int.reduceLE, Int.reduceAdd]
      rw [htl] at hos
      exact goJ (hJ (o', ts ++ [x.t]) _ ⟨hts2.symm, by simpa using hos.own⟩) (by simp (disch := first | omega | assumption) only [steps, st2, pev, rev, oev, optr, ibin, sbin, ishf, bound, mmAll, mm2, mk, mkArgs, AV.cells, AV.boxable, AV.one, AV.strip1, fillA, fillS, Nat.reduceEqDiff, reduceCtorEq, ↓reduceIte, Nat.reduceAdd, Int.reduceNeg, Nat.reduceLeDiff, Int.reduceToNat, Int.reduceEq, Int.reduceLT, Int.reduceLE, Int.reduceAdd])
end Go.Proofs.Ythkpgjnibolnhaa
