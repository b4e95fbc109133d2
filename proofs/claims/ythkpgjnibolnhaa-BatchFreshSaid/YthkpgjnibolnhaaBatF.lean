/- Batches: BatchFresh. -/
import Derived.Test.YthkpgjnibolnhaaBatC
import Derived.Test.YthkpgjnibolnhaaBatM
set_option maxRecDepth 100000
set_option linter.unusedSimpArgs false
set_option linter.unusedVariables false
namespace Go.Proofs.Ythkpgjnibolnhaa
open Go.Ab

theorem okG_nil : okG [] := fun x hx => by cases hx
theorem CacheAt.upd {H : Heap} {c m : Nat} {es : List (Need × Got)} (h : CacheAt H c m es) (n : Need) (g : Got) : CacheAt (H.upd m (.map (.agg [.s, .s]) (eG (putG es n g)))) c m (putG es n g) :=
  ⟨by rw [upd_ne h.ne]; exact h.hc, upd_same ..⟩

/-- BatchFresh is true. -/
theorem fresh (k l : List Need) (hk : k.length ≤ maxLen) (hl : l.length ≤ maxLen) : Pure Try.prog 9 [.sl .no 2 (cNs k), .sl .no 2 (cNs l)] (.bool true) := by
  refine Pure.go ir9 ck9 (Nat.le_refl _) fun KP Q hQ => ?_
  have hkl := cNs_len k
  have hll := cNs_len l
  have aw : ∀ (ρ : Env) (H : Heap), True := fun _ _ => trivial
  simp (disch := first | omega | assumption) only [ir9, steps, st2, pev, rev, oev, optr, ibin, sbin, ishf, bound, mmAll, mm2, mk, mkArgs, AV.cells, AV.boxable, AV.one, AV.strip1, fillA, fillS, Nat.reduceEqDiff, reduceCtorEq, ↓reduceIte, Nat.reduceAdd, Int.reduceNeg, Nat.reduceLeDiff, Int.reduceToNat, Int.reduceEq, Int.reduceLT, Int.reduceLE, Int.reduceAdd]
  refine goK_pure (lightR k hk) ?_
  by_cases h1 : lightB k = true
  · have hk3 := light_len h1
    simp (disch := first | omega | assumption) only [h1, steps, st2, pev, rev, oev, optr, ibin, sbin, ishf, bound, mmAll, mm2, mk, mkArgs, AV.cells, AV.boxable, AV.one, AV.strip1, fillA, fillS, Nat.reduceEqDiff, reduceCtorEq, ↓reduceIte, Nat.reduceAdd, Int.reduceNeg, Nat.reduceLeDiff, Int.reduceToNat, Int.reduceEq, Int.reduceLT, Int.reduceLE, Int.reduceAdd]
    refine goK_pure (lightR l hl) ?_
    by_cases h2 : lightB l = true
    · have hl3 := light_len h2
      simp (disch := first | omega | assumption) only [h2, steps, st2, pev, rev, oev, optr, ibin, sbin, ishf, bound, mmAll, mm2, mk, mkArgs, AV.cells, AV.boxable, AV.one, AV.strip1, fillA, fillS, Nat.reduceEqDiff, reduceCtorEq, ↓reduceIte, Nat.reduceAdd, Int.reduceNeg, Nat.reduceLeDiff, Int.reduceToNat, Int.reduceEq, Int.reduceLT, Int.reduceLE, Int.reduceAdd]
      refine goK_ret (newC _) fun v H ⟨c, m, hv, _, _, hc, _⟩ => ?_
      subst hv
      simp (disch := first | omega | assumption) only [steps, st2, pev, rev, oev, optr, ibin, sbin, ishf, bound, mmAll, mm2, mk, mkArgs, AV.cells, AV.boxable, AV.one, AV.strip1, fillA, fillS, Nat.reduceEqDiff, reduceCtorEq, ↓reduceIte, Nat.reduceAdd, Int.reduceNeg, Nat.reduceLeDiff, Int.reduceToNat, Int.reduceEq, Int.reduceLT, Int.reduceLE, Int.reduceAdd]
      refine goL_range k 6 (fun _ : Unit => []) (fun done rest _ H => ∃ es, CacheAt H c m es ∧ okG es ∧ ∀ n, (lookG es n).isSome = decide (n ∈ done)) () (by simp (disch := first | omega | assumption) only [steps, st2, pev, rev, oev, optr, ibin, sbin, ishf, bound, mmAll, mm2, mk, mkArgs, AV.cells, AV.boxable, AV.one, AV.strip1, fillA, fillS, Nat.reduceEqDiff, reduceCtorEq, ↓reduceIte, Nat.reduceAdd, Int.reduceNeg, Nat.reduceLeDiff, Int.reduceToNat, Int.reduceEq, Int.reduceLT, Int.reduceLE, Int.reduceAdd]) ⟨[], hc, okG_nil, fun n => rfl⟩ ?_ ?_
      · rintro ⟨⟩ H J ⟨es, hc, hok, hlk⟩ hlt
        simp (disch := first | omega | assumption) only [hkl, hlt, steps, st2, pev, rev, oev, optr, ibin, sbin, ishf, bound, mmAll, mm2, mk, mkArgs, AV.cells, AV.boxable, AV.one, AV.strip1, fillA, fillS, Nat.reduceEqDiff, reduceCtorEq, ↓reduceIte, Nat.reduceAdd, Int.reduceNeg, Nat.reduceLeDiff, Int.reduceToNat, Int.reduceEq, Int.reduceLT, Int.reduceLE, Int.reduceAdd]
        refine goK_ret (freshC hc hok l (by simp only [Big]; omega)) fun v H1 ⟨hv, hH⟩ => ?_
        subst hv; subst hH
        obtain ⟨f, hf⟩ : ∃ f, freshG es l = f := ⟨_, rfl⟩
        have hfm : ∀ n, n ∈ f ↔ n ∈ l ∧ n ∉ k := fun n => by
          rw [← hf, freshG, List.mem_filter, dd_mem]
          have := hlk n
          cases hx : lookG es n <;> simp_all
        have hfn : f.Nodup := by rw [← hf]; exact (dd_nodup l [] List.nodup_nil).sublist List.filter_sublist
        have hfl : f.length ≤ 300 := by
          rw [← hf]; have h3 := List.length_filter_le (fun n => (lookG es n).isNone) (dd [] l); have h4 := dd_len l []; simp at h4; simp only [freshG]; omega
        have hfll := cNs_len f
        rw [hf]
        simp (disch := first | omega | assumption) only [steps, st2, pev, rev, oev, optr, ibin, sbin, ishf, bound, mmAll, mm2, mk, mkArgs, AV.cells, AV.boxable, AV.one, AV.strip1, fillA, fillS, Nat.reduceEqDiff, reduceCtorEq, ↓reduceIte, Nat.reduceAdd, Int.reduceNeg, Nat.reduceLeDiff, Int.reduceToNat, Int.reduceEq, Int.reduceLT, Int.reduceLE, Int.reduceAdd]
        refine goL_range f 8 (fun _ : Unit => []) (fun done rest _ H' => Sub H1 H') () (by simp (disch := first | omega | assumption) only [steps, st2, pev, rev, oev, optr, ibin, sbin, ishf, bound, mmAll, mm2, mk, mkArgs, AV.cells, AV.boxable, AV.one, AV.strip1, fillA, fillS, Nat.reduceEqDiff, reduceCtorEq, ↓reduceIte, Nat.reduceAdd, Int.reduceNeg, Nat.reduceLeDiff, Int.reduceToNat, Int.reduceEq, Int.reduceLT, Int.reduceLE, Int.reduceAdd]) (sub_refl _) ?_ ?_
        · rintro ⟨⟩ H1' J1 hs hlt1
          have hc1 := hc.sub hs
          simp (disch := first | omega | assumption) only [hfll, hlt1, steps, st2, pev, rev, oev, optr, ibin, sbin, ishf, bound, mmAll, mm2, mk, mkArgs, AV.cells, AV.boxable, AV.one, AV.strip1, fillA, fillS, Nat.reduceEqDiff, reduceCtorEq, ↓reduceIte, Nat.reduceAdd, Int.reduceNeg, Nat.reduceLeDiff, Int.reduceToNat, Int.reduceEq, Int.reduceLT, Int.reduceLE, Int.reduceAdd]
          refine goL_range f 11 (fun _ : Unit => []) (fun done rest _ H => ∃ es, CacheAt H c m es ∧ okG es ∧ ∀ n, (lookG es n).isSome = (decide (n ∈ k) || decide (n ∈ done))) () (by simp (disch := first | omega | assumption) only [steps, st2, pev, rev, oev, optr, ibin, sbin, ishf, bound, mmAll, mm2, mk, mkArgs, AV.cells, AV.boxable, AV.one, AV.strip1, fillA, fillS, Nat.reduceEqDiff, reduceCtorEq, ↓reduceIte, Nat.reduceAdd, Int.reduceNeg, Nat.reduceLeDiff, Int.reduceToNat, Int.reduceEq, Int.reduceLT, Int.reduceLE, Int.reduceAdd]) ⟨es, hc1, hok, fun n => by simpa using hlk n⟩ ?_ ?_
          · rintro ⟨⟩ H2 J2 ⟨es2, hc2, hok2, hlk2⟩ hlt2
            simp (disch := first | omega | assumption) only [hfll, hlt2, steps, st2, pev, rev, oev, optr, ibin, sbin, ishf, bound, mmAll, mm2, mk, mkArgs, AV.cells, AV.boxable, AV.one, AV.strip1, fillA, fillS, Nat.reduceEqDiff, reduceCtorEq, ↓reduceIte, Nat.reduceAdd, Int.reduceNeg, Nat.reduceLeDiff, Int.reduceToNat, Int.reduceEq, Int.reduceLT, Int.reduceLE, Int.reduceAdd]
            refine goK_ret (freshC hc2 hok2 l (by simp only [Big]; omega)) fun v H3 ⟨hv, hH⟩ => ?_
            subst hv; subst hH
            have hnil : freshG es2 l = [] := by
              rw [freshG, List.filter_eq_nil_iff]
              intro n hn
              have hn := ((dd_mem _ _ _).1 hn).resolve_left (by simp)
              have hs := hlk2 n
              have : n ∈ k ∨ n ∈ f := by
                by_cases h : n ∈ k
                · exact .inl h
                · exact .inr ((hfm n).2 ⟨hn, h⟩)
              have h5 : (lookG es2 n).isSome = true := by rw [hs]; rcases this with h | h <;> simp [h]
              cases hx : lookG es2 n <;> simp_all
            rw [hnil]
            simp (disch := first | omega | assumption) only [cNs, List.map_nil, steps, st2, pev, rev, oev, optr, ibin, sbin, ishf, bound, mmAll, mm2, mk, mkArgs, AV.cells, AV.boxable, AV.one, AV.strip1, fillA, fillS, Nat.reduceEqDiff, reduceCtorEq, ↓reduceIte, Nat.reduceAdd, Int.reduceNeg, Nat.reduceLeDiff, Int.reduceToNat, Int.reduceEq, Int.reduceLT, Int.reduceLE, Int.reduceAdd]
            refine goK_ret (flushC hc2) fun v H3 ⟨hv, m', _, hc3, _⟩ => ?_
            subst hv
            simp (disch := first | omega | assumption) only [steps, st2, pev, rev, oev, optr, ibin, sbin, ishf, bound, mmAll, mm2, mk, mkArgs, AV.cells, AV.boxable, AV.one, AV.strip1, fillA, fillS, Nat.reduceEqDiff, reduceCtorEq, ↓reduceIte, Nat.reduceAdd, Int.reduceNeg, Nat.reduceLeDiff, Int.reduceToNat, Int.reduceEq, Int.reduceLT, Int.reduceLE, Int.reduceAdd]
            refine goK_ret (freshC hc3 okG_nil l (by simp only [Big]; omega)) fun v H4 ⟨hv, hH⟩ => ?_
            subst hv; subst hH
            have hall : freshG [] l = dd [] l := by rw [freshG, List.filter_eq_self]; intro n _; rfl
            rw [hall]
            simp (disch := first | omega | assumption) only [steps, st2, pev, rev, oev, optr, ibin, sbin, ishf, bound, mmAll, mm2, mk, mkArgs, AV.cells, AV.boxable, AV.one, AV.strip1, fillA, fillS, Nat.reduceEqDiff, reduceCtorEq, ↓reduceIte, Nat.reduceAdd, Int.reduceNeg, Nat.reduceLeDiff, Int.reduceToNat, Int.reduceEq, Int.reduceLT, Int.reduceLE, Int.reduceAdd]
            refine goK_pure (onceR l (by simp only [Big]; omega)) ?_
            simp (disch := first | omega | assumption) only [steps, st2, pev, rev, oev, optr, ibin, sbin, ishf, bound, mmAll, mm2, mk, mkArgs, AV.cells, AV.boxable, AV.one, AV.strip1, fillA, fillS, Nat.reduceEqDiff, reduceCtorEq, ↓reduceIte, Nat.reduceAdd, Int.reduceNeg, Nat.reduceLeDiff, Int.reduceToNat, Int.reduceEq, Int.reduceLT, Int.reduceLE, Int.reduceAdd]
            refine goK_pure (sameNeedsR _ _ (by have h4 := dd_len l []; simp at h4; simp only [Big]; omega)) ?_
            simp (disch := first | omega | assumption) only [steps, st2, pev, rev, oev, optr, ibin, sbin, ishf, bound, mmAll, mm2, mk, mkArgs, AV.cells, AV.boxable, AV.one, AV.strip1, fillA, fillS, Nat.reduceEqDiff, reduceCtorEq, ↓reduceIte, Nat.reduceAdd, Int.reduceNeg, Nat.reduceLeDiff, Int.reduceToNat, Int.reduceEq, Int.reduceLT, Int.reduceLE, Int.reduceAdd]
            refine goK_pure awakeB ?_
            simp (disch := first | omega | assumption) only [steps, st2, pev, rev, oev, optr, ibin, sbin, ishf, bound, mmAll, mm2, mk, mkArgs, AV.cells, AV.boxable, AV.one, AV.strip1, fillA, fillS, Nat.reduceEqDiff, reduceCtorEq, ↓reduceIte, Nat.reduceAdd, Int.reduceNeg, Nat.reduceLeDiff, Int.reduceToNat, Int.reduceEq, Int.reduceLT, Int.reduceLE, Int.reduceAdd]
            exact hQ _ _ _ _ nofun rfl (by simp [tupOf, envOf, AV.strip, AV.strip1])
          · rintro done x rest ⟨⟩ H2 J2 hd hlt2 hlt2' ⟨es2, hc2, hok2, hlk2⟩ hJ2
            have hg := cNs_get hd
            simp (disch := first | omega | assumption) only [hfll, hlt2, hg, cN_len, cN_take, Int.reduceToNat, steps, st2, pev, rev, oev, optr, ibin, sbin, ishf, bound, mmAll, mm2, mk, mkArgs, AV.cells, AV.boxable, AV.one, AV.strip1, fillA, fillS, Nat.reduceEqDiff, reduceCtorEq, ↓reduceIte, Nat.reduceAdd, Int.reduceNeg, Nat.reduceLeDiff, Int.reduceToNat, Int.reduceEq, Int.reduceLT, Int.reduceLE, Int.reduceAdd]
            refine goK_ret (ACalls.low (tellC hc2 x ⟨[], [], [], false, true, 0⟩ (by simp))) fun v H3 ⟨hv, hH⟩ => ?_
            subst hv; subst hH
            simp (disch := first | omega | assumption) only [wrap64, steps, st2, pev, rev, oev, optr, ibin, sbin, ishf, bound, mmAll, mm2, mk, mkArgs, AV.cells, AV.boxable, AV.one, AV.strip1, fillA, fillS, Nat.reduceEqDiff, reduceCtorEq, ↓reduceIte, Nat.reduceAdd, Int.reduceNeg, Nat.reduceLeDiff, Int.reduceToNat, Int.reduceEq, Int.reduceLT, Int.reduceLE, Int.reduceAdd]
            refine goJ (hJ2 () _ ⟨_, hc2.upd x ⟨[], [], [], false, true, 0⟩, hok2.put (by simp), fun n => ?_⟩) (by simp (disch := first | omega | assumption) only [hfll, steps, st2, pev, rev, oev, optr, ibin, sbin, ishf, bound, mmAll, mm2, mk, mkArgs, AV.cells, AV.boxable, AV.one, AV.strip1, fillA, fillS, Nat.reduceEqDiff, reduceCtorEq, ↓reduceIte, Nat.reduceAdd, Int.reduceNeg, Nat.reduceLeDiff, Int.reduceToNat, Int.reduceEq, Int.reduceLT, Int.reduceLE, Int.reduceAdd])
            rw [look_put]
            by_cases hn : n = x
            · simp [hn]
            · simp [hn, hlk2 n]
        · rintro done x rest ⟨⟩ H1' J1 hd hlt1 hlt1' hs hJ1
          have hg := cNs_get hd
          have hxf : x ∈ f := by rw [hd]; simp
          obtain ⟨hxl, hxk⟩ := (hfm x).1 hxf
          have hx0 : (lookG es x).isSome = false := by rw [hlk]; simp [hxk]
          have hx1 : lookG es x = none := by cases h : lookG es x <;> simp_all
          have hxd : x ∉ done := fun hm => by rw [hd, List.nodup_append] at hfn; exact hfn.2.2 x hm x (List.mem_cons_self ..) rfl
          simp (disch := first | omega | assumption) only [hfll, hlt1, hg, cN_len, cN_take, steps, st2, pev, rev, oev, optr, ibin, sbin, ishf, bound, mmAll, mm2, mk, mkArgs, AV.cells, AV.boxable, AV.one, AV.strip1, fillA, fillS, Nat.reduceEqDiff, reduceCtorEq, ↓reduceIte, Nat.reduceAdd, Int.reduceNeg, Nat.reduceLeDiff, Int.reduceToNat, Int.reduceEq, Int.reduceLT, Int.reduceLE, Int.reduceAdd]
          refine goK_ret (knowC (hc.sub hs) hok x) fun v H2 ⟨hv, hH⟩ => ?_
          subst hv; subst hH
          rw [hx1]
          simp (disch := first | omega | assumption) only [Option.getD_none, Option.isSome_none, cG, g0, steps, st2, pev, rev, oev, optr, ibin, sbin, ishf, bound, mmAll, mm2, mk, mkArgs, AV.cells, AV.boxable, AV.one, AV.strip1, fillA, fillS, Nat.reduceEqDiff, reduceCtorEq, ↓reduceIte, Nat.reduceAdd, Int.reduceNeg, Nat.reduceLeDiff, Int.reduceToNat, Int.reduceEq, Int.reduceLT, Int.reduceLE, Int.reduceAdd]
          refine goA_intro fun b9 hb9 => ?_
          simp (disch := first | omega | assumption) only [hfll, hlt1, hg, cN_len, cN_take, steps, st2, pev, rev, oev, optr, ibin, sbin, ishf, bound, mmAll, mm2, mk, mkArgs, AV.cells, AV.boxable, AV.one, AV.strip1, fillA, fillS, Nat.reduceEqDiff, reduceCtorEq, ↓reduceIte, Nat.reduceAdd, Int.reduceNeg, Nat.reduceLeDiff, Int.reduceToNat, Int.reduceEq, Int.reduceLT, Int.reduceLE, Int.reduceAdd]
          refine goK_pure (hasNeedR k (by simp only [Big]; omega) x) ?_
          simp (disch := first | omega | assumption) only [hxk, hfll, hlt1, hg, cN_len, cN_take, steps, st2, pev, rev, oev, optr, ibin, sbin, ishf, bound, mmAll, mm2, mk, mkArgs, AV.cells, AV.boxable, AV.one, AV.strip1, fillA, fillS, Nat.reduceEqDiff, reduceCtorEq, ↓reduceIte, Nat.reduceAdd, Int.reduceNeg, Nat.reduceLeDiff, Int.reduceToNat, Int.reduceEq, Int.reduceLT, Int.reduceLE, Int.reduceAdd]
          refine goK_pure (hasNeedR l (by simp only [Big]; omega) x) ?_
          have htk : (cNs f).take done.length = cNs done := by rw [hd]; simp [cNs]
          have hle1 : (done.length : Int) ≤ f.length := by omega
          simp (disch := first | omega | assumption) only [hxl, hfll, hlt1, hg, cN_len, cN_take, htk, hle1, Option.isNone_some, steps, st2, pev, rev, oev, optr, ibin, sbin, ishf, bound, mmAll, mm2, mk, mkArgs, AV.cells, AV.boxable, AV.one, AV.strip1, fillA, fillS, Nat.reduceEqDiff, reduceCtorEq, ↓reduceIte, Nat.reduceAdd, Int.reduceNeg, Nat.reduceLeDiff, Int.reduceToNat, Int.reduceEq, Int.reduceLT, Int.reduceLE, Int.reduceAdd]
          refine goK_pure (hasNeedR done (by simp only [Big]; omega) x) ?_
          simp (disch := first | omega | assumption) only [hxd, wrap64, steps, st2, pev, rev, oev, optr, ibin, sbin, ishf, bound, mmAll, mm2, mk, mkArgs, AV.cells, AV.boxable, AV.one, AV.strip1, fillA, fillS, Nat.reduceEqDiff, reduceCtorEq, ↓reduceIte, Nat.reduceAdd, Int.reduceNeg, Nat.reduceLeDiff, Int.reduceToNat, Int.reduceEq, Int.reduceLT, Int.reduceLE, Int.reduceAdd]
          exact goJ (hJ1 () _ (sub_upd hs hb9)) (by simp (disch := first | omega | assumption) only [hfll, steps, st2, pev, rev, oev, optr, ibin, sbin, ishf, bound, mmAll, mm2, mk, mkArgs, AV.cells, AV.boxable, AV.one, AV.strip1, fillA, fillS, Nat.reduceEqDiff, reduceCtorEq, ↓reduceIte, Nat.reduceAdd, Int.reduceNeg, Nat.reduceLeDiff, Int.reduceToNat, Int.reduceEq, Int.reduceLT, Int.reduceLE, Int.reduceAdd])
      · rintro done x rest ⟨⟩ H2 J2 hd hlt2 hlt2' ⟨es2, hc2, hok2, hlk2⟩ hJ2
        have hg := cNs_get hd
        simp (disch := first | omega | assumption) only [hkl, hlt2, hg, cN_len, cN_take, steps, st2, pev, rev, oev, optr, ibin, sbin, ishf, bound, mmAll, mm2, mk, mkArgs, AV.cells, AV.boxable, AV.one, AV.strip1, fillA, fillS, Nat.reduceEqDiff, reduceCtorEq, ↓reduceIte, Nat.reduceAdd, Int.reduceNeg, Nat.reduceLeDiff, Int.reduceToNat, Int.reduceEq, Int.reduceLT, Int.reduceLE, Int.reduceAdd]
        refine goK_ret (ACalls.low (tellC hc2 x g0 (by simp [g0]))) fun v H3 ⟨hv, hH⟩ => ?_
        subst hv; subst hH
        simp (disch := first | omega | assumption) only [wrap64, steps, st2, pev, rev, oev, optr, ibin, sbin, ishf, bound, mmAll, mm2, mk, mkArgs, AV.cells, AV.boxable, AV.one, AV.strip1, fillA, fillS, Nat.reduceEqDiff, reduceCtorEq, ↓reduceIte, Nat.reduceAdd, Int.reduceNeg, Nat.reduceLeDiff, Int.reduceToNat, Int.reduceEq, Int.reduceLT, Int.reduceLE, Int.reduceAdd]
        refine goJ (hJ2 () _ ⟨_, hc2.upd x g0, hok2.put (by simp [g0]), fun n => ?_⟩) (by simp (disch := first | omega | assumption) only [hkl, steps, st2, pev, rev, oev, optr, ibin, sbin, ishf, bound, mmAll, mm2, mk, mkArgs, AV.cells, AV.boxable, AV.one, AV.strip1, fillA, fillS, Nat.reduceEqDiff, reduceCtorEq, ↓reduceIte, Nat.reduceAdd, Int.reduceNeg, Nat.reduceLeDiff, Int.reduceToNat, Int.reduceEq, Int.reduceLT, Int.reduceLE, Int.reduceAdd])
        rw [look_put]
        by_cases hn : n = x
        · simp [hn]
        · simp [hn, hlk2 n]
    · have h2 : lightB l = false := by simpa using h2
      simp (disch := first | omega | assumption) only [h2, steps, st2, pev, rev, oev, optr, ibin, sbin, ishf, bound, mmAll, mm2, mk, mkArgs, AV.cells, AV.boxable, AV.one, AV.strip1, fillA, fillS, Nat.reduceEqDiff, reduceCtorEq, ↓reduceIte, Nat.reduceAdd, Int.reduceNeg, Nat.reduceLeDiff, Int.reduceToNat, Int.reduceEq, Int.reduceLT, Int.reduceLE, Int.reduceAdd]
      refine goK_pure awakeB ?_
      simp (disch := first | omega | assumption) only [steps, st2, pev, rev, oev, optr, ibin, sbin, ishf, bound, mmAll, mm2, mk, mkArgs, AV.cells, AV.boxable, AV.one, AV.strip1, fillA, fillS, Nat.reduceEqDiff, reduceCtorEq, ↓reduceIte, Nat.reduceAdd, Int.reduceNeg, Nat.reduceLeDiff, Int.reduceToNat, Int.reduceEq, Int.reduceLT, Int.reduceLE, Int.reduceAdd]
      exact hQ _ _ _ _ nofun rfl (by simp [tupOf, envOf, AV.strip, AV.strip1])
  · have h1 : lightB k = false := by simpa using h1
    simp (disch := first | omega | assumption) only [h1, steps, st2, pev, rev, oev, optr, ibin, sbin, ishf, bound, mmAll, mm2, mk, mkArgs, AV.cells, AV.boxable, AV.one, AV.strip1, fillA, fillS, Nat.reduceEqDiff, reduceCtorEq, ↓reduceIte, Nat.reduceAdd, Int.reduceNeg, Nat.reduceLeDiff, Int.reduceToNat, Int.reduceEq, Int.reduceLT, Int.reduceLE, Int.reduceAdd]
    refine goK_pure awakeB ?_
    simp (disch := first | omega | assumption) only [steps, st2, pev, rev, oev, optr, ibin, sbin, ishf, bound, mmAll, mm2, mk, mkArgs, AV.cells, AV.boxable, AV.one, AV.strip1, fillA, fillS, Nat.reduceEqDiff, reduceCtorEq, ↓reduceIte, Nat.reduceAdd, Int.reduceNeg, Nat.reduceLeDiff, Int.reduceToNat, Int.reduceEq, Int.reduceLT, Int.reduceLE, Int.reduceAdd]
    exact hQ _ _ _ _ nofun rfl (by simp [tupOf, envOf, AV.strip, AV.strip1])
end Go.Proofs.Ythkpgjnibolnhaa
