/- Batches: batch.Plan, walked. -/
import Derived.Test.YthkpgjnibolnhaaBatP
set_option maxRecDepth 100000
set_option linter.unusedSimpArgs false
set_option linter.unusedVariables false
namespace Go.Proofs.Ythkpgjnibolnhaa
open Go.Ab

def sepE (e : List (List UInt8 × Own)) (l : List Need) : List (Own × Nat × Nat) := e.map fun p => (p.2, (keysOf p.1 l).length, 1)
theorem sepE_other {l : List Need} {x : Need} (e : List (List UInt8 × Own)) (h : x.t ∉ e.map (·.1)) : sepE e (l ++ [x]) = sepE e l := by
  refine List.map_congr_left fun p hp => ?_
  have : x.t ≠ p.1 := fun e' => h (e' ▸ List.mem_map.2 ⟨p, hp, rfl⟩)
  rw [keysOf_app]; simp [this]

/-- How things stand in the first loop. -/
structure PlA (bm : Nat) (done : List Need) (o1 : Own) (ts : List (List UInt8)) (H : Heap) : Prop where
  tab : ts = dd [] (done.map (·.t))
  map : ∃ e, e.map (·.1) = ts ∧ H bm = some (.map (.one .s) (eM e done)) ∧ Sep H ((o1, ts.length, 1) :: sepE e done)

theorem tabs_len (done : List Need) : (dd [] (done.map (·.t))).length ≤ done.length := by
  have := dd_len (done.map (·.t)) []
  simpa using this

theorem keptM {H H' : Heap} {o : Own} {n sz b : Nat} {kt : KT} {es : List (AV × AV)} (hk : Kept H o H') (ho : Owned H o n sz) (h : H b = some (.map kt es)) : H' b = some (.map kt es) :=
  hk _ _ h fun d e => by subst e; have : H b = some (.tip (d + n) sz) := ho; rw [h] at this; cases this
theorem keptC {H H' : Heap} {o : Own} {n sz b : Nat} {cs : List AV} (hk : Kept H o H') (ho : Owned H o n sz) (h : H b = some (.cells cs)) : H' b = some (.cells cs) :=
  hk _ _ h fun d e => by subst e; have : H b = some (.tip (d + n) sz) := ho; rw [h] at this; cases this

theorem Owned.setC {H : Heap} {o : Own} {n sz b : Nat} {cs cs' : List AV} (h : Owned H o n sz) (hb : H b = some (.cells cs)) : Owned (H.upd b (.cells cs')) o n sz := by
  cases o with
  | tip c d =>
    have hc : H c = some (.tip (d + n) sz) := h
    have hne : c ≠ b := fun e => by subst e; rw [hb] at hc; cases hc
    show (H.upd b _) c = _
    simp [Heap.upd, hne, hc]
  | no => exact h
  | nil => exact h
  | full => exact h

theorem split_first (t : List UInt8) : ∀ e : List (List UInt8 × Own), t ∈ e.map (·.1) → ∃ a w b, e = a ++ (t, w) :: b ∧ t ∉ a.map (·.1)
  | [], h => by simp at h
  | (u, w) :: r, h => by
    by_cases hu : t = u
    · subst hu; exact ⟨[], w, r, rfl, by simp⟩
    · simp only [List.map_cons, List.mem_cons, hu, false_or] at h
      obtain ⟨a, w', b, rfl, ha⟩ := split_first t r h
      exact ⟨(u, w) :: a, w', b, rfl, by simp [hu]; simpa using ha⟩

theorem planA (n : Int) (l : List Need) (hl : l.length ≤ 65536) : Pure Try.prog 16 [.int .i64 n, .sl .no 2 (cNs l)] (.sl .no 2 (cBs (planP (clampS n) l))) := by
  refine Pure.go ir16 ck16 (Nat.le_refl _) fun KP Q hQ => ?_
  have hcl := clamp_pos n
  simp (disch := first | omega | assumption) only [ir16, mmS, steps, st2, pev, rev, oev, optr, ibin, sbin, ishf, bound, mmAll, mk, mkArgs, AV.cells, AV.boxable, AV.one, AV.strip1, fillA, fillS, Nat.reduceEqDiff, reduceCtorEq, ↓reduceIte, Nat.reduceAdd, Int.reduceNeg, Nat.reduceLeDiff, Int.reduceToNat, Int.reduceEq, Int.reduceLT, Int.reduceLE, Int.reduceAdd]
  refine goA_intro fun bm hbm => ?_
  simp (disch := first | omega | assumption) only [steps, st2, pev, rev, oev, optr, ibin, sbin, ishf, bound, mmAll, mm2, mk, mkArgs, AV.cells, AV.boxable, AV.one, AV.strip1, fillA, fillS, Nat.reduceEqDiff, reduceCtorEq, ↓reduceIte, Nat.reduceAdd, Int.reduceNeg, Nat.reduceLeDiff, Int.reduceToNat, Int.reduceEq, Int.reduceLT, Int.reduceLE, Int.reduceAdd]
  refine goK_pure (onceP l (by simp only [Big]; omega)) ?_
  obtain ⟨o, ho⟩ : ∃ o, dd [] l = o := ⟨_, rfl⟩
  have hol : o.length ≤ 65536 := by have := dd_len l []; rw [ho] at this; simp at this; omega
  have hll := cNs_len o
  rw [ho]
  simp (disch := first | omega | assumption) only [hll, steps, st2, pev, rev, oev, optr, ibin, sbin, ishf, bound, mmAll, mm2, mk, mkArgs, AV.cells, AV.boxable, AV.one, AV.strip1, fillA, fillS, Nat.reduceEqDiff, reduceCtorEq, ↓reduceIte, Nat.reduceAdd, Int.reduceNeg, Nat.reduceLeDiff, Int.reduceToNat, Int.reduceEq, Int.reduceLT, Int.reduceLE, Int.reduceAdd]
  refine goL_range o 22 (fun s : Own × List (List UInt8) => [(5, .sl s.1 1 (cT s.2))]) (fun done rest s H => PlA bm done s.1 s.2 H) (.nil, []) (by simp (disch := first | omega | assumption) only [steps, st2, pev, rev, oev, optr, ibin, sbin, ishf, bound, mmAll, mm2, mk, mkArgs, AV.cells, AV.boxable, AV.one, AV.strip1, fillA, fillS, Nat.reduceEqDiff, reduceCtorEq, ↓reduceIte, Nat.reduceAdd, Int.reduceNeg, Nat.reduceLeDiff, Int.reduceToNat, Int.reduceEq, Int.reduceLT, Int.reduceLE, Int.reduceAdd] <;> simp [cT]) ⟨rfl, [], rfl, by rw [upd_same]; rfl, ⟨by simp [sepE, Owned], by simp [sepE, tipOf]⟩⟩ ?_ ?_
  · rintro ⟨o1, ts⟩ H J hA hlt
    obtain ⟨hts, e, he, hm, hsep⟩ := hA
    simp only at hts he
    have htl := cT_len ts
    have hpl : (planP (clampS n) l).length ≤ 4294967296 := by
      have h1 : ∀ t ∈ dd [] (o.map (·.t)), ((chunks (clampS n) (keysOf t o)).map fun c => (⟨t, c⟩ : Batch)).length ≤ 65536 := fun t _ => by
        rw [List.length_map]
        have := chunks_le (clampS n) hcl.1 (keysOf t o)
        have := keysOf_len t o
        omega
      have h2 := flatMap_len _ _ _ h1
      have h3 := tabs_len o
      simp only [planP, ho]
      exact Nat.le_trans h2 (Nat.le_trans (Nat.mul_le_mul_right 65536 (Nat.le_trans h3 hol)) (by decide))
    have htl2 := tabs_len o
    rw [← hts] at htl2
    simp (disch := first | omega | assumption) only [hll, hlt, steps, st2, pev, rev, oev, optr, ibin, sbin, ishf, bound, mmAll, mm2, mk, mkArgs, AV.cells, AV.boxable, AV.one, AV.strip1, fillA, fillS, Nat.reduceEqDiff, reduceCtorEq, ↓reduceIte, Nat.reduceAdd, Int.reduceNeg, Nat.reduceLeDiff, Int.reduceToNat, Int.reduceEq, Int.reduceLT, Int.reduceLE, Int.reduceAdd]
    refine goA_intro fun b11 hb11 => ?_
    have hmne := ne_of_none hb11 hm
    simp (disch := first | omega | assumption) only [htl, steps, st2, pev, rev, oev, optr, ibin, sbin, ishf, bound, mmAll, mm2, mk, mkArgs, AV.cells, AV.boxable, AV.one, AV.strip1, fillA, fillS, Nat.reduceEqDiff, reduceCtorEq, ↓reduceIte, Nat.reduceAdd, Int.reduceNeg, Nat.reduceLeDiff, Int.reduceToNat, Int.reduceEq, Int.reduceLT, Int.reduceLE, Int.reduceAdd]
    refine goL_range ts 54 (fun _ : Unit => []) (fun done rest _ H' => ∃ o2 out, out ++ (rest.flatMap fun t => (chunks (clampS n) (keysOf t o)).map fun c => (⟨t, c⟩ : Batch)) = planP (clampS n) l ∧ H' b11 = some (.cells [.sl o2 2 (cBs out)]) ∧ Owned H' o2 out.length 2 ∧ H' bm = some (.map (.one .s) (eM e o))) ()
      (by simp (disch := first | omega | assumption) only [steps, st2, pev, rev, oev, optr, ibin, sbin, ishf, bound, mmAll, mm2, mk, mkArgs, AV.cells, AV.boxable, AV.one, AV.strip1, fillA, fillS, Nat.reduceEqDiff, reduceCtorEq, ↓reduceIte, Nat.reduceAdd, Int.reduceNeg, Nat.reduceLeDiff, Int.reduceToNat, Int.reduceEq, Int.reduceLT, Int.reduceLE, Int.reduceAdd]) ⟨.nil, [], by rw [List.nil_append, hts]; simp only [planP, ho], upd_same .., rfl, by rw [upd_ne (Ne.symm hmne)]; exact hm⟩ ?_ ?_
    · rintro ⟨⟩ H J ⟨o2, out, hout, h11, how, hm⟩ hlt
      simp only [List.flatMap_nil, List.append_nil] at hout
      simp (disch := first | omega | assumption) only [htl, hlt, h11, steps, st2, pev, rev, oev, optr, ibin, sbin, ishf, bound, mmAll, mm2, mk, mkArgs, AV.cells, AV.boxable, AV.one, AV.strip1, fillA, fillS, Nat.reduceEqDiff, reduceCtorEq, ↓reduceIte, Nat.reduceAdd, Int.reduceNeg, Nat.reduceLeDiff, Int.reduceToNat, Int.reduceEq, Int.reduceLT, Int.reduceLE, Int.reduceAdd]
      exact hQ _ _ _ _ nofun rfl (by simp [tupOf, envOf, AV.strip, AV.strip1, hout])
    · rintro done t rest ⟨⟩ H J hd hlt hlt' ⟨o2, out, hout, h11, how, hm⟩ hJ
      have hg := cT_get hd
      have hfit : KT.fits (.one .s) (.str t) = true := rfl
      simp (disch := first | omega | assumption) only [htl, hlt, hg, steps, st2, pev, rev, oev, optr, ibin, sbin, ishf, bound, mmAll, mm2, mk, mkArgs, AV.cells, AV.boxable, AV.one, AV.strip1, fillA, fillS, Nat.reduceEqDiff, reduceCtorEq, ↓reduceIte, Nat.reduceAdd, Int.reduceNeg, Nat.reduceLeDiff, Int.reduceToNat, Int.reduceEq, Int.reduceLT, Int.reduceLE, Int.reduceAdd]
      refine goA_intro fun b13 hb13 => ?_
      have hn1 := ne_of_none hb13 hm
      have hn2 := ne_of_none hb13 h11
      obtain ⟨a, w, b, rfl, hxa⟩ := split_first t e (by rw [he, hd]; simp)
      have hmg := mget_eM1 t w o b a hxa
      simp (disch := first | omega | assumption) only [hm, hmg, hn1, Ne.symm hn1, lkres, Option.getD_some, hfit, steps, st2, pev, rev, oev, optr, ibin, sbin, ishf, bound, mmAll, mm2, mk, mkArgs, AV.cells, AV.boxable, AV.one, AV.strip1, fillA, fillS, Nat.reduceEqDiff, reduceCtorEq, ↓reduceIte, Nat.reduceAdd, Int.reduceNeg, Nat.reduceLeDiff, Int.reduceToNat, Int.reduceEq, Int.reduceLT, Int.reduceLE, Int.reduceAdd]
      obtain ⟨ks, hks⟩ : ∃ ks, keysOf t o = ks := ⟨_, rfl⟩
      have hkl := keysOf_len t o
      simp only [List.flatMap_cons] at hout
      rw [hks] at hkl hout
      rw [hks]
      refine goK_pure (Pure.low (chunkP (clampS n) hcl.1 ks)) ?_
      simp (disch := first | omega | assumption) only [steps, st2, pev, rev, oev, optr, ibin, sbin, ishf, bound, mmAll, mm2, mk, mkArgs, AV.cells, AV.boxable, AV.one, AV.strip1, fillA, fillS, Nat.reduceEqDiff, reduceCtorEq, ↓reduceIte, Nat.reduceAdd, Int.reduceNeg, Nat.reduceLeDiff, Int.reduceToNat, Int.reduceEq, Int.reduceLT, Int.reduceLE, Int.reduceAdd]
      have hXl : (cX (clampS n) ks).length = (chunks (clampS n) ks).length := by simp [cX]
      refine goC_rfun (chunk1S (clampS n) hcl.1 hcl.2 ks (by simp only [Big]; omega)) (by simp (disch := first | omega | assumption) only [steps, st2, pev, rev, oev, optr, ibin, sbin, ishf, bound, mmAll, mm2, mk, mkArgs, AV.cells, AV.boxable, AV.one, AV.strip1, fillA, fillS, Nat.reduceEqDiff, reduceCtorEq, ↓reduceIte, Nat.reduceAdd, Int.reduceNeg, Nat.reduceLeDiff, Int.reduceToNat, Int.reduceEq, Int.reduceLT, Int.reduceLE, Int.reduceAdd]) (by kernel_rfl) (fun x hx => by obtain ⟨c, _, rfl⟩ := List.mem_map.1 hx; rfl)
        (fun k H' => ∃ o3 out3, out3 = out ++ ((chunks (clampS n) ks).take k).map (fun c => (⟨t, c⟩ : Batch)) ∧ H' b11 = some (.cells [.sl o3 2 (cBs out3)]) ∧ Owned H' o3 out3.length 2 ∧ H' bm = some (.map (.one .s) (eM (a ++ (t, w) :: b) o)) ∧ H' b13 = some (.cells [.str t])) ?_ ?_ ?_
      · refine ⟨o2, out, by simp, ?_, ?_, ?_, ?_⟩
        · simp [Heap.upd, Ne.symm hn2, h11]
        · exact Owned.upd how hb13
        · simp [Heap.upd, Ne.symm hn1, hm]
        · simp [Heap.upd]
      · rintro k x H3 Q2 hx ⟨o3, out3, rfl, h11', how3, hm3, h13⟩ hQ2
        obtain ⟨hk, hx⟩ := List.getElem?_eq_some_iff.1 hx
        rw [hXl] at hk
        simp only [cX, List.getElem_map] at hx
        subst hx
        obtain ⟨c, hc⟩ : ∃ c, (chunks (clampS n) ks)[k] = c := ⟨_, rfl⟩
        rw [hc]
        have hcl2 : c.length ≤ Big := by
          rw [← hc]
          simp only [chunks, List.getElem_map, List.length_take, Big]
          omega
        have hcB := cBs_len (out ++ ((chunks (clampS n) ks).take k).map (fun c => (⟨t, c⟩ : Batch)))
        have hbl : (out ++ ((chunks (clampS n) ks).take k).map (fun c => (⟨t, c⟩ : Batch))).length ≤ 4294967296 := by
          rw [← hout] at hpl
          simp only [List.length_append, List.length_map, List.length_take] at hpl ⊢
          omega
        simp (disch := first | omega | assumption) only [setPs, h11', h13, steps, st2, pev, rev, oev, optr, ibin, sbin, ishf, bound, mmAll, mm2, mk, mkArgs, AV.cells, AV.boxable, AV.one, AV.strip1, fillA, fillS, Nat.reduceEqDiff, reduceCtorEq, ↓reduceIte, Nat.reduceAdd, Int.reduceNeg, Nat.reduceLeDiff, Int.reduceToNat, Int.reduceEq, Int.reduceLT, Int.reduceLE, Int.reduceAdd]
        refine goK_pure (Pure.low (cloneT c hcl2)) ?_
        simp (disch := first | omega | assumption) only [h11', h13, steps, st2, pev, rev, oev, optr, ibin, sbin, ishf, bound, mmAll, mm2, mk, mkArgs, AV.cells, AV.boxable, AV.one, AV.strip1, fillA, fillS, Nat.reduceEqDiff, reduceCtorEq, ↓reduceIte, Nat.reduceAdd, Int.reduceNeg, Nat.reduceLeDiff, Int.reduceToNat, Int.reduceEq, Int.reduceLT, Int.reduceLE, Int.reduceAdd]
        refine goP_ownS (by rw [hcB]; exact how3) ?_ ?_ fun o4 H4 hos => ?_
        · simp only [hcB, List.length_cons, List.length_nil]; omega
        · simp only [hcB, List.length_cons, List.length_nil, maxLen]; omega
        simp only [hcB, List.length_cons, List.length_nil, Nat.zero_add] at hos
        have k11 := keptC hos.kept how3 h11'
        have k13 := keptC hos.kept how3 h13
        have km := keptM hos.kept how3 hm3
        have hne' : b11 ≠ bm := fun e => by subst e; rw [k11] at km; cases km
        have hne2 : b11 ≠ b13 := Ne.symm hn2
        simp (disch := first | omega | assumption) only [k11, AV.strip1, steps, st2, pev, rev, oev, optr, ibin, sbin, ishf, bound, mmAll, mm2, mk, mkArgs, AV.cells, AV.boxable, AV.one, AV.strip1, fillA, fillS, Nat.reduceEqDiff, reduceCtorEq, ↓reduceIte, Nat.reduceAdd, Int.reduceNeg, Nat.reduceLeDiff, Int.reduceToNat, Int.reduceEq, Int.reduceLT, Int.reduceLE, Int.reduceAdd]
        refine hQ2 _ _ ⟨o4, out ++ ((chunks (clampS n) ks).take (k + 1)).map (fun c => (⟨t, c⟩ : Batch)), rfl, ?_, ?_, ?_, ?_⟩
        · rw [upd_same, List.take_succ_eq_append_getElem hk, hc]
          simp [cBs, cB]
        · have := Owned.setC (cs' := [.sl o4 2 (cBs (out ++ ((chunks (clampS n) ks).take k).map (fun c => (⟨t, c⟩ : Batch))) ++ [[.str t, .sl .no 1 (cT c)]])]) hos.own k11
          simpa [List.take_succ_eq_append_getElem hk, hc, Nat.add_assoc] using this
        · rw [upd_ne (Ne.symm hne')]; exact km
        · rw [upd_ne (Ne.symm hne2)]; exact k13
      · rintro H3 ⟨o3, out3, rfl, h11', how3, hm3, h13⟩
        rw [hXl, List.take_length] at h11' how3
        simp (disch := first | omega | assumption) only [wrap64, steps, st2, pev, rev, oev, optr, ibin, sbin, ishf, bound, mmAll, mm2, mk, mkArgs, AV.cells, AV.boxable, AV.one, AV.strip1, fillA, fillS, Nat.reduceEqDiff, reduceCtorEq, ↓reduceIte, Nat.reduceAdd, Int.reduceNeg, Nat.reduceLeDiff, Int.reduceToNat, Int.reduceEq, Int.reduceLT, Int.reduceLE, Int.reduceAdd]
        refine goJ (hJ () _ ⟨o3, _, ?_, h11', how3, hm3⟩) (by simp (disch := first | omega | assumption) only [htl, steps, st2, pev, rev, oev, optr, ibin, sbin, ishf, bound, mmAll, mm2, mk, mkArgs, AV.cells, AV.boxable, AV.one, AV.strip1, fillA, fillS, Nat.reduceEqDiff, reduceCtorEq, ↓reduceIte, Nat.reduceAdd, Int.reduceNeg, Nat.reduceLeDiff, Int.reduceToNat, Int.reduceEq, Int.reduceLT, Int.reduceLE, Int.reduceAdd])
        rw [← hout, List.append_assoc]
  · rintro done x rest ⟨o1, ts⟩ H J hd hlt hlt' ⟨hts, e, he, hm, hsep⟩ hJ
    have hg := cNs_get hd
    obtain ⟨xt, xk⟩ := x
    simp only at hts he hsep
    have htl := cT_len ts
    have htl2 := tabs_len done
    rw [← hts] at htl2
    have hfit : KT.fits (.one .s) (.str xt) = true := rfl
    have hkl := keysOf_len xt done
    have hkc := cT_len (keysOf xt done)
    have ho1 := hsep.own _ (List.mem_cons_self ..)
    simp only at ho1
    simp (disch := first | omega | assumption) only [hll, hlt, hg, cN, steps, st2, pev, rev, oev, optr, ibin, sbin, ishf, bound, mmAll, mm2, mk, mkArgs, AV.cells, AV.boxable, AV.one, AV.strip1, fillA, fillS, Nat.reduceEqDiff, reduceCtorEq, ↓reduceIte, Nat.reduceAdd, Int.reduceNeg, Nat.reduceLeDiff, Int.reduceToNat, Int.reduceEq, Int.reduceLT, Int.reduceLE, Int.reduceAdd]
    refine goA_intro fun b1 hb1 => ?_
    have hne := ne_of_none hb1 hm
    have hH1 : (H.upd b1 (.cells [.str xt, .str xk])) bm = some (.map (.one .s) (eM e done)) := by rw [upd_ne (Ne.symm hne)]; exact hm
    have hsep1 : Sep (H.upd b1 (.cells [.str xt, .str xk])) ((o1, ts.length, 1) :: sepE e done) := hsep.mono fun c n sz hc => by
      have : c ≠ b1 := fun e => by subst e; rw [hb1] at hc; cases hc
      simp [Heap.upd, this, hc]
    by_cases hx : xt ∈ ts
    · obtain ⟨a, w, b, rfl, hxa⟩ := split_first xt e (by rw [he]; exact hx)
      have hxb : xt ∉ b.map (·.1) := by
        have hnd := dd_nodup (done.map (·.t)) [] List.nodup_nil
        rw [← hts, ← he] at hnd
        simp only [List.map_append, List.map_cons] at hnd
        rw [List.nodup_append] at hnd
        exact (List.nodup_cons.1 hnd.2.1).1
      have hmg := mget_eM1 xt w done b a hxa
      simp (disch := first | omega | assumption) only [hm, hmg, hne, Ne.symm hne, lkres, Option.getD_some, Option.isSome_some, hfit, wrap64, steps, st2, pev, rev, oev, optr, ibin, sbin, ishf, bound, mmAll, mm2, mk, mkArgs, AV.cells, AV.boxable, AV.one, AV.strip1, fillA, fillS, Nat.reduceEqDiff, reduceCtorEq, ↓reduceIte, Nat.reduceAdd, Int.reduceNeg, Nat.reduceLeDiff, Int.reduceToNat, Int.reduceEq, Int.reduceLT, Int.reduceLE, Int.reduceAdd]
      have hS1 : Sep (H.upd b1 (.cells [.str xt, .str xk])) (((o1, ts.length, 1) :: sepE a done) ++ (w, (keysOf xt done).length, 1) :: sepE b done) := by
        simpa [sepE] using hsep1
      have hw := hS1.own (w, (keysOf xt done).length, 1) (by simp)
      simp only at hw
      refine goP_ownS (by rw [hkc]; exact hw) ?_ ?_ fun o' H2 hos => ?_
      · simp only [hkc, List.length_cons, List.length_nil]; omega
      · simp only [hkc, List.length_cons, List.length_nil, maxLen]; omega
      simp only [hkc, List.length_cons, List.length_nil, Nat.zero_add] at hos
      have hb2 : H2 b1 = some (.cells [.str xt, .str xk]) := keptC hos.kept hw (upd_same ..)
      have hm2 := keptM hos.kept hw hH1
      have hS2 := hS1.step hos
      simp (disch := first | omega | assumption) only [hb2, hm2, wrap64, hfit, AV.strip1, cT_app, steps, st2, pev, rev, oev, optr, ibin, sbin, ishf, bound, mmAll, mm2, mk, mkArgs, AV.cells, AV.boxable, AV.one, AV.strip1, fillA, fillS, Nat.reduceEqDiff, reduceCtorEq, ↓reduceIte, Nat.reduceAdd, Int.reduceNeg, Nat.reduceLeDiff, Int.reduceToNat, Int.reduceEq, Int.reduceLT, Int.reduceLE, Int.reduceAdd]
      have hms := mset_eM1 ⟨xt, xk⟩ w o' done b hxb a hxa
      simp only at hms
      rw [hms]
      refine goJ (hJ (o1, ts) _ ⟨?_, a ++ (xt, o') :: b, ?_, upd_same .., ?_⟩) (by simp (disch := first | omega | assumption) only [hll, steps, st2, pev, rev, oev, optr, ibin, sbin, ishf, bound, mmAll, mm2, mk, mkArgs, AV.cells, AV.boxable, AV.one, AV.strip1, fillA, fillS, Nat.reduceEqDiff, reduceCtorEq, ↓reduceIte, Nat.reduceAdd, Int.reduceNeg, Nat.reduceLeDiff, Int.reduceToNat, Int.reduceEq, Int.reduceLT, Int.reduceLE, Int.reduceAdd])
      · rw [List.map_append, List.map_cons, List.map_nil, dd_app, ← hts, if_pos hx]
      · rw [← he]; simp
      · refine Sep.mono (H := H2) ?_ fun c n sz hc => by
          have : c ≠ bm := fun e => by subst e; rw [hm2] at hc; cases hc
          simp [Heap.upd, this, hc]
        have e1 : sepE (a ++ (xt, o') :: b) (done ++ [⟨xt, xk⟩]) = sepE a done ++ (o', (keysOf xt done).length + 1, 1) :: sepE b done := by
          have h1 := sepE_other (l := done) (x := ⟨xt, xk⟩) a hxa
          have h2 := sepE_other (l := done) (x := ⟨xt, xk⟩) b hxb
          simp only [sepE, List.map_append, List.map_cons] at h1 h2 ⊢
          rw [h1, h2, keysOf_app]
          simp
        rw [e1]
        simpa using hS2
    · have hmg := mget_eM0 xt done e (by rw [he]; exact hx)
      simp (disch := first | omega | assumption) only [hm, hmg, hne, Ne.symm hne, lkres, Option.getD_none, Option.isSome_none, hfit, wrap64, steps, st2, pev, rev, oev, optr, ibin, sbin, ishf, bound, mmAll, mm2, mk, mkArgs, AV.cells, AV.boxable, AV.one, AV.strip1, fillA, fillS, Nat.reduceEqDiff, reduceCtorEq, ↓reduceIte, Nat.reduceAdd, Int.reduceNeg, Nat.reduceLeDiff, Int.reduceToNat, Int.reduceEq, Int.reduceLT, Int.reduceLE, Int.reduceAdd]
      have ho2 := hsep1.own _ (List.mem_cons_self ..)
      simp only at ho2
      refine goP_ownS (by rw [htl]; exact ho2) ?_ ?_ fun o2 H2 hos => ?_
      · simp only [htl, List.length_cons, List.length_nil]; omega
      · simp only [htl, List.length_cons, List.length_nil, maxLen]; omega
      simp only [htl, List.length_cons, List.length_nil, Nat.zero_add] at hos
      have hb2 : H2 b1 = some (.cells [.str xt, .str xk]) := keptC hos.kept ho2 (upd_same ..)
      have hm2 := keptM hos.kept ho2 hH1
      have hS2 : Sep H2 ((o2, ts.length + 1, 1) :: sepE e done) := Sep.step (a := []) hsep1 hos
      have hknil := keysOf_nil xt done (by rw [hts] at hx; exact fun h => hx ((dd_mem ..).2 (.inr h)))
      simp (disch := first | omega | assumption) only [hb2, hm2, hmg, lkres, Option.getD_none, wrap64, hfit, AV.strip1, cT_app, steps, st2, pev, rev, oev, optr, ibin, sbin, ishf, bound, mmAll, mm2, mk, mkArgs, AV.cells, AV.boxable, AV.one, AV.strip1, fillA, fillS, Nat.reduceEqDiff, reduceCtorEq, ↓reduceIte, Nat.reduceAdd, Int.reduceNeg, Nat.reduceLeDiff, Int.reduceToNat, Int.reduceEq, Int.reduceLT, Int.reduceLE, Int.reduceAdd]
      refine goP_ownS (o := .nil) (xs := []) rfl (by simp) (by simp [maxLen]) fun o' H3 hos3 => ?_
      simp only [List.length_cons, List.length_nil, Nat.zero_add] at hos3
      have hb3 : H3 b1 = some (.cells [.str xt, .str xk]) := hos3.kept _ _ hb2 (fun d e => by cases e)
      have hm3 : H3 bm = some _ := hos3.kept _ _ hm2 (fun d e => by cases e)
      have hS3 : Sep H3 (((o2, ts.length + 1, 1) :: sepE e done) ++ (o', 1, 1) :: []) := Sep.step (o := .nil) (n := 0) (b := []) (by
        refine ⟨fun x hx => ?_, ?_⟩
        · rcases List.mem_append.1 hx with h | h
          · exact hS2.own x h
          · simp only [List.mem_singleton] at h; subst h; rfl
        · rw [List.filterMap_append]; simpa [tipOf] using hS2.nd) hos3
      simp (disch := first | omega | assumption) only [hb3, hm3, wrap64, hfit, AV.strip1, steps, st2, pev, rev, oev, optr, ibin, sbin, ishf, bound, mmAll, mm2, mk, mkArgs, AV.cells, AV.boxable, AV.one, AV.strip1, fillA, fillS, Nat.reduceEqDiff, reduceCtorEq, ↓reduceIte, Nat.reduceAdd, Int.reduceNeg, Nat.reduceLeDiff, Int.reduceToNat, Int.reduceEq, Int.reduceLT, Int.reduceLE, Int.reduceAdd]
      have hms := mset_eM0 ⟨xt, xk⟩ o' done e (by rw [he]; exact hx)
      rw [hknil] at hms
      simp only [cT, List.nil_append, List.map_cons, List.map_nil] at hms
      rw [hms]
      refine goJ (hJ (o2, ts ++ [xt]) _ ⟨?_, e ++ [(xt, o')], ?_, upd_same .., ?_⟩) (by simp (disch := first | omega | assumption) only [hll, steps, st2, pev, rev, oev, optr, ibin, sbin, ishf, bound, mmAll, mm2, mk, mkArgs, AV.cells, AV.boxable, AV.one, AV.strip1, fillA, fillS, Nat.reduceEqDiff, reduceCtorEq, ↓reduceIte, Nat.reduceAdd, Int.reduceNeg, Nat.reduceLeDiff, Int.reduceToNat, Int.reduceEq, Int.reduceLT, Int.reduceLE, Int.reduceAdd])
      · rw [List.map_append, List.map_cons, List.map_nil, dd_app, ← hts, if_neg hx]
      · simp [he]
      · refine Sep.mono (H := H3) ?_ fun c n sz hc => by
          have : c ≠ bm := fun e => by subst e; rw [hm3] at hc; cases hc
          simp [Heap.upd, this, hc]
        have e1 : sepE (e ++ [(xt, o')]) (done ++ [⟨xt, xk⟩]) = sepE e done ++ [(o', 1, 1)] := by
          have h1 := sepE_other (l := done) (x := ⟨xt, xk⟩) e (by rw [he]; exact hx)
          simp only [sepE, List.map_append, List.map_cons, List.map_nil] at h1 ⊢
          rw [h1, keysOf_app, hknil]
          simp
        rw [e1]
        simpa using hS3
end Go.Proofs.Ythkpgjnibolnhaa
