/- Values: variables. -/
import Derived.Test.YtpjafglhdlfnbaaDoorValC
set_option maxRecDepth 100000
set_option linter.unusedSimpArgs false
set_option linter.unusedVariables false
namespace Go.Proofs.YtpjafglhdlfnbaaDoor
open Go.Ab

abbrev OwnR (H : Heap) (o : Own) (sz : Nat) (xs : List (List AV)) : AV → Heap → Prop := fun v H' => ∃ o', v = .sl o' sz xs ∧ OwnS H o H' o' xs.length sz

/-- A contract that hands back one's own slice. -/
abbrev Gives (P : Program) (f : FuncId) (args : List AV) (H : Heap) (o : Own) (sz : Nat) (xs : List (List AV)) : Prop :=
  ACalls P f args H (fun e H' => match e with | .ret v => OwnR H o sz xs v H' | .pan _ => False)

theorem goK_gives {P : Program} {KP : AV → Heap → Prop} {Q : AExit → Env → Heap → Prop} {st : List Fr} {ρ : Env} {H : Heap} {all l : List AItem} {d : Option Nat} {R : List Chk} {f : FuncId} {args : List AV} {o : Own} {sz : Nat} {xs : List (List AV)}
    (h : Gives P f args H o sz xs) (hk : ∀ o' H', OwnS H o H' o' xs.length sz → goR P KP Q all l st R (ρ.set d (.sl o' sz xs)) H') : goK P KP Q all l st d R ρ f args H :=
  goK_both (XP := fun _ _ => False) h (fun v H' ⟨o', e, hs⟩ => by subst e; exact hk o' H' hs) (fun _ _ h => h.elim)

def hasT (s : List UInt8) : List (List UInt8) → Bool
  | [] => false
  | x :: r => if x = s then true else hasT s r
theorem hasT_iff (s : List UInt8) : ∀ l, hasT s l = true ↔ s ∈ l
  | [] => by simp [hasT]
  | x :: r => by
    have := hasT_iff s r
    simp only [hasT, List.mem_cons]
    split
    · rename_i h; simp [h]
    · rename_i h; rw [this]; constructor
      · exact .inr
      · rintro (e | e)
        · exact absurd e.symm h
        · exact e

theorem hasR (l : List (List UInt8)) (s : List UInt8) (hl : l.length ≤ Lim) : Pure Tryd.prog 39 [.sl .no 1 (cT l), .str s] (.bool (hasT s l)) := by
  refine Pure.go ir39 ck39 (Nat.le_refl _) fun KP Q hQ => ?_
  have h1 := cT_len l
  simp only [Lim] at hl
  simp (disch := first | omega | assumption) only [ir39, steps, st2, pev, rev, oev, optr, ibin, sbin, ishf, bound, mmAll, mm2, mk, mkArgs, AV.cells, AV.boxable, AV.one, AV.strip1, fillA, fillS, Nat.reduceEqDiff, reduceCtorEq, ↓reduceIte, Nat.reduceAdd, Int.reduceNeg, Nat.reduceLeDiff, Int.reduceToNat, Int.reduceEq, Int.reduceLT, Int.reduceLE, Int.reduceAdd]
  refine goL_range l 5 (fun _ : Unit => []) (fun done rest n H => hasT s rest = hasT s l) () (by simp (disch := first | omega | assumption) only [steps, st2, pev, rev, oev, optr, ibin, sbin, ishf, bound, mmAll, mm2, mk, mkArgs, AV.cells, AV.boxable, AV.one, AV.strip1, fillA, fillS, Nat.reduceEqDiff, reduceCtorEq, ↓reduceIte, Nat.reduceAdd, Int.reduceNeg, Nat.reduceLeDiff, Int.reduceToNat, Int.reduceEq, Int.reduceLT, Int.reduceLE, Int.reduceAdd]) rfl ?_ ?_
  · rintro n H J hn hlt
    simp (disch := first | omega | assumption) only [h1, hlt, steps, st2, pev, rev, oev, optr, ibin, sbin, ishf, bound, mmAll, mm2, mk, mkArgs, AV.cells, AV.boxable, AV.one, AV.strip1, fillA, fillS, Nat.reduceEqDiff, reduceCtorEq, ↓reduceIte, Nat.reduceAdd, Int.reduceNeg, Nat.reduceLeDiff, Int.reduceToNat, Int.reduceEq, Int.reduceLT, Int.reduceLE, Int.reduceAdd]
    simp only [hasT] at hn
    exact hQ _ _ _ _ nofun rfl (by simp [tupOf, envOf, AV.strip, AV.strip1, ← hn])
  · rintro done x rest n H J hd hlt _ hn hJ
    have hg := cT_get hd
    simp only [hasT] at hn
    by_cases hx : x = s
    · simp only [hx, if_true] at hn
      simp (disch := first | omega | assumption) only [h1, hlt, hg, hx, steps, st2, pev, rev, oev, optr, ibin, sbin, ishf, bound, mmAll, mm2, mk, mkArgs, AV.cells, AV.boxable, AV.one, AV.strip1, fillA, fillS, Nat.reduceEqDiff, reduceCtorEq, ↓reduceIte, Nat.reduceAdd, Int.reduceNeg, Nat.reduceLeDiff, Int.reduceToNat, Int.reduceEq, Int.reduceLT, Int.reduceLE, Int.reduceAdd]
      exact hQ _ _ _ _ nofun rfl (by simp [tupOf, envOf, AV.strip, AV.strip1, ← hn])
    · simp only [hx, if_false] at hn
      simp (disch := first | omega | assumption) only [h1, hlt, hg, hx, steps, st2, pev, rev, oev, optr, ibin, sbin, ishf, bound, mmAll, mm2, mk, mkArgs, AV.cells, AV.boxable, AV.one, AV.strip1, fillA, fillS, Nat.reduceEqDiff, reduceCtorEq, ↓reduceIte, Nat.reduceAdd, Int.reduceNeg, Nat.reduceLeDiff, Int.reduceToNat, Int.reduceEq, Int.reduceLT, Int.reduceLE, Int.reduceAdd]
      exact goJ (hJ () _ hn) (by simp (disch := first | omega | assumption) only [wrap64, steps, st2, pev, rev, oev, optr, ibin, sbin, ishf, bound, mmAll, mm2, mk, mkArgs, AV.cells, AV.boxable, AV.one, AV.strip1, fillA, fillS, Nat.reduceEqDiff, reduceCtorEq, ↓reduceIte, Nat.reduceAdd, Int.reduceNeg, Nat.reduceLeDiff, Int.reduceToNat, Int.reduceEq, Int.reduceLT, Int.reduceLE, Int.reduceAdd])

def idxT (s : List UInt8) : List (List UInt8) → Int → Int
  | [], _ => -1
  | x :: r, i => if s = x then i else idxT s r (i + 1)
theorem idxT_has (s : List UInt8) : ∀ l (i : Int), 0 ≤ i → decide (0 ≤ idxT s l i) = hasT s l
  | [], i, _ => by simp [idxT, hasT]
  | x :: r, i, hi => by
    simp only [idxT, hasT]
    by_cases h : s = x
    · simp [h]; omega
    · simp only [h, Ne.symm h, if_false]; exact idxT_has s r (i + 1) (by omega)

theorem indexC (l : List (List UInt8)) (s : List UInt8) (hl : l.length ≤ Lim) : Pure Tryd.prog 117 [.sl .no 1 (cT l), .str s] (.int .i64 (idxT s l 0)) := by
  refine Pure.go ir117 ck117 (Nat.le_refl _) fun KP Q hQ => ?_
  have h1 := cT_len l
  simp only [Lim] at hl
  simp (disch := first | omega | assumption) only [ir117, h1, steps, st2, pev, rev, oev, optr, ibin, sbin, ishf, bound, mmAll, mm2, mk, mkArgs, AV.cells, AV.boxable, AV.one, AV.strip1, fillA, fillS, Nat.reduceEqDiff, reduceCtorEq, ↓reduceIte, Nat.reduceAdd, Int.reduceNeg, Nat.reduceLeDiff, Int.reduceToNat, Int.reduceEq, Int.reduceLT, Int.reduceLE, Int.reduceAdd]
  refine goL_range l 8 (fun _ : Unit => []) (fun done rest n H => idxT s rest done.length = idxT s l 0) () (by simp (disch := first | omega | assumption) only [steps, st2, pev, rev, oev, optr, ibin, sbin, ishf, bound, mmAll, mm2, mk, mkArgs, AV.cells, AV.boxable, AV.one, AV.strip1, fillA, fillS, Nat.reduceEqDiff, reduceCtorEq, ↓reduceIte, Nat.reduceAdd, Int.reduceNeg, Nat.reduceLeDiff, Int.reduceToNat, Int.reduceEq, Int.reduceLT, Int.reduceLE, Int.reduceAdd]) rfl ?_ ?_
  · rintro n H J hn hlt
    simp (disch := first | omega | assumption) only [h1, hlt, steps, st2, pev, rev, oev, optr, ibin, sbin, ishf, bound, mmAll, mm2, mk, mkArgs, AV.cells, AV.boxable, AV.one, AV.strip1, fillA, fillS, Nat.reduceEqDiff, reduceCtorEq, ↓reduceIte, Nat.reduceAdd, Int.reduceNeg, Nat.reduceLeDiff, Int.reduceToNat, Int.reduceEq, Int.reduceLT, Int.reduceLE, Int.reduceAdd]
    simp only [idxT] at hn
    exact hQ _ _ _ _ nofun rfl (by simp [tupOf, envOf, AV.strip, AV.strip1, ← hn])
  · rintro done x rest n H J hd hlt _ hn hJ
    have hg := cT_get hd
    simp only [idxT] at hn
    by_cases hx : s = x
    · subst hx
      simp only [if_true] at hn
      simp (disch := first | omega | assumption) only [h1, hlt, hg, steps, st2, pev, rev, oev, optr, ibin, sbin, ishf, bound, mmAll, mm2, mk, mkArgs, AV.cells, AV.boxable, AV.one, AV.strip1, fillA, fillS, Nat.reduceEqDiff, reduceCtorEq, ↓reduceIte, Nat.reduceAdd, Int.reduceNeg, Nat.reduceLeDiff, Int.reduceToNat, Int.reduceEq, Int.reduceLT, Int.reduceLE, Int.reduceAdd]
      exact hQ _ _ _ _ nofun rfl (by simp [tupOf, envOf, AV.strip, AV.strip1, ← hn])
    · simp only [hx, if_false] at hn
      simp (disch := first | omega | assumption) only [h1, hlt, hg, hx, steps, st2, pev, rev, oev, optr, ibin, sbin, ishf, bound, mmAll, mm2, mk, mkArgs, AV.cells, AV.boxable, AV.one, AV.strip1, fillA, fillS, Nat.reduceEqDiff, reduceCtorEq, ↓reduceIte, Nat.reduceAdd, Int.reduceNeg, Nat.reduceLeDiff, Int.reduceToNat, Int.reduceEq, Int.reduceLT, Int.reduceLE, Int.reduceAdd]
      exact goJ (hJ () _ (by simpa using hn)) (by simp (disch := first | omega | assumption) only [wrap64, steps, st2, pev, rev, oev, optr, ibin, sbin, ishf, bound, mmAll, mm2, mk, mkArgs, AV.cells, AV.boxable, AV.one, AV.strip1, fillA, fillS, Nat.reduceEqDiff, reduceCtorEq, ↓reduceIte, Nat.reduceAdd, Int.reduceNeg, Nat.reduceLeDiff, Int.reduceToNat, Int.reduceEq, Int.reduceLT, Int.reduceLE, Int.reduceAdd])

theorem containsC (l : List (List UInt8)) (s : List UInt8) (hl : l.length ≤ Lim) : Pure Tryd.prog 96 [.sl .no 1 (cT l), .str s] (.bool (hasT s l)) := by
  refine Pure.go ir96 ck96 (Nat.le_refl _) fun KP Q hQ => ?_
  simp (disch := first | omega | assumption) only [ir96, steps, st2, pev, rev, oev, optr, ibin, sbin, ishf, bound, mmAll, mm2, mk, mkArgs, AV.cells, AV.boxable, AV.one, AV.strip1, fillA, fillS, Nat.reduceEqDiff, reduceCtorEq, ↓reduceIte, Nat.reduceAdd, Int.reduceNeg, Nat.reduceLeDiff, Int.reduceToNat, Int.reduceEq, Int.reduceLT, Int.reduceLE, Int.reduceAdd]
  refine goK_pure (indexC l s hl) ?_
  simp (disch := first | omega | assumption) only [steps, st2, pev, rev, oev, optr, ibin, sbin, ishf, bound, mmAll, mm2, mk, mkArgs, AV.cells, AV.boxable, AV.one, AV.strip1, fillA, fillS, Nat.reduceEqDiff, reduceCtorEq, ↓reduceIte, Nat.reduceAdd, Int.reduceNeg, Nat.reduceLeDiff, Int.reduceToNat, Int.reduceEq, Int.reduceLT, Int.reduceLE, Int.reduceAdd]
  have := idxT_has s l 0 (by omega)
  exact hQ _ _ _ _ nofun rfl (by simp [tupOf, envOf, AV.strip, AV.strip1, this])

mutual
def varsV : Val → List (List UInt8) → List (List UInt8)
  | .mk k _ s l m, acc => if k = 8 then (if hasT s acc then acc else acc ++ [s]) else if k = 6 then varsVs l acc else if k = 7 then varsMs m acc else acc
def varsVs : List Val → List (List UInt8) → List (List UInt8)
  | [], acc => acc
  | v :: r, acc => varsVs r (varsV v acc)
def varsM : Mem → List (List UInt8) → List (List UInt8)
  | .mk _ v, acc => varsV v acc
def varsMs : List Mem → List (List UInt8) → List (List UInt8)
  | [], acc => acc
  | x :: r, acc => varsMs r (varsM x acc)
end

mutual
theorem varsV_le : ∀ v acc, (varsV v acc).length ≤ acc.length + bV v
  | .mk k n s l m, acc => by
    have h1 := varsVs_le l acc
    have h2 := varsMs_le m acc
    simp only [varsV, bV]
    split
    · split
      · omega
      · simp; omega
    · split
      · omega
      · split <;> omega
theorem varsVs_le : ∀ l acc, (varsVs l acc).length ≤ acc.length + bVs l
  | [], acc => by simp [varsVs]
  | v :: r, acc => by
    have h1 := varsV_le v acc
    have h2 := varsVs_le r (varsV v acc)
    simp only [varsVs, bVs]; omega
theorem varsM_le : ∀ x acc, (varsM x acc).length ≤ acc.length + bM x
  | .mk s v, acc => by have := varsV_le v acc; simp only [varsM, bM]; omega
theorem varsMs_le : ∀ l acc, (varsMs l acc).length ≤ acc.length + bMs l
  | [], acc => by simp [varsMs]
  | x :: r, acc => by
    have h1 := varsM_le x acc
    have h2 := varsMs_le r (varsM x acc)
    simp only [varsMs, bMs]; omega
end

theorem varsP : ∀ v, ∀ acc H o, acc.length + bV v ≤ Lim → Owned H o acc.length 1 → Gives Tryd.prog 65 [.sl o 1 (cT acc), .agg (cV v)] H o 1 (cT (varsV v acc)) := by
  refine Val.ind fun k n s l m ihl ihm acc H o hb ho => ?_
  have hb' : acc.length + (1 + s.length + bVs l + bMs m) ≤ Lim := hb
  have hll := bVs_len l
  have hml := bMs_len m
  have h1 := cVs_len l
  have h2 := cMs_len m
  have h3 := cT_len acc
  simp only [Lim] at hb'
  refine ACalls.goO ir65 ck65 (Nat.le_refl _) fun KP Q hQ hP => ?_
  by_cases k8 : k = 8
  · subst k8
    simp (disch := first | omega | assumption) only [ir65, cV_mk, steps, st2, pev, rev, oev, optr, ibin, sbin, ishf, bound, mmAll, mm2, mk, mkArgs, AV.cells, AV.boxable, AV.one, AV.strip1, fillA, fillS, Nat.reduceEqDiff, reduceCtorEq, ↓reduceIte, Nat.reduceAdd, Int.reduceNeg, Nat.reduceLeDiff, Int.reduceToNat, Int.reduceEq, Int.reduceLT, Int.reduceLE, Int.reduceAdd]
    refine goK_pure (Pure.low (containsC acc s (by simp only [Lim]; omega))) ?_
    cases hh : hasT s acc with
    | true =>
      simp (disch := first | omega | assumption) only [hh, steps, st2, pev, rev, oev, optr, ibin, sbin, ishf, bound, mmAll, mm2, mk, mkArgs, AV.cells, AV.boxable, AV.one, AV.strip1, fillA, fillS, Nat.reduceEqDiff, reduceCtorEq, ↓reduceIte, Nat.reduceAdd, Int.reduceNeg, Nat.reduceLeDiff, Int.reduceToNat, Int.reduceEq, Int.reduceLT, Int.reduceLE, Int.reduceAdd]
      refine hQ _ _ H H _ nofun rfl (Low.refl _) ⟨o, ?_, ?_⟩
      · simp [tupOf, envOf, varsV, hh]
      · simpa [varsV, hh, h3] using OwnS.refl ho
    | false =>
      simp (disch := first | omega | assumption) only [hh, steps, st2, pev, rev, oev, optr, ibin, sbin, ishf, bound, mmAll, mm2, mk, mkArgs, AV.cells, AV.boxable, AV.one, AV.strip1, fillA, fillS, Nat.reduceEqDiff, reduceCtorEq, ↓reduceIte, Nat.reduceAdd, Int.reduceNeg, Nat.reduceLeDiff, Int.reduceToNat, Int.reduceEq, Int.reduceLT, Int.reduceLE, Int.reduceAdd]
      refine goP_ownS (by rw [h3]; exact ho) ?_ ?_ fun o' H' hs => ?_
      · simp only [h3, List.length_cons, List.length_nil]; omega
      · simp only [h3, List.length_cons, List.length_nil, maxLen]; omega
      simp (disch := first | omega | assumption) only [steps, st2, pev, rev, oev, optr, ibin, sbin, ishf, bound, mmAll, mm2, mk, mkArgs, AV.cells, AV.boxable, AV.one, AV.strip1, fillA, fillS, Nat.reduceEqDiff, reduceCtorEq, ↓reduceIte, Nat.reduceAdd, Int.reduceNeg, Nat.reduceLeDiff, Int.reduceToNat, Int.reduceEq, Int.reduceLT, Int.reduceLE, Int.reduceAdd]
      refine hQ _ _ H' H' _ nofun rfl (Low.refl _) ⟨o', ?_, ?_⟩
      · simp [tupOf, envOf, varsV, hh, cT, AV.strip1]
      · simpa [varsV, hh, h3, cT_len] using hs
  by_cases k6 : k = 6
  · subst k6
    simp (disch := first | omega | assumption) only [ir65, cV_mk, h1, steps, st2, pev, rev, oev, optr, ibin, sbin, ishf, bound, mmAll, mm2, mk, mkArgs, AV.cells, AV.boxable, AV.one, AV.strip1, fillA, fillS, Nat.reduceEqDiff, reduceCtorEq, ↓reduceIte, Nat.reduceAdd, Int.reduceNeg, Nat.reduceLeDiff, Int.reduceToNat, Int.reduceEq, Int.reduceLT, Int.reduceLE, Int.reduceAdd]
    refine goL_range l 28 (fun x : Own × List (List UInt8) => [(0, .sl x.1 1 (cT x.2))]) (fun done rest x H' => varsVs rest x.2 = varsVs l acc ∧ x.2.length + bVs rest ≤ acc.length + bVs l ∧ OwnS H o H' x.1 x.2.length 1) (o, acc) (by simp (disch := first | omega | assumption) only [steps, st2, pev, rev, oev, optr, ibin, sbin, ishf, bound, mmAll, mm2, mk, mkArgs, AV.cells, AV.boxable, AV.one, AV.strip1, fillA, fillS, Nat.reduceEqDiff, reduceCtorEq, ↓reduceIte, Nat.reduceAdd, Int.reduceNeg, Nat.reduceLeDiff, Int.reduceToNat, Int.reduceEq, Int.reduceLT, Int.reduceLE, Int.reduceAdd]) ⟨rfl, by simp, OwnS.refl ho⟩ ?_ ?_
    · rintro ⟨o1, a⟩ H' J ⟨hn, _, hs⟩ hlt
      simp only [varsVs] at hn
      subst hn
      simp (disch := first | omega | assumption) only [h1, hlt, steps, st2, pev, rev, oev, optr, ibin, sbin, ishf, bound, mmAll, mm2, mk, mkArgs, AV.cells, AV.boxable, AV.one, AV.strip1, fillA, fillS, Nat.reduceEqDiff, reduceCtorEq, ↓reduceIte, Nat.reduceAdd, Int.reduceNeg, Nat.reduceLeDiff, Int.reduceToNat, Int.reduceEq, Int.reduceLT, Int.reduceLE, Int.reduceAdd]
      refine hQ _ _ H' H' _ nofun rfl (Low.refl _) ⟨o1, ?_, ?_⟩
      · simp [tupOf, envOf, varsV]
      · simpa [varsV, cT_len] using hs
    · rintro done x rest ⟨o1, a⟩ H' J hd hlt _ ⟨hn, hle, hs⟩ hJ
      have hg := cVs_get hd
      have hx := varsV_le x a
      simp only [varsVs, bVs] at hn hle
      simp (disch := first | omega | assumption) only [cV_len, cV_take, cV_splice, cM_len, cM_take, cM_splice, cM_mk, h1, hlt, hg, steps, st2, pev, rev, oev, optr, ibin, sbin, ishf, bound, mmAll, mm2, mk, mkArgs, AV.cells, AV.boxable, AV.one, AV.strip1, fillA, fillS, Nat.reduceEqDiff, reduceCtorEq, ↓reduceIte, Nat.reduceAdd, Int.reduceNeg, Nat.reduceLeDiff, Int.reduceToNat, Int.reduceEq, Int.reduceLT, Int.reduceLE, Int.reduceAdd]
      refine goA_intro fun b hb => ?_
      simp (disch := first | omega | assumption) only [cV_len, cV_take, cV_splice, cM_len, cM_take, cM_splice, cM_mk, steps, st2, pev, rev, oev, optr, ibin, sbin, ishf, bound, mmAll, mm2, mk, mkArgs, AV.cells, AV.boxable, AV.one, AV.strip1, fillA, fillS, Nat.reduceEqDiff, reduceCtorEq, ↓reduceIte, Nat.reduceAdd, Int.reduceNeg, Nat.reduceLeDiff, Int.reduceToNat, Int.reduceEq, Int.reduceLT, Int.reduceLE, Int.reduceAdd]
      refine goK_gives (ihl x (by rw [hd]; simp) a _ o1 (by simp only [Lim]; omega) (hs.own.upd hb)) fun o2 H2 hs2 => ?_
      rw [cT_len] at hs2
      simp (disch := first | omega | assumption) only [wrap64, steps, st2, pev, rev, oev, optr, ibin, sbin, ishf, bound, mmAll, mm2, mk, mkArgs, AV.cells, AV.boxable, AV.one, AV.strip1, fillA, fillS, Nat.reduceEqDiff, reduceCtorEq, ↓reduceIte, Nat.reduceAdd, Int.reduceNeg, Nat.reduceLeDiff, Int.reduceToNat, Int.reduceEq, Int.reduceLT, Int.reduceLE, Int.reduceAdd]
      exact goJ (hJ (o2, varsV x a) H2 ⟨hn, by simp only; omega, (hs.upd hb).trans hs2⟩) (by simp (disch := first | omega | assumption) only [steps, st2, pev, rev, oev, optr, ibin, sbin, ishf, bound, mmAll, mm2, mk, mkArgs, AV.cells, AV.boxable, AV.one, AV.strip1, fillA, fillS, Nat.reduceEqDiff, reduceCtorEq, ↓reduceIte, Nat.reduceAdd, Int.reduceNeg, Nat.reduceLeDiff, Int.reduceToNat, Int.reduceEq, Int.reduceLT, Int.reduceLE, Int.reduceAdd])
  by_cases k7 : k = 7
  · subst k7
    simp (disch := first | omega | assumption) only [ir65, cV_mk, h2, steps, st2, pev, rev, oev, optr, ibin, sbin, ishf, bound, mmAll, mm2, mk, mkArgs, AV.cells, AV.boxable, AV.one, AV.strip1, fillA, fillS, Nat.reduceEqDiff, reduceCtorEq, ↓reduceIte, Nat.reduceAdd, Int.reduceNeg, Nat.reduceLeDiff, Int.reduceToNat, Int.reduceEq, Int.reduceLT, Int.reduceLE, Int.reduceAdd]
    refine goL_range m 41 (fun x : Own × List (List UInt8) => [(0, .sl x.1 1 (cT x.2))]) (fun done rest x H' => varsMs rest x.2 = varsMs m acc ∧ x.2.length + bMs rest ≤ acc.length + bMs m ∧ OwnS H o H' x.1 x.2.length 1) (o, acc) (by simp (disch := first | omega | assumption) only [steps, st2, pev, rev, oev, optr, ibin, sbin, ishf, bound, mmAll, mm2, mk, mkArgs, AV.cells, AV.boxable, AV.one, AV.strip1, fillA, fillS, Nat.reduceEqDiff, reduceCtorEq, ↓reduceIte, Nat.reduceAdd, Int.reduceNeg, Nat.reduceLeDiff, Int.reduceToNat, Int.reduceEq, Int.reduceLT, Int.reduceLE, Int.reduceAdd]) ⟨rfl, by simp, OwnS.refl ho⟩ ?_ ?_
    · rintro ⟨o1, a⟩ H' J ⟨hn, _, hs⟩ hlt
      simp only [varsMs] at hn
      subst hn
      simp (disch := first | omega | assumption) only [h2, hlt, steps, st2, pev, rev, oev, optr, ibin, sbin, ishf, bound, mmAll, mm2, mk, mkArgs, AV.cells, AV.boxable, AV.one, AV.strip1, fillA, fillS, Nat.reduceEqDiff, reduceCtorEq, ↓reduceIte, Nat.reduceAdd, Int.reduceNeg, Nat.reduceLeDiff, Int.reduceToNat, Int.reduceEq, Int.reduceLT, Int.reduceLE, Int.reduceAdd]
      refine hQ _ _ H' H' _ nofun rfl (Low.refl _) ⟨o1, ?_, ?_⟩
      · simp [tupOf, envOf, varsV]
      · simpa [varsV, cT_len] using hs
    · rintro done x rest ⟨o1, a⟩ H' J hd hlt _ ⟨hn, hle, hs⟩ hJ
      have hg := cMs_get hd
      have hx := varsM_le x a
      simp only [varsMs, bMs] at hn hle
      have hmem : x ∈ m := by rw [hd]; simp
      obtain ⟨t, v⟩ := x
      simp only [varsM, bM] at hx hn hle
      simp (disch := first | omega | assumption) only [cV_len, cV_take, cV_splice, cM_len, cM_take, cM_splice, cM_mk, h2, hlt, hg, steps, st2, pev, rev, oev, optr, ibin, sbin, ishf, bound, mmAll, mm2, mk, mkArgs, AV.cells, AV.boxable, AV.one, AV.strip1, fillA, fillS, Nat.reduceEqDiff, reduceCtorEq, ↓reduceIte, Nat.reduceAdd, Int.reduceNeg, Nat.reduceLeDiff, Int.reduceToNat, Int.reduceEq, Int.reduceLT, Int.reduceLE, Int.reduceAdd]
      refine goA_intro fun b hb => ?_
      simp (disch := first | omega | assumption) only [cV_len, cV_take, cV_splice, cM_len, cM_take, cM_splice, cM_mk, steps, st2, pev, rev, oev, optr, ibin, sbin, ishf, bound, mmAll, mm2, mk, mkArgs, AV.cells, AV.boxable, AV.one, AV.strip1, fillA, fillS, Nat.reduceEqDiff, reduceCtorEq, ↓reduceIte, Nat.reduceAdd, Int.reduceNeg, Nat.reduceLeDiff, Int.reduceToNat, Int.reduceEq, Int.reduceLT, Int.reduceLE, Int.reduceAdd]
      refine goK_gives (ihm t v hmem a _ o1 (by simp only [Lim]; omega) (hs.own.upd hb)) fun o2 H2 hs2 => ?_
      rw [cT_len] at hs2
      simp (disch := first | omega | assumption) only [wrap64, steps, st2, pev, rev, oev, optr, ibin, sbin, ishf, bound, mmAll, mm2, mk, mkArgs, AV.cells, AV.boxable, AV.one, AV.strip1, fillA, fillS, Nat.reduceEqDiff, reduceCtorEq, ↓reduceIte, Nat.reduceAdd, Int.reduceNeg, Nat.reduceLeDiff, Int.reduceToNat, Int.reduceEq, Int.reduceLT, Int.reduceLE, Int.reduceAdd]
      exact goJ (hJ (o2, varsV v a) H2 ⟨hn, by simp only; omega, (hs.upd hb).trans hs2⟩) (by simp (disch := first | omega | assumption) only [steps, st2, pev, rev, oev, optr, ibin, sbin, ishf, bound, mmAll, mm2, mk, mkArgs, AV.cells, AV.boxable, AV.one, AV.strip1, fillA, fillS, Nat.reduceEqDiff, reduceCtorEq, ↓reduceIte, Nat.reduceAdd, Int.reduceNeg, Nat.reduceLeDiff, Int.reduceToNat, Int.reduceEq, Int.reduceLT, Int.reduceLE, Int.reduceAdd])
  · simp (disch := first | omega | assumption) only [ir65, cV_mk, k8, k6, k7, steps, st2, pev, rev, oev, optr, ibin, sbin, ishf, bound, mmAll, mm2, mk, mkArgs, AV.cells, AV.boxable, AV.one, AV.strip1, fillA, fillS, Nat.reduceEqDiff, reduceCtorEq, ↓reduceIte, Nat.reduceAdd, Int.reduceNeg, Nat.reduceLeDiff, Int.reduceToNat, Int.reduceEq, Int.reduceLT, Int.reduceLE, Int.reduceAdd]
    refine hQ _ _ H H _ nofun rfl (Low.refl _) ⟨o, ?_, ?_⟩
    · simp [tupOf, envOf, varsV, k8, k6, k7]
    · simpa [varsV, k8, k6, k7, cT_len] using OwnS.refl ho

theorem varsR : ∀ v, ∀ acc H o, acc.length + bV v ≤ Lim → Owned H o acc.length 1 → Gives Tryd.prog 66 [.agg (cV v), .sl o 1 (cT acc)] H o 1 (cT (varsV v acc)) := by
  refine Val.ind fun k n s l m ihl ihm acc H o hb ho => ?_
  have hb' : acc.length + (1 + s.length + bVs l + bMs m) ≤ Lim := hb
  have hll := bVs_len l
  have hml := bMs_len m
  have h1 := cVs_len l
  have h2 := cMs_len m
  have h3 := cT_len acc
  simp only [Lim] at hb'
  refine ACalls.goO ir66 ck66 (Nat.le_refl _) fun KP Q hQ hP => ?_
  -- behind the first statement: neither loop, or one
  by_cases k8 : k = 8
  · subst k8
    simp (disch := first | omega | assumption) only [ir66, cV_mk, steps, st2, pev, rev, oev, optr, ibin, sbin, ishf, bound, mmAll, mm2, mk, mkArgs, AV.cells, AV.boxable, AV.one, AV.strip1, fillA, fillS, Nat.reduceEqDiff, reduceCtorEq, ↓reduceIte, Nat.reduceAdd, Int.reduceNeg, Nat.reduceLeDiff, Int.reduceToNat, Int.reduceEq, Int.reduceLT, Int.reduceLE, Int.reduceAdd]
    refine goK_pure (Pure.low (hasR acc s (by simp only [Lim]; omega))) ?_
    have fin : ∀ o' H' (a : List (List UInt8)), varsV (.mk 8 n s l m) acc = a → OwnS H o H' o' a.length 1 → OwnR H o 1 (cT (varsV (.mk 8 n s l m) acc)) (.sl o' 1 (cT a)) H' := fun o' H' a e hs => by
      rw [e]; exact ⟨o', rfl, by rw [cT_len]; exact hs⟩
    have l1 : ∀ (J : Env → Heap → Prop), True := fun _ => trivial
    cases hh : hasT s acc with
    | true =>
      simp (disch := first | omega | assumption) only [hh, steps, st2, pev, rev, oev, optr, ibin, sbin, ishf, bound, mmAll, mm2, mk, mkArgs, AV.cells, AV.boxable, AV.one, AV.strip1, fillA, fillS, Nat.reduceEqDiff, reduceCtorEq, ↓reduceIte, Nat.reduceAdd, Int.reduceNeg, Nat.reduceLeDiff, Int.reduceToNat, Int.reduceEq, Int.reduceLT, Int.reduceLE, Int.reduceAdd]
      refine goL_st (fun _ : Unit => []) (fun _ H' => H' = H) (fun _ => 0) () (by simp (disch := first | omega | assumption) only [steps, st2, pev, rev, oev, optr, ibin, sbin, ishf, bound, mmAll, mm2, mk, mkArgs, AV.cells, AV.boxable, AV.one, AV.strip1, fillA, fillS, Nat.reduceEqDiff, reduceCtorEq, ↓reduceIte, Nat.reduceAdd, Int.reduceNeg, Nat.reduceLeDiff, Int.reduceToNat, Int.reduceEq, Int.reduceLT, Int.reduceLE, Int.reduceAdd]) rfl ?_
      rintro _ H' J rfl _
      by_cases hz : (0 : Int) < l.length
      · simp (disch := first | omega | assumption) only [h1, hz, steps, st2, pev, rev, oev, optr, ibin, sbin, ishf, bound, mmAll, mm2, mk, mkArgs, AV.cells, AV.boxable, AV.one, AV.strip1, fillA, fillS, Nat.reduceEqDiff, reduceCtorEq, ↓reduceIte, Nat.reduceAdd, Int.reduceNeg, Nat.reduceLeDiff, Int.reduceToNat, Int.reduceEq, Int.reduceLT, Int.reduceLE, Int.reduceAdd]
        refine goL_st (fun _ : Unit => []) (fun _ H'' => H'' = H') (fun _ => 0) () (by simp (disch := first | omega | assumption) only [steps, st2, pev, rev, oev, optr, ibin, sbin, ishf, bound, mmAll, mm2, mk, mkArgs, AV.cells, AV.boxable, AV.one, AV.strip1, fillA, fillS, Nat.reduceEqDiff, reduceCtorEq, ↓reduceIte, Nat.reduceAdd, Int.reduceNeg, Nat.reduceLeDiff, Int.reduceToNat, Int.reduceEq, Int.reduceLT, Int.reduceLE, Int.reduceAdd]) rfl ?_
        rintro _ H'' J2 rfl _
        by_cases hy : (0 : Int) < m.length
        · simp (disch := first | omega | assumption) only [h2, hy, steps, st2, pev, rev, oev, optr, ibin, sbin, ishf, bound, mmAll, mm2, mk, mkArgs, AV.cells, AV.boxable, AV.one, AV.strip1, fillA, fillS, Nat.reduceEqDiff, reduceCtorEq, ↓reduceIte, Nat.reduceAdd, Int.reduceNeg, Nat.reduceLeDiff, Int.reduceToNat, Int.reduceEq, Int.reduceLT, Int.reduceLE, Int.reduceAdd]
          refine hQ _ _ H'' H'' [.sl o 1 (cT acc)] nofun (by simp (disch := first | omega | assumption) only [ir66, resvs, resv, steps, st2, pev, rev, oev, optr, ibin, sbin, ishf, bound, mmAll, mm2, mk, mkArgs, AV.cells, AV.boxable, AV.one, AV.strip1, fillA, fillS, Nat.reduceEqDiff, reduceCtorEq, ↓reduceIte, Nat.reduceAdd, Int.reduceNeg, Nat.reduceLeDiff, Int.reduceToNat, Int.reduceEq, Int.reduceLT, Int.reduceLE, Int.reduceAdd]) (Low.refl _) (fin o H'' acc (by simp [varsV, hh]) (OwnS.refl ho))
        · simp (disch := first | omega | assumption) only [h2, hy, steps, st2, pev, rev, oev, optr, ibin, sbin, ishf, bound, mmAll, mm2, mk, mkArgs, AV.cells, AV.boxable, AV.one, AV.strip1, fillA, fillS, Nat.reduceEqDiff, reduceCtorEq, ↓reduceIte, Nat.reduceAdd, Int.reduceNeg, Nat.reduceLeDiff, Int.reduceToNat, Int.reduceEq, Int.reduceLT, Int.reduceLE, Int.reduceAdd]
          refine hQ _ _ H'' H'' [.sl o 1 (cT acc)] nofun (by simp (disch := first | omega | assumption) only [ir66, resvs, resv, steps, st2, pev, rev, oev, optr, ibin, sbin, ishf, bound, mmAll, mm2, mk, mkArgs, AV.cells, AV.boxable, AV.one, AV.strip1, fillA, fillS, Nat.reduceEqDiff, reduceCtorEq, ↓reduceIte, Nat.reduceAdd, Int.reduceNeg, Nat.reduceLeDiff, Int.reduceToNat, Int.reduceEq, Int.reduceLT, Int.reduceLE, Int.reduceAdd]) (Low.refl _) (fin o H'' acc (by simp [varsV, hh]) (OwnS.refl ho))
      · simp (disch := first | omega | assumption) only [h1, hz, steps, st2, pev, rev, oev, optr, ibin, sbin, ishf, bound, mmAll, mm2, mk, mkArgs, AV.cells, AV.boxable, AV.one, AV.strip1, fillA, fillS, Nat.reduceEqDiff, reduceCtorEq, ↓reduceIte, Nat.reduceAdd, Int.reduceNeg, Nat.reduceLeDiff, Int.reduceToNat, Int.reduceEq, Int.reduceLT, Int.reduceLE, Int.reduceAdd]
        refine goL_st (fun _ : Unit => []) (fun _ H'' => H'' = H') (fun _ => 0) () (by simp (disch := first | omega | assumption) only [steps, st2, pev, rev, oev, optr, ibin, sbin, ishf, bound, mmAll, mm2, mk, mkArgs, AV.cells, AV.boxable, AV.one, AV.strip1, fillA, fillS, Nat.reduceEqDiff, reduceCtorEq, ↓reduceIte, Nat.reduceAdd, Int.reduceNeg, Nat.reduceLeDiff, Int.reduceToNat, Int.reduceEq, Int.reduceLT, Int.reduceLE, Int.reduceAdd]) rfl ?_
        rintro _ H'' J2 rfl _
        by_cases hy : (0 : Int) < m.length
        · simp (disch := first | omega | assumption) only [h2, hy, steps, st2, pev, rev, oev, optr, ibin, sbin, ishf, bound, mmAll, mm2, mk, mkArgs, AV.cells, AV.boxable, AV.one, AV.strip1, fillA, fillS, Nat.reduceEqDiff, reduceCtorEq, ↓reduceIte, Nat.reduceAdd, Int.reduceNeg, Nat.reduceLeDiff, Int.reduceToNat, Int.reduceEq, Int.reduceLT, Int.reduceLE, Int.reduceAdd]
          refine hQ _ _ H'' H'' [.sl o 1 (cT acc)] nofun (by simp (disch := first | omega | assumption) only [ir66, resvs, resv, steps, st2, pev, rev, oev, optr, ibin, sbin, ishf, bound, mmAll, mm2, mk, mkArgs, AV.cells, AV.boxable, AV.one, AV.strip1, fillA, fillS, Nat.reduceEqDiff, reduceCtorEq, ↓reduceIte, Nat.reduceAdd, Int.reduceNeg, Nat.reduceLeDiff, Int.reduceToNat, Int.reduceEq, Int.reduceLT, Int.reduceLE, Int.reduceAdd]) (Low.refl _) (fin o H'' acc (by simp [varsV, hh]) (OwnS.refl ho))
        · simp (disch := first | omega | assumption) only [h2, hy, steps, st2, pev, rev, oev, optr, ibin, sbin, ishf, bound, mmAll, mm2, mk, mkArgs, AV.cells, AV.boxable, AV.one, AV.strip1, fillA, fillS, Nat.reduceEqDiff, reduceCtorEq, ↓reduceIte, Nat.reduceAdd, Int.reduceNeg, Nat.reduceLeDiff, Int.reduceToNat, Int.reduceEq, Int.reduceLT, Int.reduceLE, Int.reduceAdd]
          refine hQ _ _ H'' H'' [.sl o 1 (cT acc)] nofun (by simp (disch := first | omega | assumption) only [ir66, resvs, resv, steps, st2, pev, rev, oev, optr, ibin, sbin, ishf, bound, mmAll, mm2, mk, mkArgs, AV.cells, AV.boxable, AV.one, AV.strip1, fillA, fillS, Nat.reduceEqDiff, reduceCtorEq, ↓reduceIte, Nat.reduceAdd, Int.reduceNeg, Nat.reduceLeDiff, Int.reduceToNat, Int.reduceEq, Int.reduceLT, Int.reduceLE, Int.reduceAdd]) (Low.refl _) (fin o H'' acc (by simp [varsV, hh]) (OwnS.refl ho))
    | false =>
      simp (disch := first | omega | assumption) only [hh, steps, st2, pev, rev, oev, optr, ibin, sbin, ishf, bound, mmAll, mm2, mk, mkArgs, AV.cells, AV.boxable, AV.one, AV.strip1, fillA, fillS, Nat.reduceEqDiff, reduceCtorEq, ↓reduceIte, Nat.reduceAdd, Int.reduceNeg, Nat.reduceLeDiff, Int.reduceToNat, Int.reduceEq, Int.reduceLT, Int.reduceLE, Int.reduceAdd]
      refine goP_ownS (by rw [h3]; exact ho) ?_ ?_ fun o' H' hs => ?_
      · simp only [h3, List.length_cons, List.length_nil]; omega
      · simp only [h3, List.length_cons, List.length_nil, maxLen]; omega
      have e0 : (cT acc ++ [[AV.str s]]) = cT (acc ++ [s]) := by simp [cT]
      have hs' : OwnS H o H' o' (acc ++ [s]).length 1 := by simpa [h3] using hs
      simp (disch := first | omega | assumption) only [e0, steps, st2, pev, rev, oev, optr, ibin, sbin, ishf, bound, mmAll, mm2, mk, mkArgs, AV.cells, AV.boxable, AV.one, AV.strip1, fillA, fillS, Nat.reduceEqDiff, reduceCtorEq, ↓reduceIte, Nat.reduceAdd, Int.reduceNeg, Nat.reduceLeDiff, Int.reduceToNat, Int.reduceEq, Int.reduceLT, Int.reduceLE, Int.reduceAdd]
      refine goL_st (fun _ : Unit => []) (fun _ H2 => H2 = H') (fun _ => 0) () (by simp (disch := first | omega | assumption) only [steps, st2, pev, rev, oev, optr, ibin, sbin, ishf, bound, mmAll, mm2, mk, mkArgs, AV.cells, AV.boxable, AV.one, AV.strip1, fillA, fillS, Nat.reduceEqDiff, reduceCtorEq, ↓reduceIte, Nat.reduceAdd, Int.reduceNeg, Nat.reduceLeDiff, Int.reduceToNat, Int.reduceEq, Int.reduceLT, Int.reduceLE, Int.reduceAdd]) rfl ?_
      rintro _ H2 J rfl _
      by_cases hz : (0 : Int) < l.length
      · simp (disch := first | omega | assumption) only [h1, hz, steps, st2, pev, rev, oev, optr, ibin, sbin, ishf, bound, mmAll, mm2, mk, mkArgs, AV.cells, AV.boxable, AV.one, AV.strip1, fillA, fillS, Nat.reduceEqDiff, reduceCtorEq, ↓reduceIte, Nat.reduceAdd, Int.reduceNeg, Nat.reduceLeDiff, Int.reduceToNat, Int.reduceEq, Int.reduceLT, Int.reduceLE, Int.reduceAdd]
        refine goL_st (fun _ : Unit => []) (fun _ H'' => H'' = H2) (fun _ => 0) () (by simp (disch := first | omega | assumption) only [steps, st2, pev, rev, oev, optr, ibin, sbin, ishf, bound, mmAll, mm2, mk, mkArgs, AV.cells, AV.boxable, AV.one, AV.strip1, fillA, fillS, Nat.reduceEqDiff, reduceCtorEq, ↓reduceIte, Nat.reduceAdd, Int.reduceNeg, Nat.reduceLeDiff, Int.reduceToNat, Int.reduceEq, Int.reduceLT, Int.reduceLE, Int.reduceAdd]) rfl ?_
        rintro _ H'' J2 rfl _
        by_cases hy : (0 : Int) < m.length
        · simp (disch := first | omega | assumption) only [h2, hy, steps, st2, pev, rev, oev, optr, ibin, sbin, ishf, bound, mmAll, mm2, mk, mkArgs, AV.cells, AV.boxable, AV.one, AV.strip1, fillA, fillS, Nat.reduceEqDiff, reduceCtorEq, ↓reduceIte, Nat.reduceAdd, Int.reduceNeg, Nat.reduceLeDiff, Int.reduceToNat, Int.reduceEq, Int.reduceLT, Int.reduceLE, Int.reduceAdd]
          refine hQ _ _ H'' H'' [.sl o' 1 (cT (acc ++ [s]))] nofun (by simp (disch := first | omega | assumption) only [ir66, resvs, resv, steps, st2, pev, rev, oev, optr, ibin, sbin, ishf, bound, mmAll, mm2, mk, mkArgs, AV.cells, AV.boxable, AV.one, AV.strip1, fillA, fillS, Nat.reduceEqDiff, reduceCtorEq, ↓reduceIte, Nat.reduceAdd, Int.reduceNeg, Nat.reduceLeDiff, Int.reduceToNat, Int.reduceEq, Int.reduceLT, Int.reduceLE, Int.reduceAdd]) (Low.refl _) (fin o' H'' _ (by simp [varsV, hh]) hs')
        · simp (disch := first | omega | assumption) only [h2, hy, steps, st2, pev, rev, oev, optr, ibin, sbin, ishf, bound, mmAll, mm2, mk, mkArgs, AV.cells, AV.boxable, AV.one, AV.strip1, fillA, fillS, Nat.reduceEqDiff, reduceCtorEq, ↓reduceIte, Nat.reduceAdd, Int.reduceNeg, Nat.reduceLeDiff, Int.reduceToNat, Int.reduceEq, Int.reduceLT, Int.reduceLE, Int.reduceAdd]
          refine hQ _ _ H'' H'' [.sl o' 1 (cT (acc ++ [s]))] nofun (by simp (disch := first | omega | assumption) only [ir66, resvs, resv, steps, st2, pev, rev, oev, optr, ibin, sbin, ishf, bound, mmAll, mm2, mk, mkArgs, AV.cells, AV.boxable, AV.one, AV.strip1, fillA, fillS, Nat.reduceEqDiff, reduceCtorEq, ↓reduceIte, Nat.reduceAdd, Int.reduceNeg, Nat.reduceLeDiff, Int.reduceToNat, Int.reduceEq, Int.reduceLT, Int.reduceLE, Int.reduceAdd]) (Low.refl _) (fin o' H'' _ (by simp [varsV, hh]) hs')
      · simp (disch := first | omega | assumption) only [h1, hz, steps, st2, pev, rev, oev, optr, ibin, sbin, ishf, bound, mmAll, mm2, mk, mkArgs, AV.cells, AV.boxable, AV.one, AV.strip1, fillA, fillS, Nat.reduceEqDiff, reduceCtorEq, ↓reduceIte, Nat.reduceAdd, Int.reduceNeg, Nat.reduceLeDiff, Int.reduceToNat, Int.reduceEq, Int.reduceLT, Int.reduceLE, Int.reduceAdd]
        refine goL_st (fun _ : Unit => []) (fun _ H'' => H'' = H2) (fun _ => 0) () (by simp (disch := first | omega | assumption) only [steps, st2, pev, rev, oev, optr, ibin, sbin, ishf, bound, mmAll, mm2, mk, mkArgs, AV.cells, AV.boxable, AV.one, AV.strip1, fillA, fillS, Nat.reduceEqDiff, reduceCtorEq, ↓reduceIte, Nat.reduceAdd, Int.reduceNeg, Nat.reduceLeDiff, Int.reduceToNat, Int.reduceEq, Int.reduceLT, Int.reduceLE, Int.reduceAdd]) rfl ?_
        rintro _ H'' J2 rfl _
        by_cases hy : (0 : Int) < m.length
        · simp (disch := first | omega | assumption) only [h2, hy, steps, st2, pev, rev, oev, optr, ibin, sbin, ishf, bound, mmAll, mm2, mk, mkArgs, AV.cells, AV.boxable, AV.one, AV.strip1, fillA, fillS, Nat.reduceEqDiff, reduceCtorEq, ↓reduceIte, Nat.reduceAdd, Int.reduceNeg, Nat.reduceLeDiff, Int.reduceToNat, Int.reduceEq, Int.reduceLT, Int.reduceLE, Int.reduceAdd]
          refine hQ _ _ H'' H'' [.sl o' 1 (cT (acc ++ [s]))] nofun (by simp (disch := first | omega | assumption) only [ir66, resvs, resv, steps, st2, pev, rev, oev, optr, ibin, sbin, ishf, bound, mmAll, mm2, mk, mkArgs, AV.cells, AV.boxable, AV.one, AV.strip1, fillA, fillS, Nat.reduceEqDiff, reduceCtorEq, ↓reduceIte, Nat.reduceAdd, Int.reduceNeg, Nat.reduceLeDiff, Int.reduceToNat, Int.reduceEq, Int.reduceLT, Int.reduceLE, Int.reduceAdd]) (Low.refl _) (fin o' H'' _ (by simp [varsV, hh]) hs')
        · simp (disch := first | omega | assumption) only [h2, hy, steps, st2, pev, rev, oev, optr, ibin, sbin, ishf, bound, mmAll, mm2, mk, mkArgs, AV.cells, AV.boxable, AV.one, AV.strip1, fillA, fillS, Nat.reduceEqDiff, reduceCtorEq, ↓reduceIte, Nat.reduceAdd, Int.reduceNeg, Nat.reduceLeDiff, Int.reduceToNat, Int.reduceEq, Int.reduceLT, Int.reduceLE, Int.reduceAdd]
          refine hQ _ _ H'' H'' [.sl o' 1 (cT (acc ++ [s]))] nofun (by simp (disch := first | omega | assumption) only [ir66, resvs, resv, steps, st2, pev, rev, oev, optr, ibin, sbin, ishf, bound, mmAll, mm2, mk, mkArgs, AV.cells, AV.boxable, AV.one, AV.strip1, fillA, fillS, Nat.reduceEqDiff, reduceCtorEq, ↓reduceIte, Nat.reduceAdd, Int.reduceNeg, Nat.reduceLeDiff, Int.reduceToNat, Int.reduceEq, Int.reduceLT, Int.reduceLE, Int.reduceAdd]) (Low.refl _) (fin o' H'' _ (by simp [varsV, hh]) hs')
  have k8' : (k = 8) = False := eq_false k8
  simp (disch := first | omega | assumption) only [ir66, cV_mk, k8, steps, st2, pev, rev, oev, optr, ibin, sbin, ishf, bound, mmAll, mm2, mk, mkArgs, AV.cells, AV.boxable, AV.one, AV.strip1, fillA, fillS, Nat.reduceEqDiff, reduceCtorEq, ↓reduceIte, Nat.reduceAdd, Int.reduceNeg, Nat.reduceLeDiff, Int.reduceToNat, Int.reduceEq, Int.reduceLT, Int.reduceLE, Int.reduceAdd]
  by_cases k6 : k = 6
  · subst k6
    refine goL_range l 5 (fun x : Own × List (List UInt8) => [(1, .sl x.1 1 (cT x.2))]) (fun done rest x H' => varsVs rest x.2 = varsVs l acc ∧ x.2.length + bVs rest ≤ acc.length + bVs l ∧ OwnS H o H' x.1 x.2.length 1) (o, acc) (by simp (disch := first | omega | assumption) only [steps, st2, pev, rev, oev, optr, ibin, sbin, ishf, bound, mmAll, mm2, mk, mkArgs, AV.cells, AV.boxable, AV.one, AV.strip1, fillA, fillS, Nat.reduceEqDiff, reduceCtorEq, ↓reduceIte, Nat.reduceAdd, Int.reduceNeg, Nat.reduceLeDiff, Int.reduceToNat, Int.reduceEq, Int.reduceLT, Int.reduceLE, Int.reduceAdd]) ⟨rfl, by simp, OwnS.refl ho⟩ ?_ ?_
    · rintro ⟨o1, a⟩ H' J ⟨hn, _, hs⟩ hlt
      simp only [varsVs] at hn
      subst hn
      simp (disch := first | omega | assumption) only [h1, hlt, steps, st2, pev, rev, oev, optr, ibin, sbin, ishf, bound, mmAll, mm2, mk, mkArgs, AV.cells, AV.boxable, AV.one, AV.strip1, fillA, fillS, Nat.reduceEqDiff, reduceCtorEq, ↓reduceIte, Nat.reduceAdd, Int.reduceNeg, Nat.reduceLeDiff, Int.reduceToNat, Int.reduceEq, Int.reduceLT, Int.reduceLE, Int.reduceAdd]
      refine goL_st (fun _ : Unit => []) (fun _ H2 => H2 = H') (fun _ => 0) () (by simp (disch := first | omega | assumption) only [steps, st2, pev, rev, oev, optr, ibin, sbin, ishf, bound, mmAll, mm2, mk, mkArgs, AV.cells, AV.boxable, AV.one, AV.strip1, fillA, fillS, Nat.reduceEqDiff, reduceCtorEq, ↓reduceIte, Nat.reduceAdd, Int.reduceNeg, Nat.reduceLeDiff, Int.reduceToNat, Int.reduceEq, Int.reduceLT, Int.reduceLE, Int.reduceAdd]) rfl ?_
      rintro _ H2 J2 rfl _
      have fin : OwnR H o 1 (cT (varsV (.mk 6 n s l m) acc)) (.sl o1 1 (cT (varsVs l acc))) H2 := ⟨o1, by simp [varsV], by simpa [varsV, cT_len] using hs⟩
      by_cases hy : (0 : Int) < m.length
      · simp (disch := first | omega | assumption) only [h2, hy, steps, st2, pev, rev, oev, optr, ibin, sbin, ishf, bound, mmAll, mm2, mk, mkArgs, AV.cells, AV.boxable, AV.one, AV.strip1, fillA, fillS, Nat.reduceEqDiff, reduceCtorEq, ↓reduceIte, Nat.reduceAdd, Int.reduceNeg, Nat.reduceLeDiff, Int.reduceToNat, Int.reduceEq, Int.reduceLT, Int.reduceLE, Int.reduceAdd]
        exact hQ _ _ H2 H2 [.sl o1 1 (cT (varsVs l acc))] nofun (by simp (disch := first | omega | assumption) only [ir66, resvs, resv, steps, st2, pev, rev, oev, optr, ibin, sbin, ishf, bound, mmAll, mm2, mk, mkArgs, AV.cells, AV.boxable, AV.one, AV.strip1, fillA, fillS, Nat.reduceEqDiff, reduceCtorEq, ↓reduceIte, Nat.reduceAdd, Int.reduceNeg, Nat.reduceLeDiff, Int.reduceToNat, Int.reduceEq, Int.reduceLT, Int.reduceLE, Int.reduceAdd]) (Low.refl _) fin
      · simp (disch := first | omega | assumption) only [h2, hy, steps, st2, pev, rev, oev, optr, ibin, sbin, ishf, bound, mmAll, mm2, mk, mkArgs, AV.cells, AV.boxable, AV.one, AV.strip1, fillA, fillS, Nat.reduceEqDiff, reduceCtorEq, ↓reduceIte, Nat.reduceAdd, Int.reduceNeg, Nat.reduceLeDiff, Int.reduceToNat, Int.reduceEq, Int.reduceLT, Int.reduceLE, Int.reduceAdd]
        exact hQ _ _ H2 H2 [.sl o1 1 (cT (varsVs l acc))] nofun (by simp (disch := first | omega | assumption) only [ir66, resvs, resv, steps, st2, pev, rev, oev, optr, ibin, sbin, ishf, bound, mmAll, mm2, mk, mkArgs, AV.cells, AV.boxable, AV.one, AV.strip1, fillA, fillS, Nat.reduceEqDiff, reduceCtorEq, ↓reduceIte, Nat.reduceAdd, Int.reduceNeg, Nat.reduceLeDiff, Int.reduceToNat, Int.reduceEq, Int.reduceLT, Int.reduceLE, Int.reduceAdd]) (Low.refl _) fin
    · rintro done x rest ⟨o1, a⟩ H' J hd hlt _ ⟨hn, hle, hs⟩ hJ
      have hg := cVs_get hd
      have hx := varsV_le x a
      simp only [varsVs, bVs] at hn hle
      simp (disch := first | omega | assumption) only [cV_len, cV_take, cV_splice, cM_len, cM_take, cM_splice, cM_mk, h1, hlt, hg, steps, st2, pev, rev, oev, optr, ibin, sbin, ishf, bound, mmAll, mm2, mk, mkArgs, AV.cells, AV.boxable, AV.one, AV.strip1, fillA, fillS, Nat.reduceEqDiff, reduceCtorEq, ↓reduceIte, Nat.reduceAdd, Int.reduceNeg, Nat.reduceLeDiff, Int.reduceToNat, Int.reduceEq, Int.reduceLT, Int.reduceLE, Int.reduceAdd]
      refine goK_gives (ihl x (by rw [hd]; simp) a _ o1 (by simp only [Lim]; omega) hs.own) fun o2 H2 hs2 => ?_
      rw [cT_len] at hs2
      simp (disch := first | omega | assumption) only [wrap64, steps, st2, pev, rev, oev, optr, ibin, sbin, ishf, bound, mmAll, mm2, mk, mkArgs, AV.cells, AV.boxable, AV.one, AV.strip1, fillA, fillS, Nat.reduceEqDiff, reduceCtorEq, ↓reduceIte, Nat.reduceAdd, Int.reduceNeg, Nat.reduceLeDiff, Int.reduceToNat, Int.reduceEq, Int.reduceLT, Int.reduceLE, Int.reduceAdd]
      exact goJ (hJ (o2, varsV x a) H2 ⟨hn, by simp only; omega, hs.trans hs2⟩) (by simp (disch := first | omega | assumption) only [steps, st2, pev, rev, oev, optr, ibin, sbin, ishf, bound, mmAll, mm2, mk, mkArgs, AV.cells, AV.boxable, AV.one, AV.strip1, fillA, fillS, Nat.reduceEqDiff, reduceCtorEq, ↓reduceIte, Nat.reduceAdd, Int.reduceNeg, Nat.reduceLeDiff, Int.reduceToNat, Int.reduceEq, Int.reduceLT, Int.reduceLE, Int.reduceAdd])
  refine goL_st (fun _ : Unit => []) (fun _ H2 => H2 = H) (fun _ => 0) () (by simp (disch := first | omega | assumption) only [steps, st2, pev, rev, oev, optr, ibin, sbin, ishf, bound, mmAll, mm2, mk, mkArgs, AV.cells, AV.boxable, AV.one, AV.strip1, fillA, fillS, Nat.reduceEqDiff, reduceCtorEq, ↓reduceIte, Nat.reduceAdd, Int.reduceNeg, Nat.reduceLeDiff, Int.reduceToNat, Int.reduceEq, Int.reduceLT, Int.reduceLE, Int.reduceAdd]) rfl ?_
  rintro _ H1 J rfl _
  have run2 : ∀ (P : Prop), P → P := fun _ h => h
  by_cases k7 : k = 7
  · subst k7
    by_cases hz : (0 : Int) < l.length
    all_goals
      simp (disch := first | omega | assumption) only [h1, hz, steps, st2, pev, rev, oev, optr, ibin, sbin, ishf, bound, mmAll, mm2, mk, mkArgs, AV.cells, AV.boxable, AV.one, AV.strip1, fillA, fillS, Nat.reduceEqDiff, reduceCtorEq, ↓reduceIte, Nat.reduceAdd, Int.reduceNeg, Nat.reduceLeDiff, Int.reduceToNat, Int.reduceEq, Int.reduceLT, Int.reduceLE, Int.reduceAdd]
      refine goL_range m 6 (fun x : Own × List (List UInt8) => [(1, .sl x.1 1 (cT x.2))]) (fun done rest x H' => varsMs rest x.2 = varsMs m acc ∧ x.2.length + bMs rest ≤ acc.length + bMs m ∧ OwnS H1 o H' x.1 x.2.length 1) (o, acc) (by simp (disch := first | omega | assumption) only [steps, st2, pev, rev, oev, optr, ibin, sbin, ishf, bound, mmAll, mm2, mk, mkArgs, AV.cells, AV.boxable, AV.one, AV.strip1, fillA, fillS, Nat.reduceEqDiff, reduceCtorEq, ↓reduceIte, Nat.reduceAdd, Int.reduceNeg, Nat.reduceLeDiff, Int.reduceToNat, Int.reduceEq, Int.reduceLT, Int.reduceLE, Int.reduceAdd]) ⟨rfl, by simp, OwnS.refl ho⟩ ?_ ?_
      · rintro ⟨o1, a⟩ H' J ⟨hn, _, hs⟩ hlt
        simp only [varsMs] at hn
        subst hn
        simp (disch := first | omega | assumption) only [h2, hlt, steps, st2, pev, rev, oev, optr, ibin, sbin, ishf, bound, mmAll, mm2, mk, mkArgs, AV.cells, AV.boxable, AV.one, AV.strip1, fillA, fillS, Nat.reduceEqDiff, reduceCtorEq, ↓reduceIte, Nat.reduceAdd, Int.reduceNeg, Nat.reduceLeDiff, Int.reduceToNat, Int.reduceEq, Int.reduceLT, Int.reduceLE, Int.reduceAdd]
        have fin : OwnR H1 o 1 (cT (varsV (.mk 7 n s l m) acc)) (.sl o1 1 (cT (varsMs m acc))) H' := ⟨o1, by simp [varsV], by simpa [varsV, cT_len] using hs⟩
        exact hQ _ _ H' H' [.sl o1 1 (cT (varsMs m acc))] nofun (by simp (disch := first | omega | assumption) only [ir66, resvs, resv, steps, st2, pev, rev, oev, optr, ibin, sbin, ishf, bound, mmAll, mm2, mk, mkArgs, AV.cells, AV.boxable, AV.one, AV.strip1, fillA, fillS, Nat.reduceEqDiff, reduceCtorEq, ↓reduceIte, Nat.reduceAdd, Int.reduceNeg, Nat.reduceLeDiff, Int.reduceToNat, Int.reduceEq, Int.reduceLT, Int.reduceLE, Int.reduceAdd]) (Low.refl _) fin
      · rintro done x rest ⟨o1, a⟩ H' J hd hlt _ ⟨hn, hle, hs⟩ hJ
        have hg := cMs_get hd
        have hx := varsM_le x a
        simp only [varsMs, bMs] at hn hle
        have hmem : x ∈ m := by rw [hd]; simp
        obtain ⟨t, v⟩ := x
        simp only [varsM, bM] at hx hn hle
        simp (disch := first | omega | assumption) only [cV_len, cV_take, cV_splice, cM_len, cM_take, cM_splice, cM_mk, h2, hlt, hg, steps, st2, pev, rev, oev, optr, ibin, sbin, ishf, bound, mmAll, mm2, mk, mkArgs, AV.cells, AV.boxable, AV.one, AV.strip1, fillA, fillS, Nat.reduceEqDiff, reduceCtorEq, ↓reduceIte, Nat.reduceAdd, Int.reduceNeg, Nat.reduceLeDiff, Int.reduceToNat, Int.reduceEq, Int.reduceLT, Int.reduceLE, Int.reduceAdd]
        refine goK_gives (ihm t v hmem a _ o1 (by simp only [Lim]; omega) hs.own) fun o2 H2 hs2 => ?_
        rw [cT_len] at hs2
        simp (disch := first | omega | assumption) only [wrap64, steps, st2, pev, rev, oev, optr, ibin, sbin, ishf, bound, mmAll, mm2, mk, mkArgs, AV.cells, AV.boxable, AV.one, AV.strip1, fillA, fillS, Nat.reduceEqDiff, reduceCtorEq, ↓reduceIte, Nat.reduceAdd, Int.reduceNeg, Nat.reduceLeDiff, Int.reduceToNat, Int.reduceEq, Int.reduceLT, Int.reduceLE, Int.reduceAdd]
        exact goJ (hJ (o2, varsV v a) H2 ⟨hn, by simp only; omega, hs.trans hs2⟩) (by simp (disch := first | omega | assumption) only [steps, st2, pev, rev, oev, optr, ibin, sbin, ishf, bound, mmAll, mm2, mk, mkArgs, AV.cells, AV.boxable, AV.one, AV.strip1, fillA, fillS, Nat.reduceEqDiff, reduceCtorEq, ↓reduceIte, Nat.reduceAdd, Int.reduceNeg, Nat.reduceLeDiff, Int.reduceToNat, Int.reduceEq, Int.reduceLT, Int.reduceLE, Int.reduceAdd])
  have fin : OwnR H1 o 1 (cT (varsV (.mk k n s l m) acc)) (.sl o 1 (cT acc)) H1 := ⟨o, by simp [varsV, k8, k6, k7], by simpa [varsV, k8, k6, k7, cT_len] using OwnS.refl ho⟩
  by_cases hz : (0 : Int) < l.length
  all_goals
    simp (disch := first | omega | assumption) only [h1, hz, k6, steps, st2, pev, rev, oev, optr, ibin, sbin, ishf, bound, mmAll, mm2, mk, mkArgs, AV.cells, AV.boxable, AV.one, AV.strip1, fillA, fillS, Nat.reduceEqDiff, reduceCtorEq, ↓reduceIte, Nat.reduceAdd, Int.reduceNeg, Nat.reduceLeDiff, Int.reduceToNat, Int.reduceEq, Int.reduceLT, Int.reduceLE, Int.reduceAdd]
    refine goL_st (fun _ : Unit => []) (fun _ H2 => H2 = H1) (fun _ => 0) () (by simp (disch := first | omega | assumption) only [steps, st2, pev, rev, oev, optr, ibin, sbin, ishf, bound, mmAll, mm2, mk, mkArgs, AV.cells, AV.boxable, AV.one, AV.strip1, fillA, fillS, Nat.reduceEqDiff, reduceCtorEq, ↓reduceIte, Nat.reduceAdd, Int.reduceNeg, Nat.reduceLeDiff, Int.reduceToNat, Int.reduceEq, Int.reduceLT, Int.reduceLE, Int.reduceAdd]) rfl ?_
    rintro _ H2 J2 rfl _
    by_cases hy : (0 : Int) < m.length
    · simp (disch := first | omega | assumption) only [h2, hy, k7, steps, st2, pev, rev, oev, optr, ibin, sbin, ishf, bound, mmAll, mm2, mk, mkArgs, AV.cells, AV.boxable, AV.one, AV.strip1, fillA, fillS, Nat.reduceEqDiff, reduceCtorEq, ↓reduceIte, Nat.reduceAdd, Int.reduceNeg, Nat.reduceLeDiff, Int.reduceToNat, Int.reduceEq, Int.reduceLT, Int.reduceLE, Int.reduceAdd]
      exact hQ _ _ H2 H2 [.sl o 1 (cT acc)] nofun (by simp (disch := first | omega | assumption) only [ir66, resvs, resv, steps, st2, pev, rev, oev, optr, ibin, sbin, ishf, bound, mmAll, mm2, mk, mkArgs, AV.cells, AV.boxable, AV.one, AV.strip1, fillA, fillS, Nat.reduceEqDiff, reduceCtorEq, ↓reduceIte, Nat.reduceAdd, Int.reduceNeg, Nat.reduceLeDiff, Int.reduceToNat, Int.reduceEq, Int.reduceLT, Int.reduceLE, Int.reduceAdd]) (Low.refl _) fin
    · simp (disch := first | omega | assumption) only [h2, hy, steps, st2, pev, rev, oev, optr, ibin, sbin, ishf, bound, mmAll, mm2, mk, mkArgs, AV.cells, AV.boxable, AV.one, AV.strip1, fillA, fillS, Nat.reduceEqDiff, reduceCtorEq, ↓reduceIte, Nat.reduceAdd, Int.reduceNeg, Nat.reduceLeDiff, Int.reduceToNat, Int.reduceEq, Int.reduceLT, Int.reduceLE, Int.reduceAdd]
      exact hQ _ _ H2 H2 [.sl o 1 (cT acc)] nofun (by simp (disch := first | omega | assumption) only [ir66, resvs, resv, steps, st2, pev, rev, oev, optr, ibin, sbin, ishf, bound, mmAll, mm2, mk, mkArgs, AV.cells, AV.boxable, AV.one, AV.strip1, fillA, fillS, Nat.reduceEqDiff, reduceCtorEq, ↓reduceIte, Nat.reduceAdd, Int.reduceNeg, Nat.reduceLeDiff, Int.reduceToNat, Int.reduceEq, Int.reduceLT, Int.reduceLE, Int.reduceAdd]) (Low.refl _) fin

theorem varsTop (f : FuncId) (v : Val) (h : bV v ≤ Lim) : True := trivial

theorem varsPT (v : Val) (h : bV v ≤ Lim) : Pure Tryd.prog 37 [.agg (cV v)] (.sl .no 1 (cT (varsV v []))) := by
  refine Pure.go ir37 ck37 (Nat.le_refl _) fun KP Q hQ => ?_
  simp (disch := first | omega | assumption) only [cV_len, cV_take, cV_splice, cM_len, cM_take, cM_splice, cM_mk, ir37, steps, st2, pev, rev, oev, optr, ibin, sbin, ishf, bound, mmAll, mm2, mk, mkArgs, AV.cells, AV.boxable, AV.one, AV.strip1, fillA, fillS, Nat.reduceEqDiff, reduceCtorEq, ↓reduceIte, Nat.reduceAdd, Int.reduceNeg, Nat.reduceLeDiff, Int.reduceToNat, Int.reduceEq, Int.reduceLT, Int.reduceLE, Int.reduceAdd]
  refine goK_gives (varsP v [] _ .nil (by simpa using h) rfl) fun o' H' hs => ?_
  simp (disch := first | omega | assumption) only [steps, st2, pev, rev, oev, optr, ibin, sbin, ishf, bound, mmAll, mm2, mk, mkArgs, AV.cells, AV.boxable, AV.one, AV.strip1, fillA, fillS, Nat.reduceEqDiff, reduceCtorEq, ↓reduceIte, Nat.reduceAdd, Int.reduceNeg, Nat.reduceLeDiff, Int.reduceToNat, Int.reduceEq, Int.reduceLT, Int.reduceLE, Int.reduceAdd]
  exact hQ _ _ _ _ nofun rfl (by simp [tupOf, envOf, AV.strip, AV.strip1])
theorem varsRT (v : Val) (h : bV v ≤ Lim) : Pure Tryd.prog 38 [.agg (cV v)] (.sl .no 1 (cT (varsV v []))) := by
  refine Pure.go ir38 ck38 (Nat.le_refl _) fun KP Q hQ => ?_
  simp (disch := first | omega | assumption) only [cV_len, cV_take, cV_splice, cM_len, cM_take, cM_splice, cM_mk, ir38, steps, st2, pev, rev, oev, optr, ibin, sbin, ishf, bound, mmAll, mm2, mk, mkArgs, AV.cells, AV.boxable, AV.one, AV.strip1, fillA, fillS, Nat.reduceEqDiff, reduceCtorEq, ↓reduceIte, Nat.reduceAdd, Int.reduceNeg, Nat.reduceLeDiff, Int.reduceToNat, Int.reduceEq, Int.reduceLT, Int.reduceLE, Int.reduceAdd]
  refine goK_gives (varsR v [] _ .nil (by simpa using h) rfl) fun o' H' hs => ?_
  simp (disch := first | omega | assumption) only [steps, st2, pev, rev, oev, optr, ibin, sbin, ishf, bound, mmAll, mm2, mk, mkArgs, AV.cells, AV.boxable, AV.one, AV.strip1, fillA, fillS, Nat.reduceEqDiff, reduceCtorEq, ↓reduceIte, Nat.reduceAdd, Int.reduceNeg, Nat.reduceLeDiff, Int.reduceToNat, Int.reduceEq, Int.reduceLT, Int.reduceLE, Int.reduceAdd]
  exact hQ _ _ _ _ nofun rfl (by simp [tupOf, envOf, AV.strip, AV.strip1])
end Go.Proofs.YtpjafglhdlfnbaaDoor
