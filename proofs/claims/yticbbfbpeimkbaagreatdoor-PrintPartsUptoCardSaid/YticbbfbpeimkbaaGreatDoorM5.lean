/- Texts joined: Wc ValF ValH Pt Pu Wd We Wf Vd GoodV ValG PlainR SaysR Ra Ra2 Va Vb Vc IrB DocS DocL Vi. -/
import Derived.Lib.ValidLaws
import Derived.Test.YticbbfbpeimkbaaGreatDoorM1
import Derived.Test.YticbbfbpeimkbaaGreatDoorM2
import Derived.Test.YticbbfbpeimkbaaGreatDoorM3
import Derived.Test.YticbbfbpeimkbaaGreatDoorM4
set_option maxRecDepth 100000
set_option linter.unusedSimpArgs false
set_option linter.unusedVariables false
namespace Go.Proofs.YticbbfbpeimkbaaGreatDoor
open Go.Ab
theorem WR.cast {H0 H : Heap} {o0 o : Own} {w B B' : Nat} {l0 l tk tk' : List Tok} {ok0 r r' : Bool} {dp : Int} (h : WR H0 o0 w l0 ok0 dp B r tk H o l) (hB : B ≤ B') (hr : r = r') (ht : tk = tk') : WR H0 o0 w l0 ok0 dp B' r' tk' H o l := by
  subst hr; subst ht
  exact ⟨h.here, h.st, by have := h.len; omega, h.eq⟩
theorem WR.after {H0 H1 H : Heap} {o0 o1 o : Own} {w B : Nat} {l0 l tk : List Tok} {ok0 r : Bool} {dp : Int} (h : WR H1 o1 w l0 ok0 dp B r tk H o l) (hs : WStep H0 o0 w H1 o1) {x : AObj} (hw : H1 w = some x) : WR H0 o0 w l0 ok0 dp B r tk H o l :=
  ⟨h.here, hs.trans hw h.st, h.len, h.eq⟩
def tyRest (n : Nat) (m : Int) : Nat → List Tok
  | 0 => []
  | j + 1 => tyPc n m j ++ tyRest n m j
theorem tyTl_rest (n : Nat) (m : Int) : ∀ j, tyTl n m j = tyRest n m (j + 1)
  | 0 => by simp [tyTl, tyRest]
  | j + 1 => by rw [tyTl, tyTl_rest n m j]; rfl
theorem and1 {x : Int} (h0 : 0 ≤ x) (h1 : x < 64) : IntKind.wrap .i64 ((BitVec.ofInt IntKind.i64.bits x &&& BitVec.ofInt IntKind.i64.bits 1).toNat : Int) = x % 2 := by
  have : ∀ y : Fin 64, IntKind.wrap .i64 ((BitVec.ofInt IntKind.i64.bits (y.val : Int) &&& BitVec.ofInt IntKind.i64.bits 1).toNat : Int) = (y.val : Int) % 2 := by decide +kernel
  have := this ⟨x.toNat, by omega⟩
  simp only [Int.toNat_of_nonneg h0] at this
  exact this
theorem typeWC (t : TyD) (hs : t.nm.length ≤ Lim) : WC 141 [.agg (cTy t)] 20 (-1000) 1000 (fun _ => rightTy t) (tTy t) := by
  intro H w o l ok dp h h0 h1 hb
  have hb0 := hb
  simp only [Lim] at hb
  refine ACalls.go ir141 ck141 (Nat.le_refl _) fun KP Q hQ => ?_
  obtain ⟨nm, ls, ms⟩ := t
  simp only at hs
  have et : cTy ⟨nm, ls, ms⟩ = [.str nm, .int .i64 ls, .int .i64 ms] := rfl
  simp (disch := first | omega | assumption) only [ir141, et, steps, st2, pev, rev, oev, optr, ibin, sbin, ishf, bound, mmAll, mm2, mk, mkArgs, AV.cells, AV.boxable, AV.one, AV.strip1, fillA, fillS, Nat.reduceEqDiff, reduceCtorEq, ↓reduceIte, Nat.reduceAdd, Int.reduceNeg, Nat.reduceLeDiff, Int.reduceToNat, Int.reduceEq, Int.reduceLT, Int.reduceLE, Int.reduceAdd]
  refine goK_pure (show Pure Tryz.prog 125 [.agg [.str nm, .int .i64 ls, .int .i64 ms]] (.bool (rightTy ⟨nm, ls, ms⟩)) from rightTyC ⟨nm, ls, ms⟩ hs) ?_
  simp (disch := first | omega | assumption) only [steps, st2, pev, rev, oev, optr, ibin, sbin, ishf, bound, mmAll, mm2, mk, mkArgs, AV.cells, AV.boxable, AV.one, AV.strip1, fillA, fillS, Nat.reduceEqDiff, reduceCtorEq, ↓reduceIte, Nat.reduceAdd, Int.reduceNeg, Nat.reduceLeDiff, Int.reduceToNat, Int.reduceEq, Int.reduceLT, Int.reduceLE, Int.reduceAdd]
  refine goK_W0 (needC _) h (by omega) (by omega) (by simp only [Lim]; omega) fun o2 l2 H2 h2 h3 h4 h5 => ?_
  have hc2 := h2.cell
  cases hok : ok && rightTy ⟨nm, ls, ms⟩ with
  | false =>
    rw [hok] at h2 hc2
    simp (disch := first | omega | assumption) only [hc2, steps, st2, pev, rev, oev, optr, ibin, sbin, ishf, bound, mmAll, mm2, mk, mkArgs, AV.cells, AV.boxable, AV.one, AV.strip1, fillA, fillS, Nat.reduceEqDiff, reduceCtorEq, ↓reduceIte, Nat.reduceAdd, Int.reduceNeg, Nat.reduceLeDiff, Int.reduceToNat, Int.reduceEq, Int.reduceLT, Int.reduceLE, Int.reduceAdd]
    exact hQ _ _ H2 H2 [] nofun rfl (Low.refl _) ⟨rfl, o2, l2, by rw [hok]; exact h2, h3, by omega, fun e => by rw [hok] at e; cases e⟩
  | true =>
    rw [hok] at h2 hc2 h5
    have e2 : l2 = l := by have := h5 rfl; simpa using this
    subst e2
    have hrt : rightTy ⟨nm, ls, ms⟩ = true := by simp only [Bool.and_eq_true] at hok; exact hok.2
    have hok1 : ok = true := by simp only [Bool.and_eq_true] at hok; exact hok.1
    simp only [rightTy, Bool.and_eq_true, decide_eq_true_eq] at hrt
    obtain ⟨hnm, r1, r2, r3, r4⟩ := hrt
    obtain ⟨n, rfl⟩ : ∃ n : Nat, ls = (n : Int) := ⟨ls.toNat, by omega⟩
    have en : (n : Int).toNat = n := by omega
    rw [en] at r4
    have hn4 : n ≤ 4 := by omega
    have hms : ms < 64 := by
      have : (2 : Int) ^ (n + 1) ≤ 2 ^ 5 := by exact_mod_cast Nat.pow_le_pow_right (by decide) (by omega : n + 1 ≤ 5)
      omega
    have w0 := WR.refl h2
    simp (disch := first | omega | assumption) only [hc2, steps, st2, pev, rev, oev, optr, ibin, sbin, ishf, bound, mmAll, mm2, mk, mkArgs, AV.cells, AV.boxable, AV.one, AV.strip1, fillA, fillS, Nat.reduceEqDiff, reduceCtorEq, ↓reduceIte, Nat.reduceAdd, Int.reduceNeg, Nat.reduceLeDiff, Int.reduceToNat, Int.reduceEq, Int.reduceLT, Int.reduceLE, Int.reduceAdd]
    refine goL_st (fun x : Nat × Own × List Tok => [(16, .int .i64 x.1)]) (fun x H' => x.1 ≤ n ∧ WR H2 o2 w l2 true dp x.1 true (List.replicate x.1 (pk [91])) H' x.2.1 x.2.2) (fun x => n - x.1) (0, o2, l2) (by simp (disch := first | omega | assumption) only [steps, st2, pev, rev, oev, optr, ibin, sbin, ishf, bound, mmAll, mm2, mk, mkArgs, AV.cells, AV.boxable, AV.one, AV.strip1, fillA, fillS, Nat.reduceEqDiff, reduceCtorEq, ↓reduceIte, Nat.reduceAdd, Int.reduceNeg, Nat.reduceLeDiff, Int.reduceToNat, Int.reduceEq, Int.reduceLT, Int.reduceLE, Int.reduceAdd]) ⟨by simp, w0⟩ ?_
    rintro ⟨i, o3, l3⟩ H3 J ⟨hi, w3⟩ hJ
    simp only at hi w3
    by_cases hlt : i < n
    · have hlt' : ((i : Int) < n) = True := eq_true (by omega)
      simp (disch := first | omega | assumption) only [hlt', steps, st2, pev, rev, oev, optr, ibin, sbin, ishf, bound, mmAll, mm2, mk, mkArgs, AV.cells, AV.boxable, AV.one, AV.strip1, fillA, fillS, Nat.reduceEqDiff, reduceCtorEq, ↓reduceIte, Nat.reduceAdd, Int.reduceNeg, Nat.reduceLeDiff, Int.reduceToNat, Int.reduceEq, Int.reduceLT, Int.reduceLE, Int.reduceAdd]
      refine goK_W (markC [91] _) w3 (by omega) (by omega) (by simp only [Lim]; omega) fun o4 l4 H4 w4 _ => ?_
      simp (disch := first | omega | assumption) only [wrap64, steps, st2, pev, rev, oev, optr, ibin, sbin, ishf, bound, mmAll, mm2, mk, mkArgs, AV.cells, AV.boxable, AV.one, AV.strip1, fillA, fillS, Nat.reduceEqDiff, reduceCtorEq, ↓reduceIte, Nat.reduceAdd, Int.reduceNeg, Nat.reduceLeDiff, Int.reduceToNat, Int.reduceEq, Int.reduceLT, Int.reduceLE, Int.reduceAdd]
      exact goJ (hJ (i + 1, o4, l4) H4 (by simp only; omega) ⟨by simp only; omega, w4.cast (Nat.le_refl _) rfl (by rw [List.replicate_succ'])⟩) (by simp (disch := first | omega | assumption) only [Int.natCast_add, steps, st2, pev, rev, oev, optr, ibin, sbin, ishf, bound, mmAll, mm2, mk, mkArgs, AV.cells, AV.boxable, AV.one, AV.strip1, fillA, fillS, Nat.reduceEqDiff, reduceCtorEq, ↓reduceIte, Nat.reduceAdd, Int.reduceNeg, Nat.reduceLeDiff, Int.reduceToNat, Int.reduceEq, Int.reduceLT, Int.reduceLE, Int.reduceAdd])
    · have hlt' : ¬ ((i : Int) < n) := by omega
      obtain rfl : i = n := by omega
      simp (disch := first | omega | assumption) only [hlt', steps, st2, pev, rev, oev, optr, ibin, sbin, ishf, bound, mmAll, mm2, mk, mkArgs, AV.cells, AV.boxable, AV.one, AV.strip1, fillA, fillS, Nat.reduceEqDiff, reduceCtorEq, ↓reduceIte, Nat.reduceAdd, Int.reduceNeg, Nat.reduceLeDiff, Int.reduceToNat, Int.reduceEq, Int.reduceLT, Int.reduceLE, Int.reduceAdd]
      refine goK_W (nameWC nm hs) w3 (by omega) (by omega) (by simp only [Lim]; omega) fun o4 l4 H4 w4 _ => ?_
      rw [hnm] at w4
      simp (disch := first | omega | assumption) only [steps, st2, pev, rev, oev, optr, ibin, sbin, ishf, bound, mmAll, mm2, mk, mkArgs, AV.cells, AV.boxable, AV.one, AV.strip1, fillA, fillS, Nat.reduceEqDiff, reduceCtorEq, ↓reduceIte, Nat.reduceAdd, Int.reduceNeg, Nat.reduceLeDiff, Int.reduceToNat, Int.reduceEq, Int.reduceLT, Int.reduceLE, Int.reduceAdd]
      refine goL_st (fun x : Nat × Own × List Tok × Nat × List Tok => [(4, .int .i64 ((x.1 : Int) - 1))]) (fun x H' => x.1 ≤ i + 1 ∧ x.2.2.2.1 + 2 * x.1 ≤ 19 ∧ x.2.2.2.2 ++ tyRest i ms x.1 = tTy ⟨nm, i, ms⟩ ∧ WR H2 o2 w l2 true dp x.2.2.2.1 true x.2.2.2.2 H' x.2.1 x.2.2.1) (fun x => x.1)
        (i + 1, o4, l4, i + 1, List.replicate i (pk [91]) ++ [wk nm]) (by simp (disch := first | omega | assumption) only [Int.natCast_add, Int.add_sub_cancel, steps, st2, pev, rev, oev, optr, ibin, sbin, ishf, bound, mmAll, mm2, mk, mkArgs, AV.cells, AV.boxable, AV.one, AV.strip1, fillA, fillS, Nat.reduceEqDiff, reduceCtorEq, ↓reduceIte, Nat.reduceAdd, Int.reduceNeg, Nat.reduceLeDiff, Int.reduceToNat, Int.reduceEq, Int.reduceLT, Int.reduceLE, Int.reduceAdd]) ⟨by simp, by simp only; omega, by simp only [tTy, en, tyTl_rest]; simp, w4.cast (Nat.le_refl _) rfl rfl⟩ ?_
      rintro ⟨k, o5, l5, B, tk⟩ H5 J5 ⟨hk, hB, htk, w5⟩ hJ5
      simp only at hk hB htk w5
      cases k with
      | zero =>
        have hz : ¬ ((0 : Int) ≤ -1) := by omega
        have w6 := w5.after h3 h2.cell
        simp only [tyRest, List.append_nil] at htk
        simp (disch := first | omega | assumption) only [hz, Int.reduceSub, steps, st2, pev, rev, oev, optr, ibin, sbin, ishf, bound, mmAll, mm2, mk, mkArgs, AV.cells, AV.boxable, AV.one, AV.strip1, fillA, fillS, Nat.reduceEqDiff, reduceCtorEq, ↓reduceIte, Nat.reduceAdd, Int.reduceNeg, Nat.reduceLeDiff, Int.reduceToNat, Int.reduceEq, Int.reduceLT, Int.reduceLE, Int.reduceAdd]
        refine hQ _ _ H5 H5 [] nofun rfl (Low.refl _) ⟨rfl, ?_⟩
        obtain ⟨o', l', g1, g2, g3, g4⟩ := w6.fin (B' := 20) rfl (fun _ => htk) (by omega)
        rw [hok]
        exact ⟨o', l', by simpa using g1, g2, by omega, fun _ => by simpa using g4 rfl⟩
      | succ j =>
        have e0 : ((j + 1 : Nat) : Int) - 1 = (j : Int) := by omega
        have hz : ((0 : Int) ≤ j) = True := eq_true (by omega)
        have hbit := fdivP ms j (by omega)
        have hq0 : 0 ≤ ms / 2 ^ j := Int.ediv_nonneg r3 (by exact_mod_cast Nat.zero_le _)
        have hq1 : ms / 2 ^ j < 64 := by
          have : ms / 2 ^ j ≤ ms := Int.ediv_le_self _ r3
          omega
        have ha := and1 hq0 hq1
        have hj0 : ¬ ((j : Int) < 0) := by omega
        simp only [tyRest, tyPc] at htk
        by_cases hji : j < i
        · have hji' : ((j : Int) < i) = True := eq_true (by omega)
          rw [if_pos hji] at htk
          simp (disch := first | omega | assumption) only [e0, hz, hji', steps, st2, pev, rev, oev, optr, ibin, sbin, ishf, bound, mmAll, mm2, mk, mkArgs, AV.cells, AV.boxable, AV.one, AV.strip1, fillA, fillS, Nat.reduceEqDiff, reduceCtorEq, ↓reduceIte, Nat.reduceAdd, Int.reduceNeg, Nat.reduceLeDiff, Int.reduceToNat, Int.reduceEq, Int.reduceLT, Int.reduceLE, Int.reduceAdd]
          refine goK_W (markC [93] _) w5 (by omega) (by omega) (by simp only [Lim]; omega) fun o6 l6 H6 w6 _ => ?_
          by_cases hbt : ms / 2 ^ j % 2 = 1
          · have hbb : bitB ms j = true := by simp [bitB, hbt]
            rw [hbb] at htk
            simp (disch := first | omega | assumption) only [hbit, hj0, ha, hbt, steps, st2, pev, rev, oev, optr, ibin, sbin, ishf, bound, mmAll, mm2, mk, mkArgs, AV.cells, AV.boxable, AV.one, AV.strip1, fillA, fillS, Nat.reduceEqDiff, reduceCtorEq, ↓reduceIte, Nat.reduceAdd, Int.reduceNeg, Nat.reduceLeDiff, Int.reduceToNat, Int.reduceEq, Int.reduceLT, Int.reduceLE, Int.reduceAdd]
            refine goK_W (markC [33] _) w6 (by omega) (by omega) (by simp only [Lim]; omega) fun o7 l7 H7 w7 _ => ?_
            simp (disch := first | omega | assumption) only [wrap64, steps, st2, pev, rev, oev, optr, ibin, sbin, ishf, bound, mmAll, mm2, mk, mkArgs, AV.cells, AV.boxable, AV.one, AV.strip1, fillA, fillS, Nat.reduceEqDiff, reduceCtorEq, ↓reduceIte, Nat.reduceAdd, Int.reduceNeg, Nat.reduceLeDiff, Int.reduceToNat, Int.reduceEq, Int.reduceLT, Int.reduceLE, Int.reduceAdd]
            exact goJ (hJ5 (j, o7, l7, B + 1 + 1, tk ++ [pk [93]] ++ [pk [33]]) H7 (Nat.lt_succ_self j) ⟨by simp only; omega, by simp only; omega, by rw [← htk]; simp, w7.cast (Nat.le_refl _) rfl rfl⟩) (by simp (disch := first | omega | assumption) only [steps, st2, pev, rev, oev, optr, ibin, sbin, ishf, bound, mmAll, mm2, mk, mkArgs, AV.cells, AV.boxable, AV.one, AV.strip1, fillA, fillS, Nat.reduceEqDiff, reduceCtorEq, ↓reduceIte, Nat.reduceAdd, Int.reduceNeg, Nat.reduceLeDiff, Int.reduceToNat, Int.reduceEq, Int.reduceLT, Int.reduceLE, Int.reduceAdd])
          · have hbb : bitB ms j = false := by simp [bitB, hbt]
            rw [hbb] at htk
            simp (disch := first | omega | assumption) only [hbit, hj0, ha, hbt, wrap64, steps, st2, pev, rev, oev, optr, ibin, sbin, ishf, bound, mmAll, mm2, mk, mkArgs, AV.cells, AV.boxable, AV.one, AV.strip1, fillA, fillS, Nat.reduceEqDiff, reduceCtorEq, ↓reduceIte, Nat.reduceAdd, Int.reduceNeg, Nat.reduceLeDiff, Int.reduceToNat, Int.reduceEq, Int.reduceLT, Int.reduceLE, Int.reduceAdd]
            exact goJ (hJ5 (j, o6, l6, B + 1, tk ++ [pk [93]]) H6 (Nat.lt_succ_self j) ⟨by simp only; omega, by simp only; omega, by rw [← htk]; simp, w6.cast (Nat.le_refl _) rfl rfl⟩) (by simp (disch := first | omega | assumption) only [steps, st2, pev, rev, oev, optr, ibin, sbin, ishf, bound, mmAll, mm2, mk, mkArgs, AV.cells, AV.boxable, AV.one, AV.strip1, fillA, fillS, Nat.reduceEqDiff, reduceCtorEq, ↓reduceIte, Nat.reduceAdd, Int.reduceNeg, Nat.reduceLeDiff, Int.reduceToNat, Int.reduceEq, Int.reduceLT, Int.reduceLE, Int.reduceAdd])
        · have hji' : ¬ ((j : Int) < i) := by omega
          rw [if_neg hji] at htk
          by_cases hbt : ms / 2 ^ j % 2 = 1
          · have hbb : bitB ms j = true := by simp [bitB, hbt]
            rw [hbb] at htk
            simp (disch := first | omega | assumption) only [e0, hz, hji', hbit, hj0, ha, hbt, steps, st2, pev, rev, oev, optr, ibin, sbin, ishf, bound, mmAll, mm2, mk, mkArgs, AV.cells, AV.boxable, AV.one, AV.strip1, fillA, fillS, Nat.reduceEqDiff, reduceCtorEq, ↓reduceIte, Nat.reduceAdd, Int.reduceNeg, Nat.reduceLeDiff, Int.reduceToNat, Int.reduceEq, Int.reduceLT, Int.reduceLE, Int.reduceAdd]
            refine goK_W (markC [33] _) w5 (by omega) (by omega) (by simp only [Lim]; omega) fun o7 l7 H7 w7 _ => ?_
            simp (disch := first | omega | assumption) only [wrap64, steps, st2, pev, rev, oev, optr, ibin, sbin, ishf, bound, mmAll, mm2, mk, mkArgs, AV.cells, AV.boxable, AV.one, AV.strip1, fillA, fillS, Nat.reduceEqDiff, reduceCtorEq, ↓reduceIte, Nat.reduceAdd, Int.reduceNeg, Nat.reduceLeDiff, Int.reduceToNat, Int.reduceEq, Int.reduceLT, Int.reduceLE, Int.reduceAdd]
            exact goJ (hJ5 (j, o7, l7, B + 1, tk ++ [pk [33]]) H7 (Nat.lt_succ_self j) ⟨by simp only; omega, by simp only; omega, by rw [← htk]; simp, w7.cast (Nat.le_refl _) rfl rfl⟩) (by simp (disch := first | omega | assumption) only [steps, st2, pev, rev, oev, optr, ibin, sbin, ishf, bound, mmAll, mm2, mk, mkArgs, AV.cells, AV.boxable, AV.one, AV.strip1, fillA, fillS, Nat.reduceEqDiff, reduceCtorEq, ↓reduceIte, Nat.reduceAdd, Int.reduceNeg, Nat.reduceLeDiff, Int.reduceToNat, Int.reduceEq, Int.reduceLT, Int.reduceLE, Int.reduceAdd])
          · have hbb : bitB ms j = false := by simp [bitB, hbt]
            rw [hbb] at htk
            simp (disch := first | omega | assumption) only [e0, hz, hji', hbit, hj0, ha, hbt, wrap64, steps, st2, pev, rev, oev, optr, ibin, sbin, ishf, bound, mmAll, mm2, mk, mkArgs, AV.cells, AV.boxable, AV.one, AV.strip1, fillA, fillS, Nat.reduceEqDiff, reduceCtorEq, ↓reduceIte, Nat.reduceAdd, Int.reduceNeg, Nat.reduceLeDiff, Int.reduceToNat, Int.reduceEq, Int.reduceLT, Int.reduceLE, Int.reduceAdd]
            exact goJ (hJ5 (j, o5, l5, B, tk) H5 (Nat.lt_succ_self j) ⟨by simp only; omega, by simp only; omega, by rw [← htk]; simp, w5⟩) (by simp (disch := first | omega | assumption) only [steps, st2, pev, rev, oev, optr, ibin, sbin, ishf, bound, mmAll, mm2, mk, mkArgs, AV.cells, AV.boxable, AV.one, AV.strip1, fillA, fillS, Nat.reduceEqDiff, reduceCtorEq, ↓reduceIte, Nat.reduceAdd, Int.reduceNeg, Nat.reduceLeDiff, Int.reduceToNat, Int.reduceEq, Int.reduceLT, Int.reduceLE, Int.reduceAdd])
theorem defaultWC (has : Bool) (v : Val) (hw : wfV v) (hv : 4 * bV v ≤ Lim) : WC 142 [.bool has, .agg (cV v)] (1 + 4 * bV v) 0 32 (fun dp => if has then rightV2 dp true v else eqd v zV) (tDf has v) := by
  intro H w o l ok dp h h0 h1 hb
  have hvb : bV v ≤ Lim := by simp only [Lim] at hv ⊢; omega
  refine ACalls.go ir142 ck142 (Nat.le_refl _) fun KP Q hQ => ?_
  have w0 := WR.refl h
  cases has with
  | false =>
    simp (disch := first | omega | assumption) only [cV_len, cV_take, cV_splice, cM_len, cM_take, cM_splice, cM_mk, ir142, steps, st2, pev, rev, oev, optr, ibin, sbin, ishf, bound, mmAll, mm2, mk, mkArgs, AV.cells, AV.boxable, AV.one, AV.strip1, fillA, fillS, Nat.reduceEqDiff, reduceCtorEq, ↓reduceIte, Nat.reduceAdd, Int.reduceNeg, Nat.reduceLeDiff, Int.reduceToNat, Int.reduceEq, Int.reduceLT, Int.reduceLE, Int.reduceAdd]
    refine goK_pure (Pure.low (r := .bool (eqd v zV)) (by
      have := sameP v hvb zV
      simpa [AV.strip, cV_strip, cV_zero, AV.strip1] using this)) ?_
    simp (disch := first | omega | assumption) only [steps, st2, pev, rev, oev, optr, ibin, sbin, ishf, bound, mmAll, mm2, mk, mkArgs, AV.cells, AV.boxable, AV.one, AV.strip1, fillA, fillS, Nat.reduceEqDiff, reduceCtorEq, ↓reduceIte, Nat.reduceAdd, Int.reduceNeg, Nat.reduceLeDiff, Int.reduceToNat, Int.reduceEq, Int.reduceLT, Int.reduceLE, Int.reduceAdd]
    refine goK_W (needC _) w0 (by omega) (by omega) (by omega) fun o2 l2 H2 w2 _ => ?_
    simp (disch := first | omega | assumption) only [steps, st2, pev, rev, oev, optr, ibin, sbin, ishf, bound, mmAll, mm2, mk, mkArgs, AV.cells, AV.boxable, AV.one, AV.strip1, fillA, fillS, Nat.reduceEqDiff, reduceCtorEq, ↓reduceIte, Nat.reduceAdd, Int.reduceNeg, Nat.reduceLeDiff, Int.reduceToNat, Int.reduceEq, Int.reduceLT, Int.reduceLE, Int.reduceAdd]
    exact hQ _ _ H2 H2 [] nofun rfl (Low.refl _) ⟨rfl, w2.fin (by simp) (fun _ => by simp [tDf]) (by omega)⟩
  | true =>
    simp (disch := first | omega | assumption) only [cV_len, cV_take, cV_splice, cM_len, cM_take, cM_splice, cM_mk, ir142, steps, st2, pev, rev, oev, optr, ibin, sbin, ishf, bound, mmAll, mm2, mk, mkArgs, AV.cells, AV.boxable, AV.one, AV.strip1, fillA, fillS, Nat.reduceEqDiff, reduceCtorEq, ↓reduceIte, Nat.reduceAdd, Int.reduceNeg, Nat.reduceLeDiff, Int.reduceToNat, Int.reduceEq, Int.reduceLT, Int.reduceLE, Int.reduceAdd]
    refine goK_W (markC [61] _) w0 (by omega) (by omega) (by omega) fun o2 l2 H2 w2 _ => ?_
    simp (disch := first | omega | assumption) only [cV_len, cV_take, cV_splice, cM_len, cM_take, cM_splice, cM_mk, steps, st2, pev, rev, oev, optr, ibin, sbin, ishf, bound, mmAll, mm2, mk, mkArgs, AV.cells, AV.boxable, AV.one, AV.strip1, fillA, fillS, Nat.reduceEqDiff, reduceCtorEq, ↓reduceIte, Nat.reduceAdd, Int.reduceNeg, Nat.reduceLeDiff, Int.reduceToNat, Int.reduceEq, Int.reduceLT, Int.reduceLE, Int.reduceAdd]
    refine goK_W (valueWC v hw hv true) w2 (by omega) (by omega) (by omega) fun o3 l3 H3 w3 _ => ?_
    simp (disch := first | omega | assumption) only [steps, st2, pev, rev, oev, optr, ibin, sbin, ishf, bound, mmAll, mm2, mk, mkArgs, AV.cells, AV.boxable, AV.one, AV.strip1, fillA, fillS, Nat.reduceEqDiff, reduceCtorEq, ↓reduceIte, Nat.reduceAdd, Int.reduceNeg, Nat.reduceLeDiff, Int.reduceToNat, Int.reduceEq, Int.reduceLT, Int.reduceLE, Int.reduceAdd]
    exact hQ _ _ H3 H3 [] nofun rfl (Low.refl _) ⟨rfl, w3.fin (by simp) (fun _ => by simp [tDf]) (by omega)⟩
theorem argsWC (fixed : Bool) (m : List Mem) (hw : wfMs m) (hm : 8 * bMs m ≤ Lim) : WC 157 [.bool fixed, .sl .no 6 (cMs m)] (2 + 6 * bMs m) 0 32 (fun dp => rightMs dp fixed m) (tArgs m) := by
  intro H w o l ok dp h h0 h1 hb
  have hml := bMs_len m
  have hcl := cMs_len m
  refine ACalls.go ir157 ck157 (Nat.le_refl _) fun KP Q hQ => ?_
  have w0 := WR.refl h
  by_cases hz : m.length = 0
  · have hz' : ((m.length : Int) = 0) = True := eq_true (by omega)
    simp (disch := first | omega | assumption) only [ir157, hcl, hz', steps, st2, pev, rev, oev, optr, ibin, sbin, ishf, bound, mmAll, mm2, mk, mkArgs, AV.cells, AV.boxable, AV.one, AV.strip1, fillA, fillS, Nat.reduceEqDiff, reduceCtorEq, ↓reduceIte, Nat.reduceAdd, Int.reduceNeg, Nat.reduceLeDiff, Int.reduceToNat, Int.reduceEq, Int.reduceLT, Int.reduceLE, Int.reduceAdd]
    have em := List.length_eq_zero_iff.1 hz
    subst em
    exact hQ _ _ H H [] nofun rfl (Low.refl _) ⟨rfl, w0.fin rfl (fun _ => rfl) (by omega)⟩
  · have hz' : ¬ ((m.length : Int) = 0) := by omega
    simp (disch := first | omega | assumption) only [ir157, hcl, hz', steps, st2, pev, rev, oev, optr, ibin, sbin, ishf, bound, mmAll, mm2, mk, mkArgs, AV.cells, AV.boxable, AV.one, AV.strip1, fillA, fillS, Nat.reduceEqDiff, reduceCtorEq, ↓reduceIte, Nat.reduceAdd, Int.reduceNeg, Nat.reduceLeDiff, Int.reduceToNat, Int.reduceEq, Int.reduceLT, Int.reduceLE, Int.reduceAdd]
    refine goK_W (markC [40] _) w0 (by omega) (by omega) (by omega) fun o2 l2 H2 w2 _ => ?_
    simp (disch := first | omega | assumption) only [hcl, steps, st2, pev, rev, oev, optr, ibin, sbin, ishf, bound, mmAll, mm2, mk, mkArgs, AV.cells, AV.boxable, AV.one, AV.strip1, fillA, fillS, Nat.reduceEqDiff, reduceCtorEq, ↓reduceIte, Nat.reduceAdd, Int.reduceNeg, Nat.reduceLeDiff, Int.reduceToNat, Int.reduceEq, Int.reduceLT, Int.reduceLE, Int.reduceAdd]
    refine goL_range m 16 (fun x : Own × List Tok => []) (fun done rest x H' => WR H o w l ok dp (1 + 6 * bMs done) (rightMs dp fixed done) (pk [40] :: tokMs done) H' x.1 x.2) (o2, l2) (by simp (disch := first | omega | assumption) only [steps, st2, pev, rev, oev, optr, ibin, sbin, ishf, bound, mmAll, mm2, mk, mkArgs, AV.cells, AV.boxable, AV.one, AV.strip1, fillA, fillS, Nat.reduceEqDiff, reduceCtorEq, ↓reduceIte, Nat.reduceAdd, Int.reduceNeg, Nat.reduceLeDiff, Int.reduceToNat, Int.reduceEq, Int.reduceLT, Int.reduceLE, Int.reduceAdd]) (w2.cast (by omega) rfl rfl) ?_ ?_
    · rintro ⟨o3, l3⟩ H3 J w3 hlt
      simp only at w3
      simp (disch := first | omega | assumption) only [hcl, hlt, steps, st2, pev, rev, oev, optr, ibin, sbin, ishf, bound, mmAll, mm2, mk, mkArgs, AV.cells, AV.boxable, AV.one, AV.strip1, fillA, fillS, Nat.reduceEqDiff, reduceCtorEq, ↓reduceIte, Nat.reduceAdd, Int.reduceNeg, Nat.reduceLeDiff, Int.reduceToNat, Int.reduceEq, Int.reduceLT, Int.reduceLE, Int.reduceAdd]
      refine goK_W (markC [41] _) w3 (by omega) (by omega) (by omega) fun o4 l4 H4 w4 _ => ?_
      simp (disch := first | omega | assumption) only [steps, st2, pev, rev, oev, optr, ibin, sbin, ishf, bound, mmAll, mm2, mk, mkArgs, AV.cells, AV.boxable, AV.one, AV.strip1, fillA, fillS, Nat.reduceEqDiff, reduceCtorEq, ↓reduceIte, Nat.reduceAdd, Int.reduceNeg, Nat.reduceLeDiff, Int.reduceToNat, Int.reduceEq, Int.reduceLT, Int.reduceLE, Int.reduceAdd]
      exact hQ _ _ H4 H4 [] nofun rfl (Low.refl _) ⟨rfl, w4.fin (by simp) (fun _ => by unfold tArgs; rw [if_neg hz]; rfl) (by omega)⟩
    · rintro done x rest ⟨o3, l3⟩ H3 J hd hlt hlt2 w3 hJ
      simp only at w3
      have hg := cMs_get hd
      have hbm := bMs_mid done x rest
      rw [← hd] at hbm
      have hmem : x ∈ m := by rw [hd]; simp
      obtain ⟨s, v⟩ := x
      have hwv := wfMs_mem hw s v hmem
      have hvp := bV_pos v
      simp only [bM] at hbm
      have hm' := hm
      simp only [Lim] at hm'
      have hbw : b0 w = b0 w := rfl
      simp (disch := first | omega | assumption) only [cV_len, cV_take, cV_splice, cM_len, cM_take, cM_splice, cM_mk, hcl, hlt, hg, steps, st2, pev, rev, oev, optr, ibin, sbin, ishf, bound, mmAll, mm2, mk, mkArgs, AV.cells, AV.boxable, AV.one, AV.strip1, fillA, fillS, Nat.reduceEqDiff, reduceCtorEq, ↓reduceIte, Nat.reduceAdd, Int.reduceNeg, Nat.reduceLeDiff, Int.reduceToNat, Int.reduceEq, Int.reduceLT, Int.reduceLE, Int.reduceAdd]
      refine goA_intro fun b hb => ?_
      have hbw : b ≠ w := fun e => by subst e; rw [w3.here.cell] at hb; cases hb
      have w4 := w3.alloc (x := .cells (.str s :: cV v)) hb
      have hbc : (H3.upd b (.cells (.str s :: cV v))) b = some (.cells (.str s :: cV v)) := upd_same ..
      simp (disch := first | omega | assumption) only [cV_len, cV_take, cV_splice, cM_len, cM_take, cM_splice, cM_mk, steps, st2, pev, rev, oev, optr, ibin, sbin, ishf, bound, mmAll, mm2, mk, mkArgs, AV.cells, AV.boxable, AV.one, AV.strip1, fillA, fillS, Nat.reduceEqDiff, reduceCtorEq, ↓reduceIte, Nat.reduceAdd, Int.reduceNeg, Nat.reduceLeDiff, Int.reduceToNat, Int.reduceEq, Int.reduceLT, Int.reduceLE, Int.reduceAdd]
      refine goK_W (nameWC s (by simp only [Lim]; omega)) w4 (by omega) (by omega) (by omega) fun o5 l5 H5 w5 s5 => ?_
      have hb5 := s5.box w4.here.own hbc hbw
      simp (disch := first | omega | assumption) only [cV_len, cV_take, cV_splice, cM_len, cM_take, cM_splice, cM_mk, hb5, steps, st2, pev, rev, oev, optr, ibin, sbin, ishf, bound, mmAll, mm2, mk, mkArgs, AV.cells, AV.boxable, AV.one, AV.strip1, fillA, fillS, Nat.reduceEqDiff, reduceCtorEq, ↓reduceIte, Nat.reduceAdd, Int.reduceNeg, Nat.reduceLeDiff, Int.reduceToNat, Int.reduceEq, Int.reduceLT, Int.reduceLE, Int.reduceAdd]
      refine goK_W (markC [58] _) w5 (by omega) (by omega) (by omega) fun o6 l6 H6 w6 s6 => ?_
      have hb6 := s6.box w5.here.own hb5 hbw
      simp (disch := first | omega | assumption) only [cV_len, cV_take, cV_splice, cM_len, cM_take, cM_splice, cM_mk, hb6, steps, st2, pev, rev, oev, optr, ibin, sbin, ishf, bound, mmAll, mm2, mk, mkArgs, AV.cells, AV.boxable, AV.one, AV.strip1, fillA, fillS, Nat.reduceEqDiff, reduceCtorEq, ↓reduceIte, Nat.reduceAdd, Int.reduceNeg, Nat.reduceLeDiff, Int.reduceToNat, Int.reduceEq, Int.reduceLT, Int.reduceLE, Int.reduceAdd]
      refine goK_W (valueWC v hwv (by simp only [Lim]; omega) fixed) w6 (by omega) (by omega) (by omega) fun o7 l7 H7 w7 s7 => ?_
      simp (disch := first | omega | assumption) only [wrap64, steps, st2, pev, rev, oev, optr, ibin, sbin, ishf, bound, mmAll, mm2, mk, mkArgs, AV.cells, AV.boxable, AV.one, AV.strip1, fillA, fillS, Nat.reduceEqDiff, reduceCtorEq, ↓reduceIte, Nat.reduceAdd, Int.reduceNeg, Nat.reduceLeDiff, Int.reduceToNat, Int.reduceEq, Int.reduceLT, Int.reduceLE, Int.reduceAdd]
      exact goJ (hJ (o7, l7) H7 (w7.cast (by rw [bMs_mid done (.mk s v) []]; simp only [bM, bMs]; omega) (by simp [rightMs, rightMe, Bool.and_assoc]) (by rw [tokMs_app]; simp [tokMs, tokM, wk, pk]))) (by simp (disch := first | omega | assumption) only [steps, st2, pev, rev, oev, optr, ibin, sbin, ishf, bound, mmAll, mm2, mk, mkArgs, AV.cells, AV.boxable, AV.one, AV.strip1, fillA, fillS, Nat.reduceEqDiff, reduceCtorEq, ↓reduceIte, Nat.reduceAdd, Int.reduceNeg, Nat.reduceLeDiff, Int.reduceToNat, Int.reduceEq, Int.reduceLT, Int.reduceLE, Int.reduceAdd])
end Go.Proofs.YticbbfbpeimkbaaGreatDoor
namespace Go.Proofs.YticbbfbpeimkbaaGreatDoor
open Go.Ab
end Go.Proofs.YticbbfbpeimkbaaGreatDoor
namespace Go.Proofs.YticbbfbpeimkbaaGreatDoor
open Go.Ab
abbrev pl (v : Val) : Prop := allV nameM v = true
inductive Shape : Val → Prop
  | null : Shape (.mk 0 0 [] [] [])
  | bool (n : Int) (h : n = 0 ∨ n = 1) : Shape (.mk 1 n [] [] [])
  | int (n : Int) : Shape (.mk 2 n [] [] [])
  | num (s : List UInt8) (h : numB s = true) : Shape (.mk 3 0 s [] [])
  | text (s : List UInt8) : Shape (.mk 4 0 s [] [])
  | word (s : List UInt8) (h : resB s = false) : Shape (.mk 5 0 s [] [])
  | var (s : List UInt8) : Shape (.mk 8 0 s [] [])
  | list (l : List Val) (h : allVs nameM l = true) : Shape (.mk 6 0 [] l [])
  | obj (m : List Mem) (h : allMs nameM m = true) : Shape (.mk 7 0 [] [] m)
theorem bareM_iff {n : Int} {s : List UInt8} {l : List Val} {m : List Mem} : bareM n s l m = true ↔ n = 0 ∧ s = [] ∧ l = [] ∧ m = [] := by
  simp [bareM]
theorem shape : ∀ v, pl v → Shape v
  | .mk k n s l m, h => by
    simp only [pl, allV] at h
    split at h
    · rename_i k6
      subst k6
      simp only [Bool.and_eq_true, bareM_iff] at h
      obtain ⟨h1, rfl, rfl, _, rfl⟩ := h
      exact .list l h1
    · split at h
      · rename_i k7
        subst k7
        simp only [Bool.and_eq_true, bareM_iff] at h
        obtain ⟨h1, rfl, rfl, rfl, _⟩ := h
        exact .obj m h1
      · simp only [singleM, Bool.and_eq_true, bareM_iff] at h
        obtain ⟨⟨_, _, rfl, rfl⟩, h⟩ := h
        split at h
        · rename_i k0
          subst k0
          simp only [Bool.and_eq_true, decide_eq_true_eq] at h
          obtain ⟨rfl, rfl⟩ := h
          exact .null
        split at h
        · rename_i k0
          subst k0
          simp only [Bool.and_eq_true, Bool.or_eq_true, decide_eq_true_eq] at h
          obtain ⟨h, rfl⟩ := h
          exact .bool n h
        split at h
        · rename_i k0
          subst k0
          simp only [decide_eq_true_eq] at h
          subst h
          exact .int n
        split at h
        · rename_i k0
          subst k0
          simp only [Bool.and_eq_true, decide_eq_true_eq] at h
          obtain ⟨rfl, h⟩ := h
          exact .num s h
        split at h
        · rename_i k0
          subst k0
          simp only [Bool.and_eq_true, decide_eq_true_eq] at h
          obtain ⟨rfl, h⟩ := h
          exact .text s
        split at h
        · rename_i k0
          subst k0
          simp only [Bool.and_eq_true, decide_eq_true_eq, Bool.not_eq_true'] at h
          obtain ⟨rfl, _, h⟩ := h
          exact .word s h
        split at h
        · rename_i k0
          subst k0
          simp only [Bool.and_eq_true, decide_eq_true_eq] at h
          obtain ⟨rfl, _⟩ := h
          exact .var s
        · cases h
end Go.Proofs.YticbbfbpeimkbaaGreatDoor
namespace Go.Proofs.YticbbfbpeimkbaaGreatDoor
open Go.Ab
end Go.Proofs.YticbbfbpeimkbaaGreatDoor
namespace Go.Proofs.YticbbfbpeimkbaaGreatDoor
open Go.Ab
theorem wfSs_mem : ∀ {l : List SelD}, wfSs l → ∀ v ∈ l, wfS v
  | _ :: _, h, v, hv => (List.mem_cons.1 hv).elim (fun e => e ▸ h.1) (wfSs_mem h.2 v)
end Go.Proofs.YticbbfbpeimkbaaGreatDoor
namespace Go.Proofs.YticbbfbpeimkbaaGreatDoor
open Go.Ab
theorem rightDs_snoc (dp : Int) (fixed : Bool) (l : List DirD) (x : DirD) : rightDs dp fixed (l ++ [x]) = (rightDs dp fixed l && rightDi dp fixed x) := by simp [rightDs]
theorem tDs_snoc (l : List DirD) (x : DirD) : tDs (l ++ [x]) = tDs l ++ tD x := by simp [tDs]
theorem bDs_snoc (l : List DirD) (x : DirD) : bDs (l ++ [x]) = bDs l + bD x := by simp [bDs]
theorem dirsWC (fixed : Bool) (m : List DirD) (hw : wfDs m) (hm : 8 * bDs m ≤ Lim) : WC 143 [.bool fixed, .sl .no 2 (cDs m)] (8 * bDs m) 0 32 (fun dp => rightDs dp fixed m) (tDs m) := by
  intro H w o l ok dp h h0 h1 hb
  have hml := bDs_len m
  have hcl := cDs_len m
  have hm' := hm
  simp only [Lim] at hm'
  refine ACalls.go ir143 ck143 (Nat.le_refl _) fun KP Q hQ => ?_
  have w0 := WR.refl h
  simp (disch := first | omega | assumption) only [ir143, hcl, go_sem, ↓reduceIte]
  refine goL_range m 10 (fun x : Own × List Tok => []) (fun done rest x H' => WR H o w l ok dp (8 * bDs done) (rightDs dp fixed done) (tDs done) H' x.1 x.2) (o, l) (by simp (disch := first | omega | assumption) only [go_sem, ↓reduceIte]) (w0.cast (by omega) rfl rfl) ?_ ?_
  · rintro ⟨o3, l3⟩ H3 J w3 hlt
    simp only at w3
    simp (disch := first | omega | assumption) only [hcl, hlt, go_sem, ↓reduceIte]
    exact hQ _ _ H3 H3 [] nofun rfl (Low.refl _) ⟨rfl, w3.fin rfl (fun _ => rfl) (by omega)⟩
  · rintro done x rest ⟨o3, l3⟩ H3 J hd hlt hlt2 w3 hJ
    simp only at w3
    have hg := cDs_get hd
    have hbm := bDs_mid done x rest
    rw [← hd] at hbm
    have hmem : x ∈ m := by rw [hd]; simp
    have hwx := hw x hmem
    obtain ⟨s, args⟩ := x
    have hal := bMs_len args
    simp only [bD] at hbm
    have ex : cD ⟨s, args⟩ = [.str s, .sl .no 6 (cMs args)] := rfl
    rw [ex] at hg
    simp (disch := first | omega | assumption) only [hcl, hlt, hg, go_sem, ↓reduceIte]
    refine goA_intro fun b hb => ?_
    have hbw : b ≠ w := fun e => by subst e; rw [w3.here.cell] at hb; cases hb
    have w4 := w3.alloc (x := .cells [.str s, .sl .no 6 (cMs args)]) hb
    have hbc : (H3.upd b (.cells [.str s, .sl .no 6 (cMs args)])) b = some (.cells [.str s, .sl .no 6 (cMs args)]) := upd_same ..
    simp (disch := first | omega | assumption) only [go_sem, ↓reduceIte]
    refine goK_W (markC [64] _) w4 (by omega) (by omega) (by omega) fun o5 l5 H5 w5 s5 => ?_
    have hb5 := s5.box w4.here.own hbc hbw
    simp (disch := first | omega | assumption) only [hb5, go_sem, ↓reduceIte]
    refine goK_W (nameWC s (by simp only [Lim]; omega)) w5 (by omega) (by omega) (by omega) fun o6 l6 H6 w6 s6 => ?_
    have hb6 := s6.box w5.here.own hb5 hbw
    simp (disch := first | omega | assumption) only [hb6, go_sem, ↓reduceIte]
    refine goK_W (argsWC fixed args hwx (by simp only [Lim]; omega)) w6 (by omega) (by omega) (by omega) fun o7 l7 H7 w7 s7 => ?_
    simp (disch := first | omega | assumption) only [wrap64, go_sem, ↓reduceIte]
    exact goJ (hJ (o7, l7) H7 (w7.cast (by rw [bDs_snoc]; simp only [bD]; omega) (by rw [rightDs_snoc]; simp [rightDi, Bool.and_assoc]) (by rw [tDs_snoc]; simp [tD]))) (by simp (disch := first | omega | assumption) only [go_sem, ↓reduceIte])
def ListW (c : Nat) : Prop := ∀ l : List SelD, bSs l ≤ c → wfSs l → 16 * bSs l + 2 ≤ Lim → WC 87 [.sl .no 7 (cSs l)] (16 * bSs l) 0 17 (fun dp => rightSs dp l) (tSl l)
theorem blockWC {c : Nat} (hL : ListW c) (l : List SelD) (hc : bSs l ≤ c) (hw : wfSs l) (hm : 16 * bSs l + 2 ≤ Lim) : WC 144 [.sl .no 7 (cSs l)] (16 * bSs l + 2) 0 16 (fun dp => rightSs (dp + 1) l) (tBl l) := by
  intro H w o k ok dp h h0 h1 hb
  refine ACalls.go ir144 ck144 (Nat.le_refl _) fun KP Q hQ => ?_
  simp (disch := first | omega | assumption) only [ir144, go_sem, ↓reduceIte]
  refine goK_W0 (markC [123] _) h (by omega) (by omega) (by omega) fun o2 l2 H2 h2 h3 h4 h5 => ?_
  have c2 := h2.cell
  have w1 : IntKind.wrap .i64 (dp + 1) = dp + 1 := wrap64 (by omega) (by omega)
  have w2 : IntKind.wrap .i64 (dp + 1 - 1) = dp := by rw [wrap64 (by omega) (by omega)]; omega
  simp (disch := first | omega | assumption) only [c2, w1, go_sem, ↓reduceIte]
  have g2 := h2.put (ok' := ok && true) (dp' := dp + 1)
  refine goK_W0 (hL l hc hw hm) g2 (by omega) (by omega) (by omega) fun o3 l3 H3 h6 h7 h8 h9 => ?_
  have c3 := h6.cell
  simp (disch := first | omega | assumption) only [c3, w2, go_sem, ↓reduceIte]
  have g3 := h6.put (ok' := (ok && true) && rightSs (dp + 1) l) (dp' := dp)
  refine goK_W0 (markC [125] _) g3 (by omega) (by omega) (by omega) fun o4 l4 H4 h10 h11 h12 h13 => ?_
  simp (disch := first | omega | assumption) only [go_sem, ↓reduceIte]
  refine hQ _ _ H4 H4 [] nofun rfl (Low.refl _) ⟨rfl, o4, l4, by simpa using h10, ?_, by omega, fun e => ?_⟩
  · exact ((h3.upd.trans (upd_same ..) h7).upd).trans (upd_same ..) h11
  · simp only [Bool.and_true] at h5 h9 h13
    rw [h13 e, h9 e, h5 (by simp only [Bool.and_eq_true] at e; exact e.1)]
    simp [tBl]
theorem spreadWC (k : Int) (al nm : List UInt8) (args : List Mem) (dirs : List DirD) (on : List UInt8) (sels : List SelD) (hk : k = 1) (hw : wfS (.mk k al nm args dirs on sels)) (hm : 16 * bS (.mk k al nm args dirs on sels) ≤ Lim) :
    WC 155 [.agg (cS (.mk k al nm args dirs on sels))] (16 * bS (.mk k al nm args dirs on sels)) 0 16 (fun dp => rightS dp (.mk k al nm args dirs on sels)) (tS (.mk k al nm args dirs on sels)) := by
  intro H w o l ok dp h h0 h1 hb
  have hm' := hm
  simp only [Lim, bS] at hm'
  simp only [bS] at hb
  have hcm := cMs_len args
  have hcs := cSs_len sels
  obtain ⟨_, hwd, _⟩ := hw
  subst hk
  refine ACalls.go ir155 ck155 (Nat.le_refl _) fun KP Q hQ => ?_
  have w0 := WR.refl h
  obtain ⟨b, hbd⟩ : ∃ b, b = (decide (nm ≠ [111, 110]) && (decide (al = []) && (decide (on = []) && (decide (args.length = 0) && decide (sels.length = 0))))) := ⟨_, rfl⟩
  have er : rightS dp (.mk 1 al nm args dirs on sels) = (b && nameM nm && rightDs dp false dirs) := by
    rw [hbd]; simp only [rightS, show ¬ ((1 : Int) = 0) by decide, if_false, if_true]
    cases nameM nm <;> cases rightDs dp false dirs <;> simp
  have et : b = true → tS (.mk 1 al nm args dirs on sels) = pk [46, 46, 46] :: wk nm :: tDs dirs := fun e => by
    rw [hbd] at e
    simp only [Bool.and_eq_true, decide_eq_true_eq] at e
    simp [tS, e.2.2.2.2]
  by_cases h1 : al = []
  case neg =>
    have hbv : b = false := by rw [hbd]; simp [h1]
    simp (disch := first | omega | assumption) only [ir155, cS_mk, h1, go_sem, ↓reduceIte]
    refine goK_W (needC _) w0 (by omega) (by omega) (by omega) fun o2 l2 H2 w2 _ => ?_
    simp (disch := first | omega | assumption) only [go_sem, ↓reduceIte]
    refine goK_W (markC [46, 46, 46] _) w2 (by omega) (by omega) (by omega) fun o3 l3 H3 w3 _ => ?_
    simp (disch := first | omega | assumption) only [go_sem, ↓reduceIte]
    refine goK_W (nameWC nm (by simp only [Lim]; omega)) w3 (by omega) (by omega) (by omega) fun o4 l4 H4 w4 _ => ?_
    simp (disch := first | omega | assumption) only [go_sem, ↓reduceIte]
    refine goK_W (dirsWC false dirs hwd (by simp only [Lim]; omega)) w4 (by omega) (by omega) (by omega) fun o5 l5 H5 w5 _ => ?_
    simp (disch := first | omega | assumption) only [go_sem, ↓reduceIte]
    exact hQ _ _ H5 H5 [] nofun rfl (Low.refl _) ⟨rfl, w5.fin (by show _ = rightS dp _; rw [er, hbv]; simp) (fun e => by have e : rightS dp (.mk 1 al nm args dirs on sels) = true := e; rw [et (by rw [er] at e; simp only [Bool.and_eq_true] at e; exact e.1.1)]; simp) (by simp only [bS]; omega)⟩
  by_cases h2 : args.length = 0
  case neg =>
    have hbv : b = false := by rw [hbd]; simp [h2]
    have h2' : ¬ ((args.length : Int) = 0) := by omega
    simp (disch := first | omega | assumption) only [ir155, cS_mk, h1, hcm, h2', go_sem, ↓reduceIte]
    refine goK_W (needC _) w0 (by omega) (by omega) (by omega) fun o2 l2 H2 w2 _ => ?_
    simp (disch := first | omega | assumption) only [go_sem, ↓reduceIte]
    refine goK_W (markC [46, 46, 46] _) w2 (by omega) (by omega) (by omega) fun o3 l3 H3 w3 _ => ?_
    simp (disch := first | omega | assumption) only [go_sem, ↓reduceIte]
    refine goK_W (nameWC nm (by simp only [Lim]; omega)) w3 (by omega) (by omega) (by omega) fun o4 l4 H4 w4 _ => ?_
    simp (disch := first | omega | assumption) only [go_sem, ↓reduceIte]
    refine goK_W (dirsWC false dirs hwd (by simp only [Lim]; omega)) w4 (by omega) (by omega) (by omega) fun o5 l5 H5 w5 _ => ?_
    simp (disch := first | omega | assumption) only [go_sem, ↓reduceIte]
    exact hQ _ _ H5 H5 [] nofun rfl (Low.refl _) ⟨rfl, w5.fin (by show _ = rightS dp _; rw [er, hbv]; simp) (fun e => by have e : rightS dp (.mk 1 al nm args dirs on sels) = true := e; rw [et (by rw [er] at e; simp only [Bool.and_eq_true] at e; exact e.1.1)]; simp) (by simp only [bS]; omega)⟩
  have h2' : ((args.length : Int) = 0) = True := eq_true (by omega)
  by_cases h3 : on = []
  case neg =>
    have hbv : b = false := by rw [hbd]; simp [h3]
    simp (disch := first | omega | assumption) only [ir155, cS_mk, h1, hcm, h2', h3, go_sem, ↓reduceIte]
    refine goK_W (needC _) w0 (by omega) (by omega) (by omega) fun o2 l2 H2 w2 _ => ?_
    simp (disch := first | omega | assumption) only [go_sem, ↓reduceIte]
    refine goK_W (markC [46, 46, 46] _) w2 (by omega) (by omega) (by omega) fun o3 l3 H3 w3 _ => ?_
    simp (disch := first | omega | assumption) only [go_sem, ↓reduceIte]
    refine goK_W (nameWC nm (by simp only [Lim]; omega)) w3 (by omega) (by omega) (by omega) fun o4 l4 H4 w4 _ => ?_
    simp (disch := first | omega | assumption) only [go_sem, ↓reduceIte]
    refine goK_W (dirsWC false dirs hwd (by simp only [Lim]; omega)) w4 (by omega) (by omega) (by omega) fun o5 l5 H5 w5 _ => ?_
    simp (disch := first | omega | assumption) only [go_sem, ↓reduceIte]
    exact hQ _ _ H5 H5 [] nofun rfl (Low.refl _) ⟨rfl, w5.fin (by show _ = rightS dp _; rw [er, hbv]; simp) (fun e => by have e : rightS dp (.mk 1 al nm args dirs on sels) = true := e; rw [et (by rw [er] at e; simp only [Bool.and_eq_true] at e; exact e.1.1)]; simp) (by simp only [bS]; omega)⟩
  by_cases h4 : sels.length = 0
  case neg =>
    have hbv : b = false := by rw [hbd]; simp [h4]
    have h4' : ¬ ((sels.length : Int) = 0) := by omega
    simp (disch := first | omega | assumption) only [ir155, cS_mk, h1, hcm, h2', h3, hcs, h4', go_sem, ↓reduceIte]
    refine goK_W (needC _) w0 (by omega) (by omega) (by omega) fun o2 l2 H2 w2 _ => ?_
    simp (disch := first | omega | assumption) only [go_sem, ↓reduceIte]
    refine goK_W (markC [46, 46, 46] _) w2 (by omega) (by omega) (by omega) fun o3 l3 H3 w3 _ => ?_
    simp (disch := first | omega | assumption) only [go_sem, ↓reduceIte]
    refine goK_W (nameWC nm (by simp only [Lim]; omega)) w3 (by omega) (by omega) (by omega) fun o4 l4 H4 w4 _ => ?_
    simp (disch := first | omega | assumption) only [go_sem, ↓reduceIte]
    refine goK_W (dirsWC false dirs hwd (by simp only [Lim]; omega)) w4 (by omega) (by omega) (by omega) fun o5 l5 H5 w5 _ => ?_
    simp (disch := first | omega | assumption) only [go_sem, ↓reduceIte]
    exact hQ _ _ H5 H5 [] nofun rfl (Low.refl _) ⟨rfl, w5.fin (by show _ = rightS dp _; rw [er, hbv]; simp) (fun e => by have e : rightS dp (.mk 1 al nm args dirs on sels) = true := e; rw [et (by rw [er] at e; simp only [Bool.and_eq_true] at e; exact e.1.1)]; simp) (by simp only [bS]; omega)⟩
  have h4' : ((sels.length : Int) = 0) = True := eq_true (by omega)
  by_cases h5 : nm = [111, 110]
  case pos =>
    have hbv : b = false := by rw [hbd]; simp [h5]
    simp (disch := first | omega | assumption) only [ir155, cS_mk, h1, hcm, h2', h3, hcs, h4', h5, go_sem, ↓reduceIte]
    subst h5
    refine goK_W (needC _) w0 (by omega) (by omega) (by omega) fun o2 l2 H2 w2 _ => ?_
    simp (disch := first | omega | assumption) only [go_sem, ↓reduceIte]
    refine goK_W (markC [46, 46, 46] _) w2 (by omega) (by omega) (by omega) fun o3 l3 H3 w3 _ => ?_
    simp (disch := first | omega | assumption) only [go_sem, ↓reduceIte]
    refine goK_W (nameWC [111, 110] (by simp only [Lim]; omega)) w3 (by omega) (by omega) (by omega) fun o4 l4 H4 w4 _ => ?_
    simp (disch := first | omega | assumption) only [go_sem, ↓reduceIte]
    refine goK_W (dirsWC false dirs hwd (by simp only [Lim]; omega)) w4 (by omega) (by omega) (by omega) fun o5 l5 H5 w5 _ => ?_
    simp (disch := first | omega | assumption) only [go_sem, ↓reduceIte]
    exact hQ _ _ H5 H5 [] nofun rfl (Low.refl _) ⟨rfl, w5.fin (by show _ = rightS dp _; rw [er, hbv]; simp) (fun e => by have e : rightS dp (.mk 1 al [111, 110] args dirs on sels) = true := e; rw [et (by rw [er] at e; simp only [Bool.and_eq_true] at e; exact e.1.1)]; simp) (by simp only [bS]; omega)⟩
  have hbv : b = true := by rw [hbd]; simp [h1, h2, h3, h4, h5]
  simp (disch := first | omega | assumption) only [ir155, cS_mk, h1, hcm, h2', h3, hcs, h4', h5, go_sem, ↓reduceIte]
  refine goK_W (needC _) w0 (by omega) (by omega) (by omega) fun o2 l2 H2 w2 _ => ?_
  simp (disch := first | omega | assumption) only [go_sem, ↓reduceIte]
  refine goK_W (markC [46, 46, 46] _) w2 (by omega) (by omega) (by omega) fun o3 l3 H3 w3 _ => ?_
  simp (disch := first | omega | assumption) only [go_sem, ↓reduceIte]
  refine goK_W (nameWC nm (by simp only [Lim]; omega)) w3 (by omega) (by omega) (by omega) fun o4 l4 H4 w4 _ => ?_
  simp (disch := first | omega | assumption) only [go_sem, ↓reduceIte]
  refine goK_W (dirsWC false dirs hwd (by simp only [Lim]; omega)) w4 (by omega) (by omega) (by omega) fun o5 l5 H5 w5 _ => ?_
  simp (disch := first | omega | assumption) only [go_sem, ↓reduceIte]
  exact hQ _ _ H5 H5 [] nofun rfl (Low.refl _) ⟨rfl, w5.fin (by show _ = rightS dp _; rw [er, hbv]; simp) (fun e => by have e : rightS dp (.mk 1 al nm args dirs on sels) = true := e; rw [et (by rw [er] at e; simp only [Bool.and_eq_true] at e; exact e.1.1)]; simp) (by simp only [bS]; omega)⟩
theorem nm_on : nameM [111, 110] = true := by decide
theorem inlineWC {c : Nat} (hL : ListW c) (k : Int) (al nm : List UInt8) (args : List Mem) (dirs : List DirD) (on : List UInt8) (sels : List SelD) (hk : k = 2) (hc : bSs sels ≤ c) (hw : wfS (.mk k al nm args dirs on sels)) (hm : 16 * bS (.mk k al nm args dirs on sels) ≤ Lim) :
    WC 156 [.agg (cS (.mk k al nm args dirs on sels))] (16 * bS (.mk k al nm args dirs on sels)) 0 16 (fun dp => rightS dp (.mk k al nm args dirs on sels)) (tS (.mk k al nm args dirs on sels)) := by
  intro H w o l ok dp h h0 h1 hb
  have hm' := hm
  simp only [Lim, bS] at hm'
  simp only [bS] at hb
  have hcm := cMs_len args
  obtain ⟨_, hwd, hws⟩ := hw
  subst hk
  refine ACalls.go ir156 ck156 (Nat.le_refl _) fun KP Q hQ => ?_
  have w0 := WR.refl h
  obtain ⟨b, hbd⟩ : ∃ b, b = (decide (nm = []) && (decide (al = []) && decide (args.length = 0))) := ⟨_, rfl⟩
  have er : rightS dp (.mk 2 al nm args dirs on sels) = (b && (decide (on = []) || nameM on) && rightDs dp false dirs && rightSs (dp + 1) sels) := by
    rw [hbd]; simp only [rightS, rightSs, show ¬ ((2 : Int) = 0) by decide, show ¬ ((2 : Int) = 1) by decide, if_false, if_true]
    cases rightDs dp false dirs <;> simp [Bool.and_assoc]
  have et : b = true ∧ rightSs (dp + 1) sels = true → tS (.mk 2 al nm args dirs on sels) = pk [46, 46, 46] :: ((if on = [] then [] else [wk [111, 110], wk on]) ++ (tDs dirs ++ tBl sels)) := fun ⟨e, e2⟩ => by
    simp only [rightSs, Bool.and_eq_true, decide_eq_true_eq] at e2
    simp [tS, e2.1, tBl]
  by_cases h1 : al = []
  case neg =>
    have hbv : b = false := by rw [hbd]; simp [h1]
    simp (disch := first | omega | assumption) only [ir156, cS_mk, h1, go_sem, ↓reduceIte]
    refine goK_W (needC _) w0 (by omega) (by omega) (by omega) fun o2 l2 H2 w2 _ => ?_
    simp (disch := first | omega | assumption) only [go_sem, ↓reduceIte]
    refine goK_W (markC [46, 46, 46] _) w2 (by omega) (by omega) (by omega) fun o3 l3 H3 w3 _ => ?_
    by_cases ho : on = []
    case pos =>
      simp (disch := first | omega | assumption) only [ho, go_sem, ↓reduceIte]
      refine goK_W (dirsWC false dirs hwd (by simp only [Lim]; omega)) w3 (by omega) (by omega) (by omega) fun o5 l5 H5 w5 _ => ?_
      simp (disch := first | omega | assumption) only [go_sem, ↓reduceIte]
      refine goK_W (blockWC hL sels hc hws (by simp only [Lim]; omega)) w5 (by omega) (by omega) (by omega) fun o6 l6 H6 w6 _ => ?_
      simp (disch := first | omega | assumption) only [go_sem, ↓reduceIte]
      exact hQ _ _ H6 H6 [] nofun rfl (Low.refl _) ⟨rfl, w6.fin (by show _ = rightS dp _; rw [er, hbv, ho]; simp [Bool.and_assoc]) (fun e => by have e : rightS dp (.mk 2 al nm args dirs on sels) = true := e; rw [et (by rw [er] at e; simp only [Bool.and_eq_true] at e; exact ⟨e.1.1.1, e.2⟩), if_pos ho]; simp) (by simp only [bS]; omega)⟩
    case neg =>
      simp (disch := first | omega | assumption) only [ho, go_sem, ↓reduceIte]
      refine goK_W (nameWC [111, 110] (by simp [Lim])) w3 (by omega) (by omega) (by omega) fun o4 l4 H4 w4 _ => ?_
      simp (disch := first | omega | assumption) only [go_sem, ↓reduceIte]
      refine goK_W (nameWC on (by simp only [Lim]; omega)) w4 (by omega) (by omega) (by omega) fun o5 l5 H5 w5 _ => ?_
      simp (disch := first | omega | assumption) only [go_sem, ↓reduceIte]
      refine goK_W (dirsWC false dirs hwd (by simp only [Lim]; omega)) w5 (by omega) (by omega) (by omega) fun o6 l6 H6 w6 _ => ?_
      simp (disch := first | omega | assumption) only [go_sem, ↓reduceIte]
      refine goK_W (blockWC hL sels hc hws (by simp only [Lim]; omega)) w6 (by omega) (by omega) (by omega) fun o7 l7 H7 w7 _ => ?_
      simp (disch := first | omega | assumption) only [go_sem, ↓reduceIte]
      exact hQ _ _ H7 H7 [] nofun rfl (Low.refl _) ⟨rfl, w7.fin (by show _ = rightS dp _; rw [er, hbv, nm_on]; simp [ho, Bool.and_assoc]) (fun e => by have e : rightS dp (.mk 2 al nm args dirs on sels) = true := e; rw [et (by rw [er] at e; simp only [Bool.and_eq_true] at e; exact ⟨e.1.1.1, e.2⟩), if_neg ho]; simp) (by simp only [bS]; omega)⟩
  by_cases h2 : nm = []
  case neg =>
    have hbv : b = false := by rw [hbd]; simp [h2]
    simp (disch := first | omega | assumption) only [ir156, cS_mk, h1, h2, go_sem, ↓reduceIte]
    refine goK_W (needC _) w0 (by omega) (by omega) (by omega) fun o2 l2 H2 w2 _ => ?_
    simp (disch := first | omega | assumption) only [go_sem, ↓reduceIte]
    refine goK_W (markC [46, 46, 46] _) w2 (by omega) (by omega) (by omega) fun o3 l3 H3 w3 _ => ?_
    by_cases ho : on = []
    case pos =>
      simp (disch := first | omega | assumption) only [ho, go_sem, ↓reduceIte]
      refine goK_W (dirsWC false dirs hwd (by simp only [Lim]; omega)) w3 (by omega) (by omega) (by omega) fun o5 l5 H5 w5 _ => ?_
      simp (disch := first | omega | assumption) only [go_sem, ↓reduceIte]
      refine goK_W (blockWC hL sels hc hws (by simp only [Lim]; omega)) w5 (by omega) (by omega) (by omega) fun o6 l6 H6 w6 _ => ?_
      simp (disch := first | omega | assumption) only [go_sem, ↓reduceIte]
      exact hQ _ _ H6 H6 [] nofun rfl (Low.refl _) ⟨rfl, w6.fin (by show _ = rightS dp _; rw [er, hbv, ho]; simp [Bool.and_assoc]) (fun e => by have e : rightS dp (.mk 2 al nm args dirs on sels) = true := e; rw [et (by rw [er] at e; simp only [Bool.and_eq_true] at e; exact ⟨e.1.1.1, e.2⟩), if_pos ho]; simp) (by simp only [bS]; omega)⟩
    case neg =>
      simp (disch := first | omega | assumption) only [ho, go_sem, ↓reduceIte]
      refine goK_W (nameWC [111, 110] (by simp [Lim])) w3 (by omega) (by omega) (by omega) fun o4 l4 H4 w4 _ => ?_
      simp (disch := first | omega | assumption) only [go_sem, ↓reduceIte]
      refine goK_W (nameWC on (by simp only [Lim]; omega)) w4 (by omega) (by omega) (by omega) fun o5 l5 H5 w5 _ => ?_
      simp (disch := first | omega | assumption) only [go_sem, ↓reduceIte]
      refine goK_W (dirsWC false dirs hwd (by simp only [Lim]; omega)) w5 (by omega) (by omega) (by omega) fun o6 l6 H6 w6 _ => ?_
      simp (disch := first | omega | assumption) only [go_sem, ↓reduceIte]
      refine goK_W (blockWC hL sels hc hws (by simp only [Lim]; omega)) w6 (by omega) (by omega) (by omega) fun o7 l7 H7 w7 _ => ?_
      simp (disch := first | omega | assumption) only [go_sem, ↓reduceIte]
      exact hQ _ _ H7 H7 [] nofun rfl (Low.refl _) ⟨rfl, w7.fin (by show _ = rightS dp _; rw [er, hbv, nm_on]; simp [ho, Bool.and_assoc]) (fun e => by have e : rightS dp (.mk 2 al nm args dirs on sels) = true := e; rw [et (by rw [er] at e; simp only [Bool.and_eq_true] at e; exact ⟨e.1.1.1, e.2⟩), if_neg ho]; simp) (by simp only [bS]; omega)⟩
  by_cases h3 : args.length = 0
  case neg =>
    have hbv : b = false := by rw [hbd]; simp [h3]
    have h3' : ¬ ((args.length : Int) = 0) := by omega
    simp (disch := first | omega | assumption) only [ir156, cS_mk, h1, h2, hcm, h3', go_sem, ↓reduceIte]
    refine goK_W (needC _) w0 (by omega) (by omega) (by omega) fun o2 l2 H2 w2 _ => ?_
    simp (disch := first | omega | assumption) only [go_sem, ↓reduceIte]
    refine goK_W (markC [46, 46, 46] _) w2 (by omega) (by omega) (by omega) fun o3 l3 H3 w3 _ => ?_
    by_cases ho : on = []
    case pos =>
      simp (disch := first | omega | assumption) only [ho, go_sem, ↓reduceIte]
      refine goK_W (dirsWC false dirs hwd (by simp only [Lim]; omega)) w3 (by omega) (by omega) (by omega) fun o5 l5 H5 w5 _ => ?_
      simp (disch := first | omega | assumption) only [go_sem, ↓reduceIte]
      refine goK_W (blockWC hL sels hc hws (by simp only [Lim]; omega)) w5 (by omega) (by omega) (by omega) fun o6 l6 H6 w6 _ => ?_
      simp (disch := first | omega | assumption) only [go_sem, ↓reduceIte]
      exact hQ _ _ H6 H6 [] nofun rfl (Low.refl _) ⟨rfl, w6.fin (by show _ = rightS dp _; rw [er, hbv, ho]; simp [Bool.and_assoc]) (fun e => by have e : rightS dp (.mk 2 al nm args dirs on sels) = true := e; rw [et (by rw [er] at e; simp only [Bool.and_eq_true] at e; exact ⟨e.1.1.1, e.2⟩), if_pos ho]; simp) (by simp only [bS]; omega)⟩
    case neg =>
      simp (disch := first | omega | assumption) only [ho, go_sem, ↓reduceIte]
      refine goK_W (nameWC [111, 110] (by simp [Lim])) w3 (by omega) (by omega) (by omega) fun o4 l4 H4 w4 _ => ?_
      simp (disch := first | omega | assumption) only [go_sem, ↓reduceIte]
      refine goK_W (nameWC on (by simp only [Lim]; omega)) w4 (by omega) (by omega) (by omega) fun o5 l5 H5 w5 _ => ?_
      simp (disch := first | omega | assumption) only [go_sem, ↓reduceIte]
      refine goK_W (dirsWC false dirs hwd (by simp only [Lim]; omega)) w5 (by omega) (by omega) (by omega) fun o6 l6 H6 w6 _ => ?_
      simp (disch := first | omega | assumption) only [go_sem, ↓reduceIte]
      refine goK_W (blockWC hL sels hc hws (by simp only [Lim]; omega)) w6 (by omega) (by omega) (by omega) fun o7 l7 H7 w7 _ => ?_
      simp (disch := first | omega | assumption) only [go_sem, ↓reduceIte]
      exact hQ _ _ H7 H7 [] nofun rfl (Low.refl _) ⟨rfl, w7.fin (by show _ = rightS dp _; rw [er, hbv, nm_on]; simp [ho, Bool.and_assoc]) (fun e => by have e : rightS dp (.mk 2 al nm args dirs on sels) = true := e; rw [et (by rw [er] at e; simp only [Bool.and_eq_true] at e; exact ⟨e.1.1.1, e.2⟩), if_neg ho]; simp) (by simp only [bS]; omega)⟩
  have h3' : ((args.length : Int) = 0) = True := eq_true (by omega)
  have hbv : b = true := by rw [hbd]; simp [h1, h2, h3]
  simp (disch := first | omega | assumption) only [ir156, cS_mk, h1, h2, hcm, h3', go_sem, ↓reduceIte]
  refine goK_W (needC _) w0 (by omega) (by omega) (by omega) fun o2 l2 H2 w2 _ => ?_
  simp (disch := first | omega | assumption) only [go_sem, ↓reduceIte]
  refine goK_W (markC [46, 46, 46] _) w2 (by omega) (by omega) (by omega) fun o3 l3 H3 w3 _ => ?_
  by_cases ho : on = []
  case pos =>
    simp (disch := first | omega | assumption) only [ho, go_sem, ↓reduceIte]
    refine goK_W (dirsWC false dirs hwd (by simp only [Lim]; omega)) w3 (by omega) (by omega) (by omega) fun o5 l5 H5 w5 _ => ?_
    simp (disch := first | omega | assumption) only [go_sem, ↓reduceIte]
    refine goK_W (blockWC hL sels hc hws (by simp only [Lim]; omega)) w5 (by omega) (by omega) (by omega) fun o6 l6 H6 w6 _ => ?_
    simp (disch := first | omega | assumption) only [go_sem, ↓reduceIte]
    exact hQ _ _ H6 H6 [] nofun rfl (Low.refl _) ⟨rfl, w6.fin (by show _ = rightS dp _; rw [er, hbv, ho]; simp [Bool.and_assoc]) (fun e => by have e : rightS dp (.mk 2 al nm args dirs on sels) = true := e; rw [et (by rw [er] at e; simp only [Bool.and_eq_true] at e; exact ⟨e.1.1.1, e.2⟩), if_pos ho]; simp) (by simp only [bS]; omega)⟩
  case neg =>
    simp (disch := first | omega | assumption) only [ho, go_sem, ↓reduceIte]
    refine goK_W (nameWC [111, 110] (by simp [Lim])) w3 (by omega) (by omega) (by omega) fun o4 l4 H4 w4 _ => ?_
    simp (disch := first | omega | assumption) only [go_sem, ↓reduceIte]
    refine goK_W (nameWC on (by simp only [Lim]; omega)) w4 (by omega) (by omega) (by omega) fun o5 l5 H5 w5 _ => ?_
    simp (disch := first | omega | assumption) only [go_sem, ↓reduceIte]
    refine goK_W (dirsWC false dirs hwd (by simp only [Lim]; omega)) w5 (by omega) (by omega) (by omega) fun o6 l6 H6 w6 _ => ?_
    simp (disch := first | omega | assumption) only [go_sem, ↓reduceIte]
    refine goK_W (blockWC hL sels hc hws (by simp only [Lim]; omega)) w6 (by omega) (by omega) (by omega) fun o7 l7 H7 w7 _ => ?_
    simp (disch := first | omega | assumption) only [go_sem, ↓reduceIte]
    exact hQ _ _ H7 H7 [] nofun rfl (Low.refl _) ⟨rfl, w7.fin (by show _ = rightS dp _; rw [er, hbv, nm_on]; simp [ho, Bool.and_assoc]) (fun e => by have e : rightS dp (.mk 2 al nm args dirs on sels) = true := e; rw [et (by rw [er] at e; simp only [Bool.and_eq_true] at e; exact ⟨e.1.1.1, e.2⟩), if_neg ho]; simp) (by simp only [bS]; omega)⟩
theorem rightSl_snoc (dp : Int) (l : List SelD) (x : SelD) : rightSl dp (l ++ [x]) = (rightSl dp l && rightS dp x) := by rw [rightSl_app]; simp [rightSl]
theorem tSl_snoc (l : List SelD) (x : SelD) : tSl (l ++ [x]) = tSl l ++ tS x := by rw [tSl_app]; simp [tSl]
theorem bSs_snoc (l : List SelD) (x : SelD) : bSs (l ++ [x]) = bSs l + bS x := by rw [bSs_mid]; simp [bSs]
theorem rightSl_pre {dp : Int} {l a b : List SelD} {x : SelD} (h : l = a ++ x :: b) (hr : rightSl dp a = false) : rightSl dp l = false := by
  rw [h, rightSl_app, hr]; rfl
theorem WR.castC {H0 H : Heap} {o0 o : Own} {w B B' : Nat} {l0 l tk tk' : List Tok} {ok0 r r' : Bool} {dp : Int} (h : WR H0 o0 w l0 ok0 dp B r tk H o l) (hB : B ≤ B') (hr : r = r') (ht : r' = true → tk = tk') : WR H0 o0 w l0 ok0 dp B' r' tk' H o l := by
  subst hr
  refine ⟨h.here, h.st, by have := h.len; omega, fun e => ?_⟩
  rw [h.eq e, ht (by simp only [Bool.and_eq_true] at e; exact e.2)]
set_option maxHeartbeats 4000000 in
theorem listWC : ∀ c, ListW c := by
  intro c
  induction c using Nat.strongRecOn with
  | _ c ih =>
  intro L hc hwL hm H w o l ok dp h h0 h1 hb
  have hm' := hm
  simp only [Lim] at hm'
  have hcs := cSs_len L
  have hLl := bSs_len L
  refine ACalls.go ir87 ck87 (Nat.le_refl _) fun KP Q hQ => ?_
  have w0 := WR.refl h
  have hcell := h.cell
  by_cases hl0 : L.length = 0
  · have hl' : ¬ ((0 : Int) < (L.length : Int)) := by omega
    have hneed : false = rightSs dp L := by simp [rightSs, hl0]
    simp (disch := first | omega | assumption) only [ir87, hcs, hl', go_sem, ↓reduceIte]
    refine goK_W (needC _) w0 (by omega) (by omega) (by omega) fun o2 l2 H2 w2 _ => ?_
    have hf : (ok && rightSs dp L) = false := by rw [← hneed]; simp
    simp (disch := first | omega | assumption) only [hcs, go_sem, ↓reduceIte]
    refine goL_range L 20 (fun x : Unit => []) (fun done rest x H' => H' = H2) () (by simp (disch := first | omega | assumption) only [go_sem, ↓reduceIte]) rfl ?_ ?_
    case refine_1 =>
      rintro _ H3 J rfl hlt
      simp (disch := first | omega | assumption) only [hcs, hlt, go_sem, ↓reduceIte]
      exact hQ _ _ H3 H3 [] nofun rfl (Low.refl _) ⟨rfl, w2.fin (by show _ = rightSs dp L; rw [← hneed]; simp) (fun e => by have e : rightSs dp L = true := e; rw [← hneed] at e; cases e) (by omega)⟩
    case refine_2 =>
      rintro done x rest _ H3 J hd hlt hlt2 rfl hJ
      have hg := cSs_get hd
      obtain ⟨k, al, nm, args, dirs, on, sels⟩ := x
      rw [cS_mk] at hg
      simp (disch := first | omega | assumption) only [hcs, hlt, hg, go_sem, ↓reduceIte]
      refine goA_intro fun b hb => ?_
      have w5 := w2.alloc (x := .cells [.int .i64 k, .str al, .str nm, .sl .no 6 (cMs args), .sl .no 2 (cDs dirs), .str on, .sl .no 7 (cSs sels)]) hb
      have hc5 := w5.here.cell
      simp only [Bool.true_and, Bool.and_false] at hc5
      simp (disch := first | omega | assumption) only [hc5, go_sem, ↓reduceIte]
      exact hQ _ _ _ _ [] nofun rfl (Low.refl _) ⟨rfl, w5.fin (by show _ = rightSs dp L; rw [← hneed]; simp) (fun e => by have e : rightSs dp L = true := e; rw [← hneed] at e; cases e) (by omega)⟩
  have hl' : ((0 : Int) < (L.length : Int)) = True := eq_true (by omega)
  by_cases hdp : dp ≤ 16
  case neg =>
    have hneed : false = rightSs dp L := by simp [rightSs, hdp]
    simp (disch := first | omega | assumption) only [ir87, hcs, hl', hcell, hdp, go_sem, ↓reduceIte]
    refine goK_W (needC _) w0 (by omega) (by omega) (by omega) fun o2 l2 H2 w2 _ => ?_
    have hf : (ok && rightSs dp L) = false := by rw [← hneed]; simp
    simp (disch := first | omega | assumption) only [hcs, go_sem, ↓reduceIte]
    refine goL_range L 20 (fun x : Unit => []) (fun done rest x H' => H' = H2) () (by simp (disch := first | omega | assumption) only [go_sem, ↓reduceIte]) rfl ?_ ?_
    case refine_1 =>
      rintro _ H3 J rfl hlt
      simp (disch := first | omega | assumption) only [hcs, hlt, go_sem, ↓reduceIte]
      exact hQ _ _ H3 H3 [] nofun rfl (Low.refl _) ⟨rfl, w2.fin (by show _ = rightSs dp L; rw [← hneed]; simp) (fun e => by have e : rightSs dp L = true := e; rw [← hneed] at e; cases e) (by omega)⟩
    case refine_2 =>
      rintro done x rest _ H3 J hd hlt hlt2 rfl hJ
      have hg := cSs_get hd
      obtain ⟨k, al, nm, args, dirs, on, sels⟩ := x
      rw [cS_mk] at hg
      simp (disch := first | omega | assumption) only [hcs, hlt, hg, go_sem, ↓reduceIte]
      refine goA_intro fun b hb => ?_
      have w5 := w2.alloc (x := .cells [.int .i64 k, .str al, .str nm, .sl .no 6 (cMs args), .sl .no 2 (cDs dirs), .str on, .sl .no 7 (cSs sels)]) hb
      have hc5 := w5.here.cell
      simp only [Bool.true_and, Bool.and_false] at hc5
      simp (disch := first | omega | assumption) only [hc5, go_sem, ↓reduceIte]
      exact hQ _ _ _ _ [] nofun rfl (Low.refl _) ⟨rfl, w5.fin (by show _ = rightSs dp L; rw [← hneed]; simp) (fun e => by have e : rightSs dp L = true := e; rw [← hneed] at e; cases e) (by omega)⟩
  have er0 : rightSs dp L = rightSl dp L := by simp [rightSs, hdp, hl0]
  simp (disch := first | omega | assumption) only [ir87, hcs, hl', hcell, hdp, go_sem, ↓reduceIte]
  refine goK_W (needC _) w0 (by omega) (by omega) (by omega) fun o2 l2 H2 w2 _ => ?_
  simp (disch := first | omega | assumption) only [hcs, go_sem, ↓reduceIte]
  refine goL_range L 20 (fun x : Own × List Tok => []) (fun done rest x H' => WR H o w l ok dp (16 * bSs done) (rightSl dp done) (tSl done) H' x.1 x.2) (o2, l2) (by simp (disch := first | omega | assumption) only [go_sem, ↓reduceIte]) (w2.cast (by simp [bSs]) (by simp [rightSl]) (by simp [tSl])) ?_ ?_
  · rintro ⟨o3, l3⟩ H3 J w3 hlt
    simp only at w3
    simp (disch := first | omega | assumption) only [hcs, hlt, go_sem, ↓reduceIte]
    exact hQ _ _ H3 H3 [] nofun rfl (Low.refl _) ⟨rfl, w3.fin er0.symm (fun _ => rfl) (by omega)⟩
  · rintro done x rest ⟨o3, l3⟩ H3 J hd hlt hlt2 w3 hJ
    simp only at w3
    have hg := cSs_get hd
    have hbm := bSs_mid done x rest
    rw [← hd] at hbm
    have hmem : x ∈ L := by rw [hd]; simp
    have hwx := wfSs_mem hwL x hmem
    obtain ⟨k, al, nm, args, dirs, on, sels⟩ := x
    have hbx : bS (.mk k al nm args dirs on sels) = 1 + al.length + nm.length + on.length + bMs args + bDs dirs + bSs sels := rfl
    have hcss := cSs_len sels
    rw [cS_mk] at hg
    simp (disch := first | omega | assumption) only [hcs, hlt, hg, go_sem, ↓reduceIte]
    refine goA_intro fun b hb => ?_
    have hbw : b ≠ w := fun e => by subst e; rw [w3.here.cell] at hb; cases hb
    have w5 := w3.alloc (x := .cells [.int .i64 k, .str al, .str nm, .sl .no 6 (cMs args), .sl .no 2 (cDs dirs), .str on, .sl .no 7 (cSs sels)]) hb
    have hbc : (H3.upd b (.cells [.int .i64 k, .str al, .str nm, .sl .no 6 (cMs args), .sl .no 2 (cDs dirs), .str on, .sl .no 7 (cSs sels)])) b = some (.cells [.int .i64 k, .str al, .str nm, .sl .no 6 (cMs args), .sl .no 2 (cDs dirs), .str on, .sl .no 7 (cSs sels)]) := upd_same ..
    have hc5 := w5.here.cell
    cases hok : ok && rightSl dp done with
    | false =>
      rw [hok] at hc5
      have hf : (ok && rightSs dp L) = false := by
        cases ok
        · rfl
        · rw [Bool.true_and] at hok ⊢; rw [er0]; exact rightSl_pre hd hok
      simp (disch := first | omega | assumption) only [hc5, go_sem, ↓reduceIte]
      refine hQ _ _ _ _ [] nofun rfl (Low.refl _) ⟨rfl, o3, l3, ?_, w5.st, by have := w5.len; omega, fun e => ?_⟩
      · show WAt _ w o3 l3 (ok && rightSs dp L) dp
        rw [hf, ← hok]; exact w5.here
      · have e : (ok && rightSs dp L) = true := e
        rw [hf] at e; cases e
    | true =>
      rw [hok] at hc5
      have hstep : ∀ (o6 : Own) (l6 : List Tok) (H6 : Heap), WR H o w l ok dp (16 * bSs done + 16 * bS (.mk k al nm args dirs on sels)) (rightSl dp done && rightS dp (.mk k al nm args dirs on sels)) (tSl done ++ tS (.mk k al nm args dirs on sels)) H6 o6 l6 → J ((setAll _ [(20, .int .i64 ((done.length : Int) + 1))]).keep [0, 18, 19, 20]) H6 := fun o6 l6 H6 w6 =>
        hJ (o6, l6) H6 (w6.cast (by rw [bSs_snoc]; omega) (rightSl_snoc ..).symm (tSl_snoc ..).symm)
      by_cases k1 : k = 1
      · have hsp := spreadWC k al nm args dirs on sels k1 hwx (by simp only [Lim]; omega)
        rw [cS_mk] at hsp
        subst k1
        simp (disch := first | omega | assumption) only [hc5, hbc, go_sem, ↓reduceIte]
        refine goK_W hsp w5 (by omega) (by omega) (by omega) fun o6 l6 H6 w6 s6 => ?_
        simp (disch := first | omega | assumption) only [wrap64, go_sem, ↓reduceIte]
        exact goJ (hstep o6 l6 H6 w6) (by simp (disch := first | omega | assumption) only [go_sem, ↓reduceIte])
      by_cases k2 : k = 2
      · have hsp := inlineWC (c := bSs sels) (ih (bSs sels) (by omega)) k al nm args dirs on sels k2 (Nat.le_refl _) hwx (by simp only [Lim]; omega)
        rw [cS_mk] at hsp
        subst k2
        simp (disch := first | omega | assumption) only [hc5, hbc, go_sem, ↓reduceIte]
        refine goK_W hsp w5 (by omega) (by omega) (by omega) fun o6 l6 H6 w6 s6 => ?_
        simp (disch := first | omega | assumption) only [wrap64, go_sem, ↓reduceIte]
        exact goJ (hstep o6 l6 H6 w6) (by simp (disch := first | omega | assumption) only [go_sem, ↓reduceIte])
      have hLB := ih (bSs sels) (by omega)
      obtain ⟨hwa, hwd, hws⟩ := hwx
      obtain ⟨n, hnd⟩ : ∃ n, n = (decide (k = 0) && decide (on = [])) := ⟨_, rfl⟩
      have er : rightS dp (.mk k al nm args dirs on sels) = (n && (decide (al = []) || nameM al) && nameM nm && rightMs dp false args && rightDs dp false dirs && (decide (sels.length = 0) || rightSs (dp + 1) sels)) := by
        rw [hnd]; simp only [rightS, k1, k2, if_false]
        by_cases k0 : k = 0
        · simp only [k0, if_true, rightSs]
          by_cases hz : sels.length = 0
          · simp only [hz, decide_true, Bool.true_or]
            cases rightDs dp false dirs <;> cases nameM nm <;> cases rightMs dp false args <;> simp [Bool.and_comm]
          · simp only [hz, decide_false, Bool.false_or, ne_eq, not_false_eq_true, decide_true, Bool.true_and]
            cases rightDs dp false dirs <;> cases nameM nm <;> cases rightMs dp false args <;> simp [Bool.and_comm, Bool.and_assoc, Bool.and_left_comm]
        · simp [k0]
      have et : n = true → tS (.mk k al nm args dirs on sels) = (if al = [] then [] else [wk al, pk [58]]) ++ (wk nm :: tArgs args) ++ (tDs dirs ++ (if sels.length = 0 then [] else tBl sels)) := fun e => by
        rw [hnd] at e; simp only [Bool.and_eq_true, decide_eq_true_eq] at e
        simp only [tS, e.1, if_true, tBl]
      by_cases k0 : k = 0
      case neg =>
        have hbv : n = false := by rw [hnd]; simp [k0]
        simp (disch := first | omega | assumption) only [hc5, hbc, k1, k2, k0, go_sem, ↓reduceIte]
        refine goK_W (needC _) w5 (by omega) (by omega) (by omega) fun o6 l6 H6 w6 s6 => ?_
        have hb6 := s6.box w5.here.own hbc hbw
        by_cases hal : al = []
        case pos =>
          simp (disch := first | omega | assumption) only [hb6, hal, go_sem, ↓reduceIte]
          refine goK_W (nameWC nm (by simp only [Lim]; omega)) w6 (by omega) (by omega) (by omega) fun o9 l9 H9 w9 s9 => ?_
          have hb9 := s9.box w6.here.own hb6 hbw
          simp (disch := first | omega | assumption) only [hb9, go_sem, ↓reduceIte]
          refine goK_W (argsWC false args hwa (by simp only [Lim]; omega)) w9 (by omega) (by omega) (by omega) fun oY lY HY wY sY => ?_
          have hbY := sY.box w9.here.own hb9 hbw
          simp (disch := first | omega | assumption) only [hbY, go_sem, ↓reduceIte]
          refine goK_W (dirsWC false dirs hwd (by simp only [Lim]; omega)) wY (by omega) (by omega) (by omega) fun oZ lZ HZ wZ sZ => ?_
          have hbZ := sZ.box wY.here.own hbY hbw
          simp (disch := first | omega | assumption) only [hbZ, go_sem, ↓reduceIte]
          by_cases hz : sels.length = 0
          case pos =>
            have hz' : ¬ ((0 : Int) < (sels.length : Int)) := by omega
            simp (disch := first | omega | assumption) only [hcss, hz', wrap64, go_sem, ↓reduceIte]
            exact goJ (hJ (oZ, lZ) HZ (wZ.castC (by rw [bSs_snoc]; simp only [bS]; omega) (by rw [rightSl_snoc, er, hbv]; simp [hz, hal, Bool.and_assoc]) (fun e => by rw [tSl_snoc, et (by rw [rightSl_snoc, er] at e; simp only [Bool.and_eq_true] at e; exact e.2.1.1.1.1.1)]; simp [hz, hal]))) (by simp (disch := first | omega | assumption) only [go_sem, ↓reduceIte])
          case neg =>
            have hz' : ((0 : Int) < (sels.length : Int)) = True := eq_true (by omega)
            have hbox := sZ.box wY.here.own hbY hbw
            simp (disch := first | omega | assumption) only [hcss, hz', hbox, go_sem, ↓reduceIte]
            refine goK_W (blockWC hLB sels (Nat.le_refl _) hws (by simp only [Lim]; omega)) wZ (by omega) (by omega) (by omega) fun oU lU HU wU _ => ?_
            simp (disch := first | omega | assumption) only [wrap64, go_sem, ↓reduceIte]
            exact goJ (hJ (oU, lU) HU (wU.castC (by rw [bSs_snoc]; simp only [bS]; omega) (by rw [rightSl_snoc, er, hbv]; simp [hz, hal, Bool.and_assoc]) (fun e => by rw [tSl_snoc, et (by rw [rightSl_snoc, er] at e; simp only [Bool.and_eq_true] at e; exact e.2.1.1.1.1.1)]; simp [hz, hal, tBl]))) (by simp (disch := first | omega | assumption) only [go_sem, ↓reduceIte])
        case neg =>
          simp (disch := first | omega | assumption) only [hb6, hal, go_sem, ↓reduceIte]
          refine goK_W (nameWC al (by simp only [Lim]; omega)) w6 (by omega) (by omega) (by omega) fun o7 l7 H7 w7 s7 => ?_
          have hb7 := s7.box w6.here.own hb6 hbw
          simp (disch := first | omega | assumption) only [hb7, go_sem, ↓reduceIte]
          refine goK_W (markC [58] _) w7 (by omega) (by omega) (by omega) fun o8 l8 H8 w8 s8 => ?_
          have hb8 := s8.box w7.here.own hb7 hbw
          simp (disch := first | omega | assumption) only [hb8, go_sem, ↓reduceIte]
          refine goK_W (nameWC nm (by simp only [Lim]; omega)) w8 (by omega) (by omega) (by omega) fun o9 l9 H9 w9 s9 => ?_
          have hb9 := s9.box w8.here.own hb8 hbw
          simp (disch := first | omega | assumption) only [hb9, go_sem, ↓reduceIte]
          refine goK_W (argsWC false args hwa (by simp only [Lim]; omega)) w9 (by omega) (by omega) (by omega) fun oY lY HY wY sY => ?_
          have hbY := sY.box w9.here.own hb9 hbw
          simp (disch := first | omega | assumption) only [hbY, go_sem, ↓reduceIte]
          refine goK_W (dirsWC false dirs hwd (by simp only [Lim]; omega)) wY (by omega) (by omega) (by omega) fun oZ lZ HZ wZ sZ => ?_
          have hbZ := sZ.box wY.here.own hbY hbw
          simp (disch := first | omega | assumption) only [hbZ, go_sem, ↓reduceIte]
          by_cases hz : sels.length = 0
          case pos =>
            have hz' : ¬ ((0 : Int) < (sels.length : Int)) := by omega
            simp (disch := first | omega | assumption) only [hcss, hz', wrap64, go_sem, ↓reduceIte]
            exact goJ (hJ (oZ, lZ) HZ (wZ.castC (by rw [bSs_snoc]; simp only [bS]; omega) (by rw [rightSl_snoc, er, hbv]; simp [hz, hal, Bool.and_assoc]) (fun e => by rw [tSl_snoc, et (by rw [rightSl_snoc, er] at e; simp only [Bool.and_eq_true] at e; exact e.2.1.1.1.1.1)]; simp [hz, hal]))) (by simp (disch := first | omega | assumption) only [go_sem, ↓reduceIte])
          case neg =>
            have hz' : ((0 : Int) < (sels.length : Int)) = True := eq_true (by omega)
            have hbox := sZ.box wY.here.own hbY hbw
            simp (disch := first | omega | assumption) only [hcss, hz', hbox, go_sem, ↓reduceIte]
            refine goK_W (blockWC hLB sels (Nat.le_refl _) hws (by simp only [Lim]; omega)) wZ (by omega) (by omega) (by omega) fun oU lU HU wU _ => ?_
            simp (disch := first | omega | assumption) only [wrap64, go_sem, ↓reduceIte]
            exact goJ (hJ (oU, lU) HU (wU.castC (by rw [bSs_snoc]; simp only [bS]; omega) (by rw [rightSl_snoc, er, hbv]; simp [hz, hal, Bool.and_assoc]) (fun e => by rw [tSl_snoc, et (by rw [rightSl_snoc, er] at e; simp only [Bool.and_eq_true] at e; exact e.2.1.1.1.1.1)]; simp [hz, hal, tBl]))) (by simp (disch := first | omega | assumption) only [go_sem, ↓reduceIte])
      subst k0
      by_cases ho : on = []
      case neg =>
        have hbv : n = false := by rw [hnd]; simp [ho]
        simp (disch := first | omega | assumption) only [hc5, hbc, ho, go_sem, ↓reduceIte]
        refine goK_W (needC _) w5 (by omega) (by omega) (by omega) fun o6 l6 H6 w6 s6 => ?_
        have hb6 := s6.box w5.here.own hbc hbw
        by_cases hal : al = []
        case pos =>
          simp (disch := first | omega | assumption) only [hb6, hal, go_sem, ↓reduceIte]
          refine goK_W (nameWC nm (by simp only [Lim]; omega)) w6 (by omega) (by omega) (by omega) fun o9 l9 H9 w9 s9 => ?_
          have hb9 := s9.box w6.here.own hb6 hbw
          simp (disch := first | omega | assumption) only [hb9, go_sem, ↓reduceIte]
          refine goK_W (argsWC false args hwa (by simp only [Lim]; omega)) w9 (by omega) (by omega) (by omega) fun oY lY HY wY sY => ?_
          have hbY := sY.box w9.here.own hb9 hbw
          simp (disch := first | omega | assumption) only [hbY, go_sem, ↓reduceIte]
          refine goK_W (dirsWC false dirs hwd (by simp only [Lim]; omega)) wY (by omega) (by omega) (by omega) fun oZ lZ HZ wZ sZ => ?_
          have hbZ := sZ.box wY.here.own hbY hbw
          simp (disch := first | omega | assumption) only [hbZ, go_sem, ↓reduceIte]
          by_cases hz : sels.length = 0
          case pos =>
            have hz' : ¬ ((0 : Int) < (sels.length : Int)) := by omega
            simp (disch := first | omega | assumption) only [hcss, hz', wrap64, go_sem, ↓reduceIte]
            exact goJ (hJ (oZ, lZ) HZ (wZ.castC (by rw [bSs_snoc]; simp only [bS]; omega) (by rw [rightSl_snoc, er, hbv]; simp [hz, hal, Bool.and_assoc]) (fun e => by rw [tSl_snoc, et (by rw [rightSl_snoc, er] at e; simp only [Bool.and_eq_true] at e; exact e.2.1.1.1.1.1)]; simp [hz, hal]))) (by simp (disch := first | omega | assumption) only [go_sem, ↓reduceIte])
          case neg =>
            have hz' : ((0 : Int) < (sels.length : Int)) = True := eq_true (by omega)
            have hbox := sZ.box wY.here.own hbY hbw
            simp (disch := first | omega | assumption) only [hcss, hz', hbox, go_sem, ↓reduceIte]
            refine goK_W (blockWC hLB sels (Nat.le_refl _) hws (by simp only [Lim]; omega)) wZ (by omega) (by omega) (by omega) fun oU lU HU wU _ => ?_
            simp (disch := first | omega | assumption) only [wrap64, go_sem, ↓reduceIte]
            exact goJ (hJ (oU, lU) HU (wU.castC (by rw [bSs_snoc]; simp only [bS]; omega) (by rw [rightSl_snoc, er, hbv]; simp [hz, hal, Bool.and_assoc]) (fun e => by rw [tSl_snoc, et (by rw [rightSl_snoc, er] at e; simp only [Bool.and_eq_true] at e; exact e.2.1.1.1.1.1)]; simp [hz, hal, tBl]))) (by simp (disch := first | omega | assumption) only [go_sem, ↓reduceIte])
        case neg =>
          simp (disch := first | omega | assumption) only [hb6, hal, go_sem, ↓reduceIte]
          refine goK_W (nameWC al (by simp only [Lim]; omega)) w6 (by omega) (by omega) (by omega) fun o7 l7 H7 w7 s7 => ?_
          have hb7 := s7.box w6.here.own hb6 hbw
          simp (disch := first | omega | assumption) only [hb7, go_sem, ↓reduceIte]
          refine goK_W (markC [58] _) w7 (by omega) (by omega) (by omega) fun o8 l8 H8 w8 s8 => ?_
          have hb8 := s8.box w7.here.own hb7 hbw
          simp (disch := first | omega | assumption) only [hb8, go_sem, ↓reduceIte]
          refine goK_W (nameWC nm (by simp only [Lim]; omega)) w8 (by omega) (by omega) (by omega) fun o9 l9 H9 w9 s9 => ?_
          have hb9 := s9.box w8.here.own hb8 hbw
          simp (disch := first | omega | assumption) only [hb9, go_sem, ↓reduceIte]
          refine goK_W (argsWC false args hwa (by simp only [Lim]; omega)) w9 (by omega) (by omega) (by omega) fun oY lY HY wY sY => ?_
          have hbY := sY.box w9.here.own hb9 hbw
          simp (disch := first | omega | assumption) only [hbY, go_sem, ↓reduceIte]
          refine goK_W (dirsWC false dirs hwd (by simp only [Lim]; omega)) wY (by omega) (by omega) (by omega) fun oZ lZ HZ wZ sZ => ?_
          have hbZ := sZ.box wY.here.own hbY hbw
          simp (disch := first | omega | assumption) only [hbZ, go_sem, ↓reduceIte]
          by_cases hz : sels.length = 0
          case pos =>
            have hz' : ¬ ((0 : Int) < (sels.length : Int)) := by omega
            simp (disch := first | omega | assumption) only [hcss, hz', wrap64, go_sem, ↓reduceIte]
            exact goJ (hJ (oZ, lZ) HZ (wZ.castC (by rw [bSs_snoc]; simp only [bS]; omega) (by rw [rightSl_snoc, er, hbv]; simp [hz, hal, Bool.and_assoc]) (fun e => by rw [tSl_snoc, et (by rw [rightSl_snoc, er] at e; simp only [Bool.and_eq_true] at e; exact e.2.1.1.1.1.1)]; simp [hz, hal]))) (by simp (disch := first | omega | assumption) only [go_sem, ↓reduceIte])
          case neg =>
            have hz' : ((0 : Int) < (sels.length : Int)) = True := eq_true (by omega)
            have hbox := sZ.box wY.here.own hbY hbw
            simp (disch := first | omega | assumption) only [hcss, hz', hbox, go_sem, ↓reduceIte]
            refine goK_W (blockWC hLB sels (Nat.le_refl _) hws (by simp only [Lim]; omega)) wZ (by omega) (by omega) (by omega) fun oU lU HU wU _ => ?_
            simp (disch := first | omega | assumption) only [wrap64, go_sem, ↓reduceIte]
            exact goJ (hJ (oU, lU) HU (wU.castC (by rw [bSs_snoc]; simp only [bS]; omega) (by rw [rightSl_snoc, er, hbv]; simp [hz, hal, Bool.and_assoc]) (fun e => by rw [tSl_snoc, et (by rw [rightSl_snoc, er] at e; simp only [Bool.and_eq_true] at e; exact e.2.1.1.1.1.1)]; simp [hz, hal, tBl]))) (by simp (disch := first | omega | assumption) only [go_sem, ↓reduceIte])
      subst ho
      have hbv : n = true := by rw [hnd]; simp
      simp (disch := first | omega | assumption) only [hc5, hbc, go_sem, ↓reduceIte]
      refine goK_W (needC _) w5 (by omega) (by omega) (by omega) fun o6 l6 H6 w6 s6 => ?_
      have hb6 := s6.box w5.here.own hbc hbw
      by_cases hal : al = []
      case pos =>
        simp (disch := first | omega | assumption) only [hb6, hal, go_sem, ↓reduceIte]
        refine goK_W (nameWC nm (by simp only [Lim]; omega)) w6 (by omega) (by omega) (by omega) fun o9 l9 H9 w9 s9 => ?_
        have hb9 := s9.box w6.here.own hb6 hbw
        simp (disch := first | omega | assumption) only [hb9, go_sem, ↓reduceIte]
        refine goK_W (argsWC false args hwa (by simp only [Lim]; omega)) w9 (by omega) (by omega) (by omega) fun oY lY HY wY sY => ?_
        have hbY := sY.box w9.here.own hb9 hbw
        simp (disch := first | omega | assumption) only [hbY, go_sem, ↓reduceIte]
        refine goK_W (dirsWC false dirs hwd (by simp only [Lim]; omega)) wY (by omega) (by omega) (by omega) fun oZ lZ HZ wZ sZ => ?_
        have hbZ := sZ.box wY.here.own hbY hbw
        simp (disch := first | omega | assumption) only [hbZ, go_sem, ↓reduceIte]
        by_cases hz : sels.length = 0
        case pos =>
          have hz' : ¬ ((0 : Int) < (sels.length : Int)) := by omega
          simp (disch := first | omega | assumption) only [hcss, hz', wrap64, go_sem, ↓reduceIte]
          exact goJ (hJ (oZ, lZ) HZ (wZ.castC (by rw [bSs_snoc]; simp only [bS]; omega) (by rw [rightSl_snoc, er, hbv]; simp [hz, hal, Bool.and_assoc]) (fun e => by rw [tSl_snoc, et (by rw [rightSl_snoc, er] at e; simp only [Bool.and_eq_true] at e; exact e.2.1.1.1.1.1)]; simp [hz, hal]))) (by simp (disch := first | omega | assumption) only [go_sem, ↓reduceIte])
        case neg =>
          have hz' : ((0 : Int) < (sels.length : Int)) = True := eq_true (by omega)
          have hbox := sZ.box wY.here.own hbY hbw
          simp (disch := first | omega | assumption) only [hcss, hz', hbox, go_sem, ↓reduceIte]
          refine goK_W (blockWC hLB sels (Nat.le_refl _) hws (by simp only [Lim]; omega)) wZ (by omega) (by omega) (by omega) fun oU lU HU wU _ => ?_
          simp (disch := first | omega | assumption) only [wrap64, go_sem, ↓reduceIte]
          exact goJ (hJ (oU, lU) HU (wU.castC (by rw [bSs_snoc]; simp only [bS]; omega) (by rw [rightSl_snoc, er, hbv]; simp [hz, hal, Bool.and_assoc]) (fun e => by rw [tSl_snoc, et (by rw [rightSl_snoc, er] at e; simp only [Bool.and_eq_true] at e; exact e.2.1.1.1.1.1)]; simp [hz, hal, tBl]))) (by simp (disch := first | omega | assumption) only [go_sem, ↓reduceIte])
      case neg =>
        simp (disch := first | omega | assumption) only [hb6, hal, go_sem, ↓reduceIte]
        refine goK_W (nameWC al (by simp only [Lim]; omega)) w6 (by omega) (by omega) (by omega) fun o7 l7 H7 w7 s7 => ?_
        have hb7 := s7.box w6.here.own hb6 hbw
        simp (disch := first | omega | assumption) only [hb7, go_sem, ↓reduceIte]
        refine goK_W (markC [58] _) w7 (by omega) (by omega) (by omega) fun o8 l8 H8 w8 s8 => ?_
        have hb8 := s8.box w7.here.own hb7 hbw
        simp (disch := first | omega | assumption) only [hb8, go_sem, ↓reduceIte]
        refine goK_W (nameWC nm (by simp only [Lim]; omega)) w8 (by omega) (by omega) (by omega) fun o9 l9 H9 w9 s9 => ?_
        have hb9 := s9.box w8.here.own hb8 hbw
        simp (disch := first | omega | assumption) only [hb9, go_sem, ↓reduceIte]
        refine goK_W (argsWC false args hwa (by simp only [Lim]; omega)) w9 (by omega) (by omega) (by omega) fun oY lY HY wY sY => ?_
        have hbY := sY.box w9.here.own hb9 hbw
        simp (disch := first | omega | assumption) only [hbY, go_sem, ↓reduceIte]
        refine goK_W (dirsWC false dirs hwd (by simp only [Lim]; omega)) wY (by omega) (by omega) (by omega) fun oZ lZ HZ wZ sZ => ?_
        have hbZ := sZ.box wY.here.own hbY hbw
        simp (disch := first | omega | assumption) only [hbZ, go_sem, ↓reduceIte]
        by_cases hz : sels.length = 0
        case pos =>
          have hz' : ¬ ((0 : Int) < (sels.length : Int)) := by omega
          simp (disch := first | omega | assumption) only [hcss, hz', wrap64, go_sem, ↓reduceIte]
          exact goJ (hJ (oZ, lZ) HZ (wZ.castC (by rw [bSs_snoc]; simp only [bS]; omega) (by rw [rightSl_snoc, er, hbv]; simp [hz, hal, Bool.and_assoc]) (fun e => by rw [tSl_snoc, et (by rw [rightSl_snoc, er] at e; simp only [Bool.and_eq_true] at e; exact e.2.1.1.1.1.1)]; simp [hz, hal]))) (by simp (disch := first | omega | assumption) only [go_sem, ↓reduceIte])
        case neg =>
          have hz' : ((0 : Int) < (sels.length : Int)) = True := eq_true (by omega)
          have hbox := sZ.box wY.here.own hbY hbw
          simp (disch := first | omega | assumption) only [hcss, hz', hbox, go_sem, ↓reduceIte]
          refine goK_W (blockWC hLB sels (Nat.le_refl _) hws (by simp only [Lim]; omega)) wZ (by omega) (by omega) (by omega) fun oU lU HU wU _ => ?_
          simp (disch := first | omega | assumption) only [wrap64, go_sem, ↓reduceIte]
          exact goJ (hJ (oU, lU) HU (wU.castC (by rw [bSs_snoc]; simp only [bS]; omega) (by rw [rightSl_snoc, er, hbv]; simp [hz, hal, Bool.and_assoc]) (fun e => by rw [tSl_snoc, et (by rw [rightSl_snoc, er] at e; simp only [Bool.and_eq_true] at e; exact e.2.1.1.1.1.1)]; simp [hz, hal, tBl]))) (by simp (disch := first | omega | assumption) only [go_sem, ↓reduceIte])
end Go.Proofs.YticbbfbpeimkbaaGreatDoor
namespace Go.Proofs.YticbbfbpeimkbaaGreatDoor
open Go.Ab
theorem bWs_snoc (l : List VarD) (x : VarD) : bWs (l ++ [x]) = bWs l + bW x := by simp [bWs]
theorem fragWC (f : FragD) (hw : wfF f) (hm : 32 * bF f ≤ Lim) : WC 72 [.agg (cF f)] (32 * bF f) 0 16 (fun dp => decide (f.nm ≠ [111, 110]) && (nameM f.nm && (nameM f.on && (rightDs dp true f.dirs && rightSs (dp + 1) f.sels)))) (tF f) := by
  intro H w o l ok dp h h0 h1 hb
  obtain ⟨nm, on, dirs, sels⟩ := f
  have hm' := hm
  simp only [Lim, bF] at hm'
  simp only [bF] at hb
  obtain ⟨hwd, hws⟩ := hw
  have ef : cF ⟨nm, on, dirs, sels⟩ = [.str nm, .str on, .sl .no 2 (cDs dirs), .sl .no 7 (cSs sels)] := rfl
  refine ACalls.go ir72 ck72 (Nat.le_refl _) fun KP Q hQ => ?_
  have w0 := WR.refl h
  obtain ⟨n, hn⟩ : ∃ n, n = decide (nm ≠ [111, 110]) := ⟨_, rfl⟩
  have nf : nameM [102, 114, 97, 103, 109, 101, 110, 116] = true := by decide
  by_cases ho : nm = [111, 110]
  case' pos =>
    have hbv : n = false := by rw [hn]; simp [ho]
    subst ho
    simp (disch := first | omega | assumption) only [ir72, ef, go_sem, ↓reduceIte]
    refine goK_W (needC _) w0 (by omega) (by omega) (by omega) fun o1 l1 H1 w1 _ => ?_
  case' neg =>
    have hbv : n = true := by rw [hn]; simp [ho]
    simp (disch := first | omega | assumption) only [ir72, ef, ho, go_sem, ↓reduceIte]
    refine goK_W (needC _) w0 (by omega) (by omega) (by omega) fun o1 l1 H1 w1 _ => ?_
  all_goals
    simp (disch := first | omega | assumption) only [go_sem, ↓reduceIte]
    refine goK_W (nameWC [102, 114, 97, 103, 109, 101, 110, 116] (by simp [Lim])) w1 (by omega) (by omega) (by omega) fun o2 l2 H2 w2 _ => ?_
    simp (disch := first | omega | assumption) only [go_sem, ↓reduceIte]
    refine goK_W (nameWC _ (by simp only [Lim]; first | omega | simp)) w2 (by omega) (by omega) (by omega) fun o3 l3 H3 w3 _ => ?_
    simp (disch := first | omega | assumption) only [go_sem, ↓reduceIte]
    refine goK_W (nameWC [111, 110] (by simp [Lim])) w3 (by omega) (by omega) (by omega) fun o4 l4 H4 w4 _ => ?_
    simp (disch := first | omega | assumption) only [go_sem, ↓reduceIte]
    refine goK_W (nameWC on (by simp only [Lim]; omega)) w4 (by omega) (by omega) (by omega) fun o5 l5 H5 w5 _ => ?_
    simp (disch := first | omega | assumption) only [go_sem, ↓reduceIte]
    refine goK_W (dirsWC true dirs hwd (by simp only [Lim]; omega)) w5 (by omega) (by omega) (by omega) fun o6 l6 H6 w6 _ => ?_
    simp (disch := first | omega | assumption) only [go_sem, ↓reduceIte]
    refine goK_W (blockWC (listWC (bSs sels)) sels (Nat.le_refl _) hws (by simp only [Lim]; omega)) w6 (by omega) (by omega) (by omega) fun o7 l7 H7 w7 _ => ?_
    simp (disch := first | omega | assumption) only [go_sem, ↓reduceIte]
    exact hQ _ _ H7 H7 [] nofun rfl (Low.refl _) ⟨rfl, w7.fin (by simp only [← hn, hbv, nf, nm_on]; simp [Bool.and_assoc]) (fun _ => by simp [tF]) (by simp only [bF]; omega)⟩
noncomputable def rightWd (dp : Int) (x : VarD) : Bool := nameM x.nm && (rightTy x.t && (if x.has then rightV2 dp true x.d else eqd x.d zV))
noncomputable def rightOd (dp : Int) (x : OpD) : Bool := (decide (x.k = 0) || decide (x.k = 1)) && ((decide (x.nm = []) || nameM x.nm) && (x.vars.all (rightWd dp) && (rightDs dp true x.dirs && rightSs (dp + 1) x.sels)))
theorem opWC (x : OpD) (hw : wfO x) (hm : 64 * bO x ≤ Lim) : WC 71 [.agg (cO x)] (64 * bO x) 0 16 (fun dp => rightOd dp x) (tO x) := by
  intro H w o l ok dp h h0 h1 hb
  obtain ⟨k, nm, vars, dirs, sels⟩ := x
  have hm' := hm
  simp only [Lim, bO] at hm'
  simp only [bO] at hb
  obtain ⟨hwv, hwd, hws⟩ := hw
  have eo : cO ⟨k, nm, vars, dirs, sels⟩ = [.int .i64 k, .str nm, .sl .no 10 (cWs vars), .sl .no 2 (cDs dirs), .sl .no 7 (cSs sels)] := rfl
  have hcw := cWs_len vars
  have hvl := bWs_len vars
  have nq : nameM [113, 117, 101, 114, 121] = true := by decide
  have nmu : nameM [109, 117, 116, 97, 116, 105, 111, 110] = true := by decide
  refine ACalls.go ir71 ck71 (Nat.le_refl _) fun KP Q hQ => ?_
  have w0 := WR.refl h
  obtain ⟨R3, hR3⟩ : ∃ R3, R3 = ((decide (k = 0) || decide (k = 1)) && (decide (nm = []) || nameM nm)) := ⟨_, rfl⟩
  obtain ⟨T3, hT3⟩ : ∃ T3, T3 = (wk (if k = 0 then [113, 117, 101, 114, 121] else [109, 117, 116, 97, 116, 105, 111, 110]) :: (if nm = [] then [] else [wk nm])) := ⟨_, rfl⟩
  have er : rightOd dp ⟨k, nm, vars, dirs, sels⟩ = (R3 && (vars.all (rightWd dp) && (rightDs dp true dirs && rightSs (dp + 1) sels))) := by
    rw [hR3]; simp only [rightOd, Bool.and_assoc]
  have et : R3 = true → tO ⟨k, nm, vars, dirs, sels⟩ = T3 ++ (tWs vars ++ (tDs dirs ++ tBl sels)) := fun _ => by rw [hT3]; simp [tO]
  by_cases hk0 : k = 0
  · subst hk0
    have hk0 : True := trivial
    have hk1 : True := trivial
    simp (disch := first | omega | assumption) only [ir71, eo, go_sem, ↓reduceIte]
    refine goK_W (nameWC [113, 117, 101, 114, 121] (by simp [Lim])) w0 (by omega) (by omega) (by omega) fun o2 l2 H2 w2 _ => ?_
    by_cases hnm : nm = []
    case pos =>
      have w3 := (w2.castC (B' := 2) (r' := R3) (tk' := T3) (by omega) (by rw [hR3]; simp [hk0, hk1, hnm, nq, nmu]) (fun e => by first | (rw [hT3]; simp [hk0, hk1, hnm]; done) | (exfalso; revert e; rw [hR3]; simp [hk0, hk1])))
      by_cases hv0 : vars.length = 0
      case pos =>
        have hv1 : ¬ ((0 : Int) < (vars.length : Int)) := by omega
        have hev := List.length_eq_zero_iff.1 hv0
        simp (disch := first | omega | assumption) only [hnm, hcw, hv1, go_sem, ↓reduceIte]
        refine goK_W (dirsWC true dirs hwd (by simp only [Lim]; omega)) w3 (by omega) (by omega) (by omega) fun oA lA HA wA _ => ?_
        simp (disch := first | omega | assumption) only [go_sem, ↓reduceIte]
        refine goK_W (blockWC (listWC (bSs sels)) sels (Nat.le_refl _) hws (by simp only [Lim]; omega)) wA (by omega) (by omega) (by omega) fun oB lB HB wB _ => ?_
        simp (disch := first | omega | assumption) only [go_sem, ↓reduceIte]
        exact hQ _ _ HB HB [] nofun rfl (Low.refl _) ⟨rfl, wB.fin (by show _ = rightOd dp _; rw [er]; simp [hev, Bool.and_assoc]) (fun e => by rw [et (by have e : rightOd dp _ = true := e; rw [er] at e; simp only [Bool.and_eq_true] at e; exact e.1)]; simp [tWs, hv0]) (by simp only [bO]; omega)⟩
      case neg =>
        have hev := hv0
        have hv1 : ((0 : Int) < (vars.length : Int)) = True := eq_true (by omega)
        simp (disch := first | omega | assumption) only [hnm, hcw, hv1, go_sem, ↓reduceIte]
        refine goK_W (markC [40] _) w3 (by omega) (by omega) (by omega) fun o4 l4 H4 w4 _ => ?_
        simp (disch := first | omega | assumption) only [hcw, go_sem, ↓reduceIte]
        refine goL_range vars 35 (fun x : Own × List Tok => []) (fun done rest x H' => WR H o w l ok dp (3 + 32 * bWs done) (R3 && done.all (rightWd dp)) (T3 ++ (pk [40] :: done.flatMap tW)) H' x.1 x.2) (o4, l4) (by simp (disch := first | omega | assumption) only [go_sem, ↓reduceIte]) (w4.cast (by omega) (by simp) (by simp)) ?_ ?_
        case refine_1 =>
          rintro ⟨o5, l5⟩ H5 J5 w5 hlt
          simp only at w5
          simp (disch := first | omega | assumption) only [hcw, hlt, go_sem, ↓reduceIte]
          refine goK_W (markC [41] _) w5 (by omega) (by omega) (by omega) fun o6 l6 H6 w6 _ => ?_
          simp (disch := first | omega | assumption) only [go_sem, ↓reduceIte]
          refine goK_W (dirsWC true dirs hwd (by simp only [Lim]; omega)) w6 (by omega) (by omega) (by omega) fun oA lA HA wA _ => ?_
          simp (disch := first | omega | assumption) only [go_sem, ↓reduceIte]
          refine goK_W (blockWC (listWC (bSs sels)) sels (Nat.le_refl _) hws (by simp only [Lim]; omega)) wA (by omega) (by omega) (by omega) fun oB lB HB wB _ => ?_
          simp (disch := first | omega | assumption) only [go_sem, ↓reduceIte]
          exact hQ _ _ HB HB [] nofun rfl (Low.refl _) ⟨rfl, wB.fin (by show _ = rightOd dp _; rw [er]; simp [hev, Bool.and_assoc]) (fun e => by rw [et (by have e : rightOd dp _ = true := e; rw [er] at e; simp only [Bool.and_eq_true] at e; exact e.1)]; simp [tWs, hv0]) (by simp only [bO]; omega)⟩
        case refine_2 =>
          rintro done x rest ⟨o5, l5⟩ H5 J5 hd hlt hlt2 w5 hJ5
          simp only at w5
          have hg := cWs_get hd
          have hbm := bWs_mid done x rest
          rw [← hd] at hbm
          have hwx := hwv x (by rw [hd]; simp)
          obtain ⟨vn, ⟨tn, tl, tm⟩, vh, vd⟩ := x
          have hwvd : wfV vd := hwx.2.2
          have hvp := bV_pos vd
          have hbx : bW ⟨vn, ⟨tn, tl, tm⟩, vh, vd⟩ = vn.length + tn.length + bV vd := rfl
          rw [cW_mk] at hg
          simp only at hg
          simp (disch := first | omega | assumption) only [cV_len, cV_take, cV_splice, cM_len, cM_take, cM_splice, cM_mk, hcw, hlt, hg, go_sem, ↓reduceIte]
          refine goA_intro fun b hb => ?_
          have hbw : b ≠ w := fun e => by subst e; rw [w5.here.cell] at hb; cases hb
          have w6 := w5.alloc (x := .cells (.str vn :: .str tn :: .int .i64 tl :: .int .i64 tm :: .bool vh :: cV vd)) hb
          have hbc : (H5.upd b (.cells (.str vn :: .str tn :: .int .i64 tl :: .int .i64 tm :: .bool vh :: cV vd))) b = some (.cells (.str vn :: .str tn :: .int .i64 tl :: .int .i64 tm :: .bool vh :: cV vd)) := upd_same ..
          simp (disch := first | omega | assumption) only [cV_len, cV_take, cV_splice, cM_len, cM_take, cM_splice, cM_mk, go_sem, ↓reduceIte]
          refine goK_W (markC [36] _) w6 (by omega) (by omega) (by omega) fun o7 l7 H7 w7 s7 => ?_
          have hb7 := s7.box w6.here.own hbc hbw
          simp (disch := first | omega | assumption) only [cV_len, cV_take, cV_splice, cM_len, cM_take, cM_splice, cM_mk, hb7, go_sem, ↓reduceIte]
          refine goK_W (nameWC vn (by simp only [Lim]; omega)) w7 (by omega) (by omega) (by omega) fun o8 l8 H8 w8 s8 => ?_
          have hb8 := s8.box w7.here.own hb7 hbw
          simp (disch := first | omega | assumption) only [cV_len, cV_take, cV_splice, cM_len, cM_take, cM_splice, cM_mk, hb8, go_sem, ↓reduceIte]
          refine goK_W (markC [58] _) w8 (by omega) (by omega) (by omega) fun o9 l9 H9 w9 s9 => ?_
          have hb9 := s9.box w8.here.own hb8 hbw
          simp (disch := first | omega | assumption) only [cV_len, cV_take, cV_splice, cM_len, cM_take, cM_splice, cM_mk, hb9, go_sem, ↓reduceIte]
          refine goK_W (args := [.agg [.str tn, .int .i64 tl, .int .i64 tm]]) (show WC _ [.agg [.str tn, .int .i64 tl, .int .i64 tm]] 20 (-1000) 1000 (fun _ => rightTy ⟨tn, tl, tm⟩) (tTy ⟨tn, tl, tm⟩) from typeWC ⟨tn, tl, tm⟩ (by simp only [Lim]; omega)) w9 (by omega) (by omega) (by omega) fun oC lC HC wC sC => ?_
          have hbC := sC.box w9.here.own hb9 hbw
          simp (disch := first | omega | assumption) only [cV_len, cV_take, cV_splice, cM_len, cM_take, cM_splice, cM_mk, hbC, go_sem, ↓reduceIte]
          refine goK_W (defaultWC vh vd hwvd (by simp only [Lim]; omega)) wC (by omega) (by omega) (by omega) fun oD lD HD wD sD => ?_
          simp (disch := first | omega | assumption) only [wrap64, go_sem, ↓reduceIte]
          exact goJ (hJ5 (oD, lD) HD (wD.cast (by rw [bWs_snoc]; omega) (by simp [rightWd, Bool.and_assoc]) (by simp [tW]))) (by simp (disch := first | omega | assumption) only [go_sem, ↓reduceIte])
    case neg =>
      simp (disch := first | omega | assumption) only [hnm, go_sem, ↓reduceIte]
      refine goK_W (nameWC nm (by simp only [Lim]; omega)) w2 (by omega) (by omega) (by omega) fun o3 l3 H3 w3' _ => ?_
      have w3 := (w3'.castC (B' := 2) (r' := R3) (tk' := T3) (by omega) (by rw [hR3]; simp [hk0, hk1, hnm, nq, nmu]) (fun e => by first | (rw [hT3]; simp [hk0, hk1, hnm]; done) | (exfalso; revert e; rw [hR3]; simp [hk0, hk1])))
      by_cases hv0 : vars.length = 0
      case pos =>
        have hv1 : ¬ ((0 : Int) < (vars.length : Int)) := by omega
        have hev := List.length_eq_zero_iff.1 hv0
        simp (disch := first | omega | assumption) only [hnm, hcw, hv1, go_sem, ↓reduceIte]
        refine goK_W (dirsWC true dirs hwd (by simp only [Lim]; omega)) w3 (by omega) (by omega) (by omega) fun oA lA HA wA _ => ?_
        simp (disch := first | omega | assumption) only [go_sem, ↓reduceIte]
        refine goK_W (blockWC (listWC (bSs sels)) sels (Nat.le_refl _) hws (by simp only [Lim]; omega)) wA (by omega) (by omega) (by omega) fun oB lB HB wB _ => ?_
        simp (disch := first | omega | assumption) only [go_sem, ↓reduceIte]
        exact hQ _ _ HB HB [] nofun rfl (Low.refl _) ⟨rfl, wB.fin (by show _ = rightOd dp _; rw [er]; simp [hev, Bool.and_assoc]) (fun e => by rw [et (by have e : rightOd dp _ = true := e; rw [er] at e; simp only [Bool.and_eq_true] at e; exact e.1)]; simp [tWs, hv0]) (by simp only [bO]; omega)⟩
      case neg =>
        have hev := hv0
        have hv1 : ((0 : Int) < (vars.length : Int)) = True := eq_true (by omega)
        simp (disch := first | omega | assumption) only [hnm, hcw, hv1, go_sem, ↓reduceIte]
        refine goK_W (markC [40] _) w3 (by omega) (by omega) (by omega) fun o4 l4 H4 w4 _ => ?_
        simp (disch := first | omega | assumption) only [hcw, go_sem, ↓reduceIte]
        refine goL_range vars 35 (fun x : Own × List Tok => []) (fun done rest x H' => WR H o w l ok dp (3 + 32 * bWs done) (R3 && done.all (rightWd dp)) (T3 ++ (pk [40] :: done.flatMap tW)) H' x.1 x.2) (o4, l4) (by simp (disch := first | omega | assumption) only [go_sem, ↓reduceIte]) (w4.cast (by omega) (by simp) (by simp)) ?_ ?_
        case refine_1 =>
          rintro ⟨o5, l5⟩ H5 J5 w5 hlt
          simp only at w5
          simp (disch := first | omega | assumption) only [hcw, hlt, go_sem, ↓reduceIte]
          refine goK_W (markC [41] _) w5 (by omega) (by omega) (by omega) fun o6 l6 H6 w6 _ => ?_
          simp (disch := first | omega | assumption) only [go_sem, ↓reduceIte]
          refine goK_W (dirsWC true dirs hwd (by simp only [Lim]; omega)) w6 (by omega) (by omega) (by omega) fun oA lA HA wA _ => ?_
          simp (disch := first | omega | assumption) only [go_sem, ↓reduceIte]
          refine goK_W (blockWC (listWC (bSs sels)) sels (Nat.le_refl _) hws (by simp only [Lim]; omega)) wA (by omega) (by omega) (by omega) fun oB lB HB wB _ => ?_
          simp (disch := first | omega | assumption) only [go_sem, ↓reduceIte]
          exact hQ _ _ HB HB [] nofun rfl (Low.refl _) ⟨rfl, wB.fin (by show _ = rightOd dp _; rw [er]; simp [hev, Bool.and_assoc]) (fun e => by rw [et (by have e : rightOd dp _ = true := e; rw [er] at e; simp only [Bool.and_eq_true] at e; exact e.1)]; simp [tWs, hv0]) (by simp only [bO]; omega)⟩
        case refine_2 =>
          rintro done x rest ⟨o5, l5⟩ H5 J5 hd hlt hlt2 w5 hJ5
          simp only at w5
          have hg := cWs_get hd
          have hbm := bWs_mid done x rest
          rw [← hd] at hbm
          have hwx := hwv x (by rw [hd]; simp)
          obtain ⟨vn, ⟨tn, tl, tm⟩, vh, vd⟩ := x
          have hwvd : wfV vd := hwx.2.2
          have hvp := bV_pos vd
          have hbx : bW ⟨vn, ⟨tn, tl, tm⟩, vh, vd⟩ = vn.length + tn.length + bV vd := rfl
          rw [cW_mk] at hg
          simp only at hg
          simp (disch := first | omega | assumption) only [cV_len, cV_take, cV_splice, cM_len, cM_take, cM_splice, cM_mk, hcw, hlt, hg, go_sem, ↓reduceIte]
          refine goA_intro fun b hb => ?_
          have hbw : b ≠ w := fun e => by subst e; rw [w5.here.cell] at hb; cases hb
          have w6 := w5.alloc (x := .cells (.str vn :: .str tn :: .int .i64 tl :: .int .i64 tm :: .bool vh :: cV vd)) hb
          have hbc : (H5.upd b (.cells (.str vn :: .str tn :: .int .i64 tl :: .int .i64 tm :: .bool vh :: cV vd))) b = some (.cells (.str vn :: .str tn :: .int .i64 tl :: .int .i64 tm :: .bool vh :: cV vd)) := upd_same ..
          simp (disch := first | omega | assumption) only [cV_len, cV_take, cV_splice, cM_len, cM_take, cM_splice, cM_mk, go_sem, ↓reduceIte]
          refine goK_W (markC [36] _) w6 (by omega) (by omega) (by omega) fun o7 l7 H7 w7 s7 => ?_
          have hb7 := s7.box w6.here.own hbc hbw
          simp (disch := first | omega | assumption) only [cV_len, cV_take, cV_splice, cM_len, cM_take, cM_splice, cM_mk, hb7, go_sem, ↓reduceIte]
          refine goK_W (nameWC vn (by simp only [Lim]; omega)) w7 (by omega) (by omega) (by omega) fun o8 l8 H8 w8 s8 => ?_
          have hb8 := s8.box w7.here.own hb7 hbw
          simp (disch := first | omega | assumption) only [cV_len, cV_take, cV_splice, cM_len, cM_take, cM_splice, cM_mk, hb8, go_sem, ↓reduceIte]
          refine goK_W (markC [58] _) w8 (by omega) (by omega) (by omega) fun o9 l9 H9 w9 s9 => ?_
          have hb9 := s9.box w8.here.own hb8 hbw
          simp (disch := first | omega | assumption) only [cV_len, cV_take, cV_splice, cM_len, cM_take, cM_splice, cM_mk, hb9, go_sem, ↓reduceIte]
          refine goK_W (args := [.agg [.str tn, .int .i64 tl, .int .i64 tm]]) (show WC _ [.agg [.str tn, .int .i64 tl, .int .i64 tm]] 20 (-1000) 1000 (fun _ => rightTy ⟨tn, tl, tm⟩) (tTy ⟨tn, tl, tm⟩) from typeWC ⟨tn, tl, tm⟩ (by simp only [Lim]; omega)) w9 (by omega) (by omega) (by omega) fun oC lC HC wC sC => ?_
          have hbC := sC.box w9.here.own hb9 hbw
          simp (disch := first | omega | assumption) only [cV_len, cV_take, cV_splice, cM_len, cM_take, cM_splice, cM_mk, hbC, go_sem, ↓reduceIte]
          refine goK_W (defaultWC vh vd hwvd (by simp only [Lim]; omega)) wC (by omega) (by omega) (by omega) fun oD lD HD wD sD => ?_
          simp (disch := first | omega | assumption) only [wrap64, go_sem, ↓reduceIte]
          exact goJ (hJ5 (oD, lD) HD (wD.cast (by rw [bWs_snoc]; omega) (by simp [rightWd, Bool.and_assoc]) (by simp [tW]))) (by simp (disch := first | omega | assumption) only [go_sem, ↓reduceIte])
  by_cases hk1 : k = 1
  · subst hk1
    have hk1 : True := trivial
    simp (disch := first | omega | assumption) only [ir71, eo, go_sem, ↓reduceIte]
    refine goK_W (nameWC [109, 117, 116, 97, 116, 105, 111, 110] (by simp [Lim])) w0 (by omega) (by omega) (by omega) fun o2 l2 H2 w2 _ => ?_
    by_cases hnm : nm = []
    case pos =>
      have w3 := (w2.castC (B' := 2) (r' := R3) (tk' := T3) (by omega) (by rw [hR3]; simp [hk0, hk1, hnm, nq, nmu]) (fun e => by first | (rw [hT3]; simp [hk0, hk1, hnm]; done) | (exfalso; revert e; rw [hR3]; simp [hk0, hk1])))
      by_cases hv0 : vars.length = 0
      case pos =>
        have hv1 : ¬ ((0 : Int) < (vars.length : Int)) := by omega
        have hev := List.length_eq_zero_iff.1 hv0
        simp (disch := first | omega | assumption) only [hnm, hcw, hv1, go_sem, ↓reduceIte]
        refine goK_W (dirsWC true dirs hwd (by simp only [Lim]; omega)) w3 (by omega) (by omega) (by omega) fun oA lA HA wA _ => ?_
        simp (disch := first | omega | assumption) only [go_sem, ↓reduceIte]
        refine goK_W (blockWC (listWC (bSs sels)) sels (Nat.le_refl _) hws (by simp only [Lim]; omega)) wA (by omega) (by omega) (by omega) fun oB lB HB wB _ => ?_
        simp (disch := first | omega | assumption) only [go_sem, ↓reduceIte]
        exact hQ _ _ HB HB [] nofun rfl (Low.refl _) ⟨rfl, wB.fin (by show _ = rightOd dp _; rw [er]; simp [hev, Bool.and_assoc]) (fun e => by rw [et (by have e : rightOd dp _ = true := e; rw [er] at e; simp only [Bool.and_eq_true] at e; exact e.1)]; simp [tWs, hv0]) (by simp only [bO]; omega)⟩
      case neg =>
        have hev := hv0
        have hv1 : ((0 : Int) < (vars.length : Int)) = True := eq_true (by omega)
        simp (disch := first | omega | assumption) only [hnm, hcw, hv1, go_sem, ↓reduceIte]
        refine goK_W (markC [40] _) w3 (by omega) (by omega) (by omega) fun o4 l4 H4 w4 _ => ?_
        simp (disch := first | omega | assumption) only [hcw, go_sem, ↓reduceIte]
        refine goL_range vars 35 (fun x : Own × List Tok => []) (fun done rest x H' => WR H o w l ok dp (3 + 32 * bWs done) (R3 && done.all (rightWd dp)) (T3 ++ (pk [40] :: done.flatMap tW)) H' x.1 x.2) (o4, l4) (by simp (disch := first | omega | assumption) only [go_sem, ↓reduceIte]) (w4.cast (by omega) (by simp) (by simp)) ?_ ?_
        case refine_1 =>
          rintro ⟨o5, l5⟩ H5 J5 w5 hlt
          simp only at w5
          simp (disch := first | omega | assumption) only [hcw, hlt, go_sem, ↓reduceIte]
          refine goK_W (markC [41] _) w5 (by omega) (by omega) (by omega) fun o6 l6 H6 w6 _ => ?_
          simp (disch := first | omega | assumption) only [go_sem, ↓reduceIte]
          refine goK_W (dirsWC true dirs hwd (by simp only [Lim]; omega)) w6 (by omega) (by omega) (by omega) fun oA lA HA wA _ => ?_
          simp (disch := first | omega | assumption) only [go_sem, ↓reduceIte]
          refine goK_W (blockWC (listWC (bSs sels)) sels (Nat.le_refl _) hws (by simp only [Lim]; omega)) wA (by omega) (by omega) (by omega) fun oB lB HB wB _ => ?_
          simp (disch := first | omega | assumption) only [go_sem, ↓reduceIte]
          exact hQ _ _ HB HB [] nofun rfl (Low.refl _) ⟨rfl, wB.fin (by show _ = rightOd dp _; rw [er]; simp [hev, Bool.and_assoc]) (fun e => by rw [et (by have e : rightOd dp _ = true := e; rw [er] at e; simp only [Bool.and_eq_true] at e; exact e.1)]; simp [tWs, hv0]) (by simp only [bO]; omega)⟩
        case refine_2 =>
          rintro done x rest ⟨o5, l5⟩ H5 J5 hd hlt hlt2 w5 hJ5
          simp only at w5
          have hg := cWs_get hd
          have hbm := bWs_mid done x rest
          rw [← hd] at hbm
          have hwx := hwv x (by rw [hd]; simp)
          obtain ⟨vn, ⟨tn, tl, tm⟩, vh, vd⟩ := x
          have hwvd : wfV vd := hwx.2.2
          have hvp := bV_pos vd
          have hbx : bW ⟨vn, ⟨tn, tl, tm⟩, vh, vd⟩ = vn.length + tn.length + bV vd := rfl
          rw [cW_mk] at hg
          simp only at hg
          simp (disch := first | omega | assumption) only [cV_len, cV_take, cV_splice, cM_len, cM_take, cM_splice, cM_mk, hcw, hlt, hg, go_sem, ↓reduceIte]
          refine goA_intro fun b hb => ?_
          have hbw : b ≠ w := fun e => by subst e; rw [w5.here.cell] at hb; cases hb
          have w6 := w5.alloc (x := .cells (.str vn :: .str tn :: .int .i64 tl :: .int .i64 tm :: .bool vh :: cV vd)) hb
          have hbc : (H5.upd b (.cells (.str vn :: .str tn :: .int .i64 tl :: .int .i64 tm :: .bool vh :: cV vd))) b = some (.cells (.str vn :: .str tn :: .int .i64 tl :: .int .i64 tm :: .bool vh :: cV vd)) := upd_same ..
          simp (disch := first | omega | assumption) only [cV_len, cV_take, cV_splice, cM_len, cM_take, cM_splice, cM_mk, go_sem, ↓reduceIte]
          refine goK_W (markC [36] _) w6 (by omega) (by omega) (by omega) fun o7 l7 H7 w7 s7 => ?_
          have hb7 := s7.box w6.here.own hbc hbw
          simp (disch := first | omega | assumption) only [cV_len, cV_take, cV_splice, cM_len, cM_take, cM_splice, cM_mk, hb7, go_sem, ↓reduceIte]
          refine goK_W (nameWC vn (by simp only [Lim]; omega)) w7 (by omega) (by omega) (by omega) fun o8 l8 H8 w8 s8 => ?_
          have hb8 := s8.box w7.here.own hb7 hbw
          simp (disch := first | omega | assumption) only [cV_len, cV_take, cV_splice, cM_len, cM_take, cM_splice, cM_mk, hb8, go_sem, ↓reduceIte]
          refine goK_W (markC [58] _) w8 (by omega) (by omega) (by omega) fun o9 l9 H9 w9 s9 => ?_
          have hb9 := s9.box w8.here.own hb8 hbw
          simp (disch := first | omega | assumption) only [cV_len, cV_take, cV_splice, cM_len, cM_take, cM_splice, cM_mk, hb9, go_sem, ↓reduceIte]
          refine goK_W (args := [.agg [.str tn, .int .i64 tl, .int .i64 tm]]) (show WC _ [.agg [.str tn, .int .i64 tl, .int .i64 tm]] 20 (-1000) 1000 (fun _ => rightTy ⟨tn, tl, tm⟩) (tTy ⟨tn, tl, tm⟩) from typeWC ⟨tn, tl, tm⟩ (by simp only [Lim]; omega)) w9 (by omega) (by omega) (by omega) fun oC lC HC wC sC => ?_
          have hbC := sC.box w9.here.own hb9 hbw
          simp (disch := first | omega | assumption) only [cV_len, cV_take, cV_splice, cM_len, cM_take, cM_splice, cM_mk, hbC, go_sem, ↓reduceIte]
          refine goK_W (defaultWC vh vd hwvd (by simp only [Lim]; omega)) wC (by omega) (by omega) (by omega) fun oD lD HD wD sD => ?_
          simp (disch := first | omega | assumption) only [wrap64, go_sem, ↓reduceIte]
          exact goJ (hJ5 (oD, lD) HD (wD.cast (by rw [bWs_snoc]; omega) (by simp [rightWd, Bool.and_assoc]) (by simp [tW]))) (by simp (disch := first | omega | assumption) only [go_sem, ↓reduceIte])
    case neg =>
      simp (disch := first | omega | assumption) only [hnm, go_sem, ↓reduceIte]
      refine goK_W (nameWC nm (by simp only [Lim]; omega)) w2 (by omega) (by omega) (by omega) fun o3 l3 H3 w3' _ => ?_
      have w3 := (w3'.castC (B' := 2) (r' := R3) (tk' := T3) (by omega) (by rw [hR3]; simp [hk0, hk1, hnm, nq, nmu]) (fun e => by first | (rw [hT3]; simp [hk0, hk1, hnm]; done) | (exfalso; revert e; rw [hR3]; simp [hk0, hk1])))
      by_cases hv0 : vars.length = 0
      case pos =>
        have hv1 : ¬ ((0 : Int) < (vars.length : Int)) := by omega
        have hev := List.length_eq_zero_iff.1 hv0
        simp (disch := first | omega | assumption) only [hnm, hcw, hv1, go_sem, ↓reduceIte]
        refine goK_W (dirsWC true dirs hwd (by simp only [Lim]; omega)) w3 (by omega) (by omega) (by omega) fun oA lA HA wA _ => ?_
        simp (disch := first | omega | assumption) only [go_sem, ↓reduceIte]
        refine goK_W (blockWC (listWC (bSs sels)) sels (Nat.le_refl _) hws (by simp only [Lim]; omega)) wA (by omega) (by omega) (by omega) fun oB lB HB wB _ => ?_
        simp (disch := first | omega | assumption) only [go_sem, ↓reduceIte]
        exact hQ _ _ HB HB [] nofun rfl (Low.refl _) ⟨rfl, wB.fin (by show _ = rightOd dp _; rw [er]; simp [hev, Bool.and_assoc]) (fun e => by rw [et (by have e : rightOd dp _ = true := e; rw [er] at e; simp only [Bool.and_eq_true] at e; exact e.1)]; simp [tWs, hv0]) (by simp only [bO]; omega)⟩
      case neg =>
        have hev := hv0
        have hv1 : ((0 : Int) < (vars.length : Int)) = True := eq_true (by omega)
        simp (disch := first | omega | assumption) only [hnm, hcw, hv1, go_sem, ↓reduceIte]
        refine goK_W (markC [40] _) w3 (by omega) (by omega) (by omega) fun o4 l4 H4 w4 _ => ?_
        simp (disch := first | omega | assumption) only [hcw, go_sem, ↓reduceIte]
        refine goL_range vars 35 (fun x : Own × List Tok => []) (fun done rest x H' => WR H o w l ok dp (3 + 32 * bWs done) (R3 && done.all (rightWd dp)) (T3 ++ (pk [40] :: done.flatMap tW)) H' x.1 x.2) (o4, l4) (by simp (disch := first | omega | assumption) only [go_sem, ↓reduceIte]) (w4.cast (by omega) (by simp) (by simp)) ?_ ?_
        case refine_1 =>
          rintro ⟨o5, l5⟩ H5 J5 w5 hlt
          simp only at w5
          simp (disch := first | omega | assumption) only [hcw, hlt, go_sem, ↓reduceIte]
          refine goK_W (markC [41] _) w5 (by omega) (by omega) (by omega) fun o6 l6 H6 w6 _ => ?_
          simp (disch := first | omega | assumption) only [go_sem, ↓reduceIte]
          refine goK_W (dirsWC true dirs hwd (by simp only [Lim]; omega)) w6 (by omega) (by omega) (by omega) fun oA lA HA wA _ => ?_
          simp (disch := first | omega | assumption) only [go_sem, ↓reduceIte]
          refine goK_W (blockWC (listWC (bSs sels)) sels (Nat.le_refl _) hws (by simp only [Lim]; omega)) wA (by omega) (by omega) (by omega) fun oB lB HB wB _ => ?_
          simp (disch := first | omega | assumption) only [go_sem, ↓reduceIte]
          exact hQ _ _ HB HB [] nofun rfl (Low.refl _) ⟨rfl, wB.fin (by show _ = rightOd dp _; rw [er]; simp [hev, Bool.and_assoc]) (fun e => by rw [et (by have e : rightOd dp _ = true := e; rw [er] at e; simp only [Bool.and_eq_true] at e; exact e.1)]; simp [tWs, hv0]) (by simp only [bO]; omega)⟩
        case refine_2 =>
          rintro done x rest ⟨o5, l5⟩ H5 J5 hd hlt hlt2 w5 hJ5
          simp only at w5
          have hg := cWs_get hd
          have hbm := bWs_mid done x rest
          rw [← hd] at hbm
          have hwx := hwv x (by rw [hd]; simp)
          obtain ⟨vn, ⟨tn, tl, tm⟩, vh, vd⟩ := x
          have hwvd : wfV vd := hwx.2.2
          have hvp := bV_pos vd
          have hbx : bW ⟨vn, ⟨tn, tl, tm⟩, vh, vd⟩ = vn.length + tn.length + bV vd := rfl
          rw [cW_mk] at hg
          simp only at hg
          simp (disch := first | omega | assumption) only [cV_len, cV_take, cV_splice, cM_len, cM_take, cM_splice, cM_mk, hcw, hlt, hg, go_sem, ↓reduceIte]
          refine goA_intro fun b hb => ?_
          have hbw : b ≠ w := fun e => by subst e; rw [w5.here.cell] at hb; cases hb
          have w6 := w5.alloc (x := .cells (.str vn :: .str tn :: .int .i64 tl :: .int .i64 tm :: .bool vh :: cV vd)) hb
          have hbc : (H5.upd b (.cells (.str vn :: .str tn :: .int .i64 tl :: .int .i64 tm :: .bool vh :: cV vd))) b = some (.cells (.str vn :: .str tn :: .int .i64 tl :: .int .i64 tm :: .bool vh :: cV vd)) := upd_same ..
          simp (disch := first | omega | assumption) only [cV_len, cV_take, cV_splice, cM_len, cM_take, cM_splice, cM_mk, go_sem, ↓reduceIte]
          refine goK_W (markC [36] _) w6 (by omega) (by omega) (by omega) fun o7 l7 H7 w7 s7 => ?_
          have hb7 := s7.box w6.here.own hbc hbw
          simp (disch := first | omega | assumption) only [cV_len, cV_take, cV_splice, cM_len, cM_take, cM_splice, cM_mk, hb7, go_sem, ↓reduceIte]
          refine goK_W (nameWC vn (by simp only [Lim]; omega)) w7 (by omega) (by omega) (by omega) fun o8 l8 H8 w8 s8 => ?_
          have hb8 := s8.box w7.here.own hb7 hbw
          simp (disch := first | omega | assumption) only [cV_len, cV_take, cV_splice, cM_len, cM_take, cM_splice, cM_mk, hb8, go_sem, ↓reduceIte]
          refine goK_W (markC [58] _) w8 (by omega) (by omega) (by omega) fun o9 l9 H9 w9 s9 => ?_
          have hb9 := s9.box w8.here.own hb8 hbw
          simp (disch := first | omega | assumption) only [cV_len, cV_take, cV_splice, cM_len, cM_take, cM_splice, cM_mk, hb9, go_sem, ↓reduceIte]
          refine goK_W (args := [.agg [.str tn, .int .i64 tl, .int .i64 tm]]) (show WC _ [.agg [.str tn, .int .i64 tl, .int .i64 tm]] 20 (-1000) 1000 (fun _ => rightTy ⟨tn, tl, tm⟩) (tTy ⟨tn, tl, tm⟩) from typeWC ⟨tn, tl, tm⟩ (by simp only [Lim]; omega)) w9 (by omega) (by omega) (by omega) fun oC lC HC wC sC => ?_
          have hbC := sC.box w9.here.own hb9 hbw
          simp (disch := first | omega | assumption) only [cV_len, cV_take, cV_splice, cM_len, cM_take, cM_splice, cM_mk, hbC, go_sem, ↓reduceIte]
          refine goK_W (defaultWC vh vd hwvd (by simp only [Lim]; omega)) wC (by omega) (by omega) (by omega) fun oD lD HD wD sD => ?_
          simp (disch := first | omega | assumption) only [wrap64, go_sem, ↓reduceIte]
          exact goJ (hJ5 (oD, lD) HD (wD.cast (by rw [bWs_snoc]; omega) (by simp [rightWd, Bool.and_assoc]) (by simp [tW]))) (by simp (disch := first | omega | assumption) only [go_sem, ↓reduceIte])
  · simp (disch := first | omega | assumption) only [ir71, eo, hk0, hk1, go_sem, ↓reduceIte]
    refine goK_W (needC false) w0 (by omega) (by omega) (by omega) fun o2 l2 H2 w2 _ => ?_
    by_cases hnm : nm = []
    case pos =>
      have w3 := (w2.castC (B' := 2) (r' := R3) (tk' := T3) (by omega) (by rw [hR3]; simp [hk0, hk1, hnm, nq, nmu]) (fun e => by first | (rw [hT3]; simp [hk0, hk1, hnm]; done) | (exfalso; revert e; rw [hR3]; simp [hk0, hk1])))
      by_cases hv0 : vars.length = 0
      case pos =>
        have hv1 : ¬ ((0 : Int) < (vars.length : Int)) := by omega
        have hev := List.length_eq_zero_iff.1 hv0
        simp (disch := first | omega | assumption) only [hnm, hcw, hv1, go_sem, ↓reduceIte]
        refine goK_W (dirsWC true dirs hwd (by simp only [Lim]; omega)) w3 (by omega) (by omega) (by omega) fun oA lA HA wA _ => ?_
        simp (disch := first | omega | assumption) only [go_sem, ↓reduceIte]
        refine goK_W (blockWC (listWC (bSs sels)) sels (Nat.le_refl _) hws (by simp only [Lim]; omega)) wA (by omega) (by omega) (by omega) fun oB lB HB wB _ => ?_
        simp (disch := first | omega | assumption) only [go_sem, ↓reduceIte]
        exact hQ _ _ HB HB [] nofun rfl (Low.refl _) ⟨rfl, wB.fin (by show _ = rightOd dp _; rw [er]; simp [hev, Bool.and_assoc]) (fun e => by rw [et (by have e : rightOd dp _ = true := e; rw [er] at e; simp only [Bool.and_eq_true] at e; exact e.1)]; simp [tWs, hv0]) (by simp only [bO]; omega)⟩
      case neg =>
        have hev := hv0
        have hv1 : ((0 : Int) < (vars.length : Int)) = True := eq_true (by omega)
        simp (disch := first | omega | assumption) only [hnm, hcw, hv1, go_sem, ↓reduceIte]
        refine goK_W (markC [40] _) w3 (by omega) (by omega) (by omega) fun o4 l4 H4 w4 _ => ?_
        simp (disch := first | omega | assumption) only [hcw, go_sem, ↓reduceIte]
        refine goL_range vars 35 (fun x : Own × List Tok => []) (fun done rest x H' => WR H o w l ok dp (3 + 32 * bWs done) (R3 && done.all (rightWd dp)) (T3 ++ (pk [40] :: done.flatMap tW)) H' x.1 x.2) (o4, l4) (by simp (disch := first | omega | assumption) only [go_sem, ↓reduceIte]) (w4.cast (by omega) (by simp) (by simp)) ?_ ?_
        case refine_1 =>
          rintro ⟨o5, l5⟩ H5 J5 w5 hlt
          simp only at w5
          simp (disch := first | omega | assumption) only [hcw, hlt, go_sem, ↓reduceIte]
          refine goK_W (markC [41] _) w5 (by omega) (by omega) (by omega) fun o6 l6 H6 w6 _ => ?_
          simp (disch := first | omega | assumption) only [go_sem, ↓reduceIte]
          refine goK_W (dirsWC true dirs hwd (by simp only [Lim]; omega)) w6 (by omega) (by omega) (by omega) fun oA lA HA wA _ => ?_
          simp (disch := first | omega | assumption) only [go_sem, ↓reduceIte]
          refine goK_W (blockWC (listWC (bSs sels)) sels (Nat.le_refl _) hws (by simp only [Lim]; omega)) wA (by omega) (by omega) (by omega) fun oB lB HB wB _ => ?_
          simp (disch := first | omega | assumption) only [go_sem, ↓reduceIte]
          exact hQ _ _ HB HB [] nofun rfl (Low.refl _) ⟨rfl, wB.fin (by show _ = rightOd dp _; rw [er]; simp [hev, Bool.and_assoc]) (fun e => by rw [et (by have e : rightOd dp _ = true := e; rw [er] at e; simp only [Bool.and_eq_true] at e; exact e.1)]; simp [tWs, hv0]) (by simp only [bO]; omega)⟩
        case refine_2 =>
          rintro done x rest ⟨o5, l5⟩ H5 J5 hd hlt hlt2 w5 hJ5
          simp only at w5
          have hg := cWs_get hd
          have hbm := bWs_mid done x rest
          rw [← hd] at hbm
          have hwx := hwv x (by rw [hd]; simp)
          obtain ⟨vn, ⟨tn, tl, tm⟩, vh, vd⟩ := x
          have hwvd : wfV vd := hwx.2.2
          have hvp := bV_pos vd
          have hbx : bW ⟨vn, ⟨tn, tl, tm⟩, vh, vd⟩ = vn.length + tn.length + bV vd := rfl
          rw [cW_mk] at hg
          simp only at hg
          simp (disch := first | omega | assumption) only [cV_len, cV_take, cV_splice, cM_len, cM_take, cM_splice, cM_mk, hcw, hlt, hg, go_sem, ↓reduceIte]
          refine goA_intro fun b hb => ?_
          have hbw : b ≠ w := fun e => by subst e; rw [w5.here.cell] at hb; cases hb
          have w6 := w5.alloc (x := .cells (.str vn :: .str tn :: .int .i64 tl :: .int .i64 tm :: .bool vh :: cV vd)) hb
          have hbc : (H5.upd b (.cells (.str vn :: .str tn :: .int .i64 tl :: .int .i64 tm :: .bool vh :: cV vd))) b = some (.cells (.str vn :: .str tn :: .int .i64 tl :: .int .i64 tm :: .bool vh :: cV vd)) := upd_same ..
          simp (disch := first | omega | assumption) only [cV_len, cV_take, cV_splice, cM_len, cM_take, cM_splice, cM_mk, go_sem, ↓reduceIte]
          refine goK_W (markC [36] _) w6 (by omega) (by omega) (by omega) fun o7 l7 H7 w7 s7 => ?_
          have hb7 := s7.box w6.here.own hbc hbw
          simp (disch := first | omega | assumption) only [cV_len, cV_take, cV_splice, cM_len, cM_take, cM_splice, cM_mk, hb7, go_sem, ↓reduceIte]
          refine goK_W (nameWC vn (by simp only [Lim]; omega)) w7 (by omega) (by omega) (by omega) fun o8 l8 H8 w8 s8 => ?_
          have hb8 := s8.box w7.here.own hb7 hbw
          simp (disch := first | omega | assumption) only [cV_len, cV_take, cV_splice, cM_len, cM_take, cM_splice, cM_mk, hb8, go_sem, ↓reduceIte]
          refine goK_W (markC [58] _) w8 (by omega) (by omega) (by omega) fun o9 l9 H9 w9 s9 => ?_
          have hb9 := s9.box w8.here.own hb8 hbw
          simp (disch := first | omega | assumption) only [cV_len, cV_take, cV_splice, cM_len, cM_take, cM_splice, cM_mk, hb9, go_sem, ↓reduceIte]
          refine goK_W (args := [.agg [.str tn, .int .i64 tl, .int .i64 tm]]) (show WC _ [.agg [.str tn, .int .i64 tl, .int .i64 tm]] 20 (-1000) 1000 (fun _ => rightTy ⟨tn, tl, tm⟩) (tTy ⟨tn, tl, tm⟩) from typeWC ⟨tn, tl, tm⟩ (by simp only [Lim]; omega)) w9 (by omega) (by omega) (by omega) fun oC lC HC wC sC => ?_
          have hbC := sC.box w9.here.own hb9 hbw
          simp (disch := first | omega | assumption) only [cV_len, cV_take, cV_splice, cM_len, cM_take, cM_splice, cM_mk, hbC, go_sem, ↓reduceIte]
          refine goK_W (defaultWC vh vd hwvd (by simp only [Lim]; omega)) wC (by omega) (by omega) (by omega) fun oD lD HD wD sD => ?_
          simp (disch := first | omega | assumption) only [wrap64, go_sem, ↓reduceIte]
          exact goJ (hJ5 (oD, lD) HD (wD.cast (by rw [bWs_snoc]; omega) (by simp [rightWd, Bool.and_assoc]) (by simp [tW]))) (by simp (disch := first | omega | assumption) only [go_sem, ↓reduceIte])
    case neg =>
      simp (disch := first | omega | assumption) only [hnm, go_sem, ↓reduceIte]
      refine goK_W (nameWC nm (by simp only [Lim]; omega)) w2 (by omega) (by omega) (by omega) fun o3 l3 H3 w3' _ => ?_
      have w3 := (w3'.castC (B' := 2) (r' := R3) (tk' := T3) (by omega) (by rw [hR3]; simp [hk0, hk1, hnm, nq, nmu]) (fun e => by first | (rw [hT3]; simp [hk0, hk1, hnm]; done) | (exfalso; revert e; rw [hR3]; simp [hk0, hk1])))
      by_cases hv0 : vars.length = 0
      case pos =>
        have hv1 : ¬ ((0 : Int) < (vars.length : Int)) := by omega
        have hev := List.length_eq_zero_iff.1 hv0
        simp (disch := first | omega | assumption) only [hnm, hcw, hv1, go_sem, ↓reduceIte]
        refine goK_W (dirsWC true dirs hwd (by simp only [Lim]; omega)) w3 (by omega) (by omega) (by omega) fun oA lA HA wA _ => ?_
        simp (disch := first | omega | assumption) only [go_sem, ↓reduceIte]
        refine goK_W (blockWC (listWC (bSs sels)) sels (Nat.le_refl _) hws (by simp only [Lim]; omega)) wA (by omega) (by omega) (by omega) fun oB lB HB wB _ => ?_
        simp (disch := first | omega | assumption) only [go_sem, ↓reduceIte]
        exact hQ _ _ HB HB [] nofun rfl (Low.refl _) ⟨rfl, wB.fin (by show _ = rightOd dp _; rw [er]; simp [hev, Bool.and_assoc]) (fun e => by rw [et (by have e : rightOd dp _ = true := e; rw [er] at e; simp only [Bool.and_eq_true] at e; exact e.1)]; simp [tWs, hv0]) (by simp only [bO]; omega)⟩
      case neg =>
        have hev := hv0
        have hv1 : ((0 : Int) < (vars.length : Int)) = True := eq_true (by omega)
        simp (disch := first | omega | assumption) only [hnm, hcw, hv1, go_sem, ↓reduceIte]
        refine goK_W (markC [40] _) w3 (by omega) (by omega) (by omega) fun o4 l4 H4 w4 _ => ?_
        simp (disch := first | omega | assumption) only [hcw, go_sem, ↓reduceIte]
        refine goL_range vars 35 (fun x : Own × List Tok => []) (fun done rest x H' => WR H o w l ok dp (3 + 32 * bWs done) (R3 && done.all (rightWd dp)) (T3 ++ (pk [40] :: done.flatMap tW)) H' x.1 x.2) (o4, l4) (by simp (disch := first | omega | assumption) only [go_sem, ↓reduceIte]) (w4.cast (by omega) (by simp) (by simp)) ?_ ?_
        case refine_1 =>
          rintro ⟨o5, l5⟩ H5 J5 w5 hlt
          simp only at w5
          simp (disch := first | omega | assumption) only [hcw, hlt, go_sem, ↓reduceIte]
          refine goK_W (markC [41] _) w5 (by omega) (by omega) (by omega) fun o6 l6 H6 w6 _ => ?_
          simp (disch := first | omega | assumption) only [go_sem, ↓reduceIte]
          refine goK_W (dirsWC true dirs hwd (by simp only [Lim]; omega)) w6 (by omega) (by omega) (by omega) fun oA lA HA wA _ => ?_
          simp (disch := first | omega | assumption) only [go_sem, ↓reduceIte]
          refine goK_W (blockWC (listWC (bSs sels)) sels (Nat.le_refl _) hws (by simp only [Lim]; omega)) wA (by omega) (by omega) (by omega) fun oB lB HB wB _ => ?_
          simp (disch := first | omega | assumption) only [go_sem, ↓reduceIte]
          exact hQ _ _ HB HB [] nofun rfl (Low.refl _) ⟨rfl, wB.fin (by show _ = rightOd dp _; rw [er]; simp [hev, Bool.and_assoc]) (fun e => by rw [et (by have e : rightOd dp _ = true := e; rw [er] at e; simp only [Bool.and_eq_true] at e; exact e.1)]; simp [tWs, hv0]) (by simp only [bO]; omega)⟩
        case refine_2 =>
          rintro done x rest ⟨o5, l5⟩ H5 J5 hd hlt hlt2 w5 hJ5
          simp only at w5
          have hg := cWs_get hd
          have hbm := bWs_mid done x rest
          rw [← hd] at hbm
          have hwx := hwv x (by rw [hd]; simp)
          obtain ⟨vn, ⟨tn, tl, tm⟩, vh, vd⟩ := x
          have hwvd : wfV vd := hwx.2.2
          have hvp := bV_pos vd
          have hbx : bW ⟨vn, ⟨tn, tl, tm⟩, vh, vd⟩ = vn.length + tn.length + bV vd := rfl
          rw [cW_mk] at hg
          simp only at hg
          simp (disch := first | omega | assumption) only [cV_len, cV_take, cV_splice, cM_len, cM_take, cM_splice, cM_mk, hcw, hlt, hg, go_sem, ↓reduceIte]
          refine goA_intro fun b hb => ?_
          have hbw : b ≠ w := fun e => by subst e; rw [w5.here.cell] at hb; cases hb
          have w6 := w5.alloc (x := .cells (.str vn :: .str tn :: .int .i64 tl :: .int .i64 tm :: .bool vh :: cV vd)) hb
          have hbc : (H5.upd b (.cells (.str vn :: .str tn :: .int .i64 tl :: .int .i64 tm :: .bool vh :: cV vd))) b = some (.cells (.str vn :: .str tn :: .int .i64 tl :: .int .i64 tm :: .bool vh :: cV vd)) := upd_same ..
          simp (disch := first | omega | assumption) only [cV_len, cV_take, cV_splice, cM_len, cM_take, cM_splice, cM_mk, go_sem, ↓reduceIte]
          refine goK_W (markC [36] _) w6 (by omega) (by omega) (by omega) fun o7 l7 H7 w7 s7 => ?_
          have hb7 := s7.box w6.here.own hbc hbw
          simp (disch := first | omega | assumption) only [cV_len, cV_take, cV_splice, cM_len, cM_take, cM_splice, cM_mk, hb7, go_sem, ↓reduceIte]
          refine goK_W (nameWC vn (by simp only [Lim]; omega)) w7 (by omega) (by omega) (by omega) fun o8 l8 H8 w8 s8 => ?_
          have hb8 := s8.box w7.here.own hb7 hbw
          simp (disch := first | omega | assumption) only [cV_len, cV_take, cV_splice, cM_len, cM_take, cM_splice, cM_mk, hb8, go_sem, ↓reduceIte]
          refine goK_W (markC [58] _) w8 (by omega) (by omega) (by omega) fun o9 l9 H9 w9 s9 => ?_
          have hb9 := s9.box w8.here.own hb8 hbw
          simp (disch := first | omega | assumption) only [cV_len, cV_take, cV_splice, cM_len, cM_take, cM_splice, cM_mk, hb9, go_sem, ↓reduceIte]
          refine goK_W (args := [.agg [.str tn, .int .i64 tl, .int .i64 tm]]) (show WC _ [.agg [.str tn, .int .i64 tl, .int .i64 tm]] 20 (-1000) 1000 (fun _ => rightTy ⟨tn, tl, tm⟩) (tTy ⟨tn, tl, tm⟩) from typeWC ⟨tn, tl, tm⟩ (by simp only [Lim]; omega)) w9 (by omega) (by omega) (by omega) fun oC lC HC wC sC => ?_
          have hbC := sC.box w9.here.own hb9 hbw
          simp (disch := first | omega | assumption) only [cV_len, cV_take, cV_splice, cM_len, cM_take, cM_splice, cM_mk, hbC, go_sem, ↓reduceIte]
          refine goK_W (defaultWC vh vd hwvd (by simp only [Lim]; omega)) wC (by omega) (by omega) (by omega) fun oD lD HD wD sD => ?_
          simp (disch := first | omega | assumption) only [wrap64, go_sem, ↓reduceIte]
          exact goJ (hJ5 (oD, lD) HD (wD.cast (by rw [bWs_snoc]; omega) (by simp [rightWd, Bool.and_assoc]) (by simp [tW]))) (by simp (disch := first | omega | assumption) only [go_sem, ↓reduceIte])
end Go.Proofs.YticbbfbpeimkbaaGreatDoor
namespace Go.Proofs.YticbbfbpeimkbaaGreatDoor
open Go.Ab
theorem rightOd_0 (x : OpD) : rightOd 0 x = rightO x := rfl
theorem bOs_snoc' (l : List OpD) (o : OpD) : bOs (l ++ [o]) = bOs l + bO o := by simp [bOs]
theorem bFs_snoc' (l : List FragD) (o : FragD) : bFs (l ++ [o]) = bFs l + bF o := by simp [bFs]
noncomputable def docToks (d : DocD) : List Tok := if rightDoc d then tDoc d else []
theorem tokensPC (d : DocD) (hw : wfDoc d) (hb : 64 * bDoc d + 64 ≤ Lim) : Pure Tryz.prog 27 [.agg (cDoc d)] (.tup [.sl .no 2 (cKs (docToks d)), .bool (rightDoc d)]) := by
  refine Pure.go ir27 ck27 (Nat.le_refl _) fun KP Q hQ => ?_
  obtain ⟨ops, frags⟩ := d
  obtain ⟨hwo, hwf⟩ := hw
  have hlo := bOs_len ops
  have hlf := bFs_len frags
  have hco := cOs_len ops
  have hcf := cFs_len frags
  have hb' := hb
  simp only [bDoc, Lim] at hb'
  have ed : cDoc ⟨ops, frags⟩ = [.sl .no 5 (cOs ops), .sl .no 4 (cFs frags)] := rfl
  obtain ⟨n, hn⟩ : ∃ n, n = decide (0 < ops.length + frags.length) := ⟨_, rfl⟩
  simp (disch := first | omega | assumption) only [ir27, ed, go_sem, ↓reduceIte]
  refine goK_ret newW fun v H1 ⟨w, hv, hW⟩ => ?_
  subst hv
  have w0 := WR.refl hW
  have wl : IntKind.wrap .i64 ((ops.length : Int) + (frags.length : Int)) = ((ops.length + frags.length : Nat) : Int) := by rw [wrap64 (by omega) (by omega)]; omega
  by_cases hn0 : 0 < ops.length + frags.length
  case' pos =>
    have hn1 : ((0 : Int) < ((ops.length + frags.length : Nat) : Int)) = True := eq_true (by omega)
    have hnv : n = true := by rw [hn]; exact decide_eq_true hn0
    simp (disch := first | omega | assumption) only [hco, hcf, wl, hn1, go_sem, ↓reduceIte]
  case' neg =>
    have hn1 : ¬ ((0 : Int) < ((ops.length + frags.length : Nat) : Int)) := by omega
    have hnv : n = false := by rw [hn]; exact decide_eq_false hn0
    simp (disch := first | omega | assumption) only [hco, hcf, wl, hn1, go_sem, ↓reduceIte]
  all_goals
    refine goK_W (needC _) w0 (by omega) (by omega) (by simp only [Lim, List.length_nil]; omega) fun o2 l2 H2 w2 _ => ?_
    simp (disch := first | omega | assumption) only [hco, go_sem, ↓reduceIte]
    refine goL_range ops 23 (fun x : Own × List Tok => []) (fun done rest x H' => WR H1 .nil w [] true 0 (64 * bOs done) (n && done.all rightO) (done.flatMap tO) H' x.1 x.2) (o2, l2) (by simp (disch := first | omega | assumption) only [go_sem, ↓reduceIte]) (w2.cast (by simp) (by simp [hnv]) (by simp)) ?_ ?_
    · rintro ⟨o3, l3⟩ H3 J3 w3 hlt
      simp only at w3
      simp (disch := first | omega | assumption) only [hco, hlt, hcf, go_sem, ↓reduceIte]
      refine goL_range frags 34 (fun x : Own × List Tok => []) (fun done rest x H' => WR H1 .nil w [] true 0 (64 * bOs ops + 32 * bFs done) (n && (ops.all rightO && done.all rightF)) (ops.flatMap tO ++ done.flatMap tF) H' x.1 x.2) (o3, l3) (by simp (disch := first | omega | assumption) only [go_sem, ↓reduceIte]) (w3.cast (by simp [bFs]) (by simp) (by simp)) ?_ ?_
      · rintro ⟨o4, l4⟩ H4 J4 w4 hlt4
        simp only at w4
        have er : rightDoc ⟨ops, frags⟩ = (n && (ops.all rightO && frags.all rightF)) := by rw [hn]; rfl
        have hc4 := w4.here.cell
        have e4 := w4.eq
        rw [← er, Bool.true_and] at hc4 e4
        cases hr : rightDoc ⟨ops, frags⟩ with
        | false =>
          rw [hr] at hc4 hQ
          simp (disch := first | omega | assumption) only [hcf, hlt4, hc4, go_sem, ↓reduceIte]
          exact hQ _ _ _ _ nofun rfl (by simp [tupOf, envOf, AV.strip, AV.strip1, docToks, hr, cKs])
        | true =>
          rw [hr] at hc4 hQ
          have e5 := e4 hr
          rw [List.nil_append] at e5
          subst e5
          simp (disch := first | omega | assumption) only [hcf, hlt4, hc4, go_sem, ↓reduceIte]
          exact hQ _ _ _ _ nofun rfl (by simp [tupOf, envOf, AV.strip, AV.strip1, docToks, hr, tDoc])
      · rintro done x rest ⟨o4, l4⟩ H4 J4 hd hlt4 hlt5 w4 hJ4
        simp only at w4
        have hg := cFs_get hd
        have hbm := bFs_mid done x rest
        rw [← hd] at hbm
        have hwx := hwf x (by rw [hd]; simp)
        have hbx : 32 * bF x ≤ Lim := by simp only [Lim]; omega
        have hfw := fragWC x hwx hbx
        obtain ⟨nm, on, dirs, sels⟩ := x
        have ef : cF ⟨nm, on, dirs, sels⟩ = [.str nm, .str on, .sl .no 2 (cDs dirs), .sl .no 7 (cSs sels)] := rfl
        rw [ef] at hg hfw
        simp (disch := first | omega | assumption) only [hcf, hlt4, hg, go_sem, ↓reduceIte]
        refine goA_intro fun b hb => ?_
        have w5 := w4.alloc (x := .cells [.str nm, .str on, .sl .no 2 (cDs dirs), .sl .no 7 (cSs sels)]) hb
        simp (disch := first | omega | assumption) only [go_sem, ↓reduceIte]
        refine goK_W hfw w5 (by omega) (by omega) (by simp only [Lim, List.length_nil]; omega) fun o6 l6 H6 w6 _ => ?_
        simp (disch := first | omega | assumption) only [wrap64, go_sem, ↓reduceIte]
        exact goJ (hJ4 (o6, l6) H6 (w6.cast (by rw [bFs_snoc']; omega) (by simp [rightF, Bool.and_assoc]) (by simp))) (by simp (disch := first | omega | assumption) only [go_sem, ↓reduceIte])
    · rintro done x rest ⟨o4, l4⟩ H4 J4 hd hlt4 hlt5 w4 hJ4
      simp only at w4
      have hg := cOs_get hd
      have hbm := bOs_mid done x rest
      rw [← hd] at hbm
      have hwx := hwo x (by rw [hd]; simp)
      have hbx : 64 * bO x ≤ Lim := by simp only [Lim]; omega
      have hfw := opWC x hwx hbx
      have hrO := rightOd_0 x
      obtain ⟨k, nm, vars, dirs, sels⟩ := x
      have ef : cO ⟨k, nm, vars, dirs, sels⟩ = [.int .i64 k, .str nm, .sl .no 10 (cWs vars), .sl .no 2 (cDs dirs), .sl .no 7 (cSs sels)] := rfl
      rw [ef] at hg hfw
      simp (disch := first | omega | assumption) only [hco, hlt4, hg, go_sem, ↓reduceIte]
      refine goA_intro fun b hb => ?_
      have w5 := w4.alloc (x := .cells [.int .i64 k, .str nm, .sl .no 10 (cWs vars), .sl .no 2 (cDs dirs), .sl .no 7 (cSs sels)]) hb
      simp (disch := first | omega | assumption) only [go_sem, ↓reduceIte]
      refine goK_W hfw w5 (by omega) (by omega) (by simp only [Lim, List.length_nil]; omega) fun o6 l6 H6 w6 _ => ?_
      simp (disch := first | omega | assumption) only [wrap64, go_sem, ↓reduceIte]
      exact goJ (hJ4 (o6, l6) H6 (w6.cast (by rw [bOs_snoc']; omega) (by rw [hrO]; simp [Bool.and_assoc]) (by simp))) (by simp (disch := first | omega | assumption) only [go_sem, ↓reduceIte])
theorem rightPC (d : DocD) (hw : wfDoc d) (hb : 64 * bDoc d + 64 ≤ Lim) : Pure Tryz.prog 30 [.agg (cDoc d)] (.bool (rightDoc d)) := by
  refine Pure.go ir30 ck30 (Nat.le_refl _) fun KP Q hQ => ?_
  have ed : cDoc d = [.sl .no 5 (cOs d.ops), .sl .no 4 (cFs d.frags)] := rfl
  have hT := tokensPC d hw hb
  rw [ed] at hT ⊢
  simp (disch := first | omega | assumption) only [ir30, go_sem, ↓reduceIte]
  refine goK_pure hT ?_
  simp (disch := first | omega | assumption) only [go_sem, ↓reduceIte]
  exact hQ _ _ _ _ nofun rfl (by simp [tupOf, envOf, AV.strip, AV.strip1])
noncomputable def docText (d : DocD) : List UInt8 × Bool := if rightDoc d && ((tprint (tDoc d)).2 && decide ((tprint (tDoc d)).1.length ≤ 8192)) then ((tprint (tDoc d)).1, true) else ([], false)
theorem wT_app (a b : List Tok) : wT (a ++ b) = wT a + wT b := by simp [wT]
theorem wT_pk (s : List UInt8) : wK (pk s) = s.length + 4 := rfl
theorem wT_wk (s : List UInt8) : wK (wk s) = s.length + 4 := rfl
theorem wT_nil : wT [] = 0 := rfl
mutual
theorem wV_le : ∀ v, wfV v → wT (tokV v) + 16 ≤ 64 * bV v
  | .mk k n s l m, ⟨hn, hl, hm⟩ => by
    have h1 := wVs_le l hl
    have h2 := wMs_le m hm
    have h3 : (Lib.itoa n).length ≤ 21 := by
      have e : ∀ u : Nat, u < 18446744073709551616 → (Lib.decDigits u).length ≤ 20 := fun u hu => by
        rw [Lib.decDigits_length]; exact Lib.nDigits_le20 u hu
      unfold Lib.itoa; split
      · have := e n.natAbs (by have := hn.1; omega)
        simp; omega
      · have := e n.toNat (by have := hn.2; omega)
        omega
    have h4 : (boolT (decide (n = 1))).length ≤ 5 := by unfold boolT; split <;> simp
    simp only [tokV, bV]
    repeat' split
    all_goals simp only [wT_cons, wT_app, wT_nil, wK, List.length_cons, List.length_nil]
    all_goals omega
theorem wVs_le : ∀ l, wfVs l → wT (tokVs l) ≤ 64 * bVs l
  | [], _ => by simp [tokVs, wT]
  | v :: r, ⟨h, hr⟩ => by
    have h1 := wV_le v h
    have h2 := wVs_le r hr
    simp only [tokVs, bVs, wT_app]; omega
theorem wM_le : ∀ x, wfM x → wT (tokM x) ≤ 64 * bM x
  | .mk s v, h => by
    have h1 := wV_le v h
    simp only [tokM, bM, wT_cons, wK, List.length_cons, List.length_nil]; omega
theorem wMs_le : ∀ l, wfMs l → wT (tokMs l) ≤ 64 * bMs l
  | [], _ => by simp [tokMs, wT]
  | v :: r, ⟨h, hr⟩ => by
    have h1 := wM_le v h
    have h2 := wMs_le r hr
    simp only [tokMs, bMs, wT_app]; omega
end
theorem wArgs_le (l : List Mem) (h : wfMs l) : wT (tArgs l) ≤ 74 * bMs l := by
  have h1 := wMs_le l h
  have h2 := bMs_len l
  unfold tArgs
  split
  · simp [wT]
  · simp only [wT_cons, wT_app, wT_nil, wT_pk, List.length_cons, List.length_nil]; omega
theorem wflat_le {α : Type} {f : α → List Tok} {g : α → Nat} {c : Nat} : ∀ l : List α, (∀ x ∈ l, wT (f x) ≤ c * g x) → wT (l.flatMap f) ≤ c * (l.map g).sum
  | [], _ => by simp [wT]
  | x :: r, h => by
    have h1 := h x (by simp)
    have h2 := wflat_le r fun y hy => h y (by simp [hy])
    simp only [List.flatMap_cons, wT_app, List.map_cons, List.sum_cons, Nat.mul_add]; omega
theorem wD_le (d : DirD) (h : wfD d) : wT (tD d) ≤ 80 * bD d := by
  have h1 := wArgs_le d.args h
  simp only [tD, bD, wT_cons, wT_pk, wT_wk, List.length_cons, List.length_nil]; omega
theorem wDs_le (l : List DirD) (h : wfDs l) : wT (tDs l) ≤ 80 * bDs l := wflat_le l fun x hx => wD_le x (h x hx)
mutual
theorem wS_le : ∀ x, wfS x → wT (tS x) ≤ 80 * bS x
  | .mk k al nm args dirs on sels, ⟨h1, h2, h3⟩ => by
    have g1 := wArgs_le args h1
    have g2 := wDs_le dirs h2
    have g3 := wSl_le sels h3
    simp only [tS, bS, wT_app]
    have g4 : wT (if sels.length = 0 then [] else pk [123] :: (tSl sels ++ [pk [125]])) ≤ 10 + wT (tSl sels) := by
      split
      · simp [wT]
      · simp only [wT_cons, wT_app, wT_nil, wT_pk, List.length_cons, List.length_nil]; omega
    have g5 : wT (if k = 0 then (if al = [] then [] else [wk al, pk [58]]) ++ (wk nm :: tArgs args) else if k = 1 then [pk [46, 46, 46], wk nm] else pk [46, 46, 46] :: (if on = [] then [] else [wk [111, 110], wk on])) ≤ 24 + al.length + nm.length + on.length + wT (tArgs args) := by
      repeat' split
      all_goals simp only [wT_cons, wT_app, wT_nil, wT_pk, wT_wk, List.length_cons, List.length_nil]
      all_goals omega
    omega
theorem wSl_le : ∀ l, wfSs l → wT (tSl l) ≤ 80 * bSs l
  | [], _ => by simp [tSl, wT]
  | x :: r, ⟨h, hr⟩ => by
    have h1 := wS_le x h
    have h2 := wSl_le r hr
    simp only [tSl, bSs, wT_app]; omega
end
theorem wTyRest (n : Nat) (m : Int) : ∀ j, wT (tyRest n m j) ≤ 10 * j
  | 0 => by simp [tyRest, wT]
  | j + 1 => by
    have h := wTyRest n m j
    have h2 : wT (tyPc n m j) ≤ 10 := by
      unfold tyPc
      repeat' split
      all_goals simp [wT, wT_pk]
    simp only [tyRest, wT_app]; omega
theorem wTy_le (t : TyD) (h : rightTy t = true) : wT (tTy t) ≤ 80 + t.nm.length := by
  simp only [rightTy, Bool.and_eq_true, decide_eq_true_eq] at h
  obtain ⟨_, h1, h2, _, _⟩ := h
  have h3 := wTyRest t.lists.toNat t.musts (t.lists.toNat + 1)
  have h4 : ∀ n, wT (List.replicate n (pk [91])) = 5 * n := fun n => by
    induction n with
    | zero => rfl
    | succ n ih => rw [List.replicate_succ, wT_cons, ih, wT_pk]; simp; omega
  simp only [tTy, wT_app, wT_cons, wT_wk, h4, tyTl_rest]
  omega
theorem wW_le (x : VarD) (hr : rightW x = true) (hw : wfW x) : wT (tW x) ≤ 240 * bW x := by
  simp only [rightW, Bool.and_eq_true] at hr
  have h1 := wTy_le x.t hr.2.1
  have h2 := wV_le x.d hw.2.2
  have h3 := bV_pos x.d
  have h4 : wT (tDf x.has x.d) ≤ 5 + wT (tokV x.d) := by
    unfold tDf
    split
    · simp only [wT_cons, wT_pk, List.length_cons, List.length_nil]; omega
    · simp [wT]
  simp only [tW, bW, wT_cons, wT_app, wT_pk, wT_wk, List.length_cons, List.length_nil]
  omega
theorem wBl_le (l : List SelD) (h : wfSs l) : wT (tBl l) ≤ 80 * bSs l + 10 := by
  have := wSl_le l h
  simp only [tBl, wT_cons, wT_app, wT_nil, wT_pk, List.length_cons, List.length_nil]; omega
theorem wO_le (x : OpD) (hr : rightO x = true) (hw : wfO x) : wT (tO x) ≤ 256 * bO x := by
  obtain ⟨h1, h2, h3⟩ := hw
  simp only [rightO, Bool.and_eq_true] at hr
  have g1 : wT (x.vars.flatMap tW) ≤ 240 * bWs x.vars := wflat_le _ fun y hy => wW_le y (List.all_eq_true.1 hr.2.2.1 y hy) (h1 y hy)
  have g2 := wDs_le x.dirs h2
  have g3 := wBl_le x.sels h3
  have g4 : wT (tWs x.vars) ≤ 240 * bWs x.vars + 10 := by
    unfold tWs
    split
    · simp [wT]
    · simp only [wT_cons, wT_app, wT_nil, wT_pk, List.length_cons, List.length_nil]; omega
  have g5 : wT (if x.nm = [] then [] else [wk x.nm]) ≤ x.nm.length + 4 := by
    split
    · simp [wT]
    · simp only [wT_cons, wT_nil, wT_wk]; omega
  have g6 : wK (wk (if x.k = 0 then [113, 117, 101, 114, 121] else [109, 117, 116, 97, 116, 105, 111, 110])) ≤ 12 := by rw [wT_wk]; split <;> simp
  simp only [tO, bO, wT_cons, wT_app]
  omega
theorem wF_le (x : FragD) (hw : wfF x) : wT (tF x) ≤ 256 * bF x := by
  have g2 := wDs_le x.dirs hw.1
  have g3 := wBl_le x.sels hw.2
  simp only [tF, bF, wT_cons, wT_app, wT_wk, List.length_cons, List.length_nil]
  omega
theorem wDoc_le (d : DocD) (hr : rightDoc d = true) (hw : wfDoc d) : wT (tDoc d) ≤ 256 * bDoc d := by
  simp only [rightDoc, Bool.and_eq_true] at hr
  have g1 : wT (d.ops.flatMap tO) ≤ 256 * bOs d.ops := wflat_le _ fun y hy => wO_le y (List.all_eq_true.1 hr.2.1 y hy) (hw.1 y hy)
  have g2 : wT (d.frags.flatMap tF) ≤ 256 * bFs d.frags := wflat_le _ fun y hy => wF_le y (hw.2 y hy)
  simp only [tDoc, bDoc, wT_app]
  omega
theorem wDocT_le (d : DocD) (hw : wfDoc d) : wT (docToks d) ≤ 256 * bDoc d := by
  unfold docToks
  split
  · rename_i h; exact wDoc_le d h hw
  · simp [wT]
theorem textPC (d : DocD) (hw : wfDoc d) (hb : 16384 * bDoc d + 64 ≤ Lim) : Pure Tryz.prog 32 [.agg (cDoc d)] (.tup [.str (docText d).1, .bool (docText d).2]) := by
  refine Pure.go ir32 ck32 (Nat.le_refl _) fun KP Q hQ => ?_
  have ed : cDoc d = [.sl .no 5 (cOs d.ops), .sl .no 4 (cFs d.frags)] := rfl
  have hT := tokensPC d hw (by simp only [Lim] at hb ⊢; omega)
  have hwt := wDocT_le d hw
  have hp := printTC (docToks d) (by simp only [Lim] at hb ⊢; omega)
  rw [ed] at hT ⊢
  simp (disch := first | omega | assumption) only [ir32, go_sem, ↓reduceIte]
  refine goK_pure hT ?_
  simp (disch := first | omega | assumption) only [go_sem, ↓reduceIte]
  refine goK_pure hp ?_
  cases hr : rightDoc d with
  | false =>
    simp (disch := first | omega | assumption) only [go_sem, ↓reduceIte]
    exact hQ _ _ _ _ nofun rfl (by simp [tupOf, envOf, AV.strip, AV.strip1, docText, hr])
  | true =>
    have e : docToks d = tDoc d := by unfold docToks; rw [if_pos hr]
    rw [e]
    cases h2 : (tprint (tDoc d)).2 with
    | false =>
      simp (disch := first | omega | assumption) only [go_sem, ↓reduceIte]
      exact hQ _ _ _ _ nofun rfl (by simp [tupOf, envOf, AV.strip, AV.strip1, docText, hr, h2])
    | true =>
      by_cases hl : (tprint (tDoc d)).1.length ≤ 8192
      · have hl' : ¬ ((8192 : Int) < ((tprint (tDoc d)).1.length : Int)) := by omega
        simp (disch := first | omega | assumption) only [hl', go_sem, ↓reduceIte]
        exact hQ _ _ _ _ nofun rfl (by simp [tupOf, envOf, AV.strip, AV.strip1, docText, hr, h2, hl])
      · have hl' : ((8192 : Int) < ((tprint (tDoc d)).1.length : Int)) = True := eq_true (by omega)
        simp (disch := first | omega | assumption) only [hl', go_sem, ↓reduceIte]
        exact hQ _ _ _ _ nofun rfl (by simp [tupOf, envOf, AV.strip, AV.strip1, docText, hr, h2, hl])
end Go.Proofs.YticbbfbpeimkbaaGreatDoor
namespace Go.Proofs.YticbbfbpeimkbaaGreatDoor
open Go.Ab
def dAwake : DocD := ⟨[⟨0, [], [], [], [.mk 0 [] [97] [] [] [] [], .mk 0 [98] [99] [] [] [] []]⟩], []⟩
def dNone : DocD := ⟨[], []⟩
theorem nameM_a : nameM [97] = true := by decide
theorem nameM_b : nameM [98] = true := by decide
theorem nameM_c : nameM [99] = true := by decide
theorem right_awake : rightDoc dAwake = true := by
  simp [rightDoc, dAwake, rightO, rightDs, rightSs, rightSl, rightS, rightMs, nameM_a, nameM_b, nameM_c]
theorem right_none : rightDoc dNone = false := by
  simp [rightDoc, dNone]
theorem toks_awake : tDoc dAwake = [wk [113, 117, 101, 114, 121], pk [123], wk [97], wk [98], pk [58], wk [99], pk [125]] := by simp [tDoc, dAwake, tO, tWs, tDs, tBl, tSl, tS, tArgs]
theorem text_awake : tprint [wk [113, 117, 101, 114, 121], pk [123], wk [97], wk [98], pk [58], wk [99], pk [125]] = ([113, 117, 101, 114, 121, 32, 123, 32, 97, 32, 98, 32, 58, 32, 99, 32, 125], true) := by decide
theorem docText_awake : docText dAwake = ([113, 117, 101, 114, 121, 32, 123, 32, 97, 32, 98, 32, 58, 32, 99, 32, 125], true) := by
  unfold docText
  rw [right_awake, toks_awake, text_awake]
  rfl
theorem wfDs_nil : wfDs [] := fun y hy => nomatch hy
theorem wf_awake : wfDoc dAwake := by
  refine ⟨fun x hx => ?_, fun x hx => (nomatch hx)⟩
  simp only [dAwake, List.mem_singleton] at hx
  subst hx
  exact ⟨fun y hy => (nomatch hy), wfDs_nil, ⟨trivial, wfDs_nil, trivial⟩, ⟨trivial, wfDs_nil, trivial⟩, trivial⟩
theorem wf_none : wfDoc dNone := ⟨fun x hx => (nomatch hx), fun x hx => (nomatch hx)⟩
theorem bAwake : bDoc dAwake ≤ 1000 := by decide
theorem cAwake : cDoc dAwake = [.sl .no 5 [[.int .i64 0, .str [], .sl .no 10 [], .sl .no 2 [], .sl .no 7 [[.int .i64 0, .str [], .str [97], .sl .no 6 [], .sl .no 2 [], .str [], .sl .no 7 []], [.int .i64 0, .str [98], .str [99], .sl .no 6 [], .sl .no 2 [], .str [], .sl .no 7 []]]]], .sl .no 4 []] := by rfl
theorem cNone : cDoc dNone = [.sl .no 5 [], .sl .no 4 []] := by rfl
theorem awake7C : Pure Tryz.prog 25 [] (.bool true) := by
  refine Pure.go ir25 ck25 (Nat.le_refl _) fun KP Q hQ => ?_
  have hT := textPC dAwake wf_awake (by have := bAwake; simp only [Lim]; omega)
  have hR := rightPC dAwake wf_awake (by have := bAwake; simp only [Lim]; omega)
  have hN := rightPC dNone wf_none (by decide)
  rw [docText_awake, cAwake] at hT
  rw [right_awake, cAwake] at hR
  rw [right_none, cNone] at hN
  simp (disch := first | omega | assumption) only [ir25, go_sem, ↓reduceIte]
  refine goA_intro fun b hb => ?_
  simp (disch := first | omega | assumption) only [go_sem, ↓reduceIte]
  refine goK_pure (Pure.low hT) ?_
  simp (disch := first | omega | assumption) only [go_sem, ↓reduceIte]
  refine goK_pure (Pure.low hR) ?_
  simp (disch := first | omega | assumption) only [go_sem, ↓reduceIte]
  refine goK_pure (Pure.low hN) ?_
  simp (disch := first | omega | assumption) only [go_sem, ↓reduceIte]
  exact hQ _ _ _ _ nofun rfl (by simp [tupOf, envOf, AV.strip, AV.strip1])
end Go.Proofs.YticbbfbpeimkbaaGreatDoor
namespace Go.Proofs.YticbbfbpeimkbaaGreatDoor
open Go.Ab
end Go.Proofs.YticbbfbpeimkbaaGreatDoor
namespace Go.Proofs.YticbbfbpeimkbaaGreatDoor
open Go.Ab
end Go.Proofs.YticbbfbpeimkbaaGreatDoor
namespace Go.Proofs.YticbbfbpeimkbaaGreatDoor
open Go.Ab
end Go.Proofs.YticbbfbpeimkbaaGreatDoor
namespace Go.Proofs.YticbbfbpeimkbaaGreatDoor
open Go.Ab
end Go.Proofs.YticbbfbpeimkbaaGreatDoor
namespace Go.Proofs.YticbbfbpeimkbaaGreatDoor
open Go.Ab
end Go.Proofs.YticbbfbpeimkbaaGreatDoor
namespace Go.Proofs.YticbbfbpeimkbaaGreatDoor
open Go.Ab
end Go.Proofs.YticbbfbpeimkbaaGreatDoor
namespace Go.Proofs.YticbbfbpeimkbaaGreatDoor
open Go.Ab
structure VAt (H : Heap) (w : Nat) (o : Own) (l : List Tok) : Prop where
  cell : H w = some (.cells [.sl o 2 (cKs l)])
  own : Owned H o l.length 2
structure VR (H0 : Heap) (o0 : Own) (w : Nat) (l0 tk : List Tok) (H : Heap) (o : Own) : Prop where
  here : VAt H w o (l0 ++ tk)
  st : WStep H0 o0 w H o
theorem VR.refl {H : Heap} {o : Own} {w : Nat} {l : List Tok} (h : VAt H w o l) : VR H o w l [] H o := ⟨by rw [List.append_nil]; exact h, .refl _ _ _⟩
theorem VAt.alloc {H : Heap} {w b : Nat} {o : Own} {l : List Tok} {x : AObj} (h : VAt H w o l) (hb : H b = none) : VAt (H.upd b x) w o l :=
  ⟨by rw [upd_ne (fun e => by subst e; rw [h.cell] at hb; cases hb)]; exact h.cell, h.own.upd hb⟩
theorem VR.alloc {H0 H : Heap} {o0 o : Own} {w b : Nat} {l0 tk : List Tok} {x : AObj} (h : VR H0 o0 w l0 tk H o) (hb : H b = none) : VR H0 o0 w l0 tk (H.upd b x) o := ⟨h.here.alloc hb, h.st.alloc hb⟩
theorem VR.cast {H0 H : Heap} {o0 o : Own} {w : Nat} {l0 tk tk' : List Tok} (h : VR H0 o0 w l0 tk H o) (e : tk = tk') : VR H0 o0 w l0 tk' H o := e ▸ h
theorem VAt.app {H H1 : Heap} {w : Nat} {o o1 : Own} {l ts : List Tok} {n : Nat} (h : VAt H w o l) (hs : OwnS H o H1 o1 n 2) (hn : n = (l ++ ts).length) :
    H1 w = some (.cells [.sl o 2 (cKs l)]) ∧ VR H o w l ts (H1.upd w (.cells [.sl o1 2 (cKs (l ++ ts))])) o1 := by
  subst hn
  have hc := own_keep h.own h.cell hs.kept
  exact ⟨hc, ⟨upd_same .., own_upd hs.own hc⟩, fun c y hcw hn hy => by rw [upd_ne hcw]; exact hs.kept c y hy hn, hs.new⟩
section
variable {KP : AV → Heap → Prop} {Q : AExit → Env → Heap → Prop} {st : List Fr} {ρ : Env} {H : Heap} {all items : List AItem} {d : Option Nat} {R : List Chk}
end
end Go.Proofs.YticbbfbpeimkbaaGreatDoor
namespace Go.Proofs.YticbbfbpeimkbaaGreatDoor
open Go.Ab
end Go.Proofs.YticbbfbpeimkbaaGreatDoor
namespace Go.Proofs.YticbbfbpeimkbaaGreatDoor
open Go.Ab
theorem docLen (d : DocD) (hr : rightDoc d = true) (hw : wfDoc d) : 4 * (tDoc d).length ≤ 256 * bDoc d := Nat.le_trans (wT_len _) (wDoc_le d hr hw)
end Go.Proofs.YticbbfbpeimkbaaGreatDoor

namespace Go.Proofs.YticbbfbpeimkbaaGreatDoor
open Go.Ab
end Go.Proofs.YticbbfbpeimkbaaGreatDoor
namespace Go.Proofs.YticbbfbpeimkbaaGreatDoor
open Go.Ab
def lD (x : DirD) : Nat := 2 + x.nm.length + bMs x.args
def lDs (l : List DirD) : Nat := (l.map lD).sum
mutual
def lS : SelD → Nat
  | .mk _ al nm args dirs on sels => 2 + nm.length + al.length + on.length + bMs args + lDs dirs + lSs sels
def lSs : List SelD → Nat
  | [] => 0
  | x :: r => lS x + lSs r
end
def lW (x : VarD) : Nat := 1 + bV x.d + x.nm.length
def lWs (l : List VarD) : Nat := (l.map lW).sum
def lO (x : OpD) : Nat := 1 + lDs x.dirs + lSs x.sels + x.nm.length + lWs x.vars
def lF (x : FragD) : Nat := 1 + lDs x.dirs + lSs x.sels + x.nm.length
def lOs (l : List OpD) : Nat := (l.map lO).sum
def lFs (l : List FragD) : Nat := (l.map lF).sum
def lightB (d : DocD) : Bool := decide (lOs d.ops + lFs d.frags ≤ 3200)
theorem sum_le {α : Type} {f g : α → Nat} {c : Nat} (h : ∀ x, f x ≤ c * g x) : ∀ l : List α, (l.map f).sum ≤ c * (l.map g).sum
  | [] => Nat.zero_le _
  | x :: r => by have := sum_le h r; have := h x; simp only [List.map_cons, List.sum_cons, Nat.mul_add]; omega
theorem lDs_le (l : List DirD) : lDs l ≤ 2 * bDs l := sum_le (fun x => by simp only [lD, bD]; omega) l
mutual
theorem lS_le : ∀ x, lS x ≤ 2 * bS x
  | .mk k al nm args dirs on sels => by
    have h1 := lDs_le dirs
    have h2 := lSs_le sels
    simp only [lS, bS]; omega
theorem lSs_le : ∀ l, lSs l ≤ 2 * bSs l
  | [] => by simp [lSs]
  | x :: r => by
    have h1 := lS_le x
    have h2 := lSs_le r
    simp only [lSs, bSs]; omega
end
theorem lWs_le (l : List VarD) : lWs l ≤ 2 * bWs l := sum_le (fun x => by have := bV_pos x.d; simp only [lW, bW]; omega) l
theorem lO_le (x : OpD) : lO x ≤ 2 * bO x := by
  have h1 := lDs_le x.dirs
  have h2 := lSs_le x.sels
  have h3 := lWs_le x.vars
  simp only [lO, bO]; omega
theorem lF_le (x : FragD) : lF x ≤ 2 * bF x := by
  have h1 := lDs_le x.dirs
  have h2 := lSs_le x.sels
  simp only [lF, bF]; omega
theorem lOs_le (l : List OpD) : lOs l ≤ 2 * bOs l := sum_le lO_le l
theorem lFs_le (l : List FragD) : lFs l ≤ 2 * bFs l := sum_le lF_le l
theorem lightDirsC (l : List DirD) (hb : bDs l ≤ Lim) : Pure Tryz.prog 67 [.sl .no 2 (cDs l)] (.int .i64 (lDs l)) := by
  refine Pure.go ir67 ck67 (Nat.le_refl _) fun KP Q hQ => ?_
  have h1 := cDs_len l
  have hl := bDs_len l
  have hle := lDs_le l
  have hb' := hb
  simp only [Lim] at hb'
  simp (disch := first | omega | assumption) only [ir67, h1, go_sem, ↓reduceIte]
  refine goL_range l 4 (fun n : Int => [(3, .int .i64 n)]) (fun done rest n H => n + lDs rest = lDs l) 0 (by simp (disch := first | omega | assumption) only [go_sem, ↓reduceIte]) (by simp) ?_ ?_
  · rintro n H J hn hlt
    simp only [lDs, List.map_nil, List.sum_nil] at hn
    simp (disch := first | omega | assumption) only [h1, hlt, go_sem, ↓reduceIte]
    have : n = ((lDs l : Nat) : Int) := by simp only [lDs]; omega
    exact hQ _ _ _ _ nofun rfl (by simp [tupOf, envOf, AV.strip, AV.strip1, this])
  · rintro done x rest n H J hd hlt _ hn hJ
    have hg := cDs_get hd
    have hbm := bDs_mid done x rest
    rw [← hd] at hbm
    obtain ⟨nm, args⟩ := x
    simp only [bD] at hbm
    have hn' : n + (2 + nm.length + bMs args + lDs rest : Nat) = lDs l := by rw [← hn]; simp [lDs, lD]
    have hsz : bV (.mk 0 0 [] [] args) = 1 + bMs args := by simp [bV, bVs]
    have hp : (0 : Int) ≤ n := by
      have := lDs_le rest
      have e : lDs l = lDs done + lDs (⟨nm, args⟩ :: rest) := by rw [hd]; simp [lDs]
      omega
    simp (disch := first | omega | assumption) only [h1, hlt, hg, cD, wrap64, go_sem, ↓reduceIte]
    refine goK_pure (Pure.low (sizeC (.mk 0 0 [] [] args) (by rw [hsz]; simp only [Lim]; omega))) ?_
    rw [hsz]
    simp (disch := first | omega | assumption) only [h1, hlt, hg, cD, wrap64, go_sem, ↓reduceIte]
    exact goJ (hJ (n + 1 + nm.length + ((1 + bMs args : Nat) : Int)) _ (by omega)) (by simp (disch := first | omega | assumption) only [wrap64, go_sem, ↓reduceIte])
theorem lightSelsN : ∀ c : Nat, ∀ l : List SelD, bSs l ≤ c → c ≤ Lim → Pure Tryz.prog 35 [.sl .no 7 (cSs l)] (.int .i64 (lSs l)) := by
  intro c
  induction c using Nat.strongRecOn with
  | _ c ih =>
  intro l hb hc
  refine Pure.go ir35 ck35 (Nat.le_refl _) fun KP Q hQ => ?_
  have h1 := cSs_len l
  have hl := bSs_len l
  have hle := lSs_le l
  have hb' := hc
  simp only [Lim] at hb'
  simp (disch := first | omega | assumption) only [ir35, h1, go_sem, ↓reduceIte]
  refine goL_range l 4 (fun n : Int => [(3, .int .i64 n)]) (fun done rest n H => n + lSs rest = lSs l ∧ 0 ≤ n) 0 (by simp (disch := first | omega | assumption) only [go_sem, ↓reduceIte]) (by simp) ?_ ?_
  · rintro n H J ⟨hn, _⟩ hlt
    simp only [lSs] at hn
    simp (disch := first | omega | assumption) only [h1, hlt, go_sem, ↓reduceIte]
    have : n = ((lSs l : Nat) : Int) := by omega
    exact hQ _ _ _ _ nofun rfl (by simp [tupOf, envOf, AV.strip, AV.strip1, this])
  · rintro done x rest n H J hd hlt _ ⟨hn, hp⟩ hJ
    have hg := cSs_get hd
    have hbm := bSs_mid done x rest
    rw [← hd] at hbm
    obtain ⟨k, al, nm, args, dirs, on, sels⟩ := x
    have hdl := lDs_le dirs
    have hsl := lSs_le sels
    simp only [bS] at hbm
    rw [cS_mk] at hg
    simp only [lSs, lS] at hn
    have hsz : bV (.mk 0 0 [] [] args) = 1 + bMs args := by simp [bV, bVs]
    simp (disch := first | omega | assumption) only [h1, hlt, hg, wrap64, go_sem, ↓reduceIte]
    refine goK_pure (Pure.low (sizeC (.mk 0 0 [] [] args) (by rw [hsz]; simp only [Lim]; omega))) ?_
    rw [hsz]
    simp (disch := first | omega | assumption) only [h1, hlt, hg, wrap64, go_sem, ↓reduceIte]
    refine goK_pure (lightDirsC dirs (by simp only [Lim]; omega)) ?_
    simp (disch := first | omega | assumption) only [h1, hlt, hg, wrap64, go_sem, ↓reduceIte]
    refine goK_pure (ih (bSs sels) (by omega) sels (Nat.le_refl _) (by omega)) ?_
    simp (disch := first | omega | assumption) only [h1, hlt, hg, wrap64, go_sem, ↓reduceIte]
    exact goJ (hJ (n + 1 + nm.length + al.length + on.length + ((1 + bMs args : Nat) : Int) + lDs dirs + lSs sels) _ ⟨by omega, by omega⟩) (by simp (disch := first | omega | assumption) only [wrap64, go_sem, ↓reduceIte])
theorem lightSelsC (l : List SelD) (hb : bSs l ≤ Lim) : Pure Tryz.prog 35 [.sl .no 7 (cSs l)] (.int .i64 (lSs l)) := lightSelsN (bSs l) l (Nat.le_refl _) hb
theorem lightC (d : DocD) (hb : bDoc d ≤ Lim) : Pure Tryz.prog 24 [.agg (cDoc d)] (.bool (lightB d)) := by
  refine Pure.go ir24 ck24 (Nat.le_refl _) fun KP Q hQ => ?_
  obtain ⟨ops, frags⟩ := d
  simp only [bDoc] at hb
  have h1 := cOs_len ops
  have h2 := cFs_len frags
  have hl1 := bOs_len ops
  have hl2 := bFs_len frags
  have hle1 := lOs_le ops
  have hle2 := lFs_le frags
  have hb' := hb
  simp only [Lim] at hb'
  simp (disch := first | omega | assumption) only [ir24, cDoc, go_sem, ↓reduceIte]
  refine goL_range ops 4 (fun n : Int => [(3, .int .i64 n)]) (fun done rest n H => n + lOs rest = lOs ops ∧ 0 ≤ n) 0 (by simp (disch := first | omega | assumption) only [go_sem, ↓reduceIte]) (by simp) ?_ ?_
  · rintro n H J ⟨hn, hp⟩ hlt
    simp only [lOs, List.map_nil, List.sum_nil] at hn
    have hn : n = ((lOs ops : Nat) : Int) := by simp only [lOs]; omega
    subst hn
    simp (disch := first | omega | assumption) only [h1, hlt, go_sem, ↓reduceIte]
    refine goL_range frags 6 (fun n : Int => [(3, .int .i64 n)]) (fun done rest n H => n + lFs rest = (lOs ops + lFs frags : Nat) ∧ 0 ≤ n) (lOs ops : Nat) (by simp (disch := first | omega | assumption) only [go_sem, ↓reduceIte]) ⟨by omega, by omega⟩ ?_ ?_
    · rintro n H J ⟨hn, _⟩ hlt
      simp only [lFs, List.map_nil, List.sum_nil] at hn
      have e : decide (n ≤ 3200) = lightB ⟨ops, frags⟩ := by simp only [lightB, lFs]; exact decide_eq_decide.2 (by omega)
      simp (disch := first | omega | assumption) only [h2, hlt, go_sem, ↓reduceIte]
      exact hQ _ _ _ _ nofun rfl (by simp [tupOf, envOf, AV.strip, AV.strip1, e])
    · rintro done x rest n H J hd hlt _ ⟨hn, hp⟩ hJ
      have hg := cFs_get hd
      have hbm := bFs_mid done x rest
      rw [← hd] at hbm
      obtain ⟨nm, on, dirs, sels⟩ := x
      simp only [bF] at hbm
      have hdl := lDs_le dirs
      have hsl := lSs_le sels
      have hn' : n + (1 + lDs dirs + lSs sels + nm.length + lFs rest : Nat) = (lOs ops + lFs frags : Nat) := by rw [← hn]; simp [lFs, lF]
      simp (disch := first | omega | assumption) only [h2, hlt, hg, cF, wrap64, go_sem, ↓reduceIte]
      refine goK_pure (lightDirsC dirs (by simp only [Lim]; omega)) ?_
      simp (disch := first | omega | assumption) only [h2, hlt, hg, cF, wrap64, go_sem, ↓reduceIte]
      refine goK_pure (lightSelsC sels (by simp only [Lim]; omega)) ?_
      simp (disch := first | omega | assumption) only [h2, hlt, hg, cF, wrap64, go_sem, ↓reduceIte]
      exact goJ (hJ (n + 1 + lDs dirs + lSs sels + nm.length) _ ⟨by omega, by omega⟩) (by simp (disch := first | omega | assumption) only [wrap64, go_sem, ↓reduceIte])
  · rintro done x rest n H J hd hlt _ ⟨hn, hp⟩ hJ
    have hg := cOs_get hd
    have hbm := bOs_mid done x rest
    rw [← hd] at hbm
    obtain ⟨k, nm, vars, dirs, sels⟩ := x
    simp only [bO] at hbm
    have hdl := lDs_le dirs
    have hsl := lSs_le sels
    have hwl := lWs_le vars
    have h3 := cWs_len vars
    have h4 := bWs_len vars
    have hn' : n + (1 + lDs dirs + lSs sels + nm.length + lWs vars + lOs rest : Nat) = lOs ops := by rw [← hn]; simp [lOs, lO]
    simp (disch := first | omega | assumption) only [h1, hlt, hg, cO, wrap64, go_sem, ↓reduceIte]
    refine goK_pure (lightDirsC dirs (by simp only [Lim]; omega)) ?_
    simp (disch := first | omega | assumption) only [h1, hlt, hg, cO, wrap64, go_sem, ↓reduceIte]
    refine goK_pure (lightSelsC sels (by simp only [Lim]; omega)) ?_
    simp (disch := first | omega | assumption) only [h1, hlt, hg, cO, wrap64, go_sem, ↓reduceIte]
    refine goL_range vars 5 (fun n : Int => [(3, .int .i64 n)]) (fun done' rest' n' H => n' + lWs rest' = n + 1 + lDs dirs + lSs sels + nm.length + lWs vars ∧ 0 ≤ n') (n + 1 + lDs dirs + lSs sels + nm.length) (by simp (disch := first | omega | assumption) only [go_sem, ↓reduceIte]) ⟨by omega, by omega⟩ ?_ ?_
    · rintro n2 H J' ⟨hn2, hp2⟩ hlt2
      simp only [lWs, List.map_nil, List.sum_nil] at hn2
      simp (disch := first | omega | assumption) only [h1, h3, hlt, hg, hlt2, cO, wrap64, go_sem, ↓reduceIte]
      exact goJ (hJ n2 _ ⟨by simp only [lWs] at hn'; omega, by omega⟩) (by simp (disch := first | omega | assumption) only [wrap64, go_sem, ↓reduceIte])
    · rintro done2 y rest2 n2 H J' hd2 hlt2 _ ⟨hn2, hp2⟩ hJ'
      have hg2 := cWs_get hd2
      have hbm2 := bWs_mid done2 y rest2
      rw [← hd2] at hbm2
      obtain ⟨vn, ⟨tn, tl, tm⟩, vh, ⟨dk, dn, ds, dl, dm⟩⟩ := y
      rw [cW_mk, cV_mk] at hg2
      simp only [bW] at hbm2
      have hn2' : n2 + (1 + bV (.mk dk dn ds dl dm) + vn.length + lWs rest2 : Nat) = n + 1 + lDs dirs + lSs sels + nm.length + lWs vars := by rw [← hn2]; simp [lWs, lW]
      simp (disch := first | omega | assumption) only [h1, h3, hlt, hg, hg2, hlt2, cO, wrap64, go_sem, ↓reduceIte]
      refine goK_pure (sizeC (.mk dk dn ds dl dm) (by simp only [Lim]; omega)) ?_
      simp (disch := first | omega | assumption) only [h1, h3, hlt, hg, hg2, hlt2, cO, wrap64, go_sem, ↓reduceIte]
      exact goJ (hJ' (n2 + 1 + bV (.mk dk dn ds dl dm) + vn.length) _ ⟨by omega, by omega⟩) (by simp (disch := first | omega | assumption) only [wrap64, go_sem, ↓reduceIte])
end Go.Proofs.YticbbfbpeimkbaaGreatDoor
namespace Go.Proofs.YticbbfbpeimkbaaGreatDoor
open Go.Ab
noncomputable def pO (x : OpD) : List Tok := docToks ⟨[x], []⟩
noncomputable def pF (x : FragD) : List Tok := docToks ⟨[], [x]⟩
theorem right_o1 (x : OpD) : rightDoc ⟨[x], []⟩ = rightO x := by simp [rightDoc]
theorem right_f1 (x : FragD) : rightDoc ⟨[], [x]⟩ = rightF x := by simp [rightDoc]
theorem pO_right {x : OpD} (h : rightO x = true) : pO x = tO x := by unfold pO docToks; rw [right_o1, h]; simp [tDoc]
theorem pF_right {x : FragD} (h : rightF x = true) : pF x = tF x := by unfold pF docToks; rw [right_f1, h]; simp [tDoc]
theorem docToks_len (d : DocD) (hw : wfDoc d) : (docToks d).length ≤ 64 * bDoc d := by
  cases hr : rightDoc d with
  | false => simp [docToks, hr]
  | true => have := docLen d hr hw; simp only [docToks, hr, if_true]; omega
theorem flatL {α : Type} {f : α → List Tok} {g : α → Nat} {c : Nat} : ∀ l : List α, (∀ x ∈ l, (f x).length ≤ c * g x) → (l.flatMap f).length ≤ c * (l.map g).sum
  | [], _ => by simp
  | x :: r, h => by
    have h1 := h x (by simp)
    have h2 := flatL r fun y hy => h y (by simp [hy])
    simp only [List.flatMap_cons, List.length_append, List.map_cons, List.sum_cons, Nat.mul_add]; omega
theorem wf_o1 {x : OpD} (h : wfO x) : wfDoc ⟨[x], []⟩ := ⟨fun y hy => by simp only [List.mem_singleton] at hy; subst hy; exact h, fun y hy => nomatch hy⟩
theorem wf_f1 {x : FragD} (h : wfF x) : wfDoc ⟨[], [x]⟩ := ⟨fun y hy => (nomatch hy), fun y hy => by simp only [List.mem_singleton] at hy; subst hy; exact h⟩
theorem b_o1 (x : OpD) : bDoc ⟨[x], []⟩ = bO x := by simp [bDoc, bOs, bFs]
theorem b_f1 (x : FragD) : bDoc ⟨[], [x]⟩ = bF x := by simp [bDoc, bOs, bFs]
theorem pO_len {l : List OpD} (h : ∀ x ∈ l, wfO x) : (l.flatMap pO).length ≤ 64 * bOs l := flatL l fun x hx => by have := docToks_len _ (wf_o1 (h x hx)); rw [b_o1] at this; exact this
theorem pF_len {l : List FragD} (h : ∀ x ∈ l, wfF x) : (l.flatMap pF).length ≤ 64 * bFs l := flatL l fun x hx => by have := docToks_len _ (wf_f1 (h x hx)); rw [b_f1] at this; exact this
theorem pO_all {l : List OpD} (h : l.all rightO = true) : l.flatMap pO = l.flatMap tO := by
  induction l with
  | nil => rfl
  | cons x r ih =>
    simp only [List.all_cons, Bool.and_eq_true] at h
    simp only [List.flatMap_cons, pO_right h.1, ih h.2]
theorem pF_all {l : List FragD} (h : l.all rightF = true) : l.flatMap pF = l.flatMap tF := by
  induction l with
  | nil => rfl
  | cons x r ih =>
    simp only [List.all_cons, Bool.and_eq_true] at h
    simp only [List.flatMap_cons, pF_right h.1, ih h.2]
theorem cut1 {α β : Type} (f : α → β) (a : List α) (x : α) (r : List α) : (((a ++ x :: r).map f).take (a.length + 1)).drop a.length = [f x] := by
  rw [List.map_append, List.map_cons, List.take_append, List.drop_append]
  simp
theorem PrintPartsL (d : DocD) (hw : wfDoc d) (hb : bDoc d ≤ 1048576) : Pure Tryz.prog 4 [.agg (cDoc d)] (.bool true) := by
  refine Pure.go ir4 ck4 (Nat.le_refl _) fun KP Q hQ => ?_
  have hL := lightC d (by simp only [Lim]; omega)
  have hT := tokensPC d hw (by simp only [Lim]; omega)
  have hdl := docToks_len d hw
  obtain ⟨n, hn⟩ : ∃ n, n = decide (0 < d.ops.length + d.frags.length) := ⟨_, rfl⟩
  have er : rightDoc d = (n && (d.ops.all rightO && d.frags.all rightF)) := by rw [hn]; rfl
  obtain ⟨ops, frags⟩ := d
  obtain ⟨hwo, hwf⟩ := hw
  simp only at hn er hwo hwf
  simp only [bDoc] at hb hdl
  have hlo := bOs_len ops
  have hlf := bFs_len frags
  have hco := cOs_len ops
  have hcf := cFs_len frags
  have ed : cDoc ⟨ops, frags⟩ = [.sl .no 5 (cOs ops), .sl .no 4 (cFs frags)] := rfl
  rw [ed] at hL hT ⊢
  simp (disch := first | omega | assumption) only [ir4, go_sem, ↓reduceIte]
  refine goK_pure hL ?_
  cases hlt : lightB ⟨ops, frags⟩ with
  | false =>
    simp (disch := first | omega | assumption) only [go_sem, ↓reduceIte]
    refine goK_pure awake7C ?_
    simp (disch := first | omega | assumption) only [go_sem, ↓reduceIte]
    exact hQ _ _ _ _ nofun rfl (by simp [tupOf, envOf, AV.strip, AV.strip1])
  | true =>
    simp (disch := first | omega | assumption) only [go_sem, ↓reduceIte]
    refine goK_pure hT ?_
    have wl : IntKind.wrap .i64 ((ops.length : Int) + (frags.length : Int)) = ((ops.length + frags.length : Nat) : Int) := by rw [wrap64 (by omega) (by omega)]; omega
    have hnv : decide ((0 : Int) < ((ops.length + frags.length : Nat) : Int)) = n := by rw [hn]; exact decide_eq_decide.2 (by omega)
    simp (disch := first | omega | assumption) only [hco, hcf, wl, hnv, go_sem, ↓reduceIte]
    refine goL_range ops 7 (fun x : Own × Bool × List Tok => [(5, .sl x.1 2 (cKs x.2.2)), (6, .bool x.2.1)]) (fun done rest x H => x.2.1 = (n && done.all rightO) ∧ x.2.2 = done.flatMap pO ∧ OwnF Heap.emp H x.1 x.2.2.length 2) (.nil, n, []) (by simp (disch := first | omega | assumption) only [cKs, go_sem, ↓reduceIte]) ⟨by simp, rfl, OwnF.nil _ _⟩ ?_ ?_
    · rintro ⟨o, g, T⟩ H J ⟨hg, hT2, ho⟩ hlt2
      simp only at hg hT2 ho
      simp (disch := first | omega | assumption) only [hco, hcf, hlt2, go_sem, ↓reduceIte]
      refine goL_range frags 10 (fun x : Own × Bool × List Tok => [(5, .sl x.1 2 (cKs x.2.2)), (6, .bool x.2.1)]) (fun done rest x H => x.2.1 = (n && (ops.all rightO && done.all rightF)) ∧ x.2.2 = ops.flatMap pO ++ done.flatMap pF ∧ OwnF Heap.emp H x.1 x.2.2.length 2) (o, g, T) (by simp (disch := first | omega | assumption) only [go_sem, ↓reduceIte]) ⟨by simp [hg], by simp [hT2], ho⟩ ?_ ?_
      · rintro ⟨o2, g2, T2⟩ H2 J2 ⟨hg2, hT3, ho2⟩ hlt3
        simp only at hg2 hT3 ho2
        rw [← er] at hg2
        subst hg2
        cases hr : rightDoc ⟨ops, frags⟩ with
        | false =>
          have e1 : docToks ⟨ops, frags⟩ = [] := by simp [docToks, hr]
          rw [e1]
          simp (disch := first | omega | assumption) only [hcf, hlt3, cKs, go_sem, ↓reduceIte]
          refine goK_pure awake7C ?_
          simp (disch := first | omega | assumption) only [go_sem, ↓reduceIte]
          exact hQ _ _ _ _ nofun rfl (by simp [tupOf, envOf, AV.strip, AV.strip1])
        | true =>
          rw [hr] at er
          have er' := er.symm
          simp only [Bool.and_eq_true] at er'
          have e1 : docToks ⟨ops, frags⟩ = T2 := by rw [hT3, pO_all er'.2.1, pF_all er'.2.2]; simp [docToks, hr, tDoc]
          have hs := sameTokensR (docToks ⟨ops, frags⟩) T2 (by simp only [Lim]; omega)
          rw [eqd_true e1] at hs
          simp (disch := first | omega | assumption) only [hcf, hlt3, go_sem, ↓reduceIte]
          refine goK_pure (Pure.low (by simpa [AV.strip, AV.strip1, cKs_strip] using hs)) ?_
          simp (disch := first | omega | assumption) only [go_sem, ↓reduceIte]
          refine goK_pure awake7C ?_
          simp (disch := first | omega | assumption) only [go_sem, ↓reduceIte]
          exact hQ _ _ _ _ nofun rfl (by simp [tupOf, envOf, AV.strip, AV.strip1])
      · rintro done x rest ⟨o2, g2, T2⟩ H2 J2 hd hlt3 hlt4 ⟨hg2, hT3, ho2⟩ hJ
        simp only at hg2 hT3 ho2
        have hg := cFs_get hd
        have hbm := bFs_mid done x rest
        rw [← hd] at hbm
        have hwx := hwf x (by rw [hd]; simp)
        have hX := tokensPC ⟨[], [x]⟩ (wf_f1 hwx) (by rw [b_f1]; simp only [Lim]; omega)
        have hXl := docToks_len ⟨[], [x]⟩ (wf_f1 hwx)
        rw [b_f1] at hXl
        rw [right_f1] at hX
        have eX : cDoc ⟨[], [x]⟩ = [.sl .no 5 [], .sl .no 4 [cF x]] := rfl
        rw [eX] at hX
        have hlen : T2.length ≤ 64 * bOs ops + 64 * bFs done := by
          have h1 := pO_len hwo
          have h2 := pF_len (l := done) (fun y hy => hwf y (by rw [hd]; simp [hy]))
          rw [hT3, List.length_append]; omega
        have hkT := cKs_len T2
        have hkX := cKs_len (docToks ⟨[], [x]⟩)
        have ecut : ((cFs frags).take (done.length + 1)).drop done.length = [cF x] := by rw [hd]; exact cut1 _ done x rest
        simp (disch := first | omega | assumption) only [hcf, hlt3, wrap64, ecut, go_sem, ↓reduceIte]
        refine goK_pure (r := .tup [.sl .no 2 (cKs (docToks ⟨[], [x]⟩)), .bool (rightF x)]) (Pure.low (by simpa [AV.strip, AV.strip1, cF_strip, ecut] using hX)) ?_
        have hnx : (n && (ops.all rightO && (done ++ [x]).all rightF)) = (g2 && rightF x) := by rw [hg2]; simp [Bool.and_assoc]
        cases g2 <;> cases hx : rightF x
        all_goals
          simp (disch := first | omega | assumption) only [go_sem, ↓reduceIte]
          refine goP_ownS (by rw [hkT]; exact ho2.own) (by simp only [hkT, hkX]; omega) (by simp only [hkT, hkX, maxLen]; omega) fun o' H' hs => ?_
          simp (disch := first | omega | assumption) only [wrap64, go_sem, ↓reduceIte]
          exact goJ (hJ (o', (n && (ops.all rightO && (done ++ [x]).all rightF)), T2 ++ docToks ⟨[], [x]⟩) H' ⟨rfl, by simp [hT3, pF], (ho2.stepS hs).cast (by simp [hkT, hkX])⟩) (by simp only [hnx, hx, Bool.and_true, Bool.and_false, Bool.true_and, Bool.false_and]; simp (disch := first | omega | assumption) only [cKs_append, cKs_strip, go_sem, ↓reduceIte])
    · rintro done x rest ⟨o2, g2, T2⟩ H2 J2 hd hlt3 hlt4 ⟨hg2, hT3, ho2⟩ hJ
      simp only at hg2 hT3 ho2
      have hg := cOs_get hd
      have hbm := bOs_mid done x rest
      rw [← hd] at hbm
      have hwx := hwo x (by rw [hd]; simp)
      have hX := tokensPC ⟨[x], []⟩ (wf_o1 hwx) (by rw [b_o1]; simp only [Lim]; omega)
      have hXl := docToks_len ⟨[x], []⟩ (wf_o1 hwx)
      rw [b_o1] at hXl
      rw [right_o1] at hX
      have eX : cDoc ⟨[x], []⟩ = [.sl .no 5 [cO x], .sl .no 4 []] := rfl
      rw [eX] at hX
      have hlen : T2.length ≤ 64 * bOs done := by
        have h1 := pO_len (l := done) (fun y hy => hwo y (by rw [hd]; simp [hy]))
        rw [hT3]; omega
      have hkT := cKs_len T2
      have hkX := cKs_len (docToks ⟨[x], []⟩)
      have ecut : ((cOs ops).take (done.length + 1)).drop done.length = [cO x] := by rw [hd]; exact cut1 _ done x rest
      simp (disch := first | omega | assumption) only [hco, hlt3, wrap64, ecut, go_sem, ↓reduceIte]
      refine goK_pure (r := .tup [.sl .no 2 (cKs (docToks ⟨[x], []⟩)), .bool (rightO x)]) (Pure.low (by simpa [AV.strip, AV.strip1, cO_strip, ecut] using hX)) ?_
      have hnx : (n && (done ++ [x]).all rightO) = (g2 && rightO x) := by rw [hg2]; simp [Bool.and_assoc]
      cases g2 <;> cases hx : rightO x
      all_goals
        simp (disch := first | omega | assumption) only [go_sem, ↓reduceIte]
        refine goP_ownS (by rw [hkT]; exact ho2.own) (by simp only [hkT, hkX]; omega) (by simp only [hkT, hkX, maxLen]; omega) fun o' H' hs => ?_
        simp (disch := first | omega | assumption) only [wrap64, go_sem, ↓reduceIte]
        exact goJ (hJ (o', (n && (done ++ [x]).all rightO), T2 ++ docToks ⟨[x], []⟩) H' ⟨rfl, by simp [hT3, pO], (ho2.stepS hs).cast (by simp [hkT, hkX])⟩) (by simp only [hnx, hx, Bool.and_true, Bool.and_false, Bool.true_and, Bool.false_and]; simp (disch := first | omega | assumption) only [cKs_append, cKs_strip, go_sem, ↓reduceIte])
end Go.Proofs.YticbbfbpeimkbaaGreatDoor
