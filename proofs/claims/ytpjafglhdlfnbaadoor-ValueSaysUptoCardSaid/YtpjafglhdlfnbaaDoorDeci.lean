/- Decimal text: the document's answer. -/
import Derived.Test.YtpjafglhdlfnbaaDoorNumR
import Derived.Test.YtpjafglhdlfnbaaDoorItoa
import Derived.Lib.ItoaLen
set_option maxRecDepth 100000
set_option linter.unusedSimpArgs false
set_option linter.unusedVariables false
namespace Go.Proofs.YtpjafglhdlfnbaaDoor
open Go.Ab

theorem wrap_u8 {x : Int} (h0 : 0 ≤ x) (h1 : x < 256) : IntKind.wrap .u8 x = x := by
  unfold IntKind.wrap
  simp [IntKind.signed, IntKind.bits]
  omega

theorem byts_one {d : Nat} (h : d < 10) : byts [[.int .u8 (IntKind.wrap .u8 (48 + (d : Int)))]] = some [UInt8.ofNat (48 + d)] := by
  rw [wrap_u8 (by omega) (by omega)]
  simp only [byts, Option.map_some]
  rw [if_pos (by omega)]
  congr 2

theorem itoa_abs (n : Int) : Lib.itoa n = if n < 0 then 45 :: Lib.decDigits n.natAbs else Lib.decDigits n.natAbs := by
  unfold Lib.itoa
  split
  · rfl
  · congr 1; omega
theorem dec_len {u : Nat} (h : u ≤ 9223372036854775808) : (Lib.decDigits u).length ≤ 21 := by
  have := Lib.itoa_length_le (-(u : Int)) (by omega) (by omega)
  rw [itoa_abs] at this
  by_cases h0 : u = 0
  · subst h0; rw [Lib.decDigits]; simp
  · rw [if_pos (by omega)] at this
    simp only [Int.natAbs_neg, Int.natAbs_natCast, List.length_cons] at this
    omega

theorem DecimalR (n : Int) (h0 : -9223372036854775808 ≤ n) (h1 : n ≤ 9223372036854775807) : Pure Tryd.prog 90 [.int .i64 n] (.str (Lib.itoa n)) := by
  refine Pure.go ir90 ck90 (Nat.le_refl _) fun KP Q hQ => ?_
  by_cases n0 : n = 0
  · simp (disch := first | omega | assumption) only [ir90, n0, steps, st2, pev, rev, oev, optr, ibin, sbin, ishf, bound, mmAll, mm2, mk, mkArgs, AV.cells, AV.boxable, AV.one, AV.strip1, fillA, fillS, Nat.reduceEqDiff, reduceCtorEq, ↓reduceIte, Nat.reduceAdd, Int.reduceNeg, Nat.reduceLeDiff, Int.reduceToNat, Int.reduceEq, Int.reduceLT, Int.reduceLE, Int.reduceAdd]
    have e : Lib.itoa n = [48] := by subst n0; unfold Lib.itoa; rw [if_neg (by omega)]; unfold Lib.decDigits; rfl
    exact hQ _ _ _ _ nofun rfl (by simp [tupOf, envOf, AV.strip, AV.strip1, e])
  have hlen := dec_len (u := n.natAbs) (by omega)
  rw [itoa_abs] at hQ
  generalize hD : Lib.decDigits n.natAbs = D at hlen hQ
  simp (disch := first | omega | assumption) only [ir90, n0, steps, st2, pev, rev, oev, optr, ibin, sbin, ishf, bound, mmAll, mm2, mk, mkArgs, AV.cells, AV.boxable, AV.one, AV.strip1, fillA, fillS, Nat.reduceEqDiff, reduceCtorEq, ↓reduceIte, Nat.reduceAdd, Int.reduceNeg, Nat.reduceLeDiff, Int.reduceToNat, Int.reduceEq, Int.reduceLT, Int.reduceLE, Int.reduceAdd]
  refine goL_st (fun x : Nat × List UInt8 => [(3, .str x.2), (4, .int .i64 (if n < 0 then -(x.1 : Int) else x.1))]) (fun x H => x.1 ≤ n.natAbs ∧ D = (if x.1 = 0 then x.2 else Lib.decDigits x.1 ++ x.2)) (fun x => x.1) (n.natAbs, [])
    (by have e : (if n < 0 then -(n.natAbs : Int) else n.natAbs) = n := by split <;> omega
        simp (disch := first | omega | assumption) only [e, steps, st2, pev, rev, oev, optr, ibin, sbin, ishf, bound, mmAll, mm2, mk, mkArgs, AV.cells, AV.boxable, AV.one, AV.strip1, fillA, fillS, Nat.reduceEqDiff, reduceCtorEq, ↓reduceIte, Nat.reduceAdd, Int.reduceNeg, Nat.reduceLeDiff, Int.reduceToNat, Int.reduceEq, Int.reduceLT, Int.reduceLE, Int.reduceAdd]) ⟨Nat.le_refl _, by rw [if_neg (by omega), List.append_nil, hD]⟩ ?_
  rintro ⟨u, t⟩ H J ⟨hu, ht⟩ hJ
  simp only at hu ht
  have htl : t.length ≤ 21 := by
    have : t.length ≤ D.length := by
      rw [ht]; split
      · exact Nat.le_refl _
      · simp
    omega
  by_cases u0 : u = 0
  · have e : (if n < 0 then -(u : Int) else u) = 0 := by split <;> omega
    rw [if_pos u0] at ht
    subst u0
    by_cases hn : n < 0
    · simp (disch := first | omega | assumption) only [hn, Int.neg_zero, steps, st2, pev, rev, oev, optr, ibin, sbin, ishf, bound, mmAll, mm2, mk, mkArgs, AV.cells, AV.boxable, AV.one, AV.strip1, fillA, fillS, Nat.reduceEqDiff, reduceCtorEq, ↓reduceIte, Nat.reduceAdd, Int.reduceNeg, Nat.reduceLeDiff, Int.reduceToNat, Int.reduceEq, Int.reduceLT, Int.reduceLE, Int.reduceAdd]
      rw [if_pos hn] at hQ
      exact hQ _ _ _ _ nofun rfl (by simp [tupOf, envOf, AV.strip, AV.strip1, ht])
    · simp (disch := first | omega | assumption) only [hn, Int.neg_zero, steps, st2, pev, rev, oev, optr, ibin, sbin, ishf, bound, mmAll, mm2, mk, mkArgs, AV.cells, AV.boxable, AV.one, AV.strip1, fillA, fillS, Nat.reduceEqDiff, reduceCtorEq, ↓reduceIte, Nat.reduceAdd, Int.reduceNeg, Nat.reduceLeDiff, Int.reduceToNat, Int.reduceEq, Int.reduceLT, Int.reduceLE, Int.reduceAdd]
      rw [if_neg hn] at hQ
      exact hQ _ _ _ _ nofun rfl (by simp [tupOf, envOf, AV.strip, AV.strip1, ht])
  · rw [if_neg u0] at ht
    have hm : u % 10 < 10 := Nat.mod_lt _ (by omega)
    have hstep : D = (if u / 10 = 0 then UInt8.ofNat (48 + u % 10) :: t else Lib.decDigits (u / 10) ++ UInt8.ofNat (48 + u % 10) :: t) := by
      rw [ht, Lib.decDigits]
      by_cases h10 : u < 10
      · have e1 : u / 10 = 0 := by omega
        have e2 : u % 10 = u := by omega
        rw [dif_pos h10, if_pos e1, e2]; rfl
      · have e1 : ¬ u / 10 = 0 := by omega
        rw [dif_neg h10, if_neg e1, List.append_assoc]; rfl
    have hby := byts_one hm
    by_cases hn : n < 0
    · have e : (if n < 0 then -(u : Int) else u) = -(u : Int) := if_pos hn
      have e' : (if n < 0 then -((u / 10 : Nat) : Int) else ((u / 10 : Nat) : Int)) = -((u / 10 : Nat) : Int) := if_pos hn
      have hne : ¬ (-(u : Int) = 0) := by omega
      have hmod : Int.tmod (-(u : Int)) 10 = -((u % 10 : Nat) : Int) := by rw [Int.neg_tmod, Int.tmod_eq_emod_of_nonneg (by omega)]; omega
      have hdiv : Int.tdiv (-(u : Int)) 10 = -((u / 10 : Nat) : Int) := by rw [Int.neg_tdiv, Int.tdiv_eq_ediv_of_nonneg (by omega)]; omega
      have hw1 : IntKind.wrap .i64 (48 + ((u % 10 : Nat) : Int)) = 48 + ((u % 10 : Nat) : Int) := wrap64 (by omega) (by omega)
      by_cases z : u % 10 = 0
      · have hz : -((u % 10 : Nat) : Int) = ((u % 10 : Nat) : Int) := by omega
        have hz2 : ¬ ((u % 10 : Nat) : Int) < 0 := by omega
        simp (disch := first | omega | assumption) only [e, hne, hmod, hdiv, hby, wrap64, hz, hz2, hw1, steps, st2, pev, rev, oev, optr, ibin, sbin, ishf, bound, mmAll, mm2, mk, mkArgs, AV.cells, AV.boxable, AV.one, AV.strip1, fillA, fillS, Nat.reduceEqDiff, reduceCtorEq, ↓reduceIte, Nat.reduceAdd, Int.reduceNeg, Nat.reduceLeDiff, Int.reduceToNat, Int.reduceEq, Int.reduceLT, Int.reduceLE, Int.reduceAdd]
        exact goJ (hJ (u / 10, UInt8.ofNat (48 + u % 10) :: t) _ (by simp only; omega) ⟨by simp only; omega, hstep⟩) (by simp (disch := first | omega | assumption) only [e', wrap64, steps, st2, pev, rev, oev, optr, ibin, sbin, ishf, bound, mmAll, mm2, mk, mkArgs, AV.cells, AV.boxable, AV.one, AV.strip1, fillA, fillS, Nat.reduceEqDiff, reduceCtorEq, ↓reduceIte, Nat.reduceAdd, Int.reduceNeg, Nat.reduceLeDiff, Int.reduceToNat, Int.reduceEq, Int.reduceLT, Int.reduceLE, Int.reduceAdd])
      · have hz2 : -((u % 10 : Nat) : Int) < 0 := by omega
        have hneg : 0 - -((u % 10 : Nat) : Int) = ((u % 10 : Nat) : Int) := by omega
        simp (disch := first | omega | assumption) only [e, hne, hmod, hdiv, hby, wrap64, hz2, hw1, hneg, steps, st2, pev, rev, oev, optr, ibin, sbin, ishf, bound, mmAll, mm2, mk, mkArgs, AV.cells, AV.boxable, AV.one, AV.strip1, fillA, fillS, Nat.reduceEqDiff, reduceCtorEq, ↓reduceIte, Nat.reduceAdd, Int.reduceNeg, Nat.reduceLeDiff, Int.reduceToNat, Int.reduceEq, Int.reduceLT, Int.reduceLE, Int.reduceAdd]
        exact goJ (hJ (u / 10, UInt8.ofNat (48 + u % 10) :: t) _ (by simp only; omega) ⟨by simp only; omega, hstep⟩) (by simp (disch := first | omega | assumption) only [e', wrap64, steps, st2, pev, rev, oev, optr, ibin, sbin, ishf, bound, mmAll, mm2, mk, mkArgs, AV.cells, AV.boxable, AV.one, AV.strip1, fillA, fillS, Nat.reduceEqDiff, reduceCtorEq, ↓reduceIte, Nat.reduceAdd, Int.reduceNeg, Nat.reduceLeDiff, Int.reduceToNat, Int.reduceEq, Int.reduceLT, Int.reduceLE, Int.reduceAdd])
    · have e : (if n < 0 then -(u : Int) else u) = (u : Int) := if_neg hn
      have e' : (if n < 0 then -((u / 10 : Nat) : Int) else ((u / 10 : Nat) : Int)) = ((u / 10 : Nat) : Int) := if_neg hn
      have hne : ¬ ((u : Int) = 0) := by omega
      have hmod : Int.tmod (u : Int) 10 = ((u % 10 : Nat) : Int) := by rw [Int.tmod_eq_emod_of_nonneg (by omega)]; omega
      have hdiv : Int.tdiv (u : Int) 10 = ((u / 10 : Nat) : Int) := by rw [Int.tdiv_eq_ediv_of_nonneg (by omega)]; omega
      have hw1 : IntKind.wrap .i64 (48 + ((u % 10 : Nat) : Int)) = 48 + ((u % 10 : Nat) : Int) := wrap64 (by omega) (by omega)
      have hz2 : ¬ ((u % 10 : Nat) : Int) < 0 := by omega
      simp (disch := first | omega | assumption) only [e, hne, hmod, hdiv, hby, wrap64, hz2, hw1, steps, st2, pev, rev, oev, optr, ibin, sbin, ishf, bound, mmAll, mm2, mk, mkArgs, AV.cells, AV.boxable, AV.one, AV.strip1, fillA, fillS, Nat.reduceEqDiff, reduceCtorEq, ↓reduceIte, Nat.reduceAdd, Int.reduceNeg, Nat.reduceLeDiff, Int.reduceToNat, Int.reduceEq, Int.reduceLT, Int.reduceLE, Int.reduceAdd]
      exact goJ (hJ (u / 10, UInt8.ofNat (48 + u % 10) :: t) _ (by simp only; omega) ⟨by simp only; omega, hstep⟩) (by simp (disch := first | omega | assumption) only [e', wrap64, steps, st2, pev, rev, oev, optr, ibin, sbin, ishf, bound, mmAll, mm2, mk, mkArgs, AV.cells, AV.boxable, AV.one, AV.strip1, fillA, fillS, Nat.reduceEqDiff, reduceCtorEq, ↓reduceIte, Nat.reduceAdd, Int.reduceNeg, Nat.reduceLeDiff, Int.reduceToNat, Int.reduceEq, Int.reduceLT, Int.reduceLE, Int.reduceAdd])
end Go.Proofs.YtpjafglhdlfnbaaDoor
