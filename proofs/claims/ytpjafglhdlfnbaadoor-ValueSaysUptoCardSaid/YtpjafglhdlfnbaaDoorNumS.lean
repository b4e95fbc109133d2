/- The document's answer on numbers: which text is a number, and of which worth. -/
import Derived.Test.YtpjafglhdlfnbaaDoorNumR
import Derived.Test.YtpjafglhdlfnbaaDoorItoa
set_option maxRecDepth 100000
set_option linter.unusedSimpArgs false
set_option linter.unusedVariables false
namespace Go.Proofs.YtpjafglhdlfnbaaDoor
open Go.Ab

theorem NumberR (s : List UInt8) (hs : s.length ≤ Lim) : Pure Tryd.prog 60 [.str s] (.int .i64 (numK s)) := by
  refine Pure.go ir60 ck60 (Nat.le_refl _) fun KP Q hQ => ?_
  simp (disch := first | omega | assumption) only [ir60, steps, st2, pev, rev, oev, optr, ibin, sbin, ishf, bound, mmAll, mm2, mk, mkArgs, AV.cells, AV.boxable, AV.one, AV.strip1, fillA, fillS, Nat.reduceEqDiff, reduceCtorEq, ↓reduceIte, Nat.reduceAdd, Int.reduceNeg, Nat.reduceLeDiff, Int.reduceToNat, Int.reduceEq, Int.reduceLT, Int.reduceLE, Int.reduceAdd]
  refine goK_pure (numeralR s hs) ?_
  by_cases h : (numN s).1 = s.length
  · have h' : ((numN s).1 : Int) = s.length := by omega
    simp (disch := first | omega | assumption) only [h', steps, st2, pev, rev, oev, optr, ibin, sbin, ishf, bound, mmAll, mm2, mk, mkArgs, AV.cells, AV.boxable, AV.one, AV.strip1, fillA, fillS, Nat.reduceEqDiff, reduceCtorEq, ↓reduceIte, Nat.reduceAdd, Int.reduceNeg, Nat.reduceLeDiff, Int.reduceToNat, Int.reduceEq, Int.reduceLT, Int.reduceLE, Int.reduceAdd]
    exact hQ _ _ _ _ nofun rfl (by simp [tupOf, envOf, AV.strip, AV.strip1, numK, h])
  · have h' : ¬ ((numN s).1 : Int) = s.length := by omega
    simp (disch := first | omega | assumption) only [h', steps, st2, pev, rev, oev, optr, ibin, sbin, ishf, bound, mmAll, mm2, mk, mkArgs, AV.cells, AV.boxable, AV.one, AV.strip1, fillA, fillS, Nat.reduceEqDiff, reduceCtorEq, ↓reduceIte, Nat.reduceAdd, Int.reduceNeg, Nat.reduceLeDiff, Int.reduceToNat, Int.reduceEq, Int.reduceLT, Int.reduceLE, Int.reduceAdd]
    exact hQ _ _ _ _ nofun rfl (by simp [tupOf, envOf, AV.strip, AV.strip1, numK, h])

/-! a whole number, read with its sign turned -/
def dg (c : UInt8) : Int := IntKind.u8.wrap ((c.toNat : Int) - 48)
theorem dg_le (c : UInt8) : 0 ≤ dg c ∧ dg c ≤ 255 := by
  unfold dg IntKind.wrap
  simp [IntKind.signed, IntKind.bits]
  omega
theorem dg_digit {c : UInt8} (h : isD c = true) : dg c = (c.toNat : Int) - 48 := by
  simp only [isD, Bool.and_eq_true, decide_eq_true_eq] at h
  unfold dg IntKind.wrap
  simp [IntKind.signed, IntKind.bits]
  omega
def i64N : List UInt8 → Int → Option Int
  | [], a => some a
  | c :: r, a => if a < Int.tdiv (-9223372036854775808 + dg c) 10 then none else i64N r (10 * a - dg c)
theorem step_ok {a d : Int} (h0 : 0 ≤ d) (h1 : d ≤ 255) (ha : -9223372036854775808 ≤ a) (ha2 : a ≤ 0) (h : ¬ a < Int.tdiv (-9223372036854775808 + d) 10) : -9223372036854775808 ≤ 10 * a - d ∧ 10 * a - d ≤ 0 := by
  have e : Int.tdiv (-9223372036854775808 + d) 10 = -((9223372036854775808 - d) / 10) := by
    rw [show (-9223372036854775808 + d) = -(9223372036854775808 - d) by omega, Int.neg_tdiv, Int.tdiv_eq_ediv_of_nonneg (by omega)]
  rw [e] at h
  omega
def i64R (s : List UInt8) : Int × Bool :=
  if s.head? = some 45 then (match i64N s.tail 0 with | some a => (a, true) | none => (0, false))
  else (match i64N s 0 with | some a => if a = -9223372036854775808 then (0, false) else (-a, true) | none => (0, false))

theorem int64R (s : List UInt8) (hs : s.length ≤ Lim) : Pure Tryd.prog 61 [.str s] (.tup [.int .i64 (i64R s).1, .bool (i64R s).2]) := by
  refine Pure.go ir61 ck61 (Nat.le_refl _) fun KP Q hQ => ?_
  simp only [Lim] at hs
  simp (disch := first | omega | assumption) only [ir61, steps, st2, pev, rev, oev, optr, ibin, sbin, ishf, bound, mmAll, mm2, mk, mkArgs, AV.cells, AV.boxable, AV.one, AV.strip1, fillA, fillS, Nat.reduceEqDiff, reduceCtorEq, ↓reduceIte, Nat.reduceAdd, Int.reduceNeg, Nat.reduceLeDiff, Int.reduceToNat, Int.reduceEq, Int.reduceLT, Int.reduceLE, Int.reduceAdd]
  refine goU_cut (fun x : Nat × Bool => [(4, .int .i64 x.1), (5, .bool x.2)]) (fun x H => x = (if s.head? = some 45 then (1, true) else (0, false)) ∧ H = Heap.emp) (fun J hJ => ?_) ?_
  · cases s with
    | nil =>
      simp (disch := first | omega | assumption) only [steps, st2, pev, rev, oev, optr, ibin, sbin, ishf, bound, mmAll, mm2, mk, mkArgs, AV.cells, AV.boxable, AV.one, AV.strip1, fillA, fillS, Nat.reduceEqDiff, reduceCtorEq, ↓reduceIte, Nat.reduceAdd, Int.reduceNeg, Nat.reduceLeDiff, Int.reduceToNat, Int.reduceEq, Int.reduceLT, Int.reduceLE, Int.reduceAdd]
      exact goJ (hJ (0, false) _ ⟨rfl, rfl⟩) (by simp (disch := first | omega | assumption) only [steps, st2, pev, rev, oev, optr, ibin, sbin, ishf, bound, mmAll, mm2, mk, mkArgs, AV.cells, AV.boxable, AV.one, AV.strip1, fillA, fillS, Nat.reduceEqDiff, reduceCtorEq, ↓reduceIte, Nat.reduceAdd, Int.reduceNeg, Nat.reduceLeDiff, Int.reduceToNat, Int.reduceEq, Int.reduceLT, Int.reduceLE, Int.reduceAdd])
    | cons c t =>
      have hp : (0 : Int) < ((t.length + 1 : Nat) : Int) := by omega
      by_cases h : c = 45
      · have h' : (c.toNat : Int) = 45 := by rw [h]; rfl
        simp (disch := first | omega | assumption) only [hp, h', steps, st2, pev, rev, oev, optr, ibin, sbin, ishf, bound, mmAll, mm2, mk, mkArgs, AV.cells, AV.boxable, AV.one, AV.strip1, fillA, fillS, Nat.reduceEqDiff, reduceCtorEq, ↓reduceIte, Nat.reduceAdd, Int.reduceNeg, Nat.reduceLeDiff, Int.reduceToNat, Int.reduceEq, Int.reduceLT, Int.reduceLE, Int.reduceAdd]
        exact goJ (hJ (1, true) _ ⟨by rw [h]; rfl, rfl⟩) (by simp (disch := first | omega | assumption) only [steps, st2, pev, rev, oev, optr, ibin, sbin, ishf, bound, mmAll, mm2, mk, mkArgs, AV.cells, AV.boxable, AV.one, AV.strip1, fillA, fillS, Nat.reduceEqDiff, reduceCtorEq, ↓reduceIte, Nat.reduceAdd, Int.reduceNeg, Nat.reduceLeDiff, Int.reduceToNat, Int.reduceEq, Int.reduceLT, Int.reduceLE, Int.reduceAdd])
      · have h' : ¬ (c.toNat : Int) = 45 := u8_ne (n := 45) (by omega) h
        simp (disch := first | omega | assumption) only [hp, h', steps, st2, pev, rev, oev, optr, ibin, sbin, ishf, bound, mmAll, mm2, mk, mkArgs, AV.cells, AV.boxable, AV.one, AV.strip1, fillA, fillS, Nat.reduceEqDiff, reduceCtorEq, ↓reduceIte, Nat.reduceAdd, Int.reduceNeg, Nat.reduceLeDiff, Int.reduceToNat, Int.reduceEq, Int.reduceLT, Int.reduceLE, Int.reduceAdd]
        exact goJ (hJ (0, false) _ ⟨by simp [h], rfl⟩) (by simp (disch := first | omega | assumption) only [steps, st2, pev, rev, oev, optr, ibin, sbin, ishf, bound, mmAll, mm2, mk, mkArgs, AV.cells, AV.boxable, AV.one, AV.strip1, fillA, fillS, Nat.reduceEqDiff, reduceCtorEq, ↓reduceIte, Nat.reduceAdd, Int.reduceNeg, Nat.reduceLeDiff, Int.reduceToNat, Int.reduceEq, Int.reduceLT, Int.reduceLE, Int.reduceAdd])
  rintro ⟨n0, neg⟩ H ⟨hx, rfl⟩
  have hn0 : n0 ≤ s.length := by
    split at hx
    · rename_i h
      cases s with
      | nil => simp at h
      | cons c t => cases hx; simp
    · cases hx; omega
  have hR : i64R s = if neg then (match i64N (s.drop n0) 0 with | some a => (a, true) | none => (0, false)) else (match i64N (s.drop n0) 0 with | some a => if a = -9223372036854775808 then (0, false) else (-a, true) | none => (0, false)) := by
    unfold i64R
    split at hx
    · rename_i h
      cases hx
      rw [if_pos h]
      simp
    · rename_i h
      cases hx
      rw [if_neg h]
      simp
  simp (disch := first | omega | assumption) only [steps, st2, pev, rev, oev, optr, ibin, sbin, ishf, bound, mmAll, mm2, mk, mkArgs, AV.cells, AV.boxable, AV.one, AV.strip1, fillA, fillS, Nat.reduceEqDiff, reduceCtorEq, ↓reduceIte, Nat.reduceAdd, Int.reduceNeg, Nat.reduceLeDiff, Int.reduceToNat, Int.reduceEq, Int.reduceLT, Int.reduceLE, Int.reduceAdd]
  refine goL_st (fun x : Nat × Int => [(4, .int .i64 x.1), (6, .int .i64 x.2)]) (fun x H => i64N (s.drop x.1) x.2 = i64N (s.drop n0) 0 ∧ x.1 ≤ s.length ∧ (-9223372036854775808 ≤ x.2 ∧ x.2 ≤ 0)) (fun x => s.length - x.1) (n0, 0) (by simp (disch := first | omega | assumption) only [steps, st2, pev, rev, oev, optr, ibin, sbin, ishf, bound, mmAll, mm2, mk, mkArgs, AV.cells, AV.boxable, AV.one, AV.strip1, fillA, fillS, Nat.reduceEqDiff, reduceCtorEq, ↓reduceIte, Nat.reduceAdd, Int.reduceNeg, Nat.reduceLeDiff, Int.reduceToNat, Int.reduceEq, Int.reduceLT, Int.reduceLE, Int.reduceAdd]) ⟨rfl, hn0, by omega, by omega⟩ ?_
  rintro ⟨n, a⟩ H J ⟨hn, hle, ha1, ha2⟩ hJ
  simp only at hn hle ha1 ha2
  rcases drop_cases s n with ⟨e1, e2⟩ | ⟨e1, e2⟩
  · have hlt : ¬ (n : Int) < s.length := by omega
    rw [e1] at hn
    simp only [i64N] at hn
    rw [← hn] at hR
    cases neg with
    | true =>
      simp (disch := first | omega | assumption) only [hlt, steps, st2, pev, rev, oev, optr, ibin, sbin, ishf, bound, mmAll, mm2, mk, mkArgs, AV.cells, AV.boxable, AV.one, AV.strip1, fillA, fillS, Nat.reduceEqDiff, reduceCtorEq, ↓reduceIte, Nat.reduceAdd, Int.reduceNeg, Nat.reduceLeDiff, Int.reduceToNat, Int.reduceEq, Int.reduceLT, Int.reduceLE, Int.reduceAdd]
      exact hQ _ _ _ _ nofun rfl (by simp [tupOf, envOf, AV.strip, AV.strip1, hR])
    | false =>
      by_cases hm : a = -9223372036854775808
      · simp (disch := first | omega | assumption) only [hlt, hm, steps, st2, pev, rev, oev, optr, ibin, sbin, ishf, bound, mmAll, mm2, mk, mkArgs, AV.cells, AV.boxable, AV.one, AV.strip1, fillA, fillS, Nat.reduceEqDiff, reduceCtorEq, ↓reduceIte, Nat.reduceAdd, Int.reduceNeg, Nat.reduceLeDiff, Int.reduceToNat, Int.reduceEq, Int.reduceLT, Int.reduceLE, Int.reduceAdd]
        exact hQ _ _ _ _ nofun rfl (by simp [tupOf, envOf, AV.strip, AV.strip1, hR, hm])
      · simp (disch := first | omega | assumption) only [hlt, hm, wrap64, steps, st2, pev, rev, oev, optr, ibin, sbin, ishf, bound, mmAll, mm2, mk, mkArgs, AV.cells, AV.boxable, AV.one, AV.strip1, fillA, fillS, Nat.reduceEqDiff, reduceCtorEq, ↓reduceIte, Nat.reduceAdd, Int.reduceNeg, Nat.reduceLeDiff, Int.reduceToNat, Int.reduceEq, Int.reduceLT, Int.reduceLE, Int.reduceAdd]
        exact hQ _ _ _ _ nofun rfl (by simp [tupOf, envOf, AV.strip, AV.strip1, hR, hm])
  · have hlt : (n : Int) < s.length := by omega
    obtain ⟨c, hc⟩ : ∃ c, s.getD n 0 = c := ⟨_, rfl⟩
    rw [hc] at e2
    rw [e2] at hn
    simp only [i64N] at hn
    have hd := dg_le c
    have hdg : IntKind.u8.wrap ((c.toNat : Int) - 48) = dg c := rfl
    have he : Int.tdiv (-9223372036854775808 + dg c) 10 = -((9223372036854775808 - dg c) / 10) := by
      rw [show (-9223372036854775808 + dg c) = -(9223372036854775808 - dg c) by omega, Int.neg_tdiv, Int.tdiv_eq_ediv_of_nonneg (by omega)]
    by_cases hb : a < Int.tdiv (-9223372036854775808 + dg c) 10
    · rw [if_pos hb] at hn
      rw [← hn] at hR
      simp (disch := first | omega | assumption) only [hlt, hc, hdg, wrap64, hb, steps, st2, pev, rev, oev, optr, ibin, sbin, ishf, bound, mmAll, mm2, mk, mkArgs, AV.cells, AV.boxable, AV.one, AV.strip1, fillA, fillS, Nat.reduceEqDiff, reduceCtorEq, ↓reduceIte, Nat.reduceAdd, Int.reduceNeg, Nat.reduceLeDiff, Int.reduceToNat, Int.reduceEq, Int.reduceLT, Int.reduceLE, Int.reduceAdd]
      cases neg with
      | true => exact hQ _ _ _ _ nofun rfl (by simp [tupOf, envOf, AV.strip, AV.strip1, hR])
      | false => exact hQ _ _ _ _ nofun rfl (by simp [tupOf, envOf, AV.strip, AV.strip1, hR])
    · have hst := step_ok hd.1 hd.2 ha1 ha2 hb
      rw [if_neg hb] at hn
      simp (disch := first | omega | assumption) only [hlt, hc, hdg, wrap64, hb, steps, st2, pev, rev, oev, optr, ibin, sbin, ishf, bound, mmAll, mm2, mk, mkArgs, AV.cells, AV.boxable, AV.one, AV.strip1, fillA, fillS, Nat.reduceEqDiff, reduceCtorEq, ↓reduceIte, Nat.reduceAdd, Int.reduceNeg, Nat.reduceLeDiff, Int.reduceToNat, Int.reduceEq, Int.reduceLT, Int.reduceLE, Int.reduceAdd]
      exact goJ (hJ (n + 1, 10 * a - dg c) _ (by simp only; omega) ⟨hn, by simp only; omega, hst⟩) (by simp (disch := first | omega | assumption) only [Int.natCast_add, Int.natCast_one, steps, st2, pev, rev, oev, optr, ibin, sbin, ishf, bound, mmAll, mm2, mk, mkArgs, AV.cells, AV.boxable, AV.one, AV.strip1, fillA, fillS, Nat.reduceEqDiff, reduceCtorEq, ↓reduceIte, Nat.reduceAdd, Int.reduceNeg, Nat.reduceLeDiff, Int.reduceToNat, Int.reduceEq, Int.reduceLT, Int.reduceLE, Int.reduceAdd])

/-! it is strconv.ParseInt's answer, on digits -/
def decV (acc : Nat) (l : List UInt8) : Nat := l.foldl (fun a c => a * 10 + (c.toNat - 48)) acc
theorem decV_nil (acc : Nat) : decV acc [] = acc := by unfold decV; rw [List.foldl_nil]
theorem decV_cons (acc : Nat) (c : UInt8) (r : List UInt8) : decV acc (c :: r) = decV (acc * 10 + (c.toNat - 48)) r := by unfold decV; rw [List.foldl_cons]
theorem i64N_cons (c : UInt8) (r : List UInt8) (a : Int) : i64N (c :: r) a = if a < Int.tdiv (-9223372036854775808 + dg c) 10 then none else i64N r (10 * a - dg c) := by rw [i64N]
theorem decV_ge : ∀ (r : List UInt8) (acc : Nat), acc ≤ decV acc r
  | [], acc => by rw [decV_nil]; exact Nat.le_refl _
  | c :: r, acc => by have := decV_ge r (acc * 10 + (c.toNat - 48)); rw [decV_cons]; omega

theorem i64N_digits : ∀ (r : List UInt8) (acc : Nat), (∀ c ∈ r, isD c = true) → acc ≤ 9223372036854775808 → i64N r (-(acc : Int)) = if decV acc r ≤ 9223372036854775808 then some (-(decV acc r : Int)) else none
  | [], acc, _, h => by rw [decV_nil, if_pos h]; rfl
  | c :: r, acc, hd, h => by
    have hc := hd c (by simp)
    have hv := dg_digit hc
    simp only [isD, Bool.and_eq_true, decide_eq_true_eq] at hc
    have he : Int.tdiv (-9223372036854775808 + dg c) 10 = -((9223372036854775808 - dg c) / 10) := by
      rw [show (-9223372036854775808 + dg c) = -(9223372036854775808 - dg c) by omega, Int.neg_tdiv, Int.tdiv_eq_ediv_of_nonneg (by omega)]
    have hg := decV_ge r (acc * 10 + (c.toNat - 48))
    rw [i64N_cons, decV_cons]
    by_cases hb : -(acc : Int) < Int.tdiv (-9223372036854775808 + dg c) 10
    · rw [if_pos hb, if_neg (by omega)]
    · rw [if_neg hb]
      have e : 10 * -(acc : Int) - dg c = -((acc * 10 + (c.toNat - 48) : Nat) : Int) := by omega
      rw [e]
      exact i64N_digits r _ (fun x hx => hd x (by simp [hx])) (by omega)

theorem parse_digits : ∀ (r : List UInt8) (acc : Nat), (∀ c ∈ r, isD c = true) → acc < 18446744073709551616 → Lib.parseUint10 acc r = if decV acc r < 18446744073709551616 then .ok (decV acc r) else .range
  | [], acc, _, h => by rw [decV_nil, if_pos h]; rfl
  | c :: r, acc, hd, h => by
    have hc := hd c (by simp)
    simp only [isD, Bool.and_eq_true, decide_eq_true_eq] at hc
    have hg := decV_ge r (acc * 10 + (c.toNat - 48))
    rw [decV_cons]
    simp only [Lib.parseUint10]
    rw [if_pos hc]
    by_cases h1 : 1844674407370955162 ≤ acc
    · rw [if_pos h1, if_neg (by omega)]
    · rw [if_neg h1]
      by_cases h2 : 18446744073709551616 ≤ acc * 10 + (c.toNat - 48)
      · rw [if_pos h2, if_neg (by omega)]
      · rw [if_neg h2]
        exact parse_digits r _ (fun x hx => hd x (by simp [hx])) (by omega)

theorem run1_full : ∀ l : List UInt8, run1 l = l.length → ∀ c ∈ l, isD c = true
  | [], _, c, hc => by cases hc
  | x :: r, h, c, hc => by
    simp only [run1, List.length_cons] at h
    split at h
    · rename_i hx
      rcases List.mem_cons.1 hc with e | e
      · subst e; exact hx
      · exact run1_full r (by omega) c e
    · omega
theorem intN_full {l : List UInt8} (h : intN l = l.length) (h0 : run1 l ≠ 0) : ∀ c ∈ l, isD c = true := by
  unfold intN at h
  rw [if_neg h0] at h
  split at h
  · apply run1_full
    have := run1_le l
    omega
  · exact run1_full l h

theorem wholeN_neg (t : List UInt8) : wholeN (45 :: t) = if run1 t = 0 then 0 else 1 + intN t := by
  unfold wholeN; exact if_pos rfl
theorem wholeN_pos {s : List UInt8} (h : ¬ s.head? = some 45) : wholeN s = intN s := by
  unfold wholeN; exact if_neg h

theorem num3 {s : List UInt8} (h : numK s = 3) : (∃ t, s = 45 :: t ∧ t ≠ [] ∧ ∀ c ∈ t, isD c = true) ∨ (∃ c t, s = c :: t ∧ ∀ x ∈ s, isD x = true) := by
  unfold numK at h
  split at h
  · rename_i hl
    unfold numN at h hl
    split at h
    · simp at h
    · rename_i hw
      rw [if_neg hw] at hl
      simp only at h hl
      split at h
      · rename_i hfp
        rw [hfp.2, hfp.1] at hl
        simp only [Nat.add_zero] at hl
        by_cases h45 : s.head? = some 45
        · cases s with
          | nil => simp at h45
          | cons c t =>
            have hc : c = 45 := by simpa using h45
            subst hc
            rw [wholeN_neg] at hl hw
            by_cases h0 : run1 t = 0
            · rw [if_pos h0] at hw; omega
            · rw [if_neg h0] at hl
              refine .inl ⟨t, rfl, ?_, intN_full (by simp only [List.length_cons] at hl; omega) h0⟩
              intro e; subst e; exact h0 rfl
        · rw [wholeN_pos h45] at hl hw
          have h0 : run1 s ≠ 0 := fun e => hw (by simp [intN, e])
          cases s with
          | nil => exact absurd rfl h0
          | cons c t => exact .inr ⟨c, t, rfl, intN_full hl h0⟩
      · omega
  · omega

theorem i64R_neg (t : List UInt8) : i64R (45 :: t) = match i64N t 0 with | some a => (a, true) | none => (0, false) := by
  unfold i64R; exact if_pos rfl
theorem i64R_pos {c : UInt8} (t : List UInt8) (h : c ≠ 45) : i64R (c :: t) = match i64N (c :: t) 0 with | some a => if a = -9223372036854775808 then (0, false) else (-a, true) | none => (0, false) := by
  unfold i64R; exact if_neg (fun e => h (by simpa using e))

theorem i64_ok {s : List UInt8} (h : numK s = 3) : (i64R s).2 = okI (Lib.parseIntB 64 s) := by
  rw [Lib.parseIntB_64]
  rcases num3 h with ⟨t, rfl, hne, hd⟩ | ⟨c, t, rfl, hd⟩
  · have h1 := i64N_digits t 0 hd (by omega)
    have h2 := parse_digits t 0 hd (by omega)
    simp only [Int.natCast_zero, Int.neg_zero] at h1
    rw [Lib.atoiAll_minus, i64R_neg, h1]
    unfold Lib.parseMag
    rw [if_neg hne, h2]
    generalize decV 0 t = V
    by_cases a : V ≤ 9223372036854775808
    · rw [if_pos a, if_pos (by omega)]
      simp only [Lib.signed]
      rw [if_neg (by omega)]
      rfl
    · rw [if_neg a]
      by_cases b : V < 18446744073709551616
      · rw [if_pos b]
        simp only [Lib.signed]
        rw [if_pos (by omega)]
        rfl
      · rw [if_neg b]
        rfl
  · have h1 := i64N_digits (c :: t) 0 hd (by omega)
    have h2 := parse_digits (c :: t) 0 hd (by omega)
    have hc := hd c (by simp)
    simp only [isD, Bool.and_eq_true, decide_eq_true_eq] at hc
    have h45 : c ≠ 45 := fun e => by subst e; simp at hc
    simp only [Int.natCast_zero, Int.neg_zero] at h1
    rw [Lib.atoiAll_plain c t (by omega) (by omega), i64R_pos t h45, h1]
    unfold Lib.parseMag
    rw [if_neg (List.cons_ne_nil c t), h2]
    generalize decV 0 (c :: t) = V
    by_cases a : V ≤ 9223372036854775808
    · rw [if_pos a, if_pos (by omega)]
      simp only [Lib.signless]
      by_cases b : V = 9223372036854775808
      · rw [if_pos (by omega), if_pos (by omega)]; rfl
      · rw [if_neg (by omega), if_neg (by omega)]; rfl
    · rw [if_neg a]
      by_cases b : V < 18446744073709551616
      · rw [if_pos b]
        simp only [Lib.signless]
        rw [if_pos (by omega)]
        rfl
      · rw [if_neg b]
        rfl

/-- The document's clause on a number's text. -/
theorem num_clause (s : List UInt8) : (decide (s ≠ []) && (decide (numK s ≠ 0) && (decide (numK s = 4) || !(i64R s).2))) = numB s := by
  unfold numB wholeB
  by_cases h4 : numK s = 4
  · have hs : s ≠ [] := fun e => by subst e; revert h4; decide
    simp [h4, hs]
  · by_cases h3 : numK s = 3
    · have hs : s ≠ [] := fun e => by subst e; revert h3; decide
      simp [h3, hs, i64_ok h3]
    · have h0 : numK s = 0 := by
        unfold numK at *
        unfold numN at *
        by_cases a : wholeN s = 0
        · simp [a]
        · simp only [a, if_false] at *
          split
          · rename_i e
            rw [if_pos e] at h3 h4
            split at h3 <;> simp_all
          · rfl
      simp [h3, h4, h0]
end Go.Proofs.YtpjafglhdlfnbaaDoor
