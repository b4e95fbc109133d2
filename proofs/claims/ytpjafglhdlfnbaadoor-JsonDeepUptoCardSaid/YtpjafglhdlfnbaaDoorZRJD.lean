import Derived.Test.YtpjafglhdlfnbaaDoorM1
import Derived.Test.YtpjafglhdlfnbaaDoorM2
import Derived.Test.YtpjafglhdlfnbaaDoorM3
import Derived.Test.YtpjafglhdlfnbaaDoorM4
import Derived.Test.YtpjafglhdlfnbaaDoorM5
set_option maxRecDepth 100000
set_option linter.unusedSimpArgs false
set_option linter.unusedVariables false
namespace Go.Proofs.YtpjafglhdlfnbaaDoor
open Go.Ab Go.Lib
def opn (b : Bool) : List UInt8 := if b then [91] else [123, 34, 97, 34, 58]
def opl (l : List Bool) : List UInt8 := l.flatMap opn
theorem opl_snoc (l : List Bool) (b : Bool) : opl (l ++ [b]) = opl l ++ opn b := by simp [opl]
theorem opl_cons (l : List Bool) (b : Bool) : opl (b :: l) = opn b ++ opl l := by simp [opl]
theorem opl_low (l : List Bool) : ∀ c ∈ opl l, c.toNat < 128 := fun c hc => by
  simp only [opl, List.mem_flatMap] at hc
  obtain ⟨b, _, hc⟩ := hc
  cases b
  · simp only [opn, Bool.false_eq_true, if_false] at hc; revert c; decide
  · simp only [opn, if_true] at hc; revert c; decide
/-- Too many brackets. -/
theorem opl_deep : ∀ (q : Nat) (l : List Bool) (r : List UInt8), q < l.length → valM q (opl l ++ r) = .error 4
  | _, [], _, h => by simp at h
  | 0, b :: l, r, _ => by
    rw [opl_cons, List.append_assoc]
    cases b
    · simp only [opn, Bool.false_eq_true, if_false, List.cons_append, valM, skB_no (show bk 123 = false by decide)]; rw [if_pos (by simp)]
    · simp only [opn, if_true, List.cons_append, valM, skB_no (show bk 91 = false by decide)]; rw [if_pos (by simp)]
  | q + 1, b :: l, r, h => by
    have h' : q < l.length := by simpa using h
    have ih := opl_deep q l r h'
    rw [opl_cons, List.append_assoc]
    cases b
    · simp only [opn, Bool.false_eq_true, if_false, List.cons_append, List.nil_append, valM, skB_no (show bk 123 = false by decide), headM]
      rw [if_pos trivial, mapM, mayM_no (show bk 34 = false by decide) (by decide)]
      have e : 34 :: 97 :: 34 :: 58 :: (opl l ++ r) = quoteM [97] ++ (58 :: (opl l ++ r)) := rfl
      simp only
      rw [e, memberM, textM_q]
      simp only [RR.bind, hasN, Bool.false_eq_true, if_false, mustM_yes (show bk 58 = false by decide), ih]
    · simp only [opn, if_true, List.cons_append, List.nil_append, valM, skB_no (show bk 91 = false by decide), headM]
      rw [if_neg (by decide), listM]
      have hm : mayM [93] (opl l ++ r) = none := by
        cases l with
        | nil => simp at h'
        | cons b l =>
          rw [opl_cons, List.append_assoc]
          cases b
          · exact mayM_no (c := 123) (by decide) (by decide)
          · exact mayM_no (c := 91) (by decide) (by decide)
      rw [hm]
      simp only [RR.bind, ih]
theorem read_opl {l : List Bool} {r : List UInt8} (hl : (opl l).length + r.length ≤ 8192) (hr : validD r = true) (h : 16 < l.length) : readM (opl l ++ r) = (nullV, 4) := by
  unfold readM
  rw [if_neg (by simp; omega), validA2 (low_valid (opl_low l)) hr, opl_deep 16 l r h]
  rfl
/-- The texts of JsonDeep: ahead and behind. -/
structure Deep (k i : Nat) (s t : List UInt8) : Prop where
  op : ∃ l, s = opl l ∧ l.length = i
  br : i ≤ k → s = List.replicate i 91
  val : ∃ v, s ++ t = putV v ∧ rightV v = true ∧ wfV v ∧ depthV v = i
  len : s.length + t.length ≤ 6 * i + 1
def oneV : Val := .mk 2 1 [] [] []
theorem put_one : putV oneV = [49] := by simp [putV, oneV, itoa, decDigits]
theorem Deep.zero (k : Nat) : Deep k 0 [] [49] := ⟨⟨[], rfl, rfl⟩, fun _ => rfl, ⟨oneV, by rw [put_one]; exact List.nil_append _, by decide, by simp [oneV, wfV, wfVs, wfMs, inR], by simp [depthV, oneV]⟩, by simp⟩
theorem Deep.list {k i : Nat} {s t : List UInt8} (h : Deep k i s t) (hi : i < k) : Deep k (i + 1) (s ++ [91]) (t ++ [93]) := by
  obtain ⟨⟨l, h1, h2⟩, hb, ⟨v, h3, h4, h5, h6⟩, hlen⟩ := h
  have hs := hb (by omega)
  refine ⟨⟨l ++ [true], by rw [opl_snoc, ← h1]; rfl, by simp [h2]⟩, fun _ => by rw [hs, List.replicate_succ'], ⟨.mk 6 0 [] [v] [], ?_, ?_, ⟨by simp [inR], ⟨h5, trivial⟩, trivial⟩, ?_⟩, by simp; omega⟩
  · have e : putV (.mk 6 0 [] [v] []) = 91 :: (putV v ++ [93]) := by simp [putV, putVs]
    rw [e, ← h3, hs]
    have e2 : List.replicate i (91 : UInt8) ++ [91] = 91 :: List.replicate i 91 := by rw [← List.replicate_succ', List.replicate_succ]
    rw [← List.append_assoc, e2]; simp
  · simp only [rightV, goodV, Bool.and_eq_true] at h4
    simp [rightV, goodV, allV, allVs, bareM, singV, singVs, singMs, h4.1, h4.2]
  · simp only [depthV, if_true, depthVs, mm2, h6]
    split <;> omega
theorem Deep.map {k i : Nat} {s t : List UInt8} (h : Deep k i s t) (hi : k ≤ i) : Deep k (i + 1) ([123, 34, 97, 34, 58] ++ s) (t ++ [125]) := by
  obtain ⟨⟨l, h1, h2⟩, hb, ⟨v, h3, h4, h5, h6⟩, hlen⟩ := h
  refine ⟨⟨false :: l, by rw [opl_cons, ← h1]; rfl, by simp [h2]⟩, fun h => by omega, ⟨.mk 7 0 [] [] [.mk [97] v], ?_, ?_, ⟨by simp [inR], trivial, ⟨h5, trivial⟩⟩, ?_⟩, by simp; omega⟩
  · have e : putV (.mk 7 0 [] [] [.mk [97] v]) = 123 :: 34 :: 97 :: 34 :: 58 :: (putV v ++ [125]) := by
      simp [putV, putMs, putM, quoteM, qB]
    rw [e, ← h3]; simp
  · simp only [rightV, goodV, Bool.and_eq_true] at h4
    have hv : validD [97] = true := by decide
    simp [rightV, goodV, allV, allMs, allM, bareM, singV, singVs, singMs, singM, nmM, h4.1, h4.2, hv]
  · simp only [depthV]
    rw [if_neg (by decide), if_pos trivial]
    simp only [depthMs, depthM, mm2, h6, if_true]
    split <;> omega
def numMs (l : List (List UInt8)) : List Mem := l.map fun s => .mk s oneV
def dupB : List (List UInt8) → List (List UInt8) → Bool
  | _, [] => false
  | ns, s :: l => ns.contains s || dupB (ns ++ [s]) l
theorem numMs_sing : ∀ (l ns : List (List UInt8)), singMs ns (numMs l) = !dupB ns l
  | [], _ => rfl
  | s :: l, ns => by
    have := numMs_sing l (ns ++ [s])
    simp only [numMs, List.map_cons, singMs, nmM, singM, dupB] at this ⊢
    rw [this]
    have e : singV oneV = true := by decide
    rw [e]; simp
theorem back_one (n : Nat) : BackV n oneV := back oneV (by decide) (by simp [oneV, wfV, wfVs, wfMs, inR]) n
theorem members_dup (n : Nat) : ∀ (l : List (List UInt8)) (acc : List Mem) (fuel : Nat) (r : List UInt8), dupB (acc.map nmM) l = true → (putMs false (numMs l)).length < fuel →
    membersM (valM n) fuel acc (putMs false (numMs l) ++ 125 :: r) = .error 5
  | _, _, 0, _, _, h => by omega
  | [], _, _, _, h, _ => by cases h
  | s :: l, acc, fuel + 1, r, hd, hf => by
    have hf' : (putMs false (numMs l)).length < fuel := by
      simp only [numMs, List.map_cons, putMs, Bool.false_eq_true, if_false, List.length_append, List.length_cons, List.length_nil] at hf ⊢; omega
    have e : putMs false (numMs (s :: l)) ++ 125 :: r = 44 :: (putM (.mk s oneV) ++ (putMs false (numMs l) ++ 125 :: r)) := by simp [putMs, numMs]
    have hN : NoN (putMs false (numMs l) ++ 125 :: r) := by
      cases l with
      | nil => exact NoN_cons (by decide)
      | cons w l => exact NoN_cons (by decide)
    rw [e, membersM, mayM_no (show bk 44 = false by decide) (by decide)]
    simp only [mustM_yes (show bk 44 = false by decide), RR.bind]
    cases hc : (acc.map nmM).contains s with
    | true =>
      have e : putM (.mk s oneV) ++ (putMs false (numMs l) ++ 125 :: r) = quoteM s ++ (58 :: (putV oneV ++ (putMs false (numMs l) ++ 125 :: r))) := by simp [putM]
      rw [e, memberM, textM_q]
      simp only [RR.bind]
      rw [hasN_iff, hc]
      simp only [if_true]
    | false =>
      rw [member_back (back_one n) hN hc, if_pos (by simp [depthV, oneV])]
      simp only
      refine members_dup n l _ fuel r ?_ hf'
      simp only [dupB, hc, Bool.false_or] at hd
      simpa [nmM] using hd
theorem read_names {l : List (List UInt8)} (hv : ∀ s ∈ l, validD s = true) (hl : (123 :: (putMs true (numMs l) ++ [125])).length ≤ 8192) :
    readM (123 :: (putMs true (numMs l) ++ [125])) = if dupB [] l then (nullV, 5) else (.mk 7 0 [] [] (numMs l), 0) := by
  have hval : validD (123 :: (putMs true (numMs l) ++ [125])) = true := by
    rw [validD_cons _ _ (by decide)]
    refine validA2 (putMs_valid _ true fun s v hx => ?_) rfl
    simp only [numMs, List.mem_map] at hx
    obtain ⟨t, ht, e⟩ := hx
    cases e
    exact ⟨hv _ ht, by rw [put_one]; decide⟩
  unfold readM
  rw [if_neg (by omega), hval]
  simp only [Bool.not_true, Bool.false_eq_true, if_false]
  have e16 : valM 16 (123 :: (putMs true (numMs l) ++ [125])) = mapM (valM 15) (putMs true (numMs l) ++ [125]) := by
    simp only [valM, skB_no (show bk 123 = false by decide), headM]; rw [if_pos trivial]
  rw [e16]
  cases hd : dupB [] l with
  | false =>
    rw [map_back 15 (numMs l) [] (fun s v hx => ?_) (by rw [numMs_sing, hd]; rfl), if_pos]
    · rfl
    · intro x hx
      simp only [numMs, List.mem_map] at hx
      obtain ⟨t, ht, e⟩ := hx
      subst e; simp [depthM, depthV, oneV]
    · simp only [numMs, List.mem_map] at hx
      obtain ⟨t, ht, e⟩ := hx
      cases e; exact back_one 15
  | true =>
    cases l with
    | nil => cases hd
    | cons s l =>
      simp only [dupB, List.contains_nil, Bool.false_or, List.nil_append] at hd
      have e : putMs true (numMs (s :: l)) ++ [125] = putM (.mk s oneV) ++ (putMs false (numMs l) ++ [125]) := by simp [putMs, numMs]
      have hN : NoN (putMs false (numMs l) ++ [125]) := by
        cases l with
        | nil => exact NoN_cons (by decide)
        | cons w l => exact NoN_cons (by decide)
      have hm : mayM [125] (putM (.mk s oneV) ++ (putMs false (numMs l) ++ [125])) = none := mayM_no (c := 34) (by decide) (by decide)
      rw [e, mapM, hm]
      simp only [RR.bind, member_back (acc := []) (back_one 15) hN rfl]
      rw [if_pos (by simp [depthV, oneV])]
      simp only
      rw [members_dup 15 l _ _ [] (by simpa [nmM] using hd) (by simp only [List.length_append, List.length_cons]; omega)]
      rfl
end Go.Proofs.YtpjafglhdlfnbaaDoor
namespace Go.Proofs.YtpjafglhdlfnbaaDoor
open Go.Ab Go.Lib
theorem nat_succ (i : Nat) : ((i + 1 : Nat) : Int) = (i : Int) + 1 := rfl
theorem jsonDeep (n k : Int) (s : List UInt8) (hs : s.length ≤ maxLen) : Pure Tryd.prog 12 [.int .i64 n, .int .i64 k, .str s] (.bool true) := by
  refine Pure.go ir12 ck12 (Nat.le_refl _) fun KP Q hQ => ?_
  by_cases c1 : n < 1
  · simp (disch := first | omega | assumption) only [ir12, c1, steps, st2, pev, rev, oev, optr, ibin, sbin, ishf, bound, mmAll, mm2, mk, mkArgs, AV.cells, AV.boxable, AV.one, AV.strip1, fillA, fillS, Nat.reduceEqDiff, reduceCtorEq, ↓reduceIte, Nat.reduceAdd, Int.reduceNeg, Nat.reduceLeDiff, Int.reduceToNat, Int.reduceEq, Int.reduceLT, Int.reduceLE, Int.reduceAdd]
    refine goK_pure awakeJ ?_
    simp (disch := first | omega | assumption) only [steps, st2, pev, rev, oev, optr, ibin, sbin, ishf, bound, mmAll, mm2, mk, mkArgs, AV.cells, AV.boxable, AV.one, AV.strip1, fillA, fillS, Nat.reduceEqDiff, reduceCtorEq, ↓reduceIte, Nat.reduceAdd, Int.reduceNeg, Nat.reduceLeDiff, Int.reduceToNat, Int.reduceEq, Int.reduceLT, Int.reduceLE, Int.reduceAdd]
    exact hQ _ _ _ _ nofun rfl (by simp [tupOf, envOf, AV.strip, AV.strip1])
  by_cases c2 : 40 < n
  · simp (disch := first | omega | assumption) only [ir12, c1, c2, steps, st2, pev, rev, oev, optr, ibin, sbin, ishf, bound, mmAll, mm2, mk, mkArgs, AV.cells, AV.boxable, AV.one, AV.strip1, fillA, fillS, Nat.reduceEqDiff, reduceCtorEq, ↓reduceIte, Nat.reduceAdd, Int.reduceNeg, Nat.reduceLeDiff, Int.reduceToNat, Int.reduceEq, Int.reduceLT, Int.reduceLE, Int.reduceAdd]
    refine goK_pure awakeJ ?_
    simp (disch := first | omega | assumption) only [steps, st2, pev, rev, oev, optr, ibin, sbin, ishf, bound, mmAll, mm2, mk, mkArgs, AV.cells, AV.boxable, AV.one, AV.strip1, fillA, fillS, Nat.reduceEqDiff, reduceCtorEq, ↓reduceIte, Nat.reduceAdd, Int.reduceNeg, Nat.reduceLeDiff, Int.reduceToNat, Int.reduceEq, Int.reduceLT, Int.reduceLE, Int.reduceAdd]
    exact hQ _ _ _ _ nofun rfl (by simp [tupOf, envOf, AV.strip, AV.strip1])
  by_cases c3 : k < 0
  · simp (disch := first | omega | assumption) only [ir12, c1, c2, c3, steps, st2, pev, rev, oev, optr, ibin, sbin, ishf, bound, mmAll, mm2, mk, mkArgs, AV.cells, AV.boxable, AV.one, AV.strip1, fillA, fillS, Nat.reduceEqDiff, reduceCtorEq, ↓reduceIte, Nat.reduceAdd, Int.reduceNeg, Nat.reduceLeDiff, Int.reduceToNat, Int.reduceEq, Int.reduceLT, Int.reduceLE, Int.reduceAdd]
    refine goK_pure awakeJ ?_
    simp (disch := first | omega | assumption) only [steps, st2, pev, rev, oev, optr, ibin, sbin, ishf, bound, mmAll, mm2, mk, mkArgs, AV.cells, AV.boxable, AV.one, AV.strip1, fillA, fillS, Nat.reduceEqDiff, reduceCtorEq, ↓reduceIte, Nat.reduceAdd, Int.reduceNeg, Nat.reduceLeDiff, Int.reduceToNat, Int.reduceEq, Int.reduceLT, Int.reduceLE, Int.reduceAdd]
    exact hQ _ _ _ _ nofun rfl (by simp [tupOf, envOf, AV.strip, AV.strip1])
  by_cases c4 : n < k
  · simp (disch := first | omega | assumption) only [ir12, c1, c2, c3, c4, steps, st2, pev, rev, oev, optr, ibin, sbin, ishf, bound, mmAll, mm2, mk, mkArgs, AV.cells, AV.boxable, AV.one, AV.strip1, fillA, fillS, Nat.reduceEqDiff, reduceCtorEq, ↓reduceIte, Nat.reduceAdd, Int.reduceNeg, Nat.reduceLeDiff, Int.reduceToNat, Int.reduceEq, Int.reduceLT, Int.reduceLE, Int.reduceAdd]
    refine goK_pure awakeJ ?_
    simp (disch := first | omega | assumption) only [steps, st2, pev, rev, oev, optr, ibin, sbin, ishf, bound, mmAll, mm2, mk, mkArgs, AV.cells, AV.boxable, AV.one, AV.strip1, fillA, fillS, Nat.reduceEqDiff, reduceCtorEq, ↓reduceIte, Nat.reduceAdd, Int.reduceNeg, Nat.reduceLeDiff, Int.reduceToNat, Int.reduceEq, Int.reduceLT, Int.reduceLE, Int.reduceAdd]
    exact hQ _ _ _ _ nofun rfl (by simp [tupOf, envOf, AV.strip, AV.strip1])
  by_cases c5 : (100 : Int) < s.length
  · simp (disch := first | omega | assumption) only [ir12, c1, c2, c3, c4, c5, steps, st2, pev, rev, oev, optr, ibin, sbin, ishf, bound, mmAll, mm2, mk, mkArgs, AV.cells, AV.boxable, AV.one, AV.strip1, fillA, fillS, Nat.reduceEqDiff, reduceCtorEq, ↓reduceIte, Nat.reduceAdd, Int.reduceNeg, Nat.reduceLeDiff, Int.reduceToNat, Int.reduceEq, Int.reduceLT, Int.reduceLE, Int.reduceAdd]
    refine goK_pure awakeJ ?_
    simp (disch := first | omega | assumption) only [steps, st2, pev, rev, oev, optr, ibin, sbin, ishf, bound, mmAll, mm2, mk, mkArgs, AV.cells, AV.boxable, AV.one, AV.strip1, fillA, fillS, Nat.reduceEqDiff, reduceCtorEq, ↓reduceIte, Nat.reduceAdd, Int.reduceNeg, Nat.reduceLeDiff, Int.reduceToNat, Int.reduceEq, Int.reduceLT, Int.reduceLE, Int.reduceAdd]
    exact hQ _ _ _ _ nofun rfl (by simp [tupOf, envOf, AV.strip, AV.strip1])
  simp (disch := first | omega | assumption) only [ir12, c1, c2, c3, c4, c5, steps, st2, pev, rev, oev, optr, ibin, sbin, ishf, bound, mmAll, mm2, mk, mkArgs, AV.cells, AV.boxable, AV.one, AV.strip1, fillA, fillS, Nat.reduceEqDiff, reduceCtorEq, ↓reduceIte, Nat.reduceAdd, Int.reduceNeg, Nat.reduceLeDiff, Int.reduceToNat, Int.reduceEq, Int.reduceLT, Int.reduceLE, Int.reduceAdd]
  refine goK_pure (goodC s (by simp only [Lim]; omega)) ?_
  cases hv : validD s
  · simp (disch := first | omega | assumption) only [steps, st2, pev, rev, oev, optr, ibin, sbin, ishf, bound, mmAll, mm2, mk, mkArgs, AV.cells, AV.boxable, AV.one, AV.strip1, fillA, fillS, Nat.reduceEqDiff, reduceCtorEq, ↓reduceIte, Nat.reduceAdd, Int.reduceNeg, Nat.reduceLeDiff, Int.reduceToNat, Int.reduceEq, Int.reduceLT, Int.reduceLE, Int.reduceAdd]
    refine goK_pure awakeJ ?_
    simp (disch := first | omega | assumption) only [steps, st2, pev, rev, oev, optr, ibin, sbin, ishf, bound, mmAll, mm2, mk, mkArgs, AV.cells, AV.boxable, AV.one, AV.strip1, fillA, fillS, Nat.reduceEqDiff, reduceCtorEq, ↓reduceIte, Nat.reduceAdd, Int.reduceNeg, Nat.reduceLeDiff, Int.reduceToNat, Int.reduceEq, Int.reduceLT, Int.reduceLE, Int.reduceAdd]
    exact hQ _ _ _ _ nofun rfl (by simp [tupOf, envOf, AV.strip, AV.strip1])
  obtain ⟨m, rfl⟩ : ∃ m : Nat, n = m := ⟨n.toNat, by omega⟩
  obtain ⟨q, rfl⟩ : ∃ q : Nat, k = q := ⟨k.toNat, by omega⟩
  simp (disch := first | omega | assumption) only [steps, st2, pev, rev, oev, optr, ibin, sbin, ishf, bound, mmAll, mm2, mk, mkArgs, AV.cells, AV.boxable, AV.one, AV.strip1, fillA, fillS, Nat.reduceEqDiff, reduceCtorEq, ↓reduceIte, Nat.reduceAdd, Int.reduceNeg, Nat.reduceLeDiff, Int.reduceToNat, Int.reduceEq, Int.reduceLT, Int.reduceLE, Int.reduceAdd]
  refine goL_st (fun x : Nat × List UInt8 × List UInt8 => [(7, .str x.2.1), (8, .str x.2.2), (9, .int .i64 (x.1 : Int))]) (fun x H => H = Heap.emp ∧ x.1 ≤ m ∧ Deep q x.1 x.2.1 x.2.2) (fun x => m - x.1) (0, [], [49]) (by simp (disch := first | omega | assumption) only [steps, st2, pev, rev, oev, optr, ibin, sbin, ishf, bound, mmAll, mm2, mk, mkArgs, AV.cells, AV.boxable, AV.one, AV.strip1, fillA, fillS, Nat.reduceEqDiff, reduceCtorEq, ↓reduceIte, Nat.reduceAdd, Int.reduceNeg, Nat.reduceLeDiff, Int.reduceToNat, Int.reduceEq, Int.reduceLT, Int.reduceLE, Int.reduceAdd]) ⟨rfl, by omega, Deep.zero q⟩ ?_
  rintro ⟨i, a, b⟩ H J ⟨rfl, hi, hd⟩ hJ
  simp only at hi hd
  have hlen := hd.len
  by_cases h1 : i = m
  · subst h1
    have h2 : ¬ ((i : Int) < i) := by omega
    obtain ⟨⟨l, ha, hl⟩, _, ⟨v, e1, e2, e3, e4⟩, _⟩ := hd
    have hr := read_put e2 e3 (by rw [← e1]; simp; omega)
    rw [← e1] at hr
    simp (disch := first | omega | assumption) only [h2, steps, st2, pev, rev, oev, optr, ibin, sbin, ishf, bound, mmAll, mm2, mk, mkArgs, AV.cells, AV.boxable, AV.one, AV.strip1, fillA, fillS, Nat.reduceEqDiff, reduceCtorEq, ↓reduceIte, Nat.reduceAdd, Int.reduceNeg, Nat.reduceLeDiff, Int.reduceToNat, Int.reduceEq, Int.reduceLT, Int.reduceLE, Int.reduceAdd]
    refine goK_pure (readC (a ++ b) (by simp only [LimS, List.length_append]; omega)) ?_
    rw [hr]
    by_cases h3 : (16 : Int) < i
    · have h3' : ¬ (depthV v ≤ 16) := by omega
      rw [if_neg h3']
      simp (disch := first | omega | assumption) only [cV_len, cV_take, cV_splice, cM_len, cM_take, cM_splice, cM_mk, h3, steps, st2, pev, rev, oev, optr, ibin, sbin, ishf, bound, mmAll, mm2, mk, mkArgs, AV.cells, AV.boxable, AV.one, AV.strip1, fillA, fillS, Nat.reduceEqDiff, reduceCtorEq, ↓reduceIte, Nat.reduceAdd, Int.reduceNeg, Nat.reduceLeDiff, Int.reduceToNat, Int.reduceEq, Int.reduceLT, Int.reduceLE, Int.reduceAdd]
      refine goA_intro fun b1 hb1 => ?_
      simp (disch := first | omega | assumption) only [cV_len, cV_take, cV_splice, cM_len, cM_take, cM_splice, cM_mk, h3, steps, st2, pev, rev, oev, optr, ibin, sbin, ishf, bound, mmAll, mm2, mk, mkArgs, AV.cells, AV.boxable, AV.one, AV.strip1, fillA, fillS, Nat.reduceEqDiff, reduceCtorEq, ↓reduceIte, Nat.reduceAdd, Int.reduceNeg, Nat.reduceLeDiff, Int.reduceToNat, Int.reduceEq, Int.reduceLT, Int.reduceLE, Int.reduceAdd]
      refine goK_pure (readC (a ++ s) (by simp only [LimS, List.length_append]; omega)) ?_
      have hr2 := read_opl (l := l) (r := s) (by rw [← ha]; omega) hv (by omega)
      rw [← ha] at hr2
      rw [hr2]
      simp (disch := first | omega | assumption) only [cV_len, cV_take, cV_splice, cM_len, cM_take, cM_splice, cM_mk, steps, st2, pev, rev, oev, optr, ibin, sbin, ishf, bound, mmAll, mm2, mk, mkArgs, AV.cells, AV.boxable, AV.one, AV.strip1, fillA, fillS, Nat.reduceEqDiff, reduceCtorEq, ↓reduceIte, Nat.reduceAdd, Int.reduceNeg, Nat.reduceLeDiff, Int.reduceToNat, Int.reduceEq, Int.reduceLT, Int.reduceLE, Int.reduceAdd]
      refine goA_intro fun b2 hb2 => ?_
      simp (disch := first | omega | assumption) only [cV_len, cV_take, cV_splice, cM_len, cM_take, cM_splice, cM_mk, steps, st2, pev, rev, oev, optr, ibin, sbin, ishf, bound, mmAll, mm2, mk, mkArgs, AV.cells, AV.boxable, AV.one, AV.strip1, fillA, fillS, Nat.reduceEqDiff, reduceCtorEq, ↓reduceIte, Nat.reduceAdd, Int.reduceNeg, Nat.reduceLeDiff, Int.reduceToNat, Int.reduceEq, Int.reduceLT, Int.reduceLE, Int.reduceAdd]
      refine goK_pure awakeJ ?_
      simp (disch := first | omega | assumption) only [steps, st2, pev, rev, oev, optr, ibin, sbin, ishf, bound, mmAll, mm2, mk, mkArgs, AV.cells, AV.boxable, AV.one, AV.strip1, fillA, fillS, Nat.reduceEqDiff, reduceCtorEq, ↓reduceIte, Nat.reduceAdd, Int.reduceNeg, Nat.reduceLeDiff, Int.reduceToNat, Int.reduceEq, Int.reduceLT, Int.reduceLE, Int.reduceAdd]
      exact hQ _ _ _ _ nofun rfl (by simp [tupOf, envOf, AV.strip, AV.strip1])
    · have h3' : depthV v ≤ 16 := by omega
      rw [if_pos h3']
      simp (disch := first | omega | assumption) only [cV_len, cV_take, cV_splice, cM_len, cM_take, cM_splice, cM_mk, h3, steps, st2, pev, rev, oev, optr, ibin, sbin, ishf, bound, mmAll, mm2, mk, mkArgs, AV.cells, AV.boxable, AV.one, AV.strip1, fillA, fillS, Nat.reduceEqDiff, reduceCtorEq, ↓reduceIte, Nat.reduceAdd, Int.reduceNeg, Nat.reduceLeDiff, Int.reduceToNat, Int.reduceEq, Int.reduceLT, Int.reduceLE, Int.reduceAdd]
      refine goA_intro fun b1 hb1 => ?_
      simp (disch := first | omega | assumption) only [cV_len, cV_take, cV_splice, cM_len, cM_take, cM_splice, cM_mk, h3, steps, st2, pev, rev, oev, optr, ibin, sbin, ishf, bound, mmAll, mm2, mk, mkArgs, AV.cells, AV.boxable, AV.one, AV.strip1, fillA, fillS, Nat.reduceEqDiff, reduceCtorEq, ↓reduceIte, Nat.reduceAdd, Int.reduceNeg, Nat.reduceLeDiff, Int.reduceToNat, Int.reduceEq, Int.reduceLT, Int.reduceLE, Int.reduceAdd]
      refine goK_pure (depthC v (by have := depthV_le v; have := readM_size (a ++ b); rw [hr, if_pos h3'] at this; simp only [List.length_append] at this; simp only [Lim]; omega)) ?_
      rw [e4]
      simp (disch := first | omega | assumption) only [cV_len, cV_take, cV_splice, cM_len, cM_take, cM_splice, cM_mk, steps, st2, pev, rev, oev, optr, ibin, sbin, ishf, bound, mmAll, mm2, mk, mkArgs, AV.cells, AV.boxable, AV.one, AV.strip1, fillA, fillS, Nat.reduceEqDiff, reduceCtorEq, ↓reduceIte, Nat.reduceAdd, Int.reduceNeg, Nat.reduceLeDiff, Int.reduceToNat, Int.reduceEq, Int.reduceLT, Int.reduceLE, Int.reduceAdd]
      refine goK_pure awakeJ ?_
      simp (disch := first | omega | assumption) only [steps, st2, pev, rev, oev, optr, ibin, sbin, ishf, bound, mmAll, mm2, mk, mkArgs, AV.cells, AV.boxable, AV.one, AV.strip1, fillA, fillS, Nat.reduceEqDiff, reduceCtorEq, ↓reduceIte, Nat.reduceAdd, Int.reduceNeg, Nat.reduceLeDiff, Int.reduceToNat, Int.reduceEq, Int.reduceLT, Int.reduceLE, Int.reduceAdd]
      exact hQ _ _ _ _ nofun rfl (by simp [tupOf, envOf, AV.strip, AV.strip1])
  · have h2 : ((i : Int) < m) = True := eq_true (by omega)
    by_cases h3 : i < q
    · have h3' : ((i : Int) < q) = True := eq_true (by omega)
      simp (disch := first | omega | assumption) only [h2, h3', wrap64, steps, st2, pev, rev, oev, optr, ibin, sbin, ishf, bound, mmAll, mm2, mk, mkArgs, AV.cells, AV.boxable, AV.one, AV.strip1, fillA, fillS, Nat.reduceEqDiff, reduceCtorEq, ↓reduceIte, Nat.reduceAdd, Int.reduceNeg, Nat.reduceLeDiff, Int.reduceToNat, Int.reduceEq, Int.reduceLT, Int.reduceLE, Int.reduceAdd]
      exact goJ (hJ (i + 1, a ++ [91], b ++ [93]) _ (by simp; omega) ⟨rfl, by simp; omega, hd.list h3⟩) (by simp (disch := first | omega | assumption) only [nat_succ, steps, st2, pev, rev, oev, optr, ibin, sbin, ishf, bound, mmAll, mm2, mk, mkArgs, AV.cells, AV.boxable, AV.one, AV.strip1, fillA, fillS, Nat.reduceEqDiff, reduceCtorEq, ↓reduceIte, Nat.reduceAdd, Int.reduceNeg, Nat.reduceLeDiff, Int.reduceToNat, Int.reduceEq, Int.reduceLT, Int.reduceLE, Int.reduceAdd])
    · have h3' : ¬ ((i : Int) < q) := by omega
      simp (disch := first | omega | assumption) only [h2, h3', wrap64, steps, st2, pev, rev, oev, optr, ibin, sbin, ishf, bound, mmAll, mm2, mk, mkArgs, AV.cells, AV.boxable, AV.one, AV.strip1, fillA, fillS, Nat.reduceEqDiff, reduceCtorEq, ↓reduceIte, Nat.reduceAdd, Int.reduceNeg, Nat.reduceLeDiff, Int.reduceToNat, Int.reduceEq, Int.reduceLT, Int.reduceLE, Int.reduceAdd]
      exact goJ (hJ (i + 1, [123, 34, 97, 34, 58] ++ a, b ++ [125]) _ (by simp; omega) ⟨rfl, by simp; omega, hd.map (by omega)⟩) (by simp (disch := first | omega | assumption) only [nat_succ, steps, st2, pev, rev, oev, optr, ibin, sbin, ishf, bound, mmAll, mm2, mk, mkArgs, AV.cells, AV.boxable, AV.one, AV.strip1, fillA, fillS, Nat.reduceEqDiff, reduceCtorEq, ↓reduceIte, Nat.reduceAdd, Int.reduceNeg, Nat.reduceLeDiff, Int.reduceToNat, Int.reduceEq, Int.reduceLT, Int.reduceLE, Int.reduceAdd])
end Go.Proofs.YtpjafglhdlfnbaaDoor
namespace Go.Proofs.YtpjafglhdlfnbaaDoor
open Go.Ab Go.Lib
open Go.ChangeShapes Go.WideShapes Go.ChangeAt Go.RowKit Go.WideElems
theorem JsonDeep_contract (H : Type) (enc : TypeId × Value → H) (W : World) (base : Nat) (args : Array Value) (ds gs : List (DataW H)) (before : List MemPlace)
    (hval : ∀ (j : Nat) t v, Tryd.f12.params[j]? = some t → args[j]? = some v → Value.okWide Tryd.prog W .any base t v)
    (hW : DataW.Whole enc Tryd.prog Tryd.f12.params.toList Rows.jsonDeepSpec.vars false W args.toList ds gs before) (hc : blkAll (ds ++ gs) ≤ 1048576)
    (hz : (DataW.weightsEach Tryd.prog (Tryd.f12.params.toList ++ (Rows.OpenSpec.upto Rows.jsonDeepSpec).bare.plain.varTypes Tryd.prog) (ds ++ gs)).all (· ≤ reachBytes) = true)
    (hL : laidMetH Tryd.prog laidL W) (hS : W.ShapedOpen Tryd.prog) :
    Calls Tryd.prog 12 args W fun e W' => ∃ v, e = .returned v ∧ Rows.jsonDeepSpec.post enc Tryd.prog Tryd.f12 false true false false W args v W' := by
  have hW' := hW
  obtain ⟨p, q, hA0, hV, rfl, hfz, hnd⟩ := hW
  have hA : DataW.TrodAll enc Tryd.prog W 0 (fun _ => true) true Tryd.f12.params.toList args.toList ds p := hA0
  obtain ⟨rfl, rfl⟩ := trodVars_none hV
  rw [Tryd.params12] at hA hval hz
  obtain ⟨v0, vs0, d0, ds0, p0, q0, hargs, rfl, rfl, h0, hA⟩ := trodAll_cons hA
  obtain ⟨v1, vs1, d1, ds1, p1, q1, rfl, rfl, rfl, h1, hA⟩ := trodAll_cons hA
  obtain ⟨v2, vs2, d2, ds2, p2, q2, rfl, rfl, rfl, h2, hA⟩ := trodAll_cons hA
  obtain ⟨rfl, rfl, rfl⟩ := trodAll_nil hA
  obtain rfl : args = #[v0, v1, v2] := by cases args; simp_all
  obtain ⟨a0, ok0, b0, g0⟩ := DecB.arg (P := Tryd.prog) (f := fun n => .int .i64 n) (fun m => DecB.int (k := .i64) Tryd.underlying3) h0 (sized hz (j := 0) rfl rfl) (plain_int Tryd.underlying3 (hval 0 3 v0 rfl rfl))
  obtain ⟨a1, ok1, b1, g1⟩ := DecB.arg (P := Tryd.prog) (f := fun n => .int .i64 n) (fun m => DecB.int (k := .i64) Tryd.underlying3) h1 (sized hz (j := 1) rfl rfl) (plain_int Tryd.underlying3 (hval 1 3 v1 rfl rfl))
  obtain ⟨a2, ok2, b2, g2⟩ := DecB.arg (P := Tryd.prog) (f := fun s => .str s) (fun m => DecB.str Tryd.underlying9) h2 (sized hz (j := 2) rfl rfl) (plain_str Tryd.underlying9 (hval 2 9 v2 rfl rfl))
  simp only [List.append_nil, blkAll] at hc
  refine law_contract (P := Tryd.prog) (fn := Tryd.f12) (tb := 4) laidOut rfl ?_ (by kernel_rfl) Tryd.underlying4 hW' rfl (tabs_ok hL hS) (RepAll.cons g0 (RepAll.cons g1 (RepAll.cons g2 RepAll.nil))) (jsonDeep a0 a1 a2 (by simp only [maxLen]; omega))
  rw [Tryd.params12]
  intro t ht
  simp only [List.mem_cons, List.not_mem_nil, or_false] at ht
  rcases ht with rfl | rfl | rfl <;> exact ⟨by kernel_rfl, by decide +kernel⟩
theorem JsonDeep_reads (os : Os) {H : Type} (enc : TypeId × Value → H) : ∃ places, DataW.whole enc Tryd.prog ((laidWorld os).forCall (fun _ _ => 0) ⟨#[], #[.int .i64 0, .int .i64 0, .string ⟨#[]⟩], []⟩).memory Tryd.f12.params.toList Rows.jsonDeepSpec.vars false #[.int .i64 0, .int .i64 0, .string ⟨#[]⟩].toList 8 = some ([.lit (.int .i64 0), .lit (.int .i64 0), .lit (.string [])], [], places) :=
  ⟨[], by kernel_rfl⟩
theorem JsonDeep_lifted (os : Os) (started : os.Started) (H : Type) (enc : TypeId × Value → H) (F : Stop.Interp) :
    ReturnsInHanded {} Tryd.checked os 12 .any ((Rows.OpenSpec.upto Rows.jsonDeepSpec).preRow enc Tryd.prog Tryd.f12 Rows.jsonDeepUptoRow.domain false Rows.jsonDeepUptoRow.laid) (((Rows.OpenSpec.upto Rows.jsonDeepSpec).at F).post enc Tryd.prog Tryd.f12 false true false false) := by
  obtain ⟨places, hx⟩ := JsonDeep_reads os enc
  refine returnsInHanded_of_row (C := Tryd.checked) (s := Rows.OpenSpec.upto Rows.jsonDeepSpec) own started (by kernel_rfl) Tryd.func12
    (witness_row_atRef (enc := enc) (C := Tryd.checked) false (laidWorld os) #[.int .i64 0, .int .i64 0, .string ⟨#[]⟩] rfl (by kernel_rfl) (by kernel_rfl) (by kernel_rfl)
      (OpenSpec.preRow_of_cond 8 hx (by kernel_rfl) (fun k hk => by cases hk; kernel_rfl) (by kernel_rfl) (laid_met os _))) ?_
  intro W base args ds gs before hval hW _ hcond hz hL hS _
  exact JsonDeep_contract H enc W base args ds gs before hval hW (cond_bulk hcond) hz hL hS
theorem JsonDeep_said : Rows.JsonDeepUptoSaid :=
  OpenClaim.holds_of_cond 12 Tryd.f12 rfl rfl rfl rfl rfl rfl rfl ⟨rfl, rfl, rfl, rfl, rfl⟩ rfl rfl rfl rfl rfl (by kernel_rfl) Tryd.func12 (by kernel_rfl)
    (of_decide_eq_true (by kernel_rfl)) (by unfold Func.isWrapper; first | (rw [if_pos (by decide +kernel)]; kernel_rfl) | (rw [if_neg (by decide +kernel)]; exact ⟨rfl, rfl⟩))
    (fun os started H enc _ F => by rw [OpenClaim.pre_eq_preRow]; exact JsonDeep_lifted os started H enc F)
theorem JsonDeep_plain (f : FuncId) (fn : Func) (hf : Tryd.pinned.checked.prog.funcNamed "seine/seinelaw21.JsonDeep" = some f) (hfn : Tryd.pinned.checked.prog.funcs[f]? = some fn) :
    true = Tryd.pinned.checked.prog.looks [] ∧ ∀ (j : Nat) t, fn.params[j]? = some t → Tryd.pinned.checked.prog.wantsStandIn t = false := by
  obtain rfl : f = 12 := Option.some.inj ((show Tryd.prog.funcNamed "seine/seinelaw21.JsonDeep" = some 12 by kernel_rfl).symm.trans hf) |>.symm
  obtain rfl : fn = Tryd.f12 := (Option.some.inj (Tryd.func12.symm.trans hfn)).symm
  refine ⟨by kernel_rfl, fun j t ht => ?_⟩
  rw [Tryd.params12] at ht
  have hm := Array.mem_of_getElem? ht
  simp only [List.mem_toArray, List.mem_cons, List.not_mem_nil, or_false] at hm
  rcases hm with rfl | rfl | rfl <;> exact (show Tryd.prog.wantsStandIn _ = false by kernel_rfl)
/-- THE SECOND FORM's CARD of JsonDeep. -/
theorem JsonDeep_card : Rows.JsonDeepUptoCardSaid :=
  Claim7.holds_tied_plain_at .later [] _ _ _ _ JsonDeep_said (fun _ h => by cases h) (by kernel_rfl) (fun _ h => by cases h) jsonDeepUpto_row_tie rfl ⟨rfl, rfl⟩ (by kernel_rfl) rfl JsonDeep_plain (by kernel_rfl)
end Go.Proofs.YtpjafglhdlfnbaaDoor
