import Derived.Test.YtpjafglhdlfnbaaDoorM1
import Derived.Test.YtpjafglhdlfnbaaDoorM2
import Derived.Test.YtpjafglhdlfnbaaDoorM3
import Derived.Test.YtpjafglhdlfnbaaDoorM4
import Derived.Test.YtpjafglhdlfnbaaDoorM5
set_option maxRecDepth 100000
set_option linter.unusedSimpArgs false
set_option linter.unusedVariables false
namespace Go.Proofs.YtpjafglhdlfnbaaDoor
open Go.Ab Go.Lib
def opn (b : Bool) : List UInt8 := if b then [91] else [123, 34, 97, 34, 58]
def opl (l : List Bool) : List UInt8 := l.flatMap opn
theorem opl_snoc (l : List Bool) (b : Bool) : opl (l ++ [b]) = opl l ++ opn b := by simp [opl]
theorem opl_cons (l : List Bool) (b : Bool) : opl (b :: l) = opn b ++ opl l := by simp [opl]
theorem opl_low (l : List Bool) : ∀ c ∈ opl l, c.toNat < 128 := fun c hc => by
  simp only [opl, List.mem_flatMap] at hc
  obtain ⟨b, _, hc⟩ := hc
  cases b
  · simp only [opn, Bool.false_eq_true, if_false] at hc; revert c; decide
  · simp only [opn, if_true] at hc; revert c; decide
/-- Too many brackets. -/
theorem opl_deep : ∀ (q : Nat) (l : List Bool) (r : List UInt8), q < l.length → valM q (opl l ++ r) = .error 4
  | _, [], _, h => by simp at h
  | 0, b :: l, r, _ => by
    rw [opl_cons, List.append_assoc]
    cases b
    · simp only [opn, Bool.false_eq_true, if_false, List.cons_append, valM, skB_no (show bk 123 = false by decide)]; rw [if_pos (by simp)]
    · simp only [opn, if_true, List.cons_append, valM, skB_no (show bk 91 = false by decide)]; rw [if_pos (by simp)]
  | q + 1, b :: l, r, h => by
    have h' : q < l.length := by simpa using h
    have ih := opl_deep q l r h'
    rw [opl_cons, List.append_assoc]
    cases b
    · simp only [opn, Bool.false_eq_true, if_false, List.cons_append, List.nil_append, valM, skB_no (show bk 123 = false by decide), headM]
      rw [if_pos trivial, mapM, mayM_no (show bk 34 = false by decide) (by decide)]
      have e : 34 :: 97 :: 34 :: 58 :: (opl l ++ r) = quoteM [97] ++ (58 :: (opl l ++ r)) := rfl
      simp only
      rw [e, memberM, textM_q]
      simp only [RR.bind, hasN, Bool.false_eq_true, if_false, mustM_yes (show bk 58 = false by decide), ih]
    · simp only [opn, if_true, List.cons_append, List.nil_append, valM, skB_no (show bk 91 = false by decide), headM]
      rw [if_neg (by decide), listM]
      have hm : mayM [93] (opl l ++ r) = none := by
        cases l with
        | nil => simp at h'
        | cons b l =>
          rw [opl_cons, List.append_assoc]
          cases b
          · exact mayM_no (c := 123) (by decide) (by decide)
          · exact mayM_no (c := 91) (by decide) (by decide)
      rw [hm]
      simp only [RR.bind, ih]
theorem read_opl {l : List Bool} {r : List UInt8} (hl : (opl l).length + r.length ≤ 8192) (hr : validD r = true) (h : 16 < l.length) : readM (opl l ++ r) = (nullV, 4) := by
  unfold readM
  rw [if_neg (by simp; omega), validA2 (low_valid (opl_low l)) hr, opl_deep 16 l r h]
  rfl
/-- The texts of JsonDeep: ahead and behind. -/
structure Deep (k i : Nat) (s t : List UInt8) : Prop where
  op : ∃ l, s = opl l ∧ l.length = i
  br : i ≤ k → s = List.replicate i 91
  val : ∃ v, s ++ t = putV v ∧ rightV v = true ∧ wfV v ∧ depthV v = i
  len : s.length + t.length ≤ 6 * i + 1
def oneV : Val := .mk 2 1 [] [] []
theorem put_one : putV oneV = [49] := by simp [putV, oneV, itoa, decDigits]
theorem Deep.zero (k : Nat) : Deep k 0 [] [49] := ⟨⟨[], rfl, rfl⟩, fun _ => rfl, ⟨oneV, by rw [put_one]; exact List.nil_append _, by decide, by simp [oneV, wfV, wfVs, wfMs, inR], by simp [depthV, oneV]⟩, by simp⟩
theorem Deep.list {k i : Nat} {s t : List UInt8} (h : Deep k i s t) (hi : i < k) : Deep k (i + 1) (s ++ [91]) (t ++ [93]) := by
  obtain ⟨⟨l, h1, h2⟩, hb, ⟨v, h3, h4, h5, h6⟩, hlen⟩ := h
  have hs := hb (by omega)
  refine ⟨⟨l ++ [true], by rw [opl_snoc, ← h1]; rfl, by simp [h2]⟩, fun _ => by rw [hs, List.replicate_succ'], ⟨.mk 6 0 [] [v] [], ?_, ?_, ⟨by simp [inR], ⟨h5, trivial⟩, trivial⟩, ?_⟩, by simp; omega⟩
  · have e : putV (.mk 6 0 [] [v] []) = 91 :: (putV v ++ [93]) := by simp [putV, putVs]
    rw [e, ← h3, hs]
    have e2 : List.replicate i (91 : UInt8) ++ [91] = 91 :: List.replicate i 91 := by rw [← List.replicate_succ', List.replicate_succ]
    rw [← List.append_assoc, e2]; simp
  · simp only [rightV, goodV, Bool.and_eq_true] at h4
    simp [rightV, goodV, allV, allVs, bareM, singV, singVs, singMs, h4.1, h4.2]
  · simp only [depthV, if_true, depthVs, mm2, h6]
    split <;> omega
theorem Deep.map {k i : Nat} {s t : List UInt8} (h : Deep k i s t) (hi : k ≤ i) : Deep k (i + 1) ([123, 34, 97, 34, 58] ++ s) (t ++ [125]) := by
  obtain ⟨⟨l, h1, h2⟩, hb, ⟨v, h3, h4, h5, h6⟩, hlen⟩ := h
  refine ⟨⟨false :: l, by rw [opl_cons, ← h1]; rfl, by simp [h2]⟩, fun h => by omega, ⟨.mk 7 0 [] [] [.mk [97] v], ?_, ?_, ⟨by simp [inR], trivial, ⟨h5, trivial⟩⟩, ?_⟩, by simp; omega⟩
  · have e : putV (.mk 7 0 [] [] [.mk [97] v]) = 123 :: 34 :: 97 :: 34 :: 58 :: (putV v ++ [125]) := by
      simp [putV, putMs, putM, quoteM, qB]
    rw [e, ← h3]; simp
  · simp only [rightV, goodV, Bool.and_eq_true] at h4
    have hv : validD [97] = true := by decide
    simp [rightV, goodV, allV, allMs, allM, bareM, singV, singVs, singMs, singM, nmM, h4.1, h4.2, hv]
  · simp only [depthV]
    rw [if_neg (by decide), if_pos trivial]
    simp only [depthMs, depthM, mm2, h6, if_true]
    split <;> omega
def numMs (l : List (List UInt8)) : List Mem := l.map fun s => .mk s oneV
def dupB : List (List UInt8) → List (List UInt8) → Bool
  | _, [] => false
  | ns, s :: l => ns.contains s || dupB (ns ++ [s]) l
theorem numMs_sing : ∀ (l ns : List (List UInt8)), singMs ns (numMs l) = !dupB ns l
  | [], _ => rfl
  | s :: l, ns => by
    have := numMs_sing l (ns ++ [s])
    simp only [numMs, List.map_cons, singMs, nmM, singM, dupB] at this ⊢
    rw [this]
    have e : singV oneV = true := by decide
    rw [e]; simp
theorem back_one (n : Nat) : BackV n oneV := back oneV (by decide) (by simp [oneV, wfV, wfVs, wfMs, inR]) n
theorem members_dup (n : Nat) : ∀ (l : List (List UInt8)) (acc : List Mem) (fuel : Nat) (r : List UInt8), dupB (acc.map nmM) l = true → (putMs false (numMs l)).length < fuel →
    membersM (valM n) fuel acc (putMs false (numMs l) ++ 125 :: r) = .error 5
  | _, _, 0, _, _, h => by omega
  | [], _, _, _, h, _ => by cases h
  | s :: l, acc, fuel + 1, r, hd, hf => by
    have hf' : (putMs false (numMs l)).length < fuel := by
      simp only [numMs, List.map_cons, putMs, Bool.false_eq_true, if_false, List.length_append, List.length_cons, List.length_nil] at hf ⊢; omega
    have e : putMs false (numMs (s :: l)) ++ 125 :: r = 44 :: (putM (.mk s oneV) ++ (putMs false (numMs l) ++ 125 :: r)) := by simp [putMs, numMs]
    have hN : NoN (putMs false (numMs l) ++ 125 :: r) := by
      cases l with
      | nil => exact NoN_cons (by decide)
      | cons w l => exact NoN_cons (by decide)
    rw [e, membersM, mayM_no (show bk 44 = false by decide) (by decide)]
    simp only [mustM_yes (show bk 44 = false by decide), RR.bind]
    cases hc : (acc.map nmM).contains s with
    | true =>
      have e : putM (.mk s oneV) ++ (putMs false (numMs l) ++ 125 :: r) = quoteM s ++ (58 :: (putV oneV ++ (putMs false (numMs l) ++ 125 :: r))) := by simp [putM]
      rw [e, memberM, textM_q]
      simp only [RR.bind]
      rw [hasN_iff, hc]
      simp only [if_true]
    | false =>
      rw [member_back (back_one n) hN hc, if_pos (by simp [depthV, oneV])]
      simp only
      refine members_dup n l _ fuel r ?_ hf'
      simp only [dupB, hc, Bool.false_or] at hd
      simpa [nmM] using hd
theorem read_names {l : List (List UInt8)} (hv : ∀ s ∈ l, validD s = true) (hl : (123 :: (putMs true (numMs l) ++ [125])).length ≤ 8192) :
    readM (123 :: (putMs true (numMs l) ++ [125])) = if dupB [] l then (nullV, 5) else (.mk 7 0 [] [] (numMs l), 0) := by
  have hval : validD (123 :: (putMs true (numMs l) ++ [125])) = true := by
    rw [validD_cons _ _ (by decide)]
    refine validA2 (putMs_valid _ true fun s v hx => ?_) rfl
    simp only [numMs, List.mem_map] at hx
    obtain ⟨t, ht, e⟩ := hx
    cases e
    exact ⟨hv _ ht, by rw [put_one]; decide⟩
  unfold readM
  rw [if_neg (by omega), hval]
  simp only [Bool.not_true, Bool.false_eq_true, if_false]
  have e16 : valM 16 (123 :: (putMs true (numMs l) ++ [125])) = mapM (valM 15) (putMs true (numMs l) ++ [125]) := by
    simp only [valM, skB_no (show bk 123 = false by decide), headM]; rw [if_pos trivial]
  rw [e16]
  cases hd : dupB [] l with
  | false =>
    rw [map_back 15 (numMs l) [] (fun s v hx => ?_) (by rw [numMs_sing, hd]; rfl), if_pos]
    · rfl
    · intro x hx
      simp only [numMs, List.mem_map] at hx
      obtain ⟨t, ht, e⟩ := hx
      subst e; simp [depthM, depthV, oneV]
    · simp only [numMs, List.mem_map] at hx
      obtain ⟨t, ht, e⟩ := hx
      cases e; exact back_one 15
  | true =>
    cases l with
    | nil => cases hd
    | cons s l =>
      simp only [dupB, List.contains_nil, Bool.false_or, List.nil_append] at hd
      have e : putMs true (numMs (s :: l)) ++ [125] = putM (.mk s oneV) ++ (putMs false (numMs l) ++ [125]) := by simp [putMs, numMs]
      have hN : NoN (putMs false (numMs l) ++ [125]) := by
        cases l with
        | nil => exact NoN_cons (by decide)
        | cons w l => exact NoN_cons (by decide)
      have hm : mayM [125] (putM (.mk s oneV) ++ (putMs false (numMs l) ++ [125])) = none := mayM_no (c := 34) (by decide) (by decide)
      rw [e, mapM, hm]
      simp only [RR.bind, member_back (acc := []) (back_one 15) hN rfl]
      rw [if_pos (by simp [depthV, oneV])]
      simp only
      rw [members_dup 15 l _ _ [] (by simpa [nmM] using hd) (by simp only [List.length_append, List.length_cons]; omega)]
      rfl
end Go.Proofs.YtpjafglhdlfnbaaDoor
namespace Go.Proofs.YtpjafglhdlfnbaaDoor
open Go.Ab Go.Lib
def textV (s : List UInt8) : Val := .mk 4 0 s [] []
theorem textV_print (s : List UInt8) : printM (textV s) = if validD s then (quoteM s, true) else ([], false) := by
  unfold printM
  have : rightV (textV s) = validD s := by simp [textV, rightV, goodV, allV, singleM, bareM, singV, singVs, singMs]
  rw [this]
  cases validD s <;> simp [textV, putV]
theorem putMs_snoc : ∀ (l : List Mem) (f : Bool) (x : Mem), putMs f (l ++ [x]) = putMs f l ++ ((if f && l.isEmpty then [] else [44]) ++ putM x)
  | [], f, x => by cases f <;> simp [putMs]
  | y :: l, f, x => by
    rw [List.cons_append, putMs, putMs_snoc l false x, putMs]
    cases f <;> simp
theorem dupB_snoc : ∀ (l ns : List (List UInt8)) (s : List UInt8), dupB ns (l ++ [s]) = (dupB ns l || (ns ++ l).contains s)
  | [], ns, s => by simp [dupB]
  | t :: l, ns, s => by
    rw [List.cons_append, dupB, dupB_snoc l (ns ++ [t]) s, dupB, Bool.or_assoc]
    simp
theorem nil_dec (done : List (List UInt8)) : (numMs done).isEmpty = decide (done = []) := by cases done <;> rfl
theorem nat_succ2 (i : Nat) : ((i + 1 : Nat) : Int) = (i : Int) + 1 := rfl
theorem jsonTwice (l : List (List UInt8)) (hl : l.length ≤ maxLen) : Pure Tryd.prog 10 [.sl .no 1 (cT l)] (.bool true) := by
  refine Pure.go ir10 ck10 (Nat.le_refl _) fun KP Q hQ => ?_
  have h1 := cT_len l
  by_cases c1 : (40 : Int) < l.length
  · simp (disch := first | omega | assumption) only [ir10, h1, c1, steps, st2, pev, rev, oev, optr, ibin, sbin, ishf, bound, mmAll, mm2, mk, mkArgs, AV.cells, AV.boxable, AV.one, AV.strip1, fillA, fillS, Nat.reduceEqDiff, reduceCtorEq, ↓reduceIte, Nat.reduceAdd, Int.reduceNeg, Nat.reduceLeDiff, Int.reduceToNat, Int.reduceEq, Int.reduceLT, Int.reduceLE, Int.reduceAdd]
    refine goK_pure awakeJ ?_
    simp (disch := first | omega | assumption) only [steps, st2, pev, rev, oev, optr, ibin, sbin, ishf, bound, mmAll, mm2, mk, mkArgs, AV.cells, AV.boxable, AV.one, AV.strip1, fillA, fillS, Nat.reduceEqDiff, reduceCtorEq, ↓reduceIte, Nat.reduceAdd, Int.reduceNeg, Nat.reduceLeDiff, Int.reduceToNat, Int.reduceEq, Int.reduceLT, Int.reduceLE, Int.reduceAdd]
    exact hQ _ _ _ _ nofun rfl (by simp [tupOf, envOf, AV.strip, AV.strip1])
  simp (disch := first | omega | assumption) only [ir10, h1, c1, steps, st2, pev, rev, oev, optr, ibin, sbin, ishf, bound, mmAll, mm2, mk, mkArgs, AV.cells, AV.boxable, AV.one, AV.strip1, fillA, fillS, Nat.reduceEqDiff, reduceCtorEq, ↓reduceIte, Nat.reduceAdd, Int.reduceNeg, Nat.reduceLeDiff, Int.reduceToNat, Int.reduceEq, Int.reduceLT, Int.reduceLE, Int.reduceAdd]
  refine goL_range l 5 (fun x : List UInt8 × Bool => [(3, .str x.1), (4, .bool x.2)]) (fun done rest x H => H = Heap.emp ∧ x.1 = 123 :: putMs true (numMs done) ∧ x.2 = dupB [] done ∧ x.1.length ≤ 1 + 370 * done.length ∧ ∀ s ∈ done, validD s = true) ([123], false) (by simp (disch := first | omega | assumption) only [steps, st2, pev, rev, oev, optr, ibin, sbin, ishf, bound, mmAll, mm2, mk, mkArgs, AV.cells, AV.boxable, AV.one, AV.strip1, fillA, fillS, Nat.reduceEqDiff, reduceCtorEq, ↓reduceIte, Nat.reduceAdd, Int.reduceNeg, Nat.reduceLeDiff, Int.reduceToNat, Int.reduceEq, Int.reduceLT, Int.reduceLE, Int.reduceAdd]) ⟨rfl, rfl, rfl, by simp, by simp⟩ ?_ ?_
  · rintro ⟨a, t⟩ H J ⟨rfl, ha, ht, hlen, hval⟩ hlt
    simp only at ha ht hlen
    simp (disch := first | omega | assumption) only [h1, hlt, steps, st2, pev, rev, oev, optr, ibin, sbin, ishf, bound, mmAll, mm2, mk, mkArgs, AV.cells, AV.boxable, AV.one, AV.strip1, fillA, fillS, Nat.reduceEqDiff, reduceCtorEq, ↓reduceIte, Nat.reduceAdd, Int.reduceNeg, Nat.reduceLeDiff, Int.reduceToNat, Int.reduceEq, Int.reduceLT, Int.reduceLE, Int.reduceAdd]
    by_cases h2 : (8192 : Int) ≤ a.length
    · simp (disch := first | omega | assumption) only [h2, steps, st2, pev, rev, oev, optr, ibin, sbin, ishf, bound, mmAll, mm2, mk, mkArgs, AV.cells, AV.boxable, AV.one, AV.strip1, fillA, fillS, Nat.reduceEqDiff, reduceCtorEq, ↓reduceIte, Nat.reduceAdd, Int.reduceNeg, Nat.reduceLeDiff, Int.reduceToNat, Int.reduceEq, Int.reduceLT, Int.reduceLE, Int.reduceAdd]
      refine goK_pure awakeJ ?_
      simp (disch := first | omega | assumption) only [steps, st2, pev, rev, oev, optr, ibin, sbin, ishf, bound, mmAll, mm2, mk, mkArgs, AV.cells, AV.boxable, AV.one, AV.strip1, fillA, fillS, Nat.reduceEqDiff, reduceCtorEq, ↓reduceIte, Nat.reduceAdd, Int.reduceNeg, Nat.reduceLeDiff, Int.reduceToNat, Int.reduceEq, Int.reduceLT, Int.reduceLE, Int.reduceAdd]
      exact hQ _ _ _ _ nofun rfl (by simp [tupOf, envOf, AV.strip, AV.strip1])
    · have hr := read_names hval (by rw [← List.cons_append, ← ha]; simp; omega)
      rw [← List.cons_append, ← ha, ← ht] at hr
      simp (disch := first | omega | assumption) only [h2, steps, st2, pev, rev, oev, optr, ibin, sbin, ishf, bound, mmAll, mm2, mk, mkArgs, AV.cells, AV.boxable, AV.one, AV.strip1, fillA, fillS, Nat.reduceEqDiff, reduceCtorEq, ↓reduceIte, Nat.reduceAdd, Int.reduceNeg, Nat.reduceLeDiff, Int.reduceToNat, Int.reduceEq, Int.reduceLT, Int.reduceLE, Int.reduceAdd]
      refine goK_pure (readC (a ++ [125]) (by simp only [LimS, List.length_append, List.length_cons, List.length_nil]; omega)) ?_
      rw [hr]
      cases t
      · simp only [Bool.false_eq_true, if_false]
        simp (disch := first | omega | assumption) only [cV_mk, steps, st2, pev, rev, oev, optr, ibin, sbin, ishf, bound, mmAll, mm2, mk, mkArgs, AV.cells, AV.boxable, AV.one, AV.strip1, fillA, fillS, Nat.reduceEqDiff, reduceCtorEq, ↓reduceIte, Nat.reduceAdd, Int.reduceNeg, Nat.reduceLeDiff, Int.reduceToNat, Int.reduceEq, Int.reduceLT, Int.reduceLE, Int.reduceAdd]
        refine goA_intro fun b hb => ?_
        have h3 := cMs_len (numMs l)
        have h4 : (numMs l).length = l.length := by simp [numMs]
        simp (disch := first | omega | assumption) only [cV_mk, h3, h4, h1, steps, st2, pev, rev, oev, optr, ibin, sbin, ishf, bound, mmAll, mm2, mk, mkArgs, AV.cells, AV.boxable, AV.one, AV.strip1, fillA, fillS, Nat.reduceEqDiff, reduceCtorEq, ↓reduceIte, Nat.reduceAdd, Int.reduceNeg, Nat.reduceLeDiff, Int.reduceToNat, Int.reduceEq, Int.reduceLT, Int.reduceLE, Int.reduceAdd]
        refine goK_pure awakeJ ?_
        simp (disch := first | omega | assumption) only [steps, st2, pev, rev, oev, optr, ibin, sbin, ishf, bound, mmAll, mm2, mk, mkArgs, AV.cells, AV.boxable, AV.one, AV.strip1, fillA, fillS, Nat.reduceEqDiff, reduceCtorEq, ↓reduceIte, Nat.reduceAdd, Int.reduceNeg, Nat.reduceLeDiff, Int.reduceToNat, Int.reduceEq, Int.reduceLT, Int.reduceLE, Int.reduceAdd]
        exact hQ _ _ _ _ nofun rfl (by simp [tupOf, envOf, AV.strip, AV.strip1])
      · simp only [if_true]
        simp (disch := first | omega | assumption) only [cV_len, cV_take, cV_splice, cM_len, cM_take, cM_splice, cM_mk, steps, st2, pev, rev, oev, optr, ibin, sbin, ishf, bound, mmAll, mm2, mk, mkArgs, AV.cells, AV.boxable, AV.one, AV.strip1, fillA, fillS, Nat.reduceEqDiff, reduceCtorEq, ↓reduceIte, Nat.reduceAdd, Int.reduceNeg, Nat.reduceLeDiff, Int.reduceToNat, Int.reduceEq, Int.reduceLT, Int.reduceLE, Int.reduceAdd]
        refine goA_intro fun b hb => ?_
        simp (disch := first | omega | assumption) only [cV_len, cV_take, cV_splice, cM_len, cM_take, cM_splice, cM_mk, steps, st2, pev, rev, oev, optr, ibin, sbin, ishf, bound, mmAll, mm2, mk, mkArgs, AV.cells, AV.boxable, AV.one, AV.strip1, fillA, fillS, Nat.reduceEqDiff, reduceCtorEq, ↓reduceIte, Nat.reduceAdd, Int.reduceNeg, Nat.reduceLeDiff, Int.reduceToNat, Int.reduceEq, Int.reduceLT, Int.reduceLE, Int.reduceAdd]
        refine goK_pure awakeJ ?_
        simp (disch := first | omega | assumption) only [steps, st2, pev, rev, oev, optr, ibin, sbin, ishf, bound, mmAll, mm2, mk, mkArgs, AV.cells, AV.boxable, AV.one, AV.strip1, fillA, fillS, Nat.reduceEqDiff, reduceCtorEq, ↓reduceIte, Nat.reduceAdd, Int.reduceNeg, Nat.reduceLeDiff, Int.reduceToNat, Int.reduceEq, Int.reduceLT, Int.reduceLE, Int.reduceAdd]
        exact hQ _ _ _ _ nofun rfl (by simp [tupOf, envOf, AV.strip, AV.strip1])
  · rintro done x rest ⟨a, t⟩ H J hd hlt hlt2 ⟨rfl, ha, ht, hlen, hval⟩ hJ
    have hg := cT_get hd
    simp only at ha ht hlen
    by_cases c2 : (60 : Int) < x.length
    · simp (disch := first | omega | assumption) only [h1, hlt, hg, c2, steps, st2, pev, rev, oev, optr, ibin, sbin, ishf, bound, mmAll, mm2, mk, mkArgs, AV.cells, AV.boxable, AV.one, AV.strip1, fillA, fillS, Nat.reduceEqDiff, reduceCtorEq, ↓reduceIte, Nat.reduceAdd, Int.reduceNeg, Nat.reduceLeDiff, Int.reduceToNat, Int.reduceEq, Int.reduceLT, Int.reduceLE, Int.reduceAdd]
      refine goK_pure awakeJ ?_
      simp (disch := first | omega | assumption) only [steps, st2, pev, rev, oev, optr, ibin, sbin, ishf, bound, mmAll, mm2, mk, mkArgs, AV.cells, AV.boxable, AV.one, AV.strip1, fillA, fillS, Nat.reduceEqDiff, reduceCtorEq, ↓reduceIte, Nat.reduceAdd, Int.reduceNeg, Nat.reduceLeDiff, Int.reduceToNat, Int.reduceEq, Int.reduceLT, Int.reduceLE, Int.reduceAdd]
      exact hQ _ _ _ _ nofun rfl (by simp [tupOf, envOf, AV.strip, AV.strip1])
    simp (disch := first | omega | assumption) only [h1, hlt, hg, c2, steps, st2, pev, rev, oev, optr, ibin, sbin, ishf, bound, mmAll, mm2, mk, mkArgs, AV.cells, AV.boxable, AV.one, AV.strip1, fillA, fillS, Nat.reduceEqDiff, reduceCtorEq, ↓reduceIte, Nat.reduceAdd, Int.reduceNeg, Nat.reduceLeDiff, Int.reduceToNat, Int.reduceEq, Int.reduceLT, Int.reduceLE, Int.reduceAdd]
    refine goK_pure (goodC x (by simp only [Lim]; omega)) ?_
    cases hv : validD x
    · simp (disch := first | omega | assumption) only [steps, st2, pev, rev, oev, optr, ibin, sbin, ishf, bound, mmAll, mm2, mk, mkArgs, AV.cells, AV.boxable, AV.one, AV.strip1, fillA, fillS, Nat.reduceEqDiff, reduceCtorEq, ↓reduceIte, Nat.reduceAdd, Int.reduceNeg, Nat.reduceLeDiff, Int.reduceToNat, Int.reduceEq, Int.reduceLT, Int.reduceLE, Int.reduceAdd]
      refine goK_pure awakeJ ?_
      simp (disch := first | omega | assumption) only [steps, st2, pev, rev, oev, optr, ibin, sbin, ishf, bound, mmAll, mm2, mk, mkArgs, AV.cells, AV.boxable, AV.one, AV.strip1, fillA, fillS, Nat.reduceEqDiff, reduceCtorEq, ↓reduceIte, Nat.reduceAdd, Int.reduceNeg, Nat.reduceLeDiff, Int.reduceToNat, Int.reduceEq, Int.reduceLT, Int.reduceLE, Int.reduceAdd]
      exact hQ _ _ _ _ nofun rfl (by simp [tupOf, envOf, AV.strip, AV.strip1])
    simp (disch := first | omega | assumption) only [steps, st2, pev, rev, oev, optr, ibin, sbin, ishf, bound, mmAll, mm2, mk, mkArgs, AV.cells, AV.boxable, AV.one, AV.strip1, fillA, fillS, Nat.reduceEqDiff, reduceCtorEq, ↓reduceIte, Nat.reduceAdd, Int.reduceNeg, Nat.reduceLeDiff, Int.reduceToNat, Int.reduceEq, Int.reduceLT, Int.reduceLE, Int.reduceAdd]
    refine goL_st (fun y : Nat × Bool => [(4, .bool y.2), (6, .int .i64 (y.1 : Int))]) (fun y H => H = Heap.emp ∧ y.1 ≤ done.length ∧ (y.2 || (done.drop y.1).contains x) = (t || done.contains x)) (fun y => done.length - y.1) (0, t) (by simp (disch := first | omega | assumption) only [steps, st2, pev, rev, oev, optr, ibin, sbin, ishf, bound, mmAll, mm2, mk, mkArgs, AV.cells, AV.boxable, AV.one, AV.strip1, fillA, fillS, Nat.reduceEqDiff, reduceCtorEq, ↓reduceIte, Nat.reduceAdd, Int.reduceNeg, Nat.reduceLeDiff, Int.reduceToNat, Int.reduceEq, Int.reduceLT, Int.reduceLE, Int.reduceAdd]) ⟨rfl, by omega, by simp⟩ ?_
    rintro ⟨j, u⟩ H J' ⟨rfl, hj, hu⟩ hJ'
    simp only at hj hu
    by_cases h2 : j = done.length
    · subst h2
      simp only [List.drop_length, List.contains_nil, Bool.or_false] at hu
      have h3 : ¬ ((done.length : Int) < done.length) := by omega
      have hx6 := quote_len x
      have hp := textV_print x
      rw [hv] at hp
      simp only [if_true] at hp
      simp (disch := first | omega | assumption) only [h3, h1, hlt, hg, steps, st2, pev, rev, oev, optr, ibin, sbin, ishf, bound, mmAll, mm2, mk, mkArgs, AV.cells, AV.boxable, AV.one, AV.strip1, fillA, fillS, Nat.reduceEqDiff, reduceCtorEq, ↓reduceIte, Nat.reduceAdd, Int.reduceNeg, Nat.reduceLeDiff, Int.reduceToNat, Int.reduceEq, Int.reduceLT, Int.reduceLE, Int.reduceAdd]
      refine goK_pure (Pure.low (PrintC (textV x) (by simp [textV, wfV, wfVs, wfMs, inR]) (by simp only [textV, bV, bVs, bMs, Lim]; omega))) ?_
      rw [hp]
      have e1 : putM (.mk x oneV) = quoteM x ++ [58, 49] := by simp [putM, put_one]
      have e2 : numMs (done ++ [x]) = numMs done ++ [.mk x oneV] := by simp [numMs]
      have e3 : dupB [] (done ++ [x]) = u := by rw [dupB_snoc, ← ht, hu]; simp
      by_cases h4 : done = []
      · subst h4
        have e4 : 123 :: putMs true (numMs ([] ++ [x])) = a ++ quoteM x ++ [58] ++ [49] := by rw [ha]; simp [numMs, putMs, e1]
        simp (disch := first | omega | assumption) only [wrap64, List.length_append, steps, st2, pev, rev, oev, optr, ibin, sbin, ishf, bound, mmAll, mm2, mk, mkArgs, AV.cells, AV.boxable, AV.one, AV.strip1, fillA, fillS, Nat.reduceEqDiff, reduceCtorEq, ↓reduceIte, Nat.reduceAdd, Int.reduceNeg, Nat.reduceLeDiff, Int.reduceToNat, Int.reduceEq, Int.reduceLT, Int.reduceLE, Int.reduceAdd]
        have nx := hJ (a ++ quoteM x ++ [58] ++ [49], u) Heap.emp ⟨rfl, e4.symm, e3.symm, by simp at hlen ⊢; omega, by simpa using hv⟩
        exact goJ nx (by simp (disch := first | omega | assumption) only [steps, st2, pev, rev, oev, optr, ibin, sbin, ishf, bound, mmAll, mm2, mk, mkArgs, AV.cells, AV.boxable, AV.one, AV.strip1, fillA, fillS, Nat.reduceEqDiff, reduceCtorEq, ↓reduceIte, Nat.reduceAdd, Int.reduceNeg, Nat.reduceLeDiff, Int.reduceToNat, Int.reduceEq, Int.reduceLT, Int.reduceLE, Int.reduceAdd])
      · have h5 : ((0 : Int) < done.length) = True := eq_true (by have := List.length_pos_iff.2 h4; omega)
        have e4 : 123 :: putMs true (numMs (done ++ [x])) = a ++ [44] ++ quoteM x ++ [58] ++ [49] := by
          rw [ha, e2, putMs_snoc, nil_dec, e1]; simp [h4]
        simp (disch := first | omega | assumption) only [h5, wrap64, List.length_append, steps, st2, pev, rev, oev, optr, ibin, sbin, ishf, bound, mmAll, mm2, mk, mkArgs, AV.cells, AV.boxable, AV.one, AV.strip1, fillA, fillS, Nat.reduceEqDiff, reduceCtorEq, ↓reduceIte, Nat.reduceAdd, Int.reduceNeg, Nat.reduceLeDiff, Int.reduceToNat, Int.reduceEq, Int.reduceLT, Int.reduceLE, Int.reduceAdd]
        have nx := hJ (a ++ [44] ++ quoteM x ++ [58] ++ [49], u) Heap.emp ⟨rfl, e4.symm, e3.symm, by simp at hlen ⊢; omega, fun s hs => by
          rcases List.mem_append.1 hs with e | e
          · exact hval s e
          · rw [List.mem_singleton] at e; rw [e]; exact hv⟩
        exact goJ nx (by simp (disch := first | omega | assumption) only [steps, st2, pev, rev, oev, optr, ibin, sbin, ishf, bound, mmAll, mm2, mk, mkArgs, AV.cells, AV.boxable, AV.one, AV.strip1, fillA, fillS, Nat.reduceEqDiff, reduceCtorEq, ↓reduceIte, Nat.reduceAdd, Int.reduceNeg, Nat.reduceLeDiff, Int.reduceToNat, Int.reduceEq, Int.reduceLT, Int.reduceLE, Int.reduceAdd])
    · have h3 : ((j : Int) < done.length) = True := eq_true (by omega)
      have hjl : j < done.length := by omega
      obtain ⟨z, hz⟩ : ∃ z, done[j]? = some z := ⟨_, List.getElem?_eq_getElem hjl⟩
      have hz2 : (cT l).getD j [] = [.str z] := by
        have : l[j]? = some z := by rw [hd, List.getElem?_append_left hjl]; exact hz
        simp [cT, List.getD, this]
      have hjl2 : ((j : Int) < l.length) = True := eq_true (by omega)
      have hdr : done.drop j = z :: done.drop (j + 1) := by
        rw [List.drop_eq_getElem_cons hjl]
        have : done[j] = z := by
          have := List.getElem?_eq_getElem hjl
          rw [hz] at this; exact (Option.some.inj this).symm
        rw [this]
      rw [hdr, List.contains_cons] at hu
      have nx : ∀ u' : Bool, (u' || (done.drop (j + 1)).contains x) = (t || done.contains x) → J' ((setAll _ [(4, .bool u'), (6, .int .i64 ((j + 1 : Nat) : Int))]).keep [0, 3, 4, 5, 6]) Heap.emp := fun u' e => hJ' (j + 1, u') _ (by simp; omega) ⟨rfl, by simp; omega, e⟩
      cases u
      · have hzx : (z == x) = decide (z = x) := by by_cases e : z = x <;> simp [e]
        have hxz : (x == z) = decide (z = x) := by
          by_cases e : z = x
          · simp [e]
          · simp only [e, decide_false]; simpa using fun h : x = z => e h.symm
        simp (disch := first | omega | assumption) only [h3, hjl2, hz2, hg, h1, hlt, hzx, wrap64, steps, st2, pev, rev, oev, optr, ibin, sbin, ishf, bound, mmAll, mm2, mk, mkArgs, AV.cells, AV.boxable, AV.one, AV.strip1, fillA, fillS, Nat.reduceEqDiff, reduceCtorEq, ↓reduceIte, Nat.reduceAdd, Int.reduceNeg, Nat.reduceLeDiff, Int.reduceToNat, Int.reduceEq, Int.reduceLT, Int.reduceLE, Int.reduceAdd]
        exact goJ (nx (decide (z = x)) (by rw [← hu, hxz]; simp)) (by simp (disch := first | omega | assumption) only [nat_succ2, steps, st2, pev, rev, oev, optr, ibin, sbin, ishf, bound, mmAll, mm2, mk, mkArgs, AV.cells, AV.boxable, AV.one, AV.strip1, fillA, fillS, Nat.reduceEqDiff, reduceCtorEq, ↓reduceIte, Nat.reduceAdd, Int.reduceNeg, Nat.reduceLeDiff, Int.reduceToNat, Int.reduceEq, Int.reduceLT, Int.reduceLE, Int.reduceAdd])
      · simp (disch := first | omega | assumption) only [h3, wrap64, steps, st2, pev, rev, oev, optr, ibin, sbin, ishf, bound, mmAll, mm2, mk, mkArgs, AV.cells, AV.boxable, AV.one, AV.strip1, fillA, fillS, Nat.reduceEqDiff, reduceCtorEq, ↓reduceIte, Nat.reduceAdd, Int.reduceNeg, Nat.reduceLeDiff, Int.reduceToNat, Int.reduceEq, Int.reduceLT, Int.reduceLE, Int.reduceAdd]
        exact goJ (nx true (by rw [← hu]; simp)) (by simp (disch := first | omega | assumption) only [nat_succ2, steps, st2, pev, rev, oev, optr, ibin, sbin, ishf, bound, mmAll, mm2, mk, mkArgs, AV.cells, AV.boxable, AV.one, AV.strip1, fillA, fillS, Nat.reduceEqDiff, reduceCtorEq, ↓reduceIte, Nat.reduceAdd, Int.reduceNeg, Nat.reduceLeDiff, Int.reduceToNat, Int.reduceEq, Int.reduceLT, Int.reduceLE, Int.reduceAdd])
end Go.Proofs.YtpjafglhdlfnbaaDoor
namespace Go.Proofs.YtpjafglhdlfnbaaDoor
open Go.Ab Go.Lib
def txs : Bool → List Val → List UInt8
  | _, [] => []
  | f, v :: r => (if f then [] else [44]) ++ ((printM v).1 ++ txs false r)
def txm : Bool → List Mem → List UInt8
  | _, [] => []
  | f, .mk s v :: r => (if f then [] else [44]) ++ ((printM (textV s)).1 ++ ([58] ++ ((printM v).1 ++ txm false r)))
def fitB : List (List UInt8) → List Mem → Bool
  | _, [] => true
  | ns, .mk s v :: r => (rightV v && (validD s && !(ns.contains s))) && fitB (ns ++ [s]) r
theorem txs_snoc : ∀ (l : List Val) (f : Bool) (v : Val), txs f (l ++ [v]) = txs f l ++ ((if f && l.isEmpty then [] else [44]) ++ (printM v).1)
  | [], f, v => by cases f <;> simp [txs]
  | y :: l, f, v => by
    rw [List.cons_append, txs, txs_snoc l false v, txs]
    cases f <;> simp
theorem txm_snoc : ∀ (l : List Mem) (f : Bool) (s : List UInt8) (v : Val), txm f (l ++ [.mk s v]) = txm f l ++ ((if f && l.isEmpty then [] else [44]) ++ ((printM (textV s)).1 ++ ([58] ++ (printM v).1)))
  | [], f, s, v => by cases f <;> simp [txm]
  | .mk t w :: l, f, s, v => by
    rw [List.cons_append, txm, txm_snoc l false s v, txm]
    cases f <;> simp
theorem fitB_snoc : ∀ (l : List Mem) (ns : List (List UInt8)) (s : List UInt8) (v : Val), fitB ns (l ++ [.mk s v]) = (fitB ns l && (rightV v && (validD s && !((ns ++ l.map nmM).contains s))))
  | [], ns, s, v => by simp [fitB]
  | .mk t w :: l, ns, s, v => by
    rw [List.cons_append, fitB, fitB_snoc l (ns ++ [t]) s v, fitB]
    simp [nmM, Bool.and_assoc]
theorem print_ok {v : Val} (h : rightV v = true) : (printM v).1 = putV v := by unfold printM; rw [h]; rfl
theorem print_is (v : Val) : (printM v).2 = rightV v := by unfold printM; cases rightV v <;> rfl
theorem text_ok {s : List UInt8} (h : validD s = true) : (printM (textV s)).1 = quoteM s := by rw [textV_print, h]; rfl
theorem text_is (s : List UInt8) : (printM (textV s)).2 = validD s := by rw [textV_print]; cases validD s <;> rfl
theorem txs_put : ∀ (l : List Val) (f : Bool), l.all rightV = true → txs f l = putVs f l
  | [], _, _ => rfl
  | v :: l, f, h => by
    simp only [List.all_cons, Bool.and_eq_true] at h
    rw [txs, putVs, print_ok h.1, txs_put l false h.2]
theorem txm_put : ∀ (l : List Mem) (f : Bool) (ns : List (List UInt8)), fitB ns l = true → txm f l = putMs f l
  | [], _, _, _ => rfl
  | .mk s v :: l, f, ns, h => by
    simp only [fitB, Bool.and_eq_true] at h
    rw [txm, putMs, putM, print_ok h.1.1, text_ok h.1.2.1, txm_put l false _ h.2]
    simp
theorem all_right : ∀ l : List Val, l.all rightV = (allVs validD l && singVs l)
  | [] => rfl
  | v :: l => by
    rw [List.all_cons, all_right l]
    simp only [rightV, goodV, allVs, singVs]
    cases allV validD v <;> cases singV v <;> cases allVs validD l <;> rfl
theorem fit_right : ∀ (l : List Mem) (ns : List (List UInt8)), fitB ns l = (allMs validD l && singMs ns l)
  | [], _ => rfl
  | .mk s v :: l, ns => by
    rw [fitB, fit_right l]
    simp only [rightV, goodV, allMs, allM, singMs, singM, nmM]
    cases allV validD v <;> cases singV v <;> cases validD s <;> cases ns.contains s <;> cases allMs validD l <;> rfl
theorem list_print (l : List Val) : printM (.mk 6 0 [] l []) = if l.all rightV then (91 :: (txs true l ++ [93]), true) else ([], false) := by
  have h : rightV (.mk 6 0 [] l []) = l.all rightV := by rw [all_right]; simp [rightV, goodV, allV, bareM, singV, singMs]
  unfold printM
  rw [h]
  cases hl : l.all rightV
  · rfl
  · rw [txs_put l true hl]; simp [putV]
theorem map_print (m : List Mem) : printM (.mk 7 0 [] [] m) = if fitB [] m then (123 :: (txm true m ++ [125]), true) else ([], false) := by
  have h : rightV (.mk 7 0 [] [] m) = fitB [] m := by rw [fit_right]; simp [rightV, goodV, allV, bareM, singV, singVs]
  unfold printM
  rw [h]
  cases hl : fitB [] m
  · rfl
  · rw [txm_put m true [] hl]; simp [putV]
/-- names and values side by side -/
def prs : List (List UInt8) → List Val → List Mem
  | s :: ns, v :: l => .mk s v :: prs ns l
  | _, _ => []
theorem prs_len : ∀ (ns : List (List UInt8)) (l : List Val), (prs ns l).length = min ns.length l.length
  | [], l => by simp [prs]
  | s :: ns, [] => by simp [prs]
  | s :: ns, v :: l => by simp [prs, prs_len ns l]
theorem prs_snoc : ∀ (ns : List (List UInt8)) (l : List Val) (v : Val), prs ns (l ++ [v]) = prs ns l ++ (match ns[l.length]? with | some s => [.mk s v] | none => [])
  | [], l, v => by simp [prs]
  | s :: ns, [], v => by simp [prs]
  | s :: ns, w :: l, v => by
    rw [List.cons_append, prs, prs_snoc ns l v, prs]
    simp
theorem prs_wf : ∀ (ns : List (List UInt8)) (l : List Val), wfVs l → wfMs (prs ns l)
  | [], l, _ => by cases l <;> trivial
  | s :: ns, [], _ => trivial
  | s :: ns, v :: l, h => ⟨h.1, prs_wf ns l h.2⟩
def totN (l : List (List UInt8)) : Nat := (l.map fun s => s.length + 1).sum
theorem prs_b : ∀ (ns : List (List UInt8)) (l : List Val), bMs (prs ns l) ≤ totN ns + bVs l
  | [], l => by cases l <;> simp [prs, bMs]
  | s :: ns, [] => by simp [prs, bMs]
  | s :: ns, v :: l => by
    have := prs_b ns l
    simp only [prs, bMs, bM, bVs, totN, List.map_cons, List.sum_cons] at this ⊢; omega
theorem print_len {v : Val} (h : wfV v) : (printM v).1.length + 4 ≤ 25 * bV v := by
  have h1 := put_le v h
  have h2 := bV_pos v
  unfold printM
  split
  · exact h1
  · simp; omega
theorem text_len (s : List UInt8) : (printM (textV s)).1.length ≤ 6 * s.length + 2 := by
  rw [textV_print]
  split
  · exact quote_len s
  · simp
theorem txs_len : ∀ (l : List Val) (f : Bool), wfVs l → (txs f l).length ≤ 25 * bVs l
  | [], _, _ => by simp [txs]
  | v :: l, f, h => by
    have h1 := print_len h.1
    have h2 := txs_len l false h.2
    simp only [txs, bVs, List.length_append]
    cases f <;> simp <;> omega
theorem txm_len : ∀ (l : List Mem) (f : Bool), wfMs l → (txm f l).length ≤ 25 * bMs l
  | [], _, _ => by simp [txm]
  | .mk s v :: l, f, h => by
    have h1 := print_len h.1
    have h2 := txm_len l false h.2
    have h3 := text_len s
    simp only [txm, bMs, bM, List.length_append, List.length_cons, List.length_nil]
    cases f <;> simp <;> omega
theorem totN_mem {s : List UInt8} : ∀ {l : List (List UInt8)}, s ∈ l → s.length + 1 ≤ totN l
  | t :: l, h => by
    simp only [totN, List.map_cons, List.sum_cons]
    rcases List.mem_cons.1 h with e | e
    · subst e; omega
    · have := totN_mem e; simp only [totN] at this; omega
theorem prs_nil {names : List (List UInt8)} {done : List Val} (h : ¬ (names.length : Int) ≤ done.length) : (prs names done).isEmpty = decide (done = []) := by
  cases names with
  | nil => simp at h
  | cons s ns => cases done <;> rfl
abbrev hB (o : Own) (m : List Mem) : AObj := .cells [.int .i64 7, .int .i64 0, .str [], .sl .nil 5 [], .sl o 6 (cMs m)]
abbrev hA (l : List Val) : AObj := .cells [.int .i64 6, .int .i64 0, .str [], .sl .no 5 (cVs l), .sl .nil 6 []]
structure LsI (l : List Val) (names : List (List UInt8)) (b7 b8 : Nat) (done : List Val) (x : List UInt8 × List UInt8 × Bool × Bool × Own) (H : Heap) : Prop where
  a : x.1 = 91 :: txs true done
  b : x.2.1 = 123 :: txm true (prs names done)
  g : x.2.2.1 = done.all rightV
  f : x.2.2.2.1 = fitB [] (prs names done)
  h7 : H b7 = some (hA l)
  h8 : H b8 = some (hB x.2.2.2.2 (prs names done))
  own : Owned H x.2.2.2.2 (prs names done).length 6
theorem getV_get (t : List UInt8) : ∀ l, (getV t l).2 = (l.map nmM).contains t
  | [] => rfl
  | .mk s v :: r => by
    simp only [getV, List.map_cons, List.contains_cons, nmM]
    by_cases h : s = t
    · simp [h]
    · have h' : (t == s) = false := by simpa using fun e : t = s => h e.symm
      simp only [h, if_false, h', Bool.false_or]; exact getV_get t r
set_option maxHeartbeats 4000000 in
theorem jsonLists (l : List Val) (names : List (List UInt8)) (hw : wfVs l) (hb : bVs l ≤ 1048576) (hn : totN names ≤ 1048576) : Pure Tryd.prog 11 [.sl .no 5 (cVs l), .sl .no 1 (cT names)] (.bool true) := by
  refine Pure.go ir11 ck11 (Nat.le_refl _) fun KP Q hQ => ?_
  have h1 := cVs_len l
  have h2 := cT_len names
  have hll := bVs_len l
  simp (disch := first | omega | assumption) only [ir11, steps, st2, pev, rev, oev, optr, ibin, sbin, ishf, bound, mmAll, mm2, mk, mkArgs, AV.cells, AV.boxable, AV.one, AV.strip1, fillA, fillS, Nat.reduceEqDiff, reduceCtorEq, ↓reduceIte, Nat.reduceAdd, Int.reduceNeg, Nat.reduceLeDiff, Int.reduceToNat, Int.reduceEq, Int.reduceLT, Int.reduceLE, Int.reduceAdd]
  refine goK_pure (Pure.low (sizeC (.mk 0 0 [] l []) (by simp only [bV, bMs, List.length_nil, Lim]; omega))) ?_
  by_cases c1 : (3000 : Int) < bV (.mk 0 0 [] l [])
  · simp (disch := first | omega | assumption) only [c1, steps, st2, pev, rev, oev, optr, ibin, sbin, ishf, bound, mmAll, mm2, mk, mkArgs, AV.cells, AV.boxable, AV.one, AV.strip1, fillA, fillS, Nat.reduceEqDiff, reduceCtorEq, ↓reduceIte, Nat.reduceAdd, Int.reduceNeg, Nat.reduceLeDiff, Int.reduceToNat, Int.reduceEq, Int.reduceLT, Int.reduceLE, Int.reduceAdd]
    refine goK_pure awakeJ ?_
    simp (disch := first | omega | assumption) only [steps, st2, pev, rev, oev, optr, ibin, sbin, ishf, bound, mmAll, mm2, mk, mkArgs, AV.cells, AV.boxable, AV.one, AV.strip1, fillA, fillS, Nat.reduceEqDiff, reduceCtorEq, ↓reduceIte, Nat.reduceAdd, Int.reduceNeg, Nat.reduceLeDiff, Int.reduceToNat, Int.reduceEq, Int.reduceLT, Int.reduceLE, Int.reduceAdd]
    exact hQ _ _ _ _ nofun rfl (by simp [tupOf, envOf, AV.strip, AV.strip1])
  by_cases c2 : (60 : Int) < names.length
  · simp (disch := first | omega | assumption) only [c1, c2, h2, steps, st2, pev, rev, oev, optr, ibin, sbin, ishf, bound, mmAll, mm2, mk, mkArgs, AV.cells, AV.boxable, AV.one, AV.strip1, fillA, fillS, Nat.reduceEqDiff, reduceCtorEq, ↓reduceIte, Nat.reduceAdd, Int.reduceNeg, Nat.reduceLeDiff, Int.reduceToNat, Int.reduceEq, Int.reduceLT, Int.reduceLE, Int.reduceAdd]
    refine goK_pure awakeJ ?_
    simp (disch := first | omega | assumption) only [steps, st2, pev, rev, oev, optr, ibin, sbin, ishf, bound, mmAll, mm2, mk, mkArgs, AV.cells, AV.boxable, AV.one, AV.strip1, fillA, fillS, Nat.reduceEqDiff, reduceCtorEq, ↓reduceIte, Nat.reduceAdd, Int.reduceNeg, Nat.reduceLeDiff, Int.reduceToNat, Int.reduceEq, Int.reduceLT, Int.reduceLE, Int.reduceAdd]
    exact hQ _ _ _ _ nofun rfl (by simp [tupOf, envOf, AV.strip, AV.strip1])
  simp (disch := first | omega | assumption) only [c1, c2, h2, steps, st2, pev, rev, oev, optr, ibin, sbin, ishf, bound, mmAll, mm2, mk, mkArgs, AV.cells, AV.boxable, AV.one, AV.strip1, fillA, fillS, Nat.reduceEqDiff, reduceCtorEq, ↓reduceIte, Nat.reduceAdd, Int.reduceNeg, Nat.reduceLeDiff, Int.reduceToNat, Int.reduceEq, Int.reduceLT, Int.reduceLE, Int.reduceAdd]
  have c1' : bVs l ≤ 3000 := by simp only [bV, bMs, List.length_nil] at c1; omega
  refine goA_intro fun b7 hb7 => ?_
  simp (disch := first | omega | assumption) only [steps, st2, pev, rev, oev, optr, ibin, sbin, ishf, bound, mmAll, mm2, mk, mkArgs, AV.cells, AV.boxable, AV.one, AV.strip1, fillA, fillS, Nat.reduceEqDiff, reduceCtorEq, ↓reduceIte, Nat.reduceAdd, Int.reduceNeg, Nat.reduceLeDiff, Int.reduceToNat, Int.reduceEq, Int.reduceLT, Int.reduceLE, Int.reduceAdd]
  refine goA_intro fun b8 hb8 => ?_
  have n78 : b7 ≠ b8 := fun e => by subst e; simp [Heap.upd] at hb8
  simp (disch := first | omega | assumption) only [n78, Ne.symm n78, h1, steps, st2, pev, rev, oev, optr, ibin, sbin, ishf, bound, mmAll, mm2, mk, mkArgs, AV.cells, AV.boxable, AV.one, AV.strip1, fillA, fillS, Nat.reduceEqDiff, reduceCtorEq, ↓reduceIte, Nat.reduceAdd, Int.reduceNeg, Nat.reduceLeDiff, Int.reduceToNat, Int.reduceEq, Int.reduceLT, Int.reduceLE, Int.reduceAdd]
  refine goL_range l 11 (fun x : List UInt8 × List UInt8 × Bool × Bool × Own => [(5, .str x.1), (6, .str x.2.1), (9, .bool x.2.2.1), (10, .bool x.2.2.2.1)]) (fun done rest x H => LsI l names b7 b8 done x H) ([91], [123], true, true, .nil) (by simp (disch := first | omega | assumption) only [steps, st2, pev, rev, oev, optr, ibin, sbin, ishf, bound, mmAll, mm2, mk, mkArgs, AV.cells, AV.boxable, AV.one, AV.strip1, fillA, fillS, Nat.reduceEqDiff, reduceCtorEq, ↓reduceIte, Nat.reduceAdd, Int.reduceNeg, Nat.reduceLeDiff, Int.reduceToNat, Int.reduceEq, Int.reduceLT, Int.reduceLE, Int.reduceAdd]) ⟨rfl, by cases names <;> rfl, rfl, by cases names <;> rfl, by simp [Heap.upd, n78], by simp only [Heap.upd, if_true, hB]; cases names <;> rfl, by cases names <;> rfl⟩ ?_ ?_
  · rintro ⟨a, b, g, f, o⟩ H J ⟨ha, hbb, hg, hf, h7, h8, how⟩ hlt
    simp only at ha hbb hg hf h8 how
    simp (disch := first | omega | assumption) only [h1, hlt, h7, steps, st2, pev, rev, oev, optr, ibin, sbin, ishf, bound, mmAll, mm2, mk, mkArgs, AV.cells, AV.boxable, AV.one, AV.strip1, fillA, fillS, Nat.reduceEqDiff, reduceCtorEq, ↓reduceIte, Nat.reduceAdd, Int.reduceNeg, Nat.reduceLeDiff, Int.reduceToNat, Int.reduceEq, Int.reduceLT, Int.reduceLE, Int.reduceAdd]
    refine goK_pure (Pure.low (PrintC (.mk 6 0 [] l []) ⟨inR0, hw, trivial⟩ (by simp only [bV, bMs, List.length_nil, Lim]; omega))) ?_
    have hpb := prs_b names l
    have e1 : (printM (.mk 6 0 [] l [])).2 = g ∧ (g = true → (printM (.mk 6 0 [] l [])).1 = a ++ [93]) := by
      rw [list_print, ← hg]
      cases g
      · exact ⟨rfl, nofun⟩
      · exact ⟨rfl, fun _ => by rw [ha]; rfl⟩
    have e2 : (printM (.mk 7 0 [] [] (prs names l))).2 = f ∧ (f = true → (printM (.mk 7 0 [] [] (prs names l))).1 = b ++ [125]) := by
      rw [map_print, ← hf]
      cases f
      · exact ⟨rfl, nofun⟩
      · exact ⟨rfl, fun _ => by rw [hbb]; rfl⟩
    have la : a.length ≤ 1 + 25 * bVs l := by have := txs_len l true hw; rw [ha]; simp; omega
    have lb : b.length ≤ 1 + 25 * (totN names + bVs l) := by have := txm_len (prs names l) true (prs_wf names l hw); rw [hbb]; simp; omega
    generalize (printM (.mk 6 0 [] l [])).1 = s1 at e1 ⊢
    rw [e1.1]
    simp (disch := first | omega | assumption) only [h8, steps, st2, pev, rev, oev, optr, ibin, sbin, ishf, bound, mmAll, mm2, mk, mkArgs, AV.cells, AV.boxable, AV.one, AV.strip1, fillA, fillS, Nat.reduceEqDiff, reduceCtorEq, ↓reduceIte, Nat.reduceAdd, Int.reduceNeg, Nat.reduceLeDiff, Int.reduceToNat, Int.reduceEq, Int.reduceLT, Int.reduceLE, Int.reduceAdd]
    refine goK_pure (Pure.low (PrintC (.mk 7 0 [] [] (prs names l)) ⟨inR0, trivial, prs_wf names l hw⟩ (by simp only [bV, bVs, List.length_nil, Lim]; omega))) ?_
    generalize (printM (.mk 7 0 [] [] (prs names l))).1 = s2 at e2 ⊢
    rw [e2.1]
    cases g <;> cases f <;> simp only [true_implies, Bool.false_eq_true, false_implies, and_true] at e1 e2
    · simp (disch := first | omega | assumption) only [List.length_append, steps, st2, pev, rev, oev, optr, ibin, sbin, ishf, bound, mmAll, mm2, mk, mkArgs, AV.cells, AV.boxable, AV.one, AV.strip1, fillA, fillS, Nat.reduceEqDiff, reduceCtorEq, ↓reduceIte, Nat.reduceAdd, Int.reduceNeg, Nat.reduceLeDiff, Int.reduceToNat, Int.reduceEq, Int.reduceLT, Int.reduceLE, Int.reduceAdd]
      refine goK_pure awakeJ ?_
      simp (disch := first | omega | assumption) only [steps, st2, pev, rev, oev, optr, ibin, sbin, ishf, bound, mmAll, mm2, mk, mkArgs, AV.cells, AV.boxable, AV.one, AV.strip1, fillA, fillS, Nat.reduceEqDiff, reduceCtorEq, ↓reduceIte, Nat.reduceAdd, Int.reduceNeg, Nat.reduceLeDiff, Int.reduceToNat, Int.reduceEq, Int.reduceLT, Int.reduceLE, Int.reduceAdd]
      exact hQ _ _ _ _ nofun rfl (by simp [tupOf, envOf, AV.strip, AV.strip1])
    · simp (disch := first | omega | assumption) only [List.length_append, e2, steps, st2, pev, rev, oev, optr, ibin, sbin, ishf, bound, mmAll, mm2, mk, mkArgs, AV.cells, AV.boxable, AV.one, AV.strip1, fillA, fillS, Nat.reduceEqDiff, reduceCtorEq, ↓reduceIte, Nat.reduceAdd, Int.reduceNeg, Nat.reduceLeDiff, Int.reduceToNat, Int.reduceEq, Int.reduceLT, Int.reduceLE, Int.reduceAdd]
      refine goK_pure awakeJ ?_
      simp (disch := first | omega | assumption) only [steps, st2, pev, rev, oev, optr, ibin, sbin, ishf, bound, mmAll, mm2, mk, mkArgs, AV.cells, AV.boxable, AV.one, AV.strip1, fillA, fillS, Nat.reduceEqDiff, reduceCtorEq, ↓reduceIte, Nat.reduceAdd, Int.reduceNeg, Nat.reduceLeDiff, Int.reduceToNat, Int.reduceEq, Int.reduceLT, Int.reduceLE, Int.reduceAdd]
      exact hQ _ _ _ _ nofun rfl (by simp [tupOf, envOf, AV.strip, AV.strip1])
    · simp (disch := first | omega | assumption) only [List.length_append, e1, steps, st2, pev, rev, oev, optr, ibin, sbin, ishf, bound, mmAll, mm2, mk, mkArgs, AV.cells, AV.boxable, AV.one, AV.strip1, fillA, fillS, Nat.reduceEqDiff, reduceCtorEq, ↓reduceIte, Nat.reduceAdd, Int.reduceNeg, Nat.reduceLeDiff, Int.reduceToNat, Int.reduceEq, Int.reduceLT, Int.reduceLE, Int.reduceAdd]
      refine goK_pure awakeJ ?_
      simp (disch := first | omega | assumption) only [steps, st2, pev, rev, oev, optr, ibin, sbin, ishf, bound, mmAll, mm2, mk, mkArgs, AV.cells, AV.boxable, AV.one, AV.strip1, fillA, fillS, Nat.reduceEqDiff, reduceCtorEq, ↓reduceIte, Nat.reduceAdd, Int.reduceNeg, Nat.reduceLeDiff, Int.reduceToNat, Int.reduceEq, Int.reduceLT, Int.reduceLE, Int.reduceAdd]
      exact hQ _ _ _ _ nofun rfl (by simp [tupOf, envOf, AV.strip, AV.strip1])
    · simp (disch := first | omega | assumption) only [List.length_append, e1, e2, steps, st2, pev, rev, oev, optr, ibin, sbin, ishf, bound, mmAll, mm2, mk, mkArgs, AV.cells, AV.boxable, AV.one, AV.strip1, fillA, fillS, Nat.reduceEqDiff, reduceCtorEq, ↓reduceIte, Nat.reduceAdd, Int.reduceNeg, Nat.reduceLeDiff, Int.reduceToNat, Int.reduceEq, Int.reduceLT, Int.reduceLE, Int.reduceAdd]
      refine goK_pure awakeJ ?_
      simp (disch := first | omega | assumption) only [steps, st2, pev, rev, oev, optr, ibin, sbin, ishf, bound, mmAll, mm2, mk, mkArgs, AV.cells, AV.boxable, AV.one, AV.strip1, fillA, fillS, Nat.reduceEqDiff, reduceCtorEq, ↓reduceIte, Nat.reduceAdd, Int.reduceNeg, Nat.reduceLeDiff, Int.reduceToNat, Int.reduceEq, Int.reduceLT, Int.reduceLE, Int.reduceAdd]
      exact hQ _ _ _ _ nofun rfl (by simp [tupOf, envOf, AV.strip, AV.strip1])
  · rintro done x rest ⟨a, b, g, f, o⟩ H J hd hlt hlt2 ⟨ha, hbb, hg, hf, h7, h8, how⟩ hJ
    simp only at ha hbb hg hf h8 how
    have hget := cVs_get hd
    have hmem : x ∈ l := by rw [hd]; simp
    have hwx := wfVs_mem hw x hmem
    have hbm := bVs_mid done x rest
    rw [← hd] at hbm
    have hwd : wfVs done := by
      have : ∀ (d r : List Val), wfVs (d ++ r) → wfVs d := fun d r => by
        induction d with
        | nil => intro _; trivial
        | cons y d ih => intro h; exact ⟨h.1, ih h.2⟩
      exact this done (x :: rest) (by rw [← hd]; exact hw)
    have la : a.length ≤ 1 + 25 * bVs done := by have := txs_len done true hwd; rw [ha]; simp; omega
    have lb : b.length ≤ 1 + 25 * (totN names + bVs done) := by have := txm_len (prs names done) true (prs_wf names done hwd); have := prs_b names done; rw [hbb]; simp; omega
    have lx := print_len hwx
    have hsn := prs_snoc names done x
    simp (disch := first | omega | assumption) only [cV_len, cV_take, cV_splice, cM_len, cM_take, cM_splice, cM_mk, h1, hlt, hget, steps, st2, pev, rev, oev, optr, ibin, sbin, ishf, bound, mmAll, mm2, mk, mkArgs, AV.cells, AV.boxable, AV.one, AV.strip1, fillA, fillS, Nat.reduceEqDiff, reduceCtorEq, ↓reduceIte, Nat.reduceAdd, Int.reduceNeg, Nat.reduceLeDiff, Int.reduceToNat, Int.reduceEq, Int.reduceLT, Int.reduceLE, Int.reduceAdd]
    refine goK_pure (PrintC x hwx (by simp only [Lim]; omega)) ?_
    rw [print_is]
    by_cases h0 : done = []
    · have h0' : ((0 : Int) < done.length) = False := eq_false (by rw [h0]; simp)
      have eA : 91 :: txs true (done ++ [x]) = a ++ [] ++ (printM x).1 := by
        rw [txs_snoc, ha]; simp [h0]
      by_cases c3 : (names.length : Int) ≤ done.length
      · have hno : names[done.length]? = none := List.getElem?_eq_none (by omega)
        rw [hno] at hsn
        simp only [List.append_nil] at hsn
        have nx := hJ (a ++ [] ++ (printM x).1, b, g && rightV x, f, o) H ⟨eA.symm, by rw [hsn]; exact hbb, by rw [hg]; simp, by rw [hsn]; exact hf, h7, by rw [hsn]; exact h8, by rw [hsn]; exact how⟩
        generalize (printM x).1 = t1 at *
        cases hg1 : g <;> simp only [hg1, Bool.false_and, Bool.true_and] at nx
        all_goals
          simp (disch := first | omega | assumption) only [cV_len, cV_take, cV_splice, cM_len, cM_take, cM_splice, cM_mk, h1, h2, hlt, hget, h0', c3, wrap64, List.length_append, steps, st2, pev, rev, oev, optr, ibin, sbin, ishf, bound, mmAll, mm2, mk, mkArgs, AV.cells, AV.boxable, AV.one, AV.strip1, fillA, fillS, Nat.reduceEqDiff, reduceCtorEq, ↓reduceIte, Nat.reduceAdd, Int.reduceNeg, Nat.reduceLeDiff, Int.reduceToNat, Int.reduceEq, Int.reduceLT, Int.reduceLE, Int.reduceAdd]
          exact goJ nx (by simp (disch := first | omega | assumption) only [steps, st2, pev, rev, oev, optr, ibin, sbin, ishf, bound, mmAll, mm2, mk, mkArgs, AV.cells, AV.boxable, AV.one, AV.strip1, fillA, fillS, Nat.reduceEqDiff, reduceCtorEq, ↓reduceIte, Nat.reduceAdd, Int.reduceNeg, Nat.reduceLeDiff, Int.reduceToNat, Int.reduceEq, Int.reduceLT, Int.reduceLE, Int.reduceAdd])
      · obtain ⟨nm, hnm⟩ : ∃ nm, names[done.length]? = some nm := ⟨_, List.getElem?_eq_getElem (by omega)⟩
        rw [hnm] at hsn
        simp only at hsn
        have c4 : ((done.length : Int) < names.length) = True := eq_true (by omega)
        have hg2 : (cT names).getD done.length [] = [.str nm] := by simp [cT, List.getD, hnm]
        have htn : nm.length + 1 ≤ totN names := totN_mem (List.mem_of_getElem? hnm)
        have l2 := text_len nm
        have hpl := prs_len names done
        have hpm : (prs names done).length ≤ 60 := by omega
        have h5 := cMs_len (prs names done)
        have h6 := cMs_len (prs names done ++ [Mem.mk nm x])
        have hgt := getV_get nm (prs names done)
        have e4 : (prs names done).isEmpty = decide (done = []) := prs_nil c3
        have eB : 123 :: txm true (prs names (done ++ [x])) = b ++ [] ++ (printM (textV nm)).1 ++ [58] ++ (printM x).1 := by
          rw [hsn, txm_snoc, hbb, e4]; simp [h0]
        have eF : fitB [] (prs names (done ++ [x])) = (f && (rightV x && (validD nm && !(((prs names done).map nmM).contains nm)))) := by
          rw [hsn, fitB_snoc, hf]; rfl
        have nx := fun o' H' h7' h8' how' => hJ (a ++ [] ++ (printM x).1, b ++ [] ++ (printM (textV nm)).1 ++ [58] ++ (printM x).1, g && rightV x, (f && (rightV x && (validD nm && !(((prs names done).map nmM).contains nm)))), o') H' ⟨eA.symm, eB.symm, by rw [hg]; simp, eF.symm, h7', h8', how'⟩
        rw [hsn] at nx
        have hP2 := PrintC (textV nm) ⟨inR0, trivial, trivial⟩ (by simp only [textV, bV, bVs, bMs, Lim]; omega)
        rw [text_is] at hP2
        have hP1 := getP nm (prs names done) (by simp only [Lim]; omega)
        rw [hgt] at hP1
        generalize (printM x).1 = t1 at *
        generalize (printM (textV nm)).1 = t2 at *
        generalize ((prs names done).map nmM).contains nm = tw at *
        generalize validD nm = vs at *
        generalize hrv : rightV x = rv at *
        generalize (getV nm (prs names done)).1 = gv at *
        have hsp : ∀ (o' : Own) (y : List (List AV)), splice [.int .i64 7, .int .i64 0, .str [], .sl .nil 5 [], .sl o 6 (cMs (prs names done))] 4 [.sl o' 6 y] = [.int .i64 7, .int .i64 0, .str [], .sl .nil 5 [], .sl o' 6 y] := fun _ _ => rfl
        have eM : cMs (prs names done) ++ [AV.str nm :: cV x] = cMs (prs names done ++ [.mk nm x]) := by rw [cMs_map, cMs_map]; simp [cM]
        cases g <;> simp only [Bool.false_and, Bool.true_and] at nx
        all_goals
          simp (disch := first | omega | assumption) only [cV_len, cV_take, cV_splice, cM_len, cM_take, cM_splice, cM_mk, h1, h2, hlt, hget, h0', c3, c4, hg2, List.length_append, steps, st2, pev, rev, oev, optr, ibin, sbin, ishf, bound, mmAll, mm2, mk, mkArgs, AV.cells, AV.boxable, AV.one, AV.strip1, fillA, fillS, Nat.reduceEqDiff, reduceCtorEq, ↓reduceIte, Nat.reduceAdd, Int.reduceNeg, Nat.reduceLeDiff, Int.reduceToNat, Int.reduceEq, Int.reduceLT, Int.reduceLE, Int.reduceAdd]
          refine goK_pure (textP nm) ?_
          simp (disch := first | omega | assumption) only [cV_len, cV_take, cV_splice, cM_len, cM_take, cM_splice, cM_mk, h1, h2, hlt, hget, c4, hg2, steps, st2, pev, rev, oev, optr, ibin, sbin, ishf, bound, mmAll, mm2, mk, mkArgs, AV.cells, AV.boxable, AV.one, AV.strip1, fillA, fillS, Nat.reduceEqDiff, reduceCtorEq, ↓reduceIte, Nat.reduceAdd, Int.reduceNeg, Nat.reduceLeDiff, Int.reduceToNat, Int.reduceEq, Int.reduceLT, Int.reduceLE, Int.reduceAdd]
          refine goK_pure hP2 ?_
          simp (disch := first | omega | assumption) only [cV_len, cV_take, cV_splice, cM_len, cM_take, cM_splice, cM_mk, h8, h2, c4, hg2, steps, st2, pev, rev, oev, optr, ibin, sbin, ishf, bound, mmAll, mm2, mk, mkArgs, AV.cells, AV.boxable, AV.one, AV.strip1, fillA, fillS, Nat.reduceEqDiff, reduceCtorEq, ↓reduceIte, Nat.reduceAdd, Int.reduceNeg, Nat.reduceLeDiff, Int.reduceToNat, Int.reduceEq, Int.reduceLT, Int.reduceLE, Int.reduceAdd]
          refine goK_pure (Pure.low hP1) ?_
          simp (disch := first | omega | assumption) only [cV_len, cV_take, cV_splice, cM_len, cM_take, cM_splice, cM_mk, steps, st2, pev, rev, oev, optr, ibin, sbin, ishf, bound, mmAll, mm2, mk, mkArgs, AV.cells, AV.boxable, AV.one, AV.strip1, fillA, fillS, Nat.reduceEqDiff, reduceCtorEq, ↓reduceIte, Nat.reduceAdd, Int.reduceNeg, Nat.reduceLeDiff, Int.reduceToNat, Int.reduceEq, Int.reduceLT, Int.reduceLE, Int.reduceAdd]
          refine goA_intro fun b9 hb9 => ?_
          have n87 : b8 ≠ b7 := fun e => by subst e; rw [h7] at h8; cases h8
          have n8 : b8 ≠ b9 := fun e => by subst e; rw [hb9] at h8; cases h8
          have n7 : b7 ≠ b9 := fun e => by subst e; rw [hb9] at h7; cases h7
          cases f <;> simp only [Bool.false_and, Bool.true_and] at nx
          rotate_left
          cases rv <;> simp only [Bool.false_and, Bool.true_and] at nx
          rotate_left
          cases vs <;> simp only [Bool.false_and, Bool.true_and] at nx
          all_goals
            simp (disch := first | omega | assumption) only [cV_len, cV_take, cV_splice, cM_len, cM_take, cM_splice, cM_mk, h8, h1, h2, hlt, hget, h0', c4, hg2, n8, Ne.symm n8, List.length_append, steps, st2, pev, rev, oev, optr, ibin, sbin, ishf, bound, mmAll, mm2, mk, mkArgs, AV.cells, AV.boxable, AV.one, AV.strip1, fillA, fillS, Nat.reduceEqDiff, reduceCtorEq, ↓reduceIte, Nat.reduceAdd, Int.reduceNeg, Nat.reduceLeDiff, Int.reduceToNat, Int.reduceEq, Int.reduceLT, Int.reduceLE, Int.reduceAdd]
            refine goP_ownS (by rw [h5]; exact how.upd hb9) (by simp [h5]; omega) (by simp [h5, maxLen]; omega) fun o' H' hs => ?_
            have k8 : H' b8 = some _ := own_keep (how.upd hb9) (by rw [upd_ne n8]; exact h8) hs.kept
            have k7 : H' b7 = some _ := own_keep (how.upd hb9) (by rw [upd_ne n7]; exact h7) hs.kept
            have hown : Owned (H'.upd b8 (hB o' (prs names done ++ [Mem.mk nm x]))) o' (prs names done ++ [Mem.mk nm x]).length 6 := by
              refine own_upd ?_ k8
              have := hs.own; simpa [h5] using this
            have nx2 := nx o' (H'.upd b8 (hB o' (prs names done ++ [Mem.mk nm x]))) (by rw [upd_ne (Ne.symm n87)]; exact k7) (upd_same ..) hown
            simp (disch := first | omega | assumption) only [cV_len, cV_take, cV_splice, cM_len, cM_take, cM_splice, cM_mk, k8, h1, h2, hlt, wrap64, cV_strip, eM, hsp, List.length_append, steps, st2, pev, rev, oev, optr, ibin, sbin, ishf, bound, mmAll, mm2, mk, mkArgs, AV.cells, AV.boxable, AV.one, AV.strip1, fillA, fillS, Nat.reduceEqDiff, reduceCtorEq, ↓reduceIte, Nat.reduceAdd, Int.reduceNeg, Nat.reduceLeDiff, Int.reduceToNat, Int.reduceEq, Int.reduceLT, Int.reduceLE, Int.reduceAdd]
            exact goJ nx2 (by simp (disch := first | omega | assumption) only [steps, st2, pev, rev, oev, optr, ibin, sbin, ishf, bound, mmAll, mm2, mk, mkArgs, AV.cells, AV.boxable, AV.one, AV.strip1, fillA, fillS, Nat.reduceEqDiff, reduceCtorEq, ↓reduceIte, Nat.reduceAdd, Int.reduceNeg, Nat.reduceLeDiff, Int.reduceToNat, Int.reduceEq, Int.reduceLT, Int.reduceLE, Int.reduceAdd])
    · have h0' : ((0 : Int) < done.length) = True := eq_true (by have := List.length_pos_iff.2 h0; omega)
      have eA : 91 :: txs true (done ++ [x]) = a ++ [44] ++ (printM x).1 := by
        rw [txs_snoc, ha]; simp [h0]
      by_cases c3 : (names.length : Int) ≤ done.length
      · have hno : names[done.length]? = none := List.getElem?_eq_none (by omega)
        rw [hno] at hsn
        simp only [List.append_nil] at hsn
        have nx := hJ (a ++ [44] ++ (printM x).1, b, g && rightV x, f, o) H ⟨eA.symm, by rw [hsn]; exact hbb, by rw [hg]; simp, by rw [hsn]; exact hf, h7, by rw [hsn]; exact h8, by rw [hsn]; exact how⟩
        generalize (printM x).1 = t1 at *
        cases hg1 : g <;> simp only [hg1, Bool.false_and, Bool.true_and] at nx
        all_goals
          simp (disch := first | omega | assumption) only [cV_len, cV_take, cV_splice, cM_len, cM_take, cM_splice, cM_mk, h1, h2, hlt, hget, h0', c3, wrap64, List.length_append, steps, st2, pev, rev, oev, optr, ibin, sbin, ishf, bound, mmAll, mm2, mk, mkArgs, AV.cells, AV.boxable, AV.one, AV.strip1, fillA, fillS, Nat.reduceEqDiff, reduceCtorEq, ↓reduceIte, Nat.reduceAdd, Int.reduceNeg, Nat.reduceLeDiff, Int.reduceToNat, Int.reduceEq, Int.reduceLT, Int.reduceLE, Int.reduceAdd]
          exact goJ nx (by simp (disch := first | omega | assumption) only [steps, st2, pev, rev, oev, optr, ibin, sbin, ishf, bound, mmAll, mm2, mk, mkArgs, AV.cells, AV.boxable, AV.one, AV.strip1, fillA, fillS, Nat.reduceEqDiff, reduceCtorEq, ↓reduceIte, Nat.reduceAdd, Int.reduceNeg, Nat.reduceLeDiff, Int.reduceToNat, Int.reduceEq, Int.reduceLT, Int.reduceLE, Int.reduceAdd])
      · obtain ⟨nm, hnm⟩ : ∃ nm, names[done.length]? = some nm := ⟨_, List.getElem?_eq_getElem (by omega)⟩
        rw [hnm] at hsn
        simp only at hsn
        have c4 : ((done.length : Int) < names.length) = True := eq_true (by omega)
        have hg2 : (cT names).getD done.length [] = [.str nm] := by simp [cT, List.getD, hnm]
        have htn : nm.length + 1 ≤ totN names := totN_mem (List.mem_of_getElem? hnm)
        have l2 := text_len nm
        have hpl := prs_len names done
        have hpm : (prs names done).length ≤ 60 := by omega
        have h5 := cMs_len (prs names done)
        have h6 := cMs_len (prs names done ++ [Mem.mk nm x])
        have hgt := getV_get nm (prs names done)
        have e4 : (prs names done).isEmpty = decide (done = []) := prs_nil c3
        have eB : 123 :: txm true (prs names (done ++ [x])) = b ++ [44] ++ (printM (textV nm)).1 ++ [58] ++ (printM x).1 := by
          rw [hsn, txm_snoc, hbb, e4]; simp [h0]
        have eF : fitB [] (prs names (done ++ [x])) = (f && (rightV x && (validD nm && !(((prs names done).map nmM).contains nm)))) := by
          rw [hsn, fitB_snoc, hf]; rfl
        have nx := fun o' H' h7' h8' how' => hJ (a ++ [44] ++ (printM x).1, b ++ [44] ++ (printM (textV nm)).1 ++ [58] ++ (printM x).1, g && rightV x, (f && (rightV x && (validD nm && !(((prs names done).map nmM).contains nm)))), o') H' ⟨eA.symm, eB.symm, by rw [hg]; simp, eF.symm, h7', h8', how'⟩
        rw [hsn] at nx
        have hP2 := PrintC (textV nm) ⟨inR0, trivial, trivial⟩ (by simp only [textV, bV, bVs, bMs, Lim]; omega)
        rw [text_is] at hP2
        have hP1 := getP nm (prs names done) (by simp only [Lim]; omega)
        rw [hgt] at hP1
        generalize (printM x).1 = t1 at *
        generalize (printM (textV nm)).1 = t2 at *
        generalize ((prs names done).map nmM).contains nm = tw at *
        generalize validD nm = vs at *
        generalize hrv : rightV x = rv at *
        generalize (getV nm (prs names done)).1 = gv at *
        have hsp : ∀ (o' : Own) (y : List (List AV)), splice [.int .i64 7, .int .i64 0, .str [], .sl .nil 5 [], .sl o 6 (cMs (prs names done))] 4 [.sl o' 6 y] = [.int .i64 7, .int .i64 0, .str [], .sl .nil 5 [], .sl o' 6 y] := fun _ _ => rfl
        have eM : cMs (prs names done) ++ [AV.str nm :: cV x] = cMs (prs names done ++ [.mk nm x]) := by rw [cMs_map, cMs_map]; simp [cM]
        cases g <;> simp only [Bool.false_and, Bool.true_and] at nx
        all_goals
          simp (disch := first | omega | assumption) only [cV_len, cV_take, cV_splice, cM_len, cM_take, cM_splice, cM_mk, h1, h2, hlt, hget, h0', c3, c4, hg2, List.length_append, steps, st2, pev, rev, oev, optr, ibin, sbin, ishf, bound, mmAll, mm2, mk, mkArgs, AV.cells, AV.boxable, AV.one, AV.strip1, fillA, fillS, Nat.reduceEqDiff, reduceCtorEq, ↓reduceIte, Nat.reduceAdd, Int.reduceNeg, Nat.reduceLeDiff, Int.reduceToNat, Int.reduceEq, Int.reduceLT, Int.reduceLE, Int.reduceAdd]
          refine goK_pure (textP nm) ?_
          simp (disch := first | omega | assumption) only [cV_len, cV_take, cV_splice, cM_len, cM_take, cM_splice, cM_mk, h1, h2, hlt, hget, c4, hg2, steps, st2, pev, rev, oev, optr, ibin, sbin, ishf, bound, mmAll, mm2, mk, mkArgs, AV.cells, AV.boxable, AV.one, AV.strip1, fillA, fillS, Nat.reduceEqDiff, reduceCtorEq, ↓reduceIte, Nat.reduceAdd, Int.reduceNeg, Nat.reduceLeDiff, Int.reduceToNat, Int.reduceEq, Int.reduceLT, Int.reduceLE, Int.reduceAdd]
          refine goK_pure hP2 ?_
          simp (disch := first | omega | assumption) only [cV_len, cV_take, cV_splice, cM_len, cM_take, cM_splice, cM_mk, h8, h2, c4, hg2, steps, st2, pev, rev, oev, optr, ibin, sbin, ishf, bound, mmAll, mm2, mk, mkArgs, AV.cells, AV.boxable, AV.one, AV.strip1, fillA, fillS, Nat.reduceEqDiff, reduceCtorEq, ↓reduceIte, Nat.reduceAdd, Int.reduceNeg, Nat.reduceLeDiff, Int.reduceToNat, Int.reduceEq, Int.reduceLT, Int.reduceLE, Int.reduceAdd]
          refine goK_pure (Pure.low hP1) ?_
          simp (disch := first | omega | assumption) only [cV_len, cV_take, cV_splice, cM_len, cM_take, cM_splice, cM_mk, steps, st2, pev, rev, oev, optr, ibin, sbin, ishf, bound, mmAll, mm2, mk, mkArgs, AV.cells, AV.boxable, AV.one, AV.strip1, fillA, fillS, Nat.reduceEqDiff, reduceCtorEq, ↓reduceIte, Nat.reduceAdd, Int.reduceNeg, Nat.reduceLeDiff, Int.reduceToNat, Int.reduceEq, Int.reduceLT, Int.reduceLE, Int.reduceAdd]
          refine goA_intro fun b9 hb9 => ?_
          have n87 : b8 ≠ b7 := fun e => by subst e; rw [h7] at h8; cases h8
          have n8 : b8 ≠ b9 := fun e => by subst e; rw [hb9] at h8; cases h8
          have n7 : b7 ≠ b9 := fun e => by subst e; rw [hb9] at h7; cases h7
          cases f <;> simp only [Bool.false_and, Bool.true_and] at nx
          rotate_left
          cases rv <;> simp only [Bool.false_and, Bool.true_and] at nx
          rotate_left
          cases vs <;> simp only [Bool.false_and, Bool.true_and] at nx
          all_goals
            simp (disch := first | omega | assumption) only [cV_len, cV_take, cV_splice, cM_len, cM_take, cM_splice, cM_mk, h8, h1, h2, hlt, hget, h0', c4, hg2, n8, Ne.symm n8, List.length_append, steps, st2, pev, rev, oev, optr, ibin, sbin, ishf, bound, mmAll, mm2, mk, mkArgs, AV.cells, AV.boxable, AV.one, AV.strip1, fillA, fillS, Nat.reduceEqDiff, reduceCtorEq, ↓reduceIte, Nat.reduceAdd, Int.reduceNeg, Nat.reduceLeDiff, Int.reduceToNat, Int.reduceEq, Int.reduceLT, Int.reduceLE, Int.reduceAdd]
            refine goP_ownS (by rw [h5]; exact how.upd hb9) (by simp [h5]; omega) (by simp [h5, maxLen]; omega) fun o' H' hs => ?_
            have k8 : H' b8 = some _ := own_keep (how.upd hb9) (by rw [upd_ne n8]; exact h8) hs.kept
            have k7 : H' b7 = some _ := own_keep (how.upd hb9) (by rw [upd_ne n7]; exact h7) hs.kept
            have hown : Owned (H'.upd b8 (hB o' (prs names done ++ [Mem.mk nm x]))) o' (prs names done ++ [Mem.mk nm x]).length 6 := by
              refine own_upd ?_ k8
              have := hs.own; simpa [h5] using this
            have nx2 := nx o' (H'.upd b8 (hB o' (prs names done ++ [Mem.mk nm x]))) (by rw [upd_ne (Ne.symm n87)]; exact k7) (upd_same ..) hown
            simp (disch := first | omega | assumption) only [cV_len, cV_take, cV_splice, cM_len, cM_take, cM_splice, cM_mk, k8, h1, h2, hlt, wrap64, cV_strip, eM, hsp, List.length_append, steps, st2, pev, rev, oev, optr, ibin, sbin, ishf, bound, mmAll, mm2, mk, mkArgs, AV.cells, AV.boxable, AV.one, AV.strip1, fillA, fillS, Nat.reduceEqDiff, reduceCtorEq, ↓reduceIte, Nat.reduceAdd, Int.reduceNeg, Nat.reduceLeDiff, Int.reduceToNat, Int.reduceEq, Int.reduceLT, Int.reduceLE, Int.reduceAdd]
            exact goJ nx2 (by simp (disch := first | omega | assumption) only [steps, st2, pev, rev, oev, optr, ibin, sbin, ishf, bound, mmAll, mm2, mk, mkArgs, AV.cells, AV.boxable, AV.one, AV.strip1, fillA, fillS, Nat.reduceEqDiff, reduceCtorEq, ↓reduceIte, Nat.reduceAdd, Int.reduceNeg, Nat.reduceLeDiff, Int.reduceToNat, Int.reduceEq, Int.reduceLT, Int.reduceLE, Int.reduceAdd])
end Go.Proofs.YtpjafglhdlfnbaaDoor
namespace Go.Proofs.YtpjafglhdlfnbaaDoor
open Go.Ab Go.Lib
open Go.ChangeShapes Go.WideShapes Go.ChangeAt Go.RowKit Go.WideElems
theorem JsonLists_contract (H : Type) (enc : TypeId × Value → H) (W : World) (base : Nat) (args : Array Value) (ds gs : List (DataW H)) (before : List MemPlace)
    (hval : ∀ (j : Nat) t v, Tryd.f11.params[j]? = some t → args[j]? = some v → Value.okWide Tryd.prog W .any base t v)
    (hW : DataW.Whole enc Tryd.prog Tryd.f11.params.toList Rows.jsonListsSpec.vars false W args.toList ds gs before) (hc : blkAll (ds ++ gs) ≤ 1048576)
    (hz : (DataW.weightsEach Tryd.prog (Tryd.f11.params.toList ++ (Rows.OpenSpec.upto Rows.jsonListsSpec).bare.plain.varTypes Tryd.prog) (ds ++ gs)).all (· ≤ reachBytes) = true)
    (hL : laidMetH Tryd.prog laidL W) (hS : W.ShapedOpen Tryd.prog) :
    Calls Tryd.prog 11 args W fun e W' => ∃ v, e = .returned v ∧ Rows.jsonListsSpec.post enc Tryd.prog Tryd.f11 false true false false W args v W' := by
  have hW' := hW
  obtain ⟨p, q, hA0, hV, rfl, hfz, hnd⟩ := hW
  have hA : DataW.TrodAll enc Tryd.prog W 0 (fun _ => true) true Tryd.f11.params.toList args.toList ds p := hA0
  obtain ⟨rfl, rfl⟩ := trodVars_none hV
  rw [Tryd.params11] at hA hval hz
  obtain ⟨v0, vs0, d0, ds0, p0, q0, hargs, rfl, rfl, h0, hA⟩ := trodAll_cons hA
  obtain ⟨v1, vs1, d1, ds1, p1, q1, rfl, rfl, rfl, h1, hA⟩ := trodAll_cons hA
  obtain ⟨rfl, rfl, rfl⟩ := trodAll_nil hA
  obtain rfl : args = #[v0, v1] := by cases args; simp_all
  obtain ⟨a0, ok0, b0, g0⟩ := DecB.arg (P := Tryd.prog) (f := fun l => .sl .no 5 (cVs l)) (decVsA) h0 (sized hz (j := 0) rfl rfl) (plain_slice Tryd.underlying24 (hval 0 24 v0 rfl rfl))
  obtain ⟨a1, ok1, b1, g1⟩ := DecB.arg (P := Tryd.prog) (f := fun l => .sl .no 1 (cT l)) (decTsA) h1 (sized hz (j := 1) rfl rfl) (plain_slice Tryd.underlying42 (hval 1 42 v1 rfl rfl))
  simp only [List.append_nil, blkAll] at hc
  refine law_contract (P := Tryd.prog) (fn := Tryd.f11) (tb := 4) laidOut rfl ?_ (by kernel_rfl) Tryd.underlying4 hW' rfl (tabs_ok hL hS) (RepAll.cons g0 (RepAll.cons g1 RepAll.nil)) (jsonLists a0 a1 ok0 (by omega) (by have : totN a1 = totT a1 := rfl; omega))
  rw [Tryd.params11]
  intro t ht
  simp only [List.mem_cons, List.not_mem_nil, or_false] at ht
  rcases ht with rfl | rfl <;> exact ⟨by kernel_rfl, by decide +kernel⟩
theorem JsonLists_reads (os : Os) {H : Type} (enc : TypeId × Value → H) : ∃ places, DataW.whole enc Tryd.prog ((laidWorld os).forCall (fun _ _ => 0) ⟨#[], #[.slice none 0 0, .slice none 0 0], []⟩).memory Tryd.f11.params.toList Rows.jsonListsSpec.vars false #[.slice none 0 0, .slice none 0 0].toList 8 = some ([.nil, .nil], [], places) :=
  ⟨[], by kernel_rfl⟩
theorem JsonLists_lifted (os : Os) (started : os.Started) (H : Type) (enc : TypeId × Value → H) (F : Stop.Interp) :
    ReturnsInHanded {} Tryd.checked os 11 .any ((Rows.OpenSpec.upto Rows.jsonListsSpec).preRow enc Tryd.prog Tryd.f11 Rows.jsonListsUptoRow.domain false Rows.jsonListsUptoRow.laid) (((Rows.OpenSpec.upto Rows.jsonListsSpec).at F).post enc Tryd.prog Tryd.f11 false true false false) := by
  obtain ⟨places, hx⟩ := JsonLists_reads os enc
  refine returnsInHanded_of_row (C := Tryd.checked) (s := Rows.OpenSpec.upto Rows.jsonListsSpec) own started (by kernel_rfl) Tryd.func11
    (witness_row_atRef (enc := enc) (C := Tryd.checked) false (laidWorld os) #[.slice none 0 0, .slice none 0 0] rfl (by kernel_rfl) (by kernel_rfl) (by kernel_rfl)
      (OpenSpec.preRow_of_cond 8 hx (by kernel_rfl) (fun k hk => by cases hk; kernel_rfl) (by kernel_rfl) (laid_met os _))) ?_
  intro W base args ds gs before hval hW _ hcond hz hL hS _
  exact JsonLists_contract H enc W base args ds gs before hval hW (cond_bulk hcond) hz hL hS
theorem JsonLists_said : Rows.JsonListsUptoSaid :=
  OpenClaim.holds_of_cond 11 Tryd.f11 rfl rfl rfl rfl rfl rfl rfl ⟨rfl, rfl, rfl, rfl, rfl⟩ rfl rfl rfl rfl rfl (by kernel_rfl) Tryd.func11 (by kernel_rfl)
    (of_decide_eq_true (by kernel_rfl)) (by unfold Func.isWrapper; first | (rw [if_pos (by decide +kernel)]; kernel_rfl) | (rw [if_neg (by decide +kernel)]; exact ⟨rfl, rfl⟩))
    (fun os started H enc _ F => by rw [OpenClaim.pre_eq_preRow]; exact JsonLists_lifted os started H enc F)
theorem JsonLists_plain (f : FuncId) (fn : Func) (hf : Tryd.pinned.checked.prog.funcNamed "seine/seinelaw21.JsonLists" = some f) (hfn : Tryd.pinned.checked.prog.funcs[f]? = some fn) :
    true = Tryd.pinned.checked.prog.looks [] ∧ ∀ (j : Nat) t, fn.params[j]? = some t → Tryd.pinned.checked.prog.wantsStandIn t = false := by
  obtain rfl : f = 11 := Option.some.inj ((show Tryd.prog.funcNamed "seine/seinelaw21.JsonLists" = some 11 by kernel_rfl).symm.trans hf) |>.symm
  obtain rfl : fn = Tryd.f11 := (Option.some.inj (Tryd.func11.symm.trans hfn)).symm
  refine ⟨by kernel_rfl, fun j t ht => ?_⟩
  rw [Tryd.params11] at ht
  have hm := Array.mem_of_getElem? ht
  simp only [List.mem_toArray, List.mem_cons, List.not_mem_nil, or_false] at hm
  rcases hm with rfl | rfl <;> exact (show Tryd.prog.wantsStandIn _ = false by kernel_rfl)
/-- THE SECOND FORM's CARD of JsonLists. -/
theorem JsonLists_card : Rows.JsonListsUptoCardSaid :=
  Claim7.holds_tied_plain_at .later [] _ _ _ _ JsonLists_said (fun _ h => by cases h) (by kernel_rfl) (fun _ h => by cases h) jsonListsUpto_row_tie rfl ⟨rfl, rfl⟩ (by kernel_rfl) rfl JsonLists_plain (by kernel_rfl)
end Go.Proofs.YtpjafglhdlfnbaaDoor
