import Derived.Test.YtpjafglhdlfnbaaDoorM1
import Derived.Test.YtpjafglhdlfnbaaDoorM2
import Derived.Test.YtpjafglhdlfnbaaDoorM3
import Derived.Test.YtpjafglhdlfnbaaDoorM4
import Derived.Test.YtpjafglhdlfnbaaDoorM5
set_option maxRecDepth 100000
set_option linter.unusedSimpArgs false
set_option linter.unusedVariables false
namespace Go.Proofs.YtpjafglhdlfnbaaDoor
open Go.Ab Go.Lib
def opn (b : Bool) : List UInt8 := if b then [91] else [123, 34, 97, 34, 58]
def opl (l : List Bool) : List UInt8 := l.flatMap opn
theorem opl_snoc (l : List Bool) (b : Bool) : opl (l ++ [b]) = opl l ++ opn b := by simp [opl]
theorem opl_cons (l : List Bool) (b : Bool) : opl (b :: l) = opn b ++ opl l := by simp [opl]
theorem opl_low (l : List Bool) : ∀ c ∈ opl l, c.toNat < 128 := fun c hc => by
  simp only [opl, List.mem_flatMap] at hc
  obtain ⟨b, _, hc⟩ := hc
  cases b
  · simp only [opn, Bool.false_eq_true, if_false] at hc; revert c; decide
  · simp only [opn, if_true] at hc; revert c; decide
/-- Too many brackets. -/
theorem opl_deep : ∀ (q : Nat) (l : List Bool) (r : List UInt8), q < l.length → valM q (opl l ++ r) = .error 4
  | _, [], _, h => by simp at h
  | 0, b :: l, r, _ => by
    rw [opl_cons, List.append_assoc]
    cases b
    · simp only [opn, Bool.false_eq_true, if_false, List.cons_append, valM, skB_no (show bk 123 = false by decide)]; rw [if_pos (by simp)]
    · simp only [opn, if_true, List.cons_append, valM, skB_no (show bk 91 = false by decide)]; rw [if_pos (by simp)]
  | q + 1, b :: l, r, h => by
    have h' : q < l.length := by simpa using h
    have ih := opl_deep q l r h'
    rw [opl_cons, List.append_assoc]
    cases b
    · simp only [opn, Bool.false_eq_true, if_false, List.cons_append, List.nil_append, valM, skB_no (show bk 123 = false by decide), headM]
      rw [if_pos trivial, mapM, mayM_no (show bk 34 = false by decide) (by decide)]
      have e : 34 :: 97 :: 34 :: 58 :: (opl l ++ r) = quoteM [97] ++ (58 :: (opl l ++ r)) := rfl
      simp only
      rw [e, memberM, textM_q]
      simp only [RR.bind, hasN, Bool.false_eq_true, if_false, mustM_yes (show bk 58 = false by decide), ih]
    · simp only [opn, if_true, List.cons_append, List.nil_append, valM, skB_no (show bk 91 = false by decide), headM]
      rw [if_neg (by decide), listM]
      have hm : mayM [93] (opl l ++ r) = none := by
        cases l with
        | nil => simp at h'
        | cons b l =>
          rw [opl_cons, List.append_assoc]
          cases b
          · exact mayM_no (c := 123) (by decide) (by decide)
          · exact mayM_no (c := 91) (by decide) (by decide)
      rw [hm]
      simp only [RR.bind, ih]
theorem read_opl {l : List Bool} {r : List UInt8} (hl : (opl l).length + r.length ≤ 8192) (hr : validD r = true) (h : 16 < l.length) : readM (opl l ++ r) = (nullV, 4) := by
  unfold readM
  rw [if_neg (by simp; omega), validA2 (low_valid (opl_low l)) hr, opl_deep 16 l r h]
  rfl
/-- The texts of JsonDeep: ahead and behind. -/
structure Deep (k i : Nat) (s t : List UInt8) : Prop where
  op : ∃ l, s = opl l ∧ l.length = i
  br : i ≤ k → s = List.replicate i 91
  val : ∃ v, s ++ t = putV v ∧ rightV v = true ∧ wfV v ∧ depthV v = i
  len : s.length + t.length ≤ 6 * i + 1
def oneV : Val := .mk 2 1 [] [] []
theorem put_one : putV oneV = [49] := by simp [putV, oneV, itoa, decDigits]
theorem Deep.zero (k : Nat) : Deep k 0 [] [49] := ⟨⟨[], rfl, rfl⟩, fun _ => rfl, ⟨oneV, by rw [put_one]; exact List.nil_append _, by decide, by simp [oneV, wfV, wfVs, wfMs, inR], by simp [depthV, oneV]⟩, by simp⟩
theorem Deep.list {k i : Nat} {s t : List UInt8} (h : Deep k i s t) (hi : i < k) : Deep k (i + 1) (s ++ [91]) (t ++ [93]) := by
  obtain ⟨⟨l, h1, h2⟩, hb, ⟨v, h3, h4, h5, h6⟩, hlen⟩ := h
  have hs := hb (by omega)
  refine ⟨⟨l ++ [true], by rw [opl_snoc, ← h1]; rfl, by simp [h2]⟩, fun _ => by rw [hs, List.replicate_succ'], ⟨.mk 6 0 [] [v] [], ?_, ?_, ⟨by simp [inR], ⟨h5, trivial⟩, trivial⟩, ?_⟩, by simp; omega⟩
  · have e : putV (.mk 6 0 [] [v] []) = 91 :: (putV v ++ [93]) := by simp [putV, putVs]
    rw [e, ← h3, hs]
    have e2 : List.replicate i (91 : UInt8) ++ [91] = 91 :: List.replicate i 91 := by rw [← List.replicate_succ', List.replicate_succ]
    rw [← List.append_assoc, e2]; simp
  · simp only [rightV, goodV, Bool.and_eq_true] at h4
    simp [rightV, goodV, allV, allVs, bareM, singV, singVs, singMs, h4.1, h4.2]
  · simp only [depthV, if_true, depthVs, mm2, h6]
    split <;> omega
theorem Deep.map {k i : Nat} {s t : List UInt8} (h : Deep k i s t) (hi : k ≤ i) : Deep k (i + 1) ([123, 34, 97, 34, 58] ++ s) (t ++ [125]) := by
  obtain ⟨⟨l, h1, h2⟩, hb, ⟨v, h3, h4, h5, h6⟩, hlen⟩ := h
  refine ⟨⟨false :: l, by rw [opl_cons, ← h1]; rfl, by simp [h2]⟩, fun h => by omega, ⟨.mk 7 0 [] [] [.mk [97] v], ?_, ?_, ⟨by simp [inR], trivial, ⟨h5, trivial⟩⟩, ?_⟩, by simp; omega⟩
  · have e : putV (.mk 7 0 [] [] [.mk [97] v]) = 123 :: 34 :: 97 :: 34 :: 58 :: (putV v ++ [125]) := by
      simp [putV, putMs, putM, quoteM, qB]
    rw [e, ← h3]; simp
  · simp only [rightV, goodV, Bool.and_eq_true] at h4
    have hv : validD [97] = true := by decide
    simp [rightV, goodV, allV, allMs, allM, bareM, singV, singVs, singMs, singM, nmM, h4.1, h4.2, hv]
  · simp only [depthV]
    rw [if_neg (by decide), if_pos trivial]
    simp only [depthMs, depthM, mm2, h6, if_true]
    split <;> omega
def numMs (l : List (List UInt8)) : List Mem := l.map fun s => .mk s oneV
def dupB : List (List UInt8) → List (List UInt8) → Bool
  | _, [] => false
  | ns, s :: l => ns.contains s || dupB (ns ++ [s]) l
theorem numMs_sing : ∀ (l ns : List (List UInt8)), singMs ns (numMs l) = !dupB ns l
  | [], _ => rfl
  | s :: l, ns => by
    have := numMs_sing l (ns ++ [s])
    simp only [numMs, List.map_cons, singMs, nmM, singM, dupB] at this ⊢
    rw [this]
    have e : singV oneV = true := by decide
    rw [e]; simp
theorem back_one (n : Nat) : BackV n oneV := back oneV (by decide) (by simp [oneV, wfV, wfVs, wfMs, inR]) n
theorem members_dup (n : Nat) : ∀ (l : List (List UInt8)) (acc : List Mem) (fuel : Nat) (r : List UInt8), dupB (acc.map nmM) l = true → (putMs false (numMs l)).length < fuel →
    membersM (valM n) fuel acc (putMs false (numMs l) ++ 125 :: r) = .error 5
  | _, _, 0, _, _, h => by omega
  | [], _, _, _, h, _ => by cases h
  | s :: l, acc, fuel + 1, r, hd, hf => by
    have hf' : (putMs false (numMs l)).length < fuel := by
      simp only [numMs, List.map_cons, putMs, Bool.false_eq_true, if_false, List.length_append, List.length_cons, List.length_nil] at hf ⊢; omega
    have e : putMs false (numMs (s :: l)) ++ 125 :: r = 44 :: (putM (.mk s oneV) ++ (putMs false (numMs l) ++ 125 :: r)) := by simp [putMs, numMs]
    have hN : NoN (putMs false (numMs l) ++ 125 :: r) := by
      cases l with
      | nil => exact NoN_cons (by decide)
      | cons w l => exact NoN_cons (by decide)
    rw [e, membersM, mayM_no (show bk 44 = false by decide) (by decide)]
    simp only [mustM_yes (show bk 44 = false by decide), RR.bind]
    cases hc : (acc.map nmM).contains s with
    | true =>
      have e : putM (.mk s oneV) ++ (putMs false (numMs l) ++ 125 :: r) = quoteM s ++ (58 :: (putV oneV ++ (putMs false (numMs l) ++ 125 :: r))) := by simp [putM]
      rw [e, memberM, textM_q]
      simp only [RR.bind]
      rw [hasN_iff, hc]
      simp only [if_true]
    | false =>
      rw [member_back (back_one n) hN hc, if_pos (by simp [depthV, oneV])]
      simp only
      refine members_dup n l _ fuel r ?_ hf'
      simp only [dupB, hc, Bool.false_or] at hd
      simpa [nmM] using hd
theorem read_names {l : List (List UInt8)} (hv : ∀ s ∈ l, validD s = true) (hl : (123 :: (putMs true (numMs l) ++ [125])).length ≤ 8192) :
    readM (123 :: (putMs true (numMs l) ++ [125])) = if dupB [] l then (nullV, 5) else (.mk 7 0 [] [] (numMs l), 0) := by
  have hval : validD (123 :: (putMs true (numMs l) ++ [125])) = true := by
    rw [validD_cons _ _ (by decide)]
    refine validA2 (putMs_valid _ true fun s v hx => ?_) rfl
    simp only [numMs, List.mem_map] at hx
    obtain ⟨t, ht, e⟩ := hx
    cases e
    exact ⟨hv _ ht, by rw [put_one]; decide⟩
  unfold readM
  rw [if_neg (by omega), hval]
  simp only [Bool.not_true, Bool.false_eq_true, if_false]
  have e16 : valM 16 (123 :: (putMs true (numMs l) ++ [125])) = mapM (valM 15) (putMs true (numMs l) ++ [125]) := by
    simp only [valM, skB_no (show bk 123 = false by decide), headM]; rw [if_pos trivial]
  rw [e16]
  cases hd : dupB [] l with
  | false =>
    rw [map_back 15 (numMs l) [] (fun s v hx => ?_) (by rw [numMs_sing, hd]; rfl), if_pos]
    · rfl
    · intro x hx
      simp only [numMs, List.mem_map] at hx
      obtain ⟨t, ht, e⟩ := hx
      subst e; simp [depthM, depthV, oneV]
    · simp only [numMs, List.mem_map] at hx
      obtain ⟨t, ht, e⟩ := hx
      cases e; exact back_one 15
  | true =>
    cases l with
    | nil => cases hd
    | cons s l =>
      simp only [dupB, List.contains_nil, Bool.false_or, List.nil_append] at hd
      have e : putMs true (numMs (s :: l)) ++ [125] = putM (.mk s oneV) ++ (putMs false (numMs l) ++ [125]) := by simp [putMs, numMs]
      have hN : NoN (putMs false (numMs l) ++ [125]) := by
        cases l with
        | nil => exact NoN_cons (by decide)
        | cons w l => exact NoN_cons (by decide)
      have hm : mayM [125] (putM (.mk s oneV) ++ (putMs false (numMs l) ++ [125])) = none := mayM_no (c := 34) (by decide) (by decide)
      rw [e, mapM, hm]
      simp only [RR.bind, member_back (acc := []) (back_one 15) hN rfl]
      rw [if_pos (by simp [depthV, oneV])]
      simp only
      rw [members_dup 15 l _ _ [] (by simpa [nmM] using hd) (by simp only [List.length_append, List.length_cons]; omega)]
      rfl
end Go.Proofs.YtpjafglhdlfnbaaDoor
namespace Go.Proofs.YtpjafglhdlfnbaaDoor
open Go.Ab Go.Lib
def textV (s : List UInt8) : Val := .mk 4 0 s [] []
theorem textV_print (s : List UInt8) : printM (textV s) = if validD s then (quoteM s, true) else ([], false) := by
  unfold printM
  have : rightV (textV s) = validD s := by simp [textV, rightV, goodV, allV, singleM, bareM, singV, singVs, singMs]
  rw [this]
  cases validD s <;> simp [textV, putV]
theorem putMs_snoc : ∀ (l : List Mem) (f : Bool) (x : Mem), putMs f (l ++ [x]) = putMs f l ++ ((if f && l.isEmpty then [] else [44]) ++ putM x)
  | [], f, x => by cases f <;> simp [putMs]
  | y :: l, f, x => by
    rw [List.cons_append, putMs, putMs_snoc l false x, putMs]
    cases f <;> simp
theorem dupB_snoc : ∀ (l ns : List (List UInt8)) (s : List UInt8), dupB ns (l ++ [s]) = (dupB ns l || (ns ++ l).contains s)
  | [], ns, s => by simp [dupB]
  | t :: l, ns, s => by
    rw [List.cons_append, dupB, dupB_snoc l (ns ++ [t]) s, dupB, Bool.or_assoc]
    simp
theorem nil_dec (done : List (List UInt8)) : (numMs done).isEmpty = decide (done = []) := by cases done <;> rfl
theorem nat_succ2 (i : Nat) : ((i + 1 : Nat) : Int) = (i : Int) + 1 := rfl
theorem jsonTwice (l : List (List UInt8)) (hl : l.length ≤ maxLen) : Pure Tryd.prog 10 [.sl .no 1 (cT l)] (.bool true) := by
  refine Pure.go ir10 ck10 (Nat.le_refl _) fun KP Q hQ => ?_
  have h1 := cT_len l
  by_cases c1 : (40 : Int) < l.length
  · simp (disch := first | omega | assumption) only [ir10, h1, c1, steps, st2, pev, rev, oev, optr, ibin, sbin, ishf, bound, mmAll, mm2, mk, mkArgs, AV.cells, AV.boxable, AV.one, AV.strip1, fillA, fillS, Nat.reduceEqDiff, reduceCtorEq, ↓reduceIte, Nat.reduceAdd, Int.reduceNeg, Nat.reduceLeDiff, Int.reduceToNat, Int.reduceEq, Int.reduceLT, Int.reduceLE, Int.reduceAdd]
    refine goK_pure awakeJ ?_
    simp (disch := first | omega | assumption) only [steps, st2, pev, rev, oev, optr, ibin, sbin, ishf, bound, mmAll, mm2, mk, mkArgs, AV.cells, AV.boxable, AV.one, AV.strip1, fillA, fillS, Nat.reduceEqDiff, reduceCtorEq, ↓reduceIte, Nat.reduceAdd, Int.reduceNeg, Nat.reduceLeDiff, Int.reduceToNat, Int.reduceEq, Int.reduceLT, Int.reduceLE, Int.reduceAdd]
    exact hQ _ _ _ _ nofun rfl (by simp [tupOf, envOf, AV.strip, AV.strip1])
  simp (disch := first | omega | assumption) only [ir10, h1, c1, steps, st2, pev, rev, oev, optr, ibin, sbin, ishf, bound, mmAll, mm2, mk, mkArgs, AV.cells, AV.boxable, AV.one, AV.strip1, fillA, fillS, Nat.reduceEqDiff, reduceCtorEq, ↓reduceIte, Nat.reduceAdd, Int.reduceNeg, Nat.reduceLeDiff, Int.reduceToNat, Int.reduceEq, Int.reduceLT, Int.reduceLE, Int.reduceAdd]
  refine goL_range l 5 (fun x : List UInt8 × Bool => [(3, .str x.1), (4, .bool x.2)]) (fun done rest x H => H = Heap.emp ∧ x.1 = 123 :: putMs true (numMs done) ∧ x.2 = dupB [] done ∧ x.1.length ≤ 1 + 370 * done.length ∧ ∀ s ∈ done, validD s = true) ([123], false) (by simp (disch := first | omega | assumption) only [steps, st2, pev, rev, oev, optr, ibin, sbin, ishf, bound, mmAll, mm2, mk, mkArgs, AV.cells, AV.boxable, AV.one, AV.strip1, fillA, fillS, Nat.reduceEqDiff, reduceCtorEq, ↓reduceIte, Nat.reduceAdd, Int.reduceNeg, Nat.reduceLeDiff, Int.reduceToNat, Int.reduceEq, Int.reduceLT, Int.reduceLE, Int.reduceAdd]) ⟨rfl, rfl, rfl, by simp, by simp⟩ ?_ ?_
  · rintro ⟨a, t⟩ H J ⟨rfl, ha, ht, hlen, hval⟩ hlt
    simp only at ha ht hlen
    simp (disch := first | omega | assumption) only [h1, hlt, steps, st2, pev, rev, oev, optr, ibin, sbin, ishf, bound, mmAll, mm2, mk, mkArgs, AV.cells, AV.boxable, AV.one, AV.strip1, fillA, fillS, Nat.reduceEqDiff, reduceCtorEq, ↓reduceIte, Nat.reduceAdd, Int.reduceNeg, Nat.reduceLeDiff, Int.reduceToNat, Int.reduceEq, Int.reduceLT, Int.reduceLE, Int.reduceAdd]
    by_cases h2 : (8192 : Int) ≤ a.length
    · simp (disch := first | omega | assumption) only [h2, steps, st2, pev, rev, oev, optr, ibin, sbin, ishf, bound, mmAll, mm2, mk, mkArgs, AV.cells, AV.boxable, AV.one, AV.strip1, fillA, fillS, Nat.reduceEqDiff, reduceCtorEq, ↓reduceIte, Nat.reduceAdd, Int.reduceNeg, Nat.reduceLeDiff, Int.reduceToNat, Int.reduceEq, Int.reduceLT, Int.reduceLE, Int.reduceAdd]
      refine goK_pure awakeJ ?_
      simp (disch := first | omega | assumption) only [steps, st2, pev, rev, oev, optr, ibin, sbin, ishf, bound, mmAll, mm2, mk, mkArgs, AV.cells, AV.boxable, AV.one, AV.strip1, fillA, fillS, Nat.reduceEqDiff, reduceCtorEq, ↓reduceIte, Nat.reduceAdd, Int.reduceNeg, Nat.reduceLeDiff, Int.reduceToNat, Int.reduceEq, Int.reduceLT, Int.reduceLE, Int.reduceAdd]
      exact hQ _ _ _ _ nofun rfl (by simp [tupOf, envOf, AV.strip, AV.strip1])
    · have hr := read_names hval (by rw [← List.cons_append, ← ha]; simp; omega)
      rw [← List.cons_append, ← ha, ← ht] at hr
      simp (disch := first | omega | assumption) only [h2, steps, st2, pev, rev, oev, optr, ibin, sbin, ishf, bound, mmAll, mm2, mk, mkArgs, AV.cells, AV.boxable, AV.one, AV.strip1, fillA, fillS, Nat.reduceEqDiff, reduceCtorEq, ↓reduceIte, Nat.reduceAdd, Int.reduceNeg, Nat.reduceLeDiff, Int.reduceToNat, Int.reduceEq, Int.reduceLT, Int.reduceLE, Int.reduceAdd]
      refine goK_pure (readC (a ++ [125]) (by simp only [LimS, List.length_append, List.length_cons, List.length_nil]; omega)) ?_
      rw [hr]
      cases t
      · simp only [Bool.false_eq_true, if_false]
        simp (disch := first | omega | assumption) only [cV_mk, steps, st2, pev, rev, oev, optr, ibin, sbin, ishf, bound, mmAll, mm2, mk, mkArgs, AV.cells, AV.boxable, AV.one, AV.strip1, fillA, fillS, Nat.reduceEqDiff, reduceCtorEq, ↓reduceIte, Nat.reduceAdd, Int.reduceNeg, Nat.reduceLeDiff, Int.reduceToNat, Int.reduceEq, Int.reduceLT, Int.reduceLE, Int.reduceAdd]
        refine goA_intro fun b hb => ?_
        have h3 := cMs_len (numMs l)
        have h4 : (numMs l).length = l.length := by simp [numMs]
        simp (disch := first | omega | assumption) only [cV_mk, h3, h4, h1, steps, st2, pev, rev, oev, optr, ibin, sbin, ishf, bound, mmAll, mm2, mk, mkArgs, AV.cells, AV.boxable, AV.one, AV.strip1, fillA, fillS, Nat.reduceEqDiff, reduceCtorEq, ↓reduceIte, Nat.reduceAdd, Int.reduceNeg, Nat.reduceLeDiff, Int.reduceToNat, Int.reduceEq, Int.reduceLT, Int.reduceLE, Int.reduceAdd]
        refine goK_pure awakeJ ?_
        simp (disch := first | omega | assumption) only [steps, st2, pev, rev, oev, optr, ibin, sbin, ishf, bound, mmAll, mm2, mk, mkArgs, AV.cells, AV.boxable, AV.one, AV.strip1, fillA, fillS, Nat.reduceEqDiff, reduceCtorEq, ↓reduceIte, Nat.reduceAdd, Int.reduceNeg, Nat.reduceLeDiff, Int.reduceToNat, Int.reduceEq, Int.reduceLT, Int.reduceLE, Int.reduceAdd]
        exact hQ _ _ _ _ nofun rfl (by simp [tupOf, envOf, AV.strip, AV.strip1])
      · simp only [if_true]
        simp (disch := first | omega | assumption) only [cV_len, cV_take, cV_splice, cM_len, cM_take, cM_splice, cM_mk, steps, st2, pev, rev, oev, optr, ibin, sbin, ishf, bound, mmAll, mm2, mk, mkArgs, AV.cells, AV.boxable, AV.one, AV.strip1, fillA, fillS, Nat.reduceEqDiff, reduceCtorEq, ↓reduceIte, Nat.reduceAdd, Int.reduceNeg, Nat.reduceLeDiff, Int.reduceToNat, Int.reduceEq, Int.reduceLT, Int.reduceLE, Int.reduceAdd]
        refine goA_intro fun b hb => ?_
        simp (disch := first | omega | assumption) only [cV_len, cV_take, cV_splice, cM_len, cM_take, cM_splice, cM_mk, steps, st2, pev, rev, oev, optr, ibin, sbin, ishf, bound, mmAll, mm2, mk, mkArgs, AV.cells, AV.boxable, AV.one, AV.strip1, fillA, fillS, Nat.reduceEqDiff, reduceCtorEq, ↓reduceIte, Nat.reduceAdd, Int.reduceNeg, Nat.reduceLeDiff, Int.reduceToNat, Int.reduceEq, Int.reduceLT, Int.reduceLE, Int.reduceAdd]
        refine goK_pure awakeJ ?_
        simp (disch := first | omega | assumption) only [steps, st2, pev, rev, oev, optr, ibin, sbin, ishf, bound, mmAll, mm2, mk, mkArgs, AV.cells, AV.boxable, AV.one, AV.strip1, fillA, fillS, Nat.reduceEqDiff, reduceCtorEq, ↓reduceIte, Nat.reduceAdd, Int.reduceNeg, Nat.reduceLeDiff, Int.reduceToNat, Int.reduceEq, Int.reduceLT, Int.reduceLE, Int.reduceAdd]
        exact hQ _ _ _ _ nofun rfl (by simp [tupOf, envOf, AV.strip, AV.strip1])
  · rintro done x rest ⟨a, t⟩ H J hd hlt hlt2 ⟨rfl, ha, ht, hlen, hval⟩ hJ
    have hg := cT_get hd
    simp only at ha ht hlen
    by_cases c2 : (60 : Int) < x.length
    · simp (disch := first | omega | assumption) only [h1, hlt, hg, c2, steps, st2, pev, rev, oev, optr, ibin, sbin, ishf, bound, mmAll, mm2, mk, mkArgs, AV.cells, AV.boxable, AV.one, AV.strip1, fillA, fillS, Nat.reduceEqDiff, reduceCtorEq, ↓reduceIte, Nat.reduceAdd, Int.reduceNeg, Nat.reduceLeDiff, Int.reduceToNat, Int.reduceEq, Int.reduceLT, Int.reduceLE, Int.reduceAdd]
      refine goK_pure awakeJ ?_
      simp (disch := first | omega | assumption) only [steps, st2, pev, rev, oev, optr, ibin, sbin, ishf, bound, mmAll, mm2, mk, mkArgs, AV.cells, AV.boxable, AV.one, AV.strip1, fillA, fillS, Nat.reduceEqDiff, reduceCtorEq, ↓reduceIte, Nat.reduceAdd, Int.reduceNeg, Nat.reduceLeDiff, Int.reduceToNat, Int.reduceEq, Int.reduceLT, Int.reduceLE, Int.reduceAdd]
      exact hQ _ _ _ _ nofun rfl (by simp [tupOf, envOf, AV.strip, AV.strip1])
    simp (disch := first | omega | assumption) only [h1, hlt, hg, c2, steps, st2, pev, rev, oev, optr, ibin, sbin, ishf, bound, mmAll, mm2, mk, mkArgs, AV.cells, AV.boxable, AV.one, AV.strip1, fillA, fillS, Nat.reduceEqDiff, reduceCtorEq, ↓reduceIte, Nat.reduceAdd, Int.reduceNeg, Nat.reduceLeDiff, Int.reduceToNat, Int.reduceEq, Int.reduceLT, Int.reduceLE, Int.reduceAdd]
    refine goK_pure (goodC x (by simp only [Lim]; omega)) ?_
    cases hv : validD x
    · simp (disch := first | omega | assumption) only [steps, st2, pev, rev, oev, optr, ibin, sbin, ishf, bound, mmAll, mm2, mk, mkArgs, AV.cells, AV.boxable, AV.one, AV.strip1, fillA, fillS, Nat.reduceEqDiff, reduceCtorEq, ↓reduceIte, Nat.reduceAdd, Int.reduceNeg, Nat.reduceLeDiff, Int.reduceToNat, Int.reduceEq, Int.reduceLT, Int.reduceLE, Int.reduceAdd]
      refine goK_pure awakeJ ?_
      simp (disch := first | omega | assumption) only [steps, st2, pev, rev, oev, optr, ibin, sbin, ishf, bound, mmAll, mm2, mk, mkArgs, AV.cells, AV.boxable, AV.one, AV.strip1, fillA, fillS, Nat.reduceEqDiff, reduceCtorEq, ↓reduceIte, Nat.reduceAdd, Int.reduceNeg, Nat.reduceLeDiff, Int.reduceToNat, Int.reduceEq, Int.reduceLT, Int.reduceLE, Int.reduceAdd]
      exact hQ _ _ _ _ nofun rfl (by simp [tupOf, envOf, AV.strip, AV.strip1])
    simp (disch := first | omega | assumption) only [steps, st2, pev, rev, oev, optr, ibin, sbin, ishf, bound, mmAll, mm2, mk, mkArgs, AV.cells, AV.boxable, AV.one, AV.strip1, fillA, fillS, Nat.reduceEqDiff, reduceCtorEq, ↓reduceIte, Nat.reduceAdd, Int.reduceNeg, Nat.reduceLeDiff, Int.reduceToNat, Int.reduceEq, Int.reduceLT, Int.reduceLE, Int.reduceAdd]
    refine goL_st (fun y : Nat × Bool => [(4, .bool y.2), (6, .int .i64 (y.1 : Int))]) (fun y H => H = Heap.emp ∧ y.1 ≤ done.length ∧ (y.2 || (done.drop y.1).contains x) = (t || done.contains x)) (fun y => done.length - y.1) (0, t) (by simp (disch := first | omega | assumption) only [steps, st2, pev, rev, oev, optr, ibin, sbin, ishf, bound, mmAll, mm2, mk, mkArgs, AV.cells, AV.boxable, AV.one, AV.strip1, fillA, fillS, Nat.reduceEqDiff, reduceCtorEq, ↓reduceIte, Nat.reduceAdd, Int.reduceNeg, Nat.reduceLeDiff, Int.reduceToNat, Int.reduceEq, Int.reduceLT, Int.reduceLE, Int.reduceAdd]) ⟨rfl, by omega, by simp⟩ ?_
    rintro ⟨j, u⟩ H J' ⟨rfl, hj, hu⟩ hJ'
    simp only at hj hu
    by_cases h2 : j = done.length
    · subst h2
      simp only [List.drop_length, List.contains_nil, Bool.or_false] at hu
      have h3 : ¬ ((done.length : Int) < done.length) := by omega
      have hx6 := quote_len x
      have hp := textV_print x
      rw [hv] at hp
      simp only [if_true] at hp
      simp (disch := first | omega | assumption) only [h3, h1, hlt, hg, steps, st2, pev, rev, oev, optr, ibin, sbin, ishf, bound, mmAll, mm2, mk, mkArgs, AV.cells, AV.boxable, AV.one, AV.strip1, fillA, fillS, Nat.reduceEqDiff, reduceCtorEq, ↓reduceIte, Nat.reduceAdd, Int.reduceNeg, Nat.reduceLeDiff, Int.reduceToNat, Int.reduceEq, Int.reduceLT, Int.reduceLE, Int.reduceAdd]
      refine goK_pure (Pure.low (PrintC (textV x) (by simp [textV, wfV, wfVs, wfMs, inR]) (by simp only [textV, bV, bVs, bMs, Lim]; omega))) ?_
      rw [hp]
      have e1 : putM (.mk x oneV) = quoteM x ++ [58, 49] := by simp [putM, put_one]
      have e2 : numMs (done ++ [x]) = numMs done ++ [.mk x oneV] := by simp [numMs]
      have e3 : dupB [] (done ++ [x]) = u := by rw [dupB_snoc, ← ht, hu]; simp
      by_cases h4 : done = []
      · subst h4
        have e4 : 123 :: putMs true (numMs ([] ++ [x])) = a ++ quoteM x ++ [58] ++ [49] := by rw [ha]; simp [numMs, putMs, e1]
        simp (disch := first | omega | assumption) only [wrap64, List.length_append, steps, st2, pev, rev, oev, optr, ibin, sbin, ishf, bound, mmAll, mm2, mk, mkArgs, AV.cells, AV.boxable, AV.one, AV.strip1, fillA, fillS, Nat.reduceEqDiff, reduceCtorEq, ↓reduceIte, Nat.reduceAdd, Int.reduceNeg, Nat.reduceLeDiff, Int.reduceToNat, Int.reduceEq, Int.reduceLT, Int.reduceLE, Int.reduceAdd]
        have nx := hJ (a ++ quoteM x ++ [58] ++ [49], u) Heap.emp ⟨rfl, e4.symm, e3.symm, by simp at hlen ⊢; omega, by simpa using hv⟩
        exact goJ nx (by simp (disch := first | omega | assumption) only [steps, st2, pev, rev, oev, optr, ibin, sbin, ishf, bound, mmAll, mm2, mk, mkArgs, AV.cells, AV.boxable, AV.one, AV.strip1, fillA, fillS, Nat.reduceEqDiff, reduceCtorEq, ↓reduceIte, Nat.reduceAdd, Int.reduceNeg, Nat.reduceLeDiff, Int.reduceToNat, Int.reduceEq, Int.reduceLT, Int.reduceLE, Int.reduceAdd])
      · have h5 : ((0 : Int) < done.length) = True := eq_true (by have := List.length_pos_iff.2 h4; omega)
        have e4 : 123 :: putMs true (numMs (done ++ [x])) = a ++ [44] ++ quoteM x ++ [58] ++ [49] := by
          rw [ha, e2, putMs_snoc, nil_dec, e1]; simp [h4]
        simp (disch := first | omega | assumption) only [h5, wrap64, List.length_append, steps, st2, pev, rev, oev, optr, ibin, sbin, ishf, bound, mmAll, mm2, mk, mkArgs, AV.cells, AV.boxable, AV.one, AV.strip1, fillA, fillS, Nat.reduceEqDiff, reduceCtorEq, ↓reduceIte, Nat.reduceAdd, Int.reduceNeg, Nat.reduceLeDiff, Int.reduceToNat, Int.reduceEq, Int.reduceLT, Int.reduceLE, Int.reduceAdd]
        have nx := hJ (a ++ [44] ++ quoteM x ++ [58] ++ [49], u) Heap.emp ⟨rfl, e4.symm, e3.symm, by simp at hlen ⊢; omega, fun s hs => by
          rcases List.mem_append.1 hs with e | e
          · exact hval s e
          · rw [List.mem_singleton] at e; rw [e]; exact hv⟩
        exact goJ nx (by simp (disch := first | omega | assumption) only [steps, st2, pev, rev, oev, optr, ibin, sbin, ishf, bound, mmAll, mm2, mk, mkArgs, AV.cells, AV.boxable, AV.one, AV.strip1, fillA, fillS, Nat.reduceEqDiff, reduceCtorEq, ↓reduceIte, Nat.reduceAdd, Int.reduceNeg, Nat.reduceLeDiff, Int.reduceToNat, Int.reduceEq, Int.reduceLT, Int.reduceLE, Int.reduceAdd])
    · have h3 : ((j : Int) < done.length) = True := eq_true (by omega)
      have hjl : j < done.length := by omega
      obtain ⟨z, hz⟩ : ∃ z, done[j]? = some z := ⟨_, List.getElem?_eq_getElem hjl⟩
      have hz2 : (cT l).getD j [] = [.str z] := by
        have : l[j]? = some z := by rw [hd, List.getElem?_append_left hjl]; exact hz
        simp [cT, List.getD, this]
      have hjl2 : ((j : Int) < l.length) = True := eq_true (by omega)
      have hdr : done.drop j = z :: done.drop (j + 1) := by
        rw [List.drop_eq_getElem_cons hjl]
        have : done[j] = z := by
          have := List.getElem?_eq_getElem hjl
          rw [hz] at this; exact (Option.some.inj this).symm
        rw [this]
      rw [hdr, List.contains_cons] at hu
      have nx : ∀ u' : Bool, (u' || (done.drop (j + 1)).contains x) = (t || done.contains x) → J' ((setAll _ [(4, .bool u'), (6, .int .i64 ((j + 1 : Nat) : Int))]).keep [0, 3, 4, 5, 6]) Heap.emp := fun u' e => hJ' (j + 1, u') _ (by simp; omega) ⟨rfl, by simp; omega, e⟩
      cases u
      · have hzx : (z == x) = decide (z = x) := by by_cases e : z = x <;> simp [e]
        have hxz : (x == z) = decide (z = x) := by
          by_cases e : z = x
          · simp [e]
          · simp only [e, decide_false]; simpa using fun h : x = z => e h.symm
        simp (disch := first | omega | assumption) only [h3, hjl2, hz2, hg, h1, hlt, hzx, wrap64, steps, st2, pev, rev, oev, optr, ibin, sbin, ishf, bound, mmAll, mm2, mk, mkArgs, AV.cells, AV.boxable, AV.one, AV.strip1, fillA, fillS, Nat.reduceEqDiff, reduceCtorEq, ↓reduceIte, Nat.reduceAdd, Int.reduceNeg, Nat.reduceLeDiff, Int.reduceToNat, Int.reduceEq, Int.reduceLT, Int.reduceLE, Int.reduceAdd]
        exact goJ (nx (decide (z = x)) (by rw [← hu, hxz]; simp)) (by simp (disch := first | omega | assumption) only [nat_succ2, steps, st2, pev, rev, oev, optr, ibin, sbin, ishf, bound, mmAll, mm2, mk, mkArgs, AV.cells, AV.boxable, AV.one, AV.strip1, fillA, fillS, Nat.reduceEqDiff, reduceCtorEq, ↓reduceIte, Nat.reduceAdd, Int.reduceNeg, Nat.reduceLeDiff, Int.reduceToNat, Int.reduceEq, Int.reduceLT, Int.reduceLE, Int.reduceAdd])
      · simp (disch := first | omega | assumption) only [h3, wrap64, steps, st2, pev, rev, oev, optr, ibin, sbin, ishf, bound, mmAll, mm2, mk, mkArgs, AV.cells, AV.boxable, AV.one, AV.strip1, fillA, fillS, Nat.reduceEqDiff, reduceCtorEq, ↓reduceIte, Nat.reduceAdd, Int.reduceNeg, Nat.reduceLeDiff, Int.reduceToNat, Int.reduceEq, Int.reduceLT, Int.reduceLE, Int.reduceAdd]
        exact goJ (nx true (by rw [← hu]; simp)) (by simp (disch := first | omega | assumption) only [nat_succ2, steps, st2, pev, rev, oev, optr, ibin, sbin, ishf, bound, mmAll, mm2, mk, mkArgs, AV.cells, AV.boxable, AV.one, AV.strip1, fillA, fillS, Nat.reduceEqDiff, reduceCtorEq, ↓reduceIte, Nat.reduceAdd, Int.reduceNeg, Nat.reduceLeDiff, Int.reduceToNat, Int.reduceEq, Int.reduceLT, Int.reduceLE, Int.reduceAdd])
end Go.Proofs.YtpjafglhdlfnbaaDoor
namespace Go.Proofs.YtpjafglhdlfnbaaDoor
open Go.Ab Go.Lib
open Go.ChangeShapes Go.WideShapes Go.ChangeAt Go.RowKit Go.WideElems
theorem JsonTwice_contract (H : Type) (enc : TypeId × Value → H) (W : World) (base : Nat) (args : Array Value) (ds gs : List (DataW H)) (before : List MemPlace)
    (hval : ∀ (j : Nat) t v, Tryd.f10.params[j]? = some t → args[j]? = some v → Value.okWide Tryd.prog W .any base t v)
    (hW : DataW.Whole enc Tryd.prog Tryd.f10.params.toList Rows.jsonTwiceSpec.vars false W args.toList ds gs before) (hc : blkAll (ds ++ gs) ≤ 1048576)
    (hz : (DataW.weightsEach Tryd.prog (Tryd.f10.params.toList ++ (Rows.OpenSpec.upto Rows.jsonTwiceSpec).bare.plain.varTypes Tryd.prog) (ds ++ gs)).all (· ≤ reachBytes) = true)
    (hL : laidMetH Tryd.prog laidL W) (hS : W.ShapedOpen Tryd.prog) :
    Calls Tryd.prog 10 args W fun e W' => ∃ v, e = .returned v ∧ Rows.jsonTwiceSpec.post enc Tryd.prog Tryd.f10 false true false false W args v W' := by
  have hW' := hW
  obtain ⟨p, q, hA0, hV, rfl, hfz, hnd⟩ := hW
  have hA : DataW.TrodAll enc Tryd.prog W 0 (fun _ => true) true Tryd.f10.params.toList args.toList ds p := hA0
  obtain ⟨rfl, rfl⟩ := trodVars_none hV
  rw [Tryd.params10] at hA hval hz
  obtain ⟨v0, vs0, d0, ds0, p0, q0, hargs, rfl, rfl, h0, hA⟩ := trodAll_cons hA
  obtain ⟨rfl, rfl, rfl⟩ := trodAll_nil hA
  obtain rfl : args = #[v0] := by cases args; simp_all
  obtain ⟨a0, ok0, b0, g0⟩ := DecB.arg (P := Tryd.prog) (f := fun l => .sl .no 1 (cT l)) (decTsA) h0 (sized hz (j := 0) rfl rfl) (plain_slice Tryd.underlying42 (hval 0 42 v0 rfl rfl))
  simp only [List.append_nil, blkAll] at hc
  refine law_contract (P := Tryd.prog) (fn := Tryd.f10) (tb := 4) laidOut rfl ?_ (by kernel_rfl) Tryd.underlying4 hW' rfl (tabs_ok hL hS) (RepAll.cons g0 RepAll.nil) (jsonTwice a0 (by have := totT_len a0; simp only [maxLen]; omega))
  rw [Tryd.params10]
  intro t ht
  simp only [List.mem_cons, List.not_mem_nil, or_false] at ht
  rcases ht with rfl <;> exact ⟨by kernel_rfl, by decide +kernel⟩
theorem JsonTwice_reads (os : Os) {H : Type} (enc : TypeId × Value → H) : ∃ places, DataW.whole enc Tryd.prog ((laidWorld os).forCall (fun _ _ => 0) ⟨#[], #[.slice none 0 0], []⟩).memory Tryd.f10.params.toList Rows.jsonTwiceSpec.vars false #[.slice none 0 0].toList 8 = some ([.nil], [], places) :=
  ⟨[], by kernel_rfl⟩
theorem JsonTwice_lifted (os : Os) (started : os.Started) (H : Type) (enc : TypeId × Value → H) (F : Stop.Interp) :
    ReturnsInHanded {} Tryd.checked os 10 .any ((Rows.OpenSpec.upto Rows.jsonTwiceSpec).preRow enc Tryd.prog Tryd.f10 Rows.jsonTwiceUptoRow.domain false Rows.jsonTwiceUptoRow.laid) (((Rows.OpenSpec.upto Rows.jsonTwiceSpec).at F).post enc Tryd.prog Tryd.f10 false true false false) := by
  obtain ⟨places, hx⟩ := JsonTwice_reads os enc
  refine returnsInHanded_of_row (C := Tryd.checked) (s := Rows.OpenSpec.upto Rows.jsonTwiceSpec) own started (by kernel_rfl) Tryd.func10
    (witness_row_atRef (enc := enc) (C := Tryd.checked) false (laidWorld os) #[.slice none 0 0] rfl (by kernel_rfl) (by kernel_rfl) (by kernel_rfl)
      (OpenSpec.preRow_of_cond 8 hx (by kernel_rfl) (fun k hk => by cases hk; kernel_rfl) (by kernel_rfl) (laid_met os _))) ?_
  intro W base args ds gs before hval hW _ hcond hz hL hS _
  exact JsonTwice_contract H enc W base args ds gs before hval hW (cond_bulk hcond) hz hL hS
theorem JsonTwice_said : Rows.JsonTwiceUptoSaid :=
  OpenClaim.holds_of_cond 10 Tryd.f10 rfl rfl rfl rfl rfl rfl rfl ⟨rfl, rfl, rfl, rfl, rfl⟩ rfl rfl rfl rfl rfl (by kernel_rfl) Tryd.func10 (by kernel_rfl)
    (of_decide_eq_true (by kernel_rfl)) (by unfold Func.isWrapper; first | (rw [if_pos (by decide +kernel)]; kernel_rfl) | (rw [if_neg (by decide +kernel)]; exact ⟨rfl, rfl⟩))
    (fun os started H enc _ F => by rw [OpenClaim.pre_eq_preRow]; exact JsonTwice_lifted os started H enc F)
theorem JsonTwice_plain (f : FuncId) (fn : Func) (hf : Tryd.pinned.checked.prog.funcNamed "seine/seinelaw21.JsonTwice" = some f) (hfn : Tryd.pinned.checked.prog.funcs[f]? = some fn) :
    true = Tryd.pinned.checked.prog.looks [] ∧ ∀ (j : Nat) t, fn.params[j]? = some t → Tryd.pinned.checked.prog.wantsStandIn t = false := by
  obtain rfl : f = 10 := Option.some.inj ((show Tryd.prog.funcNamed "seine/seinelaw21.JsonTwice" = some 10 by kernel_rfl).symm.trans hf) |>.symm
  obtain rfl : fn = Tryd.f10 := (Option.some.inj (Tryd.func10.symm.trans hfn)).symm
  refine ⟨by kernel_rfl, fun j t ht => ?_⟩
  rw [Tryd.params10] at ht
  have hm := Array.mem_of_getElem? ht
  simp only [List.mem_toArray, List.mem_cons, List.not_mem_nil, or_false] at hm
  rcases hm with rfl <;> exact (show Tryd.prog.wantsStandIn _ = false by kernel_rfl)
/-- THE SECOND FORM's CARD of JsonTwice. -/
theorem JsonTwice_card : Rows.JsonTwiceUptoCardSaid :=
  Claim7.holds_tied_plain_at .later [] _ _ _ _ JsonTwice_said (fun _ h => by cases h) (by kernel_rfl) (fun _ h => by cases h) jsonTwiceUpto_row_tie rfl ⟨rfl, rfl⟩ (by kernel_rfl) rfl JsonTwice_plain (by kernel_rfl)
end Go.Proofs.YtpjafglhdlfnbaaDoor
