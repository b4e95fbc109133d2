/- Values: the law on lists. -/
import Derived.Test.YtpjafglhdlfnbaaDoorValF
import Derived.Lib.ValidLaws
set_option maxRecDepth 100000
set_option linter.unusedSimpArgs false
set_option linter.unusedVariables false
namespace Go.Proofs.YtpjafglhdlfnbaaDoor
open Go.Ab

/-! a name is good text -/
theorem nameG_ascii : ∀ (s : List UInt8) (i : Nat), nameG s i = true → ∀ c ∈ s, c.toNat < 128
  | [], _, _, c, hc => by cases hc
  | x :: r, i, h, c, hc => by
    simp only [nameG] at h
    split at h
    · rename_i hx
      rcases List.mem_cons.1 hc with e | e
      · subst e
        simp only [isL, isD, Bool.or_eq_true, Bool.and_eq_true, decide_eq_true_eq] at hx
        omega
      · exact nameG_ascii r _ h c e
    · cases h
theorem name_valid {s : List UInt8} (h : nameM s = true) : Lib.validD s = true := by
  simp only [nameM, Bool.and_eq_true] at h
  rw [Lib.validD_ascii s.length s (fun b hb => nameG_ascii s 0 h.1 b (by simpa using hb))]
  simp [Lib.validD, Lib.validGoD]

mutual
theorem allV_mono {p q : List UInt8 → Bool} (h : ∀ s, p s = true → q s = true) : ∀ v, allV p v = true → allV q v = true
  | .mk k n s l m => by
    have h1 := allVs_mono h l
    have h2 := allMs_mono h m
    simp only [allV]
    split
    · simp only [Bool.and_eq_true]; exact fun ⟨a, b⟩ => ⟨h1 a, b⟩
    · split
      · simp only [Bool.and_eq_true]; exact fun ⟨a, b⟩ => ⟨h2 a, b⟩
      · exact id
theorem allVs_mono {p q : List UInt8 → Bool} (h : ∀ s, p s = true → q s = true) : ∀ v, allVs p v = true → allVs q v = true
  | [] => id
  | v :: r => by
    have h1 := allV_mono h v
    have h2 := allVs_mono h r
    simp only [allVs, Bool.and_eq_true]; exact fun ⟨a, b⟩ => ⟨h1 a, h2 b⟩
theorem allM_mono {p q : List UInt8 → Bool} (h : ∀ s, p s = true → q s = true) : ∀ v, allM p v = true → allM q v = true
  | .mk s v => by
    have h1 := allV_mono h v
    simp only [allM, Bool.and_eq_true]; exact fun ⟨a, b⟩ => ⟨h s a, h1 b⟩
theorem allMs_mono {p q : List UInt8 → Bool} (h : ∀ s, p s = true → q s = true) : ∀ v, allMs p v = true → allMs q v = true
  | [] => id
  | x :: r => by
    have h1 := allM_mono h x
    have h2 := allMs_mono h r
    simp only [allMs, Bool.and_eq_true]; exact fun ⟨a, b⟩ => ⟨h1 a, h2 b⟩
end

/-! variables, one list behind the other -/
def addT (acc : List (List UInt8)) (s : List UInt8) : List (List UInt8) := if hasT s acc then acc else acc ++ [s]
def addAll (acc b : List (List UInt8)) : List (List UInt8) := b.foldl addT acc
theorem has_addT {s t : List UInt8} {acc : List (List UInt8)} (h : s ∈ acc) : s ∈ addT acc t := by
  unfold addT; split
  · exact h
  · exact List.mem_append_left _ h
theorem has_addT_self (t : List UInt8) (acc : List (List UInt8)) : t ∈ addT acc t := by
  unfold addT; split
  · rename_i h; exact (hasT_iff _ _).1 h
  · simp
theorem has_addAll_l {s : List UInt8} : ∀ {b acc : List (List UInt8)}, s ∈ acc → s ∈ addAll acc b
  | [], _, h => h
  | t :: b, acc, h => has_addAll_l (b := b) (acc := addT acc t) (has_addT h)
theorem has_addAll_r {s : List UInt8} : ∀ {b acc : List (List UInt8)}, s ∈ b → s ∈ addAll acc b
  | t :: b, acc, h => by
    rcases List.mem_cons.1 h with e | e
    · subst e; exact has_addAll_l (b := b) (has_addT_self _ _)
    · exact has_addAll_r (b := b) (acc := addT acc t) e
theorem addAll_app (acc b c : List (List UInt8)) : addAll acc (b ++ c) = addAll (addAll acc b) c := by simp [addAll, List.foldl_append]
theorem addAll_one (acc : List (List UInt8)) (s : List UInt8) : addAll acc [s] = addT acc s := rfl
theorem addAll_cons (acc : List (List UInt8)) (s : List UInt8) (b : List (List UInt8)) : addAll acc (s :: b) = addAll (addT acc s) b := rfl
theorem addAll_addT (acc b : List (List UInt8)) (s : List UInt8) : addAll acc (addT b s) = addT (addAll acc b) s := by
  by_cases h : s ∈ b
  · have h1 : hasT s b = true := (hasT_iff _ _).2 h
    have h2 : hasT s (addAll acc b) = true := (hasT_iff _ _).2 (has_addAll_r h)
    unfold addT
    rw [h1, h2]; rfl
  · have h1 : ¬ hasT s b = true := fun e => h ((hasT_iff _ _).1 e)
    have e : addT b s = b ++ [s] := by unfold addT; rw [if_neg h1]
    rw [e, addAll_app, addAll_one]

mutual
theorem varsV_add : ∀ v acc b, varsV v (addAll acc b) = addAll acc (varsV v b)
  | .mk k n s l m, acc, b => by
    have h1 := varsVs_add l acc b
    have h2 := varsMs_add m acc b
    simp only [varsV]
    split
    · exact (addAll_addT acc b s).symm
    · split
      · exact h1
      · split
        · exact h2
        · rfl
theorem varsVs_add : ∀ l acc b, varsVs l (addAll acc b) = addAll acc (varsVs l b)
  | [], acc, b => rfl
  | v :: r, acc, b => by
    simp only [varsVs]
    rw [varsV_add v acc b]
    exact varsVs_add r acc (varsV v b)
theorem varsM_add : ∀ v acc b, varsM v (addAll acc b) = addAll acc (varsM v b)
  | .mk s v, acc, b => by
    simp only [varsM]
    exact varsV_add v acc b
theorem varsMs_add : ∀ l acc b, varsMs l (addAll acc b) = addAll acc (varsMs l b)
  | [], acc, b => rfl
  | x :: r, acc, b => by
    simp only [varsMs]
    rw [varsM_add x acc b]
    exact varsMs_add r acc (varsM x b)
end
theorem vars_of (v : Val) (acc : List (List UInt8)) : addAll acc (varsV v []) = varsV v acc := (varsV_add v acc []).symm

/-- ValueLists is true. -/
theorem lists (l : List Val) (hb : bVs l + 1 ≤ Lim) : Pure Tryd.prog 7 [.sl .no 5 (cVs l)] (.bool true) := by
  have hll := bVs_len l
  have h1 := cVs_len l
  have hbL : bV (.mk 6 0 [] l []) ≤ Lim := by simp only [bV, bMs, List.length_nil]; omega
  simp only [Lim] at hb
  refine Pure.go ir7 ck7 (Nat.le_refl _) fun KP Q hQ => ?_
  simp (disch := first | omega | assumption) only [ir7, steps, st2, pev, rev, oev, optr, ibin, sbin, ishf, bound, mmAll, mm2, mk, mkArgs, AV.cells, AV.boxable, AV.one, AV.strip1, fillA, fillS, Nat.reduceEqDiff, reduceCtorEq, ↓reduceIte, Nat.reduceAdd, Int.reduceNeg, Nat.reduceLeDiff, Int.reduceToNat, Int.reduceEq, Int.reduceLT, Int.reduceLE, Int.reduceAdd]
  refine goA_intro fun b hb => ?_
  simp (disch := first | omega | assumption) only [steps, st2, pev, rev, oev, optr, ibin, sbin, ishf, bound, mmAll, mm2, mk, mkArgs, AV.cells, AV.boxable, AV.one, AV.strip1, fillA, fillS, Nat.reduceEqDiff, reduceCtorEq, ↓reduceIte, Nat.reduceAdd, Int.reduceNeg, Nat.reduceLeDiff, Int.reduceToNat, Int.reduceEq, Int.reduceLT, Int.reduceLE, Int.reduceAdd]
  refine goK_pure (Pure.low (sizeC (.mk 6 0 [] l []) hbL)) ?_
  by_cases g1 : (2000 : Int) < bV (.mk 6 0 [] l [])
  · simp (disch := first | omega | assumption) only [g1, steps, st2, pev, rev, oev, optr, ibin, sbin, ishf, bound, mmAll, mm2, mk, mkArgs, AV.cells, AV.boxable, AV.one, AV.strip1, fillA, fillS, Nat.reduceEqDiff, reduceCtorEq, ↓reduceIte, Nat.reduceAdd, Int.reduceNeg, Nat.reduceLeDiff, Int.reduceToNat, Int.reduceEq, Int.reduceLT, Int.reduceLE, Int.reduceAdd]
    refine goK_pure awakeC ?_
    simp (disch := first | omega | assumption) only [steps, st2, pev, rev, oev, optr, ibin, sbin, ishf, bound, mmAll, mm2, mk, mkArgs, AV.cells, AV.boxable, AV.one, AV.strip1, fillA, fillS, Nat.reduceEqDiff, reduceCtorEq, ↓reduceIte, Nat.reduceAdd, Int.reduceNeg, Nat.reduceLeDiff, Int.reduceToNat, Int.reduceEq, Int.reduceLT, Int.reduceLE, Int.reduceAdd]
    exact hQ _ _ _ _ nofun rfl (by simp [tupOf, envOf, AV.strip, AV.strip1])
  simp (disch := first | omega | assumption) only [g1, steps, st2, pev, rev, oev, optr, ibin, sbin, ishf, bound, mmAll, mm2, mk, mkArgs, AV.cells, AV.boxable, AV.one, AV.strip1, fillA, fillS, Nat.reduceEqDiff, reduceCtorEq, ↓reduceIte, Nat.reduceAdd, Int.reduceNeg, Nat.reduceLeDiff, Int.reduceToNat, Int.reduceEq, Int.reduceLT, Int.reduceLE, Int.reduceAdd]
  have e0 : (Heap.emp.upd b (.cells [.int .i64 6, .int .i64 0, .str [], .sl .no 5 (cVs l), .sl .nil 6 []])) b = some (.cells [.int .i64 6, .int .i64 0, .str [], .sl .no 5 (cVs l), .sl .nil 6 []]) := by simp [Heap.upd]
  generalize Heap.emp.upd b (.cells [.int .i64 6, .int .i64 0, .str [], .sl .no 5 (cVs l), .sl .nil 6 []]) = H0 at e0 ⊢
  refine goL_range l 7 (fun x : Bool × Int × Own × List (List UInt8) => [(4, .bool x.1), (5, .int .i64 x.2.1), (6, .sl x.2.2.1 1 (cT x.2.2.2))])
    (fun done rest x H => (x.1 && allVs Lib.validD rest) = allVs Lib.validD l ∧ (depthVs rest x.2.1 = depthVs l 0 ∧ 0 ≤ x.2.1 ∧ x.2.1 ≤ Lim) ∧ varsVs rest x.2.2.2 = varsVs l [] ∧ x.2.2.2.length + bVs rest ≤ bVs l ∧ OwnS H0 .nil H x.2.2.1 x.2.2.2.length 1) (true, 0, .nil, []) (by simp (disch := first | omega | assumption) only [cT, steps, st2, pev, rev, oev, optr, ibin, sbin, ishf, bound, mmAll, mm2, mk, mkArgs, AV.cells, AV.boxable, AV.one, AV.strip1, fillA, fillS, Nat.reduceEqDiff, reduceCtorEq, ↓reduceIte, Nat.reduceAdd, Int.reduceNeg, Nat.reduceLeDiff, Int.reduceToNat, Int.reduceEq, Int.reduceLT, Int.reduceLE, Int.reduceAdd]) ⟨by simp, ⟨rfl, by simp, by simp [Lim]⟩, rfl, by simp, OwnS.refl rfl⟩ ?_ ?_
  · rintro ⟨g, n, o, a⟩ H J ⟨hg, ⟨hn, hn0, hn1⟩, hv, hle, hs⟩ hlt
    simp only [allVs, Bool.and_true] at hg
    simp only [depthVs] at hn
    simp only [varsVs] at hv
    simp only [Lim] at hg hn hn0 hn1 hv hle hs
    subst hg hn hv
    have hHb : H b = some _ := hs.kept b _ e0 nofun
    simp (disch := first | omega | assumption) only [h1, hlt, hHb, steps, st2, pev, rev, oev, optr, ibin, sbin, ishf, bound, mmAll, mm2, mk, mkArgs, AV.cells, AV.boxable, AV.one, AV.strip1, fillA, fillS, Nat.reduceEqDiff, reduceCtorEq, ↓reduceIte, Nat.reduceAdd, Int.reduceNeg, Nat.reduceLeDiff, Int.reduceToNat, Int.reduceEq, Int.reduceLT, Int.reduceLE, Int.reduceAdd]
    refine goK_pure (Pure.low (goodVC (.mk 6 0 [] l []) hbL)) ?_
    have eg : goodV (.mk 6 0 [] l []) = allVs Lib.validD l := by simp [goodV, allV, bareM]
    rw [eg]
    simp (disch := first | omega | assumption) only [hHb, steps, st2, pev, rev, oev, optr, ibin, sbin, ishf, bound, mmAll, mm2, mk, mkArgs, AV.cells, AV.boxable, AV.one, AV.strip1, fillA, fillS, Nat.reduceEqDiff, reduceCtorEq, ↓reduceIte, Nat.reduceAdd, Int.reduceNeg, Nat.reduceLeDiff, Int.reduceToNat, Int.reduceEq, Int.reduceLT, Int.reduceLE, Int.reduceAdd]
    refine goK_pure (Pure.low (depthC (.mk 6 0 [] l []) hbL)) ?_
    have ed : depthV (.mk 6 0 [] l []) = depthVs l 0 + 1 := by simp [depthV]
    rw [ed]
    simp (disch := first | omega | assumption) only [hHb, wrap64, steps, st2, pev, rev, oev, optr, ibin, sbin, ishf, bound, mmAll, mm2, mk, mkArgs, AV.cells, AV.boxable, AV.one, AV.strip1, fillA, fillS, Nat.reduceEqDiff, reduceCtorEq, ↓reduceIte, Nat.reduceAdd, Int.reduceNeg, Nat.reduceLeDiff, Int.reduceToNat, Int.reduceEq, Int.reduceLT, Int.reduceLE, Int.reduceAdd]
    refine goK_pure (Pure.low (varsPT (.mk 6 0 [] l []) hbL)) ?_
    have ev : varsV (.mk 6 0 [] l []) [] = varsVs l [] := by simp [varsV]
    rw [ev]
    simp (disch := first | omega | assumption) only [hHb, steps, st2, pev, rev, oev, optr, ibin, sbin, ishf, bound, mmAll, mm2, mk, mkArgs, AV.cells, AV.boxable, AV.one, AV.strip1, fillA, fillS, Nat.reduceEqDiff, reduceCtorEq, ↓reduceIte, Nat.reduceAdd, Int.reduceNeg, Nat.reduceLeDiff, Int.reduceToNat, Int.reduceEq, Int.reduceLT, Int.reduceLE, Int.reduceAdd]
    refine goK_pure (Pure.low (sameTextsK _ _ (by have := varsVs_le l []; simp only [List.length_nil] at this; simp only [Lim]; omega))) ?_
    rw [eqd_true rfl]
    simp (disch := first | omega | assumption) only [hHb, steps, st2, pev, rev, oev, optr, ibin, sbin, ishf, bound, mmAll, mm2, mk, mkArgs, AV.cells, AV.boxable, AV.one, AV.strip1, fillA, fillS, Nat.reduceEqDiff, reduceCtorEq, ↓reduceIte, Nat.reduceAdd, Int.reduceNeg, Nat.reduceLeDiff, Int.reduceToNat, Int.reduceEq, Int.reduceLT, Int.reduceLE, Int.reduceAdd]
    refine goK_pure (Pure.low (plainVC (.mk 6 0 [] l []) hbL)) ?_
    cases hp : plainV (.mk 6 0 [] l []) with
    | false =>
      simp (disch := first | omega | assumption) only [hp, steps, st2, pev, rev, oev, optr, ibin, sbin, ishf, bound, mmAll, mm2, mk, mkArgs, AV.cells, AV.boxable, AV.one, AV.strip1, fillA, fillS, Nat.reduceEqDiff, reduceCtorEq, ↓reduceIte, Nat.reduceAdd, Int.reduceNeg, Nat.reduceLeDiff, Int.reduceToNat, Int.reduceEq, Int.reduceLT, Int.reduceLE, Int.reduceAdd]
      refine goK_pure awakeC ?_
      simp (disch := first | omega | assumption) only [steps, st2, pev, rev, oev, optr, ibin, sbin, ishf, bound, mmAll, mm2, mk, mkArgs, AV.cells, AV.boxable, AV.one, AV.strip1, fillA, fillS, Nat.reduceEqDiff, reduceCtorEq, ↓reduceIte, Nat.reduceAdd, Int.reduceNeg, Nat.reduceLeDiff, Int.reduceToNat, Int.reduceEq, Int.reduceLT, Int.reduceLE, Int.reduceAdd]
      exact hQ _ _ _ _ nofun rfl (by simp [tupOf, envOf, AV.strip, AV.strip1])
    | true =>
      have hg : allVs Lib.validD l = true := by
        simp only [plainV, allV, Bool.and_eq_true] at hp
        simp at hp
        exact allVs_mono (fun _ => name_valid) l hp.1.1
      simp (disch := first | omega | assumption) only [hp, hg, steps, st2, pev, rev, oev, optr, ibin, sbin, ishf, bound, mmAll, mm2, mk, mkArgs, AV.cells, AV.boxable, AV.one, AV.strip1, fillA, fillS, Nat.reduceEqDiff, reduceCtorEq, ↓reduceIte, Nat.reduceAdd, Int.reduceNeg, Nat.reduceLeDiff, Int.reduceToNat, Int.reduceEq, Int.reduceLT, Int.reduceLE, Int.reduceAdd]
      refine goK_pure awakeC ?_
      simp (disch := first | omega | assumption) only [steps, st2, pev, rev, oev, optr, ibin, sbin, ishf, bound, mmAll, mm2, mk, mkArgs, AV.cells, AV.boxable, AV.one, AV.strip1, fillA, fillS, Nat.reduceEqDiff, reduceCtorEq, ↓reduceIte, Nat.reduceAdd, Int.reduceNeg, Nat.reduceLeDiff, Int.reduceToNat, Int.reduceEq, Int.reduceLT, Int.reduceLE, Int.reduceAdd]
      exact hQ _ _ _ _ nofun rfl (by simp [tupOf, envOf, AV.strip, AV.strip1])
  · rintro done x rest ⟨g, n, o, a⟩ H J hd hlt _ ⟨hg, ⟨hn, hn0, hn1⟩, hv, hle, hs⟩ hJ
    have hx := cVs_get hd
    have hbm := bVs_mid done x rest
    rw [← hd] at hbm
    simp only [allVs] at hg
    simp only [depthVs] at hn
    simp only [varsVs] at hv
    simp only [Lim] at hg hn hn0 hn1 hv hle hs
    have hdx := depthV_le x
    have hHb : H b = some _ := hs.kept b _ e0 nofun
    have hvx := varsV_le x []
    simp only [List.length_nil, Nat.zero_add] at hvx
    have hvl := cT_len (varsV x [])
    simp only [bVs] at hle
    have hmm : 0 ≤ mm2 true n (depthV x) ∧ mm2 true n (depthV x) ≤ 1099511627776 := by simp only [mm2, if_true]; split <;> omega
    cases g with
    | true =>
      simp only [Bool.true_and] at hg
      simp (disch := first | omega | assumption) only [cV_len, cV_take, cV_splice, cM_len, cM_take, cM_splice, cM_mk, h1, hlt, hx, steps, st2, pev, rev, oev, optr, ibin, sbin, ishf, bound, mmAll, mm2, mk, mkArgs, AV.cells, AV.boxable, AV.one, AV.strip1, fillA, fillS, Nat.reduceEqDiff, reduceCtorEq, ↓reduceIte, Nat.reduceAdd, Int.reduceNeg, Nat.reduceLeDiff, Int.reduceToNat, Int.reduceEq, Int.reduceLT, Int.reduceLE, Int.reduceAdd]
      refine goK_pure (goodVC x (by simp only [Lim]; omega)) ?_
      simp (disch := first | omega | assumption) only [cV_len, cV_take, cV_splice, cM_len, cM_take, cM_splice, cM_mk, h1, hlt, hx, steps, st2, pev, rev, oev, optr, ibin, sbin, ishf, bound, mmAll, mm2, mk, mkArgs, AV.cells, AV.boxable, AV.one, AV.strip1, fillA, fillS, Nat.reduceEqDiff, reduceCtorEq, ↓reduceIte, Nat.reduceAdd, Int.reduceNeg, Nat.reduceLeDiff, Int.reduceToNat, Int.reduceEq, Int.reduceLT, Int.reduceLE, Int.reduceAdd]
      refine goK_pure (depthC x (by simp only [Lim]; omega)) ?_
      simp (disch := first | omega | assumption) only [cV_len, cV_take, cV_splice, cM_len, cM_take, cM_splice, cM_mk, h1, hlt, hx, steps, st2, pev, rev, oev, optr, ibin, sbin, ishf, bound, mmAll, mm2, mk, mkArgs, AV.cells, AV.boxable, AV.one, AV.strip1, fillA, fillS, Nat.reduceEqDiff, reduceCtorEq, ↓reduceIte, Nat.reduceAdd, Int.reduceNeg, Nat.reduceLeDiff, Int.reduceToNat, Int.reduceEq, Int.reduceLT, Int.reduceLE, Int.reduceAdd]
      refine goK_pure (varsPT x (by simp only [Lim]; omega)) ?_
      simp (disch := first | omega | assumption) only [cV_len, cV_take, cV_splice, cM_len, cM_take, cM_splice, cM_mk, h1, hlt, hx, steps, st2, pev, rev, oev, optr, ibin, sbin, ishf, bound, mmAll, mm2, mk, mkArgs, AV.cells, AV.boxable, AV.one, AV.strip1, fillA, fillS, Nat.reduceEqDiff, reduceCtorEq, ↓reduceIte, Nat.reduceAdd, Int.reduceNeg, Nat.reduceLeDiff, Int.reduceToNat, Int.reduceEq, Int.reduceLT, Int.reduceLE, Int.reduceAdd]
      refine goL_range (varsV x []) 9 (fun y : Own × List (List UInt8) => [(6, .sl y.1 1 (cT y.2))]) (fun done2 rest2 y H' => addAll y.2 rest2 = varsV x a ∧ y.2.length + rest2.length ≤ a.length + (varsV x []).length ∧ OwnS H0 .nil H' y.1 y.2.length 1) (o, a) (by simp (disch := first | omega | assumption) only [steps, st2, pev, rev, oev, optr, ibin, sbin, ishf, bound, mmAll, mm2, mk, mkArgs, AV.cells, AV.boxable, AV.one, AV.strip1, fillA, fillS, Nat.reduceEqDiff, reduceCtorEq, ↓reduceIte, Nat.reduceAdd, Int.reduceNeg, Nat.reduceLeDiff, Int.reduceToNat, Int.reduceEq, Int.reduceLT, Int.reduceLE, Int.reduceAdd]) ⟨vars_of x a, by simp, hs⟩ ?_ ?_
      · rintro ⟨o2, a2⟩ H2 J2 ⟨ha2, hl2, hs2⟩ hlt2
        have ha2' : a2 = varsV x a := ha2
        subst ha2'
        simp (disch := first | omega | assumption) only [hvl, hlt2, steps, st2, pev, rev, oev, optr, ibin, sbin, ishf, bound, mmAll, mm2, mk, mkArgs, AV.cells, AV.boxable, AV.one, AV.strip1, fillA, fillS, Nat.reduceEqDiff, reduceCtorEq, ↓reduceIte, Nat.reduceAdd, Int.reduceNeg, Nat.reduceLeDiff, Int.reduceToNat, Int.reduceEq, Int.reduceLT, Int.reduceLE, Int.reduceAdd]
        exact goJ (hJ (goodV x, mm2 true n (depthV x), o2, varsV x a) H2 ⟨hg, ⟨hn, hmm.1, hmm.2⟩, hv, by have := varsV_le x a; simp only; omega, hs2⟩) (by simp (disch := first | omega | assumption) only [wrap64, steps, st2, pev, rev, oev, optr, ibin, sbin, ishf, bound, mmAll, mm2, mk, mkArgs, AV.cells, AV.boxable, AV.one, AV.strip1, fillA, fillS, Nat.reduceEqDiff, reduceCtorEq, ↓reduceIte, Nat.reduceAdd, Int.reduceNeg, Nat.reduceLeDiff, Int.reduceToNat, Int.reduceEq, Int.reduceLT, Int.reduceLE, Int.reduceAdd])
      · rintro done2 t rest2 ⟨o2, a2⟩ H2 J2 hd2 hlt2 _ ⟨ha2, hl2, hs2⟩ hJ2
        have ht := cT_get hd2
        simp only [List.length_cons] at hl2
        have hal := cT_len a2
        simp (disch := first | omega | assumption) only [hvl, hlt2, ht, steps, st2, pev, rev, oev, optr, ibin, sbin, ishf, bound, mmAll, mm2, mk, mkArgs, AV.cells, AV.boxable, AV.one, AV.strip1, fillA, fillS, Nat.reduceEqDiff, reduceCtorEq, ↓reduceIte, Nat.reduceAdd, Int.reduceNeg, Nat.reduceLeDiff, Int.reduceToNat, Int.reduceEq, Int.reduceLT, Int.reduceLE, Int.reduceAdd]
        refine goK_pure (Pure.low (hasR a2 t (by simp only [Lim]; omega))) ?_
        cases hh : hasT t a2 with
        | true =>
          simp (disch := first | omega | assumption) only [hh, steps, st2, pev, rev, oev, optr, ibin, sbin, ishf, bound, mmAll, mm2, mk, mkArgs, AV.cells, AV.boxable, AV.one, AV.strip1, fillA, fillS, Nat.reduceEqDiff, reduceCtorEq, ↓reduceIte, Nat.reduceAdd, Int.reduceNeg, Nat.reduceLeDiff, Int.reduceToNat, Int.reduceEq, Int.reduceLT, Int.reduceLE, Int.reduceAdd]
          exact goJ (hJ2 (o2, a2) H2 ⟨by rw [← ha2, addAll_cons]; simp [addT, hh], by simp only; omega, hs2⟩) (by simp (disch := first | omega | assumption) only [wrap64, steps, st2, pev, rev, oev, optr, ibin, sbin, ishf, bound, mmAll, mm2, mk, mkArgs, AV.cells, AV.boxable, AV.one, AV.strip1, fillA, fillS, Nat.reduceEqDiff, reduceCtorEq, ↓reduceIte, Nat.reduceAdd, Int.reduceNeg, Nat.reduceLeDiff, Int.reduceToNat, Int.reduceEq, Int.reduceLT, Int.reduceLE, Int.reduceAdd])
        | false =>
          simp (disch := first | omega | assumption) only [hh, hvl, hlt2, ht, steps, st2, pev, rev, oev, optr, ibin, sbin, ishf, bound, mmAll, mm2, mk, mkArgs, AV.cells, AV.boxable, AV.one, AV.strip1, fillA, fillS, Nat.reduceEqDiff, reduceCtorEq, ↓reduceIte, Nat.reduceAdd, Int.reduceNeg, Nat.reduceLeDiff, Int.reduceToNat, Int.reduceEq, Int.reduceLT, Int.reduceLE, Int.reduceAdd]
          refine goP_ownS (by rw [hal]; exact hs2.own) ?_ ?_ fun o3 H3 hs3 => ?_
          · simp only [hal, List.length_cons, List.length_nil]; omega
          · simp only [hal, List.length_cons, List.length_nil, maxLen]; omega
          simp (disch := first | omega | assumption) only [steps, st2, pev, rev, oev, optr, ibin, sbin, ishf, bound, mmAll, mm2, mk, mkArgs, AV.cells, AV.boxable, AV.one, AV.strip1, fillA, fillS, Nat.reduceEqDiff, reduceCtorEq, ↓reduceIte, Nat.reduceAdd, Int.reduceNeg, Nat.reduceLeDiff, Int.reduceToNat, Int.reduceEq, Int.reduceLT, Int.reduceLE, Int.reduceAdd]
          exact goJ (hJ2 (o3, a2 ++ [t]) H3 ⟨by rw [← ha2, addAll_cons]; simp [addT, hh], by simp only [List.length_append, List.length_cons, List.length_nil]; omega, hs2.trans (by simpa [hal] using hs3)⟩) (by simp (disch := first | omega | assumption) only [wrap64, cT, List.map_append, steps, st2, pev, rev, oev, optr, ibin, sbin, ishf, bound, mmAll, mm2, mk, mkArgs, AV.cells, AV.boxable, AV.one, AV.strip1, fillA, fillS, Nat.reduceEqDiff, reduceCtorEq, ↓reduceIte, Nat.reduceAdd, Int.reduceNeg, Nat.reduceLeDiff, Int.reduceToNat, Int.reduceEq, Int.reduceLT, Int.reduceLE, Int.reduceAdd])
    | false =>
      simp only [Bool.false_and] at hg
      simp (disch := first | omega | assumption) only [cV_len, cV_take, cV_splice, cM_len, cM_take, cM_splice, cM_mk, h1, hlt, hx, steps, st2, pev, rev, oev, optr, ibin, sbin, ishf, bound, mmAll, mm2, mk, mkArgs, AV.cells, AV.boxable, AV.one, AV.strip1, fillA, fillS, Nat.reduceEqDiff, reduceCtorEq, ↓reduceIte, Nat.reduceAdd, Int.reduceNeg, Nat.reduceLeDiff, Int.reduceToNat, Int.reduceEq, Int.reduceLT, Int.reduceLE, Int.reduceAdd]
      refine goK_pure (depthC x (by simp only [Lim]; omega)) ?_
      simp (disch := first | omega | assumption) only [cV_len, cV_take, cV_splice, cM_len, cM_take, cM_splice, cM_mk, h1, hlt, hx, steps, st2, pev, rev, oev, optr, ibin, sbin, ishf, bound, mmAll, mm2, mk, mkArgs, AV.cells, AV.boxable, AV.one, AV.strip1, fillA, fillS, Nat.reduceEqDiff, reduceCtorEq, ↓reduceIte, Nat.reduceAdd, Int.reduceNeg, Nat.reduceLeDiff, Int.reduceToNat, Int.reduceEq, Int.reduceLT, Int.reduceLE, Int.reduceAdd]
      refine goK_pure (varsPT x (by simp only [Lim]; omega)) ?_
      simp (disch := first | omega | assumption) only [cV_len, cV_take, cV_splice, cM_len, cM_take, cM_splice, cM_mk, h1, hlt, hx, steps, st2, pev, rev, oev, optr, ibin, sbin, ishf, bound, mmAll, mm2, mk, mkArgs, AV.cells, AV.boxable, AV.one, AV.strip1, fillA, fillS, Nat.reduceEqDiff, reduceCtorEq, ↓reduceIte, Nat.reduceAdd, Int.reduceNeg, Nat.reduceLeDiff, Int.reduceToNat, Int.reduceEq, Int.reduceLT, Int.reduceLE, Int.reduceAdd]
      refine goL_range (varsV x []) 9 (fun y : Own × List (List UInt8) => [(6, .sl y.1 1 (cT y.2))]) (fun done2 rest2 y H' => addAll y.2 rest2 = varsV x a ∧ y.2.length + rest2.length ≤ a.length + (varsV x []).length ∧ OwnS H0 .nil H' y.1 y.2.length 1) (o, a) (by simp (disch := first | omega | assumption) only [steps, st2, pev, rev, oev, optr, ibin, sbin, ishf, bound, mmAll, mm2, mk, mkArgs, AV.cells, AV.boxable, AV.one, AV.strip1, fillA, fillS, Nat.reduceEqDiff, reduceCtorEq, ↓reduceIte, Nat.reduceAdd, Int.reduceNeg, Nat.reduceLeDiff, Int.reduceToNat, Int.reduceEq, Int.reduceLT, Int.reduceLE, Int.reduceAdd]) ⟨vars_of x a, by simp, hs⟩ ?_ ?_
      · rintro ⟨o2, a2⟩ H2 J2 ⟨ha2, hl2, hs2⟩ hlt2
        have ha2' : a2 = varsV x a := ha2
        subst ha2'
        simp (disch := first | omega | assumption) only [hvl, hlt2, steps, st2, pev, rev, oev, optr, ibin, sbin, ishf, bound, mmAll, mm2, mk, mkArgs, AV.cells, AV.boxable, AV.one, AV.strip1, fillA, fillS, Nat.reduceEqDiff, reduceCtorEq, ↓reduceIte, Nat.reduceAdd, Int.reduceNeg, Nat.reduceLeDiff, Int.reduceToNat, Int.reduceEq, Int.reduceLT, Int.reduceLE, Int.reduceAdd]
        exact goJ (hJ (false, mm2 true n (depthV x), o2, varsV x a) H2 ⟨by simpa using hg, ⟨hn, hmm.1, hmm.2⟩, hv, by have := varsV_le x a; simp only; omega, hs2⟩) (by simp (disch := first | omega | assumption) only [wrap64, steps, st2, pev, rev, oev, optr, ibin, sbin, ishf, bound, mmAll, mm2, mk, mkArgs, AV.cells, AV.boxable, AV.one, AV.strip1, fillA, fillS, Nat.reduceEqDiff, reduceCtorEq, ↓reduceIte, Nat.reduceAdd, Int.reduceNeg, Nat.reduceLeDiff, Int.reduceToNat, Int.reduceEq, Int.reduceLT, Int.reduceLE, Int.reduceAdd])
      · rintro done2 t rest2 ⟨o2, a2⟩ H2 J2 hd2 hlt2 _ ⟨ha2, hl2, hs2⟩ hJ2
        have ht := cT_get hd2
        simp only [List.length_cons] at hl2
        have hal := cT_len a2
        simp (disch := first | omega | assumption) only [hvl, hlt2, ht, steps, st2, pev, rev, oev, optr, ibin, sbin, ishf, bound, mmAll, mm2, mk, mkArgs, AV.cells, AV.boxable, AV.one, AV.strip1, fillA, fillS, Nat.reduceEqDiff, reduceCtorEq, ↓reduceIte, Nat.reduceAdd, Int.reduceNeg, Nat.reduceLeDiff, Int.reduceToNat, Int.reduceEq, Int.reduceLT, Int.reduceLE, Int.reduceAdd]
        refine goK_pure (Pure.low (hasR a2 t (by simp only [Lim]; omega))) ?_
        cases hh : hasT t a2 with
        | true =>
          simp (disch := first | omega | assumption) only [hh, steps, st2, pev, rev, oev, optr, ibin, sbin, ishf, bound, mmAll, mm2, mk, mkArgs, AV.cells, AV.boxable, AV.one, AV.strip1, fillA, fillS, Nat.reduceEqDiff, reduceCtorEq, ↓reduceIte, Nat.reduceAdd, Int.reduceNeg, Nat.reduceLeDiff, Int.reduceToNat, Int.reduceEq, Int.reduceLT, Int.reduceLE, Int.reduceAdd]
          exact goJ (hJ2 (o2, a2) H2 ⟨by rw [← ha2, addAll_cons]; simp [addT, hh], by simp only; omega, hs2⟩) (by simp (disch := first | omega | assumption) only [wrap64, steps, st2, pev, rev, oev, optr, ibin, sbin, ishf, bound, mmAll, mm2, mk, mkArgs, AV.cells, AV.boxable, AV.one, AV.strip1, fillA, fillS, Nat.reduceEqDiff, reduceCtorEq, ↓reduceIte, Nat.reduceAdd, Int.reduceNeg, Nat.reduceLeDiff, Int.reduceToNat, Int.reduceEq, Int.reduceLT, Int.reduceLE, Int.reduceAdd])
        | false =>
          simp (disch := first | omega | assumption) only [hh, hvl, hlt2, ht, steps, st2, pev, rev, oev, optr, ibin, sbin, ishf, bound, mmAll, mm2, mk, mkArgs, AV.cells, AV.boxable, AV.one, AV.strip1, fillA, fillS, Nat.reduceEqDiff, reduceCtorEq, ↓reduceIte, Nat.reduceAdd, Int.reduceNeg, Nat.reduceLeDiff, Int.reduceToNat, Int.reduceEq, Int.reduceLT, Int.reduceLE, Int.reduceAdd]
          refine goP_ownS (by rw [hal]; exact hs2.own) ?_ ?_ fun o3 H3 hs3 => ?_
          · simp only [hal, List.length_cons, List.length_nil]; omega
          · simp only [hal, List.length_cons, List.length_nil, maxLen]; omega
          simp (disch := first | omega | assumption) only [steps, st2, pev, rev, oev, optr, ibin, sbin, ishf, bound, mmAll, mm2, mk, mkArgs, AV.cells, AV.boxable, AV.one, AV.strip1, fillA, fillS, Nat.reduceEqDiff, reduceCtorEq, ↓reduceIte, Nat.reduceAdd, Int.reduceNeg, Nat.reduceLeDiff, Int.reduceToNat, Int.reduceEq, Int.reduceLT, Int.reduceLE, Int.reduceAdd]
          exact goJ (hJ2 (o3, a2 ++ [t]) H3 ⟨by rw [← ha2, addAll_cons]; simp [addT, hh], by simp only [List.length_append, List.length_cons, List.length_nil]; omega, hs2.trans (by simpa [hal] using hs3)⟩) (by simp (disch := first | omega | assumption) only [wrap64, cT, List.map_append, steps, st2, pev, rev, oev, optr, ibin, sbin, ishf, bound, mmAll, mm2, mk, mkArgs, AV.cells, AV.boxable, AV.one, AV.strip1, fillA, fillS, Nat.reduceEqDiff, reduceCtorEq, ↓reduceIte, Nat.reduceAdd, Int.reduceNeg, Nat.reduceLeDiff, Int.reduceToNat, Int.reduceEq, Int.reduceLT, Int.reduceLE, Int.reduceAdd])
end Go.Proofs.YtpjafglhdlfnbaaDoor
