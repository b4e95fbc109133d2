/- Values: two values without like tokens; the law of unlike values. -/
import Derived.Test.YtpjafglhdlfnbaaDoorValF
import Derived.Test.YtpjafglhdlfnbaaDoorItoa
set_option maxRecDepth 100000
set_option linter.unusedSimpArgs false
set_option linter.unusedVariables false
namespace Go.Proofs.YtpjafglhdlfnbaaDoor
open Go.Ab

abbrev pl (v : Val) : Prop := allV nameM v = true

inductive Shape : Val → Prop
  | null : Shape (.mk 0 0 [] [] [])
  | bool (n : Int) (h : n = 0 ∨ n = 1) : Shape (.mk 1 n [] [] [])
  | int (n : Int) : Shape (.mk 2 n [] [] [])
  | num (s : List UInt8) (h : numB s = true) : Shape (.mk 3 0 s [] [])
  | text (s : List UInt8) : Shape (.mk 4 0 s [] [])
  | word (s : List UInt8) (h : resB s = false) : Shape (.mk 5 0 s [] [])
  | var (s : List UInt8) : Shape (.mk 8 0 s [] [])
  | list (l : List Val) (h : allVs nameM l = true) : Shape (.mk 6 0 [] l [])
  | obj (m : List Mem) (h : allMs nameM m = true) : Shape (.mk 7 0 [] [] m)

theorem bareM_iff {n : Int} {s : List UInt8} {l : List Val} {m : List Mem} : bareM n s l m = true ↔ n = 0 ∧ s = [] ∧ l = [] ∧ m = [] := by
  simp [bareM]

theorem shape : ∀ v, pl v → Shape v
  | .mk k n s l m, h => by
    simp only [pl, allV] at h
    split at h
    · rename_i k6
      subst k6
      simp only [Bool.and_eq_true, bareM_iff] at h
      obtain ⟨h1, rfl, rfl, _, rfl⟩ := h
      exact .list l h1
    · split at h
      · rename_i k7
        subst k7
        simp only [Bool.and_eq_true, bareM_iff] at h
        obtain ⟨h1, rfl, rfl, rfl, _⟩ := h
        exact .obj m h1
      · simp only [singleM, Bool.and_eq_true, bareM_iff] at h
        obtain ⟨⟨_, _, rfl, rfl⟩, h⟩ := h
        split at h
        · rename_i k0
          subst k0
          simp only [Bool.and_eq_true, decide_eq_true_eq] at h
          obtain ⟨rfl, rfl⟩ := h
          exact .null
        split at h
        · rename_i k0
          subst k0
          simp only [Bool.and_eq_true, Bool.or_eq_true, decide_eq_true_eq] at h
          obtain ⟨h, rfl⟩ := h
          exact .bool n h
        split at h
        · rename_i k0
          subst k0
          simp only [decide_eq_true_eq] at h
          subst h
          exact .int n
        split at h
        · rename_i k0
          subst k0
          simp only [Bool.and_eq_true, decide_eq_true_eq] at h
          obtain ⟨rfl, h⟩ := h
          exact .num s h
        split at h
        · rename_i k0
          subst k0
          simp only [Bool.and_eq_true, decide_eq_true_eq] at h
          obtain ⟨rfl, h⟩ := h
          exact .text s
        split at h
        · rename_i k0
          subst k0
          simp only [Bool.and_eq_true, decide_eq_true_eq, Bool.not_eq_true'] at h
          obtain ⟨rfl, _, h⟩ := h
          exact .word s h
        split at h
        · rename_i k0
          subst k0
          simp only [Bool.and_eq_true, decide_eq_true_eq] at h
          obtain ⟨rfl, _⟩ := h
          exact .var s
        · cases h

theorem t_null (n s l m) : tokV (.mk 0 n s l m) = [⟨2, [110, 117, 108, 108]⟩] := by simp [tokV]
theorem t_bool (n s l m) : tokV (.mk 1 n s l m) = [⟨2, boolT (decide (n = 1))⟩] := by simp [tokV]
theorem t_int (n s l m) : tokV (.mk 2 n s l m) = [⟨3, Lib.itoa n⟩] := by simp [tokV]
theorem t_num (n s l m) : tokV (.mk 3 n s l m) = [⟨numK s, s⟩] := by simp [tokV]
theorem t_text (n s l m) : tokV (.mk 4 n s l m) = [⟨5, s⟩] := by simp [tokV]
theorem t_word (n s l m) : tokV (.mk 5 n s l m) = [⟨2, s⟩] := by simp [tokV]
theorem t_var (n s l m) : tokV (.mk 8 n s l m) = [⟨1, [36]⟩, ⟨2, s⟩] := by simp [tokV]
theorem t_list (n s l m) : tokV (.mk 6 n s l m) = ⟨1, [91]⟩ :: (tokVs l ++ [⟨1, [93]⟩]) := by simp [tokV]
theorem t_obj (n s l m) : tokV (.mk 7 n s l m) = ⟨1, [123]⟩ :: (tokMs m ++ [⟨1, [125]⟩]) := by simp [tokV]

theorem numB_kind {s : List UInt8} (h : numB s = true) : (numK s = 4 ∨ numK s = 3) ∧ ∀ n, inR n → numK s = 3 → Lib.itoa n ≠ s := by
  simp only [numB, Bool.or_eq_true, decide_eq_true_eq, Bool.and_eq_true, Bool.not_eq_true'] at h
  refine ⟨h.imp id (·.1), fun n hn h3 e => ?_⟩
  rcases h with h | ⟨_, h⟩
  · omega
  · rw [wholeB, ← e, parse_itoa n hn.1 hn.2, e, h3] at h
    simp [okI] at h

theorem tok_head (v : Val) (h : pl v) : ∃ t r, tokV v = t :: r ∧ t ≠ ⟨1, [93]⟩ ∧ t ≠ ⟨1, [125]⟩ := by
  cases shape v h with
  | null => exact ⟨_, _, t_null .., by simp, by simp⟩
  | bool n h => exact ⟨_, _, t_bool .., by simp, by simp⟩
  | int n => exact ⟨_, _, t_int .., by simp, by simp⟩
  | num s h =>
    have := (numB_kind h).1
    refine ⟨_, _, t_num .., fun e => ?_, fun e => ?_⟩ <;> (injection e with e _; omega)
  | text s => exact ⟨_, _, t_text .., by simp, by simp⟩
  | word s h => exact ⟨_, _, t_word .., by simp, by simp⟩
  | var s => exact ⟨_, _, t_var .., by simp, by simp⟩
  | list l h => exact ⟨_, _, t_list .., by simp, by simp⟩
  | obj m h => exact ⟨_, _, t_obj .., by simp, by simp⟩

theorem bool_words (b : Bool) : boolT b ≠ [110, 117, 108, 108] := by cases b <;> decide
theorem res_words : resB [110, 117, 108, 108] = true ∧ ∀ b, resB (boolT b) = true := ⟨by decide, fun b => by cases b <;> decide⟩
theorem bool_inj {n n' : Int} (h : n = 0 ∨ n = 1) (h' : n' = 0 ∨ n' = 1) (e : boolT (decide (n = 1)) = boolT (decide (n' = 1))) : n = n' := by
  rcases h with rfl | rfl <;> rcases h' with rfl | rfl <;> simp [boolT] at e ⊢

/-- The kinds of two values with like first tokens, and what is told by one token alone. -/
theorem tok_kind {v w : Val} {r r' : List Tok} (hv : pl v) (hw : pl w) (wv : wfV v) (ww : wfV w) (h : tokV v ++ r = tokV w ++ r') :
    (v = w ∧ r = r') ∨ (∃ l l', v = .mk 6 0 [] l [] ∧ w = .mk 6 0 [] l' [] ∧ allVs nameM l = true ∧ allVs nameM l' = true ∧ tokVs l ++ ⟨1, [93]⟩ :: r = tokVs l' ++ ⟨1, [93]⟩ :: r') ∨
    (∃ l l', v = .mk 7 0 [] [] l ∧ w = .mk 7 0 [] [] l' ∧ allMs nameM l = true ∧ allMs nameM l' = true ∧ tokMs l ++ ⟨1, [125]⟩ :: r = tokMs l' ++ ⟨1, [125]⟩ :: r') := by
  cases shape v hv with
  | null =>
    cases shape w hw with
    | null => simp only [t_null, List.cons_append, List.nil_append, List.cons.injEq, true_and] at h; exact .inl ⟨rfl, h⟩
    | word s hs =>
      simp only [t_null, t_word, List.cons_append, List.nil_append, List.cons.injEq, Tok.mk.injEq, true_and] at h
      rw [← h.1, res_words.1] at hs; cases hs
    | bool n hn =>
      simp only [t_null, t_bool, List.cons_append, List.nil_append, List.cons.injEq, Tok.mk.injEq, true_and] at h
      exact absurd h.1.symm (bool_words _)
    | num s hs => have := (numB_kind hs).1; simp only [t_null, t_num, List.cons_append, List.nil_append, List.cons.injEq, Tok.mk.injEq] at h; omega
    | _ => simp [t_null, t_bool, t_int, t_num, t_text, t_word, t_var, t_list, t_obj] at h
  | bool n hn =>
    cases shape w hw with
    | null =>
      simp only [t_null, t_bool, List.cons_append, List.nil_append, List.cons.injEq, Tok.mk.injEq, true_and] at h
      exact absurd h.1 (bool_words _)
    | word s hs =>
      simp only [t_bool, t_word, List.cons_append, List.nil_append, List.cons.injEq, Tok.mk.injEq, true_and] at h
      rw [← h.1, res_words.2] at hs; cases hs
    | bool n' hn' =>
      simp only [t_bool, List.cons_append, List.nil_append, List.cons.injEq, Tok.mk.injEq, true_and] at h
      have e := bool_inj hn hn' h.1
      subst e
      exact .inl ⟨rfl, h.2⟩
    | num s hs => have := (numB_kind hs).1; simp only [t_bool, t_num, List.cons_append, List.nil_append, List.cons.injEq, Tok.mk.injEq] at h; omega
    | _ => simp [t_null, t_bool, t_int, t_num, t_text, t_word, t_var, t_list, t_obj] at h
  | int n =>
    cases shape w hw with
    | int n' =>
      simp only [t_int, List.cons_append, List.nil_append, List.cons.injEq, Tok.mk.injEq, true_and] at h
      have e := itoa_inj wv.1.1 wv.1.2 ww.1.1 ww.1.2 h.1
      subst e
      exact .inl ⟨rfl, h.2⟩
    | num s hs =>
      simp only [t_int, t_num, List.cons_append, List.nil_append, List.cons.injEq, Tok.mk.injEq] at h
      exact absurd h.1.2 ((numB_kind hs).2 n wv.1 h.1.1.symm)
    | _ => simp [t_null, t_bool, t_int, t_num, t_text, t_word, t_var, t_list, t_obj] at h
  | num s hs =>
    have hk := (numB_kind hs).1
    cases shape w hw with
    | int n =>
      simp only [t_int, t_num, List.cons_append, List.nil_append, List.cons.injEq, Tok.mk.injEq] at h
      exact absurd h.1.2.symm ((numB_kind hs).2 n ww.1 h.1.1)
    | num s' hs' =>
      simp only [t_num, List.cons_append, List.nil_append, List.cons.injEq, Tok.mk.injEq] at h
      obtain ⟨⟨_, rfl⟩, h⟩ := h
      exact .inl ⟨rfl, h⟩
    | _ => simp only [t_null, t_bool, t_int, t_num, t_text, t_word, t_var, t_list, t_obj, List.cons_append, List.nil_append, List.cons.injEq, Tok.mk.injEq] at h; omega
  | text s =>
    cases shape w hw with
    | text s' =>
      simp only [t_text, List.cons_append, List.nil_append, List.cons.injEq, Tok.mk.injEq, true_and] at h
      obtain ⟨rfl, h⟩ := h
      exact .inl ⟨rfl, h⟩
    | num s hs => have := (numB_kind hs).1; simp only [t_text, t_num, List.cons_append, List.nil_append, List.cons.injEq, Tok.mk.injEq] at h; omega
    | _ => simp [t_null, t_bool, t_int, t_num, t_text, t_word, t_var, t_list, t_obj] at h
  | word s hs =>
    cases shape w hw with
    | null =>
      simp only [t_null, t_word, List.cons_append, List.nil_append, List.cons.injEq, Tok.mk.injEq, true_and] at h
      rw [h.1, res_words.1] at hs; cases hs
    | bool n hn =>
      simp only [t_bool, t_word, List.cons_append, List.nil_append, List.cons.injEq, Tok.mk.injEq, true_and] at h
      rw [h.1, res_words.2] at hs; cases hs
    | word s' hs' =>
      simp only [t_word, List.cons_append, List.nil_append, List.cons.injEq, Tok.mk.injEq, true_and] at h
      obtain ⟨rfl, h⟩ := h
      exact .inl ⟨rfl, h⟩
    | num s hs => have := (numB_kind hs).1; simp only [t_word, t_num, List.cons_append, List.nil_append, List.cons.injEq, Tok.mk.injEq] at h; omega
    | _ => simp [t_null, t_bool, t_int, t_num, t_text, t_word, t_var, t_list, t_obj] at h
  | var s =>
    cases shape w hw with
    | var s' =>
      simp only [t_var, List.cons_append, List.nil_append, List.cons.injEq, Tok.mk.injEq, true_and] at h
      obtain ⟨rfl, h⟩ := h
      exact .inl ⟨rfl, h⟩
    | num s hs => have := (numB_kind hs).1; simp only [t_var, t_num, List.cons_append, List.nil_append, List.cons.injEq, Tok.mk.injEq] at h; omega
    | _ => simp [t_null, t_bool, t_int, t_num, t_text, t_word, t_var, t_list, t_obj] at h
  | list l hl =>
    cases shape w hw with
    | list l' hl' =>
      simp only [t_list, List.cons_append, List.append_assoc, List.nil_append, List.cons.injEq, true_and] at h
      exact .inr (.inl ⟨l, l', rfl, rfl, hl, hl', h⟩)
    | num s hs => have := (numB_kind hs).1; simp only [t_list, t_num, List.cons_append, List.nil_append, List.cons.injEq, Tok.mk.injEq] at h; omega
    | _ => simp [t_null, t_bool, t_int, t_num, t_text, t_word, t_var, t_list, t_obj] at h
  | obj m hm =>
    cases shape w hw with
    | obj m' hm' =>
      simp only [t_obj, List.cons_append, List.append_assoc, List.nil_append, List.cons.injEq, true_and] at h
      exact .inr (.inr ⟨m, m', rfl, rfl, hm, hm', h⟩)
    | num s hs => have := (numB_kind hs).1; simp only [t_obj, t_num, List.cons_append, List.nil_append, List.cons.injEq, Tok.mk.injEq] at h; omega
    | _ => simp [t_null, t_bool, t_int, t_num, t_text, t_word, t_var, t_list, t_obj] at h

mutual
theorem tok_inj : ∀ v w r r', pl v → pl w → wfV v → wfV w → tokV v ++ r = tokV w ++ r' → v = w ∧ r = r'
  | .mk k n s l m, w, r, r', hv, hw, wv, ww, h => by
    have hl := toks_inj l
    have hm := tokm_inj m
    rcases tok_kind hv hw wv ww h with e | ⟨l1, l', e1, e2, a1, a2, e⟩ | ⟨m1, m', e1, e2, a1, a2, e⟩
    · exact e
    · injection e1 with _ _ _ e1 _
      subst e1 e2
      obtain ⟨e3, e4⟩ := hl l' r r' a1 a2 wv.2.1 ww.2.1 e
      subst e3
      exact ⟨by simp_all, e4⟩
    · injection e1 with _ _ _ _ e1
      subst e1 e2
      obtain ⟨e3, e4⟩ := hm m' r r' a1 a2 wv.2.2 ww.2.2 e
      subst e3
      exact ⟨by simp_all, e4⟩
theorem toks_inj : ∀ l l' r r', allVs nameM l = true → allVs nameM l' = true → wfVs l → wfVs l' → tokVs l ++ ⟨1, [93]⟩ :: r = tokVs l' ++ ⟨1, [93]⟩ :: r' → l = l' ∧ r = r'
  | [], [], r, r', _, _, _, _, h => by simpa [tokVs] using h
  | [], w :: q, r, r', _, h2, _, _, h => by
    simp only [allVs, Bool.and_eq_true] at h2
    obtain ⟨t, ts, e, n1, n2⟩ := tok_head w h2.1
    simp only [tokVs, e, List.nil_append, List.cons_append, List.append_assoc, List.cons.injEq] at h
    exact absurd h.1.symm n1
  | v :: q, [], r, r', h1, _, _, _, h => by
    simp only [allVs, Bool.and_eq_true] at h1
    obtain ⟨t, ts, e, n1, n2⟩ := tok_head v h1.1
    simp only [tokVs, e, List.nil_append, List.cons_append, List.append_assoc, List.cons.injEq] at h
    exact absurd h.1 n1
  | v :: q, w :: q', r, r', h1, h2, w1, w2, h => by
    simp only [allVs, Bool.and_eq_true] at h1 h2
    simp only [tokVs, List.append_assoc] at h
    obtain ⟨e1, h3⟩ := tok_inj v w _ _ h1.1 h2.1 w1.1 w2.1 h
    obtain ⟨e2, h4⟩ := toks_inj q q' r r' h1.2 h2.2 w1.2 w2.2 h3
    exact ⟨by rw [e1, e2], h4⟩
theorem tokm1_inj : ∀ x y r r', allM nameM x = true → allM nameM y = true → wfM x → wfM y → tokM x ++ r = tokM y ++ r' → x = y ∧ r = r'
  | .mk s v, .mk t w, r, r', h1, h2, w1, w2, h => by
    simp only [allM, Bool.and_eq_true] at h1 h2
    simp only [tokM, List.cons_append, List.cons.injEq, Tok.mk.injEq, true_and] at h
    obtain ⟨e1, h3⟩ := h
    obtain ⟨e2, h4⟩ := tok_inj v w _ _ h1.2 h2.2 w1 w2 h3
    exact ⟨by rw [e1, e2], h4⟩
theorem tokm_inj : ∀ l l' r r', allMs nameM l = true → allMs nameM l' = true → wfMs l → wfMs l' → tokMs l ++ ⟨1, [125]⟩ :: r = tokMs l' ++ ⟨1, [125]⟩ :: r' → l = l' ∧ r = r'
  | [], [], r, r', _, _, _, _, h => by simpa [tokMs] using h
  | [], .mk s w :: q, r, r', _, h2, _, _, h => by
    simp [tokMs, tokM] at h
  | .mk s v :: q, [], r, r', h1, _, _, _, h => by
    simp [tokMs, tokM] at h
  | x :: q, y :: q', r, r', h1, h2, w1, w2, h => by
    simp only [allMs, Bool.and_eq_true] at h1 h2
    simp only [tokMs, List.append_assoc] at h
    obtain ⟨e1, h3⟩ := tokm1_inj x y _ _ h1.1 h2.1 w1.1 w2.1 h
    obtain ⟨e2, h4⟩ := tokm_inj q q' r r' h1.2 h2.2 w1.2 w2.2 h3
    exact ⟨by rw [e1, e2], h4⟩
end

theorem eqd_tok {a b : Val} (ha : pl a) (hb : pl b) (wa : wfV a) (wb : wfV b) : eqd (tokV a) (tokV b) = eqd a b := by
  by_cases h : a = b
  · subst h; rw [eqd_true rfl, eqd_true rfl]
  · have h' : tokV a ≠ tokV b := fun e => h (tok_inj a b [] [] ha hb wa wb (by simpa using e)).1
    rw [eqd_false h, eqd_false h']

/-- ValueUnlike is true. -/
theorem unlike (a b : Val) (ha : 4 * bV a ≤ Lim) (hb : 4 * bV b ≤ Lim) (wa : wfV a) (wb : wfV b) : Pure Tryd.prog 5 [.agg (cV a), .agg (cV b)] (.bool true) := by
  have ha' : bV a ≤ Lim := by omega
  have hb' : bV b ≤ Lim := by omega
  refine Pure.go ir5 ck5 (Nat.le_refl _) fun KP Q hQ => ?_
  simp (disch := first | omega | assumption) only [cV_len, cV_take, cV_splice, cM_len, cM_take, cM_splice, cM_mk, ir5, steps, st2, pev, rev, oev, optr, ibin, sbin, ishf, bound, mmAll, mm2, mk, mkArgs, AV.cells, AV.boxable, AV.one, AV.strip1, fillA, fillS, Nat.reduceEqDiff, reduceCtorEq, ↓reduceIte, Nat.reduceAdd, Int.reduceNeg, Nat.reduceLeDiff, Int.reduceToNat, Int.reduceEq, Int.reduceLT, Int.reduceLE, Int.reduceAdd]
  refine goK_pure (sizeC a ha') ?_
  by_cases h1 : (2000 : Int) < bV a
  · simp (disch := first | omega | assumption) only [cV_len, cV_take, cV_splice, cM_len, cM_take, cM_splice, cM_mk, h1, steps, st2, pev, rev, oev, optr, ibin, sbin, ishf, bound, mmAll, mm2, mk, mkArgs, AV.cells, AV.boxable, AV.one, AV.strip1, fillA, fillS, Nat.reduceEqDiff, reduceCtorEq, ↓reduceIte, Nat.reduceAdd, Int.reduceNeg, Nat.reduceLeDiff, Int.reduceToNat, Int.reduceEq, Int.reduceLT, Int.reduceLE, Int.reduceAdd]
    refine goK_pure awakeC ?_
    simp (disch := first | omega | assumption) only [steps, st2, pev, rev, oev, optr, ibin, sbin, ishf, bound, mmAll, mm2, mk, mkArgs, AV.cells, AV.boxable, AV.one, AV.strip1, fillA, fillS, Nat.reduceEqDiff, reduceCtorEq, ↓reduceIte, Nat.reduceAdd, Int.reduceNeg, Nat.reduceLeDiff, Int.reduceToNat, Int.reduceEq, Int.reduceLT, Int.reduceLE, Int.reduceAdd]
    exact hQ _ _ _ _ nofun rfl (by simp [tupOf, envOf, AV.strip, AV.strip1])
  simp (disch := first | omega | assumption) only [cV_len, cV_take, cV_splice, cM_len, cM_take, cM_splice, cM_mk, h1, steps, st2, pev, rev, oev, optr, ibin, sbin, ishf, bound, mmAll, mm2, mk, mkArgs, AV.cells, AV.boxable, AV.one, AV.strip1, fillA, fillS, Nat.reduceEqDiff, reduceCtorEq, ↓reduceIte, Nat.reduceAdd, Int.reduceNeg, Nat.reduceLeDiff, Int.reduceToNat, Int.reduceEq, Int.reduceLT, Int.reduceLE, Int.reduceAdd]
  refine goK_pure (sizeC b hb') ?_
  by_cases h2 : (2000 : Int) < bV b
  · simp (disch := first | omega | assumption) only [cV_len, cV_take, cV_splice, cM_len, cM_take, cM_splice, cM_mk, h2, steps, st2, pev, rev, oev, optr, ibin, sbin, ishf, bound, mmAll, mm2, mk, mkArgs, AV.cells, AV.boxable, AV.one, AV.strip1, fillA, fillS, Nat.reduceEqDiff, reduceCtorEq, ↓reduceIte, Nat.reduceAdd, Int.reduceNeg, Nat.reduceLeDiff, Int.reduceToNat, Int.reduceEq, Int.reduceLT, Int.reduceLE, Int.reduceAdd]
    refine goK_pure awakeC ?_
    simp (disch := first | omega | assumption) only [steps, st2, pev, rev, oev, optr, ibin, sbin, ishf, bound, mmAll, mm2, mk, mkArgs, AV.cells, AV.boxable, AV.one, AV.strip1, fillA, fillS, Nat.reduceEqDiff, reduceCtorEq, ↓reduceIte, Nat.reduceAdd, Int.reduceNeg, Nat.reduceLeDiff, Int.reduceToNat, Int.reduceEq, Int.reduceLT, Int.reduceLE, Int.reduceAdd]
    exact hQ _ _ _ _ nofun rfl (by simp [tupOf, envOf, AV.strip, AV.strip1])
  simp (disch := first | omega | assumption) only [cV_len, cV_take, cV_splice, cM_len, cM_take, cM_splice, cM_mk, h2, steps, st2, pev, rev, oev, optr, ibin, sbin, ishf, bound, mmAll, mm2, mk, mkArgs, AV.cells, AV.boxable, AV.one, AV.strip1, fillA, fillS, Nat.reduceEqDiff, reduceCtorEq, ↓reduceIte, Nat.reduceAdd, Int.reduceNeg, Nat.reduceLeDiff, Int.reduceToNat, Int.reduceEq, Int.reduceLT, Int.reduceLE, Int.reduceAdd]
  refine goK_pure (TokensC a wa ha) ?_
  simp (disch := first | omega | assumption) only [cV_len, cV_take, cV_splice, cM_len, cM_take, cM_splice, cM_mk, steps, st2, pev, rev, oev, optr, ibin, sbin, ishf, bound, mmAll, mm2, mk, mkArgs, AV.cells, AV.boxable, AV.one, AV.strip1, fillA, fillS, Nat.reduceEqDiff, reduceCtorEq, ↓reduceIte, Nat.reduceAdd, Int.reduceNeg, Nat.reduceLeDiff, Int.reduceToNat, Int.reduceEq, Int.reduceLT, Int.reduceLE, Int.reduceAdd]
  refine goK_pure (TokensC b wb hb) ?_
  simp (disch := first | omega | assumption) only [cV_len, cV_take, cV_splice, cM_len, cM_take, cM_splice, cM_mk, steps, st2, pev, rev, oev, optr, ibin, sbin, ishf, bound, mmAll, mm2, mk, mkArgs, AV.cells, AV.boxable, AV.one, AV.strip1, fillA, fillS, Nat.reduceEqDiff, reduceCtorEq, ↓reduceIte, Nat.reduceAdd, Int.reduceNeg, Nat.reduceLeDiff, Int.reduceToNat, Int.reduceEq, Int.reduceLT, Int.reduceLE, Int.reduceAdd]
  refine goK_pure (plainVC a ha') ?_
  simp (disch := first | omega | assumption) only [cV_len, cV_take, cV_splice, cM_len, cM_take, cM_splice, cM_mk, steps, st2, pev, rev, oev, optr, ibin, sbin, ishf, bound, mmAll, mm2, mk, mkArgs, AV.cells, AV.boxable, AV.one, AV.strip1, fillA, fillS, Nat.reduceEqDiff, reduceCtorEq, ↓reduceIte, Nat.reduceAdd, Int.reduceNeg, Nat.reduceLeDiff, Int.reduceToNat, Int.reduceEq, Int.reduceLT, Int.reduceLE, Int.reduceAdd]
  refine goK_pure (plainVC b hb') ?_
  cases pa : plainV a with
  | false =>
    have ta : toksV a = [] := by simp [toksV, pa]
    cases pb : plainV b with
    | false =>
      have tb : toksV b = [] := by simp [toksV, pb]
      simp (disch := first | omega | assumption) only [cV_len, cV_take, cV_splice, cM_len, cM_take, cM_splice, cM_mk, pa, pb, ta, tb, cKs, steps, st2, pev, rev, oev, optr, ibin, sbin, ishf, bound, mmAll, mm2, mk, mkArgs, AV.cells, AV.boxable, AV.one, AV.strip1, fillA, fillS, Nat.reduceEqDiff, reduceCtorEq, ↓reduceIte, Nat.reduceAdd, Int.reduceNeg, Nat.reduceLeDiff, Int.reduceToNat, Int.reduceEq, Int.reduceLT, Int.reduceLE, Int.reduceAdd]
      refine goK_pure awakeC ?_
      simp (disch := first | omega | assumption) only [steps, st2, pev, rev, oev, optr, ibin, sbin, ishf, bound, mmAll, mm2, mk, mkArgs, AV.cells, AV.boxable, AV.one, AV.strip1, fillA, fillS, Nat.reduceEqDiff, reduceCtorEq, ↓reduceIte, Nat.reduceAdd, Int.reduceNeg, Nat.reduceLeDiff, Int.reduceToNat, Int.reduceEq, Int.reduceLT, Int.reduceLE, Int.reduceAdd]
      exact hQ _ _ _ _ nofun rfl (by simp [tupOf, envOf, AV.strip, AV.strip1])
    | true =>
      simp (disch := first | omega | assumption) only [cV_len, cV_take, cV_splice, cM_len, cM_take, cM_splice, cM_mk, pa, pb, ta, cKs, steps, st2, pev, rev, oev, optr, ibin, sbin, ishf, bound, mmAll, mm2, mk, mkArgs, AV.cells, AV.boxable, AV.one, AV.strip1, fillA, fillS, Nat.reduceEqDiff, reduceCtorEq, ↓reduceIte, Nat.reduceAdd, Int.reduceNeg, Nat.reduceLeDiff, Int.reduceToNat, Int.reduceEq, Int.reduceLT, Int.reduceLE, Int.reduceAdd]
      refine goK_pure awakeC ?_
      simp (disch := first | omega | assumption) only [steps, st2, pev, rev, oev, optr, ibin, sbin, ishf, bound, mmAll, mm2, mk, mkArgs, AV.cells, AV.boxable, AV.one, AV.strip1, fillA, fillS, Nat.reduceEqDiff, reduceCtorEq, ↓reduceIte, Nat.reduceAdd, Int.reduceNeg, Nat.reduceLeDiff, Int.reduceToNat, Int.reduceEq, Int.reduceLT, Int.reduceLE, Int.reduceAdd]
      exact hQ _ _ _ _ nofun rfl (by simp [tupOf, envOf, AV.strip, AV.strip1])
  | true =>
    cases pb : plainV b with
    | false =>
      have tb : toksV b = [] := by simp [toksV, pb]
      simp (disch := first | omega | assumption) only [cV_len, cV_take, cV_splice, cM_len, cM_take, cM_splice, cM_mk, pa, pb, tb, cKs, steps, st2, pev, rev, oev, optr, ibin, sbin, ishf, bound, mmAll, mm2, mk, mkArgs, AV.cells, AV.boxable, AV.one, AV.strip1, fillA, fillS, Nat.reduceEqDiff, reduceCtorEq, ↓reduceIte, Nat.reduceAdd, Int.reduceNeg, Nat.reduceLeDiff, Int.reduceToNat, Int.reduceEq, Int.reduceLT, Int.reduceLE, Int.reduceAdd]
      refine goK_pure awakeC ?_
      simp (disch := first | omega | assumption) only [steps, st2, pev, rev, oev, optr, ibin, sbin, ishf, bound, mmAll, mm2, mk, mkArgs, AV.cells, AV.boxable, AV.one, AV.strip1, fillA, fillS, Nat.reduceEqDiff, reduceCtorEq, ↓reduceIte, Nat.reduceAdd, Int.reduceNeg, Nat.reduceLeDiff, Int.reduceToNat, Int.reduceEq, Int.reduceLT, Int.reduceLE, Int.reduceAdd]
      exact hQ _ _ _ _ nofun rfl (by simp [tupOf, envOf, AV.strip, AV.strip1])
    | true =>
      have ta : toksV a = tokV a := by simp [toksV, pa]
      have tb : toksV b = tokV b := by simp [toksV, pb]
      have pa' : pl a := by simp only [plainV, Bool.and_eq_true] at pa; exact pa.1
      have pb' : pl b := by simp only [plainV, Bool.and_eq_true] at pb; exact pb.1
      simp (disch := first | omega | assumption) only [cV_len, cV_take, cV_splice, cM_len, cM_take, cM_splice, cM_mk, pa, pb, ta, tb, steps, st2, pev, rev, oev, optr, ibin, sbin, ishf, bound, mmAll, mm2, mk, mkArgs, AV.cells, AV.boxable, AV.one, AV.strip1, fillA, fillS, Nat.reduceEqDiff, reduceCtorEq, ↓reduceIte, Nat.reduceAdd, Int.reduceNeg, Nat.reduceLeDiff, Int.reduceToNat, Int.reduceEq, Int.reduceLT, Int.reduceLE, Int.reduceAdd]
      refine goK_pure (sameTokensR _ _ (by have := tokV_le a; simp only [Lim] at ha ⊢; omega)) ?_
      simp (disch := first | omega | assumption) only [cV_len, cV_take, cV_splice, cM_len, cM_take, cM_splice, cM_mk, steps, st2, pev, rev, oev, optr, ibin, sbin, ishf, bound, mmAll, mm2, mk, mkArgs, AV.cells, AV.boxable, AV.one, AV.strip1, fillA, fillS, Nat.reduceEqDiff, reduceCtorEq, ↓reduceIte, Nat.reduceAdd, Int.reduceNeg, Nat.reduceLeDiff, Int.reduceToNat, Int.reduceEq, Int.reduceLT, Int.reduceLE, Int.reduceAdd]
      refine goK_pure (sameP a ha' b) ?_
      rw [eqd_tok pa' pb' wa wb]
      simp (disch := first | omega | assumption) only [cV_len, cV_take, cV_splice, cM_len, cM_take, cM_splice, cM_mk, steps, st2, pev, rev, oev, optr, ibin, sbin, ishf, bound, mmAll, mm2, mk, mkArgs, AV.cells, AV.boxable, AV.one, AV.strip1, fillA, fillS, Nat.reduceEqDiff, reduceCtorEq, ↓reduceIte, Nat.reduceAdd, Int.reduceNeg, Nat.reduceLeDiff, Int.reduceToNat, Int.reduceEq, Int.reduceLT, Int.reduceLE, Int.reduceAdd]
      refine goK_pure awakeC ?_
      simp (disch := first | omega | assumption) only [steps, st2, pev, rev, oev, optr, ibin, sbin, ishf, bound, mmAll, mm2, mk, mkArgs, AV.cells, AV.boxable, AV.one, AV.strip1, fillA, fillS, Nat.reduceEqDiff, reduceCtorEq, ↓reduceIte, Nat.reduceAdd, Int.reduceNeg, Nat.reduceLeDiff, Int.reduceToNat, Int.reduceEq, Int.reduceLT, Int.reduceLE, Int.reduceAdd]
      exact hQ _ _ _ _ nofun rfl (by simp [tupOf, envOf, AV.strip, AV.strip1])
end Go.Proofs.YtpjafglhdlfnbaaDoor
