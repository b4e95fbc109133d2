/- Texts joined: Tr Ts Tt Doc Qm Pm Tp3 Wa Tw Tw2 Tw3 Eol Tw4 Ta Tw5 Wb Wc ValF ValH Pt Pu Wd We Wf Vr. -/
import Derived.Shelf.Strings.IndexAnyAll
import Derived.Shelf.Small.Utf8
import Derived.Laws.RangeAny
import Derived.Laws.Runes
import Derived.WalkMore
import Derived.Shelf.RegionOpenPlain
import Derived.BigQuiet
import Derived.Test.YticbbfbpeimkbaaGreatDoorM1
import Derived.Test.YticbbfbpeimkbaaGreatDoorM2
import Derived.Test.YticbbfbpeimkbaaGreatDoorM3
import Derived.Test.YticbbfbpeimkbaaGreatDoorM4
set_option maxRecDepth 100000
set_option linter.unusedSimpArgs false
set_option linter.unusedVariables false
namespace Go.Proofs.YticbbfbpeimkbaaGreatDoor
open Go.Ab Go.Lib
theorem byteAll {P : UInt8 → Bool} (h : (List.range 256).all (fun n => P (UInt8.ofNat n)) = true) (c : UInt8) : P c = true := by
  have h1 := List.all_eq_true.1 h c.toNat (List.mem_range.2 (UInt8.toNat_lt c))
  simpa using h1
def markB (c : UInt8) : Bool := decide (0 ≤ Lib.indexByte marksT c)
def spB (c : UInt8) : Bool := decide (c = 9 ∨ c = 10 ∨ c = 13 ∨ c = 32 ∨ c = 44) || decide (c = 239) || decide (c = 35)
theorem mark_not (c : UInt8) : (!markB c || (!(decide (c = 34)) && (!(decide (c = 46)) && (!(isL c) && (!(isD c) && (!(decide (c = 45)) && (!(spB c) && decide (32 ≤ c.toNat ∧ c.toNat < 128)))))))) = true := byteAll (P := fun c => (!markB c || (!(decide (c = 34)) && (!(decide (c = 46)) && (!(isL c) && (!(isD c) && (!(decide (c = 45)) && (!(spB c) && decide (32 ≤ c.toNat ∧ c.toNat < 128))))))))) (by decide +kernel) c
theorem lett_not (c : UInt8) : (!isL c || (!(decide (c = 34)) && (!(decide (c = 46)) && (!(markB c) && (!(isD c) && (!(decide (c = 45)) && (!(spB c) && decide (32 ≤ c.toNat ∧ c.toNat < 128)))))))) = true := byteAll (P := fun c => (!isL c || (!(decide (c = 34)) && (!(decide (c = 46)) && (!(markB c) && (!(isD c) && (!(decide (c = 45)) && (!(spB c) && decide (32 ≤ c.toNat ∧ c.toNat < 128))))))))) (by decide +kernel) c
theorem digit_not (c : UInt8) : (!(isD c || decide (c = 45)) || (!(decide (c = 34)) && (!(decide (c = 46)) && (!(markB c) && (!(isL c) && (!(spB c) && decide (32 ≤ c.toNat ∧ c.toNat < 128))))))) = true := byteAll (P := fun c => (!(isD c || decide (c = 45)) || (!(decide (c = 34)) && (!(decide (c = 46)) && (!(markB c) && (!(isL c) && (!(spB c) && decide (32 ≤ c.toNat ∧ c.toNat < 128)))))))) (by decide +kernel) c
theorem three_not {c : UInt8} (h : c ≠ 34) (r : List UInt8) : threeT.isPrefixOf (c :: r) = false := by
  simp [threeT, List.isPrefixOf]; intro h2; exact absurd h2.symm h
theorem dots_not {c : UInt8} (h : c ≠ 46) (r : List UInt8) : dotsT.isPrefixOf (c :: r) = false := by
  simp [dotsT, List.isPrefixOf]; intro h2; exact absurd h2.symm h
theorem bom_not {c : UInt8} (h : c ≠ 239) (r : List UInt8) : bomT.isPrefixOf (c :: r) = false := by
  simp [bomT, List.isPrefixOf]; intro h2; exact absurd h2.symm h
theorem gap_not {c : UInt8} (h : spB c = false) (r : List UInt8) : gapN (c :: r) = 0 := by
  simp only [spB, Bool.or_eq_false_iff, decide_eq_false_iff_not] at h
  simp only [gapN]
  rw [if_neg h.1.1, bom_not h.1.2, if_neg h.2]; simp
theorem end_head {r : List UInt8} (h : EndT r) : (r.head?.any fun d => isL d || isD d || decide (d = 46)) = false := by
  rcases h with rfl | ⟨c, t, rfl, rfl | rfl⟩
  · rfl
  all_goals simp [isL, isD]
theorem takeW_end {p : UInt8 → Bool} {r : List UInt8} (h10 : p 10 = false) (h32 : p 32 = false) (h : EndT r) : ∀ s : List UInt8, (s ++ r).takeWhile p = s.takeWhile p
  | [] => by
    rcases h with rfl | ⟨c, t, rfl, rfl | rfl⟩
    · rfl
    · simp [h32]
    · simp [h10]
  | c :: s => by
    simp only [List.cons_append, List.takeWhile_cons]
    split
    · rw [takeW_end h10 h32 h s]
    · rfl
theorem takeW_all {p : UInt8 → Bool} : ∀ s : List UInt8, (∀ c ∈ s, p c = true) → s.takeWhile p = s
  | [], _ => rfl
  | c :: s, h => by
    simp only [List.takeWhile_cons, h c (.head _), if_true]
    rw [takeW_all s fun d hd => h d (.tail _ hd)]
theorem wordN_app (s : List UInt8) {r : List UInt8} (h : EndT r) : wordN (s ++ r) = wordN s := by
  unfold wordN; rw [takeW_end (by decide) (by decide) h s]
theorem nameG_all : ∀ (s : List UInt8) (i : Nat), nameG s i = true → ∀ c ∈ s, (isL c || isD c) = true
  | [], _, _ => fun c hc => nomatch hc
  | c :: r, i, h => by
    simp only [nameG] at h
    split at h
    · rename_i h1
      have h2 := nameG_all r (i + 1) h
      intro d hd
      rcases List.mem_cons.1 hd with rfl | hd
      · simp only [Bool.or_eq_true, Bool.and_eq_true] at h1 ⊢
        exact h1.imp id fun x => x.2
      · exact h2 d hd
    · cases h
theorem name_head {c : UInt8} {r : List UInt8} (h : nameM (c :: r) = true) : isL c = true ∧ ∀ d ∈ c :: r, (isL d || isD d) = true := by
  simp only [nameM, Bool.and_eq_true] at h
  refine ⟨?_, nameG_all _ _ h.1⟩
  have := h.1
  simp only [nameG] at this
  split at this
  · rename_i h1; simpa using h1
  · cases this
theorem oneT_letter {c : UInt8} (h : isL c = true) (r : List UInt8) : oneT (c :: r) = some (⟨2, (c :: r).take (wordN (c :: r))⟩, (c :: r).drop (wordN (c :: r))) := by
  have h1 := lett_not c
  simp only [h, Bool.not_true, Bool.false_or, Bool.and_eq_true, Bool.not_eq_true', decide_eq_false_iff_not, decide_eq_true_eq] at h1
  obtain ⟨a1, a2, a3, _⟩ := h1
  simp only [markB, decide_eq_false_iff_not] at a3
  simp only [oneT]
  rw [three_not a1, dots_not a2, if_neg a1, if_neg a3, if_pos h]; simp
theorem gap_letter {c : UInt8} (h : isL c = true) (r : List UInt8) : gapN (c :: r) = 0 := by
  have h1 := lett_not c
  simp only [h, Bool.not_true, Bool.false_or, Bool.and_eq_true, Bool.not_eq_true'] at h1
  exact gap_not h1.2.2.2.2.2.1 r
theorem oneT_number {c : UInt8} (h : (isD c || decide (c = 45)) = true) (r : List UInt8) : oneT (c :: r) = (if (numN (c :: r)).1 = 0 then none
    else if ((c :: r).drop (numN (c :: r)).1).head?.any fun d => isL d || isD d || decide (d = 46) then none
    else some (⟨(numN (c :: r)).2, (c :: r).take (numN (c :: r)).1⟩, (c :: r).drop (numN (c :: r)).1)) := by
  have h1 := digit_not c
  simp only [h, Bool.not_true, Bool.false_or, Bool.and_eq_true, Bool.not_eq_true', decide_eq_false_iff_not, decide_eq_true_eq] at h1
  obtain ⟨a1, a2, a3, a4, _⟩ := h1
  simp only [markB, decide_eq_false_iff_not] at a3
  simp only [oneT]
  rw [three_not a1, dots_not a2, if_neg a1, if_neg a3, a4]; simp
theorem gap_number {c : UInt8} (h : (isD c || decide (c = 45)) = true) (r : List UInt8) : gapN (c :: r) = 0 := by
  have h1 := digit_not c
  simp only [h, Bool.not_true, Bool.false_or, Bool.and_eq_true, Bool.not_eq_true'] at h1
  exact gap_not h1.2.2.2.2.1 r
theorem whole_headB {c : UInt8} {r : List UInt8} (h : wholeN (c :: r) ≠ 0) : (isD c || decide (c = 45)) = true := by
  by_cases hc : c = 45
  · simp [hc]
  · rw [wholeN_pos (s := c :: r) (by simp [hc])] at h
    unfold intN at h
    have h2 : run1 (c :: r) ≠ 0 := fun e => h (by rw [if_pos e])
    simp only [run1] at h2
    split at h2
    · rename_i h3; simp [h3]
    · exact absurd rfl h2
theorem num_whole {s : List UInt8} (h : (numN s).1 ≠ 0) : wholeN s ≠ 0 := fun e => h (by unfold numN; rw [if_pos e])
theorem piece_head {l : List UInt8} {c k : Nat} (h : DecOk l c k) (hc : c = (codeN l).1) : ∀ t, (pieceT c (l.take k) ++ t).head? ≠ some 34 ∧ pieceT c (l.take k) ≠ [] := by
  intro t
  have hpos := h.pos
  have hlen := h.len
  unfold pieceT
  repeat' split
  · simp
  · simp
  · simp [unitT]
  · simp [unitT]
  · rename_i h1 h2 h3 h4
    cases l with
    | nil => simp at hlen; omega
    | cons b r =>
      obtain ⟨m, rfl⟩ : ∃ m, k = m + 1 := ⟨k - 1, by omega⟩
      simp only [List.take_succ_cons, List.cons_append, List.head?_cons, ne_eq, Option.some.injEq]
      refine ⟨fun e => ?_, by simp⟩
      subst e
      by_cases hk : m + 1 = 1
      · have := (h.one hk).1
        simp at this
        omega
      · have := h.high hk 34 (by simp)
        simp at this
theorem tquoG_head {s : List UInt8} (hv : validD s = true) (hne : s ≠ []) (n : Nat) (hn : s.length ≤ n) (t : List UInt8) : (tquoG n s ++ t).head? ≠ some 34 := by
  cases n with
  | zero => exact absurd (List.length_eq_zero_iff.1 (by omega)) hne
  | succ n =>
    simp only [tquoG, if_neg hne, List.append_assoc]
    exact (piece_head (code_ok hne hv).1 rfl _).1
theorem three_quo (s r : List UInt8) (hv : validD s = true) (hr : EndT r) : threeT.isPrefixOf (34 :: (tquoG s.length s ++ 34 :: r)) = false := by
  by_cases hs : s = []
  · subst hs
    simp only [tquoG, List.nil_append, List.length_nil]
    rcases hr with rfl | ⟨c, t, rfl, rfl | rfl⟩ <;> simp [threeT, List.isPrefixOf]
  · have h := tquoG_head hv hs s.length (Nat.le_refl _) (34 :: r)
    cases hx : tquoG s.length s ++ 34 :: r with
    | nil => simp [threeT, List.isPrefixOf]
    | cons c t =>
      rw [hx] at h
      simp only [List.head?_cons, ne_eq, Option.some.injEq] at h
      simp [threeT, List.isPrefixOf]
      intro e
      exact absurd e.symm h
theorem oneT_tok (x : Tok) (hx : rightK x = true) {r : List UInt8} (hr : EndT r) : oneT (tokT x ++ r) = some (x, r) ∧ gapN (tokT x ++ r) = 0 ∧ tokT x ≠ [] := by
  obtain ⟨k, s⟩ := x
  unfold rightK at hx
  simp only at hx
  by_cases h1 : k = 1
  · subst h1
    simp only [if_true, Bool.or_eq_true, decide_eq_true_eq] at hx
    simp only [tokT, show ¬ ((1 : Int) = 5) by decide, if_false]
    rcases hx with rfl | hx
    · refine ⟨?_, ?_, by simp [dotsT]⟩
      · simp [dotsT, oneT, threeT, List.isPrefixOf]
      · simp [dotsT, gapN, bomT, List.isPrefixOf]
    · cases s with
      | nil => cases hx
      | cons c t =>
        cases t with
        | cons d t => cases hx
        | nil =>
          have h1 := mark_not c
          have hm : markB c = true := hx
          simp only [hm, Bool.not_true, Bool.false_or, Bool.and_eq_true, Bool.not_eq_true', decide_eq_false_iff_not, decide_eq_true_eq] at h1
          obtain ⟨a1, a2, a3, a4, a5, a6, _⟩ := h1
          simp only [markB, decide_eq_true_eq] at hm
          refine ⟨?_, ?_, by simp⟩
          · simp only [List.cons_append, List.nil_append, oneT]
            rw [three_not a1, dots_not a2, if_neg a1, if_pos hm]; simp
          · exact gap_not a6 r
  rw [if_neg h1] at hx
  by_cases h2 : k = 2
  · subst h2
    simp only [if_true] at hx
    simp only [tokT, show ¬ ((2 : Int) = 5) by decide, if_false]
    cases s with
    | nil => simp [nameM, nameG] at hx
    | cons c t =>
      obtain ⟨g1, g2⟩ := name_head hx
      have hw : wordN (c :: t ++ r) = (c :: t).length := by rw [wordN_app (c :: t) hr]; unfold wordN; rw [takeW_all _ g2]
      refine ⟨?_, gap_letter g1 _, by simp⟩
      rw [List.cons_append, oneT_letter g1, ← List.cons_append, hw, List.take_left, List.drop_left]
  rw [if_neg h2] at hx
  by_cases h3 : k = 3 ∨ k = 4
  · rw [if_pos h3] at hx
    simp only [decide_eq_true_eq] at hx
    have hk5 : ¬ (k = 5) := by omega
    simp only [tokT, hk5, if_false]
    unfold numK at hx
    split at hx
    case isFalse => omega
    rename_i hl
    cases s with
    | nil =>
      have : numN [] = (0, 0) := rfl
      rw [this] at hx; simp only at hx; omega
    | cons c t =>
      have hn0 : (numN (c :: t)).1 ≠ 0 := by rw [hl]; simp
      have hw := num_whole hn0
      have hd := whole_headB hw
      refine ⟨?_, gap_number hd _, by simp⟩
      rw [List.cons_append, oneT_number hd, ← List.cons_append, numN_app hr, if_neg hn0, hl, List.drop_left, end_head hr, List.take_left, hx]; simp
  rw [if_neg h3] at hx
  by_cases h5 : k = 5
  · subst h5
    simp only [if_true] at hx
    simp only [tokT, if_true, tquo, List.cons_append, List.append_assoc, List.nil_append]
    refine ⟨?_, by simp [gapN, bomT, List.isPrefixOf], by simp⟩
    simp only [oneT]
    rw [three_quo s r hx hr]
    simp only [Bool.false_eq_true, if_false, if_true]
    rw [quoM_tquo s r hx]; rfl
  · rw [if_neg h5] at hx; cases hx
theorem tjoin_cons (x y : Tok) (L : List Tok) : tjoin (x :: y :: L) = tokT x ++ 32 :: tjoin (y :: L) := by simp [tjoin, Lib.join]
theorem tjoin_one (x : Tok) : tjoin [x] = tokT x := by simp [tjoin, Lib.join]
theorem readG_join : ∀ (L : List Tok), L.all rightK = true → ∀ (n : Nat) (l : List Tok), (tjoin L).length < n → readG n l (tjoin L) = .ok (l ++ L)
  | [], _, n, l, hn => by
    cases n with
    | zero => omega
    | succ n => simp [tjoin, Lib.join, readG]
  | [x], h, n, l, hn => by
    simp only [List.all_cons, List.all_nil, Bool.and_true] at h
    obtain ⟨g1, g2, g3⟩ := oneT_tok x h (r := []) (.inl rfl)
    rw [List.append_nil] at g1 g2
    rw [tjoin_one] at hn ⊢
    have hl : 0 < (tokT x).length := List.length_pos_iff.2 g3
    obtain ⟨m, rfl⟩ : ∃ m, n = m + 2 := ⟨n - 2, by omega⟩
    rw [readG, if_neg g3, if_neg (by rw [g2]; simp), g1]
    simp [readG]
  | x :: y :: L, h, n, l, hn => by
    have h' := h
    rw [List.all_cons, Bool.and_eq_true] at h'
    obtain ⟨g1, g2, g3⟩ := oneT_tok x h'.1 (r := 32 :: tjoin (y :: L)) (.inr ⟨32, _, rfl, .inl rfl⟩)
    rw [tjoin_cons] at hn ⊢
    have hl : 0 < (tokT x).length := List.length_pos_iff.2 g3
    simp only [List.length_append, List.length_cons] at hn
    obtain ⟨m, rfl⟩ : ∃ m, n = m + 2 := ⟨n - 2, by omega⟩
    rw [readG, if_neg (by simp [g3]), if_neg (by rw [g2]; simp), g1]
    simp only
    rw [readG, if_neg (by simp), if_pos (by simp [gapN])]
    have e1 : (32 :: tjoin (y :: L)).drop (gapN (32 :: tjoin (y :: L))) = tjoin (y :: L) := by simp [gapN]
    rw [e1, readG_join (y :: L) h'.2 m (l ++ [x]) (by omega)]
    simp
theorem srcG_fuel : ∀ (n m : Nat) (l : List UInt8), l.length ≤ n → l.length ≤ m → srcG n l = srcG m l
  | 0, m, l, h, _ => by
    obtain rfl : l = [] := List.length_eq_zero_iff.1 (by omega)
    cases m <;> simp [srcG]
  | n + 1, 0, l, _, h => by
    obtain rfl : l = [] := List.length_eq_zero_iff.1 (by omega)
    simp [srcG]
  | n + 1, m + 1, l, h1, h2 => by
    simp only [srcG]
    split
    · rfl
    · by_cases hp : 0 < (codeN l).2
      · rw [srcG_fuel n m (l.drop (codeN l).2) (by simp; omega) (by simp; omega)]
      · simp [hp]
theorem srcB_step {l : List UInt8} (hne : l ≠ []) : srcB l = (decide (0 < (codeN l).2) && (signB (codeN l).1 && srcB (l.drop (codeN l).2))) := by
  unfold srcB
  have hl : 0 < l.length := List.length_pos_iff.2 hne
  obtain ⟨m, hm⟩ : ∃ m, l.length = m + 1 := ⟨l.length - 1, by omega⟩
  rw [hm, srcG, if_neg hne]
  by_cases hp : 0 < (codeN l).2
  · rw [srcG_fuel m (l.drop (codeN l).2).length (l.drop (codeN l).2) (by simp; omega) (Nat.le_refl _)]
  · simp [hp]
theorem srcB_nil : srcB [] = true := rfl
def SrcA (a : List UInt8) : Prop := ∀ t, srcB t = true → srcB (a ++ t) = true
theorem SrcA.nil : SrcA [] := fun t h => h
theorem SrcA.app {a b : List UInt8} (ha : SrcA a) (hb : SrcA b) : SrcA (a ++ b) := fun t h => by rw [List.append_assoc]; exact ha _ (hb _ h)
theorem SrcA.here {a : List UInt8} (ha : SrcA a) : srcB a = true := by have := ha [] srcB_nil; simpa using this
theorem SrcA.ascii {b : UInt8} (h : b.toNat < 128) (hs : signB b.toNat = true) : SrcA [b] := fun t ht => by
  rw [srcB_step (by simp)]
  simp only [List.singleton_append, codeN_ascii b t h, hs, List.drop_succ_cons, List.drop_zero, ht]
  rfl
theorem SrcA.asciis : ∀ s : List UInt8, (∀ b ∈ s, 32 ≤ b.toNat ∧ b.toNat < 128) → SrcA s
  | [], _ => .nil
  | b :: s, h => by
    have h1 := h b (.head _)
    exact SrcA.app (a := [b]) (.ascii h1.2 (by simp [signB]; omega)) (SrcA.asciis s fun c hc => h c (.tail _ hc))
theorem SrcA.code {l : List UInt8} (hne : l ≠ []) (h : (codeN l).2 ≠ 0) (hk : (codeN l).2 ≤ l.length) (hs : signB (codeN l).1 = true) : SrcA (l.take (codeN l).2) := fun t ht => by
  have hp := codeN_pref hne h t
  have hl : (l.take (codeN l).2).length = (codeN l).2 := by simp; omega
  rw [srcB_step (by intro e; have := congrArg List.length e; rw [List.length_append, hl] at this; simp at this; omega), hp, hs]
  rw [List.drop_left' hl, ht]
  simp; omega
theorem hexL_ascii (n : Nat) : 32 ≤ (hexL.getD (n % 16) 0).toNat ∧ (hexL.getD (n % 16) 0).toNat < 128 := by
  have : ∀ x : Fin 16, 32 ≤ (hexL.getD x.val 0).toNat ∧ (hexL.getD x.val 0).toNat < 128 := by decide +kernel
  exact this ⟨n % 16, Nat.mod_lt _ (by decide)⟩
theorem SrcA.unit (u : Nat) : SrcA (unitT u) := SrcA.asciis _ fun b hb => by
  simp only [unitT, List.mem_cons, List.not_mem_nil, or_false] at hb
  rcases hb with rfl | rfl | rfl | rfl | rfl | rfl
  · decide
  · decide
  all_goals exact hexL_ascii _
theorem SrcA.quo : ∀ (n : Nat) (l : List UInt8), l.length ≤ n → validD l = true → SrcA (tquoG n l)
  | 0, l, _, _ => .nil
  | n + 1, l, hn, hv => by
    rw [tquoG]
    by_cases hne : l = []
    · subst hne; exact .nil
    · rw [if_neg hne]
      obtain ⟨hd, hv2⟩ := code_ok hne hv
      have hpos := hd.pos
      refine SrcA.app ?_ (SrcA.quo n _ (by simp; omega) hv2)
      unfold pieceT
      by_cases h1 : (codeN l).1 = 34 ∨ (codeN l).1 = 92
      · rw [if_pos h1]
        refine SrcA.asciis _ fun b hb => ?_
        simp only [List.mem_cons, List.not_mem_nil, or_false] at hb
        rcases hb with rfl | rfl
        · decide
        · rcases h1 with h1 | h1 <;> rw [h1] <;> decide
      rw [if_neg h1]
      by_cases h2 : (codeN l).1 = 10
      · rw [if_pos h2]
        exact SrcA.asciis _ fun b hb => by
          simp only [List.mem_cons, List.not_mem_nil, or_false] at hb
          rcases hb with rfl | rfl <;> decide
      rw [if_neg h2]
      by_cases h3 : (codeN l).1 < 32
      · rw [if_pos h3]; exact .unit _
      rw [if_neg h3]
      by_cases h4 : 65536 ≤ (codeN l).1
      · rw [if_pos h4]; exact SrcA.app (.unit _) (.unit _)
      · rw [if_neg h4]
        exact SrcA.code hne (by omega) hd.len (by simp [signB]; omega)
theorem nch_ascii (c : UInt8) : nch c = true → 32 ≤ c.toNat ∧ c.toNat < 128 := u8_all (P := fun c => nch c = true → 32 ≤ c.toNat ∧ c.toNat < 128) (by decide +kernel) c
theorem num_ascii {s : List UInt8} (h : numK s ≠ 0) : ∀ b ∈ s, 32 ≤ b.toNat ∧ b.toNat < 128 := fun b hb => nch_ascii b ((num_text h).1 b hb)
theorem SrcA.tok (x : Tok) (hx : rightK x = true) : SrcA (tokT x) := by
  obtain ⟨k, s⟩ := x
  unfold rightK at hx
  simp only at hx
  by_cases h1 : k = 1
  · subst h1
    simp only [if_true, Bool.or_eq_true, decide_eq_true_eq] at hx
    simp only [tokT, show ¬ ((1 : Int) = 5) by decide, if_false]
    rcases hx with rfl | hx
    · exact SrcA.asciis _ (by decide)
    · cases s with
      | nil => cases hx
      | cons c t =>
        cases t with
        | cons d t => cases hx
        | nil =>
          have h1 := mark_not c
          have hm : markB c = true := hx
          simp only [hm, Bool.not_true, Bool.false_or, Bool.and_eq_true, Bool.not_eq_true', decide_eq_false_iff_not, decide_eq_true_eq] at h1
          exact SrcA.asciis _ fun b hb => by simp only [List.mem_singleton] at hb; subst hb; exact h1.2.2.2.2.2.2
  rw [if_neg h1] at hx
  by_cases h2 : k = 2
  · subst h2
    simp only [if_true] at hx
    simp only [tokT, show ¬ ((2 : Int) = 5) by decide, if_false]
    simp only [nameM, Bool.and_eq_true] at hx
    have := nameG_all _ _ hx.1
    refine SrcA.asciis _ fun b hb => ?_
    have hb2 := this b hb
    simp only [Bool.or_eq_true] at hb2
    simp only [isL, isD, Bool.or_eq_true, Bool.and_eq_true, decide_eq_true_eq] at hb2
    omega
  rw [if_neg h2] at hx
  by_cases h3 : k = 3 ∨ k = 4
  · rw [if_pos h3] at hx
    have hk5 : ¬ (k = 5) := by omega
    simp only [tokT, hk5, if_false]
    simp only [decide_eq_true_eq] at hx
    exact SrcA.asciis _ (num_ascii (by omega))
  rw [if_neg h3] at hx
  by_cases h5 : k = 5
  · subst h5
    simp only [if_true] at hx
    simp only [tokT, if_true, tquo]
    have h34 : SrcA [34] := SrcA.asciis _ (by decide)
    exact SrcA.app (a := [34]) h34 (SrcA.app (SrcA.quo _ _ (Nat.le_refl _) hx) h34)
  · rw [if_neg h5] at hx; cases hx
theorem SrcA.join : ∀ L : List Tok, L.all rightK = true → SrcA (tjoin L)
  | [], _ => .nil
  | [x], h => by rw [tjoin_one]; exact .tok x (by simpa using h)
  | x :: y :: L, h => by
    rw [List.all_cons, Bool.and_eq_true] at h
    rw [tjoin_cons]
    exact SrcA.app (.tok x h.1) (SrcA.app (a := [32]) (SrcA.asciis _ (by decide)) (SrcA.join (y :: L) h.2))
theorem readT_join (L : List Tok) (h : L.all rightK = true) (hl : (tjoin L).length ≤ 8192) : readT (tjoin L) = .ok L := by
  unfold readT
  rw [if_neg (by omega), (SrcA.join L h).here, if_pos rfl, readG_join L h _ _ (by omega)]
  simp
end Go.Proofs.YticbbfbpeimkbaaGreatDoor
namespace Go.Proofs.YticbbfbpeimkbaaGreatDoor
open Go.Ab Go.Lib
theorem pre_app : ∀ (p s t : List UInt8), (∀ x ∈ p, x ≠ 10) → p.isPrefixOf (s ++ 10 :: t) = p.isPrefixOf s
  | [], s, t, _ => by cases s <;> simp
  | x :: p, [], t, h => by
    have h1 := h x (.head _)
    simp [List.isPrefixOf, h1]
  | x :: p, c :: s, t, h => by
    simp only [List.cons_append, List.isPrefixOf]
    rw [pre_app p s t fun y hy => h y (.tail _ hy)]
theorem pre_len : ∀ (p s : List UInt8), p.isPrefixOf s = true → p.length ≤ s.length
  | [], s, _ => Nat.zero_le _
  | x :: p, [], h => by simp [List.isPrefixOf] at h
  | x :: p, c :: s, h => by
    simp only [List.isPrefixOf, Bool.and_eq_true] at h
    have := pre_len p s h.2
    simp only [List.length_cons]; omega
theorem end10 (t : List UInt8) : EndT (10 :: t) := .inr ⟨10, t, rfl, .inr rfl⟩
theorem rawM_app : ∀ (n : Nat) (raw s : List UInt8) (b s' : List UInt8), rawM n raw s = some (b, s') → s'.length < s.length ∧ ∀ (m : Nat) (t : List UInt8), n ≤ m → rawM m raw (s ++ 10 :: t) = some (b, s' ++ 10 :: t)
  | 0, _, _, _, _, h => by cases h
  | n + 1, raw, [], _, _, h => by simp [rawM] at h
  | n + 1, raw, c :: r, b, s', h => by
    simp only [rawM] at h
    by_cases h1 : threeT.isPrefixOf (c :: r) = true
    · rw [if_pos h1] at h
      have hl := pre_len _ _ h1
      simp only [threeT, List.length_cons, List.length_nil] at hl
      simp only [Option.some.injEq, Prod.mk.injEq] at h
      obtain ⟨rfl, rfl⟩ := h
      refine ⟨by simp; omega, fun m t hm => ?_⟩
      obtain ⟨k, rfl⟩ : ∃ k, m = k + 1 := ⟨m - 1, by omega⟩
      have e := pre_app threeT (c :: r) t (by decide)
      rw [List.cons_append] at e
      simp only [rawM, List.cons_append]
      rw [e, if_pos h1, List.drop_append_of_le_length (by omega)]
    · rw [if_neg h1] at h
      by_cases h2 : escT.isPrefixOf (c :: r) = true
      · rw [if_pos h2] at h
        have hl := pre_len _ _ h2
        simp only [escT, List.length_cons, List.length_nil] at hl
        obtain ⟨g1, g2⟩ := rawM_app n _ _ _ _ h
        refine ⟨by simp at g1 ⊢; omega, fun m t hm => ?_⟩
        obtain ⟨k, rfl⟩ : ∃ k, m = k + 1 := ⟨m - 1, by omega⟩
        have e := pre_app threeT (c :: r) t (by decide)
        have e2 := pre_app escT (c :: r) t (by decide)
        rw [List.cons_append] at e e2
        simp only [rawM, List.cons_append]
        rw [e, if_neg h1, e2, if_pos h2, List.drop_append_of_le_length (by omega)]
        exact g2 k t (by omega)
      · rw [if_neg h2] at h
        obtain ⟨g1, g2⟩ := rawM_app n _ _ _ _ h
        refine ⟨by simp; omega, fun m t hm => ?_⟩
        obtain ⟨k, rfl⟩ : ∃ k, m = k + 1 := ⟨m - 1, by omega⟩
        have e := pre_app threeT (c :: r) t (by decide)
        have e2 := pre_app escT (c :: r) t (by decide)
        rw [List.cons_append] at e e2
        simp only [rawM, List.cons_append]
        rw [e, if_neg h1, e2, if_neg h2]
        exact g2 k t (by omega)
theorem unitG_app : ∀ (n : Nat) (s : List UInt8) (u v : Nat) (t : List UInt8), unitG n s u = some v → n ≤ s.length ∧ unitG n (s ++ t) u = some v
  | 0, s, u, v, t, h => by
    simp only [unitG] at h ⊢
    exact ⟨Nat.zero_le _, h⟩
  | n + 1, [], u, v, t, h => by simp [unitG] at h
  | n + 1, c :: s, u, v, t, h => by
    simp only [unitG, List.cons_append] at h ⊢
    cases hx : hexD c with
    | none => rw [hx] at h; cases h
    | some k =>
      rw [hx] at h
      simp only at h ⊢
      have := unitG_app n s _ v t h
      exact ⟨by simp; omega, this.2⟩
theorem escM_app {q q' : Sd} {s s' : List UInt8} (t : List UInt8) (h : escM q s = some (q', s')) : escM q (s ++ t) = some (q', s' ++ t) := by
  cases s with
  | nil => cases h
  | cons c r =>
    simp only [escM, List.cons_append] at h ⊢
    by_cases h1 : c = 117
    · rw [if_pos h1] at h ⊢
      cases hu : unitM r with
      | none => rw [hu] at h; cases h
      | some u =>
        obtain ⟨g1, g2⟩ := unitG_app 4 r 0 u t hu
        rw [hu] at h
        simp only [Option.map_some, Option.some.injEq, Prod.mk.injEq] at h
        obtain ⟨rfl, rfl⟩ := h
        rw [unitM, g2]
        simp only [Option.map_some, Option.some.injEq, Prod.mk.injEq, true_and]
        exact List.drop_append_of_le_length g1
    · rw [if_neg h1] at h ⊢
      split at h
      · cases h
      · rename_i h2
        rw [if_neg h2]
        simp only [Option.some.injEq, Prod.mk.injEq] at h ⊢
        obtain ⟨rfl, rfl⟩ := h
        exact ⟨rfl, rfl⟩
theorem quoG_app {may : UInt8 → Bool} (t : List UInt8) : ∀ (n : Nat) (s : List UInt8) (q q' : Sd) (s' : List UInt8), quoG may n s q = some (q', s') → ∀ m, n ≤ m → quoG may m (s ++ t) q = some (q', s' ++ t)
  | 0, _, _, _, _, h => by cases h
  | n + 1, [], _, _, _, h => by cases h
  | n + 1, c :: s, q, q', s', h => fun m hm => by
    obtain ⟨k, rfl⟩ : ∃ k, m = k + 1 := ⟨m - 1, by omega⟩
    simp only [quoG, List.cons_append] at h ⊢
    by_cases h1 : c = 34
    · rw [if_pos h1] at h ⊢
      simp only [Option.some.injEq, Prod.mk.injEq] at h ⊢
      exact ⟨h.1, by rw [h.2]⟩
    rw [if_neg h1] at h ⊢
    by_cases h2 : c = 92
    · rw [if_pos h2] at h ⊢
      cases he : escM q s with
      | none => rw [he] at h; cases h
      | some x =>
        rw [he] at h
        rw [escM_app t (q' := x.1) (s' := x.2) he]
        exact quoG_app t n _ _ _ _ h k (by omega)
    rw [if_neg h2] at h ⊢
    split at h
    · rename_i h3
      rw [if_pos h3]
      exact quoG_app t n _ _ _ _ h k (by omega)
    · cases h
theorem quoM_app {may : UInt8 → Bool} {s s' b : List UInt8} (t : List UInt8) (h : quoM may s = some (b, s')) : quoM may (s ++ t) = some (b, s' ++ t) := by
  unfold quoM at h ⊢
  cases hq : quoG may (s.length + 1) s ⟨[], [], true⟩ with
  | none => rw [hq] at h; cases h
  | some x =>
    rw [hq] at h
    rw [quoG_app t _ _ _ x.1 x.2 hq _ (by simp)]
    simp only at h ⊢
    split at h
    · rename_i h1
      simp only [Option.some.injEq, Prod.mk.injEq] at h
      rw [if_pos h1]
      simp [h.1, h.2]
    · cases h
theorem wordN_le (s : List UInt8) : wordN s ≤ s.length := by unfold wordN; exact (List.takeWhile_sublist _).length_le
theorem numN_le1 (s : List UInt8) : (numN s).1 ≤ s.length := by
  unfold numN
  split
  · simp
  · have h1 := wholeN_le s
    have h2 := fracN_le (s.drop (wholeN s))
    have h3 := powN_le (s.drop (wholeN s + fracN (s.drop (wholeN s))))
    simp only [List.length_drop] at h2 h3
    simp only; omega
theorem oneT_app {s s' : List UInt8} {x : Tok} (h : oneT s = some (x, s')) (t : List UInt8) : s'.length < s.length ∧ oneT (s ++ 10 :: t) = some (x, s' ++ 10 :: t) := by
  cases s with
  | nil => cases h
  | cons c r =>
    have e3 := pre_app threeT (c :: r) t (by decide)
    have ed := pre_app dotsT (c :: r) t (by decide)
    rw [List.cons_append] at e3 ed
    have hw := wordN_app (c :: r) (end10 t)
    have hn := numN_app (a := c :: r) (end10 t)
    simp only [oneT] at h
    simp only [oneT, List.cons_append]
    rw [e3, ed]
    by_cases h1 : threeT.isPrefixOf (c :: r) = true
    · rw [if_pos h1] at h ⊢
      have hl := pre_len _ _ h1
      simp only [threeT, List.length_cons, List.length_nil] at hl
      cases hr : rawM (r.length + 1) [] (r.drop 2) with
      | none => rw [hr] at h; cases h
      | some y =>
        rw [hr] at h
        simp only [Option.map_some, Option.some.injEq, Prod.mk.injEq] at h
        obtain ⟨rfl, rfl⟩ := h
        obtain ⟨g1, g2⟩ := rawM_app _ _ _ y.1 y.2 hr
        simp only [List.length_drop] at g1
        rw [List.drop_append_of_le_length (by omega), g2 _ t (by simp)]
        exact ⟨by simp only [List.length_cons]; omega, rfl⟩
    rw [if_neg h1] at h ⊢
    by_cases h2 : c = 34
    · rw [if_pos h2] at h ⊢
      cases hr : quoM lineB r with
      | none => rw [hr] at h; cases h
      | some y =>
        rw [hr] at h
        simp only [Option.map_some, Option.some.injEq, Prod.mk.injEq] at h
        obtain ⟨rfl, rfl⟩ := h
        have g1 := quoM_suf (t' := y.2) (b := y.1) hr
        rw [quoM_app (10 :: t) (b := y.1) (s' := y.2) hr]
        exact ⟨by simp only [List.length_cons]; omega, rfl⟩
    rw [if_neg h2] at h ⊢
    by_cases h3 : dotsT.isPrefixOf (c :: r) = true
    · rw [if_pos h3] at h ⊢
      have hl := pre_len _ _ h3
      simp only [dotsT, List.length_cons, List.length_nil] at hl
      simp only [Option.some.injEq, Prod.mk.injEq] at h ⊢
      obtain ⟨rfl, rfl⟩ := h
      exact ⟨by simp; omega, rfl, List.drop_append_of_le_length (by omega)⟩
    rw [if_neg h3] at h ⊢
    by_cases h4 : 0 ≤ Lib.indexByte marksT c
    · rw [if_pos h4] at h ⊢
      simp only [Option.some.injEq, Prod.mk.injEq] at h ⊢
      obtain ⟨rfl, rfl⟩ := h
      exact ⟨by simp, rfl, rfl⟩
    rw [if_neg h4] at h ⊢
    by_cases h5 : isL c = true
    · rw [if_pos h5] at h ⊢
      have hl := wordN_le (c :: r)
      have hp : 0 < wordN (c :: r) := by unfold wordN; simp [h5]
      simp only [Option.some.injEq, Prod.mk.injEq] at h ⊢
      obtain ⟨rfl, rfl⟩ := h
      rw [← List.cons_append, hw, List.take_append_of_le_length hl, List.drop_append_of_le_length hl]
      exact ⟨by rw [List.length_drop]; simp only [List.length_cons] at hl ⊢; omega, rfl, rfl⟩
    rw [if_neg h5] at h ⊢
    rw [← List.cons_append, hn]
    by_cases h6 : (numN (c :: r)).1 = 0
    · rw [if_pos h6] at h; cases h
    rw [if_neg h6] at h ⊢
    have hl := numN_le1 (c :: r)
    rw [List.take_append_of_le_length hl, List.drop_append_of_le_length hl]
    have hh : (((c :: r).drop (numN (c :: r)).1 ++ 10 :: t).head?.any fun d => isL d || isD d || decide (d = 46)) = (((c :: r).drop (numN (c :: r)).1).head?.any fun d => isL d || isD d || decide (d = 46)) := by
      cases (c :: r).drop (numN (c :: r)).1 with
      | nil => simp [isL, isD]
      | cons d t => rfl
    rw [hh]
    split at h
    · cases h
    · rename_i h7
      rw [if_neg h7]
      simp only [Option.some.injEq, Prod.mk.injEq] at h ⊢
      obtain ⟨rfl, rfl⟩ := h
      exact ⟨by rw [List.length_drop]; simp only [List.length_cons] at hl ⊢; omega, rfl, rfl⟩
theorem gapN_le (s : List UInt8) : gapN s ≤ s.length := by
  cases s with
  | nil => simp [gapN]
  | cons c r =>
    simp only [gapN]
    split
    · simp
    · split
      · rename_i h; have := pre_len _ _ h; simpa [bomT] using this
      · split
        · have := (List.takeWhile_sublist notEol (l := r)).length_le; simp only [List.length_cons]; omega
        · simp
theorem oneT_lt {s s' : List UInt8} {x : Tok} (h : oneT s = some (x, s')) : s'.length < s.length := (oneT_app h []).1
theorem readG_fuel : ∀ (n m : Nat) (l : List Tok) (s : List UInt8), s.length < n → s.length < m → readG n l s = readG m l s
  | 0, _, _, _, h, _ => by omega
  | _, 0, _, _, _, h => by omega
  | n + 1, m + 1, l, s, h1, h2 => by
    simp only [readG]
    split
    · rfl
    · rename_i hne
      split
      · rename_i hg
        have hl : 0 < s.length := List.length_pos_iff.2 hne
        exact readG_fuel n m _ _ (by rw [List.length_drop]; omega) (by rw [List.length_drop]; omega)
      · cases ho : oneT s with
        | none => rfl
        | some x =>
          have := oneT_lt (x := x.1) (s' := x.2) ho
          exact readG_fuel n m _ _ (by omega) (by omega)
end Go.Proofs.YticbbfbpeimkbaaGreatDoor
namespace Go.Proofs.YticbbfbpeimkbaaGreatDoor
open Go.Ab Go.Lib
theorem indG_le : ∀ (L : List (List UInt8)) (a : Int), (0 ≤ a → indG L a ≤ a ∧ 0 ≤ indG L a) ∧ (∀ s ∈ L, bareL s = false → indG L a ≤ leadN s ∧ 0 ≤ indG L a)
  | [], a => ⟨fun h => ⟨Int.le_refl _, h⟩, fun s hs => nomatch hs⟩
  | s :: r, a => by
    simp only [indG]
    have ih := indG_le r
    by_cases hb : bareL s = true
    · rw [if_pos hb]
      refine ⟨(ih a).1, fun x hx hxb => ?_⟩
      rcases List.mem_cons.1 hx with rfl | hx
      · rw [hb] at hxb; cases hxb
      · exact (ih a).2 x hx hxb
    · rw [if_neg hb]
      by_cases hc : a < 0 ∨ (leadN s : Int) < a
      · rw [if_pos hc]
        have h1 := (ih (leadN s)).1 (by omega)
        refine ⟨fun h => ⟨by omega, h1.2⟩, fun x hx hxb => ?_⟩
        rcases List.mem_cons.1 hx with rfl | hx
        · exact h1
        · exact (ih _).2 x hx hxb
      · rw [if_neg hc]
        have h1 := (ih a).1 (by omega)
        refine ⟨fun _ => h1, fun x hx hxb => ?_⟩
        rcases List.mem_cons.1 hx with rfl | hx
        · exact ⟨by omega, h1.2⟩
        · exact (ih _).2 x hx hxb
theorem bare_lead {s : List UInt8} (h : bareL s = true) : leadN s = s.length := by
  unfold bareL at h
  unfold leadN
  rw [takeW_all s (List.all_eq_true.1 h)]
end Go.Proofs.YticbbfbpeimkbaaGreatDoor
namespace Go.Proofs.YticbbfbpeimkbaaGreatDoor
open Go.Ab
structure DirD where
  nm : List UInt8
  args : List Mem
inductive SelD where
  | mk (k : Int) (al nm : List UInt8) (args : List Mem) (dirs : List DirD) (on : List UInt8) (sels : List SelD)
mutual
theorem SelD.ind {P : SelD → Prop} (h : ∀ k al nm args dirs on sels, (∀ v ∈ sels, P v) → P (.mk k al nm args dirs on sels)) : ∀ v, P v
  | .mk k al nm args dirs on sels => h k al nm args dirs on sels (SelD.indL h sels)
theorem SelD.indL {P : SelD → Prop} (h : ∀ k al nm args dirs on sels, (∀ v ∈ sels, P v) → P (.mk k al nm args dirs on sels)) : ∀ l : List SelD, ∀ v ∈ l, P v
  | [], _, hv => by cases hv
  | x :: r, v, hv => (List.mem_cons.1 hv).elim (fun e => e ▸ SelD.ind h x) (SelD.indL h r v)
end
end Go.Proofs.YticbbfbpeimkbaaGreatDoor
namespace Go.Proofs.YticbbfbpeimkbaaGreatDoor
open Go.Ab
def wk (s : List UInt8) : Tok := ⟨2, s⟩
end Go.Proofs.YticbbfbpeimkbaaGreatDoor
namespace Go.Proofs.YticbbfbpeimkbaaGreatDoor
open Go.Ab
abbrev TS := List Tok
abbrev PR (α : Type) := Except Int (α × TS)
def wK (t : Tok) : Nat := t.s.length + 4
def wT (l : TS) : Nat := (l.map wK).sum
theorem wT_cons (x : Tok) (l : TS) : wT (x :: l) = wK x + wT l := by simp [wT]
structure Fp {α : Type} (b : α → Nat) (ok : α → Prop) (c : Nat) (t : TS) (a : α) (t' : TS) : Prop where
  suf : t' <:+ t
  w : b a + c + wT t' ≤ wT t
  ok : ok a
def GP {α : Type} (b : α → Nat) (ok : α → Prop) (c : Nat) (f : TS → PR α) : Prop := ∀ t a t', f t = .ok (a, t') → Fp b ok c t a t'
theorem Fp.lt {α : Type} {b : α → Nat} {ok : α → Prop} {c : Nat} {t t' : TS} {a : α} (h : Fp b ok c t a t') (hc : 0 < c) : t'.length < t.length := by
  obtain ⟨p, hp⟩ := h.suf
  have h2 := h.w
  cases p with
  | nil => simp at hp; subst hp; omega
  | cons x p => rw [← hp]; simp; omega
def b0 {α : Type} (_ : α) : Nat := 0
theorem GP.lt {α : Type} {b : α → Nat} {ok : α → Prop} {c : Nat} {f : TS → PR α} (h : GP b ok c f) (hc : 0 < c) : ∀ t a t', f t = .ok (a, t') → t'.length < t.length := fun t a t' e => (h t a t' e).lt hc
end Go.Proofs.YticbbfbpeimkbaaGreatDoor
namespace Go.Proofs.YticbbfbpeimkbaaGreatDoor
open Go.Ab Go.Lib
theorem isMark_ne {s : List UInt8} (h : s.length ≠ 1) : isMark s = false := by
  match s, h with
  | [], _ => rfl
  | [_], h => exact absurd rfl h
  | _ :: _ :: _, _ => rfl
theorem rightTC (t : Tok) (ht : t.s.length ≤ Lim) : Pure Tryz.prog 119 [.agg (cK t)] (.bool (rightK t)) := by
  refine Pure.go ir119 ck119 (Nat.le_refl _) fun KP Q hQ => ?_
  obtain ⟨k, s⟩ := t
  simp only at ht
  by_cases k1 : k = 1
  · subst k1
    by_cases hd : s = [46, 46, 46]
    · simp (disch := first | omega | assumption) only [ir119, cK, hd, go_sem, ↓reduceIte]
      exact hQ _ _ _ _ nofun rfl (by simp [tupOf, envOf, AV.strip, AV.strip1, rightK, hd, dotsT])
    by_cases hl : s.length = 1
    · obtain ⟨c, rfl⟩ := List.length_eq_one_iff.1 hl
      simp (disch := first | omega | assumption) only [ir119, cK, hd, go_sem, ↓reduceIte]
      have e : rightK ⟨1, [c]⟩ = decide (0 ≤ Lib.indexByte marksT c) := by simp [rightK, dotsT, isMark]
      refine goK_pure (containsC1 _ c) ?_
      simp (disch := first | omega | assumption) only [go_sem, ↓reduceIte]
      exact hQ _ _ _ [_] nofun rfl (by rw [e]; rfl)
    · have hl' : ¬ ((s.length : Int) = 1) := by omega
      simp (disch := first | omega | assumption) only [ir119, cK, hd, hl', go_sem, ↓reduceIte]
      exact hQ _ _ _ _ nofun rfl (by simp [tupOf, envOf, AV.strip, AV.strip1, rightK, hd, dotsT, isMark_ne hl])
  by_cases k2 : k = 2
  · subst k2
    simp (disch := first | omega | assumption) only [ir119, cK, go_sem, ↓reduceIte]
    refine goK_pure (nameC s ht) ?_
    simp (disch := first | omega | assumption) only [go_sem, ↓reduceIte]
    exact hQ _ _ _ _ nofun rfl (by simp [tupOf, envOf, AV.strip, AV.strip1, rightK])
  by_cases k3 : k = 3
  · subst k3
    simp (disch := first | omega | assumption) only [ir119, cK, go_sem, ↓reduceIte]
    refine goK_pure (NumberC s ht) ?_
    simp (disch := first | omega | assumption) only [go_sem, ↓reduceIte]
    exact hQ _ _ _ _ nofun rfl (by simp [tupOf, envOf, AV.strip, AV.strip1, rightK])
  by_cases k4 : k = 4
  · subst k4
    simp (disch := first | omega | assumption) only [ir119, cK, go_sem, ↓reduceIte]
    refine goK_pure (NumberC s ht) ?_
    simp (disch := first | omega | assumption) only [go_sem, ↓reduceIte]
    exact hQ _ _ _ _ nofun rfl (by simp [tupOf, envOf, AV.strip, AV.strip1, rightK])
  by_cases k5 : k = 5
  · subst k5
    simp (disch := first | omega | assumption) only [ir119, cK, go_sem, ↓reduceIte]
    refine goK_pure (goodC s ht) ?_
    simp (disch := first | omega | assumption) only [go_sem, ↓reduceIte]
    exact hQ _ _ _ _ nofun rfl (by simp [tupOf, envOf, AV.strip, AV.strip1, rightK])
  · simp (disch := first | omega | assumption) only [ir119, cK, k1, k2, k3, k4, k5, go_sem, ↓reduceIte]
    exact hQ _ _ _ _ nofun rfl (by simp [tupOf, envOf, AV.strip, AV.strip1, rightK, k1, k2, k3, k4, k5])
theorem join_le : ∀ l : List (List UInt8), (Lib.join l [32]).length ≤ (l.map fun s => s.length + 1).sum
  | [] => by simp [Lib.join_nil]
  | x :: r => by
    rw [Lib.join_length]
    have : ∀ l : List (List UInt8), lens l + l.length = (l.map fun s => s.length + 1).sum := fun l => by
      induction l with
      | nil => rfl
      | cons y l ih => simp only [lens, List.map_cons, List.sum_cons, List.length_cons] at ih ⊢; omega
    have h := this (x :: r)
    simp only [List.length_cons, List.length_nil] at h ⊢
    omega
theorem tjoin_le (l : List Tok) (h : l.all rightK = true) : (tjoin l).length ≤ 6 * wT l := by
  refine Nat.le_trans (join_le _) ?_
  induction l with
  | nil => simp [wT]
  | cons t l ih =>
    simp only [List.all_cons, Bool.and_eq_true] at h
    have h1 := tokT_len h.1
    have h2 := ih h.2
    rw [wT_cons]
    simp only [List.map_cons, List.sum_cons, wK] at h2 ⊢
    omega
theorem wT_mem {l : List Tok} {t : Tok} (h : t ∈ l) : t.s.length + 4 ≤ wT l := by
  induction l with
  | nil => cases h
  | cons y l ih =>
    rw [wT_cons]
    rcases List.mem_cons.1 h with rfl | h
    · unfold wK; omega
    · have := ih h; omega
theorem wT_len (l : List Tok) : 4 * l.length ≤ wT l := by
  induction l with
  | nil => simp
  | cons y l ih => rw [wT_cons]; simp only [List.length_cons, wK]; omega
theorem printTC (L : List Tok) (hb : 8 * wT L ≤ Lim) : Pure Tryz.prog 56 [.sl .no 2 (cKs L)] (.tup [.str (tprint L).1, .bool (tprint L).2]) := by
  refine Pure.go ir56 ck56 (Nat.le_refl _) fun KP Q hQ => ?_
  have hkl := cKs_len L
  have hwl := wT_len L
  simp only [Lim] at hb
  simp (disch := first | omega | assumption) only [ir56, hkl, go_sem, ↓reduceIte]
  refine goL_range L 9 (fun x : Own × List (List UInt8) => [(4, .sl x.1 1 (cT x.2))]) (fun done rest x H => x.2 = done.map tokT ∧ done.all rightK = true ∧ Owned H x.1 x.2.length 1) (.nil, []) (by simp (disch := first | omega | assumption) only [cT, go_sem, ↓reduceIte]) ⟨rfl, rfl, Owned.nil _ _⟩ ?_ ?_
  · rintro ⟨o, l⟩ H J ⟨hl, hr, ho⟩ hlt
    simp only at hl hr ho
    subst hl
    have hj := tjoin_le L hr
    have hcl := cT_len (L.map tokT)
    simp (disch := first | omega | assumption) only [hkl, hlt, go_sem, ↓reduceIte]
    refine goK_pure (Pure.low (joinStrC (L.map tokT) [32] (by show (tjoin L).length ≤ _; omega) (by simp; omega))) ?_
    simp (disch := first | omega | assumption) only [go_sem, ↓reduceIte]
    exact hQ _ _ _ _ nofun rfl (by simp [tupOf, envOf, AV.strip, AV.strip1, tprint, hr, tjoin])
  · rintro done x rest ⟨o, l⟩ H J hd hlt hlt2 ⟨hl, hr, ho⟩ hJ
    simp only at hl hr ho
    have hg := cKs_get hd
    have hmem : x ∈ L := by rw [hd]; simp
    have hx := wT_mem hmem
    have hlen : l.length = done.length := by rw [hl]; simp
    have hcl := cT_len l
    simp (disch := first | omega | assumption) only [hkl, hlt, hg, go_sem, ↓reduceIte]
    refine goA_intro fun b hb => ?_
    simp (disch := first | omega | assumption) only [go_sem, ↓reduceIte]
    refine goK_pure (rightTC x (by simp only [Lim]; omega)) ?_
    cases hrx : rightK x with
    | false =>
      have e : L.all rightK = false := by rw [hd]; simp [hrx]
      simp (disch := first | omega | assumption) only [go_sem, ↓reduceIte]
      exact hQ _ _ _ _ nofun rfl (by simp [tupOf, envOf, AV.strip, AV.strip1, tprint, e])
    | true =>
      by_cases k5 : x.k = 5
      · have hv : validD x.s = true := by unfold rightK at hrx; rw [k5] at hrx; simpa using hrx
        simp (disch := first | omega | assumption) only [k5, go_sem, ↓reduceIte]
        refine goK_pure (quoteTC x.s hv (by simp only [Lim]; omega)) ?_
        simp (disch := first | omega | assumption) only [go_sem, ↓reduceIte]
        refine goP_ownS (by rw [hcl]; exact ho.upd hb) (by simp only [hcl, List.length_cons, List.length_nil]; omega) (by simp only [hcl, List.length_cons, List.length_nil, maxLen]; omega) fun o3 H3 hs3 => ?_
        have et : tokT x = tquo x.s := by unfold tokT; rw [if_pos k5]
        simp (disch := first | omega | assumption) only [wrap64, go_sem, ↓reduceIte]
        exact goJ (hJ (o3, l ++ [tquo x.s]) H3 ⟨by rw [hl]; simp [et], by simp [hr, hrx], by simpa [hcl] using hs3.own⟩) (by simp (disch := first | omega | assumption) only [cT, List.map_append, go_sem, ↓reduceIte])
      · have et : tokT x = x.s := by unfold tokT; rw [if_neg k5]
        simp (disch := first | omega | assumption) only [k5, go_sem, ↓reduceIte]
        refine goP_ownS (by rw [hcl]; exact ho.upd hb) (by simp only [hcl, List.length_cons, List.length_nil]; omega) (by simp only [hcl, List.length_cons, List.length_nil, maxLen]; omega) fun o3 H3 hs3 => ?_
        simp (disch := first | omega | assumption) only [wrap64, go_sem, ↓reduceIte]
        exact goJ (hJ (o3, l ++ [x.s]) H3 ⟨by rw [hl]; simp [et], by simp [hr, hrx], by simpa [hcl] using hs3.own⟩) (by simp (disch := first | omega | assumption) only [cT, List.map_append, go_sem, ↓reduceIte])
end Go.Proofs.YticbbfbpeimkbaaGreatDoor
namespace Go.Proofs.YticbbfbpeimkbaaGreatDoor
open Go.Ab
structure WAt (H : Heap) (w : Nat) (o : Own) (l : List Tok) (ok : Bool) (dp : Int) : Prop where
  cell : H w = some (.cells [.sl o 2 (cKs l), .bool ok, .int .i64 dp])
  own : Owned H o l.length 2
structure WStep (H : Heap) (o : Own) (w : Nat) (H' : Heap) (o' : Own) : Prop where
  keep : ∀ c x, c ≠ w → (∀ d, o ≠ .tip c d) → H c = some x → H' c = some x
  new : ∀ b d, o' = .tip b d → H b = none ∨ ∃ d0, o = .tip b d0
theorem WStep.refl (H : Heap) (o : Own) (w : Nat) : WStep H o w H o := ⟨fun _ _ _ _ h => h, fun b d e => .inr ⟨d, e⟩⟩
theorem WStep.trans {H H1 H2 : Heap} {o o1 o2 : Own} {w : Nat} {x : AObj} (h : WStep H o w H1 o1) (hw : H1 w = some x) (h' : WStep H1 o1 w H2 o2) : WStep H o w H2 o2 := by
  refine ⟨fun c y hc hn hy => h'.keep c y hc (fun d e => ?_) (h.keep c y hc hn hy), fun b d e => ?_⟩
  · rcases h.new c d e with h1 | ⟨d0, h1⟩
    · rw [hy] at h1; cases h1
    · exact hn d0 h1
  · rcases h'.new b d e with h1 | ⟨d0, h1⟩
    · cases hb : H b with
      | none => exact .inl rfl
      | some y =>
        by_cases e2 : ∃ d, o = .tip b d
        · exact .inr e2
        · have hbw : b ≠ w := fun e3 => by subst e3; rw [hw] at h1; cases h1
          have := h.keep b y hbw (fun d e3 => e2 ⟨d, e3⟩) hb
          rw [h1] at this; cases this
    · exact h.new b d0 h1
theorem WStep.box {H H' : Heap} {o o' : Own} {w b n : Nat} {cs : List AV} (h : WStep H o w H' o') (ho : Owned H o n 2) (hb : H b = some (.cells cs)) (hw : b ≠ w) : H' b = some (.cells cs) :=
  h.keep b _ hw (fun d e => by subst e; exact own_ne ho hb rfl) hb
theorem WStep.upd {H H' : Heap} {o o' : Own} {w : Nat} {x : AObj} (h : WStep H o w H' o') : WStep H o w (H'.upd w x) o' :=
  ⟨fun c y hc hn hy => by rw [upd_ne hc]; exact h.keep c y hc hn hy, h.new⟩
theorem WStep.alloc {H H' : Heap} {o o' : Own} {w b : Nat} {x : AObj} (h : WStep H o w H' o') (hb : H' b = none) : WStep H o w (H'.upd b x) o' :=
  ⟨fun c y hc hn hy => by have := h.keep c y hc hn hy; rw [upd_ne (fun e => by subst e; rw [hb] at this; cases this)]; exact this, h.new⟩
theorem WAt.alloc {H : Heap} {w b : Nat} {o : Own} {l : List Tok} {ok : Bool} {dp : Int} {x : AObj} (h : WAt H w o l ok dp) (hb : H b = none) : WAt (H.upd b x) w o l ok dp :=
  ⟨by rw [upd_ne (fun e => by subst e; rw [h.cell] at hb; cases hb)]; exact h.cell, h.own.upd hb⟩
theorem WAt.put {H : Heap} {w : Nat} {o : Own} {l : List Tok} {ok ok' : Bool} {dp dp' : Int} (h : WAt H w o l ok dp) : WAt (H.upd w (.cells [.sl o 2 (cKs l), .bool ok', .int .i64 dp'])) w o l ok' dp' :=
  ⟨upd_same .., own_upd h.own h.cell⟩
theorem WAt.app {H H1 : Heap} {w : Nat} {o o1 : Own} {l ts : List Tok} {ok : Bool} {dp : Int} {n : Nat} (h : WAt H w o l ok dp) (hs : OwnS H o H1 o1 n 2) (hn : n = (l ++ ts).length) :
    H1 w = some (.cells [.sl o 2 (cKs l), .bool ok, .int .i64 dp]) ∧ WAt (H1.upd w (.cells [.sl o1 2 (cKs (l ++ ts)), .bool ok, .int .i64 dp])) w o1 (l ++ ts) ok dp ∧ WStep H o w (H1.upd w (.cells [.sl o1 2 (cKs (l ++ ts)), .bool ok, .int .i64 dp])) o1 := by
  subst hn
  have hc := own_keep h.own h.cell hs.kept
  exact ⟨hc, ⟨upd_same .., own_upd hs.own hc⟩, fun c y hcw hn hy => by rw [upd_ne hcw]; exact hs.kept c y hy hn, hs.new⟩
abbrev RetT (R : AV → Heap → Prop) : AEnd → Heap → Prop := fun e H' => ∃ v, e = .ret v ∧ R v H'
structure WR (H0 : Heap) (o0 : Own) (w : Nat) (l0 : List Tok) (ok0 : Bool) (dp : Int) (B : Nat) (r : Bool) (tk : List Tok) (H : Heap) (o : Own) (l : List Tok) : Prop where
  here : WAt H w o l (ok0 && r) dp
  st : WStep H0 o0 w H o
  len : l.length ≤ l0.length + B
  eq : (ok0 && r) = true → l = l0 ++ tk
theorem WR.refl {H : Heap} {o : Own} {w : Nat} {l : List Tok} {ok : Bool} {dp : Int} (h : WAt H w o l ok dp) : WR H o w l ok dp 0 true [] H o l :=
  ⟨by rw [Bool.and_true]; exact h, .refl _ _ _, Nat.le_refl _, fun _ => by simp⟩
theorem WR.alloc {H0 H : Heap} {o0 o : Own} {w b B : Nat} {l0 l tk : List Tok} {ok0 r : Bool} {dp : Int} {x : AObj} (h : WR H0 o0 w l0 ok0 dp B r tk H o l) (hb : H b = none) : WR H0 o0 w l0 ok0 dp B r tk (H.upd b x) o l :=
  ⟨h.here.alloc hb, h.st.alloc hb, h.len, h.eq⟩
section
variable {KP : AV → Heap → Prop} {Q : AExit → Env → Heap → Prop} {st : List Fr} {ρ : Env} {H : Heap} {all items : List AItem} {d : Option Nat} {R : List Chk}
end
end Go.Proofs.YticbbfbpeimkbaaGreatDoor
namespace Go.Proofs.YticbbfbpeimkbaaGreatDoor
open Go.Ab Go.Lib
def cStr (l : List (List UInt8)) : List AV := l.map AV.str
theorem cStr_len (l : List (List UInt8)) : (cStr l).length = l.length := by simp [cStr]
def MsT (H : Heap) (b cap : Nat) (l : List (List UInt8)) : Prop := ∃ tl, H b = some (.cells (cStr l ++ tl)) ∧ l.length + tl.length = cap
theorem madeA1 (z : AV) : ∀ n, (madeA [z] n).length = n
  | 0 => rfl
  | n + 1 => by simp [madeA, madeA1 z n]
section
variable {KP : AV → Heap → Prop} {Q : AExit → Env → Heap → Prop} {st : List Fr} {ρ : Env} {H : Heap} {all items : List AItem} {d : Option Nat} {R : List Chk}
theorem goPm_T {b cap : Nat} {l : List (List UInt8)} {x : List UInt8} {o2 : Own} (h : MsT H b cap l) (h1 : (l.length + 1) * 16 ≤ 140737488355328) (h2 : l.length + 1 ≤ maxLen)
    (k : ∀ b' cap' H', MsT H' b' cap' (l ++ [x]) → goR Tryz.prog KP Q all items st R (ρ.set d (.ms b' 0 (l.length + 1) cap')) H') :
    goPm Tryz.prog KP Q all items st d R ρ 1 16 [.str []] (.ms b 0 l.length cap) (.sl o2 1 [[.str x]]) H := by
  obtain ⟨tl, hb, hc⟩ := h
  refine goPm_ms hb rfl (by simpa using h1) (by simpa using h2) (fun hfit => ⟨?_, ?_⟩) (fun hnf => ⟨?_, fun b' cap' hb' hcap' hm' => ?_⟩)
  · have hfit : l.length + 1 ≤ cap := hfit
    simp [cStr_len]; omega
  · have hfit : l.length + 1 ≤ cap := hfit
    obtain ⟨t0, tl, rfl⟩ : ∃ t0 t1, tl = t0 :: t1 := by
      cases tl with
      | nil => simp at hc; omega
      | cons a b => exact ⟨a, b, rfl⟩
    refine k b cap _ ⟨tl, ?_, by simp at hc ⊢; omega⟩
    rw [upd_same]
    simp only [splice, List.flatten_cons, List.flatten_nil, List.append_nil, List.map_cons, List.map_nil, AV.strip1, List.length_cons, List.length_nil, Nat.zero_add, Nat.mul_one]
    rw [List.take_left' (cStr_len l), List.drop_append, List.drop_eq_nil_of_le (by rw [cStr_len]; omega), cStr_len, Nat.add_sub_cancel_left]
    simp [cStr]
  · simp [cStr_len]
  · refine k b' cap' _ ⟨madeA [.str []] (cap' - (l.length + 1)), ?_, ?_⟩
    · rw [upd_same]
      simp only [List.drop_zero, Nat.mul_one, List.flatten_cons, List.flatten_nil, List.append_nil, List.map_cons, List.map_nil, AV.strip1, List.length_cons, List.length_nil, Nat.zero_add]
      rw [List.take_left' (cStr_len l)]
      simp [cStr]
    · have hcap' : l.length + 1 ≤ cap' := hcap'
      rw [madeA1]; simp; omega
theorem goPm_T0 {x : List UInt8} {o2 : Own} (k : ∀ b' cap' H', MsT H' b' cap' [x] → goR Tryz.prog KP Q all items st R (ρ.set d (.ms b' 0 1 cap')) H') :
    goPm Tryz.prog KP Q all items st d R ρ 1 16 [.str []] (.sl .nil 1 []) (.sl o2 1 [[.str x]]) H := by
  refine goPm_nil rfl (by simp) (by simp [maxLen]) (fun h => by simp at h) fun _ b cap hb h1 h2 => ?_
  have h1 : 1 ≤ cap := h1
  refine k b cap _ ⟨madeA [.str []] (cap - 1), ?_, by rw [madeA1]; simp; omega⟩
  rw [upd_same]
  simp [cStr, AV.strip1]
end
theorem linesG_plain {cur r : List UInt8} {c : UInt8} (h : ¬ (c = 10 ∨ c = 13)) : linesG cur (c :: r) = linesG (cur ++ [c]) r := by
  have h10 : c ≠ 10 := fun e => h (.inl e)
  have h13 : c ≠ 13 := fun e => h (.inr e)
  cases r with
  | nil => simp [linesG, h10, h13]
  | cons d r => simp [linesG, h10, h13]
theorem linesG_10 (cur r : List UInt8) : linesG cur (10 :: r) = cur :: linesG [] r := by cases r <;> simp [linesG]
theorem linesG_13 {cur r : List UInt8} (h : r.head? ≠ some 10) : linesG cur (13 :: r) = cur :: linesG [] r := by
  cases r with
  | nil => simp [linesG]
  | cons d r =>
    have : d ≠ 10 := by simpa using h
    simp [linesG, this]
theorem linesG_two (cur r : List UInt8) : linesG cur (13 :: 10 :: r) = cur :: linesG [] r := by simp [linesG]
def linV (b cap : Nat) (l : List (List UInt8)) : AV := if l = [] then .sl .nil 1 [] else .ms b 0 l.length cap
theorem linV_nil (b cap : Nat) : linV b cap [] = .sl .nil 1 [] := rfl
theorem linV_ne {b cap : Nat} {l : List (List UInt8)} (h : l ≠ []) : linV b cap l = .ms b 0 l.length cap := if_neg h
def LinesQ (s : List UInt8) : AEnd → Heap → Prop := RetT fun v H' => ∃ b cap, v = .ms b 0 (linesM s).length cap ∧ MsT H' b cap (linesM s)
section
variable {KP : AV → Heap → Prop} {Q : AExit → Env → Heap → Prop} {st : List Fr} {ρ : Env} {H : Heap} {all items : List AItem} {d : Option Nat} {R : List Chk}
theorem goPm_L {b cap : Nat} {l : List (List UInt8)} {x : List UInt8} {o2 : Own} (h : l ≠ [] → MsT H b cap l) (h1 : (l.length + 1) * 16 ≤ 140737488355328) (h2 : l.length + 1 ≤ maxLen)
    (k : ∀ b' cap' H', MsT H' b' cap' (l ++ [x]) → goR Tryz.prog KP Q all items st R (ρ.set d (.ms b' 0 (l.length + 1) cap')) H') :
    goPm Tryz.prog KP Q all items st d R ρ 1 16 [.str []] (linV b cap l) (.sl o2 1 [[.str x]]) H := by
  by_cases hl : l = []
  · subst hl
    rw [linV_nil]
    exact goPm_T0 fun b' cap' H' hm => k b' cap' H' hm
  · rw [linV_ne hl]
    exact goPm_T (h hl) h1 h2 k
end
theorem linesTC (s : List UInt8) (hs : s.length ≤ Lim) : ACalls Tryz.prog 323 [.str s] Heap.emp (LinesQ s) := by
  refine ACalls.go ir323 ck323 (Nat.le_refl _) fun KP Q hQ => ?_
  have hs' := hs
  simp only [Lim] at hs'
  simp (disch := first | omega | assumption) only [ir323, go_sem, ↓reduceIte]
  refine goL_st (fun x : Nat × Nat × List (List UInt8) × Nat × Nat => [(3, linV x.2.2.2.1 x.2.2.2.2 x.2.2.1), (4, .int .i64 x.2.1), (5, .int .i64 x.1)]) (fun x H' => x.2.1 ≤ x.1 ∧ x.1 ≤ s.length ∧ x.2.2.1.length ≤ x.1 ∧ x.2.2.1 ++ linesG ((s.take x.1).drop x.2.1) (s.drop x.1) = linesM s ∧ (x.2.2.1 ≠ [] → MsT H' x.2.2.2.1 x.2.2.2.2 x.2.2.1)) (fun x => s.length - x.1) (0, 0, [], 0, 0) (by simp (disch := first | omega | assumption) only [linV_nil, go_sem, ↓reduceIte]) ⟨Nat.le_refl _, Nat.zero_le _, Nat.le_refl _, by simp [linesM], fun h => absurd rfl h⟩ ?_
  rintro ⟨i, fr, l, b, cap⟩ H1 J ⟨h1, h2, h3, h4, h5⟩ hJ
  simp only at h1 h2 h3 h4 h5
  by_cases hlt : i < s.length
  case neg =>
    obtain rfl : i = s.length := by omega
    have hlt' : ¬ ((s.length : Int) < s.length) := by omega
    have hb1 : ((fr : Int) ≤ s.length) = True := eq_true (by omega)
    rw [List.drop_length, List.take_length] at h4
    simp only [linesG] at h4
    simp (disch := first | omega | assumption) only [hlt', hb1, go_sem, ↓reduceIte]
    refine goPm_L h5 (by omega) (by simp only [maxLen]; omega) fun b' cap' H2 hm => ?_
    simp (disch := first | omega | assumption) only [go_sem, ↓reduceIte]
    exact hQ _ _ H2 H2 [_] nofun rfl (Low.refl _) ⟨b', cap', by rw [← h4]; simp [tupOf, envOf, AV.strip, AV.strip1], by rw [← h4]; exact hm⟩
  have hlt' : ((i : Int) < s.length) = True := eq_true (by omega)
  obtain ⟨c, r, hd⟩ : ∃ c r, s.drop i = c :: r := by
    cases hx : s.drop i with
    | nil => have := congrArg List.length hx; simp at this; omega
    | cons c r => exact ⟨c, r, rfl⟩
  have hc : s.getD i 0 = c := by
    have : (s.drop i).getD 0 0 = c := by rw [hd]; rfl
    simpa [List.getD_eq_getElem?_getD] using this
  have hr : s.drop (i + 1) = r := by rw [← List.drop_drop, hd]; rfl
  have htk : s.take (i + 1) = s.take i ++ [c] := by
    rw [List.take_add, hd]; rfl
  have hcur : ((s.take (i + 1)).drop fr) = (s.take i).drop fr ++ [c] := by
    rw [htk, List.drop_append_of_le_length (by simp; omega)]
  rw [hd] at h4
  have hb1 : ((fr : Int) ≤ (i : Int)) = True := eq_true (by omega)
  have hne9 : l ++ [(s.take i).drop fr] ≠ [] := by simp
  have hb2 : ((i : Int) ≤ s.length) = True := eq_true (by omega)
  by_cases e10 : c = 10
  case pos =>
    subst e10
    rw [linesG_10] at h4
    have hcn : ((10 : UInt8).toNat : Int) = 10 := rfl
    simp (disch := first | omega | assumption) only [hlt', hc, hcn, hb1, hb2, go_sem, ↓reduceIte]
    refine goPm_L h5 (by omega) (by simp only [maxLen]; omega) fun b' cap' H2 hm => ?_
    simp (disch := first | omega | assumption) only [hc, hcn, wrap64, go_sem, ↓reduceIte]
    refine goJ (hJ (i + 1, i + 1, l ++ [(s.take i).drop fr], b', cap') H2 (by simp only; omega) ⟨Nat.le_refl _, by simp only; omega, by simp; omega, ?_, fun _ => hm⟩) (by simp (disch := first | omega | assumption) only [linV_ne hne9, List.length_append, List.length_cons, List.length_nil, Nat.zero_add, Int.natCast_add, go_sem, ↓reduceIte])
    rw [hr]
    simpa using h4
  by_cases e13 : c = 13
  case neg =>
    rw [linesG_plain (by simp [e10, e13])] at h4
    have c10 : ¬ ((c.toNat : Int) = 10) := fun e => e10 (UInt8.toNat_inj.1 (by simpa using (by omega : c.toNat = 10)))
    have c13 : ¬ ((c.toNat : Int) = 13) := fun e => e13 (UInt8.toNat_inj.1 (by simpa using (by omega : c.toNat = 13)))
    simp (disch := first | omega | assumption) only [hlt', hc, c10, c13, wrap64, go_sem, ↓reduceIte]
    refine goJ (hJ (i + 1, fr, l, b, cap) H1 (by simp only; omega) ⟨by simp only; omega, by simp only; omega, by simp only; omega, ?_, h5⟩) (by simp (disch := first | omega | assumption) only [Int.natCast_add, go_sem, ↓reduceIte])
    rw [hr, hcur]; exact h4
  subst e13
  have hcn : ((13 : UInt8).toNat : Int) = 13 := rfl
  by_cases h10 : r.head? = some 10
  case neg =>
    rw [linesG_13 h10] at h4
    by_cases hi2 : i + 1 < s.length
    case neg =>
      have hi2' : ¬ ((i : Int) + 1 < s.length) := by omega
      simp (disch := first | omega | assumption) only [hlt', hc, hcn, hb1, hb2, go_sem, ↓reduceIte]
      refine goPm_L h5 (by omega) (by simp only [maxLen]; omega) fun b' cap' H2 hm => ?_
      simp (disch := first | omega | assumption) only [hc, hcn, wrap64, hi2', go_sem, ↓reduceIte]
      refine goJ (hJ (i + 1, i + 1, l ++ [(s.take i).drop fr], b', cap') H2 (by simp only; omega) ⟨Nat.le_refl _, by simp only; omega, by simp; omega, ?_, fun _ => hm⟩) (by simp (disch := first | omega | assumption) only [linV_ne hne9, List.length_append, List.length_cons, List.length_nil, Nat.zero_add, Int.natCast_add, go_sem, ↓reduceIte])
      rw [hr]
      simpa using h4
    have hi2' : ((i : Int) + 1 < s.length) = True := eq_true (by omega)
    obtain ⟨e, r', hre⟩ : ∃ e r', r = e :: r' := by
      cases r with
      | nil => have := congrArg List.length hr; simp at this; omega
      | cons e r' => exact ⟨e, r', rfl⟩
    have hge : s.getD (i + 1) 0 = e := by
      have : (s.drop (i + 1)).getD 0 0 = e := by rw [hr, hre]; rfl
      simpa [List.getD_eq_getElem?_getD] using this
    have hne : e ≠ 10 := by rw [hre] at h10; simpa using h10
    have hgn : ¬ ((e.toNat : Int) = 10) := fun x => hne (UInt8.toNat_inj.1 (by simpa using (by omega : e.toNat = 10)))
    have hg1 : ((i : Int) + 1).toNat = i + 1 := by omega
    simp (disch := first | omega | assumption) only [hlt', hc, hcn, hb1, hb2, go_sem, ↓reduceIte]
    refine goPm_L h5 (by omega) (by simp only [maxLen]; omega) fun b' cap' H2 hm => ?_
    simp (disch := first | omega | assumption) only [hc, hcn, wrap64, hi2', hg1, hge, hgn, go_sem, ↓reduceIte]
    refine goJ (hJ (i + 1, i + 1, l ++ [(s.take i).drop fr], b', cap') H2 (by simp only; omega) ⟨Nat.le_refl _, by simp only; omega, by simp; omega, ?_, fun _ => hm⟩) (by simp (disch := first | omega | assumption) only [linV_ne hne9, List.length_append, List.length_cons, List.length_nil, Nat.zero_add, Int.natCast_add, go_sem, ↓reduceIte])
    rw [hr]
    simpa using h4
  obtain ⟨r', hre⟩ : ∃ r', r = 10 :: r' := by
    cases r with
    | nil => cases h10
    | cons e r' => simp only [List.head?_cons, Option.some.injEq] at h10; subst h10; exact ⟨r', rfl⟩
  rw [hre, linesG_two] at h4
  have hi2 : i + 1 < s.length := by
    have := congrArg List.length hr; rw [hre] at this; simp at this; omega
  have hi2' : ((i : Int) + 1 < s.length) = True := eq_true (by omega)
  have hge : s.getD (i + 1) 0 = 10 := by
    have : (s.drop (i + 1)).getD 0 0 = 10 := by rw [hr, hre]; rfl
    simpa [List.getD_eq_getElem?_getD] using this
  have hgn : ((10 : UInt8).toNat : Int) = 10 := rfl
  have hg1 : ((i : Int) + 1).toNat = i + 1 := by omega
  have hr2 : s.drop (i + 1 + 1) = r' := by rw [← List.drop_drop, hr, hre]; rfl
  simp (disch := first | omega | assumption) only [hlt', hc, hcn, hb1, hb2, go_sem, ↓reduceIte]
  refine goPm_L h5 (by omega) (by simp only [maxLen]; omega) fun b' cap' H2 hm => ?_
  simp (disch := first | omega | assumption) only [hc, hcn, wrap64, hi2', hg1, hge, hgn, go_sem, ↓reduceIte]
  refine goJ (hJ (i + 1 + 1, i + 1 + 1, l ++ [(s.take i).drop fr], b', cap') H2 (by simp only; omega) ⟨Nat.le_refl _, by simp only; omega, by simp; omega, ?_, fun _ => hm⟩) (by simp (disch := first | omega | assumption) only [linV_ne hne9, List.length_append, List.length_cons, List.length_nil, Nat.zero_add, Int.natCast_add, go_sem, ↓reduceIte])
  rw [hr2]
  simpa using h4
theorem isBl_nat (c : UInt8) : isBl c = true ↔ (c.toNat : Int) = 9 ∨ (c.toNat : Int) = 32 := by
  simp only [isBl, Bool.or_eq_true, decide_eq_true_eq]
  constructor
  · rintro (rfl | rfl)
    · exact .inl rfl
    · exact .inr rfl
  · rintro (h | h)
    · exact .inl (UInt8.toNat_inj.1 (by simpa using (by omega : c.toNat = 9)))
    · exact .inr (UInt8.toNat_inj.1 (by simpa using (by omega : c.toNat = 32)))
theorem lead_stop {a r : List UInt8} {c : UInt8} (ha : ∀ x ∈ a, isBl x = true) (hc : isBl c = false) : leadN (a ++ c :: r) = a.length ∧ bareL (a ++ c :: r) = false := by
  refine ⟨?_, ?_⟩
  · unfold leadN
    induction a with
    | nil => simp [hc]
    | cons x a ih => simp [ha x (.head _), ih fun y hy => ha y (.tail _ hy)]
  · simp [bareL, hc]
theorem lead_all {a : List UInt8} (ha : ∀ x ∈ a, isBl x = true) : leadN a = a.length ∧ bareL a = true := by
  have hb : bareL a = true := List.all_eq_true.2 ha
  exact ⟨bare_lead hb, hb⟩
theorem blanksTC (s : List UInt8) (hs : s.length ≤ Lim) : Pure Tryz.prog 345 [.str s] (.tup [.int .i64 (leadN s), .bool (!bareL s)]) := by
  refine Pure.go ir345 ck345 (Nat.le_refl _) fun KP Q hQ => ?_
  have hs' := hs
  simp only [Lim] at hs'
  simp (disch := first | omega | assumption) only [ir345, go_sem, ↓reduceIte]
  refine goL_range s 7 (fun _ : AV => []) (fun done rest _ H' => ∀ x ∈ done, isBl x = true) (.int .i64 0) (by simp (disch := first | omega | assumption) only [go_sem, ↓reduceIte]) (fun x hx => nomatch hx) ?_ ?_
  · rintro y H1 J hdn hlt
    obtain ⟨g1, g2⟩ := lead_all hdn
    simp (disch := first | omega | assumption) only [hlt, go_sem, ↓reduceIte]
    exact hQ _ _ _ _ nofun rfl (by simp [tupOf, envOf, AV.strip, AV.strip1, g1, g2])
  · rintro done c rest y H1 J hd hlt hlt2 hdn hJ
    have hc : s.getD done.length 0 = c := by rw [hd]; simp
    cases hb : isBl c with
    | false =>
      obtain ⟨g1, g2⟩ := lead_stop (r := rest) hdn hb
      rw [← hd] at g1 g2
      have hn : ¬ ((c.toNat : Int) = 9 ∨ (c.toNat : Int) = 32) := fun h => by rw [(isBl_nat c).2 h] at hb; cases hb
      have n9 : ¬ ((c.toNat : Int) = 9) := fun h => hn (.inl h)
      have n32 : ¬ ((c.toNat : Int) = 32) := fun h => hn (.inr h)
      simp (disch := first | omega | assumption) only [hlt, hc, n9, n32, go_sem, ↓reduceIte]
      exact hQ _ _ _ _ nofun rfl (by simp [tupOf, envOf, AV.strip, AV.strip1, g1, g2])
    | true =>
      have hall : ∀ x ∈ done ++ [c], isBl x = true := fun x hx => by
        rcases List.mem_append.1 hx with h | h
        · exact hdn x h
        · simp at h; subst h; exact hb
      rcases (isBl_nat c).1 hb with h9 | h32
      · simp (disch := first | omega | assumption) only [hlt, hc, h9, wrap64, go_sem, ↓reduceIte]
        exact goJ (hJ (.int .i64 0) _ hall) (by simp (disch := first | omega | assumption) only [go_sem, ↓reduceIte])
      · have n9 : ¬ ((c.toNat : Int) = 9) := by omega
        simp (disch := first | omega | assumption) only [hlt, hc, n9, h32, wrap64, go_sem, ↓reduceIte]
        exact goJ (hJ (.int .i64 0) _ hall) (by simp (disch := first | omega | assumption) only [go_sem, ↓reduceIte])
theorem bareTC (s : List UInt8) (hs : s.length ≤ Lim) : Pure Tryz.prog 325 [.str s] (.bool (bareL s)) := by
  refine Pure.go ir325 ck325 (Nat.le_refl _) fun KP Q hQ => ?_
  simp (disch := first | omega | assumption) only [ir325, go_sem, ↓reduceIte]
  refine goK_pure (blanksTC s hs) ?_
  simp (disch := first | omega | assumption) only [go_sem, ↓reduceIte]
  exact hQ _ _ _ _ nofun rfl (by simp [tupOf, envOf, AV.strip, AV.strip1])
end Go.Proofs.YticbbfbpeimkbaaGreatDoor
namespace Go.Proofs.YticbbfbpeimkbaaGreatDoor
open Go.Ab Go.Lib
theorem cStr_get {l a : List (List UInt8)} {x : List UInt8} {b : List (List UInt8)} (h : l = a ++ x :: b) (tl : List AV) : ((cStr l ++ tl).drop (0 + a.length * 1)).take 1 = [.str x] := by
  subst h; simp [cStr]
theorem cStr_le {l a : List (List UInt8)} {x : List UInt8} {b : List (List UInt8)} (h : l = a ++ x :: b) (tl : List AV) : 0 + a.length * 1 + 1 ≤ (cStr l ++ tl).length := by
  subst h; simp [cStr]
theorem indentTC {H : Heap} {b cap : Nat} {l : List (List UInt8)} (h : MsT H b cap l) (hx : ∀ s ∈ l, s.length ≤ Lim) (hl : l.length ≤ Lim) :
    ACalls Tryz.prog 324 [.ms b 0 l.length cap] H (RetT fun v H' => v = .int .i64 (indM l) ∧ H' = H) := by
  obtain ⟨tl, hb, hc⟩ := h
  refine ACalls.go ir324 ck324 (Nat.le_refl _) fun KP Q hQ => ?_
  have hl' := hl
  simp only [Lim] at hl'
  simp (disch := first | omega | assumption) only [ir324, go_sem, ↓reduceIte]
  refine goL_range l 10 (fun n : Int => [(3, .int .i64 n)]) (fun done rest n H' => H' = H ∧ ((done = [] ∧ n = -1) ∨ (done ≠ [] ∧ indG rest n = indM l))) (-1) (by simp (disch := first | omega | assumption) only [go_sem, ↓reduceIte]) ⟨rfl, .inl ⟨rfl, rfl⟩⟩ ?_ ?_
  · rintro n H1 J ⟨rfl, hi⟩ hlt
    have e : n = indM l := by
      rcases hi with ⟨h1, h2⟩ | ⟨_, h2⟩
      · subst h1; subst h2; rfl
      · simpa [indG] using h2
    simp (disch := first | omega | assumption) only [hlt, go_sem, ↓reduceIte]
    exact hQ _ _ _ _ [_] nofun rfl (Low.refl _) ⟨by simp [tupOf, envOf, AV.strip, AV.strip1, e], rfl⟩
  · rintro done x rest n H1 J hd hlt hlt2 ⟨rfl, hi⟩ hJ
    have hg := cStr_get hd tl
    have hle := cStr_le hd tl
    have hxl := hx x (by rw [hd]; simp)
    have hne : done ++ [x] ≠ [] := by simp
    by_cases h0 : done.length = 0
    · have h0' : ((done.length : Int) = 0) = True := eq_true (by omega)
      have hdn := List.length_eq_zero_iff.1 h0
      have e1 : n = -1 := by
        rcases hi with ⟨_, h2⟩ | ⟨h1, _⟩
        · exact h2
        · exact absurd hdn h1
      have e2 : rest = l.tail := by rw [hd, hdn]; rfl
      simp (disch := first | omega | assumption) only [hlt, hb, hg, hle, go_sem, ↓reduceIte]
      refine goK_pure (blanksTC x hxl) ?_
      simp (disch := first | omega | assumption) only [h0', wrap64, go_sem, ↓reduceIte]
      exact goJ (hJ n _ ⟨rfl, .inr ⟨hne, by rw [e1, e2]; rfl⟩⟩) (by simp (disch := first | omega | assumption) only [go_sem, ↓reduceIte])
    have h0' : ¬ ((done.length : Int) = 0) := by omega
    have e1 : indG (x :: rest) n = indM l := by
      rcases hi with ⟨h1, _⟩ | ⟨_, h2⟩
      · rw [h1] at h0; exact absurd rfl h0
      · exact h2
    simp only [indG] at e1
    cases hbr : bareL x with
    | true =>
      rw [hbr, if_pos rfl] at e1
      simp (disch := first | omega | assumption) only [hlt, hb, hg, hle, go_sem, ↓reduceIte]
      refine goK_pure (blanksTC x hxl) ?_
      simp (disch := first | omega | assumption) only [h0', hbr, wrap64, go_sem, ↓reduceIte]
      exact goJ (hJ n _ ⟨rfl, .inr ⟨hne, e1⟩⟩) (by simp (disch := first | omega | assumption) only [go_sem, ↓reduceIte])
    | false =>
      rw [hbr, if_neg (by decide)] at e1
      by_cases hn : n < 0
      · rw [if_pos (.inl hn)] at e1
        simp (disch := first | omega | assumption) only [hlt, hb, hg, hle, go_sem, ↓reduceIte]
        refine goK_pure (blanksTC x hxl) ?_
        simp (disch := first | omega | assumption) only [h0', hbr, hn, wrap64, go_sem, ↓reduceIte]
        exact goJ (hJ (leadN x) _ ⟨rfl, .inr ⟨hne, e1⟩⟩) (by simp (disch := first | omega | assumption) only [go_sem, ↓reduceIte])
      · by_cases hn2 : (leadN x : Int) < n
        · rw [if_pos (.inr hn2)] at e1
          simp (disch := first | omega | assumption) only [hlt, hb, hg, hle, go_sem, ↓reduceIte]
          refine goK_pure (blanksTC x hxl) ?_
          simp (disch := first | omega | assumption) only [h0', hbr, hn, hn2, wrap64, go_sem, ↓reduceIte]
          exact goJ (hJ (leadN x) _ ⟨rfl, .inr ⟨hne, e1⟩⟩) (by simp (disch := first | omega | assumption) only [go_sem, ↓reduceIte])
        · rw [if_neg (by rintro (h | h) <;> contradiction)] at e1
          simp (disch := first | omega | assumption) only [hlt, hb, hg, hle, go_sem, ↓reduceIte]
          refine goK_pure (blanksTC x hxl) ?_
          simp (disch := first | omega | assumption) only [h0', hbr, hn, hn2, wrap64, go_sem, ↓reduceIte]
          exact goJ (hJ n _ ⟨rfl, .inr ⟨hne, e1⟩⟩) (by simp (disch := first | omega | assumption) only [go_sem, ↓reduceIte])
theorem lines_ne (s cur : List UInt8) : linesG cur s ≠ [] := by
  cases s with
  | nil => simp [linesG]
  | cons c s =>
    by_cases h : c = 10 ∨ c = 13
    · rcases h with rfl | rfl
      · rw [linesG_10]; simp
      · by_cases h10 : s.head? = some 10
        · cases s with
          | nil => cases h10
          | cons d s => simp only [List.head?_cons, Option.some.injEq] at h10; subst h10; rw [linesG_two]; simp
        · rw [linesG_13 h10]; simp
    · rw [linesG_plain h]; exact lines_ne s _
termination_by s.length
theorem lines_sum : ∀ (s cur : List UInt8), ((linesG cur s).map fun x => x.length + 1).sum ≤ cur.length + s.length + 1
  | [], cur => by simp [linesG]
  | [c], cur => by simp only [linesG]; split <;> simp
  | c :: d :: r, cur => by
    have h1 := lines_sum (d :: r)
    have h2 := lines_sum r
    simp only [linesG]
    repeat' split
    all_goals simp only [List.length_cons, List.map_cons, List.sum_cons] at h1 ⊢
    · have := h1 []; simp only [List.length_nil] at this; omega
    · have := h2 []; simp only [List.length_nil] at this; omega
    · have := h1 []; simp only [List.length_nil] at this; omega
    · have := h1 (cur ++ [c]); simp only [List.length_append, List.length_cons, List.length_nil] at this; omega
termination_by s => s.length
theorem mem_sum {l : List (List UInt8)} {x : List UInt8} (h : x ∈ l) : x.length + 1 ≤ (l.map fun x => x.length + 1).sum := by
  obtain ⟨a, b, rfl⟩ := List.append_of_mem h
  simp; omega
end Go.Proofs.YticbbfbpeimkbaaGreatDoor
namespace Go.Proofs.YticbbfbpeimkbaaGreatDoor
open Go.Ab Go.Lib
def AtR (cells : List AV) (off : Nat) (cur : List (List UInt8)) : Prop := ∃ pre post, cells = pre ++ (cStr cur ++ post) ∧ pre.length = off
theorem AtR.get {cells : List AV} {off : Nat} {cur a : List (List UInt8)} {x : List UInt8} {r : List (List UInt8)} (h : AtR cells off cur) (hc : cur = a ++ x :: r) : (cells.drop (off + a.length * 1)).take 1 = [.str x] ∧ off + a.length * 1 + 1 ≤ cells.length := by
  obtain ⟨pre, post, rfl, rfl⟩ := h
  subst hc
  refine ⟨?_, by simp [cStr]; omega⟩
  rw [Nat.mul_one, ← List.drop_drop, List.drop_left]
  simp [cStr]
theorem AtR.le {cells : List AV} {off : Nat} {cur : List (List UInt8)} (h : AtR cells off cur) : off + cur.length ≤ cells.length := by
  obtain ⟨pre, post, rfl, rfl⟩ := h
  simp [cStr]
theorem AtR.front {cells : List AV} {b off cap : Nat} {x : List UInt8} {r : List (List UInt8)} (h : AtR cells off (x :: r)) (hc : r.length + 1 ≤ cap) :
    ∃ off2, msCut 1 b off (r.length + 1) cap (some 1) (some ((r.length + 1 : Nat) : Int)) = some (.ms b off2 r.length (cap - 1)) ∧ AtR cells off2 r := by
  obtain ⟨pre, post, rfl, rfl⟩ := h
  have e : (((r.length + 1 : Nat) : Int)).toNat - (1 : Int).toNat = r.length := by omega
  by_cases h1 : cap = 1
  · obtain rfl : r = [] := List.length_eq_zero_iff.1 (by omega)
    exact ⟨pre.length, by simp [msCut, h1], pre, .str x :: post, by simp [cStr], rfl⟩
  · refine ⟨pre.length + 1, ?_, pre ++ [.str x], post, by simp [cStr], by simp⟩
    unfold msCut
    simp only
    rw [if_pos (by omega), if_neg (by simpa using h1), e]
    simp
theorem msCut_back {b off cap len k : Nat} (h : k ≤ len) : msCut 1 b off len cap (some 0) (some (k : Int)) = some (.ms b off k cap) := by
  unfold msCut
  simp only
  rw [if_pos (by omega)]
  simp
theorem AtR.back {cells : List AV} {off : Nat} {x : List UInt8} {r : List (List UInt8)} (h : AtR cells off (r ++ [x])) : AtR cells off r := by
  obtain ⟨pre, post, rfl, rfl⟩ := h
  exact ⟨pre, .str x :: post, by simp [cStr], rfl⟩
theorem rowsA_str : ∀ (cur : List (List UInt8)) (post : List AV), rowsA 1 cur.length (cStr cur ++ post) = cT cur
  | [], _ => rfl
  | x :: r, post => by
    have := rowsA_str r post
    simp only [cStr] at this
    simp [rowsA, cStr, cT, AV.strip1, this]
theorem AtR.rows {cells : List AV} {off : Nat} {cur : List (List UInt8)} (h : AtR cells off cur) : rowsA 1 cur.length (cells.drop off) = cT cur := by
  obtain ⟨pre, post, rfl, rfl⟩ := h
  rw [List.drop_left, rowsA_str]
def wL (l : List (List UInt8)) : Nat := (l.map fun x => x.length + 1).sum
theorem wL_mem {l : List (List UInt8)} {x : List UInt8} (h : x ∈ l) : x.length + 1 ≤ wL l := mem_sum h
theorem wL_len : ∀ l : List (List UInt8), l.length ≤ wL l
  | [] => by simp
  | x :: r => by have := wL_len r; simp only [wL, List.map_cons, List.sum_cons, List.length_cons] at this ⊢; omega
theorem wL_app (a b : List (List UInt8)) : wL (a ++ b) = wL a + wL b := by simp [wL]
theorem wL_cons (x : List UInt8) (b : List (List UInt8)) : wL (x :: b) = x.length + 1 + wL b := by simp [wL]
theorem wL_drop (n : Nat) : ∀ l : List (List UInt8), wL (l.map fun s => s.drop n) ≤ wL l
  | [] => by simp [wL]
  | x :: r => by have := wL_drop n r; simp only [List.map_cons, wL_cons, List.length_drop]; omega
theorem join_wL : ∀ l : List (List UInt8), (Lib.join l [10]).length ≤ wL l
  | [] => by simp [Lib.join]
  | [x] => by simp [Lib.join, wL]
  | x :: y :: r => by
    have := join_wL (y :: r)
    have e : Lib.join (x :: y :: r) [10] = x ++ 10 :: Lib.join (y :: r) [10] := by simp [Lib.join]
    rw [e, wL_cons]
    simp only [List.length_append, List.length_cons]; omega
theorem trimR_snoc (r : List (List UInt8)) (x : List UInt8) : trimR (r ++ [x]) = if bareL x then trimR r else r ++ [x] := by
  unfold trimR
  rw [List.reverse_append, List.reverse_singleton, List.singleton_append, List.dropWhile_cons]
  split
  · rfl
  · simp
theorem snoc_of {α : Type} {l : List α} (h : l ≠ []) : ∃ r x, l = r ++ [x] := ⟨l.dropLast, l.getLast h, (List.dropLast_concat_getLast h).symm⟩
theorem cStr_set (a : List (List UInt8)) (x y : List UInt8) (r : List (List UInt8)) (tl : List AV) : splice (cStr (a ++ x :: r) ++ tl) (0 + a.length * 1) [.str y] = cStr (a ++ y :: r) ++ tl := by
  have e : cStr (a ++ x :: r) ++ tl = cStr a ++ (.str x :: (cStr r ++ tl)) := by simp [cStr]
  rw [e]
  simp only [splice, List.length_cons, List.length_nil, Nat.zero_add, Nat.mul_one]
  rw [List.take_left' (cStr_len a), List.drop_append, List.drop_eq_nil_of_le (by rw [cStr_len]; omega), cStr_len, Nat.add_sub_cancel_left]
  simp [cStr]
theorem blockTC (raw : List UInt8) (hs : raw.length ≤ 1099511600000) : Pure Tryz.prog 280 [.str raw] (.str (blockM raw)) := by
  refine Pure.go ir280 ck280 (Nat.le_refl _) fun KP Q hQ => ?_
  have hw0 : wL (linesM raw) ≤ raw.length + 1 := by have := lines_sum raw []; simpa [wL, linesM] using this
  obtain ⟨x0, T, hL⟩ : ∃ x T, linesM raw = x :: T := by
    cases hx : linesM raw with
    | nil => exact absurd hx (lines_ne raw [])
    | cons x T => exact ⟨x, T, rfl⟩
  have hLl := wL_len (linesM raw)
  simp (disch := first | omega | assumption) only [ir280, go_sem, ↓reduceIte]
  refine goK_ret (linesTC raw (by simp only [Lim]; omega)) fun v H1 ⟨b, cap, hv, hm⟩ => ?_
  subst hv
  have hm0 := hm
  obtain ⟨tl, hb, hcap⟩ := hm
  simp (disch := first | omega | assumption) only [go_sem, ↓reduceIte]
  refine goK_ret (indentTC hm0 (fun s hsm => by have := wL_mem hsm; simp only [Lim]; omega) (by simp only [Lim]; omega)) fun v H2 ⟨hv, hH⟩ => ?_
  subst hv; subst hH
  by_cases hn : 0 < indM (linesM raw)
  case neg =>
    have hn0 : (indM (linesM raw)).toNat = 0 := by omega
    obtain ⟨D, hDd⟩ : ∃ D, D = linesM raw := ⟨_, rfl⟩
    have hDM : dropM (linesM raw) = D := by
      rw [hDd]
      conv => lhs; rw [hL]
      simp only [dropM]
      rw [← hL, hn0]
      simp [hL]
    have hDl : D.length = (linesM raw).length := by rw [hDd]
    have hbX : H2 b = some (.cells (cStr D ++ tl)) := by rw [hDd]; exact hb
    obtain ⟨cells, hcells⟩ : ∃ cells, cells = cStr D ++ tl := ⟨_, rfl⟩
    rw [← hcells] at hbX
    have hwD : wL D ≤ 1099511627777 := by rw [hDd]; omega
    rw [← hDd] at hcap
    simp (disch := first | omega | assumption) only [hn, go_sem, ↓reduceIte]
    refine goL_st (fun x : Nat × Nat × List (List UInt8) => [(3, .ms b x.1 x.2.2.length x.2.1)]) (fun x H' => H' = H2 ∧ AtR cells x.1 x.2.2 ∧ x.2.2.length ≤ x.2.1 ∧ x.2.2.dropWhile bareL = D.dropWhile bareL ∧ wL x.2.2 ≤ wL D) (fun x => x.2.2.length) (0, cap, D) (by simp (disch := first | omega | assumption) only [hDl, go_sem, ↓reduceIte]) ⟨rfl, ⟨[], tl, by rw [hcells, List.nil_append], rfl⟩, by simp only; omega, rfl, Nat.le_refl _⟩ ?_
    rintro ⟨off, cp, cur⟩ H3 J ⟨rfl, ha, hcp, hdw, hw⟩ hJ
    simp only at ha hcp hdw hw
    have stage2 : ∀ K : Unit, cur = D.dropWhile bareL → True := fun _ _ => trivial
    by_cases hcur : cur = []
    case pos =>
      subst hcur
      have hD : D.dropWhile bareL = [] := by rw [← hdw]; rfl
      simp (disch := first | omega | assumption) only [List.length_nil, go_sem, ↓reduceIte]
      refine goL_st (fun x : Unit => []) (fun x H' => H' = H3) (fun x => 0) () (by simp (disch := first | omega | assumption) only [List.length_nil, go_sem, ↓reduceIte]) rfl ?_
      rintro ⟨⟩ H4 J4 rfl hJ4
      simp (disch := first | omega | assumption) only [List.length_nil, go_sem, ↓reduceIte]
      refine goZ_ms hbX (by decide) (by have := ha.le; simpa using this) ?_
      have hr := ha.rows
      simp only [List.length_nil] at hr
      simp (disch := first | omega | assumption) only [hr, go_sem, ↓reduceIte]
      refine goK_pure (joinStrC [] [10] (by simp [Lib.join]) (by simp)) ?_
      have e : blockM raw = Lib.join [] [10] := by
        unfold blockM; rw [hDM, hD]; rfl
      simp (disch := first | omega | assumption) only [go_sem, ↓reduceIte]
      exact hQ _ _ _ _ nofun rfl (by simp [tupOf, envOf, AV.strip, AV.strip1, e])
    obtain ⟨x, r, hxr⟩ : ∃ x r, cur = x :: r := by cases cur with | nil => exact absurd rfl hcur | cons x r => exact ⟨x, r, rfl⟩
    have hxl : x.length ≤ Lim := by have := wL_mem (l := cur) (x := x) (by rw [hxr]; simp); simp only [Lim]; omega
    obtain ⟨hg, hle⟩ := ha.get (a := []) (x := x) (r := r) hxr
    simp only [List.length_nil, Nat.zero_mul, Nat.add_zero] at hg hle
    have hcl : cur.length = r.length + 1 := by rw [hxr]; rfl
    have hpos : ((0 : Int) < (cur.length : Int)) = True := eq_true (by omega)
    have h1l : ((1 : Int) ≤ (cur.length : Int)) = True := eq_true (by omega)
    cases hbr : bareL x with
    | true =>
      obtain ⟨off2, hcut, hat⟩ := AtR.front (b := b) (cap := cp) (by rw [← hxr]; exact ha) (by omega)
      rw [← hcl] at hcut
      simp (disch := first | omega | assumption) only [hpos, hbX, hg, hle, Nat.zero_mul, Nat.add_zero, go_sem, ↓reduceIte]
      refine goK_pure (bareTC x hxl) ?_
      simp (disch := first | omega | assumption) only [hbr, hpos, h1l, hcut, go_sem, ↓reduceIte]
      refine goJ (hJ (off2, cp - 1, r) H3 (by simp only; omega) ⟨rfl, hat, by simp only; omega, by rw [← hdw, hxr]; simp [hbr], by rw [hxr, wL_cons] at hw; simp only; omega⟩) (by simp (disch := first | omega | assumption) only [go_sem, ↓reduceIte])
    | false =>
      have hDc : D.dropWhile bareL = cur := by rw [← hdw, hxr]; simp [hbr]
      simp (disch := first | omega | assumption) only [hpos, hbX, hg, hle, Nat.zero_mul, Nat.add_zero, go_sem, ↓reduceIte]
      refine goK_pure (bareTC x hxl) ?_
      simp (disch := first | omega | assumption) only [hbr, go_sem, ↓reduceIte]
      refine goL_st (fun x : List (List UInt8) => [(3, .ms b off x.length cp)]) (fun x H' => H' = H3 ∧ AtR cells off x ∧ trimR x = trimR cur ∧ wL x ≤ wL D ∧ x.length ≤ cp) (fun x => x.length) cur (by simp (disch := first | omega | assumption) only [go_sem, ↓reduceIte]) ⟨rfl, ha, rfl, hw, hcp⟩ ?_
      rintro u H4 J4 ⟨rfl, ha4, ht4, hw4, hc4⟩ hJ4
      by_cases hu : u = []
      · subst hu
        simp (disch := first | omega | assumption) only [List.length_nil, go_sem, ↓reduceIte]
        refine goZ_ms hbX (by decide) (by have := ha4.le; simpa using this) ?_
        have hr := ha4.rows
        simp only [List.length_nil] at hr
        simp (disch := first | omega | assumption) only [hr, go_sem, ↓reduceIte]
        refine goK_pure (joinStrC [] [10] (by simp [Lib.join]) (by simp)) ?_
        have e : blockM raw = Lib.join [] [10] := by
          unfold blockM; rw [hDM, hDc, ← ht4]; rfl
        simp (disch := first | omega | assumption) only [go_sem, ↓reduceIte]
        exact hQ _ _ _ _ nofun rfl (by simp [tupOf, envOf, AV.strip, AV.strip1, e])
      obtain ⟨q, y, hqy⟩ := snoc_of hu
      have hyl : y.length ≤ Lim := by have := wL_mem (l := u) (x := y) (by rw [hqy]; simp); simp only [Lim]; omega
      obtain ⟨hg4, hle4⟩ := ha4.get (a := q) (x := y) (r := []) hqy
      have hul : u.length = q.length + 1 := by rw [hqy]; simp
      have hpos4 : ((0 : Int) < (u.length : Int)) = True := eq_true (by omega)
      have wq : IntKind.wrap .i64 ((u.length : Int) - 1) = (q.length : Int) := by rw [wrap64 (by omega) (by have := wL_len u; omega)]; omega
      have h1q : ((q.length : Int) < (u.length : Int)) = True := eq_true (by omega)
      have h2q : ((q.length : Int) ≤ (u.length : Int)) = True := eq_true (by omega)
      cases hby : bareL y with
      | true =>
        simp (disch := first | omega | assumption) only [hpos4, wq, h1q, hbX, hg4, hle4, go_sem, ↓reduceIte]
        refine goK_pure (bareTC y hyl) ?_
        have hcut := msCut_back (b := b) (off := off) (cap := cp) (show q.length ≤ u.length by omega)
        simp (disch := first | omega | assumption) only [hby, wq, h1q, h2q, hcut, go_sem, ↓reduceIte]
        refine goJ (hJ4 q H4 (by omega) ⟨rfl, AtR.back (x := y) (by rw [← hqy]; exact ha4), by rw [← ht4, hqy, trimR_snoc, hby]; rfl, by rw [hqy, wL_app] at hw4; omega, by omega⟩) (by simp (disch := first | omega | assumption) only [go_sem, ↓reduceIte])
      | false =>
        have hlen := wL_len u
        simp (disch := first | omega | assumption) only [hpos4, wq, h1q, hbX, hg4, hle4, go_sem, ↓reduceIte]
        refine goK_pure (bareTC y hyl) ?_
        simp (disch := first | omega | assumption) only [hby, go_sem, ↓reduceIte]
        refine goZ_ms hbX (by decide) (by have := ha4.le; omega) ?_
        have hr := ha4.rows
        have hj := join_wL u
        simp (disch := first | omega | assumption) only [hr, go_sem, ↓reduceIte]
        refine goK_pure (joinStrC u [10] (by omega) (by omega)) ?_
        have e : blockM raw = Lib.join u [10] := by
          unfold blockM; rw [hDM, hDc, ← ht4, hqy, trimR_snoc, hby]; rfl
        simp (disch := first | omega | assumption) only [go_sem, ↓reduceIte]
        exact hQ _ _ _ _ nofun rfl (by simp [tupOf, envOf, AV.strip, AV.strip1, e])
  case pos =>
    obtain ⟨n, hne⟩ : ∃ n : Nat, indM (linesM raw) = n := ⟨(indM (linesM raw)).toNat, by omega⟩
    have hnl : n ≤ 1099511627777 := by
      by_cases hall : ∀ s ∈ (linesM raw).tail, bareL s = true
      · have : ∀ (l : List (List UInt8)), (∀ s ∈ l, bareL s = true) → indG l (-1) = -1 := by
          intro l
          induction l with
          | nil => intro _; rfl
          | cons a l ih => intro h; simp only [indG, h a (.head _), if_true]; exact ih fun s hs => h s (.tail _ hs)
        have := this _ hall
        have e : indM (linesM raw) = indG (linesM raw).tail (-1) := rfl
        omega
      · obtain ⟨s, hs⟩ := Classical.not_forall.1 hall
        obtain ⟨hs, hb2⟩ := Classical.not_imp.1 hs
        have h1 := (indG_le (linesM raw).tail (-1)).2 s hs (by simpa using hb2)
        have h2 := wL_mem (List.mem_of_mem_tail hs)
        have h3 : leadN s ≤ s.length := (List.takeWhile_sublist _).length_le
        have e : indM (linesM raw) = indG (linesM raw).tail (-1) := rfl
        omega
    have hL2 := hL
    rw [hL] at hLl hw0
    have hcap0 := hcap
    rw [hL] at hb hcap0
    have hn' : ((0 : Int) < (n : Int)) = True := eq_true (by omega)
    rw [hne]
    simp (disch := first | omega | assumption) only [hn', go_sem, ↓reduceIte]
    refine goL_st (fun x : List (List UInt8) × List (List UInt8) => [(5, .int .i64 ((x.1.length : Int) + 1))]) (fun x H' => T = x.1 ++ x.2 ∧ H' b = some (.cells (cStr (x0 :: (x.1.map (fun s => s.drop n) ++ x.2)) ++ tl))) (fun x => x.2.length) ([], T) (by simp (disch := first | omega | assumption) only [List.length_nil, go_sem, ↓reduceIte]) ⟨rfl, by simpa using hb⟩ ?_
    rintro ⟨dn, rest⟩ H3 J3 ⟨hT, hb3⟩ hJ3
    simp only at hT hb3
    have hll : (linesM raw).length = dn.length + rest.length + 1 := by rw [hL, hT]; simp
    cases rest with
    | nil =>
      have hlt : ¬ ((dn.length : Int) + 1 < ((linesM raw).length : Int)) := by simp at hll; omega
      obtain ⟨D, hDd⟩ : ∃ D, D = x0 :: T.map fun s => s.drop n := ⟨_, rfl⟩
      have hDM : dropM (linesM raw) = D := by
        conv => lhs; rw [hL]
        simp only [dropM]
        rw [← hL, hne, hDd]; rfl
      have hDl : D.length = (linesM raw).length := by rw [hDd, hL]; simp
      have hbX : H3 b = some (.cells (cStr D ++ tl)) := by
        rw [hb3, hDd, hT]; simp
      obtain ⟨cells, hcells⟩ : ∃ cells, cells = cStr D ++ tl := ⟨_, rfl⟩
      rw [← hcells] at hbX
      have hwD : wL D ≤ 1099511627777 := by
        have := wL_drop n T
        rw [hDd, wL_cons]; rw [wL_cons] at hw0; omega
      have hcap : D.length + tl.length = cap := by rw [hDl]; exact hcap
      clear hJ3 hb3
      simp (disch := first | omega | assumption) only [hlt, go_sem, ↓reduceIte]
      refine goL_st (fun x : Nat × Nat × List (List UInt8) => [(3, .ms b x.1 x.2.2.length x.2.1)]) (fun x H' => H' = H3 ∧ AtR cells x.1 x.2.2 ∧ x.2.2.length ≤ x.2.1 ∧ x.2.2.dropWhile bareL = D.dropWhile bareL ∧ wL x.2.2 ≤ wL D) (fun x => x.2.2.length) (0, cap, D) (by simp (disch := first | omega | assumption) only [hDl, go_sem, ↓reduceIte]) ⟨rfl, ⟨[], tl, by rw [hcells, List.nil_append], rfl⟩, by simp only; omega, rfl, Nat.le_refl _⟩ ?_
      rintro ⟨off, cp, cur⟩ H5 J5 ⟨rfl, ha, hcp, hdw, hw⟩ hJ5
      simp only at ha hcp hdw hw
      have stage2 : ∀ K : Unit, cur = D.dropWhile bareL → True := fun _ _ => trivial
      by_cases hcur : cur = []
      case pos =>
        subst hcur
        have hD : D.dropWhile bareL = [] := by rw [← hdw]; rfl
        simp (disch := first | omega | assumption) only [List.length_nil, go_sem, ↓reduceIte]
        refine goL_st (fun x : Unit => []) (fun x H' => H' = H5) (fun x => 0) () (by simp (disch := first | omega | assumption) only [List.length_nil, go_sem, ↓reduceIte]) rfl ?_
        rintro ⟨⟩ H4 J4 rfl hJ4
        simp (disch := first | omega | assumption) only [List.length_nil, go_sem, ↓reduceIte]
        refine goZ_ms hbX (by decide) (by have := ha.le; simpa using this) ?_
        have hr := ha.rows
        simp only [List.length_nil] at hr
        simp (disch := first | omega | assumption) only [hr, go_sem, ↓reduceIte]
        refine goK_pure (joinStrC [] [10] (by simp [Lib.join]) (by simp)) ?_
        have e : blockM raw = Lib.join [] [10] := by
          unfold blockM; rw [hDM, hD]; rfl
        simp (disch := first | omega | assumption) only [go_sem, ↓reduceIte]
        exact hQ _ _ _ _ nofun rfl (by simp [tupOf, envOf, AV.strip, AV.strip1, e])
      obtain ⟨x, r, hxr⟩ : ∃ x r, cur = x :: r := by cases cur with | nil => exact absurd rfl hcur | cons x r => exact ⟨x, r, rfl⟩
      have hxl : x.length ≤ Lim := by have := wL_mem (l := cur) (x := x) (by rw [hxr]; simp); simp only [Lim]; omega
      obtain ⟨hg, hle⟩ := ha.get (a := []) (x := x) (r := r) hxr
      simp only [List.length_nil, Nat.zero_mul, Nat.add_zero] at hg hle
      have hcl : cur.length = r.length + 1 := by rw [hxr]; rfl
      have hpos : ((0 : Int) < (cur.length : Int)) = True := eq_true (by omega)
      have h1l : ((1 : Int) ≤ (cur.length : Int)) = True := eq_true (by omega)
      cases hbr : bareL x with
      | true =>
        obtain ⟨off2, hcut, hat⟩ := AtR.front (b := b) (cap := cp) (by rw [← hxr]; exact ha) (by omega)
        rw [← hcl] at hcut
        simp (disch := first | omega | assumption) only [hpos, hbX, hg, hle, Nat.zero_mul, Nat.add_zero, go_sem, ↓reduceIte]
        refine goK_pure (bareTC x hxl) ?_
        simp (disch := first | omega | assumption) only [hbr, hpos, h1l, hcut, go_sem, ↓reduceIte]
        refine goJ (hJ5 (off2, cp - 1, r) H5 (by simp only; omega) ⟨rfl, hat, by simp only; omega, by rw [← hdw, hxr]; simp [hbr], by rw [hxr, wL_cons] at hw; simp only; omega⟩) (by simp (disch := first | omega | assumption) only [go_sem, ↓reduceIte])
      | false =>
        have hDc : D.dropWhile bareL = cur := by rw [← hdw, hxr]; simp [hbr]
        simp (disch := first | omega | assumption) only [hpos, hbX, hg, hle, Nat.zero_mul, Nat.add_zero, go_sem, ↓reduceIte]
        refine goK_pure (bareTC x hxl) ?_
        simp (disch := first | omega | assumption) only [hbr, go_sem, ↓reduceIte]
        refine goL_st (fun x : List (List UInt8) => [(3, .ms b off x.length cp)]) (fun x H' => H' = H5 ∧ AtR cells off x ∧ trimR x = trimR cur ∧ wL x ≤ wL D ∧ x.length ≤ cp) (fun x => x.length) cur (by simp (disch := first | omega | assumption) only [go_sem, ↓reduceIte]) ⟨rfl, ha, rfl, hw, hcp⟩ ?_
        rintro u H4 J4 ⟨rfl, ha4, ht4, hw4, hc4⟩ hJ4
        by_cases hu : u = []
        · subst hu
          simp (disch := first | omega | assumption) only [List.length_nil, go_sem, ↓reduceIte]
          refine goZ_ms hbX (by decide) (by have := ha4.le; simpa using this) ?_
          have hr := ha4.rows
          simp only [List.length_nil] at hr
          simp (disch := first | omega | assumption) only [hr, go_sem, ↓reduceIte]
          refine goK_pure (joinStrC [] [10] (by simp [Lib.join]) (by simp)) ?_
          have e : blockM raw = Lib.join [] [10] := by
            unfold blockM; rw [hDM, hDc, ← ht4]; rfl
          simp (disch := first | omega | assumption) only [go_sem, ↓reduceIte]
          exact hQ _ _ _ _ nofun rfl (by simp [tupOf, envOf, AV.strip, AV.strip1, e])
        obtain ⟨q, y, hqy⟩ := snoc_of hu
        have hyl : y.length ≤ Lim := by have := wL_mem (l := u) (x := y) (by rw [hqy]; simp); simp only [Lim]; omega
        obtain ⟨hg4, hle4⟩ := ha4.get (a := q) (x := y) (r := []) hqy
        have hul : u.length = q.length + 1 := by rw [hqy]; simp
        have hpos4 : ((0 : Int) < (u.length : Int)) = True := eq_true (by omega)
        have wq : IntKind.wrap .i64 ((u.length : Int) - 1) = (q.length : Int) := by rw [wrap64 (by omega) (by have := wL_len u; omega)]; omega
        have h1q : ((q.length : Int) < (u.length : Int)) = True := eq_true (by omega)
        have h2q : ((q.length : Int) ≤ (u.length : Int)) = True := eq_true (by omega)
        cases hby : bareL y with
        | true =>
          simp (disch := first | omega | assumption) only [hpos4, wq, h1q, hbX, hg4, hle4, go_sem, ↓reduceIte]
          refine goK_pure (bareTC y hyl) ?_
          have hcut := msCut_back (b := b) (off := off) (cap := cp) (show q.length ≤ u.length by omega)
          simp (disch := first | omega | assumption) only [hby, wq, h1q, h2q, hcut, go_sem, ↓reduceIte]
          refine goJ (hJ4 q H4 (by omega) ⟨rfl, AtR.back (x := y) (by rw [← hqy]; exact ha4), by rw [← ht4, hqy, trimR_snoc, hby]; rfl, by rw [hqy, wL_app] at hw4; omega, by omega⟩) (by simp (disch := first | omega | assumption) only [go_sem, ↓reduceIte])
        | false =>
          have hlen := wL_len u
          simp (disch := first | omega | assumption) only [hpos4, wq, h1q, hbX, hg4, hle4, go_sem, ↓reduceIte]
          refine goK_pure (bareTC y hyl) ?_
          simp (disch := first | omega | assumption) only [hby, go_sem, ↓reduceIte]
          refine goZ_ms hbX (by decide) (by have := ha4.le; omega) ?_
          have hr := ha4.rows
          have hj := join_wL u
          simp (disch := first | omega | assumption) only [hr, go_sem, ↓reduceIte]
          refine goK_pure (joinStrC u [10] (by omega) (by omega)) ?_
          have e : blockM raw = Lib.join u [10] := by
            unfold blockM; rw [hDM, hDc, ← ht4, hqy, trimR_snoc, hby]; rfl
          simp (disch := first | omega | assumption) only [go_sem, ↓reduceIte]
          exact hQ _ _ _ _ nofun rfl (by simp [tupOf, envOf, AV.strip, AV.strip1, e])
    | cons y r =>
      have hlt : ((dn.length : Int) + 1 < ((linesM raw).length : Int)) = True := eq_true (by simp at hll; omega)
      have hcur : x0 :: (dn.map (fun s => s.drop n) ++ y :: r) = (x0 :: dn.map (fun s => s.drop n)) ++ y :: r := rfl
      have hg := cStr_get hcur tl
      have hle := cStr_le hcur tl
      have hal : (x0 :: dn.map (fun s => s.drop n)).length = dn.length + 1 := by simp
      have hst : ∀ z, splice (cStr (x0 :: (dn.map (fun s => s.drop n) ++ y :: r)) ++ tl) (0 + (dn.length + 1) * 1) [.str z] = cStr (x0 :: (dn.map (fun s => s.drop n) ++ z :: r)) ++ tl := fun z => by
        have := cStr_set (x0 :: dn.map (fun s => s.drop n)) y z r tl
        rw [hal] at this
        exact this
      rw [hal] at hg hle
      have h1 : ((dn.length : Int) + 1).toNat = dn.length + 1 := by omega
      have hy0 : ((0 : Int) ≤ (y.length : Int)) = True := eq_true (by omega)
      have hln : dn.length ≤ 1099511627777 := by omega
      by_cases hmin : (y.length : Int) < (n : Int)
      · have hdr : y.drop y.length = y.drop n := by rw [List.drop_length, List.drop_eq_nil_of_le (by omega)]
        simp (disch := first | omega | assumption) only [hlt, h1, hb3, hg, hle, hst, hmin, hy0, List.drop_length, go_sem, ↓reduceIte]
        refine goJ (hJ3 (dn ++ [y], r) _ (by simp) ⟨by rw [hT]; simp, ?_⟩) (by simp (disch := first | omega | assumption) only [wrap64, List.length_append, List.length_cons, List.length_nil, Int.natCast_add, go_sem, ↓reduceIte])
        rw [upd_same]
        simp [List.drop_eq_nil_of_le (show y.length ≤ n by omega)]
      · have hny : ((n : Int) ≤ (y.length : Int)) = True := eq_true (by omega)
        have hn0 : ((0 : Int) ≤ (n : Int)) = True := eq_true (by omega)
        simp (disch := first | omega | assumption) only [hlt, h1, hb3, hg, hle, hst, hmin, hny, hn0, go_sem, ↓reduceIte]
        refine goJ (hJ3 (dn ++ [y], r) _ (by simp) ⟨by rw [hT]; simp, ?_⟩) (by simp (disch := first | omega | assumption) only [wrap64, List.length_append, List.length_cons, List.length_nil, Int.natCast_add, go_sem, ↓reduceIte])
        rw [upd_same]
        simp
end Go.Proofs.YticbbfbpeimkbaaGreatDoor
set_option maxRecDepth 1000000
namespace Go.Proofs.YticbbfbpeimkbaaGreatDoor
open Go.Shelf Go.RowKit Go.Lib
section
variable {P : Program} {ρ : Ren}
def eol : ByteArray := ⟨#[13, 10]⟩
theorem eol_next_at (w : World) (k : Nat) (s : ByteArray) (pos : Nat) (ty : TypeId) (hk : w.heap[k]? = some (.stringIter s pos)) (h : pos < s.size) :
    (Instr.next (.pointer (some ⟨k, 0, none⟩)) true ty).run P w =
      .ok (.tuple #[.bool true, .int .i64 pos, .int .i32 (Utf8.decode s pos).1]) { w with heap := w.heap.setIfInBounds k (.stringIter s (pos + (Utf8.decode s pos).2)) } := by
  simp only [Instr.next, getObj, setObj, Sem.run_bind, Sem.run, hk, Result.andThen, h, if_true]
  simp [goInt]
theorem eol_next_stop (w : World) (k : Nat) (s : ByteArray) (pos : Nat) (ty : TypeId) (hk : w.heap[k]? = some (.stringIter s pos)) (h : ¬ pos < s.size) :
    (Instr.next (.pointer (some ⟨k, 0, none⟩)) true ty).run P w = .ok (.tuple #[.bool false]) w := by
  simp [Instr.next, getObj, Sem.run, hk, h]
set_option maxHeartbeats 4000000 in
theorem eol_rune_err (L : Lays.n152 P ρ) (w : World) :
    Calls P (ρ.f 152) #[.string eol, .int .i32 65533] w fun e w' => e = .returned (.int .i64 (-1)) ∧ Below w.heap.size w w' := by
  have t3 := L.t3; have a3 := L.a3; have z3 := L.z3; have v3 := L.v3
  have t4 := L.t4; have a4 := L.a4; have z4 := L.z4; have v4 := L.v4
  have t5 := L.t5; have a5 := L.a5; have z5 := L.z5; have v5 := L.v5
  have t9 := L.t9; have a9 := L.a9; have z9 := L.z9; have v9 := L.v9
  have t21 := L.t21; have a21 := L.a21; have z21 := L.z21; have v21 := L.v21
  have hsz : eol.size = 2 := rfl
  go_enter L.f152, Body.n152_ntmps ρ
  go_wp2
  go_loopg [5, 6] 2 (fun g _ _ wx => ∃ i : Nat, i + g = 2 ∧ wx = w.iter eol i)
  case atStart => exact ⟨0, by omega, rfl⟩
  case round =>
    obtain ⟨i, hig, rfl⟩ := hrel
    cases gk with
    | zero =>
      obtain rfl : i = 2 := by omega
      have hnx := fun ty => run_next_end (P := P) w eol 2 ty (by decide)
      go_wp2
      go_ret
      exact ⟨rfl, (Below.refl _ _).alloc (Nat.le_refl _) _⟩
    | succ g =>
      obtain ⟨x, hx⟩ : ∃ x : UInt8, eol[i]'(by rw [hsz]; omega) = x := ⟨_, rfl⟩
      have hxl : x.toNat = 13 ∨ x.toNat = 10 := by
        rcases (by omega : i = 0 ∨ i = 1) with rfl | rfl
        · left; rw [← hx]; rfl
        · right; rw [← hx]; rfl
      have hnx := fun ty => run_next_ascii (P := P) w eol i ty (by rw [hsz]; omega) (by rw [hx]; omega)
      rw [hx] at hnx
      have hne : ¬ ((x.toNat : Int) = 65533) := by omega
      clear hx hxl
      go_wp2
      go_roundg g
      case measure => omega
      case rel => exact ⟨i + 1, by omega, rfl⟩
set_option maxHeartbeats 8000000 in
theorem eol_rune_high (L : Lays.n152 P ρ) (r : Int) (h0 : 128 ≤ r) (h1 : r ≠ 65533) (w : World) :
    Calls P (ρ.f 152) #[.string eol, .int .i32 r] w fun e w' => e = .returned (.int .i64 (-1)) ∧ Below w.heap.size w w' := by
  have t3 := L.t3; have a3 := L.a3; have z3 := L.z3; have v3 := L.v3
  have t4 := L.t4; have a4 := L.a4; have z4 := L.z4; have v4 := L.v4
  have t5 := L.t5; have a5 := L.a5; have z5 := L.z5; have v5 := L.v5
  have t9 := L.t9; have a9 := L.a9; have z9 := L.z9; have v9 := L.v9
  have t21 := L.t21; have a21 := L.a21; have z21 := L.z21; have v21 := L.v21
  have hsz : eol.size = 2 := rfl
  have mixed := L.mixed
  have u21 := run_underlying L.t21; have u9 := run_underlying L.t9
  have e137 : ∀ args w, (callFunc (ρ.f 137) args).run P w = .ok (.enter (ρ.f 137) args) w := enters_of L.f137 (by kernel_rfl) rfl
  have e119 : ∀ args w, (callFunc (ρ.f 119) args).run P w = .ok (.enter (ρ.f 119) args) w := enters_of L.f119 (by kernel_rfl) rfl
  have hr1 : ¬ (r < 128) := by omega
  cases hv : Lib.validRune r with
  | false =>
    go_enter L.f152, Body.n152_ntmps ρ
    go_wp2_with (go_at_fn (ρ.f 119); refine (Any.utf8_ValidRune { L with } _ _).mono ?_; rintro e w' ⟨rfl, hw⟩; rw [hw, hv])
    go_ret
    exact ⟨rfl, Below.refl _ _⟩
  | true =>
    have hv' : Utf8.valid r = true := by
      unfold Lib.validRune at hv
      unfold Utf8.valid
      simp only [Bool.or_eq_true, Bool.and_eq_true, decide_eq_true_eq] at hv ⊢
      omega
    obtain ⟨f1, f2, f3⟩ := encode_facts r hv' h0
    clear hv'
    obtain ⟨rs, hrs⟩ : ∃ rs, Utf8.encode r = rs := ⟨_, rfl⟩
    rw [hrs] at f1 f2 f3
    have hconv : ∀ w, (convert (ρ.t 21) (ρ.t 9) (.int .i32 r)).run P w = .ok (.string rs) w := fun w => by
      rw [run_convert_int_string w _ _ _ _ (by rw [t21]; rfl) t9, hrs]
    have hlast : IntKind.i64.wrap ((rs.size : Int) - 1) = (rs.size : Int) - 1 := wrap_small _ (by omega) (by omega)
    clear hrs
    by_cases h2 : rs.size = 2
    · obtain ⟨b0, b1, rfl⟩ : ∃ b0 b1, rs = ⟨#[b0, b1]⟩ := by
        obtain ⟨⟨l⟩⟩ := rs
        match l, h2 with
        | [x, y], _ => exact ⟨x, y, rfl⟩
      have hb : 128 ≤ b1.toNat := f3 (by show 1 < 2; decide)
      have hz : (⟨#[b0, b1]⟩ : ByteArray).size = 2 := rfl
      have hne : ¬ ((10 : Int) = (b1.toNat : Int)) := by omega
      clear f1 f2 f3 h2
      rw [hz] at hlast
      go_enter L.f152, Body.n152_ntmps ρ
      go_wp2_with (go_at_fn (ρ.f 119); refine (Any.utf8_ValidRune { L with } _ _).mono ?_; rintro e w' ⟨rfl, hw⟩; rw [hw, hv])
      go_step3
      go_wp2
      go_loopg [9, 10] 0 (fun g s9 s10 wx => s9 = .int .i64 1 ∧ s10 = .int .i64 0 ∧ wx = w)
      case atStart => exact ⟨rfl, rfl, rfl⟩
      case round =>
        obtain ⟨rfl, rfl, rfl⟩ := hrel
        go_wp2
        go_step3
        have hx : eol[1]'(by decide) = 10 := rfl
        have hy : (⟨#[b0, b1]⟩ : ByteArray)[1]'(by show 1 < 2; decide) = b1 := rfl
        go_wp2
        go_quiet_o (fail)
        go_wp2
        have hsl : ∀ w, (Instr.slice (ρ.t 9) (.string eol) (some (.int .i64 2)) none none).run P w = .ok (.string ⟨#[]⟩) w := fun w => by
          rw [run_slice_string_from_if w _ eol .i64 2 t9]
          rfl
        generalize hW : World.drewN _ _ = W
        have HW : Aside (∃ n, W = wr.drewN n) := ⟨_, hW.symm⟩
        clear hW
        have hw2 : IntKind.i64.wrap 2 = 2 := by decide
        go_quiet_o (first | (go_at_fn (ρ.f 137); refine Calls.quiet_of_same (Any.strings_IndexByte { L with } _ _ _)))
        go_wp2
        rw [Exit.noGoto_ret]
        go_wp2
        (try rw [Exit.noGoto_ret])
        (try go_wp2)
        go_ret
        obtain ⟨n, rfl⟩ := HW.out
        exact ⟨rfl, ⟨rfl, rfl, rfl, Nat.le_refl _, fun _ _ => rfl⟩⟩
    · have hlt : ¬ ((rs.size : Int) - 1 < 2) := by omega
      go_enter L.f152, Body.n152_ntmps ρ
      go_wp2_with (go_at_fn (ρ.f 119); refine (Any.utf8_ValidRune { L with } _ _).mono ?_; rintro e w' ⟨rfl, hw⟩; rw [hw, hv])
      go_step3
      go_wp2
      go_loopg [9, 10] 0 (fun g s9 s10 wx => s9 = .int .i64 ((rs.size : Int) - 1) ∧ s10 = .int .i64 0 ∧ wx = w)
      case atStart => exact ⟨rfl, rfl, rfl⟩
      case round =>
        obtain ⟨rfl, rfl, rfl⟩ := hrel
        go_wp2
        rw [Exit.noGoto_ret]; go_wp2
        go_ret
        exact ⟨rfl, Below.refl _ _⟩
theorem eol_get_val (s : ByteArray) (i : Nat) (h : i < s.size) : s.data.toList[i]? = some (s.get! i) := by
  rw [Lib.data_getElem? s i h]
  simp [ByteArray.get!, getElem!_pos, h]
  rfl
theorem eol_decode_bytes (s : ByteArray) (pos : Nat) (h : pos < s.size) (ha : 128 ≤ (s.get! pos).toNat) :
    128 ≤ (Utf8.decode s pos).1 ∧ 1 ≤ (Utf8.decode s pos).2 ∧ pos + (Utf8.decode s pos).2 ≤ s.size ∧ ∀ j, j < (Utf8.decode s pos).2 → 128 ≤ (s.get! (pos + j)).toNat := by
  have hn : ¬ (s.get! (pos + 0)).toNat < 128 := by simpa using ha
  have h1 : ∀ (c : Nat), 128 ≤ c → 128 ≤ (c, 1).1 ∧ 1 ≤ (c, 1).2 ∧ pos + (c, 1).2 ≤ s.size ∧ ∀ j, j < (c, 1).2 → 128 ≤ (s.get! (pos + j)).toNat := fun c hc =>
    ⟨hc, Nat.le_refl _, by show pos + 1 ≤ s.size; omega, fun j hj => by
      have hj : j < 1 := hj
      obtain rfl : j = 0 := by omega
      simpa using ha⟩
  have hb : ∀ k, (s.get! (pos + k)).toNat / 64 = 2 → 128 ≤ (s.get! (pos + k)).toNat := fun k hk => by omega
  simp only [Utf8.decode, hn, if_false, Utf8.runeError]
  split
  · rename_i hc
    simp only [Bool.and_eq_true, beq_iff_eq, decide_eq_true_eq] at hc
    split
    · rename_i h2
      refine ⟨h2, by show 1 ≤ 2; omega, by show pos + 2 ≤ s.size; omega, fun j hj => ?_⟩
      have hj : j < 2 := hj
      rcases (by omega : j = 0 ∨ j = 1) with rfl | rfl
      · simpa using ha
      · exact hb 1 hc.2.2
    · exact h1 _ (by decide)
  split
  · rename_i hc
    simp only [Bool.and_eq_true, beq_iff_eq, decide_eq_true_eq] at hc
    split
    · rename_i h2
      simp only [Bool.and_eq_true, decide_eq_true_eq] at h2
      refine ⟨by have := h2.1; show 128 ≤ _; simp only; omega, by show 1 ≤ 3; omega, by show pos + 3 ≤ s.size; omega, fun j hj => ?_⟩
      have hj : j < 3 := hj
      rcases (by omega : j = 0 ∨ j = 1 ∨ j = 2) with rfl | rfl | rfl
      · simpa using ha
      · exact hb 1 hc.1.2.2
      · exact hb 2 hc.2.2
    · exact h1 _ (by decide)
  split
  · rename_i hc
    simp only [Bool.and_eq_true, beq_iff_eq, decide_eq_true_eq] at hc
    split
    · rename_i h2
      simp only [Bool.and_eq_true, decide_eq_true_eq] at h2
      refine ⟨by have := h2.1; show 128 ≤ _; simp only; omega, by show 1 ≤ 4; omega, by show pos + 4 ≤ s.size; omega, fun j hj => ?_⟩
      have hj : j < 4 := hj
      rcases (by omega : j = 0 ∨ j = 1 ∨ j = 2 ∨ j = 3) with rfl | rfl | rfl | rfl
      · simpa using ha
      · exact hb 1 hc.1.1.2.2
      · exact hb 2 hc.1.2.2
      · exact hb 3 hc.2.2
    · exact h1 _ (by decide)
  · exact h1 _ (by decide)
theorem eol_run {s : ByteArray} {i k : Nat} (h : NoAny s.data.toList eol.data.toList i) (hk : i + k ≤ s.size) (hb : ∀ j, j < k → 128 ≤ (s.get! (i + j)).toNat) : NoAny s.data.toList eol.data.toList (i + k) := fun j b hj hjb => by
  by_cases hlt : j < i
  · exact h j b hlt hjb
  · have h1 := hb (j - i) (by omega)
    rw [show i + (j - i) = j by omega] at h1
    rw [eol_get_val s j (by omega)] at hjb
    cases hjb
    show ([13, 10] : List UInt8).contains _ = false
    simp only [List.contains_cons, List.contains_nil, Bool.or_false, Bool.or_eq_false_iff, beq_eq_false_iff_ne]
    refine ⟨fun e => ?_, fun e => ?_⟩ <;> (rw [e] at h1; simp at h1)
set_option maxHeartbeats 8000000 in
theorem eol_indexAny_short (L : Lays.n153 P ρ) (s : ByteArray) (w : World) (h8 : s.size ≤ 8) :
    Calls P (ρ.f 153) #[.string s, .string eol] w fun e w' => e = .returned (.int .i64 (Lib.indexAny s.data.toList eol.data.toList)) ∧ Below w.heap.size w w' := by
  have hemp : eol.toList.isEmpty = false := by rw [Lib.toList_data]; rfl
  have hn0 : (eol.size : Int) = 2 := rfl
  have hn1 : ((eol.size : Int) == 1) = false := rfl
  have h8z : decide ((8 : Int) < (s.size : Int)) = false := decide_eq_false (by omega)
  have t3 := L.t3; have a3 := L.a3; have z3 := L.z3; have v3 := L.v3
  have t4 := L.t4; have a4 := L.a4; have z4 := L.z4; have v4 := L.v4
  have t5 := L.t5; have a5 := L.a5; have z5 := L.z5; have v5 := L.v5
  have t9 := L.t9; have a9 := L.a9; have z9 := L.z9; have v9 := L.v9
  have t21 := L.t21; have a21 := L.a21; have z21 := L.z21; have v21 := L.v21
  have e152 : ∀ args w, (callFunc (ρ.f 152) args).run P w = .ok (.enter (ρ.f 152) args) w := enters_of L.f152 (by kernel_rfl) rfl
  have e226 : ∀ args w, (callFunc (ρ.f 226) args).run P w = .ok (.enter (ρ.f 226) args) w := enters_of L.f226 (by kernel_rfl) rfl
  go_enter L.f153, Body.n153_ntmps ρ
  go_wp2_with (go_at_fn (ρ.f 226); refine (Any.strings_shouldUseASCIISet { L with } _ _).mono ?_; rintro e w' ⟨rfl, hw⟩; rw [hw, h8z])
  go_loopg [9, 10] s.size (fun g _ _ wx => ∃ i : Nat, i + g = s.size ∧ (wx.heap[w.heap.size]? = some (.stringIter s i) ∧ Below w.heap.size w wx) ∧ Lib.NoAny s.data.toList eol.data.toList i)
  case atStart => exact ⟨0, by omega, ⟨World.iter_heap w s 0, (Below.refl _ _).alloc (Nat.le_refl _) _⟩, Lib.NoAny.zero _ _⟩
  case round =>
    obtain ⟨i, hig, hst, hno⟩ := hrel
    obtain ⟨hit, hbe⟩ := hst
    have HN : Aside (Lib.NoAny s.data.toList eol.data.toList i ∧ Below w.heap.size w wr) := ⟨hno, hbe⟩
    clear hno hbe
    cases gk with
    | zero =>
      obtain rfl : i = s.size := by omega
      have hnx := fun ty => eol_next_stop (P := P) wr w.heap.size s s.size ty hit (by omega)
      go_wp2
      go_ret
      exact ⟨by rw [Lib.indexAny_none (by rw [← Lib.size_eq]; exact HN.out.1)]; rfl, HN.out.2⟩
    | succ g =>
      have hi : i < s.size := by omega
      have hnx := fun ty => eol_next_at (P := P) wr w.heap.size s i ty hit hi
      have hwlt : w.heap.size < wr.heap.size := (Array.getElem?_eq_some_iff.1 hit).1
      have hst2 : ∀ k, ({ wr with heap := wr.heap.setIfInBounds w.heap.size (.stringIter s k) } : World).heap[w.heap.size]? = some (.stringIter s k) := fun k => by
        show (wr.heap.setIfInBounds w.heap.size (.stringIter s k))[w.heap.size]? = _
        simp [hwlt]
      have hbl2 : ∀ k, Below w.heap.size w ({ wr with heap := wr.heap.setIfInBounds w.heap.size (.stringIter s k) } : World) := fun k => by
        have hb := HN.out.2
        refine ⟨hb.os, hb.tape, hb.output, by simpa using hb.size, fun n hn => ?_⟩
        show (wr.heap.setIfInBounds w.heap.size (.stringIter s k))[n]? = _
        rw [Array.getElem?_setIfInBounds_ne (by omega)]
        exact hb.block n hn
      have HB : Aside ((∀ k, ({ wr with heap := wr.heap.setIfInBounds w.heap.size (.stringIter s k) } : World).heap[w.heap.size]? = some (.stringIter s k)) ∧ (∀ k, Below w.heap.size w ({ wr with heap := wr.heap.setIfInBounds w.heap.size (.stringIter s k) } : World)) ∧ w.heap.size < wr.heap.size) := ⟨hst2, hbl2, hwlt⟩
      clear hst2 hbl2 hwlt hit
      by_cases ha : 128 ≤ (s.get! i).toNat
      · obtain ⟨d1, d2, d3, d4⟩ := eol_decode_bytes s i hi ha
        have HD : Aside (1 ≤ (Utf8.decode s i).2 ∧ i + (Utf8.decode s i).2 ≤ s.size ∧ ∀ j, j < (Utf8.decode s i).2 → 128 ≤ (s.get! (i + j)).toNat) := ⟨d2, d3, d4⟩
        clear d2 d3 d4 ha
        generalize hr : (Utf8.decode s i).1 = r at hnx d1
        generalize hk : (Utf8.decode s i).2 = k at hnx HD
        clear hr hk
        generalize hW : ({ wr with heap := wr.heap.setIfInBounds w.heap.size (.stringIter s (i + k)) } : World) = W at hnx
        have HW : Aside (W.heap[w.heap.size]? = some (.stringIter s (i + k)) ∧ Below w.heap.size w W) := ⟨by rw [← hW]; exact HB.out.1 _, by rw [← hW]; exact HB.out.2.1 _⟩
        clear hW
        have hru : Calls P (ρ.f 152) #[.string eol, .int .i32 (r : Int)] W fun e w' => e = .returned (.int .i64 (-1)) ∧ Below W.heap.size W w' := by
          by_cases he : (r : Int) = 65533
          · rw [he]; exact eol_rune_err { L with } W
          · exact eol_rune_high { L with } _ (by omega) he W
        go_wp2_with (go_at_fn (ρ.f 152); refine hru.mono ?_; rintro e w' ⟨rfl, hw⟩)
        go_roundg (s.size - (i + k))
        case measure => have := HD.out.1; omega
        case rel =>
          obtain ⟨g1, g2⟩ := HW.out
          obtain ⟨f1, f2, f3⟩ := HD.out
          have hlt : w.heap.size < W.heap.size := (Array.getElem?_eq_some_iff.1 g1).1
          exact ⟨i + k, by omega, ⟨by rw [hw.block _ hlt]; exact g1, g2.trans (hw.mono (by omega))⟩, eol_run HN.out.1 f2 f3⟩
      · have hx128 : (s[i]'hi).toNat < 128 := by
          have e : s.get! i = s[i]'hi := get_at s i hi
          rw [← e]; omega
        have hde : Utf8.decode s i = ((s[i]'hi).toNat, 1) := decode_ascii s i hi hx128
        obtain ⟨x, hx⟩ : ∃ x : UInt8, s[i]'hi = x := ⟨_, rfl⟩
        have hxl : s.data.toList[i]? = some x := by rw [← hx]; exact Lib.data_getElem? s i hi
        have Hx : Aside (s.data.toList[i]? = some x) := hxl
        rw [hde, hx] at hnx
        rw [hx] at hx128
        clear hxl hx ha hde
        have hcon := Lib.contains_iff_indexByte eol.data.toList x
        have hback : ((x.toNat : Int)).toNat.toUInt8 = x := by simp
        generalize hW : ({ wr with heap := wr.heap.setIfInBounds w.heap.size (.stringIter s (i + 1)) } : World) = W at hnx
        have HW : Aside (W.heap[w.heap.size]? = some (.stringIter s (i + 1)) ∧ Below w.heap.size w W) := ⟨by rw [← hW]; exact HB.out.1 _, by rw [← hW]; exact HB.out.2.1 _⟩
        clear hW
        cases hin : eol.data.toList.contains x
        · rw [hin] at hcon
          have hlt : ¬ ((0 : Int) ≤ Lib.indexByte eol.data.toList x) := of_decide_eq_false hcon.symm
          clear hcon
          go_wp2_with (go_at_fn (ρ.f 152); refine (Any.strings_IndexRune_ascii { L with } _ _ _ (by omega) (by omega)).mono ?_; rintro e w' ⟨rfl, hw⟩; rw [hw, hback])
          go_roundg g
          case measure => omega
          case rel => exact ⟨i + 1, by omega, HW.out, HN.out.1.succ Hx.out hin⟩
        · rw [hin] at hcon
          have hge : (0 : Int) ≤ Lib.indexByte eol.data.toList x := of_decide_eq_true hcon.symm
          clear hcon
          go_wp2_with (go_at_fn (ρ.f 152); refine (Any.strings_IndexRune_ascii { L with } _ _ _ (by omega) (by omega)).mono ?_; rintro e w' ⟨rfl, hw⟩; rw [hw, hback])
          go_ret
          exact ⟨by rw [Lib.indexAny_hit HN.out.1 Hx.out hin]; rfl, HW.out.2⟩
end
end Go.Proofs.YticbbfbpeimkbaaGreatDoor
namespace Go.Proofs.YticbbfbpeimkbaaGreatDoor
open Go.Ab Go.Lib
theorem idxEolC (s : List UInt8) (hs : s.length ≤ 4294967000) : Pure Tryz.prog 218 [.str s, .str [13, 10]] (.int .i64 (Lib.indexAny s [13, 10])) := by
  refine Pure.of_below fun γ w vs ht hv => ?_
  obtain ⟨hlv, hr⟩ := hv
  match vs, hlv with
  | [v, u], _ =>
    cases hr 0 _ _ rfl rfl
    cases hr 1 _ _ rfl rfl
    by_cases h8 : s.length ≤ 8
    · exact (eol_indexAny_short (P := Tryz.prog) Tryz.lays153 ⟨s.toArray⟩ w (by simpa [ByteArray.size] using h8)).mono fun e w' ⟨he, hw⟩ => ⟨hw, _, he, .int _ _⟩
    · refine (Tryz.strings_IndexAny_long (zero_of_info (n := 256) (by kernel_rfl)).1 ⟨s.toArray⟩ ⟨#[13, 10]⟩ w (by decide) (by simp only [ByteArray.size, List.size_toArray]; omega) (by simp only [ByteArray.size, List.size_toArray]; omega) (by decide) (fun j b hj => ?_)).mono fun e w' ⟨he, hw⟩ => ⟨?_, _, he, .int _ _⟩
      · have hj : ([13, 10] : List UInt8)[j]? = some b := hj
        match j, hj with
        | 0, hj => cases hj; decide
        | 1, hj => cases hj; decide
        | j + 2, hj => simp at hj
      · rw [hw]
        exact ((Go.RowKit.Below.refl _ _).alloc (Nat.le_refl _) _).alloc (by simp) _
theorem eol_take (r : List UInt8) : Lib.indexAny r [13, 10] = if r.all notEol then -1 else ((r.takeWhile notEol).length : Int) := by
  induction r with
  | nil => rfl
  | cons c r ih =>
    rw [Lib.indexAny, ih]
    by_cases hc : notEol c = true
    · have h1 : ([13, 10] : List UInt8).contains c = false := by
        unfold notEol at hc
        simp at hc
        simp [hc.1, hc.2]
      rw [h1]
      by_cases ha : r.all notEol = true
      · simp [ha, hc]
      · have h2 : ¬ (((r.takeWhile notEol).length : Int) = -1) := by omega
        simp [ha, hc, h2]
    · have h1 : ([13, 10] : List UInt8).contains c = true := by
        unfold notEol at hc
        simp at hc
        simp
        rcases Classical.em (c = 13) with h | h
        · exact .inl h
        · exact .inr (Classical.byContradiction fun h10 => h (hc h10))
      rw [h1]
      simp [hc]
theorem take_all {p : UInt8 → Bool} : ∀ r : List UInt8, r.all p = true → r.takeWhile p = r
  | [], _ => rfl
  | c :: r, h => by
    simp only [List.all_cons, Bool.and_eq_true] at h
    rw [List.takeWhile_cons, if_pos h.1, take_all r h.2]
theorem gapN_cons (c : UInt8) (r : List UInt8) : gapN (c :: r) = if c = 9 ∨ c = 10 ∨ c = 13 ∨ c = 32 ∨ c = 44 then 1 else if bomT.isPrefixOf (c :: r) then 3 else if c = 35 then 1 + (r.takeWhile notEol).length else 0 := rfl
theorem gapC (c : UInt8) (r : List UInt8) (hs : (c :: r).length ≤ 1000000) : Pure Tryz.prog 123 [.str (c :: r)] (.int .i64 (gapN (c :: r))) := by
  refine Pure.go ir123 ck123 (Nat.le_refl _) fun KP Q hQ => ?_
  have hl : ((0 : Int) < ((c :: r).length : Int)) = True := eq_true (by simp only [List.length_cons]; omega)
  by_cases hw : c = 9 ∨ c = 10 ∨ c = 13 ∨ c = 32 ∨ c = 44
  · have e : gapN (c :: r) = 1 := by rw [gapN_cons, if_pos hw]
    rw [e] at hQ
    rcases hw with rfl | rfl | rfl | rfl | rfl
    · have hc : ((9 : UInt8).toNat : Int) = 9 := rfl
      simp (disch := first | omega | assumption) only [ir123, hl, List.getD_cons_zero, hc, go_sem, ↓reduceIte]
      exact hQ _ _ _ _ nofun rfl (by simp [tupOf, envOf, AV.strip, AV.strip1])
    · have hc : ((10 : UInt8).toNat : Int) = 10 := rfl
      simp (disch := first | omega | assumption) only [ir123, hl, List.getD_cons_zero, hc, go_sem, ↓reduceIte]
      exact hQ _ _ _ _ nofun rfl (by simp [tupOf, envOf, AV.strip, AV.strip1])
    · have hc : ((13 : UInt8).toNat : Int) = 13 := rfl
      simp (disch := first | omega | assumption) only [ir123, hl, List.getD_cons_zero, hc, go_sem, ↓reduceIte]
      exact hQ _ _ _ _ nofun rfl (by simp [tupOf, envOf, AV.strip, AV.strip1])
    · have hc : ((32 : UInt8).toNat : Int) = 32 := rfl
      simp (disch := first | omega | assumption) only [ir123, hl, List.getD_cons_zero, hc, go_sem, ↓reduceIte]
      exact hQ _ _ _ _ nofun rfl (by simp [tupOf, envOf, AV.strip, AV.strip1])
    · have hc : ((44 : UInt8).toNat : Int) = 44 := rfl
      simp (disch := first | omega | assumption) only [ir123, hl, List.getD_cons_zero, hc, go_sem, ↓reduceIte]
      exact hQ _ _ _ _ nofun rfl (by simp [tupOf, envOf, AV.strip, AV.strip1])
  have nat : ∀ k : Nat, (c.toNat : Int) = k → k < 256 → c = UInt8.ofNat k := fun k h hk => UInt8.toNat_inj.1 (by rw [UInt8.toNat_ofNat']; omega)
  have g9 : ¬ ((c.toNat : Int) = 9) := fun e => hw (.inl (nat 9 e (by decide)))
  have g10 : ¬ ((c.toNat : Int) = 10) := fun e => hw (.inr (.inl (nat 10 e (by decide))))
  have g13 : ¬ ((c.toNat : Int) = 13) := fun e => hw (.inr (.inr (.inl (nat 13 e (by decide)))))
  have g32 : ¬ ((c.toNat : Int) = 32) := fun e => hw (.inr (.inr (.inr (.inl (nat 32 e (by decide))))))
  have g44 : ¬ ((c.toNat : Int) = 44) := fun e => hw (.inr (.inr (.inr (.inr (nat 44 e (by decide))))))
  simp (disch := first | omega | assumption) only [ir123, hl, List.getD_cons_zero, g9, g10, g13, g32, g44, go_sem, ↓reduceIte]
  refine goK_pure (prefixC (c :: r) [239, 187, 191]) ?_
  by_cases hb : ([239, 187, 191] : List UInt8).isPrefixOf (c :: r) = true
  · have e : gapN (c :: r) = 3 := by rw [gapN_cons, if_neg hw]; exact if_pos hb
    rw [e] at hQ
    simp (disch := first | omega | assumption) only [hb, go_sem, ↓reduceIte]
    exact hQ _ _ _ _ nofun rfl (by simp [tupOf, envOf, AV.strip, AV.strip1])
  have hb' : ([239, 187, 191] : List UInt8).isPrefixOf (c :: r) = false := Bool.eq_false_iff.2 hb
  by_cases h35 : c = 35
  · subst h35
    have e : gapN (35 :: r) = 1 + (r.takeWhile notEol).length := by rw [gapN_cons, if_neg hw, if_neg (show ¬ (bomT.isPrefixOf _ = true) from hb), if_pos rfl]
    rw [e] at hQ
    have hc : ((35 : UInt8).toNat : Int) = 35 := rfl
    simp (disch := first | omega | assumption) only [hb', hc, go_sem, ↓reduceIte]
    have hp := idxEolC (35 :: r) (by omega)
    rw [eol_take] at hp
    have n35 : notEol 35 = true := rfl
    by_cases ha : r.all notEol = true
    · have e2 := take_all r ha
      have e3 : (35 :: r).all notEol = true := by rw [List.all_cons, n35, ha]; rfl
      rw [if_pos e3] at hp
      refine goK_pure hp ?_
      have h0 : ¬ ((0 : Int) ≤ -1) := by decide
      simp (disch := first | omega | assumption) only [h0, go_sem, ↓reduceIte]
      exact hQ _ _ _ _ nofun rfl (by simp [tupOf, envOf, AV.strip, AV.strip1, e2, Int.add_comm])
    · have e3 : ¬ ((35 :: r).all notEol = true) := by rw [List.all_cons, n35, Bool.true_and]; exact ha
      have e2 : ((35 :: r).takeWhile notEol).length = 1 + (r.takeWhile notEol).length := by rw [List.takeWhile_cons, if_pos n35]; simp; omega
      rw [if_neg e3, e2] at hp
      refine goK_pure hp ?_
      have h0 : ((0 : Int) ≤ ((1 + (r.takeWhile notEol).length : Nat) : Int)) = True := eq_true (by omega)
      simp (disch := first | omega | assumption) only [h0, go_sem, ↓reduceIte]
      exact hQ _ _ _ _ nofun rfl (by simp [tupOf, envOf, AV.strip, AV.strip1])
  · have e : gapN (c :: r) = 0 := by rw [gapN_cons, if_neg hw, if_neg (show ¬ (bomT.isPrefixOf _ = true) from hb), if_neg h35]
    rw [e] at hQ
    have g35 : ¬ ((c.toNat : Int) = 35) := fun e => h35 (nat 35 e (by decide))
    simp (disch := first | omega | assumption) only [hb', g35, go_sem, ↓reduceIte]
    exact hQ _ _ _ _ nofun rfl (by simp [tupOf, envOf, AV.strip, AV.strip1])
theorem wordN_cons (c : UInt8) (r : List UInt8) : wordN (c :: r) = if (isL c || isD c) = true then 1 + wordN r else 0 := by
  unfold wordN
  rw [List.takeWhile_cons]
  split
  · simp; omega
  · rfl
theorem wordTC (s : List UInt8) (hs : s.length ≤ Lim) (h0 : isL (s.getD 0 0) = true) : Pure Tryz.prog 224 [.str s] (.int .i64 (wordN s)) := by
  refine Pure.go ir224 ck224 (Nat.le_refl _) fun KP Q hQ => ?_
  simp only [Lim] at hs
  have hr1 := wordN_le s
  simp (disch := first | omega | assumption) only [ir224, go_sem, ↓reduceIte]
  refine goL_st (fun n : Nat => [(3, .int .i64 n)]) (fun n H => wordN s = n + wordN (s.drop n) ∧ n ≤ s.length) (fun n => s.length - n) 0 (by simp (disch := first | omega | assumption) only [go_sem, ↓reduceIte]) ⟨by simp, by omega⟩ ?_
  rintro n H J ⟨hn, hle⟩ hJ
  rcases drop_cases s n with ⟨h1, h2⟩ | ⟨h1, h2⟩
  · have hlt : ¬ ((n : Int) < s.length) := by omega
    rw [h1] at hn
    simp only [wordN, List.takeWhile_nil, List.length_nil, Nat.add_zero] at hn
    simp (disch := first | omega | assumption) only [hlt, go_sem, ↓reduceIte]
    exact hQ _ _ _ _ nofun rfl (by simp [tupOf, envOf, AV.strip, AV.strip1, wordN, hn])
  · have hlt : ((n : Int) < s.length) := by omega
    rw [h2, wordN_cons] at hn
    simp (disch := first | omega | assumption) only [hlt, go_sem, ↓reduceIte]
    refine goK_pure (letterC (s.getD n 0)) ?_
    cases hl : isL (s.getD n 0) with
    | true =>
      simp only [hl, Bool.true_or, if_true] at hn
      simp (disch := first | omega | assumption) only [hl, go_sem, ↓reduceIte]
      exact goJ (hJ (n + 1) _ (by omega) ⟨by omega, by omega⟩) (by simp (disch := first | omega | assumption) only [wrap64, Int.natCast_add, Int.natCast_one, go_sem, ↓reduceIte])
    | false =>
      have hn0 : ((0 : Int) < (n : Int)) = True := eq_true (by
        rcases Nat.eq_zero_or_pos n with e | e
        · subst e; rw [h0] at hl; cases hl
        · omega)
      simp (disch := first | omega | assumption) only [hl, hn0, hlt, go_sem, ↓reduceIte]
      refine goK_pure (digitC (s.getD n 0)) ?_
      cases hd : isD (s.getD n 0) with
      | true =>
        simp only [hl, hd, Bool.or_true, if_true] at hn
        simp (disch := first | omega | assumption) only [hd, go_sem, ↓reduceIte]
        exact goJ (hJ (n + 1) _ (by omega) ⟨by omega, by omega⟩) (by simp (disch := first | omega | assumption) only [wrap64, Int.natCast_add, Int.natCast_one, go_sem, ↓reduceIte])
      | false =>
        simp only [hl, hd, Bool.or_false, Bool.false_eq_true, if_false, Nat.add_zero] at hn
        simp (disch := first | omega | assumption) only [hd, go_sem, ↓reduceIte]
        exact hQ _ _ _ _ nofun rfl (by simp [tupOf, envOf, AV.strip, AV.strip1, hn])
def blkA (n : Nat) (x : Option (List UInt8 × List UInt8)) : AV := match x with
  | some (raw, t) => .tup [.str (blockM raw), .int .i64 ((n - t.length : Nat) : Int)]
  | none => .tup [.str [], .int .i64 0]
theorem rawM_fuel : ∀ (n m : Nat) (raw t : List UInt8), t.length < n → t.length < m → rawM n raw t = rawM m raw t
  | 0, _, _, _, h, _ => absurd h (Nat.not_lt_zero _)
  | _, 0, _, _, _, h => absurd h (Nat.not_lt_zero _)
  | n + 1, m + 1, raw, [], _, _ => rfl
  | n + 1, m + 1, raw, c :: r, h1, h2 => by
    simp only [List.length_cons] at h1 h2
    simp only [rawM]
    rw [rawM_fuel n m (raw ++ threeT) (r.drop 3) (by simp; omega) (by simp; omega), rawM_fuel n m (raw ++ [c]) r (by omega) (by omega)]
theorem blockedC (s : List UInt8) (h3 : 3 ≤ s.length) (hs : s.length ≤ LimQ) : Pure Tryz.prog 219 [.str s] (blkA s.length (rawM (s.length - 2) [] (s.drop 3))) := by
  refine Pure.go ir219 ck219 (Nat.le_refl _) fun KP Q hQ => ?_
  simp only [LimQ] at hs
  obtain ⟨R, hR⟩ : ∃ R, rawM (s.length - 2) [] (s.drop 3) = R := ⟨_, rfl⟩
  rw [hR] at hQ
  simp (disch := first | omega | assumption) only [ir219, go_sem, ↓reduceIte]
  refine goL_st (fun x : Own × List UInt8 × Nat => [(4, .sl x.1 1 (bytesOf x.2.1)), (5, .int .i64 x.2.2)]) (fun x H => 3 ≤ x.2.2 ∧ x.2.2 ≤ s.length ∧ x.2.1.length + 3 ≤ x.2.2 ∧ rawM ((s.drop x.2.2).length + 1) x.2.1 (s.drop x.2.2) = R ∧ Owned H x.1 x.2.1.length 1) (fun x => s.length - x.2.2) (.nil, [], 3) (by simp (disch := first | omega | assumption) only [bytesOf, go_sem, ↓reduceIte]) ⟨Nat.le_refl _, h3, Nat.le_refl _, by rw [← hR]; simp only [List.length_drop]; rw [show s.length - 3 + 1 = s.length - 2 by omega], rfl⟩ ?_
  rintro ⟨o, raw, i⟩ H J ⟨hi3, hi, hrl, hrw, ho⟩ hJ
  simp only at hi3 hi hrl hrw ho
  have hbl := bytesOf_len raw
  by_cases hge : s.length ≤ i
  · obtain rfl : i = s.length := by omega
    rw [List.drop_length] at hrw
    have e : R = none := by rw [← hrw]; rfl
    have h1 : ((s.length : Int) ≤ (s.length : Int)) = True := eq_true (Int.le_refl _)
    simp (disch := first | omega | assumption) only [h1, go_sem, ↓reduceIte]
    exact hQ _ _ _ _ nofun rfl (by simp [tupOf, envOf, AV.strip, AV.strip1, blkA, e])
  have hge' : ¬ ((s.length : Int) ≤ (i : Int)) := by omega
  have hle : ((i : Int) ≤ (s.length : Int)) = True := eq_true (by omega)
  have hlt : ((i : Int) < (s.length : Int)) = True := eq_true (by omega)
  obtain ⟨c, r, hd⟩ : ∃ c r, s.drop i = c :: r := by
    cases hx : s.drop i with
    | nil => have := congrArg List.length hx; simp at this; omega
    | cons c r => exact ⟨c, r, rfl⟩
  have hc : s.getD i 0 = c := by
    have : (s.drop i).getD 0 0 = c := by rw [hd]; rfl
    simpa [List.getD_eq_getElem?_getD] using this
  have hdl : s.length = i + (r.length + 1) := by have := congrArg List.length hd; simp at this; omega
  rw [hd] at hrw
  simp only [rawM] at hrw
  simp (disch := first | omega | assumption) only [hge', hle, go_sem, ↓reduceIte]
  refine goK_pure (prefixC (s.drop i) [34, 34, 34]) ?_
  rw [hd]
  by_cases p1 : threeT.isPrefixOf (c :: r) = true
  · have p1' : ([34, 34, 34] : List UInt8).isPrefixOf (c :: r) = true := p1
    have hl3 := pre_len _ _ p1
    simp only [threeT, List.length_cons, List.length_nil] at hl3
    rw [if_pos p1] at hrw
    simp (disch := first | omega | assumption) only [p1', byts_of, go_sem, ↓reduceIte]
    refine goK_pure (blockTC raw (by omega)) ?_
    have e : ((s.length - (r.length - 2) : Nat) : Int) = (i : Int) + 3 := by omega
    simp (disch := first | omega | assumption) only [wrap64, go_sem, ↓reduceIte]
    exact hQ _ _ _ _ nofun rfl (by simp [tupOf, envOf, AV.strip, AV.strip1, blkA, ← hrw, e])
  have p1' : ([34, 34, 34] : List UInt8).isPrefixOf (c :: r) = false := Bool.eq_false_iff.2 p1
  rw [if_neg p1] at hrw
  simp (disch := first | omega | assumption) only [p1', hle, go_sem, ↓reduceIte]
  refine goK_pure (prefixC (s.drop i) [92, 34, 34, 34]) ?_
  rw [hd]
  by_cases p2 : escT.isPrefixOf (c :: r) = true
  · have p2' : ([92, 34, 34, 34] : List UInt8).isPrefixOf (c :: r) = true := p2
    have hl4 := pre_len _ _ p2
    simp only [escT, List.length_cons, List.length_nil] at hl4
    rw [if_pos p2] at hrw
    simp (disch := first | omega | assumption) only [p2', go_sem, ↓reduceIte]
    refine goP_ownS (by rw [hbl]; exact ho) (by simp [hbl, bytesOf]; omega) (by simp [hbl, bytesOf, maxLen]; omega) fun o' H' hs2 => ?_
    have hdr : s.drop (i + 4) = r.drop 3 := by rw [← List.drop_drop, hd]; rfl
    simp (disch := first | omega | assumption) only [wrap64, go_sem, ↓reduceIte]
    refine goJ (hJ (o', raw ++ threeT, i + 4) _ (by simp only; omega) ⟨by simp only; omega, by simp only; omega, by simp [threeT]; omega, ?_, ?_⟩) (by simp (disch := first | omega | assumption) only [← bytesOf_app, Int.natCast_add, threeT, bytesOf_strip, go_sem, ↓reduceIte])
    · simp only
      rw [hdr, ← hrw]
      exact rawM_fuel _ _ _ _ (Nat.lt_succ_self _) (by simp; omega)
    · have h := hs2.own
      simpa [hbl, bytesOf, threeT] using h
  · have p2' : ([92, 34, 34, 34] : List UInt8).isPrefixOf (c :: r) = false := Bool.eq_false_iff.2 p2
    rw [if_neg p2] at hrw
    simp (disch := first | omega | assumption) only [p2', hlt, hc, go_sem, ↓reduceIte]
    refine goP_ownS (by rw [hbl]; exact ho) (by simp [hbl]; omega) (by simp [hbl, maxLen]; omega) fun o' H' hs2 => ?_
    have hdr : s.drop (i + 1) = r := by rw [← List.drop_drop, hd]; rfl
    simp (disch := first | omega | assumption) only [wrap64, go_sem, ↓reduceIte]
    refine goJ (hJ (o', raw ++ [c], i + 1) _ (by simp only; omega) ⟨by simp only; omega, by simp only; omega, by simp; omega, ?_, ?_⟩) (by simp (disch := first | omega | assumption) only [← bytesOf_one, Int.natCast_add, go_sem, ↓reduceIte])
    · simp only
      rw [hdr, ← hrw]
      rfl
    · have h := hs2.own
      simpa [hbl] using h
end Go.Proofs.YticbbfbpeimkbaaGreatDoor
namespace Go.Proofs.YticbbfbpeimkbaaGreatDoor
open Go.Ab
def tokA (x : Tok) : AV := .agg [.int .i64 x.k, .str x.s]
end Go.Proofs.YticbbfbpeimkbaaGreatDoor
namespace Go.Proofs.YticbbfbpeimkbaaGreatDoor
open Go.Ab Go.Lib
theorem plainC (c : UInt8) : Pure Tryz.prog 221 [.int .u8 (c.toNat : Int)] (.bool (lineB c)) := by
  refine Pure.go ir221 ck221 (Nat.le_refl _) fun KP Q hQ => ?_
  by_cases h10 : c = 10
  · subst h10
    have hc : ((10 : UInt8).toNat : Int) = 10 := rfl
    simp (disch := first | omega | assumption) only [ir221, hc, go_sem, ↓reduceIte]
    exact hQ _ _ _ _ nofun rfl (by simp [tupOf, envOf, AV.strip, AV.strip1, lineB])
  have g10 : ¬ ((c.toNat : Int) = 10) := fun e => h10 (UInt8.toNat_inj.1 (by show c.toNat = 10; omega))
  by_cases h13 : c = 13
  · subst h13
    have hc : ((13 : UInt8).toNat : Int) = 13 := rfl
    simp (disch := first | omega | assumption) only [ir221, hc, go_sem, ↓reduceIte]
    exact hQ _ _ _ _ nofun rfl (by simp [tupOf, envOf, AV.strip, AV.strip1, lineB])
  have g13 : ¬ ((c.toNat : Int) = 13) := fun e => h13 (UInt8.toNat_inj.1 (by show c.toNat = 13; omega))
  simp (disch := first | omega | assumption) only [ir221, g10, g13, go_sem, ↓reduceIte]
  exact hQ _ _ _ _ nofun rfl (by simp [tupOf, envOf, AV.strip, AV.strip1, lineB, h10, h13])
theorem oneT_cons (c : UInt8) (r : List UInt8) : oneT (c :: r) = if threeT.isPrefixOf (c :: r) then (rawM (r.length + 1) [] (r.drop 2)).map fun x => (⟨5, blockM x.1⟩, x.2)
    else if c = 34 then (quoM lineB r).map fun x => (⟨5, x.1⟩, x.2)
    else if dotsT.isPrefixOf (c :: r) then some (⟨1, dotsT⟩, r.drop 2)
    else if 0 ≤ Lib.indexByte marksT c then some (⟨1, [c]⟩, r)
    else if isL c then some (⟨2, (c :: r).take (wordN (c :: r))⟩, (c :: r).drop (wordN (c :: r)))
    else if (numN (c :: r)).1 = 0 then none
    else if ((c :: r).drop (numN (c :: r)).1).head?.any fun d => isL d || isD d || decide (d = 46) then none
    else some (⟨(numN (c :: r)).2, (c :: r).take (numN (c :: r)).1⟩, (c :: r).drop (numN (c :: r)).1) := rfl
def oneA (s : List UInt8) : AV := match oneT s with
  | some (x, t) => .tup [tokA x, .int .i64 ((s.length - t.length : Nat) : Int)]
  | none => .tup [tokA ⟨if s.head? = some 34 then 5 else 0, []⟩, .int .i64 0]
theorem oneA_some {s t : List UInt8} {x : Tok} (h : oneT s = some (x, t)) : oneA s = .tup [tokA x, .int .i64 ((s.length - t.length : Nat) : Int)] := by unfold oneA; rw [h]
theorem oneA_none {s : List UInt8} (h : oneT s = none) : oneA s = .tup [tokA ⟨if s.head? = some 34 then 5 else 0, []⟩, .int .i64 0] := by unfold oneA; rw [h]
theorem oneC (c : UInt8) (r : List UInt8) (hs : (c :: r).length ≤ LimQ) : Pure Tryz.prog 124 [.str (c :: r)] (oneA (c :: r)) := by
  have hcl : (c :: r).length = r.length + 1 := rfl
  have hg0 : (c :: r).getD 0 0 = c := rfl
  have ht1 : (c :: r).take 1 = [c] := rfl
  have ed : (c :: r).drop 3 = r.drop 2 := rfl
  have hhd : (c :: r).head? = some c := rfl
  have hquo := fun h34 : c = 34 => (by rw [h34]; exact quotedC 221 (by decide +kernel) lineB plainC 34 r (by simpa [h34] using hs) : Pure Tryz.prog 220 [.str (c :: r), .clo 221 [] []] (quoA lineB r))
  have ot := oneT_cons c r
  have hpl3 : threeT.isPrefixOf (c :: r) = true → c = 34 := fun p1 => by
    simp only [threeT, List.isPrefixOf, Bool.and_eq_true, beq_iff_eq] at p1
    exact p1.1.symm
  generalize hsc : c :: r = s at *
  refine Pure.go ir124 ck124 (Nat.le_refl _) fun KP Q hQ => ?_
  have hsq := hs
  simp only [LimQ] at hs
  have hsl : s.length ≤ Lim := by simp only [Lim]; omega
  have hl : ((0 : Int) < (s.length : Int)) = True := eq_true (by omega)
  have hl1 : ((1 : Int) ≤ (s.length : Int)) = True := eq_true (by omega)
  simp (disch := first | omega | assumption) only [ir124, go_sem, ↓reduceIte]
  refine goA_intro fun b0 hb0 => ?_
  simp (disch := first | omega | assumption) only [hl, hg0, go_sem, ↓reduceIte]
  refine goK_pure (prefixC s [34, 34, 34]) ?_
  by_cases p1 : threeT.isPrefixOf s = true
  · have p1' : ([34, 34, 34] : List UInt8).isPrefixOf s = true := p1
    have hl3 := pre_len _ _ p1
    simp only [threeT, List.length_cons, List.length_nil] at hl3
    have h34 : c = 34 := hpl3 p1
    simp (disch := first | omega | assumption) only [p1', go_sem, ↓reduceIte]
    refine goK_pure (blockedC s hl3 hsq) ?_
    have ef : rawM (s.length - 2) [] (r.drop 2) = rawM (r.length + 1) [] (r.drop 2) := rawM_fuel _ _ _ _ (by rw [List.length_drop]; omega) (by rw [List.length_drop]; omega)
    rw [ed, ef]
    have e1 : oneT s = (rawM (r.length + 1) [] (r.drop 2)).map fun x => (⟨5, blockM x.1⟩, x.2) := by
      rw [ot, if_pos p1]
    cases hx : rawM (r.length + 1) [] (r.drop 2) with
    | none =>
      rw [hx] at e1
      have e := oneA_none e1
      rw [if_pos (by rw [hhd, h34])] at e
      simp (disch := first | omega | assumption) only [blkA, go_sem, ↓reduceIte]
      exact hQ _ _ _ [.agg [.int .i64 5, .str []], .int .i64 0] nofun (by simp (disch := first | omega | assumption) only [ir124, resvs, resv, go_sem, ↓reduceIte]) (by simp [tupOf, AV.strip, AV.strip1, e, tokA])
    | some x =>
      obtain ⟨raw, t⟩ := x
      rw [hx] at e1
      have e := oneA_some e1
      simp (disch := first | omega | assumption) only [blkA, go_sem, ↓reduceIte]
      exact hQ _ _ _ [.agg [.int .i64 5, .str (blockM raw)], .int .i64 (((s.length - t.length : Nat)) : Int)] nofun (by simp (disch := first | omega | assumption) only [ir124, resvs, resv, go_sem, ↓reduceIte]) (by simp [tupOf, AV.strip, AV.strip1, e, tokA])
  have p1' : ([34, 34, 34] : List UInt8).isPrefixOf s = false := Bool.eq_false_iff.2 p1
  by_cases c34 : c = 34
  · have hc : (c.toNat : Int) = 34 := by rw [c34]; rfl
    simp (disch := first | omega | assumption) only [p1', hc, go_sem, ↓reduceIte]
    refine goK_pure (hquo c34) ?_
    have e1 : oneT s = (quoM lineB r).map fun x => (⟨5, x.1⟩, x.2) := by
      rw [ot, if_neg p1, if_pos c34]
    cases hx : quoM lineB r with
    | none =>
      rw [hx] at e1
      have e := oneA_none e1
      rw [if_pos (by rw [hhd, c34])] at e
      simp (disch := first | omega | assumption) only [quoA, hx, go_sem, ↓reduceIte]
      exact hQ _ _ _ [.agg [.int .i64 5, .str []], .int .i64 0] nofun (by simp (disch := first | omega | assumption) only [ir124, resvs, resv, go_sem, ↓reduceIte]) (by simp [tupOf, AV.strip, AV.strip1, e, tokA])
    | some x =>
      obtain ⟨b, t⟩ := x
      rw [hx] at e1
      have e := oneA_some e1
      rw [hcl] at e
      simp (disch := first | omega | assumption) only [quoA, hx, go_sem, ↓reduceIte]
      exact hQ _ _ _ [.agg [.int .i64 5, .str b], .int .i64 (((r.length + 1 - t.length : Nat)) : Int)] nofun (by simp (disch := first | omega | assumption) only [ir124, resvs, resv, go_sem, ↓reduceIte]) (by simp [tupOf, AV.strip, AV.strip1, e, tokA])
  have g34 : ¬ ((c.toNat : Int) = 34) := fun e => c34 (UInt8.toNat_inj.1 (by show c.toNat = 34; omega))
  have hno : ¬ (s.head? = some 34) := by rw [hhd]; simpa using c34
  simp (disch := first | omega | assumption) only [p1', g34, go_sem, ↓reduceIte]
  refine goK_pure (prefixC s [46, 46, 46]) ?_
  by_cases p2 : dotsT.isPrefixOf s = true
  · have p2' : ([46, 46, 46] : List UInt8).isPrefixOf s = true := p2
    have hl3 := pre_len _ _ p2
    have hd3 : dotsT.length = 3 := rfl
    rw [hd3] at hl3
    have e1 : oneT s = some (⟨1, dotsT⟩, r.drop 2) := by
      rw [ot, if_neg p1, if_neg c34, if_pos p2]
    have e := oneA_some e1
    have e2 : s.length - (r.drop 2).length = 3 := by rw [List.length_drop]; omega
    rw [e2] at e
    have e3 : dotsT = [46, 46, 46] := rfl
    simp (disch := first | omega | assumption) only [p2', go_sem, ↓reduceIte]
    exact hQ _ _ _ [.agg [.int .i64 1, .str [46, 46, 46]], .int .i64 3] nofun (by simp (disch := first | omega | assumption) only [ir124, resvs, resv, go_sem, ↓reduceIte]) (by simp [tupOf, AV.strip, AV.strip1, e, tokA, e3])
  have p2' : ([46, 46, 46] : List UInt8).isPrefixOf s = false := Bool.eq_false_iff.2 p2
  simp (disch := first | omega | assumption) only [p2', go_sem, ↓reduceIte]
  refine goK_pure (idxByteC marksT c) ?_
  by_cases hm : 0 ≤ Lib.indexByte marksT c
  · have e1 : oneT s = some (⟨1, [c]⟩, r) := by
      rw [ot, if_neg p1, if_neg c34, if_neg p2, if_pos hm]
    have e := oneA_some e1
    have e2 : s.length - r.length = 1 := by omega
    rw [e2] at e
    have e3 := ht1
    simp (disch := first | omega | assumption) only [hm, hl1, e3, go_sem, ↓reduceIte]
    exact hQ _ _ _ [.agg [.int .i64 1, .str [c]], .int .i64 1] nofun (by simp (disch := first | omega | assumption) only [ir124, resvs, resv, go_sem, ↓reduceIte]) (by simp [tupOf, AV.strip, AV.strip1, e, tokA])
  simp (disch := first | omega | assumption) only [hm, go_sem, ↓reduceIte]
  refine goK_pure (letterC c) ?_
  by_cases hL : isL c = true
  · have e1 : oneT s = some (⟨2, s.take (wordN s)⟩, s.drop (wordN s)) := by
      rw [ot, if_neg p1, if_neg c34, if_neg p2, if_neg hm, if_pos hL]
    have e := oneA_some e1
    have hwl := wordN_le s
    have e2 : s.length - (s.drop (wordN s)).length = wordN s := by rw [List.length_drop]; omega
    rw [e2] at e
    have h2 : ((wordN s : Int) ≤ (s.length : Int)) = True := eq_true (by omega)
    simp (disch := first | omega | assumption) only [hL, go_sem, ↓reduceIte]
    refine goK_pure (wordTC s hsl (by rw [hg0]; exact hL)) ?_
    simp (disch := first | omega | assumption) only [h2, go_sem, ↓reduceIte]
    exact hQ _ _ _ [.agg [.int .i64 2, .str (s.take (wordN s))], .int .i64 (wordN s : Int)] nofun (by simp (disch := first | omega | assumption) only [ir124, resvs, resv, go_sem, ↓reduceIte]) (by simp [tupOf, AV.strip, AV.strip1, e, tokA])
  have hL' : isL c = false := by simpa using hL
  simp (disch := first | omega | assumption) only [hL', go_sem, ↓reduceIte]
  refine goK_pure (numberC s hsl) ?_
  have hnl := numN_le1 s
  have hn2 : (numN s).1 = 0 → (numN s).2 = 0 := fun h => by
    unfold numN at h ⊢
    split at h
    · rename_i h0; rw [if_pos h0]
    · rename_i h0; simp only at h; omega
  have e0 : oneT s = if (numN s).1 = 0 then none
      else if (s.drop (numN s).1).head?.any fun d => isL d || isD d || decide (d = 46) then none
      else some (⟨(numN s).2, s.take (numN s).1⟩, s.drop (numN s).1) := by
    rw [ot, if_neg p1, if_neg c34, if_neg p2, if_neg hm, if_neg hL]
  generalize hnn : (numN s).1 = n at *
  generalize hkk : (numN s).2 = k at *
  have hnle : ((n : Int) ≤ (s.length : Int)) = True := eq_true (by omega)
  have fin : (n ≠ 0 → oneT s = some (⟨k, s.take n⟩, s.drop n)) → oneA s = .tup [tokA ⟨k, s.take n⟩, .int .i64 (n : Int)] := fun h => by
    by_cases hz : n = 0
    · rw [if_pos hz] at e0
      rw [oneA_none e0, if_neg hno, hz, hn2 hz]; rfl
    · rw [oneA_some (h hz)]
      have e2 : s.length - (s.drop n).length = n := by rw [List.length_drop]; omega
      rw [e2]
  have bad : (s.drop n).head?.any (fun d => isL d || isD d || decide (d = 46)) = true → oneA s = .tup [tokA ⟨0, []⟩, .int .i64 0] := fun h => by
    have : oneT s = none := by
      rw [e0]
      split
      · rfl
      · first | rfl | exact if_pos h
    rw [oneA_none this, if_neg hno]
  rcases drop_cases s n with ⟨h1, h2⟩ | ⟨h1, h2⟩
  · have hlt : ¬ ((n : Int) < (s.length : Int)) := by omega
    have e := fin fun hz => by rw [e0, if_neg hz, h1]; rfl
    simp (disch := first | omega | assumption) only [hlt, hnle, go_sem, ↓reduceIte]
    exact hQ _ _ _ [.agg [.int .i64 k, .str (s.take n)], .int .i64 (n : Int)] nofun (by simp (disch := first | omega | assumption) only [ir124, resvs, resv, go_sem, ↓reduceIte]) (by simp [tupOf, AV.strip, AV.strip1, e, tokA])
  · have hlt : ((n : Int) < (s.length : Int)) = True := eq_true (by omega)
    generalize hdd : s.getD n 0 = d at *
    have ha : (s.drop n).head?.any (fun d => isL d || isD d || decide (d = 46)) = (isL d || isD d || decide (d = 46)) := by rw [h2]; rfl
    rw [ha] at bad
    simp (disch := first | omega | assumption) only [hlt, hdd, go_sem, ↓reduceIte]
    refine goK_pure (letterC d) ?_
    cases hld : isL d with
    | true =>
      have e := bad (by rw [hld]; rfl)
      simp (disch := first | omega | assumption) only [hld, go_sem, ↓reduceIte]
      exact hQ _ _ _ [.agg [.int .i64 0, .str []], .int .i64 0] nofun (by simp (disch := first | omega | assumption) only [ir124, resvs, resv, go_sem, ↓reduceIte]) (by simp [tupOf, AV.strip, AV.strip1, e, tokA])
    | false =>
      simp (disch := first | omega | assumption) only [hld, hlt, hdd, go_sem, ↓reduceIte]
      refine goK_pure (digitC d) ?_
      cases hdg : isD d with
      | true =>
        have e := bad (by rw [hdg]; simp)
        simp (disch := first | omega | assumption) only [hdg, go_sem, ↓reduceIte]
        exact hQ _ _ _ [.agg [.int .i64 0, .str []], .int .i64 0] nofun (by simp (disch := first | omega | assumption) only [ir124, resvs, resv, go_sem, ↓reduceIte]) (by simp [tupOf, AV.strip, AV.strip1, e, tokA])
      | false =>
        by_cases h46 : d = 46
        · have e := bad (by rw [h46]; simp)
          have g46 : (d.toNat : Int) = 46 := by rw [h46]; rfl
          simp (disch := first | omega | assumption) only [hdg, hlt, hdd, g46, go_sem, ↓reduceIte]
          exact hQ _ _ _ [.agg [.int .i64 0, .str []], .int .i64 0] nofun (by simp (disch := first | omega | assumption) only [ir124, resvs, resv, go_sem, ↓reduceIte]) (by simp [tupOf, AV.strip, AV.strip1, e, tokA])
        · have g46 : ¬ ((d.toNat : Int) = 46) := fun e => h46 (UInt8.toNat_inj.1 (by show d.toNat = 46; omega))
          have e := fin fun hz => by rw [e0, if_neg hz, ha, hld, hdg]; simp [h46]
          simp (disch := first | omega | assumption) only [hdg, hlt, hdd, g46, hnle, go_sem, ↓reduceIte]
          exact hQ _ _ _ [.agg [.int .i64 k, .str (s.take n)], .int .i64 (n : Int)] nofun (by simp (disch := first | omega | assumption) only [ir124, resvs, resv, go_sem, ↓reduceIte]) (by simp [tupOf, AV.strip, AV.strip1, e, tokA])
theorem code_in {l : List UInt8} (hne : l ≠ []) : (codeN l).2 ≤ l.length ∧ (codeN l).1 ≤ 1114111 := by
  by_cases h : (codeN l).2 = 0
  · refine ⟨by omega, ?_⟩
    unfold codeN at h ⊢
    split at h
    · rename_i h0; rw [if_pos h0]; decide
    · split at h
      · rename_i h0 h1; rw [if_neg h0, if_pos h1]; decide
      · rename_i h0 h1
        have := dec_ok h0 h1
        have := this.pos
        omega
  · obtain ⟨e, h1⟩ := codeN_dec hne h
    have hd := dec_ok hne h1
    rw [e]
    refine ⟨?_, hd.le⟩
    have hl := hd.len
    exact hl
theorem sourceC (s : List UInt8) (hs : s.length ≤ Lim) : Pure Tryz.prog 122 [.str s] (.bool (srcB s)) := by
  refine Pure.go ir122 ck122 (Nat.le_refl _) fun KP Q hQ => ?_
  have hs' := hs
  simp only [Lim] at hs
  simp (disch := first | omega | assumption) only [ir122, go_sem, ↓reduceIte]
  refine goL_st (fun i : Nat => [(3, .int .i64 i)]) (fun i H => srcB s = srcB (s.drop i) ∧ i ≤ s.length) (fun i => s.length - i) 0 (by simp (disch := first | omega | assumption) only [go_sem, ↓reduceIte]) ⟨by simp, by omega⟩ ?_
  rintro i H J ⟨hn, hle⟩ hJ
  by_cases hlt : i < s.length
  case neg =>
    have hlt' : ¬ ((i : Int) < s.length) := by omega
    rw [List.drop_of_length_le (by omega)] at hn
    simp (disch := first | omega | assumption) only [hlt', go_sem, ↓reduceIte]
    exact hQ _ _ _ _ nofun rfl (by simp [tupOf, envOf, AV.strip, AV.strip1, hn, srcB_nil])
  have hlt' : ((i : Int) < s.length) = True := eq_true (by omega)
  have hne : s.drop i ≠ [] := fun e => by have := congrArg List.length e; simp at this; omega
  obtain ⟨hk, hcm⟩ := code_in hne
  rw [List.length_drop] at hk
  simp (disch := first | omega | assumption) only [hlt', go_sem, ↓reduceIte]
  refine goK_pure (codeC s i hlt hs') ?_
  rw [srcB_step hne, List.drop_drop] at hn
  generalize (codeN (s.drop i)).1 = c at *
  generalize (codeN (s.drop i)).2 = k at *
  by_cases hk0 : 0 < k
  · have hk0' : ((0 : Int) < (k : Int)) = True := eq_true (by omega)
    simp (disch := first | omega | assumption) only [hk0', go_sem, ↓reduceIte]
    refine goK_pure (signC c hcm) ?_
    cases hsg : signB c with
    | true =>
      rw [hsg] at hn
      simp only [hk0, decide_true, Bool.true_and] at hn
      simp (disch := first | omega | assumption) only [wrap64, go_sem, ↓reduceIte]
      exact goJ (hJ (i + k) _ (by omega) ⟨hn, by omega⟩) (by simp (disch := first | omega | assumption) only [Int.natCast_add, go_sem, ↓reduceIte])
    | false =>
      rw [hsg] at hn
      simp only [Bool.false_and, Bool.and_false] at hn
      simp (disch := first | omega | assumption) only [go_sem, ↓reduceIte]
      exact hQ _ _ _ _ nofun rfl (by simp [tupOf, envOf, AV.strip, AV.strip1, hn])
  · have hk0' : ¬ ((0 : Int) < (k : Int)) := by omega
    simp only [hk0, decide_false, Bool.false_and] at hn
    simp (disch := first | omega | assumption) only [hk0', go_sem, ↓reduceIte]
    exact hQ _ _ _ _ nofun rfl (by simp [tupOf, envOf, AV.strip, AV.strip1, hn])
def readA : Except Int (List Tok) → AV
  | .ok l => .tup [.sl .no 2 (cKs l), .int .i64 0]
  | .error e => .tup [.sl .no 2 [], .int .i64 e]
def readF (l : List Tok) (t : List UInt8) : Except Int (List Tok) := readG (t.length + 1) l t
theorem readF_nil (l : List Tok) : readF l [] = .ok l := rfl
theorem readF_gap {l : List Tok} {t : List UInt8} (hne : t ≠ []) (h : gapN t ≠ 0) : readF l t = readF l (t.drop (gapN t)) := by
  have h1 := gapN_le t
  have h2 : 0 < t.length := List.length_pos_iff.2 hne
  unfold readF
  conv => lhs; unfold readG
  rw [if_neg hne, if_pos h]
  exact readG_fuel _ _ _ _ (by simp; omega) (Nat.lt_succ_self _)
theorem readF_none {l : List Tok} {t : List UInt8} (hne : t ≠ []) (h : gapN t = 0) (h1 : oneT t = none) : readF l t = .error 2 := by
  unfold readF
  conv => lhs; unfold readG
  rw [if_neg hne, if_neg (by omega), h1]
theorem readF_some {l : List Tok} {t t' : List UInt8} {x : Tok} (hne : t ≠ []) (h : gapN t = 0) (h1 : oneT t = some (x, t')) : readF l t = readF (l ++ [x]) t' := by
  have h2 := oneT_lt h1
  unfold readF
  conv => lhs; unfold readG
  rw [if_neg hne, if_neg (by omega), h1]
  exact readG_fuel _ _ _ _ (by omega) (Nat.lt_succ_self _)
theorem rawM_suf : ∀ (n : Nat) (raw t b t' : List UInt8), rawM n raw t = some (b, t') → t' <:+ t
  | 0, _, _, _, _, h => by cases h
  | n + 1, raw, [], _, _, h => by cases h
  | n + 1, raw, c :: r, b, t', h => by
    simp only [rawM] at h
    split at h
    · cases h; exact (List.drop_suffix _ _).trans (List.suffix_cons ..)
    split at h
    · exact (rawM_suf n _ _ _ _ h).trans ((List.drop_suffix _ _).trans (List.suffix_cons ..))
    · exact (rawM_suf n _ _ _ _ h).trans (List.suffix_cons ..)
theorem oneT_suffix {s t : List UInt8} {x : Tok} (h : oneT s = some (x, t)) : t <:+ s := by
  cases s with
  | nil => cases h
  | cons c r =>
    simp only [oneT] at h
    split at h
    · cases hr : rawM (r.length + 1) [] (r.drop 2) with
      | none => rw [hr] at h; cases h
      | some y =>
        rw [hr] at h
        simp only [Option.map_some, Option.some.injEq, Prod.mk.injEq] at h
        obtain ⟨_, rfl⟩ := h
        exact (rawM_suf _ _ _ _ _ (show rawM _ _ _ = some (y.1, y.2) from hr)).trans ((List.drop_suffix _ _).trans (List.suffix_cons ..))
    split at h
    · cases hr : quoM lineB r with
      | none => rw [hr] at h; cases h
      | some y =>
        rw [hr] at h
        simp only [Option.map_some, Option.some.injEq, Prod.mk.injEq] at h
        obtain ⟨_, rfl⟩ := h
        exact (quoM_suf (t' := y.2) (b := y.1) hr).1.trans (List.suffix_cons ..)
    split at h
    · cases h; exact (List.drop_suffix _ _).trans (List.suffix_cons ..)
    split at h
    · cases h; exact List.suffix_cons ..
    split at h
    · cases h; exact List.drop_suffix _ _
    split at h
    · cases h
    split at h
    · cases h
    · cases h; exact List.drop_suffix _ _
theorem oneT_suf {s t : List UInt8} {x : Tok} (h : oneT s = some (x, t)) : s.drop (s.length - t.length) = t := by
  obtain ⟨p, hp⟩ := oneT_suffix h
  rw [← hp]; simp
theorem gapU {u : List UInt8} (hne : u ≠ []) (hs : u.length ≤ 1000000) : Pure Tryz.prog 123 [.str u] (.int .i64 (gapN u)) := by
  cases u with
  | nil => exact absurd rfl hne
  | cons c r => exact gapC c r hs
theorem oneU {u : List UInt8} (hne : u ≠ []) (hs : u.length ≤ LimQ) : Pure Tryz.prog 124 [.str u] (oneA u) := by
  cases u with
  | nil => exact absurd rfl hne
  | cons c r => exact oneC c r hs
theorem readTC (s : List UInt8) (hs : s.length ≤ LimQ) : Pure Tryz.prog 57 [.str s] (readA (readT s)) := by
  refine Pure.go ir57 ck57 (Nat.le_refl _) fun KP Q hQ => ?_
  have hsq := hs
  simp only [LimQ] at hs
  by_cases h8 : 8192 < s.length
  · have g8 : ((8192 : Int) < (s.length : Int)) = True := eq_true (by omega)
    simp (disch := first | omega | assumption) only [ir57, g8, go_sem, ↓reduceIte]
    exact hQ _ _ _ _ nofun rfl (by simp [tupOf, envOf, AV.strip, AV.strip1, readT, h8, readA])
  have g8 : ¬ ((8192 : Int) < (s.length : Int)) := by omega
  simp (disch := first | omega | assumption) only [ir57, g8, go_sem, ↓reduceIte]
  refine goK_pure (sourceC s (by simp only [Lim]; omega)) ?_
  cases hsb : srcB s with
  | false =>
    simp (disch := first | omega | assumption) only [go_sem, ↓reduceIte]
    exact hQ _ _ _ _ nofun rfl (by simp [tupOf, envOf, AV.strip, AV.strip1, readT, h8, hsb, readA])
  | true =>
    have e0 : readT s = readF [] s := by unfold readT readF; rw [if_neg h8, if_pos hsb]
    rw [e0] at hQ
    simp (disch := first | omega | assumption) only [go_sem, ↓reduceIte]
    refine goL_st (fun x : Own × List Tok × Nat => [(4, .sl x.1 2 (cKs x.2.1)), (5, .int .i64 x.2.2)]) (fun x H => x.2.2 ≤ s.length ∧ x.2.1.length ≤ x.2.2 ∧ readF [] s = readF x.2.1 (s.drop x.2.2) ∧ OwnS Heap.emp .nil H x.1 x.2.1.length 2) (fun x => s.length - x.2.2) (.nil, [], 0) (by simp (disch := first | omega | assumption) only [cKs, List.map_nil, go_sem, ↓reduceIte]) ⟨Nat.zero_le _, Nat.le_refl _, rfl, OwnS.refl rfl⟩ ?_
    rintro ⟨o, l, i⟩ H J ⟨hi, hll, hr, hso⟩ hJ
    simp only at hi hll hr hso
    have hcl := cKs_len l
    by_cases hlt : i < s.length
    case neg =>
      have hlt' : ¬ ((i : Int) < s.length) := by omega
      rw [List.drop_of_length_le (by omega), readF_nil] at hr
      simp (disch := first | omega | assumption) only [hlt', go_sem, ↓reduceIte]
      exact hQ _ _ _ _ nofun rfl (by simp [tupOf, envOf, AV.strip, AV.strip1, hr, readA, cKs_strip])
    have hlt' : ((i : Int) < s.length) = True := eq_true (by omega)
    have hle' : ((i : Int) ≤ s.length) = True := eq_true (by omega)
    obtain ⟨u, hd⟩ : ∃ u, s.drop i = u := ⟨_, rfl⟩
    have hdl : s.length = i + u.length := by have := congrArg List.length hd; rw [List.length_drop] at this; omega
    have hne : u ≠ [] := fun e => by rw [e] at hdl; simp at hdl; omega
    rw [hd] at hr
    simp (disch := first | omega | assumption) only [hlt', hle', hd, go_sem, ↓reduceIte]
    refine goK_pure (gapU hne (by omega)) ?_
    have hgl := gapN_le u
    by_cases hg : gapN u = 0
    case neg =>
      have hg' : ((0 : Int) < (gapN u : Int)) = True := eq_true (by omega)
      simp (disch := first | omega | assumption) only [hg', wrap64, go_sem, ↓reduceIte]
      refine goJ (hJ (o, l, i + gapN u) _ (by simp only; omega) ⟨by simp only; omega, by simp only; omega, ?_, hso⟩) (by simp (disch := first | omega | assumption) only [Int.natCast_add, go_sem, ↓reduceIte])
      simp only
      rw [hr, readF_gap hne hg, ← List.drop_drop, hd]
    have hg' : ¬ ((0 : Int) < (gapN u : Int)) := by omega
    simp (disch := first | omega | assumption) only [hg', hle', hd, go_sem, ↓reduceIte]
    refine goK_pure (oneU hne (by simp only [LimQ]; omega)) ?_
    cases ho : oneT u with
    | none =>
      rw [readF_none hne hg ho] at hr
      rw [oneA_none ho]
      simp (disch := first | omega | assumption) only [tokA, go_sem, ↓reduceIte]
      refine goA_intro fun b1 hb1 => ?_
      simp (disch := first | omega | assumption) only [go_sem, ↓reduceIte]
      exact hQ _ _ _ _ nofun rfl (by simp [tupOf, envOf, AV.strip, AV.strip1, hr, readA])
    | some x =>
      obtain ⟨x, t⟩ := x
      have hlt2 := oneT_lt ho
      have hsf := oneT_suf ho
      rw [readF_some hne hg ho] at hr
      rw [oneA_some ho]
      have hz : ¬ (((u.length - t.length : Nat) : Int) = 0) := by omega
      simp (disch := first | omega | assumption) only [tokA, go_sem, ↓reduceIte]
      refine goA_intro fun b1 hb1 => ?_
      simp (disch := first | omega | assumption) only [hz, go_sem, ↓reduceIte]
      refine goP_ownS (by rw [hcl]; exact (hso.upd hb1).own) (by simp only [hcl, List.length_cons, List.length_nil]; omega) (by simp only [hcl, List.length_cons, List.length_nil, maxLen]; omega) fun o' H' hs2 => ?_
      simp (disch := first | omega | assumption) only [wrap64, go_sem, ↓reduceIte]
      refine goJ (hJ (o', l ++ [x], i + (u.length - t.length)) H' (by simp only; omega) ⟨by simp only; omega, by simp; omega, ?_, (hso.upd (x := .cells [.int .i64 x.k, .str x.s]) hb1).trans (by simpa [hcl] using hs2)⟩) (by simp (disch := first | omega | assumption) only [← cKs_app, Int.natCast_add, go_sem, ↓reduceIte])
      simp only
      rw [hr, ← List.drop_drop, hd, hsf]
end Go.Proofs.YticbbfbpeimkbaaGreatDoor
namespace Go.Proofs.YticbbfbpeimkbaaGreatDoor
open Go.Ab
end Go.Proofs.YticbbfbpeimkbaaGreatDoor
namespace Go.Proofs.YticbbfbpeimkbaaGreatDoor
open Go.Ab
theorem WR.after {H0 H1 H : Heap} {o0 o1 o : Own} {w B : Nat} {l0 l tk : List Tok} {ok0 r : Bool} {dp : Int} (h : WR H1 o1 w l0 ok0 dp B r tk H o l) (hs : WStep H0 o0 w H1 o1) {x : AObj} (hw : H1 w = some x) : WR H0 o0 w l0 ok0 dp B r tk H o l :=
  ⟨h.here, hs.trans hw h.st, h.len, h.eq⟩
end Go.Proofs.YticbbfbpeimkbaaGreatDoor
namespace Go.Proofs.YticbbfbpeimkbaaGreatDoor
open Go.Ab
def exV : Val := .mk 6 0 [] [.mk 2 1 [] [] [], .mk 8 0 [97] [] []] []
theorem exV_plain : plainV exV = true := by decide
theorem exV_good : goodV exV = true := by decide
theorem exV_depth : depthV exV = 1 := by decide
theorem exV_tok : toksV exV = [⟨1, [91]⟩, ⟨3, Lib.itoa 1⟩, ⟨1, [36]⟩, ⟨2, [97]⟩, ⟨1, [93]⟩] := by
  simp [toksV, exV_plain]
  simp [exV, tokV, tokVs]
def ex2V : Val := .mk 5 0 [116, 114, 117, 101] [] []
theorem ex2V_good : goodV ex2V = false := by decide
theorem exV_wf : wfV exV := by simp [exV, wfV, wfVs, wfMs, inR]
theorem awakeC : Pure Tryz.prog 54 [] (.bool true) := by
  refine Pure.go ir54 ck54 (Nat.le_refl _) fun KP Q hQ => ?_
  simp (disch := first | omega | assumption) only [ir54, go_sem, ↓reduceIte]
  refine goA_intro fun b hb => ?_
  simp (disch := first | omega | assumption) only [go_sem, ↓reduceIte]
  refine goK_pure (Pure.low (TokensC exV exV_wf (by decide))) ?_
  rw [exV_tok, exV_plain]
  simp (disch := first | omega | assumption) only [cKs, cK, go_sem, ↓reduceIte]
  refine goK_pure (Pure.low (goodVC exV (by decide))) ?_
  rw [exV_good]
  simp (disch := first | omega | assumption) only [go_sem, ↓reduceIte]
  refine goK_pure (Pure.low (depthC exV (by decide))) ?_
  rw [exV_depth]
  simp (disch := first | omega | assumption) only [go_sem, ↓reduceIte]
  refine goK_pure (Pure.low (goodVC ex2V (by decide))) ?_
  rw [ex2V_good]
  simp (disch := first | omega | assumption) only [go_sem, ↓reduceIte]
  exact hQ _ _ _ _ nofun rfl (by simp [tupOf, envOf, AV.strip, AV.strip1])
end Go.Proofs.YticbbfbpeimkbaaGreatDoor
namespace Go.Proofs.YticbbfbpeimkbaaGreatDoor
open Go.Ab
abbrev pl (v : Val) : Prop := allV nameM v = true
inductive Shape : Val → Prop
  | null : Shape (.mk 0 0 [] [] [])
  | bool (n : Int) (h : n = 0 ∨ n = 1) : Shape (.mk 1 n [] [] [])
  | int (n : Int) : Shape (.mk 2 n [] [] [])
  | num (s : List UInt8) (h : numB s = true) : Shape (.mk 3 0 s [] [])
  | text (s : List UInt8) : Shape (.mk 4 0 s [] [])
  | word (s : List UInt8) (h : resB s = false) : Shape (.mk 5 0 s [] [])
  | var (s : List UInt8) : Shape (.mk 8 0 s [] [])
  | list (l : List Val) (h : allVs nameM l = true) : Shape (.mk 6 0 [] l [])
  | obj (m : List Mem) (h : allMs nameM m = true) : Shape (.mk 7 0 [] [] m)
theorem bareM_iff {n : Int} {s : List UInt8} {l : List Val} {m : List Mem} : bareM n s l m = true ↔ n = 0 ∧ s = [] ∧ l = [] ∧ m = [] := by
  simp [bareM]
theorem shape : ∀ v, pl v → Shape v
  | .mk k n s l m, h => by
    simp only [pl, allV] at h
    split at h
    · rename_i k6
      subst k6
      simp only [Bool.and_eq_true, bareM_iff] at h
      obtain ⟨h1, rfl, rfl, _, rfl⟩ := h
      exact .list l h1
    · split at h
      · rename_i k7
        subst k7
        simp only [Bool.and_eq_true, bareM_iff] at h
        obtain ⟨h1, rfl, rfl, rfl, _⟩ := h
        exact .obj m h1
      · simp only [singleM, Bool.and_eq_true, bareM_iff] at h
        obtain ⟨⟨_, _, rfl, rfl⟩, h⟩ := h
        split at h
        · rename_i k0
          subst k0
          simp only [Bool.and_eq_true, decide_eq_true_eq] at h
          obtain ⟨rfl, rfl⟩ := h
          exact .null
        split at h
        · rename_i k0
          subst k0
          simp only [Bool.and_eq_true, Bool.or_eq_true, decide_eq_true_eq] at h
          obtain ⟨h, rfl⟩ := h
          exact .bool n h
        split at h
        · rename_i k0
          subst k0
          simp only [decide_eq_true_eq] at h
          subst h
          exact .int n
        split at h
        · rename_i k0
          subst k0
          simp only [Bool.and_eq_true, decide_eq_true_eq] at h
          obtain ⟨rfl, h⟩ := h
          exact .num s h
        split at h
        · rename_i k0
          subst k0
          simp only [Bool.and_eq_true, decide_eq_true_eq] at h
          obtain ⟨rfl, h⟩ := h
          exact .text s
        split at h
        · rename_i k0
          subst k0
          simp only [Bool.and_eq_true, decide_eq_true_eq, Bool.not_eq_true'] at h
          obtain ⟨rfl, _, h⟩ := h
          exact .word s h
        split at h
        · rename_i k0
          subst k0
          simp only [Bool.and_eq_true, decide_eq_true_eq] at h
          obtain ⟨rfl, _⟩ := h
          exact .var s
        · cases h
end Go.Proofs.YticbbfbpeimkbaaGreatDoor
namespace Go.Proofs.YticbbfbpeimkbaaGreatDoor
open Go.Ab
end Go.Proofs.YticbbfbpeimkbaaGreatDoor
namespace Go.Proofs.YticbbfbpeimkbaaGreatDoor
open Go.Ab
end Go.Proofs.YticbbfbpeimkbaaGreatDoor
namespace Go.Proofs.YticbbfbpeimkbaaGreatDoor
open Go.Ab
end Go.Proofs.YticbbfbpeimkbaaGreatDoor
namespace Go.Proofs.YticbbfbpeimkbaaGreatDoor
open Go.Ab
end Go.Proofs.YticbbfbpeimkbaaGreatDoor
namespace Go.Proofs.YticbbfbpeimkbaaGreatDoor
open Go.Ab
theorem wT_app (a b : List Tok) : wT (a ++ b) = wT a + wT b := by simp [wT]
theorem wT_nil : wT [] = 0 := rfl
mutual
theorem wV_le : ∀ v, wfV v → wT (tokV v) + 16 ≤ 64 * bV v
  | .mk k n s l m, ⟨hn, hl, hm⟩ => by
    have h1 := wVs_le l hl
    have h2 := wMs_le m hm
    have h3 : (Lib.itoa n).length ≤ 21 := by
      have e : ∀ u : Nat, u < 18446744073709551616 → (Lib.decDigits u).length ≤ 20 := fun u hu => by
        rw [Lib.decDigits_length]; exact Lib.nDigits_le20 u hu
      unfold Lib.itoa; split
      · have := e n.natAbs (by have := hn.1; omega)
        simp; omega
      · have := e n.toNat (by have := hn.2; omega)
        omega
    have h4 : (boolT (decide (n = 1))).length ≤ 5 := by unfold boolT; split <;> simp
    simp only [tokV, bV]
    repeat' split
    all_goals simp only [wT_cons, wT_app, wT_nil, wK, List.length_cons, List.length_nil]
    all_goals omega
theorem wVs_le : ∀ l, wfVs l → wT (tokVs l) ≤ 64 * bVs l
  | [], _ => by simp [tokVs, wT]
  | v :: r, ⟨h, hr⟩ => by
    have h1 := wV_le v h
    have h2 := wVs_le r hr
    simp only [tokVs, bVs, wT_app]; omega
theorem wM_le : ∀ x, wfM x → wT (tokM x) ≤ 64 * bM x
  | .mk s v, h => by
    have h1 := wV_le v h
    simp only [tokM, bM, wT_cons, wK, List.length_cons, List.length_nil]; omega
theorem wMs_le : ∀ l, wfMs l → wT (tokMs l) ≤ 64 * bMs l
  | [], _ => by simp [tokMs, wT]
  | v :: r, ⟨h, hr⟩ => by
    have h1 := wM_le v h
    have h2 := wMs_le r hr
    simp only [tokMs, bMs, wT_app]; omega
end
end Go.Proofs.YticbbfbpeimkbaaGreatDoor
namespace Go.Proofs.YticbbfbpeimkbaaGreatDoor
open Go.Ab
theorem mem_app3 {P : Tok → Prop} {a b : Tok} {l : List Tok} (ha : P a) (hb : P b) (hl : ∀ x ∈ l, P x) : ∀ x ∈ a :: (l ++ [b]), P x := fun x hx => by
  rcases List.mem_cons.1 hx with rfl | hx
  · exact ha
  rcases List.mem_append.1 hx with hx | hx
  · exact hl x hx
  · rw [List.mem_singleton] at hx; subst hx; exact hb
mutual
theorem tokV_rk : ∀ v : Val, allV nameM v = true → wfV v → ∀ x ∈ tokV v, rightK x = true
  | .mk k n s l m, h, hw => by
    simp only [allV] at h
    simp only [tokV]
    have rm : ∀ c : UInt8, isMark [c] = true → rightK ⟨1, [c]⟩ = true := fun c hc => by simp [rightK, hc]
    have rw2 : ∀ s : List UInt8, nameM s = true → rightK ⟨2, s⟩ = true := fun s hs => by simp [rightK, hs]
    by_cases k6 : k = 6
    · subst k6
      simp only [if_true, Bool.and_eq_true] at h
      simp only [show ¬ ((6 : Int) = 0) by decide, show ¬ ((6 : Int) = 1) by decide, show ¬ ((6 : Int) = 2) by decide, show ¬ ((6 : Int) = 3) by decide, show ¬ ((6 : Int) = 4) by decide, show ¬ ((6 : Int) = 5) by decide, show ¬ ((6 : Int) = 8) by decide, if_true, if_false]
      exact mem_app3 (P := fun x => rightK x = true) (rm 91 (by decide)) (rm 93 (by decide)) (tokVs_rk l h.1 hw.2.1)
    by_cases k7 : k = 7
    · subst k7
      simp only [show ¬ ((7 : Int) = 6) by decide, if_true, if_false, Bool.and_eq_true] at h
      simp only [show ¬ ((7 : Int) = 0) by decide, show ¬ ((7 : Int) = 1) by decide, show ¬ ((7 : Int) = 2) by decide, show ¬ ((7 : Int) = 3) by decide, show ¬ ((7 : Int) = 4) by decide, show ¬ ((7 : Int) = 5) by decide, show ¬ ((7 : Int) = 8) by decide, show ¬ ((7 : Int) = 6) by decide, if_false]
      exact mem_app3 (P := fun x => rightK x = true) (rm 123 (by decide)) (rm 125 (by decide)) (tokMs_rk m h.1 hw.2.2)
    rw [if_neg k6, if_neg k7] at h
    simp only [singleM, Bool.and_eq_true] at h
    obtain ⟨_, h⟩ := h
    by_cases k0 : k = 0
    · rw [if_pos k0]
      intro x hx; rw [List.mem_singleton] at hx; subst hx; exact rw2 _ (by decide)
    rw [if_neg k0] at h ⊢
    by_cases k1 : k = 1
    · rw [if_pos k1]
      intro x hx; rw [List.mem_singleton] at hx; subst hx
      cases decide (n = 1) <;> exact rw2 _ (by decide)
    rw [if_neg k1] at h ⊢
    by_cases k2 : k = 2
    · rw [if_pos k2]
      intro x hx; rw [List.mem_singleton] at hx; subst hx
      have h1 := (itoa_whole hw.1).1
      unfold wholeB at h1
      simp only [Bool.and_eq_true, decide_eq_true_eq] at h1
      simp [rightK, h1.2]
    rw [if_neg k2] at h ⊢
    by_cases k3 : k = 3
    · rw [if_pos k3] at h ⊢
      intro x hx; rw [List.mem_singleton] at hx; subst hx
      simp only [numB, Bool.and_eq_true, Bool.or_eq_true, decide_eq_true_eq] at h
      rcases h.2 with h4 | h4
      · simp [rightK, h4]
      · simp [rightK, h4.1]
    rw [if_neg k3] at h ⊢
    by_cases k4 : k = 4
    · rw [if_pos k4] at h ⊢
      intro x hx; rw [List.mem_singleton] at hx; subst hx
      simp only [Bool.and_eq_true] at h
      simp [rightK, h.2]
    rw [if_neg k4] at h ⊢
    by_cases k5 : k = 5
    · rw [if_pos k5] at h ⊢
      intro x hx; rw [List.mem_singleton] at hx; subst hx
      simp only [Bool.and_eq_true] at h
      exact rw2 _ h.2.1
    rw [if_neg k5] at h ⊢
    by_cases k8 : k = 8
    · rw [if_pos k8] at h ⊢
      simp only [Bool.and_eq_true] at h
      intro x hx
      rcases List.mem_cons.1 hx with rfl | hx
      · exact rm 36 (by decide)
      · rw [List.mem_singleton] at hx; subst hx; exact rw2 _ h.2
    · rw [if_neg k8] at h; cases h
theorem tokVs_rk : ∀ l : List Val, allVs nameM l = true → wfVs l → ∀ x ∈ tokVs l, rightK x = true
  | [], _, _ => fun x hx => by cases hx
  | v :: r, h, hw => fun x hx => by
    simp only [allVs, Bool.and_eq_true] at h
    rcases List.mem_append.1 hx with hx | hx
    · exact tokV_rk v h.1 hw.1 x hx
    · exact tokVs_rk r h.2 hw.2 x hx
theorem tokM_rk : ∀ v : Mem, allM nameM v = true → wfM v → ∀ x ∈ tokM v, rightK x = true
  | .mk s v, h, hw => fun x hx => by
    simp only [allM, Bool.and_eq_true] at h
    simp only [tokM] at hx
    rcases List.mem_cons.1 hx with rfl | hx
    · simp [rightK, h.1]
    rcases List.mem_cons.1 hx with rfl | hx
    · have : isMark [58] = true := by decide
      simp [rightK, this]
    · exact tokV_rk v h.2 hw x hx
theorem tokMs_rk : ∀ l : List Mem, allMs nameM l = true → wfMs l → ∀ x ∈ tokMs l, rightK x = true
  | [], _, _ => fun x hx => by cases hx
  | v :: r, h, hw => fun x hx => by
    simp only [allMs, Bool.and_eq_true] at h
    rcases List.mem_append.1 hx with hx | hx
    · exact tokM_rk v h.1 hw.1 x hx
    · exact tokMs_rk r h.2 hw.2 x hx
end
theorem vreads (a : Val) (wa : wfV a) (hB : 4 * bV a ≤ Lim) : Pure Tryz.prog 13 [.agg (cV a)] (.bool true) := by
  have hb' : bV a ≤ Lim := by omega
  refine Pure.go ir13 ck13 (Nat.le_refl _) fun KP Q hQ => ?_
  simp (disch := first | omega | assumption) only [cV_len, cV_take, cV_splice, cM_len, cM_take, cM_splice, cM_mk, ir13, go_sem, ↓reduceIte]
  refine goK_pure (sizeC a hb') ?_
  by_cases h1 : (2000 : Int) < bV a
  · simp (disch := first | omega | assumption) only [cV_len, cV_take, cV_splice, cM_len, cM_take, cM_splice, cM_mk, h1, go_sem, ↓reduceIte]
    refine goK_pure awakeC ?_
    simp (disch := first | omega | assumption) only [go_sem, ↓reduceIte]
    exact hQ _ _ _ _ nofun rfl (by simp [tupOf, envOf, AV.strip, AV.strip1])
  simp (disch := first | omega | assumption) only [cV_len, cV_take, cV_splice, cM_len, cM_take, cM_splice, cM_mk, h1, go_sem, ↓reduceIte]
  refine goK_pure (TokensC a wa hB) ?_
  cases pa : plainV a with
  | false =>
    simp (disch := first | omega | assumption) only [cV_len, cV_take, cV_splice, cM_len, cM_take, cM_splice, cM_mk, pa, go_sem, ↓reduceIte]
    refine goK_pure awakeC ?_
    simp (disch := first | omega | assumption) only [go_sem, ↓reduceIte]
    exact hQ _ _ _ _ nofun rfl (by simp [tupOf, envOf, AV.strip, AV.strip1])
  | true =>
    have ta : toksV a = tokV a := by simp [toksV, pa]
    have pa' : pl a := by simp only [plainV, Bool.and_eq_true] at pa; exact pa.1
    have hw := wV_le a wa
    have hr : (tokV a).all rightK = true := List.all_eq_true.2 (tokV_rk a pa' wa)
    have htp : tprint (tokV a) = (tjoin (tokV a), true) := by unfold tprint; rw [if_pos hr]
    simp (disch := first | omega | assumption) only [cV_len, cV_take, cV_splice, cM_len, cM_take, cM_splice, cM_mk, pa, ta, go_sem, ↓reduceIte]
    refine goK_pure (printTC (tokV a) (by simp only [Lim]; omega)) ?_
    rw [htp]
    by_cases h2 : (8192 : Int) < ((tjoin (tokV a)).length : Int)
    · simp (disch := first | omega | assumption) only [cV_len, cV_take, cV_splice, cM_len, cM_take, cM_splice, cM_mk, h2, go_sem, ↓reduceIte]
      refine goK_pure awakeC ?_
      simp (disch := first | omega | assumption) only [go_sem, ↓reduceIte]
      exact hQ _ _ _ _ nofun rfl (by simp [tupOf, envOf, AV.strip, AV.strip1])
    simp (disch := first | omega | assumption) only [cV_len, cV_take, cV_splice, cM_len, cM_take, cM_splice, cM_mk, h2, go_sem, ↓reduceIte]
    refine goK_pure (readTC (tjoin (tokV a)) (by simp only [LimQ]; omega)) ?_
    rw [readT_join (tokV a) hr (by omega)]
    simp (disch := first | omega | assumption) only [cV_len, cV_take, cV_splice, cM_len, cM_take, cM_splice, cM_mk, readA, go_sem, ↓reduceIte]
    refine goK_pure (sameTokensR _ _ (by have := tokV_le a; simp only [Lim] at hB ⊢; omega)) ?_
    have he : eqd (tokV a) (tokV a) = true := by simp [eqd]
    simp (disch := first | omega | assumption) only [cV_len, cV_take, cV_splice, cM_len, cM_take, cM_splice, cM_mk, he, go_sem, ↓reduceIte]
    refine goK_pure awakeC ?_
    simp (disch := first | omega | assumption) only [go_sem, ↓reduceIte]
    exact hQ _ _ _ _ nofun rfl (by simp [tupOf, envOf, AV.strip, AV.strip1])
end Go.Proofs.YticbbfbpeimkbaaGreatDoor
