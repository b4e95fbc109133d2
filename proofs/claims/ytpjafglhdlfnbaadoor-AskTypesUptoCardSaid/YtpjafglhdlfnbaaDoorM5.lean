/- Texts joined: Jr Put Jo Jaw Row RowV. -/
import Derived.Test.YtpjafglhdlfnbaaDoorCards
import Derived.Test.YtpjafglhdlfnbaaDoorTie
import Derived.Lib.LaidIn
import Derived.Lib.LaidU8T
import Derived.Lib.LaidTab
import Derived.Deep.DeepHandedRow
import Derived.Deep.DeepWitnessRowRef
import Derived.ProofKit
import Derived.SizedLaws
import Derived.OpenShut
import Derived.Test.YtpjafglhdlfnbaaDoorM1
import Derived.Test.YtpjafglhdlfnbaaDoorM2
import Derived.Test.YtpjafglhdlfnbaaDoorM3
import Derived.Test.YtpjafglhdlfnbaaDoorM4
set_option maxRecDepth 100000
set_option linter.unusedSimpArgs false
set_option linter.unusedVariables false
namespace Go.Proofs.YtpjafglhdlfnbaaDoor
open Go.Ab Go.Lib
structure SdOk (q : Sd) (acc : List UInt8) : Prop where
  ok : q.ok = true
  small : ∀ u ∈ q.u, u < 128
  eq : acc = q.b ++ q.u.map UInt8.ofNat
theorem join_small : ∀ u : List Nat, (∀ x ∈ u, x < 128) → joinM u = some (u.map UInt8.ofNat)
  | [], _ => rfl
  | u :: r, h => by
    have h1 := h u (.head _)
    have h2 := join_small r fun x hx => h x (.tail _ hx)
    have e : encM u = [UInt8.ofNat u] := by unfold encM; rw [if_pos (by omega)]
    cases r with
    | nil => simp only [joinM]; rw [if_neg (by omega), if_neg (by omega), e]; rfl
    | cons v r => rw [joinM, if_neg (by omega), if_neg (by omega), h2, e]; rfl
theorem SdOk.flush {q : Sd} {acc : List UInt8} (h : SdOk q acc) : flushM q = ⟨acc, [], true⟩ := by
  unfold flushM; rw [join_small _ h.small, h.ok, h.eq]; rfl
theorem SdOk.put {q : Sd} {acc : List UInt8} (h : SdOk q acc) (c : UInt8) : SdOk (q.put c) (acc ++ [c]) := by
  unfold Sd.put; rw [h.flush]; exact ⟨rfl, by simp, by simp⟩
theorem SdOk.unit {q : Sd} {acc : List UInt8} (h : SdOk q acc) {u : Nat} (hu : u < 128) : SdOk ⟨q.b, q.u ++ [u], q.ok⟩ (acc ++ [UInt8.ofNat u]) :=
  ⟨h.ok, fun x hx => by rcases List.mem_append.1 hx with e | e; exact h.small x e; simp at e; omega, by rw [h.eq]; simp⟩
theorem unit_low : ∀ x : Fin 32, ∀ t, unitM (48 :: 48 :: hexL.getD (x.val / 16) 0 :: hexL.getD (x.val % 16) 0 :: t) = some x.val := by
  intro x t
  have h0 : hexD 48 = some 0 := by decide
  have h1 : ∀ y : Fin 32, hexD (hexL.getD (y.val / 16) 0) = some (y.val / 16) := by decide
  have h2 : ∀ y : Fin 32, hexD (hexL.getD (y.val % 16) 0) = some (y.val % 16) := by decide
  unfold unitM
  simp only [unitG, h0, h1 x, h2 x]
  congr 1; omega
theorem esc_q {q : Sd} {acc : List UInt8} (h : SdOk q acc) (c : UInt8) (hc : c = 34 ∨ c = 92) (t : List UInt8) : escM q (c :: t) = some (q.put c, t) := by
  rcases hc with rfl | rfl
  · simp only [escM]; rw [if_neg (by decide), if_neg (by decide)]; rfl
  · simp only [escM]; rw [if_neg (by decide), if_neg (by decide)]; rfl
theorem esc_u (q : Sd) (c : UInt8) (hc : c.toNat < 32) (t : List UInt8) : escM q (117 :: 48 :: 48 :: hexL.getD (c.toNat / 16) 0 :: hexL.getD (c.toNat % 16) 0 :: t) = some (⟨q.b, q.u ++ [c.toNat], q.ok⟩, t) := by
  simp only [escM]
  rw [if_pos trivial]
  have := unit_low ⟨c.toNat, hc⟩ t
  simp only at this
  rw [this]; rfl
theorem quoG_q (may : UInt8 → Bool) (hm : ∀ c : UInt8, 32 ≤ c.toNat → may c = true) : ∀ (s : List UInt8) (n : Nat) (q : Sd) (acc t : List UInt8), SdOk q acc → (s.flatMap qB).length < n → ∃ q', quoG may n (s.flatMap qB ++ 34 :: t) q = some (q', t) ∧ q'.ok = true ∧ q'.b = acc ++ s
  | [], n + 1, q, acc, t, h, _ => ⟨flushM q, by simp [quoG], by rw [h.flush], by rw [h.flush]; simp⟩
  | [], 0, q, acc, t, h, hn => by simp at hn
  | c :: s, 0, q, acc, t, h, hn => by simp at hn
  | c :: s, n + 1, q, acc, t, h, hn => by
    rw [List.flatMap_cons] at hn ⊢
    rw [List.append_assoc]
    rw [List.length_append] at hn
    by_cases h1 : c = 34 ∨ c = 92
    · have e : qB c = [92, c] := by unfold qB; rw [if_pos h1]
      rw [e] at hn ⊢
      simp only [List.length_cons, List.length_nil] at hn
      simp only [List.cons_append, List.nil_append, quoG]
      rw [if_neg (by decide), if_pos trivial, esc_q h c h1]
      obtain ⟨q', h2, h3, h4⟩ := quoG_q may hm s n (q.put c) (acc ++ [c]) t (h.put c) (by omega)
      exact ⟨q', h2, h3, by rw [h4]; simp⟩
    · by_cases h2 : c.toNat < 32
      · have e : qB c = [92, 117, 48, 48, hexL.getD (c.toNat / 16) 0, hexL.getD (c.toNat % 16) 0] := by unfold qB; rw [if_neg h1, if_pos h2]
        rw [e] at hn ⊢
        simp only [List.length_cons, List.length_nil] at hn
        simp only [List.cons_append, List.nil_append, quoG]
        rw [if_neg (by decide), if_pos trivial, esc_u q c h2]
        obtain ⟨q', h2', h3, h4⟩ := quoG_q may hm s n _ (acc ++ [UInt8.ofNat c.toNat]) t (h.unit (by omega)) (by omega)
        exact ⟨q', h2', h3, by rw [h4]; simp⟩
      · have e : qB c = [c] := by unfold qB; rw [if_neg h1, if_neg h2]
        rw [e] at hn ⊢
        simp only [List.length_cons, List.length_nil] at hn
        simp only [List.cons_append, List.nil_append, quoG]
        rw [if_neg (fun e => h1 (.inl e)), if_neg (fun e => h1 (.inr e)), if_pos (hm c (by omega))]
        obtain ⟨q', h2', h3, h4⟩ := quoG_q may hm s n (q.put c) (acc ++ [c]) t (h.put c) (by omega)
        exact ⟨q', h2', h3, by rw [h4]; simp⟩
theorem quoM_q (s t : List UInt8) : quoM hiB (s.flatMap qB ++ 34 :: t) = some (s, t) := by
  unfold quoM
  obtain ⟨q', h1, h2, h3⟩ := quoG_q hiB (fun c h => by simp [hiB, h]) s ((s.flatMap qB ++ 34 :: t).length + 1) ⟨[], [], true⟩ [] t ⟨rfl, by simp, rfl⟩ (by simp only [List.length_append, List.length_cons]; omega)
  rw [h1]
  simp only [h2, if_true, h3, List.nil_append]
theorem bk34 : bk 34 = false := by decide
theorem skB_no {c : UInt8} {t : List UInt8} (h : bk c = false) : skB (c :: t) = c :: t := by rw [skB, h]; rfl
theorem textM_q (s t : List UInt8) : textM (quoteM s ++ t) = .ok (s, t) := by
  unfold textM quoteM
  rw [List.cons_append, skB_no bk34, List.append_assoc, if_pos (by simp [List.isPrefixOf])]
  simp only [List.tail_cons, List.cons_append, List.nil_append]
  rw [quoM_q]
theorem nch_D (c : UInt8) : isD c = true → nch c = true := u8_all (P := fun c => isD c = true → nch c = true) (by decide +kernel) c
theorem nch_E (c : UInt8) : isE c = true → nch c = true := u8_all (P := fun c => isE c = true → nch c = true) (by decide +kernel) c
theorem nst_D (c : UInt8) : isD c = true → nst c = true := u8_all (P := fun c => isD c = true → nst c = true) (by decide +kernel) c
theorem nst_other (c : UInt8) : nst c = true → bk c = false ∧ c ≠ 123 ∧ c ≠ 91 ∧ c ≠ 34 ∧ c ≠ 93 ∧ c ≠ 125 ∧ c.toNat < 128 := u8_all (P := fun c => nst c = true → bk c = false ∧ c ≠ 123 ∧ c ≠ 91 ∧ c ≠ 34 ∧ c ≠ 93 ∧ c ≠ 125 ∧ c.toNat < 128) (by decide +kernel) c
theorem nch_low (c : UInt8) : nch c = true → c.toNat < 128 := u8_all (P := fun c => nch c = true → c.toNat < 128) (by decide +kernel) c
theorem run1_take : ∀ (l : List UInt8) (c : UInt8), c ∈ l.take (run1 l) → isD c = true
  | [], c, h => by simp at h
  | x :: l, c, h => by
    rw [run1] at h
    split at h
    · rename_i hx
      rw [List.take_succ_cons] at h
      rcases List.mem_cons.1 h with e | e
      · rw [e]; exact hx
      · exact run1_take l c e
    · simp at h
theorem take_mono {l : List UInt8} {a b : Nat} (h : a ≤ b) {c : UInt8} (hc : c ∈ l.take a) : c ∈ l.take b :=
  (List.take_prefix_take_left h).subset hc
theorem intN_run (s : List UInt8) : intN s ≤ run1 s := by unfold intN; split <;> (try split) <;> omega
theorem intN_take {l : List UInt8} {c : UInt8} (h : c ∈ l.take (intN l)) : isD c = true := run1_take l c (take_mono (intN_run l) h)
theorem wholeN_take {s : List UInt8} {c : UInt8} (h : c ∈ s.take (wholeN s)) : nch c = true := by
  by_cases h45 : s.head? = some 45
  · cases s with
    | nil => simp at h
    | cons x t =>
      have hx : x = 45 := by simpa using h45
      subst hx
      rw [wholeN_neg] at h
      by_cases h0 : run1 t = 0
      · rw [if_pos h0] at h; simp at h
      · rw [if_neg h0, Nat.add_comm, List.take_succ_cons] at h
        rcases List.mem_cons.1 h with e | e
        · rw [e]; decide
        · exact nch_D c (intN_take e)
  · rw [wholeN_pos h45] at h
    exact nch_D c (intN_take h)
theorem fracN_take {s : List UInt8} {c : UInt8} (h : c ∈ s.take (fracN s)) : nch c = true := by
  unfold fracN at h
  split at h
  · rename_i h46
    cases s with
    | nil => simp at h
    | cons x t =>
      have hx : x = 46 := by simpa using h46.1
      subst hx
      simp only [List.tail_cons] at h
      rw [Nat.add_comm, List.take_succ_cons] at h
      rcases List.mem_cons.1 h with e | e
      · rw [e]; decide
      · exact nch_D c (run1_take _ c e)
  · simp at h
theorem whole_head {s : List UInt8} (h : wholeN s ≠ 0) : ∃ c t, s = c :: t ∧ nst c = true := by
  cases s with
  | nil => exact absurd (by decide) h
  | cons c t =>
    refine ⟨c, t, rfl, ?_⟩
    by_cases hc : c = 45
    · rw [hc]; decide
    · rw [wholeN_pos (by simpa using hc)] at h
      apply nst_D
      cases hd : isD c with
      | true => rfl
      | false => exact absurd (by simp [intN, run1, hd]) h
theorem sgN_take {r : List UInt8} {c : UInt8} (h : c ∈ r.take (sgN r)) : nch c = true := by
  unfold sgN at h
  split at h
  · rename_i hs
    cases r with
    | nil => simp at h
    | cons x t =>
      simp only [List.head?_cons, Option.some.injEq] at hs
      simp at h
      subst h
      rcases hs with rfl | rfl <;> decide
  · simp at h
theorem powN_take : ∀ (s : List UInt8) (c : UInt8), c ∈ s.take (powN s) → nch c = true
  | [], c, h => by simp at h
  | x :: r, c, h => by
    rw [powN] at h
    split at h
    · rename_i hx
      split at h
      · simp at h
      · rw [Nat.add_assoc, Nat.add_comm, List.take_succ_cons] at h
        rcases List.mem_cons.1 h with e | e
        · rw [e]; exact nch_E x hx
        · rw [List.take_add] at e
          rcases List.mem_append.1 e with e | e
          · exact sgN_take e
          · exact nch_D c (run1_take _ c e)
    · simp at h
theorem num_text {s : List UInt8} (h : numK s ≠ 0) : (∀ c ∈ s, nch c = true) ∧ ∃ c t, s = c :: t ∧ nst c = true := by
  unfold numK at h
  split at h
  · rename_i hl
    unfold numN at h hl
    split at h
    · exact absurd rfl h
    · rename_i hw
      rw [if_neg hw] at hl
      simp only at hl
      refine ⟨fun c hc => ?_, whole_head hw⟩
      have e : s = s.take (wholeN s + fracN (s.drop (wholeN s)) + powN (s.drop (wholeN s + fracN (s.drop (wholeN s))))) := by rw [hl, List.take_length]
      rw [e, List.take_add, List.take_add] at hc
      rcases List.mem_append.1 hc with hc | hc
      · rcases List.mem_append.1 hc with hc | hc
        · exact wholeN_take hc
        · exact fracN_take hc
      · exact powN_take _ _ hc
  · exact absurd rfl h
def NoN (r : List UInt8) : Prop := ∀ c, r.head? = some c → nch c = false
theorem takeN : ∀ (s r : List UInt8), (∀ c ∈ s, nch c = true) → NoN r → (s ++ r).takeWhile nch = s ∧ (s ++ r).dropWhile nch = r
  | [], [], _, _ => ⟨rfl, rfl⟩
  | [], c :: r, _, h => by
    have := h c rfl
    simp [this]
  | c :: s, r, h, hr => by
    have h1 := takeN s r (fun x hx => h x (.tail _ hx)) hr
    have h2 := h c (.head _)
    simp [h2, h1]
theorem numM_q {s r : List UInt8} (h : numK s ≠ 0) (hr : NoN r) : numM (s ++ r) = .ok (numV s, r) := by
  have h1 := takeN s r (num_text h).1 hr
  unfold numM
  rw [h1.1, h1.2, if_neg h]
theorem dec_isD {u : Nat} {c : UInt8} (h : c ∈ decDigits u) : isD c = true := by
  have := decDigits_mem u c h
  simp [isD, this]
theorem run1_all : ∀ l : List UInt8, (∀ c ∈ l, isD c = true) → run1 l = l.length
  | [], _ => rfl
  | c :: l, h => by
    rw [run1, if_pos (h c (.head _)), run1_all l fun x hx => h x (.tail _ hx)]; rfl
theorem dec_head (u : Nat) : ∃ c t, decDigits u = c :: t ∧ (c = 48 → t = []) := by
  induction u using Nat.strongRecOn with
  | _ u ih =>
    rw [decDigits]
    split
    · exact ⟨_, [], rfl, fun _ => rfl⟩
    · rename_i h
      obtain ⟨c, t, h1, h2⟩ := ih (u / 10) (by omega)
      refine ⟨c, t ++ [UInt8.ofNat (48 + u % 10)], by rw [h1]; rfl, fun e => ?_⟩
      have ht := h2 e
      subst e; subst ht
      rw [decDigits] at h1
      split at h1
      · rename_i h3
        have h4 := congrArg UInt8.toNat (List.cons.inj h1).1
        rw [u8_48 h3] at h4
        have : (48 : UInt8).toNat = 48 := rfl
        omega
      · have := congrArg List.length h1
        have h5 := decDigits_ne (u / 10 / 10)
        cases hd : decDigits (u / 10 / 10) with
        | nil => exact absurd hd h5
        | cons a b => rw [hd] at this; simp at this
theorem dec_intN (u : Nat) : intN (decDigits u) = (decDigits u).length ∧ run1 (decDigits u) ≠ 0 := by
  have h1 := run1_all (decDigits u) fun c hc => dec_isD hc
  obtain ⟨c, t, h2, h3⟩ := dec_head u
  have h4 : run1 (decDigits u) ≠ 0 := by rw [h1, h2]; simp
  refine ⟨?_, h4⟩
  unfold intN
  rw [if_neg h4]
  split
  · rename_i h5
    rw [h2] at h5 ⊢
    rw [h3 (by simpa using h5)]; rfl
  · exact h1
theorem itoa_numK (n : Int) : numK (itoa n) = 3 := by
  have key : ∀ s : List UInt8, wholeN s = s.length → s ≠ [] → numK s = 3 := fun s h h0 => by
    have hl : s.length ≠ 0 := fun e => h0 (List.length_eq_zero_iff.1 e)
    have e1 : fracN ([] : List UInt8) = 0 := by decide
    have hn : numN s = (s.length, 3) := by
      unfold numN
      rw [if_neg (by omega)]
      simp [h, e1, powN]
    unfold numK; rw [hn]; simp
  unfold itoa
  split
  · refine key _ ?_ (by simp)
    rw [wholeN_neg, if_neg (dec_intN _).2, (dec_intN _).1]; simp; omega
  · refine key _ ?_ (decDigits_ne _)
    obtain ⟨c, t, h2, h3⟩ := dec_head n.toNat
    have h5 : ¬ (decDigits n.toNat).head? = some 45 := by
      rw [h2]; simp
      intro e; subst e
      have := decDigits_mem n.toNat 45 (by rw [h2]; simp)
      have e : (45 : UInt8).toNat = 45 := rfl
      omega
    rw [wholeN_pos h5, (dec_intN _).1]
theorem bareM_iff' {n : Int} {s : List UInt8} {l : List Val} {m : List Mem} : bareM n s l m = true ↔ n = 0 ∧ s = [] ∧ l = [] ∧ m = [] := by
  simp [bareM]
inductive JS : Val → Prop
  | null : JS (.mk 0 0 [] [] [])
  | bool (n : Int) (h : n = 0 ∨ n = 1) : JS (.mk 1 n [] [] [])
  | int (n : Int) : JS (.mk 2 n [] [] [])
  | num (s : List UInt8) (h : numB s = true) : JS (.mk 3 0 s [] [])
  | text (s : List UInt8) (h : validD s = true) : JS (.mk 4 0 s [] [])
  | list (l : List Val) (h : allVs validD l = true) (h' : singVs l = true) : JS (.mk 6 0 [] l [])
  | obj (m : List Mem) (h : allMs validD m = true) (h' : singMs [] m = true) : JS (.mk 7 0 [] [] m)
theorem jshape : ∀ v, rightV v = true → JS v
  | .mk k n s l m, h => by
    simp only [rightV, goodV, allV, singV, Bool.and_eq_true, Bool.not_eq_true', Bool.or_eq_false_iff, decide_eq_false_iff_not] at h
    obtain ⟨h, ⟨h5, h8⟩, hl, hm⟩ := h
    split at h
    · rename_i k6
      subst k6
      simp only [Bool.and_eq_true, bareM_iff'] at h
      obtain ⟨h1, rfl, rfl, _, rfl⟩ := h
      exact .list l h1 hl
    · split at h
      · rename_i k7
        subst k7
        simp only [Bool.and_eq_true, bareM_iff'] at h
        obtain ⟨h1, rfl, rfl, rfl, _⟩ := h
        exact .obj m h1 hm
      · simp only [singleM, Bool.and_eq_true, bareM_iff'] at h
        obtain ⟨⟨_, _, rfl, rfl⟩, h⟩ := h
        split at h
        · rename_i k0
          subst k0
          simp only [Bool.and_eq_true, decide_eq_true_eq] at h
          obtain ⟨rfl, rfl⟩ := h
          exact .null
        split at h
        · rename_i k0
          subst k0
          simp only [Bool.and_eq_true, Bool.or_eq_true, decide_eq_true_eq] at h
          obtain ⟨h, rfl⟩ := h
          exact .bool n h
        split at h
        · rename_i k0
          subst k0
          simp only [decide_eq_true_eq] at h
          subst h
          exact .int n
        split at h
        · rename_i k0
          subst k0
          simp only [Bool.and_eq_true, decide_eq_true_eq] at h
          obtain ⟨rfl, h⟩ := h
          exact .num s h
        split at h
        · rename_i k0
          subst k0
          simp only [Bool.and_eq_true, decide_eq_true_eq] at h
          obtain ⟨rfl, h⟩ := h
          exact .text s h
        · cases h
theorem numB_ne {s : List UInt8} (h : numB s = true) : numK s ≠ 0 ∧ wholeB s = false := by
  simp only [numB, Bool.or_eq_true, decide_eq_true_eq, Bool.and_eq_true, Bool.not_eq_true'] at h
  rcases h with h | ⟨h, h2⟩
  · exact ⟨by omega, by simp [wholeB, h]⟩
  · exact ⟨by omega, h2⟩
theorem itoa_whole {n : Int} (h : inR n) : wholeB (itoa n) = true ∧ valI (itoa n) = n := by
  have h1 := parse_itoa n h.1 h.2
  exact ⟨by simp [wholeB, h1, okI, itoa_numK], by simp [valI, h1]⟩
theorem valM_hd {k : Nat} {c : UInt8} {t : List UInt8} (h0 : bk c = false) (h1 : c ≠ 123) (h2 : c ≠ 91) : ∃ p, valM k (c :: t) = headM (c :: t) p := by
  cases k with
  | zero => exact ⟨deepM, by simp only [valM, skB_no h0]; rw [if_neg (by simp [h1, h2])]⟩
  | succ n => exact ⟨valM n, by simp only [valM, skB_no h0]⟩
theorem put_head {v : Val} (h : rightV v = true) : ∃ c t, putV v = c :: t ∧ bk c = false ∧ c ≠ 93 ∧ c ≠ 125 ∧ c ≠ 44 := by
  cases jshape v h with
  | null => exact ⟨110, [117, 108, 108], by simp [putV], by decide, by decide, by decide, by decide⟩
  | bool n h1 =>
    rcases h1 with rfl | rfl
    · exact ⟨102, [97, 108, 115, 101], by simp [putV, boolT], by decide, by decide, by decide, by decide⟩
    · exact ⟨116, [114, 117, 101], by simp [putV, boolT], by decide, by decide, by decide, by decide⟩
  | int n =>
    obtain ⟨c, t, h1, h2⟩ := (num_text (s := itoa n) (by rw [itoa_numK]; decide)).2
    have h3 := nst_other c h2
    refine ⟨c, t, by simpa [putV] using h1, h3.1, h3.2.2.2.2.1, h3.2.2.2.2.2.1, fun e => ?_⟩
    subst e; revert h2; decide
  | num s hb =>
    obtain ⟨c, t, h1, h2⟩ := (num_text (numB_ne hb).1).2
    have h3 := nst_other c h2
    refine ⟨c, t, by simpa [putV] using h1, h3.1, h3.2.2.2.2.1, h3.2.2.2.2.2.1, fun e => ?_⟩
    subst e; revert h2; decide
  | text s hb => exact ⟨34, s.flatMap qB ++ [34], by simp [putV, quoteM], by decide, by decide, by decide, by decide⟩
  | list l h1 h2 => exact ⟨91, putVs true l ++ [93], by simp [putV], by decide, by decide, by decide, by decide⟩
  | obj m h1 h2 => exact ⟨123, putMs true m ++ [125], by simp [putV], by decide, by decide, by decide, by decide⟩
theorem mayM_no {x c : UInt8} {t : List UInt8} (h : bk c = false) (hx : x ≠ c) : mayM [x] (c :: t) = none := by
  unfold mayM; rw [skB_no h, if_neg (by simp [List.isPrefixOf, hx])]
theorem mayM_yes {c : UInt8} {t : List UInt8} (h : bk c = false) : mayM [c] (c :: t) = some t := by
  unfold mayM; rw [skB_no h, if_pos (by simp [List.isPrefixOf])]; rfl
theorem mustM_yes {c : UInt8} {t : List UInt8} (h : bk c = false) : mustM [c] (c :: t) = .ok ((), t) := by
  unfold mustM; rw [mayM_yes h]
theorem depthVs_iff (n : Int) : ∀ (l : List Val) (a : Int), (depthVs l a ≤ n ↔ a ≤ n ∧ ∀ v ∈ l, depthV v ≤ n)
  | [], a => by simp [depthVs]
  | v :: l, a => by
    rw [depthVs, depthVs_iff n l]
    have : mm2 true a (depthV v) ≤ n ↔ a ≤ n ∧ depthV v ≤ n := by simp only [mm2, if_true]; split <;> omega
    rw [this]; simp [and_assoc]
theorem depthMs_iff (n : Int) : ∀ (l : List Mem) (a : Int), (depthMs l a ≤ n ↔ a ≤ n ∧ ∀ v ∈ l, depthM v ≤ n)
  | [], a => by simp [depthMs]
  | v :: l, a => by
    rw [depthMs, depthMs_iff n l]
    have : mm2 true a (depthM v) ≤ n ↔ a ≤ n ∧ depthM v ≤ n := by simp only [mm2, if_true]; split <;> omega
    rw [this]; simp [and_assoc]
theorem NoN_cons {c : UInt8} {t : List UInt8} (h : nch c = false) : NoN (c :: t) := fun x hx => by
  cases hx; exact h
theorem hasN_iff (s : List UInt8) : ∀ l : List Mem, hasN s l = (l.map nmM).contains s
  | [] => rfl
  | .mk t v :: l => by
    rw [hasN, hasN_iff s l]
    by_cases h : t = s
    · simp [h, nmM]
    · simp [h, nmM, Ne.symm h]
def BackV (n : Nat) (v : Val) : Prop := ∀ r, NoN r → valM n (putV v ++ r) = if depthV v ≤ n then .ok (v, r) else .error 4
theorem items_back (n : Nat) : ∀ (l acc : List Val) (fuel : Nat) (r : List UInt8), (∀ v ∈ l, BackV n v) → (putVs false l).length < fuel →
    itemsM (valM n) fuel acc (putVs false l ++ 93 :: r) = if (∀ v ∈ l, depthV v ≤ n) then .ok (acc ++ l, r) else .error 4
  | _, _, 0, _, _, h => by omega
  | [], acc, fuel + 1, r, _, _ => by
    simp only [putVs, List.nil_append, itemsM, mayM_yes (show bk 93 = false by decide)]
    simp
  | v :: l, acc, fuel + 1, r, hv, hf => by
    have hf' : (putVs false l).length < fuel := by
      simp only [putVs, Bool.false_eq_true, if_false, List.length_append, List.length_cons, List.length_nil] at hf; omega
    have e : putVs false (v :: l) ++ 93 :: r = 44 :: (putV v ++ (putVs false l ++ 93 :: r)) := by simp [putVs]
    have hN : NoN (putVs false l ++ 93 :: r) := by
      cases l with
      | nil => exact NoN_cons (by decide)
      | cons w l => exact NoN_cons (by decide)
    rw [e, itemsM, mayM_no (show bk 44 = false by decide) (by decide)]
    simp only [mustM_yes (show bk 44 = false by decide), RR.bind, hv v (.head _) _ hN]
    by_cases hd : depthV v ≤ n
    · rw [if_pos hd]
      simp only
      rw [items_back n l (acc ++ [v]) fuel r (fun x hx => hv x (.tail _ hx)) hf']
      simp [hd]
    · rw [if_neg hd]
      rw [if_neg (fun h => hd (h v (.head _)))]
theorem list_back (n : Nat) (l : List Val) (r : List UInt8) (hv : ∀ v ∈ l, BackV n v) (hh : ∀ v ∈ l, rightV v = true) :
    listM (valM n) (putVs true l ++ 93 :: r) = if (∀ v ∈ l, depthV v ≤ n) then .ok (.mk 6 0 [] l [], r) else .error 4 := by
  cases l with
  | nil => simp only [putVs, List.nil_append, listM, mayM_yes (show bk 93 = false by decide)]; simp
  | cons v l =>
    have e : putVs true (v :: l) ++ 93 :: r = putV v ++ (putVs false l ++ 93 :: r) := by simp [putVs]
    have hN : NoN (putVs false l ++ 93 :: r) := by
      cases l with
      | nil => exact NoN_cons (by decide)
      | cons w l => exact NoN_cons (by decide)
    obtain ⟨c, t, h1, h2, h3, h4⟩ := put_head (hh v (.head _))
    have hm : mayM [93] (putV v ++ (putVs false l ++ 93 :: r)) = none := by rw [h1]; exact mayM_no h2 (Ne.symm h3)
    rw [e, listM, hm]
    simp only [RR.bind, hv v (.head _) _ hN]
    by_cases hd : depthV v ≤ n
    · rw [if_pos hd]
      simp only
      rw [items_back n l [v] _ r (fun x hx => hv x (.tail _ hx)) (by simp only [List.length_append, List.length_cons]; omega)]
      by_cases ha : ∀ v ∈ l, depthV v ≤ n
      · rw [if_pos ha, if_pos (fun x hx => by rcases List.mem_cons.1 hx with e | e; exact e ▸ hd; exact ha x e)]
        rfl
      · rw [if_neg ha, if_neg (fun h => ha fun x hx => h x (.tail _ hx))]
    · rw [if_neg hd]
      rw [if_neg (fun h => hd (h v (.head _)))]
theorem member_back {n : Nat} {s : List UInt8} {v : Val} {acc : List Mem} {r : List UInt8} (hv : BackV n v) (hr : NoN r) (hs : (acc.map nmM).contains s = false) :
    memberM (valM n) acc (putM (.mk s v) ++ r) = if depthV v ≤ n then .ok (acc ++ [.mk s v], r) else .error 4 := by
  have e : putM (.mk s v) ++ r = quoteM s ++ (58 :: (putV v ++ r)) := by simp [putM]
  rw [e, memberM, textM_q]
  simp only [RR.bind]
  rw [hasN_iff, hs]
  simp only [Bool.false_eq_true, if_false, mustM_yes (show bk 58 = false by decide), hv r hr]
  by_cases hd : depthV v ≤ n
  · rw [if_pos hd, if_pos hd]
  · rw [if_neg hd, if_neg hd]
theorem members_back (n : Nat) : ∀ (l acc : List Mem) (fuel : Nat) (r : List UInt8), (∀ s v, Mem.mk s v ∈ l → BackV n v) → singMs (acc.map nmM) l = true → (putMs false l).length < fuel →
    membersM (valM n) fuel acc (putMs false l ++ 125 :: r) = if (∀ x ∈ l, depthM x ≤ n) then .ok (acc ++ l, r) else .error 4
  | _, _, 0, _, _, _, h => by omega
  | [], acc, fuel + 1, r, _, _, _ => by
    simp only [putMs, List.nil_append, membersM, mayM_yes (show bk 125 = false by decide)]
    simp
  | .mk s v :: l, acc, fuel + 1, r, hv, hs, hf => by
    have hf' : (putMs false l).length < fuel := by
      simp only [putMs, Bool.false_eq_true, if_false, List.length_append, List.length_cons, List.length_nil] at hf; omega
    have e : putMs false (.mk s v :: l) ++ 125 :: r = 44 :: (putM (.mk s v) ++ (putMs false l ++ 125 :: r)) := by simp [putMs]
    have hN : NoN (putMs false l ++ 125 :: r) := by
      cases l with
      | nil => exact NoN_cons (by decide)
      | cons w l => exact NoN_cons (by decide)
    simp only [singMs, nmM, Bool.and_eq_true, Bool.not_eq_true'] at hs
    obtain ⟨hs1, _, hs2⟩ := hs
    rw [e, membersM, mayM_no (show bk 44 = false by decide) (by decide)]
    simp only [mustM_yes (show bk 44 = false by decide), RR.bind, member_back (hv s v (.head _)) hN hs1]
    by_cases hd : depthV v ≤ n
    · rw [if_pos hd]
      simp only
      rw [members_back n l (acc ++ [Mem.mk s v]) fuel r (fun s v hx => hv s v (.tail _ hx)) (by simpa [nmM] using hs2) hf']
      simp [hd, depthM]
    · rw [if_neg hd]
      rw [if_neg (fun h => hd (by have := h _ (.head _); simpa [depthM] using this))]
theorem map_back (n : Nat) (l : List Mem) (r : List UInt8) (hv : ∀ s v, Mem.mk s v ∈ l → BackV n v) (hs : singMs [] l = true) :
    mapM (valM n) (putMs true l ++ 125 :: r) = if (∀ x ∈ l, depthM x ≤ n) then .ok (.mk 7 0 [] [] l, r) else .error 4 := by
  cases l with
  | nil => simp only [putMs, List.nil_append, mapM, mayM_yes (show bk 125 = false by decide)]; simp
  | cons x l =>
    obtain ⟨s, v⟩ := x
    have e : putMs true (.mk s v :: l) ++ 125 :: r = putM (.mk s v) ++ (putMs false l ++ 125 :: r) := by simp [putMs]
    have hN : NoN (putMs false l ++ 125 :: r) := by
      cases l with
      | nil => exact NoN_cons (by decide)
      | cons w l => exact NoN_cons (by decide)
    simp only [singMs, nmM, Bool.and_eq_true, Bool.not_eq_true', List.nil_append] at hs
    obtain ⟨hs1, _, hs2⟩ := hs
    have hm : mayM [125] (putM (.mk s v) ++ (putMs false l ++ 125 :: r)) = none := mayM_no (c := 34) (by decide) (by decide)
    rw [e, mapM, hm]
    simp only [RR.bind, member_back (acc := []) (hv s v (.head _)) hN rfl]
    by_cases hd : depthV v ≤ n
    · rw [if_pos hd]
      simp only
      rw [members_back n l ([] ++ [Mem.mk s v]) _ r (fun s v hx => hv s v (.tail _ hx)) (by simpa [nmM] using hs2) (by simp only [List.length_append, List.length_cons]; omega)]
      by_cases ha : ∀ v ∈ l, depthM v ≤ n
      · rw [if_pos ha, if_pos (fun x hx => by rcases List.mem_cons.1 hx with e | e; rw [e]; exact hd; exact ha x e)]
        rfl
      · rw [if_neg ha, if_neg (fun h => ha fun x hx => h x (.tail _ hx))]
    · rw [if_neg hd]
      rw [if_neg (fun h => hd (by have := h _ (.head _); simpa [depthM] using this))]
theorem right_items : ∀ {l : List Val}, allVs validD l = true → singVs l = true → ∀ v ∈ l, rightV v = true
  | v :: l, h, h', x, hx => by
    simp only [allVs, singVs, Bool.and_eq_true] at h h'
    rcases List.mem_cons.1 hx with e | e
    · subst e; simp [rightV, goodV, h.1, h'.1]
    · exact right_items h.2 h'.2 x e
theorem right_mems : ∀ {l : List Mem} {ns : List (List UInt8)}, allMs validD l = true → singMs ns l = true → ∀ s v, Mem.mk s v ∈ l → validD s = true ∧ rightV v = true
  | .mk t w :: l, ns, h, h', s, v, hx => by
    simp only [allMs, allM, singMs, singM, nmM, Bool.and_eq_true] at h h'
    rcases List.mem_cons.1 hx with e | e
    · cases e; exact ⟨h.1.1, by simp [rightV, goodV, h.1.2, h'.2.1]⟩
    · exact right_mems h.2 h'.2.2 s v e
theorem word_null (r : List UInt8) (p) : headM (110 :: 117 :: 108 :: 108 :: r) p = .ok (nullV, r) := by
  simp only [headM]
  rw [if_neg (by decide), if_neg (by decide), if_neg (by decide), if_neg (by decide)]
  simp only [wordM, mayM, skB_no (show bk 110 = false by decide)]
  rw [if_pos (by simp [List.isPrefixOf])]; rfl
theorem word_bool (b : Bool) (r : List UInt8) (p) : headM (boolT b ++ r) p = .ok (.mk 1 (if b then 1 else 0) [] [] [], r) := by
  cases b
  · simp only [boolT, Bool.false_eq_true, if_false, List.cons_append, List.nil_append, headM]
    rw [if_neg (by decide), if_neg (by decide), if_neg (by decide), if_neg (by decide)]
    simp only [wordM, mustM, mayM, skB_no (show bk 102 = false by decide)]
    rw [if_neg (by simp [List.isPrefixOf]), if_neg (by simp [List.isPrefixOf]), if_pos (by simp [List.isPrefixOf])]; rfl
  · simp only [boolT, if_true, List.cons_append, List.nil_append, headM]
    rw [if_neg (by decide), if_neg (by decide), if_neg (by decide), if_neg (by decide)]
    simp only [wordM, mustM, mayM, skB_no (show bk 116 = false by decide)]
    rw [if_neg (by simp [List.isPrefixOf]), if_pos (by simp [List.isPrefixOf])]; rfl
theorem headM_num {c : UInt8} {t : List UInt8} (h : nst c = true) (p) : headM (c :: t) p = numM (c :: t) := by
  have h3 := nst_other c h
  simp only [headM]
  rw [if_neg h3.2.1, if_neg h3.2.2.1, if_neg h3.2.2.2.1, if_pos h]
theorem back : ∀ v, rightV v = true → wfV v → ∀ n, BackV n v := by
  refine Val.ind fun k n s l m ihl ihm h hwf q r hr => ?_
  obtain ⟨hn, hwl, hwm⟩ := hwf
  have flat : ∀ {v : Val}, depthV v = 0 → depthV v ≤ (q : Int) := fun e => by rw [e]; omega
  generalize hv : Val.mk k n s l m = v at h
  cases jshape v h with
  | null =>
    rw [if_pos (flat (by simp [depthV]))]
    have e : putV (.mk 0 0 [] [] []) ++ r = 110 :: 117 :: 108 :: 108 :: r := by simp [putV]
    rw [e]
    obtain ⟨p, hp⟩ := valM_hd (k := q) (c := 110) (t := 117 :: 108 :: 108 :: r) (by decide) (by decide) (by decide)
    rw [hp, word_null]; rfl
  | bool b hb =>
    rw [if_pos (flat (by simp [depthV]))]
    have e : putV (.mk 1 b [] [] []) ++ r = boolT (decide (b = 1)) ++ r := by simp [putV]
    rw [e]
    have h1 := word_bool (decide (b = 1)) r
    have e1 : (if decide (b = 1) = true then (1 : Int) else 0) = b := by rcases hb with rfl | rfl <;> decide
    rw [e1] at h1
    rcases hb with rfl | rfl
    · obtain ⟨p, hp⟩ := valM_hd (k := q) (c := 102) (t := 97 :: 108 :: 115 :: 101 :: r) (by decide) (by decide) (by decide)
      exact hp.trans (h1 p)
    · obtain ⟨p, hp⟩ := valM_hd (k := q) (c := 116) (t := 114 :: 117 :: 101 :: r) (by decide) (by decide) (by decide)
      exact hp.trans (h1 p)
  | int b =>
    rw [if_pos (flat (by simp [depthV]))]
    have e : putV (.mk 2 b [] [] []) ++ r = itoa b ++ r := by simp [putV]
    rw [e]
    have hb : inR b := by cases hv; exact hn
    have h0 : numK (itoa b) ≠ 0 := by rw [itoa_numK]; decide
    have h1 := numM_q h0 hr
    obtain ⟨c, t, h2, h3⟩ := (num_text h0).2
    have h4 := nst_other c h3
    rw [h2] at h1 ⊢
    obtain ⟨p, hp⟩ := valM_hd (k := q) (c := c) (t := t ++ r) h4.1 h4.2.1 h4.2.2.1
    rw [List.cons_append] at h1 ⊢
    rw [hp, headM_num h3, h1, ← h2]
    simp [numV, itoa_whole hb]
  | num s hs =>
    rw [if_pos (flat (by simp [depthV]))]
    have e : putV (.mk 3 0 s [] []) ++ r = s ++ r := by simp [putV]
    rw [e]
    have h0 := numB_ne hs
    have h1 := numM_q h0.1 hr
    obtain ⟨c, t, h2, h3⟩ := (num_text h0.1).2
    have h4 := nst_other c h3
    have e2 : numV s = .mk 3 0 s [] [] := by simp [numV, h0.2]
    rw [e2] at h1
    subst h2
    obtain ⟨p, hp⟩ := valM_hd (k := q) (c := c) (t := t ++ r) h4.1 h4.2.1 h4.2.2.1
    rw [List.cons_append] at h1 ⊢
    rw [hp, headM_num h3, h1]
  | text s hs =>
    rw [if_pos (flat (by simp [depthV]))]
    have e : putV (.mk 4 0 s [] []) ++ r = quoteM s ++ r := by simp [putV]
    rw [e]
    have h1 := textM_q s r
    have e2 : quoteM s ++ r = 34 :: (s.flatMap qB ++ [34] ++ r) := by simp [quoteM]
    rw [e2] at h1 ⊢
    obtain ⟨p, hp⟩ := valM_hd (k := q) (c := 34) (t := s.flatMap qB ++ [34] ++ r) (by decide) (by decide) (by decide)
    rw [hp]
    simp only [headM]
    rw [if_neg (by decide), if_neg (by decide), if_pos trivial, h1]; rfl
  | list l' h1 h2 =>
    cases hv
    have e : putV (.mk 6 0 [] l []) ++ r = 91 :: (putVs true l ++ 93 :: r) := by simp [putV]
    have ed : depthV (.mk 6 0 [] l []) = depthVs l 0 + 1 := by simp [depthV]
    rw [e, ed]
    have h3 := right_items h1 h2
    have h4 := (depthVs_iff 0 l 0)
    cases q with
    | zero =>
      have h5 : (0 : Int) ≤ depthVs l 0 := (depthVs_le l 0).1
      rw [if_neg (by simp; omega)]
      simp only [valM, skB_no (show bk 91 = false by decide)]
      rw [if_pos (by simp)]
    | succ q =>
      simp only [valM, skB_no (show bk 91 = false by decide), headM]
      rw [if_neg (by decide), if_pos trivial, list_back q l r (fun v hx => ihl v hx (h3 v hx) (wfVs_mem hwl v hx) q) h3]
      have h5 := depthVs_iff (q : Int) l 0
      by_cases ha : ∀ v ∈ l, depthV v ≤ (q : Int)
      · rw [if_pos ha, if_pos (by have := h5.2 ⟨by omega, ha⟩; simp; omega)]
      · rw [if_neg ha, if_neg (fun h6 => ha (h5.1 (by simp at h6; omega)).2)]
  | obj l' h1 h2 =>
    cases hv
    have e : putV (.mk 7 0 [] [] m) ++ r = 123 :: (putMs true m ++ 125 :: r) := by simp [putV]
    have ed : depthV (.mk 7 0 [] [] m) = depthMs m 0 + 1 := by simp [depthV]
    rw [e, ed]
    have h3 := right_mems h1 h2
    cases q with
    | zero =>
      have h5 : (0 : Int) ≤ depthMs m 0 := (depthMs_le m 0).1
      rw [if_neg (by simp; omega)]
      simp only [valM, skB_no (show bk 123 = false by decide)]
      rw [if_pos (by simp)]
    | succ q =>
      simp only [valM, skB_no (show bk 123 = false by decide), headM]
      rw [if_pos trivial, map_back q m r (fun s v hx => ihm s v hx (h3 s v hx).2 (wfMs_mem hwm s v hx) q) h2]
      have h5 := depthMs_iff (q : Int) m 0
      by_cases ha : ∀ v ∈ m, depthM v ≤ (q : Int)
      · rw [if_pos ha, if_pos (by have := h5.2 ⟨by omega, ha⟩; simp; omega)]
      · rw [if_neg ha, if_neg (fun h6 => ha (h5.1 (by simp at h6; omega)).2)]
theorem low_valid {s : List UInt8} (h : ∀ c ∈ s, c.toNat < 128) : validD s = true := by
  have := validD_ascii s.length s (fun b hb => h b (List.mem_of_mem_take hb))
  rw [this, List.drop_length]; rfl
theorem qB_high {c : UInt8} (h : 128 ≤ c.toNat) : qB c = [c] := by
  unfold qB
  rw [if_neg (fun e => by rcases e with rfl | rfl <;> revert h <;> decide), if_neg (by omega)]
theorem qB_flat : ∀ {s : List UInt8}, (∀ c ∈ s, 128 ≤ c.toNat) → s.flatMap qB = s
  | [], _ => rfl
  | c :: s, h => by rw [List.flatMap_cons, qB_high (h c (.head _)), qB_flat fun x hx => h x (.tail _ hx)]; rfl
theorem qB_lowT : ∀ x : Fin 256, x.val < 128 → ∀ c ∈ qB (UInt8.ofNat x.val), c.toNat < 128 := by decide +kernel
theorem qB_low {x : UInt8} (h : x.toNat < 128) : ∀ c ∈ qB x, c.toNat < 128 := by
  have := qB_lowT ⟨x.toNat, x.toNat_lt⟩ h
  simpa using this
theorem flat_valid : ∀ (n : Nat) (s : List UInt8), s.length ≤ n → validD s = true → validD (s.flatMap qB) = true
  | _, [], _, _ => rfl
  | 0, x :: t, h, _ => by simp at h
  | n + 1, x :: t, h, hv => by
    by_cases hx : x.toNat < 128
    · rw [validD_cons x t hx] at hv
      rw [List.flatMap_cons]
      exact validA2 (low_valid (qB_low hx)) (flat_valid n t (by simpa using h) hv)
    · have h0 : 128 ≤ ((x :: t).getD 0 0).toNat := by simp; omega
      have hv0 := hv
      rw [validD_lead (x :: t) (by simp) h0] at hv
      split at hv
      · cases hv
      · rename_i k hk
        obtain ⟨k2, k4, kl, ks, klo, k3, k4', kall⟩ := check_some hk
        have hkl : k ≤ (x :: t).length := kl
        have hlo := lo_ge ((x :: t).getD 0 0).toNat_lt (by omega) (by omega)
        have e : x :: t = (x :: t).take k ++ (x :: t).drop k := (List.take_append_drop ..).symm
        have hl : ((x :: t).take k).length = k := by rw [List.length_take]; omega
        have hg : ∀ i, i < k → ((x :: t).take k).getD i 0 = (x :: t).getD i 0 := fun i hi => by
          simp only [List.getD]; rw [List.getElem?_take_of_lt hi]
        have hhigh : ∀ c ∈ (x :: t).take k, 128 ≤ c.toNat := fun c hc => by
          obtain ⟨i, hi, rfl⟩ := List.getElem_of_mem hc
          rw [hl] at hi
          have e2 : ((x :: t).take k)[i] = (x :: t).getD i 0 := by rw [← hg i hi]; simp [List.getD, hl, hi]
          rw [e2]
          have : i = 0 ∨ i = 1 ∨ i = 2 ∨ i = 3 := by omega
          rcases this with rfl | rfl | rfl | rfl
          · exact h0
          · omega
          · exact k3 (by omega)
          · exact k4' (by omega)
        have hval : validD ((x :: t).take k) = true := by
          have hne : (x :: t).take k ≠ [] := fun e => by rw [e] at hl; simp at hl; omega
          rw [validD_lead _ hne (by rw [hg 0 (by omega)]; exact h0), hg 0 (by omega), hg 1 (by omega)]
          rw [kall ((x :: t).take k).length _ _ (by omega) (fun h3 => by rw [hg 2 (by omega)]) (fun h3 => by rw [hg 3 (by omega)])]
          simp only
          rw [List.drop_eq_nil_of_le (by omega)]; rfl
        rw [e, List.flatMap_append, qB_flat hhigh]
        exact validA2 hval (flat_valid n _ (by rw [List.length_drop]; omega) hv)
theorem quote_valid {s : List UInt8} (h : validD s = true) : validD (quoteM s) = true := by
  unfold quoteM
  rw [validD_cons _ _ (by decide)]
  exact validA2 (flat_valid s.length s (Nat.le_refl _) h) rfl
theorem putVs_valid : ∀ (l : List Val) (f : Bool), (∀ v ∈ l, validD (putV v) = true) → validD (putVs f l) = true
  | [], _, _ => rfl
  | v :: l, f, h => by
    simp only [putVs]
    refine validA2 ?_ (validA2 (h v (.head _)) (putVs_valid l false fun x hx => h x (.tail _ hx)))
    cases f <;> rfl
theorem putMs_valid : ∀ (l : List Mem) (f : Bool), (∀ s v, Mem.mk s v ∈ l → validD s = true ∧ validD (putV v) = true) → validD (putMs f l) = true
  | [], _, _ => rfl
  | .mk s v :: l, f, h => by
    simp only [putMs, putM]
    refine validA2 ?_ (validA2 (validA2 (quote_valid (h s v (.head _)).1) ?_) (putMs_valid l false fun s v hx => h s v (.tail _ hx)))
    · cases f <;> rfl
    · rw [validD_cons _ _ (by decide)]; exact (h s v (.head _)).2
theorem put_valid : ∀ v, rightV v = true → validD (putV v) = true := by
  refine Val.ind fun k n s l m ihl ihm h => ?_
  generalize hv : Val.mk k n s l m = v at h
  cases jshape v h with
  | null => simp only [putV]; exact low_valid (by simp [putV])
  | bool b hb => rcases hb with rfl | rfl <;> exact low_valid (by decide)
  | int b =>
    have : putV (.mk 2 b [] [] []) = itoa b := by simp [putV]
    rw [this]
    exact low_valid fun c hc => nch_low c ((num_text (by rw [itoa_numK]; decide)).1 c hc)
  | num s hs =>
    have : putV (.mk 3 0 s [] []) = s := by simp [putV]
    rw [this]
    exact low_valid fun c hc => nch_low c ((num_text (numB_ne hs).1).1 c hc)
  | text s hs =>
    have : putV (.mk 4 0 s [] []) = quoteM s := by simp [putV]
    rw [this]; exact quote_valid hs
  | list l' h1 h2 =>
    cases hv
    have : putV (.mk 6 0 [] l []) = 91 :: (putVs true l ++ [93]) := by simp [putV]
    rw [this, validD_cons _ _ (by decide)]
    exact validA2 (putVs_valid l true fun v hx => ihl v hx (right_items h1 h2 v hx)) rfl
  | obj l' h1 h2 =>
    cases hv
    have : putV (.mk 7 0 [] [] m) = 123 :: (putMs true m ++ [125]) := by simp [putV]
    rw [this, validD_cons _ _ (by decide)]
    exact validA2 (putMs_valid m true fun s v hx => ⟨(right_mems h1 h2 s v hx).1, ihm s v hx (right_mems h1 h2 s v hx).2⟩) rfl
theorem read_put {v : Val} (h : rightV v = true) (hw : wfV v) (hl : (putV v).length ≤ 8192) : readM (putV v) = if depthV v ≤ 16 then (v, 0) else (nullV, 4) := by
  have h1 := back v h hw 16 [] (fun c hc => by cases hc)
  rw [List.append_nil] at h1
  unfold readM
  rw [if_neg (by omega), put_valid v h, h1]
  simp only [Bool.not_true, Bool.false_eq_true, if_false]
  by_cases hd : depthV v ≤ (16 : Nat)
  · rw [if_pos hd, if_pos (by exact_mod_cast hd)]; rfl
  · rw [if_neg hd, if_neg (by exact_mod_cast hd)]
end Go.Proofs.YtpjafglhdlfnbaaDoor
namespace Go.Proofs.YtpjafglhdlfnbaaDoor
open Go.Ab Go.Lib
theorem qB_len (c : UInt8) : (qB c).length ≤ 6 := by unfold qB; split <;> (try split) <;> simp
theorem flat_len : ∀ s : List UInt8, (s.flatMap qB).length ≤ 6 * s.length
  | [] => by simp
  | c :: s => by rw [List.flatMap_cons, List.length_append]; have := qB_len c; have := flat_len s; simp only [List.length_cons]; omega
theorem quote_len (s : List UInt8) : (quoteM s).length ≤ 6 * s.length + 2 := by
  unfold quoteM; have := flat_len s; simp only [List.length_cons, List.length_append, List.length_nil]; omega
theorem itoa_len {n : Int} (h : inR n) : (itoa n).length ≤ 21 := by
  have e : ∀ u : Nat, u < 18446744073709551616 → (decDigits u).length ≤ 20 := fun u hu => by
    rw [decDigits_length]; exact nDigits_le20 u hu
  unfold itoa; split
  · have := e n.natAbs (by have := h.1; omega)
    simp; omega
  · have := e n.toNat (by have := h.2; omega)
    omega
mutual
theorem put_le : ∀ v, wfV v → (putV v).length + 4 ≤ 25 * bV v
  | .mk k n s l m, h => by
    obtain ⟨hn, hl, hm⟩ := h
    have h1 := putVs_le l true hl
    have h2 := putMs_le m true hm
    have h3 := quote_len s
    have h4 := itoa_len hn
    simp only [putV, bV]
    split
    · simp; omega
    split
    · unfold boolT; split <;> simp <;> omega
    split
    · omega
    split
    · omega
    split
    · omega
    split
    · simp; omega
    · simp; omega
theorem putVs_le : ∀ l f, wfVs l → (putVs f l).length ≤ 25 * bVs l
  | [], _, _ => by simp [putVs]
  | v :: l, f, h => by
    have h1 := put_le v h.1
    have h2 := putVs_le l false h.2
    simp only [putVs, bVs, List.length_append]
    cases f <;> simp <;> omega
theorem putM_le : ∀ x, wfM x → (putM x).length + 1 ≤ 25 * bM x
  | .mk s v, h => by
    have h1 := put_le v h
    have h3 := quote_len s
    simp only [putM, bM, List.length_append, List.length_cons]
    omega
theorem putMs_le : ∀ l f, wfMs l → (putMs f l).length ≤ 25 * bMs l
  | [], _, _ => by simp [putMs]
  | v :: l, f, h => by
    have h1 := putM_le v h.1
    have h2 := putMs_le l false h.2
    simp only [putMs, bMs, List.length_append]
    cases f <;> simp <;> omega
end
theorem fd4 (n : Nat) : (n : Int).fdiv (2 ^ min 4 IntKind.u8.bits) = ((n / 16 : Nat) : Int) := by
  show (n : Int).fdiv 16 = _
  rw [Int.fdiv_eq_ediv_of_nonneg _ (by omega)]; omega
theorem and15T : ∀ x : Fin 256, IntKind.wrap .u8 ((BitVec.ofInt IntKind.u8.bits ((x.val : Nat) : Int) &&& BitVec.ofInt IntKind.u8.bits 15).toNat : Int) = ((x.val % 16 : Nat) : Int) := by decide +kernel
theorem and15b (c : UInt8) : IntKind.wrap .u8 ((BitVec.ofInt IntKind.u8.bits (c.toNat : Int) &&& BitVec.ofInt IntKind.u8.bits 15).toNat : Int) = ((c.toNat % 16 : Nat) : Int) := and15T ⟨c.toNat, c.toNat_lt⟩
theorem ownS_len {H H' : Heap} {o o' : Own} {n m sz : Nat} (h : OwnS H o H' o' n sz) (e : n = m) : OwnS H o H' o' m sz := e ▸ h
theorem quoteC (s acc : List UInt8) (H : Heap) (o : Own) (ho : Owned H o acc.length 1) (hb : acc.length + 6 * s.length + 2 ≤ Lim) :
    Gives Tryd.prog 100 [.sl o 1 (bytesOf acc), .str s] H o 1 (bytesOf (acc ++ quoteM s)) := by
  refine ACalls.goO ir100 ck100 (Nat.le_refl _) fun KP Q hQ hP => ?_
  have hal := bytesOf_len acc
  simp only [Lim] at hb
  simp (disch := first | omega | assumption) only [ir100, steps, st2, pev, rev, oev, optr, ibin, sbin, ishf, bound, mmAll, mm2, mk, mkArgs, AV.cells, AV.boxable, AV.one, AV.strip1, fillA, fillS, Nat.reduceEqDiff, reduceCtorEq, ↓reduceIte, Nat.reduceAdd, Int.reduceNeg, Nat.reduceLeDiff, Int.reduceToNat, Int.reduceEq, Int.reduceLT, Int.reduceLE, Int.reduceAdd]
  have e1 : bytesOf acc ++ [[AV.int .u8 34]] = bytesOf (acc ++ [34]) := bytesOf_one acc 34
  refine goP_ownS (by rw [hal]; exact ho) (by simp [hal]; omega) (by simp [hal, maxLen]; omega) fun o1 H1 hs1 => ?_
  have hs1' : OwnS H o H1 o1 (acc ++ [34]).length 1 := by simpa [hal] using hs1
  simp (disch := first | omega | assumption) only [e1, steps, st2, pev, rev, oev, optr, ibin, sbin, ishf, bound, mmAll, mm2, mk, mkArgs, AV.cells, AV.boxable, AV.one, AV.strip1, fillA, fillS, Nat.reduceEqDiff, reduceCtorEq, ↓reduceIte, Nat.reduceAdd, Int.reduceNeg, Nat.reduceLeDiff, Int.reduceToNat, Int.reduceEq, Int.reduceLT, Int.reduceLE, Int.reduceAdd]
  refine goL_range s 12 (fun x : Own × List UInt8 => [(0, .sl x.1 1 (bytesOf x.2))]) (fun done rest x H' => x.2 ++ rest.flatMap qB = acc ++ 34 :: s.flatMap qB ∧ x.2.length + 6 * rest.length ≤ acc.length + 1 + 6 * s.length ∧ OwnS H o H' x.1 x.2.length 1) (o1, acc ++ [34]) (by simp (disch := first | omega | assumption) only [steps, st2, pev, rev, oev, optr, ibin, sbin, ishf, bound, mmAll, mm2, mk, mkArgs, AV.cells, AV.boxable, AV.one, AV.strip1, fillA, fillS, Nat.reduceEqDiff, reduceCtorEq, ↓reduceIte, Nat.reduceAdd, Int.reduceNeg, Nat.reduceLeDiff, Int.reduceToNat, Int.reduceEq, Int.reduceLT, Int.reduceLE, Int.reduceAdd]) ⟨by simp, by simp, hs1'⟩ ?_ ?_
  · rintro ⟨o2, a⟩ H2 J ⟨hn, hle, hs⟩ hlt
    simp only [List.flatMap_nil, List.append_nil, List.length_nil] at hn hle
    have h4 := bytesOf_len a
    have e3 : bytesOf a ++ [[AV.int .u8 34]] = bytesOf (a ++ [34]) := bytesOf_one a 34
    simp (disch := first | omega | assumption) only [hlt, steps, st2, pev, rev, oev, optr, ibin, sbin, ishf, bound, mmAll, mm2, mk, mkArgs, AV.cells, AV.boxable, AV.one, AV.strip1, fillA, fillS, Nat.reduceEqDiff, reduceCtorEq, ↓reduceIte, Nat.reduceAdd, Int.reduceNeg, Nat.reduceLeDiff, Int.reduceToNat, Int.reduceEq, Int.reduceLT, Int.reduceLE, Int.reduceAdd]
    refine goP_ownS (by rw [h4]; exact hs.own) (by simp [h4]; omega) (by simp [h4, maxLen]; omega) fun o3 H3 hs3 => ?_
    simp (disch := first | omega | assumption) only [e3, steps, st2, pev, rev, oev, optr, ibin, sbin, ishf, bound, mmAll, mm2, mk, mkArgs, AV.cells, AV.boxable, AV.one, AV.strip1, fillA, fillS, Nat.reduceEqDiff, reduceCtorEq, ↓reduceIte, Nat.reduceAdd, Int.reduceNeg, Nat.reduceLeDiff, Int.reduceToNat, Int.reduceEq, Int.reduceLT, Int.reduceLE, Int.reduceAdd]
    refine hQ _ _ H3 H3 [_] nofun rfl (Low.refl _) ⟨o3, ?_, ?_⟩
    · have : acc ++ quoteM s = a ++ [34] := by rw [hn]; simp [quoteM]
      rw [this]; rfl
    · have : acc ++ quoteM s = a ++ [34] := by rw [hn]; simp [quoteM]
      rw [this, bytesOf_len]; exact hs.trans (by simpa [h4] using hs3)
  · rintro done c rest ⟨o2, a⟩ H2 J hd hlt hlt2 ⟨hn, hle, hs⟩ hJ
    have hg := str_get hd
    have h4 := bytesOf_len a
    simp only [List.flatMap_cons, List.length_cons] at hn hle
    have hg2 : ((done.length : Int) < s.length) = True := eq_true hlt
    by_cases c1 : c = 34 ∨ c = 92
    · have eq : qB c = [92, c] := by unfold qB; rw [if_pos c1]
      have e3 : bytesOf a ++ [[AV.int .u8 92], [AV.int .u8 c.toNat]] = bytesOf (a ++ [92, c]) := bytesOf_two a 92 c
      have step : ∀ o3 H3, OwnS H2 o2 H3 o3 (a ++ [92, c]).length 1 → J ((setAll _ [(12, .int .i64 ((done.length : Int) + 1)), (0, .sl o3 1 (bytesOf (a ++ [92, c])))]).keep [0, 1, 11, 12]) H3 := fun o3 H3 hs3 =>
        hJ (o3, a ++ [92, c]) H3 ⟨by rw [← hn, eq]; simp, by simp; omega, hs.trans hs3⟩
      by_cases c3 : c = 34
      · have g1 : ((c.toNat : Int) = 34) = True := eq_true (by rw [c3]; rfl)
        simp (disch := first | omega | assumption) only [hg2, hg, g1, steps, st2, pev, rev, oev, optr, ibin, sbin, ishf, bound, mmAll, mm2, mk, mkArgs, AV.cells, AV.boxable, AV.one, AV.strip1, fillA, fillS, Nat.reduceEqDiff, reduceCtorEq, ↓reduceIte, Nat.reduceAdd, Int.reduceNeg, Nat.reduceLeDiff, Int.reduceToNat, Int.reduceEq, Int.reduceLT, Int.reduceLE, Int.reduceAdd]
        refine goP_ownS (by rw [h4]; exact hs.own) (by simp [h4]; omega) (by simp [h4, maxLen]; omega) fun o3 H3 hs3 => ?_
        simp (disch := first | omega | assumption) only [e3, wrap64, steps, st2, pev, rev, oev, optr, ibin, sbin, ishf, bound, mmAll, mm2, mk, mkArgs, AV.cells, AV.boxable, AV.one, AV.strip1, fillA, fillS, Nat.reduceEqDiff, reduceCtorEq, ↓reduceIte, Nat.reduceAdd, Int.reduceNeg, Nat.reduceLeDiff, Int.reduceToNat, Int.reduceEq, Int.reduceLT, Int.reduceLE, Int.reduceAdd]
        exact goJ (step o3 H3 (by simpa [h4] using hs3)) (by simp (disch := first | omega | assumption) only [steps, st2, pev, rev, oev, optr, ibin, sbin, ishf, bound, mmAll, mm2, mk, mkArgs, AV.cells, AV.boxable, AV.one, AV.strip1, fillA, fillS, Nat.reduceEqDiff, reduceCtorEq, ↓reduceIte, Nat.reduceAdd, Int.reduceNeg, Nat.reduceLeDiff, Int.reduceToNat, Int.reduceEq, Int.reduceLT, Int.reduceLE, Int.reduceAdd])
      · have g0 : ¬ ((c.toNat : Int) = 34) := fun e => c3 (UInt8.toNat_inj.1 (by have : (34 : UInt8).toNat = 34 := rfl; omega))
        have g1 : ((c.toNat : Int) = 92) = True := eq_true (by rw [c1.resolve_left c3]; rfl)
        simp (disch := first | omega | assumption) only [hg2, hg, g0, g1, steps, st2, pev, rev, oev, optr, ibin, sbin, ishf, bound, mmAll, mm2, mk, mkArgs, AV.cells, AV.boxable, AV.one, AV.strip1, fillA, fillS, Nat.reduceEqDiff, reduceCtorEq, ↓reduceIte, Nat.reduceAdd, Int.reduceNeg, Nat.reduceLeDiff, Int.reduceToNat, Int.reduceEq, Int.reduceLT, Int.reduceLE, Int.reduceAdd]
        refine goP_ownS (by rw [h4]; exact hs.own) (by simp [h4]; omega) (by simp [h4, maxLen]; omega) fun o3 H3 hs3 => ?_
        simp (disch := first | omega | assumption) only [e3, wrap64, steps, st2, pev, rev, oev, optr, ibin, sbin, ishf, bound, mmAll, mm2, mk, mkArgs, AV.cells, AV.boxable, AV.one, AV.strip1, fillA, fillS, Nat.reduceEqDiff, reduceCtorEq, ↓reduceIte, Nat.reduceAdd, Int.reduceNeg, Nat.reduceLeDiff, Int.reduceToNat, Int.reduceEq, Int.reduceLT, Int.reduceLE, Int.reduceAdd]
        exact goJ (step o3 H3 (by simpa [h4] using hs3)) (by simp (disch := first | omega | assumption) only [steps, st2, pev, rev, oev, optr, ibin, sbin, ishf, bound, mmAll, mm2, mk, mkArgs, AV.cells, AV.boxable, AV.one, AV.strip1, fillA, fillS, Nat.reduceEqDiff, reduceCtorEq, ↓reduceIte, Nat.reduceAdd, Int.reduceNeg, Nat.reduceLeDiff, Int.reduceToNat, Int.reduceEq, Int.reduceLT, Int.reduceLE, Int.reduceAdd])
    · have g1 : ¬ ((c.toNat : Int) = 34) := fun e => c1 (.inl (UInt8.toNat_inj.1 (by have : (34 : UInt8).toNat = 34 := rfl; omega)))
      have g2 : ¬ ((c.toNat : Int) = 92) := fun e => c1 (.inr (UInt8.toNat_inj.1 (by have : (92 : UInt8).toNat = 92 := rfl; omega)))
      by_cases c2 : c.toNat < 32
      · have g3 : ((c.toNat : Int) < 32) = True := eq_true (by omega)
        have eq : qB c = [92, 117, 48, 48, hexL.getD (c.toNat / 16) 0, hexL.getD (c.toNat % 16) 0] := by unfold qB; rw [if_neg c1, if_pos c2]
        have g4 := fd4 c.toNat
        have g5 := and15b c
        have g6 : (((c.toNat / 16 : Nat) : Int) < 16) = True := eq_true (by omega)
        have g7 : (((c.toNat % 16 : Nat) : Int) < 16) = True := eq_true (by omega)
        have e3 : bytesOf a ++ bytesOf [92, 117, 48, 48] = bytesOf (a ++ [92, 117, 48, 48]) := bytesOf_app a _
        have e4 : bytesOf (a ++ [92, 117, 48, 48]) ++ [[AV.int .u8 ((hexL.getD (c.toNat / 16) 0).toNat)], [AV.int .u8 ((hexL.getD (c.toNat % 16) 0).toNat)]] = bytesOf (a ++ [92, 117, 48, 48] ++ [hexL.getD (c.toNat / 16) 0, hexL.getD (c.toNat % 16) 0]) := bytesOf_two _ _ _
        have h5 := bytesOf_len (a ++ [92, 117, 48, 48])
        simp (disch := first | omega | assumption) only [hg2, hg, g1, g2, g3, steps, st2, pev, rev, oev, optr, ibin, sbin, ishf, bound, mmAll, mm2, mk, mkArgs, AV.cells, AV.boxable, AV.one, AV.strip1, fillA, fillS, Nat.reduceEqDiff, reduceCtorEq, ↓reduceIte, Nat.reduceAdd, Int.reduceNeg, Nat.reduceLeDiff, Int.reduceToNat, Int.reduceEq, Int.reduceLT, Int.reduceLE, Int.reduceAdd]
        refine goP_ownS (by rw [h4]; exact hs.own) (by simp [h4, bytesOf_len]; omega) (by simp [h4, maxLen, bytesOf_len]; omega) fun o3 H3 hs3 => ?_
        rw [bytesOf_strip, e3]
        have hs3' : OwnS H2 o2 H3 o3 (a ++ [92, 117, 48, 48]).length 1 := by simpa [h4, bytesOf_len] using hs3
        simp (disch := first | omega | assumption) only [g4, g5, g6, g7, steps, st2, pev, rev, oev, optr, ibin, sbin, ishf, bound, mmAll, mm2, mk, mkArgs, AV.cells, AV.boxable, AV.one, AV.strip1, fillA, fillS, Nat.reduceEqDiff, reduceCtorEq, ↓reduceIte, Nat.reduceAdd, Int.reduceNeg, Nat.reduceLeDiff, Int.reduceToNat, Int.reduceEq, Int.reduceLT, Int.reduceLE, Int.reduceAdd]
        refine goP_ownS (by rw [h5]; exact hs3'.own) (by simp [h5]; omega) (by simp [h5, maxLen]; omega) fun o4 H4 hs4 => ?_
        have e5 : (bytesOf (a ++ [92, 117, 48, 48]) ++ [[AV.int .u8 ((hexL.getD (c.toNat / 16) 0).toNat)], [AV.int .u8 ((hexL.getD (c.toNat % 16) 0).toNat)]]) = bytesOf (a ++ qB c) := by rw [e4, eq]; simp
        have hs4' : OwnS H2 o2 H4 o4 (a ++ qB c).length 1 := hs3'.trans (by rw [eq]; simpa [h5] using hs4)
        have e6 : ∀ y : List (List AV), y = bytesOf (a ++ qB c) → J ((setAll _ [(12, .int .i64 ((done.length : Int) + 1)), (0, .sl o4 1 y)]).keep [0, 1, 11, 12]) H4 := fun y e => by
          rw [e]; exact hJ (o4, a ++ qB c) H4 ⟨by rw [← hn]; simp, by rw [eq]; simp; omega, hs.trans hs4'⟩
        simp (disch := first | omega | assumption) only [wrap64, steps, st2, pev, rev, oev, optr, ibin, sbin, ishf, bound, mmAll, mm2, mk, mkArgs, AV.cells, AV.boxable, AV.one, AV.strip1, fillA, fillS, Nat.reduceEqDiff, reduceCtorEq, ↓reduceIte, Nat.reduceAdd, Int.reduceNeg, Nat.reduceLeDiff, Int.reduceToNat, Int.reduceEq, Int.reduceLT, Int.reduceLE, Int.reduceAdd]
        exact goJ (e6 _ e5) (by simp (disch := first | omega | assumption) only [hexL, steps, st2, pev, rev, oev, optr, ibin, sbin, ishf, bound, mmAll, mm2, mk, mkArgs, AV.cells, AV.boxable, AV.one, AV.strip1, fillA, fillS, Nat.reduceEqDiff, reduceCtorEq, ↓reduceIte, Nat.reduceAdd, Int.reduceNeg, Nat.reduceLeDiff, Int.reduceToNat, Int.reduceEq, Int.reduceLT, Int.reduceLE, Int.reduceAdd])
      · have g3 : ¬ ((c.toNat : Int) < 32) := by omega
        have eq : qB c = [c] := by unfold qB; rw [if_neg c1, if_neg c2]
        have e3 : bytesOf a ++ [[AV.int .u8 c.toNat]] = bytesOf (a ++ [c]) := bytesOf_one a c
        simp (disch := first | omega | assumption) only [hg2, hg, g1, g2, g3, steps, st2, pev, rev, oev, optr, ibin, sbin, ishf, bound, mmAll, mm2, mk, mkArgs, AV.cells, AV.boxable, AV.one, AV.strip1, fillA, fillS, Nat.reduceEqDiff, reduceCtorEq, ↓reduceIte, Nat.reduceAdd, Int.reduceNeg, Nat.reduceLeDiff, Int.reduceToNat, Int.reduceEq, Int.reduceLT, Int.reduceLE, Int.reduceAdd]
        refine goP_ownS (by rw [h4]; exact hs.own) (by simp [h4]; omega) (by simp [h4, maxLen]; omega) fun o3 H3 hs3 => ?_
        simp (disch := first | omega | assumption) only [e3, wrap64, steps, st2, pev, rev, oev, optr, ibin, sbin, ishf, bound, mmAll, mm2, mk, mkArgs, AV.cells, AV.boxable, AV.one, AV.strip1, fillA, fillS, Nat.reduceEqDiff, reduceCtorEq, ↓reduceIte, Nat.reduceAdd, Int.reduceNeg, Nat.reduceLeDiff, Int.reduceToNat, Int.reduceEq, Int.reduceLT, Int.reduceLE, Int.reduceAdd]
        exact goJ (hJ (o3, a ++ [c]) H3 ⟨by rw [← hn, eq]; simp, by simp; omega, hs.trans (by simpa [h4] using hs3)⟩) (by simp (disch := first | omega | assumption) only [steps, st2, pev, rev, oev, optr, ibin, sbin, ishf, bound, mmAll, mm2, mk, mkArgs, AV.cells, AV.boxable, AV.one, AV.strip1, fillA, fillS, Nat.reduceEqDiff, reduceCtorEq, ↓reduceIte, Nat.reduceAdd, Int.reduceNeg, Nat.reduceLeDiff, Int.reduceToNat, Int.reduceEq, Int.reduceLT, Int.reduceLE, Int.reduceAdd])
theorem appBool0 (b : Bool) (acc : List UInt8) (H : Heap) (o : Own) (ho : Owned H o acc.length 1) (hb : acc.length + 5 ≤ Lim) :
    Gives Tryd.prog 118 [.sl o 1 (bytesOf acc), .bool b] H o 1 (bytesOf (acc ++ boolT b)) := by
  refine ACalls.goO ir118 ck118 (Nat.le_refl _) fun KP Q hQ hP => ?_
  have hal := bytesOf_len acc
  simp only [Lim] at hb
  cases b
  · simp (disch := first | omega | assumption) only [ir118, steps, st2, pev, rev, oev, optr, ibin, sbin, ishf, bound, mmAll, mm2, mk, mkArgs, AV.cells, AV.boxable, AV.one, AV.strip1, fillA, fillS, Nat.reduceEqDiff, reduceCtorEq, ↓reduceIte, Nat.reduceAdd, Int.reduceNeg, Nat.reduceLeDiff, Int.reduceToNat, Int.reduceEq, Int.reduceLT, Int.reduceLE, Int.reduceAdd]
    refine goP_ownS (by rw [hal]; exact ho) (by simp [hal, bytesOf_len]; omega) (by simp [hal, maxLen, bytesOf_len]; omega) fun o1 H1 hs1 => ?_
    rw [bytesOf_strip, bytesOf_app]
    simp (disch := first | omega | assumption) only [steps, st2, pev, rev, oev, optr, ibin, sbin, ishf, bound, mmAll, mm2, mk, mkArgs, AV.cells, AV.boxable, AV.one, AV.strip1, fillA, fillS, Nat.reduceEqDiff, reduceCtorEq, ↓reduceIte, Nat.reduceAdd, Int.reduceNeg, Nat.reduceLeDiff, Int.reduceToNat, Int.reduceEq, Int.reduceLT, Int.reduceLE, Int.reduceAdd]
    exact hQ _ _ H1 H1 [_] nofun rfl (Low.refl _) ⟨o1, rfl, by simpa [hal, bytesOf_len, boolT] using hs1⟩
  · simp (disch := first | omega | assumption) only [ir118, steps, st2, pev, rev, oev, optr, ibin, sbin, ishf, bound, mmAll, mm2, mk, mkArgs, AV.cells, AV.boxable, AV.one, AV.strip1, fillA, fillS, Nat.reduceEqDiff, reduceCtorEq, ↓reduceIte, Nat.reduceAdd, Int.reduceNeg, Nat.reduceLeDiff, Int.reduceToNat, Int.reduceEq, Int.reduceLT, Int.reduceLE, Int.reduceAdd]
    refine goP_ownS (by rw [hal]; exact ho) (by simp [hal, bytesOf_len]; omega) (by simp [hal, maxLen, bytesOf_len]; omega) fun o1 H1 hs1 => ?_
    rw [bytesOf_strip, bytesOf_app]
    simp (disch := first | omega | assumption) only [steps, st2, pev, rev, oev, optr, ibin, sbin, ishf, bound, mmAll, mm2, mk, mkArgs, AV.cells, AV.boxable, AV.one, AV.strip1, fillA, fillS, Nat.reduceEqDiff, reduceCtorEq, ↓reduceIte, Nat.reduceAdd, Int.reduceNeg, Nat.reduceLeDiff, Int.reduceToNat, Int.reduceEq, Int.reduceLT, Int.reduceLE, Int.reduceAdd]
    exact hQ _ _ H1 H1 [_] nofun rfl (Low.refl _) ⟨o1, rfl, by simpa [hal, bytesOf_len, boolT] using hs1⟩
theorem appBool (b : Bool) (acc : List UInt8) (H : Heap) (o : Own) (ho : Owned H o acc.length 1) (hb : acc.length + 5 ≤ Lim) :
    Gives Tryd.prog 98 [.sl o 1 (bytesOf acc), .bool b] H o 1 (bytesOf (acc ++ boolT b)) := by
  refine ACalls.goO ir98 ck98 (Nat.le_refl _) fun KP Q hQ hP => ?_
  simp (disch := first | omega | assumption) only [ir98, steps, st2, pev, rev, oev, optr, ibin, sbin, ishf, bound, mmAll, mm2, mk, mkArgs, AV.cells, AV.boxable, AV.one, AV.strip1, fillA, fillS, Nat.reduceEqDiff, reduceCtorEq, ↓reduceIte, Nat.reduceAdd, Int.reduceNeg, Nat.reduceLeDiff, Int.reduceToNat, Int.reduceEq, Int.reduceLT, Int.reduceLE, Int.reduceAdd]
  refine goK_gives (appBool0 b acc H o ho hb) fun o1 H1 hs1 => ?_
  simp (disch := first | omega | assumption) only [steps, st2, pev, rev, oev, optr, ibin, sbin, ishf, bound, mmAll, mm2, mk, mkArgs, AV.cells, AV.boxable, AV.one, AV.strip1, fillA, fillS, Nat.reduceEqDiff, reduceCtorEq, ↓reduceIte, Nat.reduceAdd, Int.reduceNeg, Nat.reduceLeDiff, Int.reduceToNat, Int.reduceEq, Int.reduceLT, Int.reduceLE, Int.reduceAdd]
  exact hQ _ _ H1 H1 [_] nofun rfl (Low.refl _) ⟨o1, rfl, hs1⟩
theorem appInt (n : Int) (h0 : -9223372036854775808 ≤ n) (h1 : n ≤ 9223372036854775807) (acc : List UInt8) (H : Heap) (o : Own) (ho : Owned H o acc.length 1) (hb : acc.length + 1 ≤ Lim) :
    Gives Tryd.prog 99 [.sl o 1 (bytesOf acc), .int .i64 n, .int .i64 10] H o 1 (bytesOf (acc ++ itoa n)) := by
  refine ACalls.goO ir99 ck99 (Nat.le_refl _) fun KP Q hQ hP => ?_
  simp (disch := first | omega | assumption) only [ir99, steps, st2, pev, rev, oev, optr, ibin, sbin, ishf, bound, mmAll, mm2, mk, mkArgs, AV.cells, AV.boxable, AV.one, AV.strip1, fillA, fillS, Nat.reduceEqDiff, reduceCtorEq, ↓reduceIte, Nat.reduceAdd, Int.reduceNeg, Nat.reduceLeDiff, Int.reduceToNat, Int.reduceEq, Int.reduceLT, Int.reduceLE, Int.reduceAdd]
  refine goK_gives (appInt0 n h0 h1 acc H o ho hb) fun o1 H1 hs1 => ?_
  simp (disch := first | omega | assumption) only [steps, st2, pev, rev, oev, optr, ibin, sbin, ishf, bound, mmAll, mm2, mk, mkArgs, AV.cells, AV.boxable, AV.one, AV.strip1, fillA, fillS, Nat.reduceEqDiff, reduceCtorEq, ↓reduceIte, Nat.reduceAdd, Int.reduceNeg, Nat.reduceLeDiff, Int.reduceToNat, Int.reduceEq, Int.reduceLT, Int.reduceLE, Int.reduceAdd]
  exact hQ _ _ H1 H1 [_] nofun rfl (Low.refl _) ⟨o1, rfl, hs1⟩
theorem putC : ∀ v, wfV v → ∀ acc H o, acc.length + 25 * bV v ≤ Lim → Owned H o acc.length 1 → Gives Tryd.prog 74 [.sl o 1 (bytesOf acc), .agg (cV v)] H o 1 (bytesOf (acc ++ putV v)) := by
  refine Val.ind fun k n s l m ihl ihm hwf acc H o hb ho => ?_
  obtain ⟨hn, hwl, hwm⟩ := hwf
  have hb' : acc.length + 25 * (1 + s.length + bVs l + bMs m) ≤ Lim := hb
  have h1 := cVs_len l
  have h2 := cMs_len m
  have h3 := bytesOf_len acc
  have hll := bVs_len l
  have hml := bMs_len m
  simp only [Lim] at hb'
  have ho' : Owned H o (bytesOf acc).length 1 := by rw [h3]; exact ho
  refine ACalls.goO ir74 ck74 (Nat.le_refl _) fun KP Q hQ hP => ?_
  have lit : ∀ t : List UInt8, putV (.mk k n s l m) = t → ∀ o' H', OwnS H o H' o' (acc ++ t).length 1 → OwnR H o 1 (bytesOf (acc ++ putV (.mk k n s l m))) (.sl o' 1 (bytesOf (acc ++ t))) H' := fun t e o' H' hs => by
    rw [e]; exact ⟨o', rfl, by rw [bytesOf_len]; exact hs⟩
  by_cases k0 : k = 0
  · subst k0
    simp (disch := first | omega | assumption) only [ir74, cV_mk, steps, st2, pev, rev, oev, optr, ibin, sbin, ishf, bound, mmAll, mm2, mk, mkArgs, AV.cells, AV.boxable, AV.one, AV.strip1, fillA, fillS, Nat.reduceEqDiff, reduceCtorEq, ↓reduceIte, Nat.reduceAdd, Int.reduceNeg, Nat.reduceLeDiff, Int.reduceToNat, Int.reduceEq, Int.reduceLT, Int.reduceLE, Int.reduceAdd]
    refine goP_ownS ho' (by simp [h3, bytesOf_len]; omega) (by simp [h3, maxLen, bytesOf_len]; omega) fun o1 H1 hs1 => ?_
    rw [bytesOf_strip, bytesOf_app]
    simp (disch := first | omega | assumption) only [steps, st2, pev, rev, oev, optr, ibin, sbin, ishf, bound, mmAll, mm2, mk, mkArgs, AV.cells, AV.boxable, AV.one, AV.strip1, fillA, fillS, Nat.reduceEqDiff, reduceCtorEq, ↓reduceIte, Nat.reduceAdd, Int.reduceNeg, Nat.reduceLeDiff, Int.reduceToNat, Int.reduceEq, Int.reduceLT, Int.reduceLE, Int.reduceAdd]
    exact hQ _ _ H1 H1 [_] nofun rfl (Low.refl _) (lit [110, 117, 108, 108] (by simp [putV]) o1 H1 (by simpa [h3, bytesOf_len] using hs1))
  by_cases k1 : k = 1
  · subst k1
    simp (disch := first | omega | assumption) only [ir74, cV_mk, steps, st2, pev, rev, oev, optr, ibin, sbin, ishf, bound, mmAll, mm2, mk, mkArgs, AV.cells, AV.boxable, AV.one, AV.strip1, fillA, fillS, Nat.reduceEqDiff, reduceCtorEq, ↓reduceIte, Nat.reduceAdd, Int.reduceNeg, Nat.reduceLeDiff, Int.reduceToNat, Int.reduceEq, Int.reduceLT, Int.reduceLE, Int.reduceAdd]
    refine goK_gives (appBool _ acc H o ho (by simp only [Lim]; omega)) fun o1 H1 hs1 => ?_
    simp (disch := first | omega | assumption) only [steps, st2, pev, rev, oev, optr, ibin, sbin, ishf, bound, mmAll, mm2, mk, mkArgs, AV.cells, AV.boxable, AV.one, AV.strip1, fillA, fillS, Nat.reduceEqDiff, reduceCtorEq, ↓reduceIte, Nat.reduceAdd, Int.reduceNeg, Nat.reduceLeDiff, Int.reduceToNat, Int.reduceEq, Int.reduceLT, Int.reduceLE, Int.reduceAdd]
    exact hQ _ _ H1 H1 [_] nofun rfl (Low.refl _) (lit (boolT (decide (n = 1))) (by simp [putV]) o1 H1 (by rw [← bytesOf_len]; exact hs1))
  by_cases k2 : k = 2
  · subst k2
    simp (disch := first | omega | assumption) only [ir74, cV_mk, steps, st2, pev, rev, oev, optr, ibin, sbin, ishf, bound, mmAll, mm2, mk, mkArgs, AV.cells, AV.boxable, AV.one, AV.strip1, fillA, fillS, Nat.reduceEqDiff, reduceCtorEq, ↓reduceIte, Nat.reduceAdd, Int.reduceNeg, Nat.reduceLeDiff, Int.reduceToNat, Int.reduceEq, Int.reduceLT, Int.reduceLE, Int.reduceAdd]
    refine goK_gives (appInt n hn.1 hn.2 acc H o ho (by simp only [Lim]; omega)) fun o1 H1 hs1 => ?_
    simp (disch := first | omega | assumption) only [steps, st2, pev, rev, oev, optr, ibin, sbin, ishf, bound, mmAll, mm2, mk, mkArgs, AV.cells, AV.boxable, AV.one, AV.strip1, fillA, fillS, Nat.reduceEqDiff, reduceCtorEq, ↓reduceIte, Nat.reduceAdd, Int.reduceNeg, Nat.reduceLeDiff, Int.reduceToNat, Int.reduceEq, Int.reduceLT, Int.reduceLE, Int.reduceAdd]
    exact hQ _ _ H1 H1 [_] nofun rfl (Low.refl _) (lit (itoa n) (by simp [putV]) o1 H1 (by rw [← bytesOf_len]; exact hs1))
  by_cases k3 : k = 3
  · subst k3
    simp (disch := first | omega | assumption) only [ir74, cV_mk, steps, st2, pev, rev, oev, optr, ibin, sbin, ishf, bound, mmAll, mm2, mk, mkArgs, AV.cells, AV.boxable, AV.one, AV.strip1, fillA, fillS, Nat.reduceEqDiff, reduceCtorEq, ↓reduceIte, Nat.reduceAdd, Int.reduceNeg, Nat.reduceLeDiff, Int.reduceToNat, Int.reduceEq, Int.reduceLT, Int.reduceLE, Int.reduceAdd]
    refine goP_ownS ho' (by simp [h3, bytesOf_len]; omega) (by simp [h3, maxLen, bytesOf_len]; omega) fun o1 H1 hs1 => ?_
    rw [bytesOf_strip, bytesOf_app]
    simp (disch := first | omega | assumption) only [steps, st2, pev, rev, oev, optr, ibin, sbin, ishf, bound, mmAll, mm2, mk, mkArgs, AV.cells, AV.boxable, AV.one, AV.strip1, fillA, fillS, Nat.reduceEqDiff, reduceCtorEq, ↓reduceIte, Nat.reduceAdd, Int.reduceNeg, Nat.reduceLeDiff, Int.reduceToNat, Int.reduceEq, Int.reduceLT, Int.reduceLE, Int.reduceAdd]
    exact hQ _ _ H1 H1 [_] nofun rfl (Low.refl _) (lit s (by simp [putV]) o1 H1 (by simpa [h3, bytesOf_len] using hs1))
  by_cases k4 : k = 4
  · subst k4
    simp (disch := first | omega | assumption) only [ir74, cV_mk, steps, st2, pev, rev, oev, optr, ibin, sbin, ishf, bound, mmAll, mm2, mk, mkArgs, AV.cells, AV.boxable, AV.one, AV.strip1, fillA, fillS, Nat.reduceEqDiff, reduceCtorEq, ↓reduceIte, Nat.reduceAdd, Int.reduceNeg, Nat.reduceLeDiff, Int.reduceToNat, Int.reduceEq, Int.reduceLT, Int.reduceLE, Int.reduceAdd]
    refine goK_gives (quoteC s acc H o ho (by simp only [Lim]; omega)) fun o1 H1 hs1 => ?_
    simp (disch := first | omega | assumption) only [steps, st2, pev, rev, oev, optr, ibin, sbin, ishf, bound, mmAll, mm2, mk, mkArgs, AV.cells, AV.boxable, AV.one, AV.strip1, fillA, fillS, Nat.reduceEqDiff, reduceCtorEq, ↓reduceIte, Nat.reduceAdd, Int.reduceNeg, Nat.reduceLeDiff, Int.reduceToNat, Int.reduceEq, Int.reduceLT, Int.reduceLE, Int.reduceAdd]
    exact hQ _ _ H1 H1 [_] nofun rfl (Low.refl _) (lit (quoteM s) (by simp [putV]) o1 H1 (by rw [← bytesOf_len]; exact hs1))
  by_cases k6 : k = 6
  · subst k6
    have e : putV (.mk 6 n s l m) = 91 :: (putVs true l ++ [93]) := by simp [putV]
    have ea : bytesOf acc ++ [[AV.int .u8 91]] = bytesOf (acc ++ [91]) := bytesOf_one acc 91
    simp (disch := first | omega | assumption) only [ir74, cV_mk, steps, st2, pev, rev, oev, optr, ibin, sbin, ishf, bound, mmAll, mm2, mk, mkArgs, AV.cells, AV.boxable, AV.one, AV.strip1, fillA, fillS, Nat.reduceEqDiff, reduceCtorEq, ↓reduceIte, Nat.reduceAdd, Int.reduceNeg, Nat.reduceLeDiff, Int.reduceToNat, Int.reduceEq, Int.reduceLT, Int.reduceLE, Int.reduceAdd]
    refine goP_ownS ho' (by simp [h3]; omega) (by simp [h3, maxLen]; omega) fun o1 H1 hs1 => ?_
    have hs1' : OwnS H o H1 o1 (acc ++ [91]).length 1 := by simpa [h3] using hs1
    simp (disch := first | omega | assumption) only [ea, h1, steps, st2, pev, rev, oev, optr, ibin, sbin, ishf, bound, mmAll, mm2, mk, mkArgs, AV.cells, AV.boxable, AV.one, AV.strip1, fillA, fillS, Nat.reduceEqDiff, reduceCtorEq, ↓reduceIte, Nat.reduceAdd, Int.reduceNeg, Nat.reduceLeDiff, Int.reduceToNat, Int.reduceEq, Int.reduceLT, Int.reduceLE, Int.reduceAdd]
    refine goL_range l 48 (fun x : Own × List UInt8 => [(0, .sl x.1 1 (bytesOf x.2))]) (fun done rest x H' => x.2 ++ putVs (decide (done = [])) rest = acc ++ 91 :: putVs true l ∧ x.2.length + 25 * bVs rest ≤ acc.length + 1 + 25 * bVs l ∧ OwnS H o H' x.1 x.2.length 1) (o1, acc ++ [91]) (by simp (disch := first | omega | assumption) only [steps, st2, pev, rev, oev, optr, ibin, sbin, ishf, bound, mmAll, mm2, mk, mkArgs, AV.cells, AV.boxable, AV.one, AV.strip1, fillA, fillS, Nat.reduceEqDiff, reduceCtorEq, ↓reduceIte, Nat.reduceAdd, Int.reduceNeg, Nat.reduceLeDiff, Int.reduceToNat, Int.reduceEq, Int.reduceLT, Int.reduceLE, Int.reduceAdd]) ⟨by simp, by simp, hs1'⟩ ?_ ?_
    · rintro ⟨o2, a⟩ H2 J ⟨hn, hle, hs⟩ hlt
      simp only [putVs, List.append_nil, bVs] at hn hle
      have h4 := bytesOf_len a
      have e3 : bytesOf a ++ [[AV.int .u8 93]] = bytesOf (a ++ [93]) := bytesOf_one a 93
      simp (disch := first | omega | assumption) only [h1, hlt, steps, st2, pev, rev, oev, optr, ibin, sbin, ishf, bound, mmAll, mm2, mk, mkArgs, AV.cells, AV.boxable, AV.one, AV.strip1, fillA, fillS, Nat.reduceEqDiff, reduceCtorEq, ↓reduceIte, Nat.reduceAdd, Int.reduceNeg, Nat.reduceLeDiff, Int.reduceToNat, Int.reduceEq, Int.reduceLT, Int.reduceLE, Int.reduceAdd]
      refine goP_ownS (by rw [h4]; exact hs.own) (by simp [h4]; omega) (by simp [h4, maxLen]; omega) fun o3 H3 hs3 => ?_
      simp (disch := first | omega | assumption) only [e3, steps, st2, pev, rev, oev, optr, ibin, sbin, ishf, bound, mmAll, mm2, mk, mkArgs, AV.cells, AV.boxable, AV.one, AV.strip1, fillA, fillS, Nat.reduceEqDiff, reduceCtorEq, ↓reduceIte, Nat.reduceAdd, Int.reduceNeg, Nat.reduceLeDiff, Int.reduceToNat, Int.reduceEq, Int.reduceLT, Int.reduceLE, Int.reduceAdd]
      have e2 : acc ++ putV (.mk 6 n s l m) = a ++ [93] := by rw [e, hn]; simp
      refine hQ _ _ H3 H3 [_] nofun rfl (Low.refl _) ?_
      rw [e2]
      exact ⟨o3, rfl, by rw [bytesOf_len]; exact hs.trans (by simpa [h4] using hs3)⟩
    · rintro done x rest ⟨o2, a⟩ H2 J hd hlt _ ⟨hn, hle, hs⟩ hJ
      have hg := cVs_get hd
      have hmem : x ∈ l := by rw [hd]; simp
      have hx := put_le x (wfVs_mem hwl x hmem)
      have h4 := bytesOf_len a
      simp only [putVs, bVs] at hn hle
      simp (disch := first | omega | assumption) only [cV_len, cV_take, cV_splice, cM_len, cM_take, cM_splice, cM_mk, h1, hlt, hg, steps, st2, pev, rev, oev, optr, ibin, sbin, ishf, bound, mmAll, mm2, mk, mkArgs, AV.cells, AV.boxable, AV.one, AV.strip1, fillA, fillS, Nat.reduceEqDiff, reduceCtorEq, ↓reduceIte, Nat.reduceAdd, Int.reduceNeg, Nat.reduceLeDiff, Int.reduceToNat, Int.reduceEq, Int.reduceLT, Int.reduceLE, Int.reduceAdd]
      refine goA_intro fun b hb => ?_
      cases done with
      | nil =>
        simp only [decide_true, if_true, List.nil_append] at hn
        simp (disch := first | omega | assumption) only [cV_len, cV_take, cV_splice, cM_len, cM_take, cM_splice, cM_mk, steps, st2, pev, rev, oev, optr, ibin, sbin, ishf, bound, mmAll, mm2, mk, mkArgs, AV.cells, AV.boxable, AV.one, AV.strip1, fillA, fillS, Nat.reduceEqDiff, reduceCtorEq, ↓reduceIte, Nat.reduceAdd, Int.reduceNeg, Nat.reduceLeDiff, Int.reduceToNat, Int.reduceEq, Int.reduceLT, Int.reduceLE, Int.reduceAdd]
        refine goK_gives (ihl x hmem (wfVs_mem hwl x hmem) a _ o2 (by simp only [Lim]; omega) (hs.own.upd hb)) fun o3 H3 hs3 => ?_
        rw [bytesOf_len] at hs3
        simp (disch := first | omega | assumption) only [wrap64, steps, st2, pev, rev, oev, optr, ibin, sbin, ishf, bound, mmAll, mm2, mk, mkArgs, AV.cells, AV.boxable, AV.one, AV.strip1, fillA, fillS, Nat.reduceEqDiff, reduceCtorEq, ↓reduceIte, Nat.reduceAdd, Int.reduceNeg, Nat.reduceLeDiff, Int.reduceToNat, Int.reduceEq, Int.reduceLT, Int.reduceLE, Int.reduceAdd]
        exact goJ (hJ (o3, a ++ putV x) H3 ⟨by rw [← hn]; simp, by simp only [List.length_append]; omega, (hs.upd hb).trans hs3⟩) (by simp (disch := first | omega | assumption) only [steps, st2, pev, rev, oev, optr, ibin, sbin, ishf, bound, mmAll, mm2, mk, mkArgs, AV.cells, AV.boxable, AV.one, AV.strip1, fillA, fillS, Nat.reduceEqDiff, reduceCtorEq, ↓reduceIte, Nat.reduceAdd, Int.reduceNeg, Nat.reduceLeDiff, Int.reduceToNat, Int.reduceEq, Int.reduceLT, Int.reduceLE, Int.reduceAdd])
      | cons y done =>
        have g0 : ((0 : Int) < ((done.length + 1 : Nat) : Int)) = True := eq_true (by omega)
        have hlt' := hlt
        simp only [List.length_cons] at hlt'
        have hw : IntKind.wrap .i64 (((done.length + 1 : Nat) : Int) + 1) = ((done.length + 1 : Nat) : Int) + 1 := wrap64 (by omega) (by omega)
        have ec : bytesOf a ++ [[AV.int .u8 44]] = bytesOf (a ++ [44]) := bytesOf_one a 44
        simp only [reduceCtorEq, decide_false, Bool.false_eq_true, if_false] at hn
        simp (disch := first | omega | assumption) only [cV_len, cV_take, cV_splice, cM_len, cM_take, cM_splice, cM_mk, g0, steps, st2, pev, rev, oev, optr, ibin, sbin, ishf, bound, mmAll, mm2, mk, mkArgs, AV.cells, AV.boxable, AV.one, AV.strip1, fillA, fillS, Nat.reduceEqDiff, reduceCtorEq, ↓reduceIte, Nat.reduceAdd, Int.reduceNeg, Nat.reduceLeDiff, Int.reduceToNat, Int.reduceEq, Int.reduceLT, Int.reduceLE, Int.reduceAdd]
        refine goP_ownS (by rw [h4]; exact hs.own.upd hb) (by simp [h4]; omega) (by simp [h4, maxLen]; omega) fun o3 H3 hs3 => ?_
        have hs3' : OwnS H o H3 o3 (a ++ [44]).length 1 := (hs.upd hb).trans (by simpa [h4] using hs3)
        have hHb : H3 b = some (.cells (cV x)) := hs3.kept b _ (upd_same ..) fun d e => by
          have := hs.own; subst e
          have hx : H2 b = _ := this
          rw [hb] at hx; cases hx
        simp (disch := first | omega | assumption) only [cV_len, cV_take, cV_splice, cM_len, cM_take, cM_splice, cM_mk, ec, hHb, steps, st2, pev, rev, oev, optr, ibin, sbin, ishf, bound, mmAll, mm2, mk, mkArgs, AV.cells, AV.boxable, AV.one, AV.strip1, fillA, fillS, Nat.reduceEqDiff, reduceCtorEq, ↓reduceIte, Nat.reduceAdd, Int.reduceNeg, Nat.reduceLeDiff, Int.reduceToNat, Int.reduceEq, Int.reduceLT, Int.reduceLE, Int.reduceAdd]
        refine goK_gives (ihl x hmem (wfVs_mem hwl x hmem) (a ++ [44]) _ o3 (by simp only [Lim, List.length_append, List.length_cons, List.length_nil]; omega) hs3'.own) fun o4 H4 hs4 => ?_
        rw [bytesOf_len] at hs4
        simp (disch := first | omega | assumption) only [hw, steps, st2, pev, rev, oev, optr, ibin, sbin, ishf, bound, mmAll, mm2, mk, mkArgs, AV.cells, AV.boxable, AV.one, AV.strip1, fillA, fillS, Nat.reduceEqDiff, reduceCtorEq, ↓reduceIte, Nat.reduceAdd, Int.reduceNeg, Nat.reduceLeDiff, Int.reduceToNat, Int.reduceEq, Int.reduceLT, Int.reduceLE, Int.reduceAdd]
        exact goJ (hJ (o4, a ++ [44] ++ putV x) H4 ⟨by rw [← hn]; simp, by simp only [List.length_append, List.length_cons, List.length_nil]; omega, hs3'.trans hs4⟩) (by simp (disch := first | omega | assumption) only [steps, st2, pev, rev, oev, optr, ibin, sbin, ishf, bound, mmAll, mm2, mk, mkArgs, AV.cells, AV.boxable, AV.one, AV.strip1, fillA, fillS, Nat.reduceEqDiff, reduceCtorEq, ↓reduceIte, Nat.reduceAdd, Int.reduceNeg, Nat.reduceLeDiff, Int.reduceToNat, Int.reduceEq, Int.reduceLT, Int.reduceLE, Int.reduceAdd])
  · have e : putV (.mk k n s l m) = 123 :: (putMs true m ++ [125]) := by simp [putV, k0, k1, k2, k3, k4, k6]
    have ea : bytesOf acc ++ [[AV.int .u8 123]] = bytesOf (acc ++ [123]) := bytesOf_one acc 123
    simp (disch := first | omega | assumption) only [ir74, cV_mk, k0, k1, k2, k3, k4, k6, steps, st2, pev, rev, oev, optr, ibin, sbin, ishf, bound, mmAll, mm2, mk, mkArgs, AV.cells, AV.boxable, AV.one, AV.strip1, fillA, fillS, Nat.reduceEqDiff, reduceCtorEq, ↓reduceIte, Nat.reduceAdd, Int.reduceNeg, Nat.reduceLeDiff, Int.reduceToNat, Int.reduceEq, Int.reduceLT, Int.reduceLE, Int.reduceAdd]
    refine goP_ownS ho' (by simp [h3]; omega) (by simp [h3, maxLen]; omega) fun o1 H1 hs1 => ?_
    have hs1' : OwnS H o H1 o1 (acc ++ [123]).length 1 := by simpa [h3] using hs1
    simp (disch := first | omega | assumption) only [ea, h2, steps, st2, pev, rev, oev, optr, ibin, sbin, ishf, bound, mmAll, mm2, mk, mkArgs, AV.cells, AV.boxable, AV.one, AV.strip1, fillA, fillS, Nat.reduceEqDiff, reduceCtorEq, ↓reduceIte, Nat.reduceAdd, Int.reduceNeg, Nat.reduceLeDiff, Int.reduceToNat, Int.reduceEq, Int.reduceLT, Int.reduceLE, Int.reduceAdd]
    refine goL_range m 71 (fun x : Own × List UInt8 => [(0, .sl x.1 1 (bytesOf x.2))]) (fun done rest x H' => x.2 ++ putMs (decide (done = [])) rest = acc ++ 123 :: putMs true m ∧ x.2.length + 25 * bMs rest ≤ acc.length + 1 + 25 * bMs m ∧ OwnS H o H' x.1 x.2.length 1) (o1, acc ++ [123]) (by simp (disch := first | omega | assumption) only [steps, st2, pev, rev, oev, optr, ibin, sbin, ishf, bound, mmAll, mm2, mk, mkArgs, AV.cells, AV.boxable, AV.one, AV.strip1, fillA, fillS, Nat.reduceEqDiff, reduceCtorEq, ↓reduceIte, Nat.reduceAdd, Int.reduceNeg, Nat.reduceLeDiff, Int.reduceToNat, Int.reduceEq, Int.reduceLT, Int.reduceLE, Int.reduceAdd]) ⟨by simp, by simp, hs1'⟩ ?_ ?_
    · rintro ⟨o2, a⟩ H2 J ⟨hn, hle, hs⟩ hlt
      simp only [putMs, List.append_nil, bMs] at hn hle
      have h4 := bytesOf_len a
      have e3 : bytesOf a ++ [[AV.int .u8 125]] = bytesOf (a ++ [125]) := bytesOf_one a 125
      simp (disch := first | omega | assumption) only [h2, hlt, steps, st2, pev, rev, oev, optr, ibin, sbin, ishf, bound, mmAll, mm2, mk, mkArgs, AV.cells, AV.boxable, AV.one, AV.strip1, fillA, fillS, Nat.reduceEqDiff, reduceCtorEq, ↓reduceIte, Nat.reduceAdd, Int.reduceNeg, Nat.reduceLeDiff, Int.reduceToNat, Int.reduceEq, Int.reduceLT, Int.reduceLE, Int.reduceAdd]
      refine goP_ownS (by rw [h4]; exact hs.own) (by simp [h4]; omega) (by simp [h4, maxLen]; omega) fun o3 H3 hs3 => ?_
      simp (disch := first | omega | assumption) only [e3, steps, st2, pev, rev, oev, optr, ibin, sbin, ishf, bound, mmAll, mm2, mk, mkArgs, AV.cells, AV.boxable, AV.one, AV.strip1, fillA, fillS, Nat.reduceEqDiff, reduceCtorEq, ↓reduceIte, Nat.reduceAdd, Int.reduceNeg, Nat.reduceLeDiff, Int.reduceToNat, Int.reduceEq, Int.reduceLT, Int.reduceLE, Int.reduceAdd]
      have e2 : acc ++ putV (.mk k n s l m) = a ++ [125] := by rw [e, hn]; simp
      refine hQ _ _ H3 H3 [_] nofun rfl (Low.refl _) ?_
      rw [e2]
      exact ⟨o3, rfl, by rw [bytesOf_len]; exact hs.trans (by simpa [h4] using hs3)⟩
    · rintro done x rest ⟨o2, a⟩ H2 J hd hlt _ ⟨hn, hle, hs⟩ hJ
      have hg := cMs_get hd
      have hmem : x ∈ m := by rw [hd]; simp
      obtain ⟨t, v⟩ := x
      have hwv := wfMs_mem hwm t v hmem
      have hx := put_le v hwv
      have hqt := quote_len t
      have h4 := bytesOf_len a
      simp only [putMs, putM, bMs, bM] at hn hle
      simp (disch := first | omega | assumption) only [cV_len, cV_take, cV_splice, cM_len, cM_take, cM_splice, cM_mk, h2, hlt, hg, steps, st2, pev, rev, oev, optr, ibin, sbin, ishf, bound, mmAll, mm2, mk, mkArgs, AV.cells, AV.boxable, AV.one, AV.strip1, fillA, fillS, Nat.reduceEqDiff, reduceCtorEq, ↓reduceIte, Nat.reduceAdd, Int.reduceNeg, Nat.reduceLeDiff, Int.reduceToNat, Int.reduceEq, Int.reduceLT, Int.reduceLE, Int.reduceAdd]
      refine goA_intro fun b hb => ?_
      have fresh : ∀ (o3 : Own) (H3 : Heap) (n3 : Nat), OwnS (H2.upd b (.cells (cM (.mk t v)))) o2 H3 o3 n3 1 → H3 b = some (.cells (cM (.mk t v))) := fun o3 H3 n3 hs3 => hs3.kept b _ (upd_same ..) fun d e => by
        have := hs.own; subst e
        have hx : H2 b = _ := this
        rw [hb] at hx; cases hx
      cases done with
      | nil =>
        simp only [decide_true, if_true, List.nil_append] at hn
        simp (disch := first | omega | assumption) only [cV_len, cV_take, cV_splice, cM_len, cM_take, cM_splice, cM_mk, steps, st2, pev, rev, oev, optr, ibin, sbin, ishf, bound, mmAll, mm2, mk, mkArgs, AV.cells, AV.boxable, AV.one, AV.strip1, fillA, fillS, Nat.reduceEqDiff, reduceCtorEq, ↓reduceIte, Nat.reduceAdd, Int.reduceNeg, Nat.reduceLeDiff, Int.reduceToNat, Int.reduceEq, Int.reduceLT, Int.reduceLE, Int.reduceAdd]
        refine goK_gives (quoteC t a _ o2 (hs.own.upd hb) (by simp only [Lim]; omega)) fun o3 H3 hs3 => ?_
        rw [bytesOf_len] at hs3
        have f3 := fresh _ _ _ hs3
        have h5 := bytesOf_len (a ++ quoteM t)
        have ec : bytesOf (a ++ quoteM t) ++ [[AV.int .u8 58]] = bytesOf (a ++ quoteM t ++ [58]) := bytesOf_one _ 58
        simp (disch := first | omega | assumption) only [cV_len, cV_take, cV_splice, cM_len, cM_take, cM_splice, cM_mk, f3, cM_mk, steps, st2, pev, rev, oev, optr, ibin, sbin, ishf, bound, mmAll, mm2, mk, mkArgs, AV.cells, AV.boxable, AV.one, AV.strip1, fillA, fillS, Nat.reduceEqDiff, reduceCtorEq, ↓reduceIte, Nat.reduceAdd, Int.reduceNeg, Nat.reduceLeDiff, Int.reduceToNat, Int.reduceEq, Int.reduceLT, Int.reduceLE, Int.reduceAdd]
        refine goP_ownS (by rw [h5]; exact hs3.own) (by simp only [h5, List.length_append, List.length_cons, List.length_nil]; omega) (by simp only [h5, List.length_append, List.length_cons, List.length_nil, maxLen]; omega) fun o4 H4 hs4 => ?_
        have hs4' : OwnS (H2.upd b (.cells (cM (.mk t v)))) o2 H4 o4 (a ++ quoteM t ++ [58]).length 1 := hs3.trans (ownS_len hs4 (by rw [h5]; simp only [List.length_append, List.length_cons, List.length_nil]; try omega))
        have f4 := fresh _ _ _ hs4'
        simp (disch := first | omega | assumption) only [cV_len, cV_take, cV_splice, cM_len, cM_take, cM_splice, cM_mk, f4, ec, cM_mk, steps, st2, pev, rev, oev, optr, ibin, sbin, ishf, bound, mmAll, mm2, mk, mkArgs, AV.cells, AV.boxable, AV.one, AV.strip1, fillA, fillS, Nat.reduceEqDiff, reduceCtorEq, ↓reduceIte, Nat.reduceAdd, Int.reduceNeg, Nat.reduceLeDiff, Int.reduceToNat, Int.reduceEq, Int.reduceLT, Int.reduceLE, Int.reduceAdd]
        refine goK_gives (ihm t v hmem hwv (a ++ quoteM t ++ [58]) _ o4 (by simp only [Lim, List.length_append, List.length_cons, List.length_nil]; omega) hs4'.own) fun o5 H5 hs5 => ?_
        rw [bytesOf_len] at hs5
        simp (disch := first | omega | assumption) only [wrap64, steps, st2, pev, rev, oev, optr, ibin, sbin, ishf, bound, mmAll, mm2, mk, mkArgs, AV.cells, AV.boxable, AV.one, AV.strip1, fillA, fillS, Nat.reduceEqDiff, reduceCtorEq, ↓reduceIte, Nat.reduceAdd, Int.reduceNeg, Nat.reduceLeDiff, Int.reduceToNat, Int.reduceEq, Int.reduceLT, Int.reduceLE, Int.reduceAdd]
        exact goJ (hJ (o5, a ++ quoteM t ++ [58] ++ putV v) H5 ⟨by rw [← hn]; simp, by simp only [List.length_append, List.length_cons, List.length_nil]; omega, (hs.upd hb).trans (hs4'.trans hs5)⟩) (by simp (disch := first | omega | assumption) only [steps, st2, pev, rev, oev, optr, ibin, sbin, ishf, bound, mmAll, mm2, mk, mkArgs, AV.cells, AV.boxable, AV.one, AV.strip1, fillA, fillS, Nat.reduceEqDiff, reduceCtorEq, ↓reduceIte, Nat.reduceAdd, Int.reduceNeg, Nat.reduceLeDiff, Int.reduceToNat, Int.reduceEq, Int.reduceLT, Int.reduceLE, Int.reduceAdd])
      | cons y done =>
        have g0 : ((0 : Int) < ((done.length + 1 : Nat) : Int)) = True := eq_true (by omega)
        have hlt' := hlt
        simp only [List.length_cons] at hlt'
        have hw : IntKind.wrap .i64 (((done.length + 1 : Nat) : Int) + 1) = ((done.length + 1 : Nat) : Int) + 1 := wrap64 (by omega) (by omega)
        have ec0 : bytesOf a ++ [[AV.int .u8 44]] = bytesOf (a ++ [44]) := bytesOf_one a 44
        simp only [reduceCtorEq, decide_false, Bool.false_eq_true, if_false] at hn
        simp (disch := first | omega | assumption) only [cV_len, cV_take, cV_splice, cM_len, cM_take, cM_splice, cM_mk, g0, steps, st2, pev, rev, oev, optr, ibin, sbin, ishf, bound, mmAll, mm2, mk, mkArgs, AV.cells, AV.boxable, AV.one, AV.strip1, fillA, fillS, Nat.reduceEqDiff, reduceCtorEq, ↓reduceIte, Nat.reduceAdd, Int.reduceNeg, Nat.reduceLeDiff, Int.reduceToNat, Int.reduceEq, Int.reduceLT, Int.reduceLE, Int.reduceAdd]
        refine goP_ownS (by rw [h4]; exact hs.own.upd hb) (by simp [h4]; omega) (by simp [h4, maxLen]; omega) fun o3 H3 hs3 => ?_
        have hs3' : OwnS (H2.upd b (.cells (cM (.mk t v)))) o2 H3 o3 (a ++ [44]).length 1 := ownS_len hs3 (by simp [h4])
        have f3 := fresh _ _ _ hs3'
        simp (disch := first | omega | assumption) only [cV_len, cV_take, cV_splice, cM_len, cM_take, cM_splice, cM_mk, ec0, f3, cM_mk, steps, st2, pev, rev, oev, optr, ibin, sbin, ishf, bound, mmAll, mm2, mk, mkArgs, AV.cells, AV.boxable, AV.one, AV.strip1, fillA, fillS, Nat.reduceEqDiff, reduceCtorEq, ↓reduceIte, Nat.reduceAdd, Int.reduceNeg, Nat.reduceLeDiff, Int.reduceToNat, Int.reduceEq, Int.reduceLT, Int.reduceLE, Int.reduceAdd]
        refine goK_gives (quoteC t (a ++ [44]) _ o3 hs3'.own (by simp only [Lim, List.length_append, List.length_cons, List.length_nil]; omega)) fun o4 H4 hs4 => ?_
        rw [bytesOf_len] at hs4
        have hs4' := hs3'.trans hs4
        have f4 := fresh _ _ _ hs4'
        have h5 := bytesOf_len (a ++ [44] ++ quoteM t)
        have ec : bytesOf (a ++ [44] ++ quoteM t) ++ [[AV.int .u8 58]] = bytesOf (a ++ [44] ++ quoteM t ++ [58]) := bytesOf_one _ 58
        simp (disch := first | omega | assumption) only [cV_len, cV_take, cV_splice, cM_len, cM_take, cM_splice, cM_mk, f4, cM_mk, steps, st2, pev, rev, oev, optr, ibin, sbin, ishf, bound, mmAll, mm2, mk, mkArgs, AV.cells, AV.boxable, AV.one, AV.strip1, fillA, fillS, Nat.reduceEqDiff, reduceCtorEq, ↓reduceIte, Nat.reduceAdd, Int.reduceNeg, Nat.reduceLeDiff, Int.reduceToNat, Int.reduceEq, Int.reduceLT, Int.reduceLE, Int.reduceAdd]
        refine goP_ownS (by rw [h5]; exact hs4'.own) (by simp only [h5, List.length_append, List.length_cons, List.length_nil]; omega) (by simp only [h5, List.length_append, List.length_cons, List.length_nil, maxLen]; omega) fun o5 H5 hs5 => ?_
        have hs5' : OwnS (H2.upd b (.cells (cM (.mk t v)))) o2 H5 o5 (a ++ [44] ++ quoteM t ++ [58]).length 1 := hs4'.trans (ownS_len hs5 (by rw [h5]; simp only [List.length_append, List.length_cons, List.length_nil]; try omega))
        have f5 := fresh _ _ _ hs5'
        simp (disch := first | omega | assumption) only [cV_len, cV_take, cV_splice, cM_len, cM_take, cM_splice, cM_mk, f5, ec, cM_mk, steps, st2, pev, rev, oev, optr, ibin, sbin, ishf, bound, mmAll, mm2, mk, mkArgs, AV.cells, AV.boxable, AV.one, AV.strip1, fillA, fillS, Nat.reduceEqDiff, reduceCtorEq, ↓reduceIte, Nat.reduceAdd, Int.reduceNeg, Nat.reduceLeDiff, Int.reduceToNat, Int.reduceEq, Int.reduceLT, Int.reduceLE, Int.reduceAdd]
        refine goK_gives (ihm t v hmem hwv (a ++ [44] ++ quoteM t ++ [58]) _ o5 (by simp only [Lim, List.length_append, List.length_cons, List.length_nil]; omega) hs5'.own) fun o6 H6 hs6 => ?_
        rw [bytesOf_len] at hs6
        simp (disch := first | omega | assumption) only [hw, steps, st2, pev, rev, oev, optr, ibin, sbin, ishf, bound, mmAll, mm2, mk, mkArgs, AV.cells, AV.boxable, AV.one, AV.strip1, fillA, fillS, Nat.reduceEqDiff, reduceCtorEq, ↓reduceIte, Nat.reduceAdd, Int.reduceNeg, Nat.reduceLeDiff, Int.reduceToNat, Int.reduceEq, Int.reduceLT, Int.reduceLE, Int.reduceAdd]
        exact goJ (hJ (o6, a ++ [44] ++ quoteM t ++ [58] ++ putV v) H6 ⟨by rw [← hn]; simp, by simp only [List.length_append, List.length_cons, List.length_nil]; omega, (hs.upd hb).trans (hs5'.trans hs6)⟩) (by simp (disch := first | omega | assumption) only [steps, st2, pev, rev, oev, optr, ibin, sbin, ishf, bound, mmAll, mm2, mk, mkArgs, AV.cells, AV.boxable, AV.one, AV.strip1, fillA, fillS, Nat.reduceEqDiff, reduceCtorEq, ↓reduceIte, Nat.reduceAdd, Int.reduceNeg, Nat.reduceLeDiff, Int.reduceToNat, Int.reduceEq, Int.reduceLT, Int.reduceLE, Int.reduceAdd])
def nE (ns : List (List UInt8)) : List (AV × AV) := ns.map fun s => (.str s, .bool true)
theorem mget_n (s : List UInt8) : ∀ ns, (mget (nE ns) (.str s)).getD (.bool false) = .bool (ns.contains s)
  | [] => rfl
  | t :: ns => by
    have := mget_n s ns
    by_cases h : s = t
    · subst h; simp [nE, mget, AV.keq, AV.keq1]
    · simp only [nE, List.map_cons, mget, AV.keq, AV.keq1] at this ⊢
      simp [h]; simpa using this
theorem mset_n (s : List UInt8) : ∀ ns : List (List UInt8), ns.contains s = false → mset (nE ns) (.str s) (.bool true) = nE (ns ++ [s])
  | [], _ => rfl
  | t :: ns, h => by
    simp only [List.contains_cons, Bool.or_eq_false_iff] at h
    have := mset_n s ns h.2
    simp only [nE, List.map_cons, mset, AV.keq, AV.keq1, List.cons_append, h.1] at this ⊢
    simp [this]
theorem singC : ∀ v, bV v ≤ Lim → Pure Tryd.prog 79 [.agg (cV v)] (.bool (singV v)) := by
  refine Val.ind fun k n s l m ihl ihm hb => ?_
  have hb' : 1 + s.length + bVs l + bMs m ≤ Lim := hb
  have hll := bVs_len l
  have hml := bMs_len m
  have h1 := cVs_len l
  have h2 := cMs_len m
  simp only [Lim] at hb'
  refine Pure.go ir79 ck79 (Nat.le_refl _) fun KP Q hQ => ?_
  by_cases k5 : k = 5
  · subst k5
    simp (disch := first | omega | assumption) only [ir79, cV_mk, steps, st2, pev, rev, oev, optr, ibin, sbin, ishf, bound, mmAll, mm2, mk, mkArgs, AV.cells, AV.boxable, AV.one, AV.strip1, fillA, fillS, Nat.reduceEqDiff, reduceCtorEq, ↓reduceIte, Nat.reduceAdd, Int.reduceNeg, Nat.reduceLeDiff, Int.reduceToNat, Int.reduceEq, Int.reduceLT, Int.reduceLE, Int.reduceAdd]
    exact hQ _ _ _ _ nofun rfl (by simp [tupOf, envOf, AV.strip, AV.strip1, singV])
  by_cases k8 : k = 8
  · subst k8
    simp (disch := first | omega | assumption) only [ir79, cV_mk, steps, st2, pev, rev, oev, optr, ibin, sbin, ishf, bound, mmAll, mm2, mk, mkArgs, AV.cells, AV.boxable, AV.one, AV.strip1, fillA, fillS, Nat.reduceEqDiff, reduceCtorEq, ↓reduceIte, Nat.reduceAdd, Int.reduceNeg, Nat.reduceLeDiff, Int.reduceToNat, Int.reduceEq, Int.reduceLT, Int.reduceLE, Int.reduceAdd]
    exact hQ _ _ _ _ nofun rfl (by simp [tupOf, envOf, AV.strip, AV.strip1, singV])
  simp (disch := first | omega | assumption) only [ir79, cV_mk, k5, k8, h1, steps, st2, pev, rev, oev, optr, ibin, sbin, ishf, bound, mmAll, mm2, mk, mkArgs, AV.cells, AV.boxable, AV.one, AV.strip1, fillA, fillS, Nat.reduceEqDiff, reduceCtorEq, ↓reduceIte, Nat.reduceAdd, Int.reduceNeg, Nat.reduceLeDiff, Int.reduceToNat, Int.reduceEq, Int.reduceLT, Int.reduceLE, Int.reduceAdd]
  refine goL_range l 19 (fun _ : Unit => []) (fun done rest _ H => singVs rest = singVs l) () (by simp (disch := first | omega | assumption) only [steps, st2, pev, rev, oev, optr, ibin, sbin, ishf, bound, mmAll, mm2, mk, mkArgs, AV.cells, AV.boxable, AV.one, AV.strip1, fillA, fillS, Nat.reduceEqDiff, reduceCtorEq, ↓reduceIte, Nat.reduceAdd, Int.reduceNeg, Nat.reduceLeDiff, Int.reduceToNat, Int.reduceEq, Int.reduceLT, Int.reduceLE, Int.reduceAdd]) rfl ?_ ?_
  · rintro _ H J hn hlt
    simp only [singVs] at hn
    simp (disch := first | omega | assumption) only [h1, hlt, steps, st2, pev, rev, oev, optr, ibin, sbin, ishf, bound, mmAll, mm2, mk, mkArgs, AV.cells, AV.boxable, AV.one, AV.strip1, fillA, fillS, Nat.reduceEqDiff, reduceCtorEq, ↓reduceIte, Nat.reduceAdd, Int.reduceNeg, Nat.reduceLeDiff, Int.reduceToNat, Int.reduceEq, Int.reduceLT, Int.reduceLE, Int.reduceAdd]
    refine goA_intro fun bm hbm => ?_
    simp (disch := first | omega | assumption) only [h2, steps, st2, pev, rev, oev, optr, ibin, sbin, ishf, bound, mmAll, mm2, mk, mkArgs, AV.cells, AV.boxable, AV.one, AV.strip1, fillA, fillS, Nat.reduceEqDiff, reduceCtorEq, ↓reduceIte, Nat.reduceAdd, Int.reduceNeg, Nat.reduceLeDiff, Int.reduceToNat, Int.reduceEq, Int.reduceLT, Int.reduceLE, Int.reduceAdd]
    refine goL_range m 31 (fun _ : Unit => []) (fun done rest _ H' => singMs (done.map nmM) rest = singMs [] m ∧ H' bm = some (.map (.one .s) (nE (done.map nmM)))) () (by simp (disch := first | omega | assumption) only [steps, st2, pev, rev, oev, optr, ibin, sbin, ishf, bound, mmAll, mm2, mk, mkArgs, AV.cells, AV.boxable, AV.one, AV.strip1, fillA, fillS, Nat.reduceEqDiff, reduceCtorEq, ↓reduceIte, Nat.reduceAdd, Int.reduceNeg, Nat.reduceLeDiff, Int.reduceToNat, Int.reduceEq, Int.reduceLT, Int.reduceLE, Int.reduceAdd]) ⟨rfl, by simp [Heap.upd, nE]⟩ ?_ ?_
    · rintro _ H' J' ⟨hm, hH⟩ hlt2
      simp only [singMs] at hm
      simp (disch := first | omega | assumption) only [h2, hlt2, steps, st2, pev, rev, oev, optr, ibin, sbin, ishf, bound, mmAll, mm2, mk, mkArgs, AV.cells, AV.boxable, AV.one, AV.strip1, fillA, fillS, Nat.reduceEqDiff, reduceCtorEq, ↓reduceIte, Nat.reduceAdd, Int.reduceNeg, Nat.reduceLeDiff, Int.reduceToNat, Int.reduceEq, Int.reduceLT, Int.reduceLE, Int.reduceAdd]
      exact hQ _ _ _ _ nofun rfl (by simp [tupOf, envOf, AV.strip, AV.strip1, singV, k5, k8, ← hn, ← hm])
    · rintro done x rest _ H' J' hd hlt2 _ ⟨hm, hH⟩ hJ
      have hg := cMs_get hd
      have hmem : x ∈ m := by rw [hd]; simp
      obtain ⟨t, v⟩ := x
      have hbv : bV v ≤ Lim := by
        have := bMs_mid done (.mk t v) rest
        rw [← hd] at this
        simp only [bM] at this
        simp only [Lim]; omega
      have hfit : KT.fits (.one .s) (.str t) = true := rfl
      have hmg := mget_n t (done.map nmM)
      simp only [singMs, nmM, singM] at hm
      simp (disch := first | omega | assumption) only [cV_len, cV_take, cV_splice, cM_len, cM_take, cM_splice, cM_mk, h2, hlt2, hg, steps, st2, pev, rev, oev, optr, ibin, sbin, ishf, bound, mmAll, mm2, mk, mkArgs, AV.cells, AV.boxable, AV.one, AV.strip1, fillA, fillS, Nat.reduceEqDiff, reduceCtorEq, ↓reduceIte, Nat.reduceAdd, Int.reduceNeg, Nat.reduceLeDiff, Int.reduceToNat, Int.reduceEq, Int.reduceLT, Int.reduceLE, Int.reduceAdd]
      refine goA_intro fun b hb => ?_
      have hne : bm ≠ b := fun e => by subst e; rw [hb] at hH; cases hH
      cases hc : (done.map nmM).contains t
      · rw [hc] at hmg hm
        simp only [Bool.not_false, Bool.true_and] at hm
        simp (disch := first | omega | assumption) only [cV_len, cV_take, cV_splice, cM_len, cM_take, cM_splice, cM_mk, hH, hne, hfit, hmg, lkres, steps, st2, pev, rev, oev, optr, ibin, sbin, ishf, bound, mmAll, mm2, mk, mkArgs, AV.cells, AV.boxable, AV.one, AV.strip1, fillA, fillS, Nat.reduceEqDiff, reduceCtorEq, ↓reduceIte, Nat.reduceAdd, Int.reduceNeg, Nat.reduceLeDiff, Int.reduceToNat, Int.reduceEq, Int.reduceLT, Int.reduceLE, Int.reduceAdd]
        refine goK_pure (ihm t v hmem hbv) ?_
        cases hx : singV v
        · rw [hx] at hm
          simp (disch := first | omega | assumption) only [cV_len, cV_take, cV_splice, cM_len, cM_take, cM_splice, cM_mk, steps, st2, pev, rev, oev, optr, ibin, sbin, ishf, bound, mmAll, mm2, mk, mkArgs, AV.cells, AV.boxable, AV.one, AV.strip1, fillA, fillS, Nat.reduceEqDiff, reduceCtorEq, ↓reduceIte, Nat.reduceAdd, Int.reduceNeg, Nat.reduceLeDiff, Int.reduceToNat, Int.reduceEq, Int.reduceLT, Int.reduceLE, Int.reduceAdd]
          exact hQ _ _ _ _ nofun rfl (by simp [tupOf, envOf, AV.strip, AV.strip1, singV, k5, k8, ← hn, ← hm])
        · rw [hx, Bool.true_and] at hm
          simp (disch := first | omega | assumption) only [cV_len, cV_take, cV_splice, cM_len, cM_take, cM_splice, cM_mk, hH, hne, hfit, mset_n t _ hc, wrap64, steps, st2, pev, rev, oev, optr, ibin, sbin, ishf, bound, mmAll, mm2, mk, mkArgs, AV.cells, AV.boxable, AV.one, AV.strip1, fillA, fillS, Nat.reduceEqDiff, reduceCtorEq, ↓reduceIte, Nat.reduceAdd, Int.reduceNeg, Nat.reduceLeDiff, Int.reduceToNat, Int.reduceEq, Int.reduceLT, Int.reduceLE, Int.reduceAdd]
          exact goJ (hJ () _ ⟨by simpa [nmM] using hm, by simp [nmM, Heap.upd]⟩) (by simp (disch := first | omega | assumption) only [steps, st2, pev, rev, oev, optr, ibin, sbin, ishf, bound, mmAll, mm2, mk, mkArgs, AV.cells, AV.boxable, AV.one, AV.strip1, fillA, fillS, Nat.reduceEqDiff, reduceCtorEq, ↓reduceIte, Nat.reduceAdd, Int.reduceNeg, Nat.reduceLeDiff, Int.reduceToNat, Int.reduceEq, Int.reduceLT, Int.reduceLE, Int.reduceAdd])
      · rw [hc] at hmg hm
        simp (disch := first | omega | assumption) only [cV_len, cV_take, cV_splice, cM_len, cM_take, cM_splice, cM_mk, hH, hne, hfit, hmg, lkres, steps, st2, pev, rev, oev, optr, ibin, sbin, ishf, bound, mmAll, mm2, mk, mkArgs, AV.cells, AV.boxable, AV.one, AV.strip1, fillA, fillS, Nat.reduceEqDiff, reduceCtorEq, ↓reduceIte, Nat.reduceAdd, Int.reduceNeg, Nat.reduceLeDiff, Int.reduceToNat, Int.reduceEq, Int.reduceLT, Int.reduceLE, Int.reduceAdd]
        exact hQ _ _ _ _ nofun rfl (by simp [tupOf, envOf, AV.strip, AV.strip1, singV, k5, k8, ← hn, ← hm])
  · rintro done x rest _ H' J hd hlt _ hn hJ
    have hg := cVs_get hd
    have hmem : x ∈ l := by rw [hd]; simp
    have hbv : bV x ≤ Lim := by
      have := bVs_mid done x rest
      rw [← hd] at this
      simp only [Lim]; omega
    simp only [singVs] at hn
    simp (disch := first | omega | assumption) only [cV_len, cV_take, cV_splice, cM_len, cM_take, cM_splice, cM_mk, h1, hlt, hg, steps, st2, pev, rev, oev, optr, ibin, sbin, ishf, bound, mmAll, mm2, mk, mkArgs, AV.cells, AV.boxable, AV.one, AV.strip1, fillA, fillS, Nat.reduceEqDiff, reduceCtorEq, ↓reduceIte, Nat.reduceAdd, Int.reduceNeg, Nat.reduceLeDiff, Int.reduceToNat, Int.reduceEq, Int.reduceLT, Int.reduceLE, Int.reduceAdd]
    refine goA_intro fun b hb => ?_
    simp (disch := first | omega | assumption) only [cV_len, cV_take, cV_splice, cM_len, cM_take, cM_splice, cM_mk, steps, st2, pev, rev, oev, optr, ibin, sbin, ishf, bound, mmAll, mm2, mk, mkArgs, AV.cells, AV.boxable, AV.one, AV.strip1, fillA, fillS, Nat.reduceEqDiff, reduceCtorEq, ↓reduceIte, Nat.reduceAdd, Int.reduceNeg, Nat.reduceLeDiff, Int.reduceToNat, Int.reduceEq, Int.reduceLT, Int.reduceLE, Int.reduceAdd]
    refine goK_pure (ihl x hmem hbv) ?_
    cases hx : singV x
    · rw [hx] at hn
      simp (disch := first | omega | assumption) only [cV_len, cV_take, cV_splice, cM_len, cM_take, cM_splice, cM_mk, steps, st2, pev, rev, oev, optr, ibin, sbin, ishf, bound, mmAll, mm2, mk, mkArgs, AV.cells, AV.boxable, AV.one, AV.strip1, fillA, fillS, Nat.reduceEqDiff, reduceCtorEq, ↓reduceIte, Nat.reduceAdd, Int.reduceNeg, Nat.reduceLeDiff, Int.reduceToNat, Int.reduceEq, Int.reduceLT, Int.reduceLE, Int.reduceAdd]
      exact hQ _ _ _ _ nofun rfl (by simp [tupOf, envOf, AV.strip, AV.strip1, singV, k5, k8, ← hn])
    · rw [hx, Bool.true_and] at hn
      simp (disch := first | omega | assumption) only [cV_len, cV_take, cV_splice, cM_len, cM_take, cM_splice, cM_mk, wrap64, steps, st2, pev, rev, oev, optr, ibin, sbin, ishf, bound, mmAll, mm2, mk, mkArgs, AV.cells, AV.boxable, AV.one, AV.strip1, fillA, fillS, Nat.reduceEqDiff, reduceCtorEq, ↓reduceIte, Nat.reduceAdd, Int.reduceNeg, Nat.reduceLeDiff, Int.reduceToNat, Int.reduceEq, Int.reduceLT, Int.reduceLE, Int.reduceAdd]
      exact goJ (hJ () _ hn) (by simp (disch := first | omega | assumption) only [steps, st2, pev, rev, oev, optr, ibin, sbin, ishf, bound, mmAll, mm2, mk, mkArgs, AV.cells, AV.boxable, AV.one, AV.strip1, fillA, fillS, Nat.reduceEqDiff, reduceCtorEq, ↓reduceIte, Nat.reduceAdd, Int.reduceNeg, Nat.reduceLeDiff, Int.reduceToNat, Int.reduceEq, Int.reduceLT, Int.reduceLE, Int.reduceAdd])
theorem RightC (v : Val) (hb : bV v ≤ Lim) : Pure Tryd.prog 49 [.agg (cV v)] (.bool (rightV v)) := by
  refine Pure.go ir49 ck49 (Nat.le_refl _) fun KP Q hQ => ?_
  simp (disch := first | omega | assumption) only [cV_len, cV_take, cV_splice, cM_len, cM_take, cM_splice, cM_mk, ir49, steps, st2, pev, rev, oev, optr, ibin, sbin, ishf, bound, mmAll, mm2, mk, mkArgs, AV.cells, AV.boxable, AV.one, AV.strip1, fillA, fillS, Nat.reduceEqDiff, reduceCtorEq, ↓reduceIte, Nat.reduceAdd, Int.reduceNeg, Nat.reduceLeDiff, Int.reduceToNat, Int.reduceEq, Int.reduceLT, Int.reduceLE, Int.reduceAdd]
  refine goK_pure (goodVC v hb) ?_
  cases h : goodV v
  · simp (disch := first | omega | assumption) only [cV_len, cV_take, cV_splice, cM_len, cM_take, cM_splice, cM_mk, steps, st2, pev, rev, oev, optr, ibin, sbin, ishf, bound, mmAll, mm2, mk, mkArgs, AV.cells, AV.boxable, AV.one, AV.strip1, fillA, fillS, Nat.reduceEqDiff, reduceCtorEq, ↓reduceIte, Nat.reduceAdd, Int.reduceNeg, Nat.reduceLeDiff, Int.reduceToNat, Int.reduceEq, Int.reduceLT, Int.reduceLE, Int.reduceAdd]
    exact hQ _ _ _ _ nofun rfl (by simp [tupOf, envOf, AV.strip, AV.strip1, rightV, h])
  · simp (disch := first | omega | assumption) only [cV_len, cV_take, cV_splice, cM_len, cM_take, cM_splice, cM_mk, steps, st2, pev, rev, oev, optr, ibin, sbin, ishf, bound, mmAll, mm2, mk, mkArgs, AV.cells, AV.boxable, AV.one, AV.strip1, fillA, fillS, Nat.reduceEqDiff, reduceCtorEq, ↓reduceIte, Nat.reduceAdd, Int.reduceNeg, Nat.reduceLeDiff, Int.reduceToNat, Int.reduceEq, Int.reduceLT, Int.reduceLE, Int.reduceAdd]
    refine goK_pure (singC v hb) ?_
    simp (disch := first | omega | assumption) only [steps, st2, pev, rev, oev, optr, ibin, sbin, ishf, bound, mmAll, mm2, mk, mkArgs, AV.cells, AV.boxable, AV.one, AV.strip1, fillA, fillS, Nat.reduceEqDiff, reduceCtorEq, ↓reduceIte, Nat.reduceAdd, Int.reduceNeg, Nat.reduceLeDiff, Int.reduceToNat, Int.reduceEq, Int.reduceLT, Int.reduceLE, Int.reduceAdd]
    exact hQ _ _ _ _ nofun rfl (by simp [tupOf, envOf, AV.strip, AV.strip1, rightV, h])
theorem PrintC (v : Val) (hw : wfV v) (hb : 25 * bV v ≤ Lim) : Pure Tryd.prog 47 [.agg (cV v)] (.tup [.str (printM v).1, .bool (printM v).2]) := by
  have hb' : bV v ≤ Lim := by omega
  refine Pure.go ir47 ck47 (Nat.le_refl _) fun KP Q hQ => ?_
  simp (disch := first | omega | assumption) only [cV_len, cV_take, cV_splice, cM_len, cM_take, cM_splice, cM_mk, ir47, steps, st2, pev, rev, oev, optr, ibin, sbin, ishf, bound, mmAll, mm2, mk, mkArgs, AV.cells, AV.boxable, AV.one, AV.strip1, fillA, fillS, Nat.reduceEqDiff, reduceCtorEq, ↓reduceIte, Nat.reduceAdd, Int.reduceNeg, Nat.reduceLeDiff, Int.reduceToNat, Int.reduceEq, Int.reduceLT, Int.reduceLE, Int.reduceAdd]
  refine goK_pure (RightC v hb') ?_
  cases h : rightV v
  · simp (disch := first | omega | assumption) only [cV_len, cV_take, cV_splice, cM_len, cM_take, cM_splice, cM_mk, steps, st2, pev, rev, oev, optr, ibin, sbin, ishf, bound, mmAll, mm2, mk, mkArgs, AV.cells, AV.boxable, AV.one, AV.strip1, fillA, fillS, Nat.reduceEqDiff, reduceCtorEq, ↓reduceIte, Nat.reduceAdd, Int.reduceNeg, Nat.reduceLeDiff, Int.reduceToNat, Int.reduceEq, Int.reduceLT, Int.reduceLE, Int.reduceAdd]
    exact hQ _ _ _ _ nofun rfl (by simp [tupOf, envOf, AV.strip, AV.strip1, printM, h])
  · simp (disch := first | omega | assumption) only [cV_len, cV_take, cV_splice, cM_len, cM_take, cM_splice, cM_mk, steps, st2, pev, rev, oev, optr, ibin, sbin, ishf, bound, mmAll, mm2, mk, mkArgs, AV.cells, AV.boxable, AV.one, AV.strip1, fillA, fillS, Nat.reduceEqDiff, reduceCtorEq, ↓reduceIte, Nat.reduceAdd, Int.reduceNeg, Nat.reduceLeDiff, Int.reduceToNat, Int.reduceEq, Int.reduceLT, Int.reduceLE, Int.reduceAdd]
    refine goK_gives (putC v hw [] _ .nil (by simpa using hb) rfl) fun o' H' hs => ?_
    simp (disch := first | omega | assumption) only [byts_of, steps, st2, pev, rev, oev, optr, ibin, sbin, ishf, bound, mmAll, mm2, mk, mkArgs, AV.cells, AV.boxable, AV.one, AV.strip1, fillA, fillS, Nat.reduceEqDiff, reduceCtorEq, ↓reduceIte, Nat.reduceAdd, Int.reduceNeg, Nat.reduceLeDiff, Int.reduceToNat, Int.reduceEq, Int.reduceLT, Int.reduceLE, Int.reduceAdd]
    exact hQ _ _ _ _ nofun rfl (by simp [tupOf, envOf, AV.strip, AV.strip1, printM, h])
end Go.Proofs.YtpjafglhdlfnbaaDoor
namespace Go.Proofs.YtpjafglhdlfnbaaDoor
open Go.Ab Go.Lib
structure SInv' (q : Sd) (t : List UInt8) : Prop where
  none : q.u = [] → validD (q.b ++ t) = true
  some : q.u ≠ [] → validD q.b = true ∧ validD t = true
theorem flush_b {q : Sd} (h : validD q.b = true) : validD (flushM q).b = true := by
  unfold flushM
  cases hj : joinM q.u with
  | none => simpa using h
  | some s => exact validA2 h (join_valid _ _ hj)
theorem flush_nil {q : Sd} (h : q.u = []) : (flushM q).b = q.b := by unfold flushM; rw [h]; simp [joinM]
theorem SInv'.low {q : Sd} {c : UInt8} {t : List UInt8} (h : SInv' q (c :: t)) (hc : c.toNat < 128) : validD q.b = true ∧ validD t = true := by
  by_cases hu : q.u = []
  · exact validS hc (h.none hu)
  · obtain ⟨h1, h2⟩ := h.some hu
    rw [validD_cons c t hc] at h2
    exact ⟨h1, h2⟩
theorem SInv'.put {q : Sd} {c : UInt8} {t : List UInt8} (h : SInv' q (c :: t)) : SInv' (q.put c) t := by
  refine ⟨fun _ => ?_, fun e => absurd rfl e⟩
  show validD (((flushM q).b ++ [c]) ++ t) = true
  rw [List.append_assoc]
  by_cases hu : q.u = []
  · rw [flush_nil hu]; exact h.none hu
  · obtain ⟨h1, h2⟩ := h.some hu
    exact validA2 (flush_b h1) h2
def LR (n : Int) (l : List Val) : Prop := ∀ v ∈ l, rightV v = true ∧ depthV v ≤ n
theorem LR.all {n : Int} : ∀ {l : List Val}, LR n l → allVs validD l = true ∧ singVs l = true
  | [], _ => ⟨rfl, rfl⟩
  | v :: l, h => by
    have h1 := LR.all (l := l) fun x hx => h x (.tail _ hx)
    have h2 := (h v (.head _)).1
    simp only [rightV, goodV, Bool.and_eq_true] at h2
    simp [allVs, singVs, h1.1, h1.2, h2.1, h2.2]
end Go.Proofs.YtpjafglhdlfnbaaDoor
namespace Go.Proofs.YtpjafglhdlfnbaaDoor
open Go.Ab Go.Lib
theorem readC (s : List UInt8) (hl : s.length ≤ LimS) : Pure Tryd.prog 48 [.str s] (.tup [.agg (cV (readM s).1), .int .i64 (readM s).2]) := by
  refine ACalls.strip ((readS s hl).mono fun e H' hq => ?_)
  cases e with
  | ret v => exact ⟨by rw [hq.1]; rfl, hq.2⟩
  | pan v => exact hq.elim
theorem readM_size (s : List UInt8) : bV (readM s).1 ≤ 2 * s.length + 1 := by
  unfold readM
  split
  · simp [nullV, bV, bVs, bMs]
  split
  · simp [nullV, bV, bVs, bMs]
  split
  · simp [nullV, bV, bVs, bMs]
  · rename_i v t ht
    split
    · have := (valM_fit 16 s v t ht).1.sz
      simp only; omega
    · simp [nullV, bV, bVs, bMs]
end Go.Proofs.YtpjafglhdlfnbaaDoor
namespace Go.Proofs.YtpjafglhdlfnbaaDoor
open Go.Ab Go.Lib
open Go.ChangeShapes Go.WideShapes Go.ChangeAt Go.RowKit Go.WideElems
mutual
theorem bulk_eq {H : Type} : ∀ d : DataW H, Rows.uptoBulk d = blk d
  | .lit (.string _) => rfl
  | .lit (.bool _) => rfl
  | .lit (.int _ _) => rfl
  | .lit (.float _ _) => rfl
  | .lit .nil => rfl
  | .nil => rfl
  | .ptr d => by simp only [Rows.uptoBulk, blk, bulk_eq d]
  | .slice e s => by simp only [Rows.uptoBulk, blk, bulkAll_eq e, bulkAll_eq s]
  | .agg e => by simp only [Rows.uptoBulk, blk, bulkAll_eq e]
  | .iface _ d => by simp only [Rows.uptoBulk, blk, bulk_eq d]
  | .map e => by simp only [Rows.uptoBulk, blk, bulkEs_eq e]
  | .held _ => rfl
theorem bulkAll_eq {H : Type} : ∀ d : List (DataW H), Rows.uptoBulkAll d = blkAll d
  | [] => rfl
  | d :: r => by simp only [Rows.uptoBulkAll, blkAll, bulk_eq d, bulkAll_eq r]
theorem bulkEs_eq {H : Type} : ∀ d : List (Lit × DataW H), Rows.uptoBulkEntries d = blkEs d
  | [] => rfl
  | x :: r => by simp only [Rows.uptoBulkEntries, blkEs, bulkE_eq x, bulkEs_eq r]
theorem bulkE_eq {H : Type} : ∀ d : Lit × DataW H, Rows.uptoBulkEntry d = blkE d
  | (.string _, d) => by simp only [Rows.uptoBulkEntry, blkE, bulk_eq d]
  | (.bool _, d) => by simp only [Rows.uptoBulkEntry, blkE, bulk_eq d]
  | (.int _ _, d) => by simp only [Rows.uptoBulkEntry, blkE, bulk_eq d]
  | (.float _ _, d) => by simp only [Rows.uptoBulkEntry, blkE, bulk_eq d]
  | (.nil, d) => by simp only [Rows.uptoBulkEntry, blkE, bulk_eq d]
end
def EntryOk (W : World) (g : Nat) (ps : List (Value → Prop)) : Prop :=
  (∃ (arr : Array Value) (E : TypeId) (fr : Nat × Nat), W.heap[g]? = some (.cells arr E fr) ∧ arr.size = ps.length) ∧ ∀ (j : Nat) (p : Value → Prop), ps[j]? = some p → ∃ v, CellIs immG W g j v ∧ p v
theorem entry_of_var {W : World} {n : String} {g : Nat} {cs : Array Value} {ps : List (Value → Prop)} (hg : Tryd.prog.globalNamed n = some g) (hv : W.var? Tryd.prog n = some cs) (hl : cs.size = ps.length)
    (h : ∀ (j : Nat) (p : Value → Prop) v, ps[j]? = some p → cs[j]? = some v → v.oneCell' = true ∧ p v) : EntryOk W g ps := by
  refine ⟨?_, fun j p hp => ?_⟩
  · have h1 := hv
    simp only [World.var?, hg, Option.bind_some] at h1
    split at h1
    · rename_i c t fr he
      cases h1
      exact ⟨_, _, _, he, hl⟩
    · cases h1
  · have hj : j < cs.size := by
      have := (List.getElem?_eq_some_iff.1 hp).1
      omega
    have h1 := h j p cs[j] hp (Array.getElem?_eq_getElem hj)
    refine ⟨cs[j], ⟨?_, trivial, h1.1⟩, h1.2⟩
    rw [World.var?_cell hg hv j, Array.getElem?_eq_getElem hj]
theorem entry_ints {W : World} {n : String} {g cnt : Nat} {t e : TypeId} {k : IntKind} {zs : List Nat} (hg : Tryd.prog.globalNamed n = some g) (hty : (Tryd.prog.globals[g]?).map (·.type) = some t) (ht : Tryd.prog.underlying t = some (.array cnt e)) (he : Tryd.prog.underlying e = some (.int k)) (hce : Tryd.prog.cellsOf e = 1) (hct : Tryd.prog.cellsOf t = cnt)
    (h : VarReads Tryd.prog W n (tabData k (zs.map fun (z : Nat) => (z : Int)))) : EntryOk W g (zs.map fun (z : Nat) (v : Value) => v = .int k z) := by
  obtain ⟨g', t', cs, fuel, p, hg', ht', hvar, hd⟩ := h
  obtain rfl := Option.some.inj (hg.symm.trans hg')
  obtain rfl := Option.some.inj (hty.symm.trans ht')
  have hcs := cells_of_tab ht he hce hct hd
  refine entry_of_var hg hvar (by rw [← Array.length_toList, hcs]; simp) fun j p v hp hj => ?_
  rw [← Array.getElem?_toList, hcs] at hj
  simp only [List.getElem?_map, Option.map_eq_some_iff] at hp hj
  obtain ⟨z, hz, rfl⟩ := hp
  obtain ⟨y, ⟨z', hz', rfl⟩, rfl⟩ := hj
  rw [hz] at hz'
  cases hz'
  exact ⟨rfl, rfl⟩
theorem u8x : U8Extra Tryd.prog Tryd.lays196_ren := ⟨by kernel_rfl, by kernel_rfl, by kernel_rfl, by kernel_rfl, by kernel_rfl, by kernel_rfl, by kernel_rfl⟩
theorem acc_at2 : ∀ c : Fin 32, accZ[c.val]? = some (if c.val % 2 = 0 then Lib.accLo (c.val / 2) else Lib.accHi (c.val / 2)) := by decide +kernel
theorem entry_accept {W : World} (h1 : VarReads Tryd.prog W "unicode/utf8.first" firstData) (h2 : VarReads Tryd.prog W "unicode/utf8.acceptRanges" acceptData) : EntryOk W 1 (accZ.map fun (n : Nat) (v : Value) => v = .int .u8 n) := by
  have ht := utf8Tabs_of_readsT (U8Types.of196 Tryd.lays196) u8x h1 h2
  obtain ⟨g', t', cs, fuel, p, hg', ht', hvar, hd⟩ := h2
  obtain rfl := Option.some.inj ((show Tryd.prog.globalNamed "unicode/utf8.acceptRanges" = some 1 by kernel_rfl).symm.trans hg')
  obtain rfl := Option.some.inj (u8x.y4.symm.trans ht')
  have hcs : cs.size = 32 := by
    have h3 : fuel ≠ 0 := fun e => by subst e; simp [DataW.trod] at hd
    obtain ⟨fuel, rfl⟩ := Nat.exists_eq_succ_of_ne_zero h3
    have h4 : cs.toList.length = Tryd.prog.cellsOf (Tryd.lays196_ren.t 139) := by
      have hu := (U8Types.of196 Tryd.lays196).t139
      simp only [DataW.trod, hu, u8x.c138] at hd
      split at hd
      · rename_i hl; simpa using hl
      · cases hd
    rw [← Array.length_toList, h4]; exact (show Tryd.prog.cellsOf (Tryd.lays196_ren.t 139) = 32 by kernel_rfl)
  refine entry_of_var hg' hvar (by rw [hcs]; rfl) fun j p v hp hj => ?_
  have hj32 : j < 32 := by rw [← hcs]; exact (Array.getElem?_eq_some_iff.1 hj).1
  simp only [List.getElem?_map, Option.map_eq_some_iff] at hp
  obtain ⟨z, hz, rfl⟩ := hp
  rw [acc_at2 ⟨j, hj32⟩] at hz
  cases hz
  have ⟨a1, a2⟩ := ht.2 (j / 2) (by omega)
  rcases Nat.mod_two_eq_zero_or_one j with e | e
  · have e2 : 2 * (j / 2) = j := by omega
    rw [e2] at a1
    have h5 := (World.var?_cell hg' hvar j).symm.trans a1
    rw [hj] at h5
    cases h5
    simp [e, Value.oneCell']
  · have e2 : 2 * (j / 2) + 1 = j := by omega
    rw [e2] at a2
    have h5 := (World.var?_cell hg' hvar j).symm.trans a2
    rw [hj] at h5
    cases h5
    simp [e, Value.oneCell']
theorem entry_err {W : World} {n : String} {g : Nat} {t : TypeId} {s : String} {d : DataW Unit} (hg : Tryd.prog.globalNamed n = some g) (hty : (Tryd.prog.globals[g]?).map (·.type) = some t) {ms : Array (String × TypeId)} (hu : Tryd.prog.underlying t = some (.interface ms)) (h : VarReads Tryd.prog W n (.iface s d)) : EntryOk W g [fun v => ∃ te pe, v = .iface te pe] := by
  obtain ⟨g', t', cs, fuel, p, hg', ht', hvar, hd⟩ := h
  obtain rfl := Option.some.inj (hg.symm.trans hg')
  obtain rfl := Option.some.inj (hty.symm.trans ht')
  have h1 : ∃ te pe, cs.toList = [.iface te pe] := by
    cases fuel with
    | zero => simp [DataW.trod] at hd
    | succ fuel =>
      simp only [DataW.trod, hu] at hd
      split at hd
      all_goals first
        | (cases hd; done)
        | skip
      all_goals simp_all
      done
  obtain ⟨te, pe, he⟩ := h1
  refine entry_of_var hg hvar (by rw [← Array.length_toList, he]; rfl) fun j p v hp hj => ?_
  rw [← Array.getElem?_toList, he] at hj
  match j, hp, hj with
  | 0, hp, hj => cases hp; cases hj; exact ⟨rfl, _, _, rfl⟩
  | j + 1, hp, hj => simp at hp
theorem entry_int {W : World} (hS : W.ShapedOpen Tryd.prog) {g : Nat} {z : Array Value} {t : TypeId} {k : IntKind} (hg : g < Tryd.prog.globals.size) (h0 : (((begin Tryd.prog (fun _ _ => 0) default).world.heap[g]?).bind Obj.row?) = some (z, t)) (hz : z.size = 1) (hb : Tryd.prog.buildable t = true)
    (hts : Tryd.prog.cellTypes Tryd.prog.depth t = some [t]) (ht : Tryd.prog.underlying t = some (.int k)) : EntryOk W g [fun v => ∃ m, v = .int k m] := by
  obtain ⟨cs, h1, h2, h3⟩ := hS.1 g z t hg h0
  have hsz : cs.size = 1 := by rw [h2, hz]
  obtain ⟨ts, hts', _, hall⟩ := h3 hb
  rw [hts] at hts'
  cases hts'
  have h4 : cs[0]? = some cs[0] := Array.getElem?_eq_getElem (by omega)
  obtain ⟨u, hu, hc⟩ := hall 0 cs[0] h4
  cases hu
  have h5 : ∃ m, cs[0] = .int k m := by
    unfold Cell.ok at hc
    rw [ht] at hc
    generalize cs[0] = v at hc
    cases v <;> first | exact hc.elim | (obtain ⟨rfl, _⟩ := hc; exact ⟨_, rfl⟩)
  obtain ⟨m, hm⟩ := h5
  refine ⟨⟨cs, t, _, h1, hsz⟩, fun j p hp => ?_⟩
  match j, hp with
  | 0, hp =>
    cases hp
    refine ⟨.int k m, ⟨?_, trivial, rfl⟩, m, rfl⟩
    unfold World.cell?
    simp only [h1, h4, hm]
    simp
  | j + 1, hp => simp at hp
abbrev T64 : List Nat := [1, 10, 100, 1000, 10000, 100000, 1000000, 10000000, 100000000, 1000000000, 10000000000, 100000000000, 1000000000000, 10000000000000, 100000000000000, 1000000000000000, 10000000000000000, 100000000000000000, 1000000000000000000, 10000000000000000000]
abbrev B32 : List Nat := [0, 1, 28, 2, 29, 14, 24, 3, 30, 22, 20, 15, 25, 17, 4, 8, 31, 27, 13, 23, 21, 19, 16, 7, 26, 12, 18, 6, 11, 5, 10, 9]
abbrev B64 : List Nat := [0, 1, 56, 2, 57, 49, 28, 3, 61, 58, 42, 50, 38, 29, 17, 4, 62, 47, 59, 36, 45, 43, 51, 22, 53, 39, 33, 30, 24, 18, 12, 5, 63, 55, 48, 27, 60, 41, 37, 16, 46, 35, 44, 21, 52, 32, 23, 11, 54, 26, 40, 15, 34, 20, 31, 10, 25, 14, 19, 9, 13, 8, 7, 6]
abbrev laidL : List (String × DataW Unit) := [("math/bits.deBruijn32tab", Rows.laid_math_bits_deBruijn32tab), ("math/bits.deBruijn64tab", Rows.laid_math_bits_deBruijn64tab), ("internal/strconv.uint64pow10", Rows.laid_internal_strconv_uint64pow10), ("unicode/utf8.acceptRanges", Rows.laid_unicode_utf8_acceptRanges), ("strconv.ErrRange", Rows.laid_strconv_ErrRange), ("strconv.ErrSyntax", Rows.laid_strconv_ErrSyntax), ("unicode/utf8.first", Rows.laid_unicode_utf8_first)]
theorem tabs_ok {W : World} (hL : laidMetH Tryd.prog laidL W) (hS : W.ShapedOpen Tryd.prog) : TabOk immG W := by
  have hL' : laidMet Tryd.prog laidL W := hL
  have m1 : VarReads Tryd.prog W "unicode/utf8.first" (tabData .u8 (Go.Pinned.utf8FirstZ.map fun (z : Nat) => (z : Int))) := laidMet.reads hL' (d := Rows.laid_unicode_utf8_first) (.tail _ (.tail _ (.tail _ (.tail _ (.tail _ (.tail _ (.head _)))))))
  have m2 : VarReads Tryd.prog W "unicode/utf8.acceptRanges" acceptData := laidMet.reads hL' (d := Rows.laid_unicode_utf8_acceptRanges) (.tail _ (.tail _ (.tail _ (.head _))))
  have m3 : VarReads Tryd.prog W "internal/strconv.uint64pow10" (tabData .u64 (T64.map fun (z : Nat) => (z : Int))) := laidMet.reads hL' (d := Rows.laid_internal_strconv_uint64pow10) (.tail _ (.tail _ (.head _)))
  have m4 : VarReads Tryd.prog W "math/bits.deBruijn32tab" (tabData .u8 (B32.map fun (z : Nat) => (z : Int))) := laidMet.reads hL' (d := Rows.laid_math_bits_deBruijn32tab) (.head _)
  have m5 : VarReads Tryd.prog W "math/bits.deBruijn64tab" (tabData .u8 (B64.map fun (z : Nat) => (z : Int))) := laidMet.reads hL' (d := Rows.laid_math_bits_deBruijn64tab) (.tail _ (.head _))
  have m6 : VarReads Tryd.prog W "strconv.ErrSyntax" Rows.laid_strconv_ErrSyntax := laidMet.reads hL' (.tail _ (.tail _ (.tail _ (.tail _ (.tail _ (.head _))))))
  have m7 : VarReads Tryd.prog W "strconv.ErrRange" Rows.laid_strconv_ErrRange := laidMet.reads hL' (.tail _ (.tail _ (.tail _ (.tail _ (.head _)))))
  have m8 : firstData = tabData .u8 (Go.Pinned.utf8FirstZ.map fun (z : Nat) => (z : Int)) := by kernel_rfl
  have e1 : EntryOk W 0 (Go.Pinned.utf8FirstZ.map fun (n : Nat) (v : Value) => v = .int .u8 n) :=
    entry_ints (t := Tryd.lays196_ren.t 119) u8x.n3 u8x.y3 (U8Types.of196 Tryd.lays196).t119 (U8Types.of196 Tryd.lays196).t5 u8x.c5 u8x.c119 m1
  have e2 : EntryOk W 1 (accZ.map fun (n : Nat) (v : Value) => v = .int .u8 n) := entry_accept (m8 ▸ m1) m2
  have e3 : EntryOk W 2 (T64.map fun (n : Nat) (v : Value) => v = .int .u64 n) :=
    entry_ints (t := 166) (e := 146) (cnt := 20) (by kernel_rfl) (by kernel_rfl) (by kernel_rfl) (by kernel_rfl) (by kernel_rfl) (by kernel_rfl) m3
  have e4 : EntryOk W 4 (B32.map fun (n : Nat) (v : Value) => v = .int .u8 n) :=
    entry_ints (t := 185) (e := 5) (cnt := 32) (by kernel_rfl) (by kernel_rfl) (by kernel_rfl) (by kernel_rfl) (by kernel_rfl) (by kernel_rfl) m4
  have e5 : EntryOk W 5 (B64.map fun (n : Nat) (v : Value) => v = .int .u8 n) :=
    entry_ints (t := 186) (e := 5) (cnt := 64) (by kernel_rfl) (by kernel_rfl) (by kernel_rfl) (by kernel_rfl) (by kernel_rfl) (by kernel_rfl) m5
  have e6 : EntryOk W 6 [fun v => ∃ te pe, v = .iface te pe] := entry_err (t := 161) (by kernel_rfl) (by kernel_rfl) Tryd.underlying161 m6
  have e7 : EntryOk W 7 [fun v => ∃ te pe, v = .iface te pe] := entry_err (t := 161) (by kernel_rfl) (by kernel_rfl) Tryd.underlying161 m7
  have e8 : EntryOk W 3 [fun v => ∃ m, v = .int .i64 m] := entry_int hS (z := #[.int .i64 0]) (t := 3) (of_decide_eq_true (by kernel_rfl)) (by kernel_rfl) rfl (by kernel_rfl) (by kernel_rfl) (by kernel_rfl)
  intro x hx
  unfold tabL at hx
  simp only [List.mem_cons, List.not_mem_nil, or_false] at hx
  rcases hx with rfl | rfl | rfl | rfl | rfl | rfl | rfl | rfl <;> first | exact e1 | exact e2 | exact e3 | exact e4 | exact e5 | exact e6 | exact e7 | exact e8
noncomputable abbrev N0 : Nat := (World.settled Tryd.prog default).heap.size
noncomputable def laidWorld (os : Os) : World :=
  let w0 := World.holding Tryd.prog os ⟨#[.cells #[.string ⟨#[105, 110, 118, 97, 108, 105, 100, 32, 115, 121, 110, 116, 97, 120]⟩] 195, .cells #[.string ⟨#[118, 97, 108, 117, 101, 32, 111, 117, 116, 32, 111, 102, 32, 114, 97, 110, 103, 101]⟩] 195], #[], []⟩
  let put (h : Array Obj) (g : Nat) (cs : Array Value) : Array Obj := h.modify g fun
    | .cells _ t frozen => .cells cs t frozen
    | o => o
  let h1 := put w0.heap 0 (Go.Pinned.utf8FirstZ.map fun (z : Nat) => Value.int .u8 z).toArray
  let h2 := put h1 1 (accZ.map fun (z : Nat) => Value.int .u8 z).toArray
  let h3 := put h2 2 (T64.map fun (z : Nat) => Value.int .u64 z).toArray
  let h4 := put h3 4 (B32.map fun (z : Nat) => Value.int .u8 z).toArray
  let h5 := put h4 5 (B64.map fun (z : Nat) => Value.int .u8 z).toArray
  let h6 := put h5 6 #[.iface 193 (.pointer (some ⟨(World.settled Tryd.prog os).heap.size, 0, none⟩))]
  let h7 := put h6 7 #[.iface 193 (.pointer (some ⟨(World.settled Tryd.prog os).heap.size + 1, 0, none⟩))]
  { w0 with heap := h7 }
theorem laid_met (os : Os) (args : Array Value) : laidMet Tryd.prog laidL ((laidWorld os).forCall (fun _ _ => 0) ⟨#[], args, []⟩).memory :=
  (LaidIn.of_run (l := laidL) [0, 1, 2, 3, 4, 5, 6, 7, N0, N0 + 1] 8 (by kernel_rfl) (by kernel_rfl) (by kernel_rfl) (by kernel_rfl)).met
end Go.Proofs.YtpjafglhdlfnbaaDoor
namespace Go.Proofs.YtpjafglhdlfnbaaDoor
open Go.Ab Go.Lib
open Go.ChangeShapes Go.WideShapes Go.ChangeAt Go.RowKit Go.WideElems
theorem own : ownKnob Tryd.prog.godebug = none := by kernel_rfl
theorem laidOut : laidOutB Tryd.prog = true := by kernel_rfl
theorem bVs_sum : ∀ l, bVs l = (l.map bV).sum
  | [] => rfl
  | v :: r => by simp [bVs, bVs_sum r]
theorem bMs_sum : ∀ l, bMs l = (l.map bM).sum
  | [] => rfl
  | v :: r => by simp [bMs, bMs_sum r]
theorem wfVs_all : ∀ {l : List Val}, (∀ v ∈ l, wfV v) → wfVs l
  | [], _ => trivial
  | v :: r, h => ⟨h v (.head _), wfVs_all fun x hx => h x (.tail _ hx)⟩
theorem wfMs_all : ∀ {l : List Mem}, (∀ v ∈ l, wfM v) → wfMs l
  | [], _ => trivial
  | v :: r, h => ⟨h v (.head _), wfMs_all fun x hx => h x (.tail _ hx)⟩
theorem inR_wf {n : Int} (h : (Lit.int .i64 n).wf = true) : inR n := by
  simp [Lit.wf, IntKind.has, IntKind.min, IntKind.max, IntKind.signed, IntKind.bits] at h
  unfold inR
  omega
abbrev DV (m : Nat) : Prop := DecB Tryd.prog m 26 5 cV wfV bV
abbrev DM (m : Nat) : Prop := DecB Tryd.prog m 70 6 cM wfM bM
theorem decVs {m : Nat} (h : DV m) : DecB Tryd.prog (m + 1) 24 1 (fun l : List Val => [.sl .no 5 (cVs l)]) (fun l => wfVs l) (fun l => bVs l + 1) := by
  intro H enc W cs d ps h1 h2
  obtain ⟨a, h3, h4, h5, h6⟩ := DecB.slice (t := 24) Tryd.underlying24 (B := 80) (sz := 5) (by kernel_rfl) (by kernel_rfl) (by decide) h enc W cs d ps h1 h2
  exact ⟨a, wfVs_all h3.2.2, by simp only [bVs_sum]; exact h4, h5, by simp only [cVs_map]; exact h6⟩
theorem decMs {m : Nat} (h : DM m) : DecB Tryd.prog (m + 1) 22 1 (fun l : List Mem => [.sl .no 6 (cMs l)]) (fun l => wfMs l) (fun l => bMs l + 1) := by
  intro H enc W cs d ps h1 h2
  obtain ⟨a, h3, h4, h5, h6⟩ := DecB.slice (t := 22) Tryd.underlying22 (B := 96) (sz := 6) (by kernel_rfl) (by kernel_rfl) (by decide) h enc W cs d ps h1 h2
  exact ⟨a, wfMs_all h3.2.2, by simp only [bMs_sum]; exact h4, h5, by simp only [cMs_map]; exact h6⟩
theorem dec : ∀ m, DV m ∧ DM m := by
  intro m
  induction m using Nat.strongRecOn with
  | _ m ih =>
    have hs : ∀ {k}, k ≤ m → DecB Tryd.prog k 24 1 (fun l : List Val => [.sl .no 5 (cVs l)]) (fun l => wfVs l) (fun l => bVs l + 1) := fun {k} hk => by
      cases k with
      | zero => exact DecB.zero
      | succ k => exact decVs (ih k (by omega)).1
    have hm : ∀ {k}, k ≤ m → DecB Tryd.prog k 22 1 (fun l : List Mem => [.sl .no 6 (cMs l)]) (fun l => wfMs l) (fun l => bMs l + 1) := fun {k} hk => by
      cases k with
      | zero => exact DecB.zero
      | succ k => exact decMs (ih k (by omega)).2
    refine ⟨?_, ?_⟩
    · cases m with
      | zero => exact DecB.zero
      | succ k =>
        exact DecB.struct (DecFsB.cons (by kernel_rfl) (DecB.int (k := .i64) Tryd.underlying3) (DecFsB.cons (by kernel_rfl) (DecB.int (k := .i64) Tryd.underlying2) (DecFsB.cons (by kernel_rfl) (DecB.str Tryd.underlying9) (DecFsB.cons (by kernel_rfl) (hs (by omega)) (DecFsB.cons (by kernel_rfl) (hm (by omega)) DecFsB.nil)))))
          (by kernel_rfl) (by kernel_rfl) cV wfV bV (fun x => .mk x.1 x.2.1 x.2.2.1 x.2.2.2.1 x.2.2.2.2.1) (fun a => rfl) (fun a h => ⟨inR_wf h.2.1, h.2.2.2.1, h.2.2.2.2.1⟩) (fun a => by simp only [bV]; omega)
    · cases m with
      | zero => exact DecB.zero
      | succ k =>
        exact DecB.struct (DecFsB.cons (by kernel_rfl) (DecB.str Tryd.underlying9) (DecFsB.cons (by kernel_rfl) (ih k (by omega)).1 DecFsB.nil))
          (by kernel_rfl) (by kernel_rfl) cM wfM bM (fun x => .mk x.1 x.2.1) (fun a => by simp [cM]) (fun a h => h.2.1) (fun a => by simp only [bM]; omega)
theorem decVA (m : Nat) : DV m := (dec m).1
theorem decMsA : ∀ m, DecB Tryd.prog m 22 1 (fun l : List Mem => [.sl .no 6 (cMs l)]) (fun l => wfMs l) (fun l => bMs l + 1)
  | 0 => DecB.zero
  | m + 1 => decMs (dec m).2
theorem agg_of {W : World} {r : Reach} {b : Nat} {t : TypeId} {fs : Array Field} {v : Value} (ht : Tryd.prog.underlying t = some (.struct fs)) (h : Value.okWide Tryd.prog W r b t v) : ∃ cs, v = .agg cs := by
  unfold Value.okWide at h
  rw [ht] at h
  obtain ⟨cs, h, _⟩ := h
  exact ⟨cs, h⟩
theorem cond_bulk {H : Type} {s : ChangeSpec} {ds : List (DataW H)} (h : ∀ k, (Rows.OpenSpec.upto s).cond = some k → k H ds = true) : blkAll ds ≤ 1048576 := by
  have h1 : Rows.uptoSmall H ds = true := h _ rfl
  have h2 := of_decide_eq_true h1
  rwa [bulkAll_eq] at h2
end Go.Proofs.YtpjafglhdlfnbaaDoor
