/- Texts joined: NumB NumC ValE Jm Jn Enc Quo Quo2 Quo3 IrB Rd Rd2. -/
import Derived.Test.YtpjafglhdlfnbaaGreatDoorRows
import Derived.Test.YtpjafglhdlfnbaaGreatDoorM1
import Derived.Test.YtpjafglhdlfnbaaGreatDoorM2
import Derived.Test.YtpjafglhdlfnbaaGreatDoorM3
set_option maxRecDepth 100000
set_option linter.unusedSimpArgs false
set_option linter.unusedVariables false
namespace Go.Proofs.YtpjafglhdlfnbaaGreatDoor
open Go.Ab
theorem prefix1 (c : UInt8) (s : List UInt8) : [c].isPrefixOf s = decide (s.head? = some c) := by
  cases s with
  | nil => rfl
  | cons d r =>
    by_cases h : d = c
    · subst h; simp [List.isPrefixOf]
    · have h' : ¬ c = d := fun e => h e.symm
      simp [List.isPrefixOf, h, h']
def intN (s : List UInt8) : Nat := if run1 s = 0 then 0 else if s.getD 0 0 = 48 then 1 else run1 s
def wholeN (s : List UInt8) : Nat := if s.head? = some 45 then (if run1 s.tail = 0 then 0 else 1 + intN s.tail) else intN s
theorem intN_le (s : List UInt8) : intN s ≤ s.length := by have := run1_le s; unfold intN; split <;> (try split) <;> omega
theorem intN_pos {s : List UInt8} (h : run1 s ≠ 0) : 0 < intN s := by unfold intN; simp only [h, if_false]; split <;> omega
theorem wholeN_le (s : List UInt8) : wholeN s ≤ s.length := by
  have h1 := intN_le s
  have h2 := intN_le s.tail
  unfold wholeN
  split
  · rename_i h
    cases s with
    | nil => simp at h
    | cons c r =>
      simp only [List.tail_cons, List.length_cons] at h2 ⊢
      by_cases h0 : run1 r = 0 <;> simp only [h0, if_true, if_false] <;> omega
  · exact h1
theorem u8_is (a : UInt8) (n : Nat) (hn : n < 256) : decide ((a.toNat : Int) = n) = decide (a = UInt8.ofNat n) := by
  rw [decide_eq_decide]
  have : (UInt8.ofNat n).toNat = n := by simp [UInt8.toNat_ofNat']; omega
  constructor
  · intro h; apply UInt8.toNat_inj.1; rw [this]; omega
  · intro h; subst h; rw [this]
theorem wholeC (s : List UInt8) (hs : s.length ≤ Lim) : Pure Tryz.prog 141 [.str s] (.int .i64 (wholeN s)) := by
  refine Pure.go ir141 ck141 (Nat.le_refl _) fun KP Q hQ => ?_
  simp only [Lim] at hs
  simp (disch := first | omega | assumption) only [ir141, go_sem, ↓reduceIte]
  refine goK_pure (prefixC s [45]) ?_
  rw [prefix1]
  by_cases h : s.head? = some 45
  · cases s with
    | nil => simp at h
    | cons c r =>
      have hc : c = 45 := by simpa using h
      subst hc
      simp only [List.length_cons] at hs
      have h1 : (1 : Int) ≤ ((r.length + 1 : Nat) : Int) := by omega
      have h2 : (1 : Int) < ((r.length + 1 : Nat) : Int) ∨ r = [] := by cases r <;> simp; omega
      simp (disch := first | omega | assumption) only [h, h1, Int.toNat_one, go_sem, ↓reduceIte]
      refine goK_pure (digitsC r (by simp only [Lim]; omega)) ?_
      by_cases h0 : run1 r = 0
      · simp (disch := first | omega | assumption) only [h0, go_sem, ↓reduceIte]
        exact hQ _ _ _ _ nofun rfl (by simp [tupOf, envOf, AV.strip, AV.strip1, wholeN, h0])
      · have h0' : ¬ ((run1 r : Int) = 0) := by omega
        have hrl := run1_le r
        have hlt : (1 : Int) < ((r.length + 1 : Nat) : Int) := by omega
        have e := u8_is (r.getD 0 0) 48 (by omega)
        by_cases h48 : r.getD 0 0 = 48
        · have hi : intN r = 1 := by simp only [intN, h0, h48, if_false, if_true]
          simp (disch := first | omega | assumption) only [h0', hlt, Int.toNat_one, h48, UInt8.reduceToNat, wrap64, go_sem, ↓reduceIte]
          exact hQ _ _ _ _ nofun rfl (by simp [tupOf, envOf, AV.strip, AV.strip1, wholeN, h0, hi])
        · have h48' : ¬ ((r.getD 0 0).toNat : Int) = 48 := by
            intro hh
            rw [decide_eq_true (by exact hh)] at e
            exact h48 (by simpa using e.symm)
          have hi : intN r = run1 r := by simp only [intN, h0, h48, if_false]
          simp (disch := first | omega | assumption) only [h0', hlt, Int.toNat_one, h48', wrap64, go_sem, ↓reduceIte]
          exact hQ _ _ _ _ nofun rfl (by simp [tupOf, envOf, AV.strip, AV.strip1, wholeN, h0, hi])
  · simp (disch := first | omega | assumption) only [h, go_sem, ↓reduceIte]
    refine goK_pure (digitsC s (by simp only [Lim]; omega)) ?_
    by_cases h0 : run1 s = 0
    · simp (disch := first | omega | assumption) only [h0, go_sem, ↓reduceIte]
      exact hQ _ _ _ _ nofun rfl (by simp [tupOf, envOf, AV.strip, AV.strip1, wholeN, h, intN, h0])
    · have h0' : ¬ ((run1 s : Int) = 0) := by omega
      have hrl := run1_le s
      have hlt : (0 : Int) < (s.length : Int) := by omega
      have e := u8_is (s.getD 0 0) 48 (by omega)
      by_cases h48 : s.getD 0 0 = 48
      · have hi : intN s = 1 := by simp only [intN, h0, h48, if_false, if_true]
        simp (disch := first | omega | assumption) only [h0', hlt, h48, UInt8.reduceToNat, wrap64, go_sem, ↓reduceIte]
        exact hQ _ _ _ _ nofun rfl (by simp [tupOf, envOf, AV.strip, AV.strip1, wholeN, h, hi])
      · have h48' : ¬ ((s.getD 0 0).toNat : Int) = 48 := by
          intro hh
          rw [decide_eq_true (by exact hh)] at e
          exact h48 (by simpa using e.symm)
        have hi : intN s = run1 s := by simp only [intN, h0, h48, if_false]
        simp (disch := first | omega | assumption) only [h0', hlt, h48', wrap64, go_sem, ↓reduceIte]
        exact hQ _ _ _ _ nofun rfl (by simp [tupOf, envOf, AV.strip, AV.strip1, wholeN, h, hi])
def isE (c : UInt8) : Bool := decide (c = 101) || decide (c = 69)
def sgN (r : List UInt8) : Nat := if r.head? = some 43 ∨ r.head? = some 45 then 1 else 0
def powN : List UInt8 → Nat
  | [] => 0
  | c :: r => if isE c then (if run1 (r.drop (sgN r)) = 0 then 0 else 1 + sgN r + run1 (r.drop (sgN r))) else 0
theorem sgN_le (r : List UInt8) : sgN r ≤ r.length := by
  unfold sgN
  split
  · cases r <;> simp_all
  · omega
theorem powN_le : ∀ s, powN s ≤ s.length
  | [] => by simp [powN]
  | c :: r => by
    have h := run1_le (r.drop (sgN r))
    have h2 := sgN_le r
    rw [List.length_drop] at h
    simp only [powN, List.length_cons]
    split
    · split <;> omega
    · omega
theorem powerC (s : List UInt8) (hs : s.length ≤ Lim) : Pure Tryz.prog 143 [.str s] (.int .i64 (powN s)) := by
  refine Pure.go ir143 ck143 (Nat.le_refl _) fun KP Q hQ => ?_
  simp only [Lim] at hs
  cases s with
  | nil =>
    simp (disch := first | omega | assumption) only [ir143, go_sem, ↓reduceIte]
    exact hQ _ _ _ _ nofun rfl (by simp [tupOf, envOf, AV.strip, AV.strip1, powN])
  | cons c r =>
    simp only [List.length_cons] at hs
    have hne : ¬ (c :: r = []) := by simp
    have hp : (0 : Int) < ((r.length + 1 : Nat) : Int) := by omega
    have e1 := u8_is c 101 (by omega)
    have e2 := u8_is c 69 (by omega)
    have hE : ∀ (P : Prop), P → P := fun _ h => h
    by_cases hc : isE c = true
    case neg =>
      have hc1 : ¬ (c.toNat : Int) = 101 := by
        intro hh; rw [decide_eq_true (by exact hh)] at e1
        exact hc (by simp [isE, (by simpa using e1.symm : c = 101)])
      have hc2 : ¬ (c.toNat : Int) = 69 := by
        intro hh; rw [decide_eq_true (by exact hh)] at e2
        exact hc (by simp [isE, (by simpa using e2.symm : c = 69)])
      simp (disch := first | omega | assumption) only [ir143, hne, hp, hc1, hc2, go_sem, ↓reduceIte]
      have hcf : isE c = false := by simpa using hc
      exact hQ _ _ _ _ nofun rfl (by simp [tupOf, envOf, AV.strip, AV.strip1, powN, hcf])
    have fin : ∀ k : Nat, run1 (r.drop (sgN r)) = k → powN (c :: r) = if k = 0 then 0 else 1 + sgN r + k := fun k hk => by subst hk; simp only [powN, hc, if_true]
    have hcase : (c.toNat : Int) = 101 ∨ (¬ (c.toNat : Int) = 101 ∧ (c.toNat : Int) = 69) := by
      simp only [isE, Bool.or_eq_true, decide_eq_true_eq] at hc
      rcases hc with rfl | rfl
      · exact .inl rfl
      · exact .inr ⟨by decide, rfl⟩
    have hdl := run1_le (r.drop (sgN r))
    rw [List.length_drop] at hdl
    have hsl := sgN_le r
    cases r with
    | nil =>
      have k0 := fin 0 (by simp [sgN, run1])
      rcases hcase with h1 | ⟨h1, h2⟩
      · simp (disch := first | omega | assumption) only [ir143, h1, go_sem, ↓reduceIte]
        refine goK_pure (digitsC [] (by simp)) ?_
        simp (disch := first | omega | assumption) only [run1, go_sem, ↓reduceIte]
        exact hQ _ _ _ _ nofun rfl (by simp [tupOf, envOf, AV.strip, AV.strip1, k0])
      · simp (disch := first | omega | assumption) only [ir143, h1, h2, go_sem, ↓reduceIte]
        refine goK_pure (digitsC [] (by simp)) ?_
        simp (disch := first | omega | assumption) only [run1, go_sem, ↓reduceIte]
        exact hQ _ _ _ _ nofun rfl (by simp [tupOf, envOf, AV.strip, AV.strip1, k0])
    | cons d t =>
      simp only [List.length_cons] at hs
      have hl1 : (1 : Int) < ((t.length + 1 + 1 : Nat) : Int) := by omega
      have hl2 : (2 : Int) ≤ ((t.length + 1 + 1 : Nat) : Int) := by omega
      have hl3 : (1 : Int) ≤ ((t.length + 1 + 1 : Nat) : Int) := by omega
      have f1 := u8_is d 43 (by omega)
      have f2 := u8_is d 45 (by omega)
      by_cases hsg : d = 43 ∨ d = 45
      · have hsg1 : sgN (d :: t) = 1 := by simp only [sgN, List.head?_cons, Option.some.injEq, hsg, if_true]
        have k0 := fin (run1 t) (by rw [hsg1]; rfl)
        rw [hsg1] at k0 hdl
        have hd : (d.toNat : Int) = 43 ∨ (¬ (d.toNat : Int) = 43 ∧ (d.toNat : Int) = 45) := by
          rcases hsg with rfl | rfl
          · exact .inl rfl
          · exact .inr ⟨by decide, rfl⟩
        rcases hcase with h1 | ⟨h1, h2⟩ <;> rcases hd with h3 | ⟨h3, h4⟩
        all_goals
          simp only [hl1, hl2, List.length_cons, List.drop_succ_cons, List.drop_zero] at hdl
        · simp (disch := first | omega | assumption) only [ir143, h1, h3, hl1, hl2, Int.toNat_one, go_sem, ↓reduceIte]
          refine goK_pure (digitsC t (by simp only [Lim]; omega)) ?_
          by_cases hz : run1 t = 0
          · simp (disch := first | omega | assumption) only [hz, go_sem, ↓reduceIte]
            exact hQ _ _ _ _ nofun rfl (by simp [tupOf, envOf, AV.strip, AV.strip1, k0, hz])
          · have hz' : ¬ (run1 t : Int) = 0 := by omega
            simp (disch := first | omega | assumption) only [hz', wrap64, go_sem, ↓reduceIte]
            exact hQ _ _ _ _ nofun rfl (by simp [tupOf, envOf, AV.strip, AV.strip1, k0, hz])
        · simp (disch := first | omega | assumption) only [ir143, h1, h3, h4, hl1, hl2, Int.toNat_one, go_sem, ↓reduceIte]
          refine goK_pure (digitsC t (by simp only [Lim]; omega)) ?_
          by_cases hz : run1 t = 0
          · simp (disch := first | omega | assumption) only [hz, go_sem, ↓reduceIte]
            exact hQ _ _ _ _ nofun rfl (by simp [tupOf, envOf, AV.strip, AV.strip1, k0, hz])
          · have hz' : ¬ (run1 t : Int) = 0 := by omega
            simp (disch := first | omega | assumption) only [hz', wrap64, go_sem, ↓reduceIte]
            exact hQ _ _ _ _ nofun rfl (by simp [tupOf, envOf, AV.strip, AV.strip1, k0, hz])
        · simp (disch := first | omega | assumption) only [ir143, h1, h2, h3, hl1, hl2, Int.toNat_one, go_sem, ↓reduceIte]
          refine goK_pure (digitsC t (by simp only [Lim]; omega)) ?_
          by_cases hz : run1 t = 0
          · simp (disch := first | omega | assumption) only [hz, go_sem, ↓reduceIte]
            exact hQ _ _ _ _ nofun rfl (by simp [tupOf, envOf, AV.strip, AV.strip1, k0, hz])
          · have hz' : ¬ (run1 t : Int) = 0 := by omega
            simp (disch := first | omega | assumption) only [hz', wrap64, go_sem, ↓reduceIte]
            exact hQ _ _ _ _ nofun rfl (by simp [tupOf, envOf, AV.strip, AV.strip1, k0, hz])
        · simp (disch := first | omega | assumption) only [ir143, h1, h2, h3, h4, hl1, hl2, Int.toNat_one, go_sem, ↓reduceIte]
          refine goK_pure (digitsC t (by simp only [Lim]; omega)) ?_
          by_cases hz : run1 t = 0
          · simp (disch := first | omega | assumption) only [hz, go_sem, ↓reduceIte]
            exact hQ _ _ _ _ nofun rfl (by simp [tupOf, envOf, AV.strip, AV.strip1, k0, hz])
          · have hz' : ¬ (run1 t : Int) = 0 := by omega
            simp (disch := first | omega | assumption) only [hz', wrap64, go_sem, ↓reduceIte]
            exact hQ _ _ _ _ nofun rfl (by simp [tupOf, envOf, AV.strip, AV.strip1, k0, hz])
      · have hsg0 : sgN (d :: t) = 0 := by simp only [sgN, List.head?_cons, Option.some.injEq, hsg, if_false]
        have k0 := fin (run1 (d :: t)) (by rw [hsg0]; rfl)
        rw [hsg0] at k0 hdl
        have h3 : ¬ (d.toNat : Int) = 43 := by
          intro hh; rw [decide_eq_true (by exact hh)] at f1
          exact hsg (.inl (by simpa using f1.symm))
        have h4 : ¬ (d.toNat : Int) = 45 := by
          intro hh; rw [decide_eq_true (by exact hh)] at f2
          exact hsg (.inr (by simpa using f2.symm))
        simp only [List.drop_zero, List.length_cons] at hdl
        rcases hcase with h1 | ⟨h1, h2⟩
        · simp (disch := first | omega | assumption) only [ir143, h1, h3, h4, hl1, hl3, Int.toNat_one, go_sem, ↓reduceIte]
          refine goK_pure (digitsC (d :: t) (by simp only [Lim, List.length_cons]; omega)) ?_
          by_cases hz : run1 (d :: t) = 0
          · simp (disch := first | omega | assumption) only [hz, go_sem, ↓reduceIte]
            exact hQ _ _ _ _ nofun rfl (by simp [tupOf, envOf, AV.strip, AV.strip1, k0, hz])
          · have hz' : ¬ (run1 (d :: t) : Int) = 0 := by omega
            simp (disch := first | omega | assumption) only [hz', wrap64, go_sem, ↓reduceIte]
            exact hQ _ _ _ _ nofun rfl (by simp [tupOf, envOf, AV.strip, AV.strip1, k0, hz])
        · simp (disch := first | omega | assumption) only [ir143, h1, h2, h3, h4, hl1, hl3, Int.toNat_one, go_sem, ↓reduceIte]
          refine goK_pure (digitsC (d :: t) (by simp only [Lim, List.length_cons]; omega)) ?_
          by_cases hz : run1 (d :: t) = 0
          · simp (disch := first | omega | assumption) only [hz, go_sem, ↓reduceIte]
            exact hQ _ _ _ _ nofun rfl (by simp [tupOf, envOf, AV.strip, AV.strip1, k0, hz])
          · have hz' : ¬ (run1 (d :: t) : Int) = 0 := by omega
            simp (disch := first | omega | assumption) only [hz', wrap64, go_sem, ↓reduceIte]
            exact hQ _ _ _ _ nofun rfl (by simp [tupOf, envOf, AV.strip, AV.strip1, k0, hz])
end Go.Proofs.YtpjafglhdlfnbaaGreatDoor
namespace Go.Proofs.YtpjafglhdlfnbaaGreatDoor
open Go.Ab
def fracN (r : List UInt8) : Nat := if r.head? = some 46 ∧ 0 < run1 r.tail then 1 + run1 r.tail else 0
def numN (s : List UInt8) : Nat × Int :=
  if wholeN s = 0 then (0, 0) else
    (wholeN s + fracN (s.drop (wholeN s)) + powN (s.drop (wholeN s + fracN (s.drop (wholeN s)))), if fracN (s.drop (wholeN s)) = 0 ∧ powN (s.drop (wholeN s + fracN (s.drop (wholeN s)))) = 0 then 3 else 4)
theorem fracN_le (r : List UInt8) : fracN r ≤ r.length := by
  unfold fracN
  split
  · rename_i h
    cases r with
    | nil => simp at h
    | cons c t => have := run1_le t; simp only [List.tail_cons, List.length_cons]; omega
  · omega
theorem numberC (s : List UInt8) (hs : s.length ≤ Lim) : Pure Tryz.prog 106 [.str s] (.tup [.int .i64 (numN s).1, .int .i64 (numN s).2]) := by
  refine Pure.go ir106 ck106 (Nat.le_refl _) fun KP Q hQ => ?_
  have hs' := hs
  simp only [Lim] at hs
  simp (disch := first | omega | assumption) only [ir106, go_sem, ↓reduceIte]
  refine goK_pure (wholeC s hs') ?_
  have hw := wholeN_le s
  by_cases h0 : wholeN s = 0
  · simp (disch := first | omega | assumption) only [h0, go_sem, ↓reduceIte]
    exact hQ _ _ _ _ nofun rfl (by simp [tupOf, envOf, AV.strip, AV.strip1, numN, h0])
  have h0' : ¬ ((wholeN s : Int) = 0) := by omega
  have hwl : (wholeN s : Int) ≤ s.length := by omega
  simp (disch := first | omega | assumption) only [h0', hwl, go_sem, ↓reduceIte]
  refine goK_pure (prefixC (s.drop (wholeN s)) [46]) ?_
  rw [prefix1]
  generalize hn : wholeN s = n at *
  have fin : ∀ f p : Nat, fracN (s.drop n) = f → powN (s.drop (n + f)) = p → numN s = (n + f + p, if f = 0 ∧ p = 0 then 3 else 4) := fun f p hf hp => by
    unfold numN
    rw [hn, hf, hp]
    simp only [h0, if_false]
  have hpl := powN_le (s.drop n)
  rw [List.length_drop] at hpl
  by_cases h46 : (s.drop n).head? = some 46
  · obtain ⟨c, t, hct⟩ : ∃ c t, s.drop n = c :: t := by
      cases hx : s.drop n with
      | nil => rw [hx] at h46; simp at h46
      | cons c t => exact ⟨c, t, rfl⟩
    have hlen : s.length = n + 1 + t.length := by have := congrArg List.length hct; simp at this; omega
    have hdr : s.drop (n + 1) = t := by rw [← List.drop_drop, hct]; rfl
    have hto : ((n : Int) + 1).toNat = n + 1 := by omega
    have hn1 : (0 : Int) ≤ (n : Int) + 1 := by omega
    have hn2 : (n : Int) + 1 ≤ s.length := by omega
    have hrl := run1_le t
    simp (disch := first | omega | assumption) only [h46, wrap64, hto, hn1, hn2, hdr, go_sem, ↓reduceIte]
    refine goK_pure (digitsC t (by simp only [Lim]; omega)) ?_
    by_cases hk : (0 : Int) < run1 t
    · have hk' : 0 < run1 t := by omega
      have hfr : fracN (s.drop n) = 1 + run1 t := by unfold fracN; rw [if_pos ⟨h46, by rw [hct]; exact hk'⟩, hct]; rfl
      have hto2 : ((n : Int) + 1 + run1 t).toNat = n + (1 + run1 t) := by omega
      have hn3 : (0 : Int) ≤ (n : Int) + 1 + run1 t := by omega
      have hn4 : (n : Int) + 1 + run1 t ≤ s.length := by omega
      have hpl2 := powN_le (s.drop (n + (1 + run1 t)))
      rw [List.length_drop] at hpl2
      simp (disch := first | omega | assumption) only [hk, wrap64, hto2, hn3, hn4, go_sem, ↓reduceIte]
      refine goK_pure (powerC (s.drop (n + (1 + run1 t))) (by rw [List.length_drop]; simp only [Lim]; omega)) ?_
      have hf := fin _ _ hfr rfl
      generalize hp : powN (s.drop (n + (1 + run1 t))) = p at *
      by_cases hp0 : (0 : Int) < p
      · simp (disch := first | omega | assumption) only [hp0, wrap64, go_sem, ↓reduceIte]
        exact hQ _ _ _ _ nofun rfl (by simp [tupOf, envOf, AV.strip, AV.strip1, hf, Int.add_assoc])
      · have hp00 : p = 0 := by omega
        subst hp00
        simp (disch := first | omega | assumption) only [go_sem, ↓reduceIte]
        exact hQ _ _ _ _ nofun rfl (by simp [tupOf, envOf, AV.strip, AV.strip1, hf, Int.add_assoc])
    · have hk0 : run1 t = 0 := by omega
      have hfr : fracN (s.drop n) = 0 := by unfold fracN; exact if_neg fun hh => by have := hh.2; rw [hct] at this; simp only [List.tail_cons] at this; omega
      simp (disch := first | omega | assumption) only [hk, hwl, go_sem, ↓reduceIte]
      refine goK_pure (powerC (s.drop n) (by rw [List.length_drop]; simp only [Lim]; omega)) ?_
      have hf := fin _ _ hfr rfl
      rw [Nat.add_zero] at hf
      generalize hp : powN (s.drop n) = p at *
      by_cases hp0 : (0 : Int) < p
      · have hp1 : ¬ p = 0 := by omega
        simp (disch := first | omega | assumption) only [hp0, wrap64, go_sem, ↓reduceIte]
        exact hQ _ _ _ _ nofun rfl (by simp [tupOf, envOf, AV.strip, AV.strip1, hf, hp1])
      · have hp00 : p = 0 := by omega
        subst hp00
        simp (disch := first | omega | assumption) only [go_sem, ↓reduceIte]
        exact hQ _ _ _ _ nofun rfl (by simp [tupOf, envOf, AV.strip, AV.strip1, hf])
  · have hfr : fracN (s.drop n) = 0 := by unfold fracN; exact if_neg fun hh => h46 hh.1
    simp (disch := first | omega | assumption) only [h46, hwl, go_sem, ↓reduceIte]
    refine goK_pure (powerC (s.drop n) (by rw [List.length_drop]; simp only [Lim]; omega)) ?_
    have hf := fin _ _ hfr rfl
    rw [Nat.add_zero] at hf
    generalize hp : powN (s.drop n) = p at *
    by_cases hp0 : (0 : Int) < p
    · have hp1 : ¬ p = 0 := by omega
      simp (disch := first | omega | assumption) only [hp0, wrap64, go_sem, ↓reduceIte]
      exact hQ _ _ _ _ nofun rfl (by simp [tupOf, envOf, AV.strip, AV.strip1, hf, hp1])
    · have hp00 : p = 0 := by omega
      subst hp00
      simp (disch := first | omega | assumption) only [go_sem, ↓reduceIte]
      exact hQ _ _ _ _ nofun rfl (by simp [tupOf, envOf, AV.strip, AV.strip1, hf])
def numK (s : List UInt8) : Int := if (numN s).1 = s.length then (numN s).2 else 0
theorem NumberC (s : List UInt8) (hs : s.length ≤ Lim) : Pure Tryz.prog 90 [.str s] (.int .i64 (numK s)) := by
  refine Pure.go ir90 ck90 (Nat.le_refl _) fun KP Q hQ => ?_
  simp (disch := first | omega | assumption) only [ir90, go_sem, ↓reduceIte]
  refine goK_pure (numberC s hs) ?_
  by_cases h : (numN s).1 = s.length
  · have h' : (((numN s).1 : Int) = s.length) = True := eq_true (by omega)
    simp (disch := first | omega | assumption) only [h', go_sem, ↓reduceIte]
    exact hQ _ _ _ _ nofun rfl (by simp [tupOf, envOf, AV.strip, AV.strip1, numK, h])
  · have h' : ¬ ((numN s).1 : Int) = s.length := by omega
    simp (disch := first | omega | assumption) only [h', go_sem, ↓reduceIte]
    exact hQ _ _ _ _ nofun rfl (by simp [tupOf, envOf, AV.strip, AV.strip1, numK, h])
def okI : Lib.NumEnd Int → Bool
  | .ok _ => true
  | _ => false
def valI (s : List UInt8) : Int := match Lib.parseIntB 64 s with
  | .ok v => v
  | Lib.NumEnd.syntax => 0
  | .range => Lib.intSat 64 s
def wholeB (s : List UInt8) : Bool := okI (Lib.parseIntB 64 s) && decide (numK s = 3)
theorem WholeC (s : List UInt8) (hs : s.length ≤ Lim) : Pure Tryz.prog 112 [.str s] (.tup [.int .i64 (valI s), .bool (wholeB s)]) := by
  refine Pure.go ir112 ck112 (Nat.le_refl _) fun KP Q hQ => ?_
  simp (disch := first | omega | assumption) only [ir112, go_sem, ↓reduceIte]
  refine goK_pure (parseIntC s (by simp only [Lim] at hs; omega)) ?_
  rcases hp : Lib.parseIntB 64 s with v | _ | _
  · simp (disch := first | omega | assumption) only [parseA, hp, go_sem, ↓reduceIte]
    refine goK_pure (NumberC s hs) ?_
    simp (disch := first | omega | assumption) only [go_sem, ↓reduceIte]
    exact hQ _ _ _ _ nofun rfl (by simp [tupOf, envOf, AV.strip, AV.strip1, valI, wholeB, hp, okI])
  · simp (disch := first | omega | assumption) only [parseA, hp, go_sem, ↓reduceIte]
    exact hQ _ _ _ _ nofun rfl (by simp [tupOf, envOf, AV.strip, AV.strip1, valI, wholeB, hp, okI])
  · simp (disch := first | omega | assumption) only [parseA, hp, go_sem, ↓reduceIte]
    exact hQ _ _ _ _ nofun rfl (by simp [tupOf, envOf, AV.strip, AV.strip1, valI, wholeB, hp, okI])
def numB (s : List UInt8) : Bool := decide (numK s = 4) || (decide (numK s = 3) && !wholeB s)
theorem numC (s : List UInt8) (hs : s.length ≤ Lim) : Pure Tryz.prog 152 [.str s] (.bool (numB s)) := by
  refine Pure.go ir152 ck152 (Nat.le_refl _) fun KP Q hQ => ?_
  simp (disch := first | omega | assumption) only [ir152, go_sem, ↓reduceIte]
  refine goK_pure (NumberC s hs) ?_
  simp (disch := first | omega | assumption) only [go_sem, ↓reduceIte]
  refine goK_pure (WholeC s hs) ?_
  by_cases h4 : numK s = 4
  · simp (disch := first | omega | assumption) only [h4, go_sem, ↓reduceIte]
    exact hQ _ _ _ _ nofun rfl (by simp [tupOf, envOf, AV.strip, AV.strip1, numB, h4])
  · by_cases h3 : numK s = 3
    · simp (disch := first | omega | assumption) only [h4, h3, go_sem, ↓reduceIte]
      exact hQ _ _ _ _ nofun rfl (by simp [tupOf, envOf, AV.strip, AV.strip1, numB, h4, h3])
    · simp (disch := first | omega | assumption) only [h4, h3, go_sem, ↓reduceIte]
      exact hQ _ _ _ _ nofun rfl (by simp [tupOf, envOf, AV.strip, AV.strip1, numB, h4, h3])
def resB (s : List UInt8) : Bool := decide (s = [116, 114, 117, 101]) || (decide (s = [102, 97, 108, 115, 101]) || decide (s = [110, 117, 108, 108]))
theorem resC (s : List UInt8) : Pure Tryz.prog 153 [.str s] (.bool (resB s)) := by
  refine Pure.go ir153 ck153 (Nat.le_refl _) fun KP Q hQ => ?_
  by_cases h1 : s = [116, 114, 117, 101]
  · simp (disch := first | omega | assumption) only [ir153, h1, go_sem, ↓reduceIte]
    exact hQ _ _ _ _ nofun rfl (by simp [tupOf, envOf, AV.strip, AV.strip1, resB, h1])
  · by_cases h2 : s = [102, 97, 108, 115, 101]
    · subst h2
      have h3 : ¬ ([102, 97, 108, 115, 101] : List UInt8) = [116, 114, 117, 101] := by decide
      simp (disch := first | omega | assumption) only [ir153, h3, go_sem, ↓reduceIte]
      exact hQ _ _ _ _ nofun rfl (by simp [tupOf, envOf, AV.strip, AV.strip1, resB, h3])
    · simp (disch := first | omega | assumption) only [ir153, h1, h2, go_sem, ↓reduceIte]
      exact hQ _ _ _ _ nofun rfl (by simp [tupOf, envOf, AV.strip, AV.strip1, resB, h1, h2])
theorem goodC (s : List UInt8) (hs : s.length ≤ Lim) : Pure Tryz.prog 31 [.str s] (.bool (Lib.validD s)) := by
  refine Pure.go ir31 ck31 (Nat.le_refl _) fun KP Q hQ => ?_
  simp (disch := first | omega | assumption) only [ir31, go_sem, ↓reduceIte]
  refine goK_pure (validC s (by simp only [Lim] at hs; omega)) ?_
  simp (disch := first | omega | assumption) only [go_sem, ↓reduceIte]
  exact hQ _ _ _ _ nofun rfl (by simp [tupOf, envOf, AV.strip, AV.strip1])
def bareM (n : Int) (s : List UInt8) (l : List Val) (m : List Mem) : Bool := decide (n = 0) && (decide (s = []) && (decide (l.length = 0) && decide (m.length = 0)))
theorem bareC (k n : Int) (s : List UInt8) (l : List Val) (m : List Mem) : Pure Tryz.prog 124 [.agg (cV (.mk k n s l m))] (.bool (bareM n s l m)) := by
  refine Pure.go ir124 ck124 (Nat.le_refl _) fun KP Q hQ => ?_
  have h1 := cVs_len l
  have h2 := cMs_len m
  by_cases g1 : n = 0
  case neg =>
    simp (disch := first | omega | assumption) only [ir124, cV_mk, g1, go_sem, ↓reduceIte]
    exact hQ _ _ _ _ nofun rfl (by simp [tupOf, envOf, AV.strip, AV.strip1, bareM, g1])
  by_cases g2 : s = []
  case neg =>
    simp (disch := first | omega | assumption) only [ir124, cV_mk, g1, g2, go_sem, ↓reduceIte]
    exact hQ _ _ _ _ nofun rfl (by simp [tupOf, envOf, AV.strip, AV.strip1, bareM, g2])
  by_cases g3 : l.length = 0
  case neg =>
    simp (disch := first | omega | assumption) only [ir124, cV_mk, g1, g2, h1, g3, go_sem, ↓reduceIte]
    exact hQ _ _ _ _ nofun rfl (by simp [tupOf, envOf, AV.strip, AV.strip1, bareM, g3])
  have e : decide ((m.length : Int) = 0) = decide (m.length = 0) := by rw [decide_eq_decide]; omega
  simp (disch := first | omega | assumption) only [ir124, cV_mk, g1, g2, h1, h2, g3, go_sem, ↓reduceIte]
  exact hQ _ _ _ _ nofun rfl (by simp [tupOf, envOf, AV.strip, AV.strip1, bareM, g1, g2, g3, e])
def singleM (k n : Int) (s : List UInt8) (l : List Val) (m : List Mem) : Bool :=
  bareM 0 [] l m && (if k = 0 then decide (n = 0) && decide (s = []) else if k = 1 then (decide (n = 0) || decide (n = 1)) && decide (s = []) else if k = 2 then decide (s = [])
    else if k = 3 then decide (n = 0) && numB s else if k = 4 then decide (n = 0) && Lib.validD s else if k = 5 then decide (n = 0) && (nameM s && !resB s) else if k = 8 then decide (n = 0) && nameM s else false)
theorem singleC (k n : Int) (s : List UInt8) (l : List Val) (m : List Mem) (hs : s.length ≤ Lim) : Pure Tryz.prog 123 [.agg (cV (.mk k n s l m))] (.bool (singleM k n s l m)) := by
  refine Pure.go ir123 ck123 (Nat.le_refl _) fun KP Q hQ => ?_
  simp (disch := first | omega | assumption) only [ir123, cV_mk, go_sem, ↓reduceIte]
  refine goA_intro fun b hb => ?_
  simp (disch := first | omega | assumption) only [go_sem, ↓reduceIte]
  refine goK_pure (bareC k 0 [] l m) ?_
  cases hb : bareM 0 [] l m with
  | false =>
    simp (disch := first | omega | assumption) only [hb, go_sem, ↓reduceIte]
    exact hQ _ _ _ _ nofun rfl (by simp [tupOf, envOf, AV.strip, AV.strip1, singleM, hb])
  | true =>
    by_cases k0 : k = 0
    · by_cases n0 : n = 0
      · simp (disch := first | omega | assumption) only [hb, k0, n0, go_sem, ↓reduceIte]
        exact hQ _ _ _ _ nofun rfl (by simp [tupOf, envOf, AV.strip, AV.strip1, singleM, hb, k0, n0])
      · simp (disch := first | omega | assumption) only [hb, k0, n0, go_sem, ↓reduceIte]
        exact hQ _ _ _ _ nofun rfl (by simp [tupOf, envOf, AV.strip, AV.strip1, singleM, hb, k0, n0])
    by_cases k1 : k = 1
    · by_cases n0 : n = 0
      · simp (disch := first | omega | assumption) only [hb, k0, k1, n0, go_sem, ↓reduceIte]
        exact hQ _ _ _ _ nofun rfl (by simp [tupOf, envOf, AV.strip, AV.strip1, singleM, hb, k1, n0])
      · by_cases n1 : n = 1
        · simp (disch := first | omega | assumption) only [hb, k0, k1, n0, n1, go_sem, ↓reduceIte]
          exact hQ _ _ _ _ nofun rfl (by simp [tupOf, envOf, AV.strip, AV.strip1, singleM, hb, k1, n1])
        · simp (disch := first | omega | assumption) only [hb, k0, k1, n0, n1, go_sem, ↓reduceIte]
          exact hQ _ _ _ _ nofun rfl (by simp [tupOf, envOf, AV.strip, AV.strip1, singleM, hb, k1, n0, n1])
    by_cases k2 : k = 2
    · simp (disch := first | omega | assumption) only [hb, k0, k1, k2, go_sem, ↓reduceIte]
      exact hQ _ _ _ _ nofun rfl (by simp [tupOf, envOf, AV.strip, AV.strip1, singleM, hb, k2])
    by_cases k3 : k = 3
    · by_cases n0 : n = 0
      · simp (disch := first | omega | assumption) only [hb, k0, k1, k2, k3, n0, go_sem, ↓reduceIte]
        refine goK_pure (numC s hs) ?_
        simp (disch := first | omega | assumption) only [go_sem, ↓reduceIte]
        exact hQ _ _ _ _ nofun rfl (by simp [tupOf, envOf, AV.strip, AV.strip1, singleM, hb, k3, n0])
      · simp (disch := first | omega | assumption) only [hb, k0, k1, k2, k3, n0, go_sem, ↓reduceIte]
        exact hQ _ _ _ _ nofun rfl (by simp [tupOf, envOf, AV.strip, AV.strip1, singleM, hb, k3, n0])
    by_cases k4 : k = 4
    · by_cases n0 : n = 0
      · simp (disch := first | omega | assumption) only [hb, k0, k1, k2, k3, k4, n0, go_sem, ↓reduceIte]
        refine goK_pure (goodC s hs) ?_
        simp (disch := first | omega | assumption) only [go_sem, ↓reduceIte]
        exact hQ _ _ _ _ nofun rfl (by simp [tupOf, envOf, AV.strip, AV.strip1, singleM, hb, k4, n0])
      · simp (disch := first | omega | assumption) only [hb, k0, k1, k2, k3, k4, n0, go_sem, ↓reduceIte]
        exact hQ _ _ _ _ nofun rfl (by simp [tupOf, envOf, AV.strip, AV.strip1, singleM, hb, k4, n0])
    by_cases k5 : k = 5
    · by_cases n0 : n = 0
      · simp (disch := first | omega | assumption) only [hb, k0, k1, k2, k3, k4, k5, n0, go_sem, ↓reduceIte]
        refine goK_pure (nameC s hs) ?_
        cases hn : nameM s with
        | true =>
          simp (disch := first | omega | assumption) only [hn, go_sem, ↓reduceIte]
          refine goK_pure (resC s) ?_
          simp (disch := first | omega | assumption) only [go_sem, ↓reduceIte]
          exact hQ _ _ _ _ nofun rfl (by simp [tupOf, envOf, AV.strip, AV.strip1, singleM, hb, k5, n0, hn])
        | false =>
          simp (disch := first | omega | assumption) only [hn, go_sem, ↓reduceIte]
          exact hQ _ _ _ _ nofun rfl (by simp [tupOf, envOf, AV.strip, AV.strip1, singleM, hb, k5, n0, hn])
      · simp (disch := first | omega | assumption) only [hb, k0, k1, k2, k3, k4, k5, n0, go_sem, ↓reduceIte]
        exact hQ _ _ _ _ nofun rfl (by simp [tupOf, envOf, AV.strip, AV.strip1, singleM, hb, k5, n0])
    by_cases k8 : k = 8
    · by_cases n0 : n = 0
      · simp (disch := first | omega | assumption) only [hb, k0, k1, k2, k3, k4, k5, k8, n0, go_sem, ↓reduceIte]
        refine goK_pure (nameC s hs) ?_
        simp (disch := first | omega | assumption) only [go_sem, ↓reduceIte]
        exact hQ _ _ _ _ nofun rfl (by simp [tupOf, envOf, AV.strip, AV.strip1, singleM, hb, k8, n0])
      · simp (disch := first | omega | assumption) only [hb, k0, k1, k2, k3, k4, k5, k8, n0, go_sem, ↓reduceIte]
        exact hQ _ _ _ _ nofun rfl (by simp [tupOf, envOf, AV.strip, AV.strip1, singleM, hb, k8, n0])
    · simp (disch := first | omega | assumption) only [hb, k0, k1, k2, k3, k4, k5, k8, go_sem, ↓reduceIte]
      exact hQ _ _ _ _ nofun rfl (by simp [tupOf, envOf, AV.strip, AV.strip1, singleM, hb, k0, k1, k2, k3, k4, k5, k8])
end Go.Proofs.YtpjafglhdlfnbaaGreatDoor
namespace Go.Proofs.YtpjafglhdlfnbaaGreatDoor
open Go.Ab
mutual
def allV (may : List UInt8 → Bool) : Val → Bool
  | .mk k n s l m => if k = 6 then allVs may l && bareM n s [] m else if k = 7 then allMs may m && bareM n s l [] else singleM k n s l m
def allVs (may : List UInt8 → Bool) : List Val → Bool
  | [] => true
  | v :: r => allV may v && allVs may r
def allM (may : List UInt8 → Bool) : Mem → Bool
  | .mk s v => may s && allV may v
def allMs (may : List UInt8 → Bool) : List Mem → Bool
  | [] => true
  | x :: r => allM may x && allMs may r
end
theorem allC (f : FuncId) (hf : Program.callable Tryz.prog f = true) (may : List UInt8 → Bool) (hmay : ∀ s : List UInt8, s.length ≤ Lim → Pure Tryz.prog f [.str s] (.bool (may s))) :
    ∀ v, bV v ≤ Lim → Pure Tryz.prog 82 [.agg (cV v), .clo f [] []] (.bool (allV may v)) := by
  refine Val.ind fun k n s l m ihl ihm hb => ?_
  have hb' : 1 + s.length + bVs l + bMs m ≤ Lim := hb
  have hll := bVs_len l
  have hml := bMs_len m
  have h1 := cVs_len l
  have h2 := cMs_len m
  simp only [Lim] at hb'
  refine Pure.go ir82 ck82 (Nat.le_refl _) fun KP Q hQ => ?_
  simp (disch := first | omega | assumption) only [ir82, cV_mk, go_sem, ↓reduceIte]
  refine goA_intro fun b hb => ?_
  by_cases k6 : k = 6
  · subst k6
    simp (disch := first | omega | assumption) only [h1, go_sem, ↓reduceIte]
    refine goL_range l 22 (fun _ : Unit => [(6, .bool true)]) (fun done rest _ H => allVs may rest = allVs may l ∧ H b = some (.cells [.int .i64 6, .int .i64 n, .str s, .sl .nil 5 [], .sl .no 6 (cMs m)])) () (by simp (disch := first | omega | assumption) only [go_sem, ↓reduceIte]) ⟨rfl, by simp [Heap.upd]⟩ ?_ ?_
    · rintro _ H J ⟨hn, hH⟩ hlt
      simp only [allVs] at hn
      simp (disch := first | omega | assumption) only [h1, hlt, hH, go_sem, ↓reduceIte]
      refine goK_pure (Pure.low (bareC 6 n s [] m)) ?_
      simp (disch := first | omega | assumption) only [go_sem, ↓reduceIte]
      exact hQ _ _ _ _ nofun rfl (by simp [tupOf, envOf, AV.strip, AV.strip1, allV, ← hn])
    · rintro done x rest _ H J hd hlt _ ⟨hn, hH⟩ hJ
      have hg := cVs_get hd
      have hbm := bVs_mid done x rest
      rw [← hd] at hbm
      simp only [allVs] at hn
      simp (disch := first | omega | assumption) only [cV_len, cV_take, cV_splice, cM_len, cM_take, cM_splice, cM_mk, h1, hlt, hg, go_sem, ↓reduceIte]
      refine goA_intro fun b2 hb2 => ?_
      have hne := ne_of_none hb2 hH
      simp (disch := first | omega | assumption) only [cV_len, cV_take, cV_splice, cM_len, cM_take, cM_splice, cM_mk, go_sem, ↓reduceIte]
      refine goK_pure (ihl x (by rw [hd]; simp) (by simp only [Lim]; omega)) ?_
      cases hx : allV may x with
      | true =>
        simp only [hx, Bool.true_and] at hn
        simp (disch := first | omega | assumption) only [hx, go_sem, ↓reduceIte]
        exact goJ (hJ () _ ⟨hn, by simp [Heap.upd, Ne.symm hne, hH]⟩) (by simp (disch := first | omega | assumption) only [wrap64, go_sem, ↓reduceIte])
      | false =>
        simp only [hx, Bool.false_and] at hn
        simp (disch := first | omega | assumption) only [hx, go_sem, ↓reduceIte]
        exact hQ _ _ _ _ nofun rfl (by simp [tupOf, envOf, AV.strip, AV.strip1, allV, ← hn])
  by_cases k7 : k = 7
  · subst k7
    simp (disch := first | omega | assumption) only [h2, go_sem, ↓reduceIte]
    refine goL_range m 38 (fun _ : Unit => [(6, .bool true)]) (fun done rest _ H => allMs may rest = allMs may m ∧ H b = some (.cells [.int .i64 7, .int .i64 n, .str s, .sl .no 5 (cVs l), .sl .nil 6 []])) () (by simp (disch := first | omega | assumption) only [go_sem, ↓reduceIte]) ⟨rfl, by simp [Heap.upd]⟩ ?_ ?_
    · rintro _ H J ⟨hn, hH⟩ hlt
      simp only [allMs] at hn
      simp (disch := first | omega | assumption) only [h2, hlt, hH, go_sem, ↓reduceIte]
      refine goK_pure (Pure.low (bareC 7 n s l [])) ?_
      simp (disch := first | omega | assumption) only [go_sem, ↓reduceIte]
      exact hQ _ _ _ _ nofun rfl (by simp [tupOf, envOf, AV.strip, AV.strip1, allV, ← hn])
    · rintro done x rest _ H J hd hlt _ ⟨hn, hH⟩ hJ
      have hg := cMs_get hd
      have hbm := bMs_mid done x rest
      rw [← hd] at hbm
      have hmem : x ∈ m := by rw [hd]; simp
      obtain ⟨t, v⟩ := x
      simp only [allMs, allM, bM] at hn hbm
      simp (disch := first | omega | assumption) only [cV_len, cV_take, cV_splice, cM_len, cM_take, cM_splice, cM_mk, h2, hlt, hg, go_sem, ↓reduceIte]
      refine goA_intro fun b2 hb2 => ?_
      have hne := ne_of_none hb2 hH
      simp (disch := first | omega | assumption) only [cV_len, cV_take, cV_splice, cM_len, cM_take, cM_splice, cM_mk, go_sem, ↓reduceIte]
      refine ⟨hf, goK_pure (hmay t (by simp only [Lim]; omega)) ?_⟩
      cases ht : may t with
      | true =>
        simp (disch := first | omega | assumption) only [cV_len, cV_take, cV_splice, cM_len, cM_take, cM_splice, cM_mk, ht, go_sem, ↓reduceIte]
        refine goK_pure (ihm t v hmem (by simp only [Lim]; omega)) ?_
        cases hx : allV may v with
        | true =>
          simp only [ht, hx, Bool.true_and] at hn
          simp (disch := first | omega | assumption) only [hx, go_sem, ↓reduceIte]
          exact goJ (hJ () _ ⟨hn, by simp [Heap.upd, Ne.symm hne, hH]⟩) (by simp (disch := first | omega | assumption) only [wrap64, go_sem, ↓reduceIte])
        | false =>
          simp only [ht, hx, Bool.true_and, Bool.false_and] at hn
          simp (disch := first | omega | assumption) only [hx, go_sem, ↓reduceIte]
          exact hQ _ _ _ _ nofun rfl (by simp [tupOf, envOf, AV.strip, AV.strip1, allV, ← hn])
      | false =>
        simp only [ht, Bool.false_and] at hn
        simp (disch := first | omega | assumption) only [cV_len, cV_take, cV_splice, cM_len, cM_take, cM_splice, cM_mk, ht, go_sem, ↓reduceIte]
        exact hQ _ _ _ _ nofun rfl (by simp [tupOf, envOf, AV.strip, AV.strip1, allV, ← hn])
  · simp (disch := first | omega | assumption) only [k6, k7, go_sem, ↓reduceIte]
    refine goK_pure (singleC k n s l m (by simp only [Lim]; omega)) ?_
    simp (disch := first | omega | assumption) only [go_sem, ↓reduceIte]
    exact hQ _ _ _ _ nofun rfl (by simp [tupOf, envOf, AV.strip, AV.strip1, allV, k6, k7])
def goodV (v : Val) : Bool := allV Lib.validD v
theorem goodVC (v : Val) (hb : bV v ≤ Lim) : Pure Tryz.prog 43 [.agg (cV v)] (.bool (goodV v)) := by
  refine Pure.go ir43 ck43 (Nat.le_refl _) fun KP Q hQ => ?_
  simp (disch := first | omega | assumption) only [cV_len, cV_take, cV_splice, cM_len, cM_take, cM_splice, cM_mk, ir43, go_sem, ↓reduceIte]
  refine goK_pure (allC _ (by kernel_rfl) Lib.validD goodC v hb) ?_
  simp (disch := first | omega | assumption) only [go_sem, ↓reduceIte]
  exact hQ _ _ _ _ nofun rfl (by simp [tupOf, envOf, AV.strip, AV.strip1, goodV])
def boolT (b : Bool) : List UInt8 := if b then [116, 114, 117, 101] else [102, 97, 108, 115, 101]
def inR (n : Int) : Prop := -9223372036854775808 ≤ n ∧ n ≤ 9223372036854775807
mutual
def wfV : Val → Prop
  | .mk _ n _ l m => inR n ∧ wfVs l ∧ wfMs m
def wfVs : List Val → Prop
  | [] => True
  | v :: r => wfV v ∧ wfVs r
def wfM : Mem → Prop
  | .mk _ v => wfV v
def wfMs : List Mem → Prop
  | [] => True
  | x :: r => wfM x ∧ wfMs r
end
theorem wfVs_mem : ∀ {l : List Val}, wfVs l → ∀ v ∈ l, wfV v
  | _ :: _, h, v, hv => (List.mem_cons.1 hv).elim (fun e => e ▸ h.1) (wfVs_mem h.2 v)
theorem wfMs_mem : ∀ {l : List Mem}, wfMs l → ∀ s v, Mem.mk s v ∈ l → wfV v
  | _ :: _, h, s, v, hv => (List.mem_cons.1 hv).elim (fun e => by have := h.1; rw [← e] at this; exact this) (wfMs_mem h.2 s v)
end Go.Proofs.YtpjafglhdlfnbaaGreatDoor
namespace Go.Proofs.YtpjafglhdlfnbaaGreatDoor
open Go.Ab
def hexL : List UInt8 := [48, 49, 50, 51, 52, 53, 54, 55, 56, 57, 97, 98, 99, 100, 101, 102]
def hexD (c : UInt8) : Option Nat := if Lib.indexByte hexL (c ||| 32) < 0 ∨ c.toNat < 48 ∨ (57 < c.toNat ∧ c.toNat < 65) then none else some (Lib.indexByte hexL (c ||| 32)).toNat
def unitG : Nat → List UInt8 → Nat → Option Nat
  | 0, _, u => some u
  | _ + 1, [], _ => none
  | n + 1, c :: t, u => match hexD c with
    | none => none
    | some k => unitG n t (16 * u + k)
def unitM (s : List UInt8) : Option Nat := unitG 4 s 0
def encM (n : Nat) : List UInt8 :=
  if n ≤ 127 then [UInt8.ofNat n]
  else if n ≤ 2047 then [UInt8.ofNat (192 + n / 64), UInt8.ofNat (128 + n % 64)]
  else if n ≤ 65535 then [UInt8.ofNat (224 + n / 4096), UInt8.ofNat (128 + n / 64 % 64), UInt8.ofNat (128 + n % 64)]
  else [UInt8.ofNat (240 + n / 262144), UInt8.ofNat (128 + n / 4096 % 64), UInt8.ofNat (128 + n / 64 % 64), UInt8.ofNat (128 + n % 64)]
def joinM : List Nat → Option (List UInt8)
  | [] => some []
  | u :: r => if 65535 < u ∨ (56320 ≤ u ∧ u ≤ 57343) then none
    else if 55296 ≤ u ∧ u < 56320 then match r with
      | [] => none
      | v :: r => if v < 56320 ∨ 57343 < v then none else (joinM r).map (encM (65536 + 1024 * (u - 55296) + (v - 56320)) ++ ·)
    else (joinM r).map (encM u ++ ·)
structure Sd where
  b : List UInt8
  u : List Nat
  ok : Bool
def flushM (q : Sd) : Sd := ⟨q.b ++ (joinM q.u).getD [], [], q.ok && (joinM q.u).isSome⟩
def Sd.put (q : Sd) (c : UInt8) : Sd := ⟨(flushM q).b ++ [c], [], (flushM q).ok⟩
def escL : List UInt8 := [34, 92, 47, 98, 102, 110, 114, 116]
def escV : List UInt8 := [34, 92, 47, 8, 12, 10, 13, 9]
def escM (q : Sd) : List UInt8 → Option (Sd × List UInt8)
  | [] => none
  | c :: t => if c = 117 then (unitM t).map fun u => (⟨q.b, q.u ++ [u], q.ok⟩, t.drop 4)
    else if Lib.indexByte escL c < 0 then none else some (q.put (escV.getD (Lib.indexByte escL c).toNat 0), t)
def quoG (may : UInt8 → Bool) : Nat → List UInt8 → Sd → Option (Sd × List UInt8)
  | 0, _, _ => none
  | _ + 1, [], _ => none
  | n + 1, c :: t, q => if c = 34 then some (flushM q, t)
    else if c = 92 then match escM q t with
      | none => none
      | some (q', t') => quoG may n t' q'
    else if may c then quoG may n t (q.put c) else none
def quoM (may : UInt8 → Bool) (t : List UInt8) : Option (List UInt8 × List UInt8) := match quoG may (t.length + 1) t ⟨[], [], true⟩ with
  | some (q, t') => if q.ok then some (q.b, t') else none
  | none => none
def hiB (c : UInt8) : Bool := decide (32 ≤ c.toNat)
def bk (c : UInt8) : Bool := decide (0 ≤ Lib.indexByte [9, 10, 13, 32] c)
def skB : List UInt8 → List UInt8
  | [] => []
  | c :: t => if bk c then skB t else c :: t
def nch (c : UInt8) : Bool := decide (0 ≤ Lib.indexByte [48, 49, 50, 51, 52, 53, 54, 55, 56, 57, 43, 45, 46, 101, 69] c)
def nst (c : UInt8) : Bool := decide (0 ≤ Lib.indexByte [45, 48, 49, 50, 51, 52, 53, 54, 55, 56, 57] c)
abbrev RR (α : Type) := Except Int (α × List UInt8)
def RR.bind {α β : Type} (x : RR α) (f : α → List UInt8 → RR β) : RR β := match x with
  | .ok (a, t) => f a t
  | .error e => .error e
def mayM (p t : List UInt8) : Option (List UInt8) := if p.isPrefixOf (skB t) then some ((skB t).drop p.length) else none
def mustM (p t : List UInt8) : RR Unit := match mayM p t with
  | some t' => .ok ((), t')
  | none => .error 2
def textM (t : List UInt8) : RR (List UInt8) := if [34].isPrefixOf (skB t) then match quoM hiB (skB t).tail with
    | some x => .ok x
    | none => .error 2
  else .error 2
def nullV : Val := .mk 0 0 [] [] []
def numV (s : List UInt8) : Val := if wholeB s then .mk 2 (valI s) [] [] [] else .mk 3 0 s [] []
def numM (t : List UInt8) : RR Val := if numK (t.takeWhile nch) = 0 then .error 2 else .ok (numV (t.takeWhile nch), t.dropWhile nch)
def itemsM (p : List UInt8 → RR Val) : Nat → List Val → List UInt8 → RR (List Val)
  | 0, _, _ => .error 2
  | n + 1, l, t => match mayM [93] t with
    | some t' => .ok (l, t')
    | none => (mustM [44] t).bind fun _ t => (p t).bind fun v t => itemsM p n (l ++ [v]) t
def listM (p : List UInt8 → RR Val) (t : List UInt8) : RR Val := match mayM [93] t with
  | some t' => .ok (.mk 6 0 [] [] [], t')
  | none => (p t).bind fun v t => (itemsM p (t.length + 1) [v] t).bind fun l t => .ok (.mk 6 0 [] l [], t)
def hasN (s : List UInt8) : List Mem → Bool
  | [] => false
  | .mk t _ :: r => decide (t = s) || hasN s r
def memberM (p : List UInt8 → RR Val) (l : List Mem) (t : List UInt8) : RR (List Mem) :=
  (textM t).bind fun s t => if hasN s l then .error 5 else (mustM [58] t).bind fun _ t => (p t).bind fun v t => .ok (l ++ [.mk s v], t)
def membersM (p : List UInt8 → RR Val) : Nat → List Mem → List UInt8 → RR (List Mem)
  | 0, _, _ => .error 2
  | n + 1, l, t => match mayM [125] t with
    | some t' => .ok (l, t')
    | none => (mustM [44] t).bind fun _ t => (memberM p l t).bind fun l t => membersM p n l t
def mapM (p : List UInt8 → RR Val) (t : List UInt8) : RR Val := match mayM [125] t with
  | some t' => .ok (.mk 7 0 [] [] [], t')
  | none => (memberM p [] t).bind fun l t => (membersM p (t.length + 1) l t).bind fun l t => .ok (.mk 7 0 [] [] l, t)
def wordM (t : List UInt8) : RR Val := match mayM [110, 117, 108, 108] t with
  | some t' => .ok (nullV, t')
  | none => match mayM [116, 114, 117, 101] t with
    | some t' => .ok (.mk 1 1 [] [] [], t')
    | none => (mustM [102, 97, 108, 115, 101] t).bind fun _ t => .ok (.mk 1 0 [] [] [], t)
def headM (t : List UInt8) (p : List UInt8 → RR Val) : RR Val := match t with
  | [] => wordM []
  | c :: r => if c = 123 then mapM p r else if c = 91 then listM p r
    else if c = 34 then (textM (c :: r)).bind fun s t => .ok (.mk 4 0 s [] [], t)
    else if nst c then numM (c :: r) else wordM (c :: r)
def deepM (_ : List UInt8) : RR Val := .error 4
def valM : Nat → List UInt8 → RR Val
  | 0, t => if (skB t).head? = some 123 ∨ (skB t).head? = some 91 then .error 4 else headM (skB t) deepM
  | n + 1, t => headM (skB t) (valM n)
def readM (s : List UInt8) : Val × Int := if 8192 < s.length then (nullV, 3) else if !Lib.validD s then (nullV, 2) else match valM 16 s with
  | .error e => (nullV, e)
  | .ok (v, t) => if skB t = [] then (v, 0) else (nullV, 2)
theorem skB_suf : ∀ t, skB t <:+ t
  | [] => List.suffix_refl _
  | c :: t => by
    rw [skB]; split
    · exact (skB_suf t).trans (List.suffix_cons ..)
    · exact List.suffix_refl _
theorem mayM_suf {p t t' : List UInt8} (h : mayM p t = some t') : t' <:+ t ∧ t'.length + p.length ≤ t.length := by
  unfold mayM at h
  split at h
  · rename_i hp
    cases h
    have h1 := skB_suf t
    have h2 := (List.isPrefixOf_iff_prefix.1 hp).length_le
    have h3 := h1.length_le
    exact ⟨(List.drop_suffix _ _).trans h1, by simp; omega⟩
  · cases h
theorem RR.bind_ok {α β : Type} {x : RR α} {f : α → List UInt8 → RR β} {r : β × List UInt8} (h : x.bind f = .ok r) : ∃ a t, x = .ok (a, t) ∧ f a t = .ok r := by
  cases x with
  | error e => cases h
  | ok y => exact ⟨y.1, y.2, rfl, h⟩
theorem mustM_suf {p t t' : List UInt8} {u : Unit} (h : mustM p t = .ok (u, t')) : t' <:+ t ∧ t'.length + p.length ≤ t.length := by
  unfold mustM at h
  split at h
  · rename_i hm; cases h; exact mayM_suf hm
  · cases h
theorem escM_suf {q q' : Sd} {t t' : List UInt8} (h : escM q t = some (q', t')) : t' <:+ t ∧ t'.length < t.length := by
  cases t with
  | nil => cases h
  | cons c t =>
    simp only [escM] at h
    split at h
    · cases hu : unitM t with
      | none => simp [hu] at h
      | some u =>
        simp only [hu, Option.map_some, Option.some.injEq, Prod.mk.injEq] at h
        obtain ⟨_, rfl⟩ := h
        exact ⟨(List.drop_suffix _ _).trans (List.suffix_cons ..), by simp; omega⟩
    · split at h
      · cases h
      · simp only [Option.some.injEq, Prod.mk.injEq] at h
        obtain ⟨_, rfl⟩ := h
        exact ⟨List.suffix_cons .., by simp⟩
theorem quoG_suf {may : UInt8 → Bool} : ∀ (n : Nat) (t : List UInt8) (q q' : Sd) (t' : List UInt8), quoG may n t q = some (q', t') → t' <:+ t ∧ t'.length < t.length
  | 0, _, _, _, _, h => by cases h
  | _ + 1, [], _, _, _, h => by cases h
  | n + 1, c :: t, q, q', t', h => by
    simp only [quoG] at h
    split at h
    · simp only [Option.some.injEq, Prod.mk.injEq] at h
      obtain ⟨_, rfl⟩ := h
      exact ⟨List.suffix_cons .., by simp⟩
    · split at h
      · cases he : escM q t with
        | none => simp [he] at h
        | some x =>
          obtain ⟨q1, t1⟩ := x
          simp only [he] at h
          have h1 := escM_suf he
          have h2 := quoG_suf n t1 q1 q' t' h
          exact ⟨(h2.1.trans h1.1).trans (List.suffix_cons ..), by simp; omega⟩
      · split at h
        · have h2 := quoG_suf n t _ q' t' h
          exact ⟨h2.1.trans (List.suffix_cons ..), by simp; omega⟩
        · cases h
theorem quoM_suf {may : UInt8 → Bool} {t t' b : List UInt8} (h : quoM may t = some (b, t')) : t' <:+ t ∧ t'.length < t.length := by
  unfold quoM at h
  split at h
  · rename_i q t1 hq
    split at h
    · cases h; exact quoG_suf _ _ _ _ _ hq
    · cases h
  · cases h
theorem textM_suf {t t' b : List UInt8} (h : textM t = .ok (b, t')) : t' <:+ t ∧ t'.length + 2 ≤ t.length := by
  unfold textM at h
  split at h
  · rename_i hp
    split at h
    · rename_i x hx
      cases h
      have h1 := quoM_suf hx
      have h2 := skB_suf t
      have h3 := h2.length_le
      have h4 := (List.isPrefixOf_iff_prefix.1 hp).length_le
      simp only [List.length_tail, List.length_cons, List.length_nil] at h1 h4
      exact ⟨(h1.1.trans (List.tail_suffix _)).trans h2, by omega⟩
    · cases h
  · cases h
end Go.Proofs.YtpjafglhdlfnbaaGreatDoor
namespace Go.Proofs.YtpjafglhdlfnbaaGreatDoor
open Go.Ab
theorem unitG_len : ∀ (n : Nat) (t : List UInt8) (u v : Nat), unitG n t u = some v → n ≤ t.length
  | 0, _, _, _, _ => Nat.zero_le _
  | n + 1, [], _, _, h => by cases h
  | n + 1, c :: t, u, v, h => by
    simp only [unitG] at h
    split at h
    · cases h
    · have := unitG_len n t _ v h; simp; omega
theorem encM_len (n : Nat) : (encM n).length ≤ 4 ∧ (n ≤ 65535 → (encM n).length ≤ 3) := by
  unfold encM
  split
  · simp
  · split
    · simp
    · split
      · simp
      · refine ⟨by simp, fun h => by omega⟩
theorem joinM_len : ∀ (u : List Nat) (s : List UInt8), joinM u = some s → s.length ≤ 3 * u.length
  | [], s, h => by cases h; simp
  | u :: [], s, h => by
    simp only [joinM] at h
    split at h
    · cases h
    · rename_i h1
      split at h
      · cases h
      · simp only [Option.map_some, Option.some.injEq] at h
        subst h
        have := (encM_len u).2 (by omega)
        simp; omega
  | u :: v :: r, s, h => by
    rw [joinM] at h
    split at h
    · cases h
    · rename_i h1
      split at h
      · split at h
        · cases h
        · cases hr : joinM r with
          | none => simp [hr] at h
          | some x =>
            simp only [hr, Option.map_some, Option.some.injEq] at h
            subst h
            have h2 := joinM_len r x hr
            have h3 := (encM_len (65536 + 1024 * (u - 55296) + (v - 56320))).1
            simp only [List.length_append, List.length_cons]; omega
      · cases hr : joinM (v :: r) with
        | none => simp [hr] at h
        | some x =>
          simp only [hr, Option.map_some, Option.some.injEq] at h
          subst h
          have h2 := joinM_len (v :: r) x hr
          have h3 := (encM_len u).2 (by omega)
          simp only [List.length_append, List.length_cons] at h2 ⊢; omega
def Sd.w (q : Sd) : Nat := q.b.length + 3 * q.u.length
theorem flush_w (q : Sd) : (flushM q).b.length ≤ q.w := by
  unfold flushM Sd.w
  cases h : joinM q.u with
  | none => simp
  | some s => have := joinM_len _ _ h; simp; omega
theorem put_w (q : Sd) (c : UInt8) : (q.put c).w ≤ q.w + 1 := by
  have := flush_w q
  simp only [Sd.put, Sd.w, List.length_append, List.length_cons, List.length_nil] at this ⊢; omega
theorem escM_w {q q' : Sd} {t t' : List UInt8} (h : escM q t = some (q', t')) : q'.w + t'.length ≤ q.w + t.length := by
  cases t with
  | nil => cases h
  | cons c t =>
    simp only [escM] at h
    split at h
    · cases hu : unitM t with
      | none => simp [hu] at h
      | some u =>
        simp only [hu, Option.map_some, Option.some.injEq, Prod.mk.injEq] at h
        obtain ⟨rfl, rfl⟩ := h
        have := unitG_len _ _ _ _ hu
        simp only [Sd.w, List.length_append, List.length_cons, List.length_nil, List.length_drop]; omega
    · split at h
      · cases h
      · simp only [Option.some.injEq, Prod.mk.injEq] at h
        obtain ⟨rfl, rfl⟩ := h
        have := put_w q (escV.getD (Lib.indexByte escL c).toNat 0)
        simp only [List.length_cons]; omega
theorem quoG_w {may : UInt8 → Bool} : ∀ (n : Nat) (t : List UInt8) (q q' : Sd) (t' : List UInt8), quoG may n t q = some (q', t') → q'.b.length + t'.length + 1 ≤ q.w + t.length
  | 0, _, _, _, _, h => by cases h
  | _ + 1, [], _, _, _, h => by cases h
  | n + 1, c :: t, q, q', t', h => by
    simp only [quoG] at h
    split at h
    · simp only [Option.some.injEq, Prod.mk.injEq] at h
      obtain ⟨rfl, rfl⟩ := h
      have := flush_w q
      simp only [List.length_cons]; omega
    · split at h
      · cases he : escM q t with
        | none => simp [he] at h
        | some x =>
          obtain ⟨q1, t1⟩ := x
          simp only [he] at h
          have h1 := escM_w he
          have h2 := quoG_w n t1 q1 q' t' h
          simp only [List.length_cons]; omega
      · split at h
        · have h2 := quoG_w n t _ q' t' h
          have h3 := put_w q c
          simp only [List.length_cons]; omega
        · cases h
theorem quoM_w {may : UInt8 → Bool} {t t' b : List UInt8} (h : quoM may t = some (b, t')) : b.length + t'.length + 1 ≤ t.length := by
  unfold quoM at h
  split at h
  · rename_i q t1 hq
    split at h
    · cases h; have := quoG_w _ _ _ _ _ hq; simpa [Sd.w] using this
    · cases h
  · cases h
theorem textM_w {t t' b : List UInt8} (h : textM t = .ok (b, t')) : b.length + t'.length + 2 ≤ t.length := by
  unfold textM at h
  split at h
  · rename_i hp
    split at h
    · rename_i x hx
      cases h
      have h1 := quoM_w hx
      have h3 := (skB_suf t).length_le
      have h4 := (List.isPrefixOf_iff_prefix.1 hp).length_le
      simp only [List.length_tail, List.length_cons, List.length_nil] at h1 h4
      omega
    · cases h
  · cases h
structure Fit (t t' : List UInt8) (b : Nat) : Prop where
  suf : t' <:+ t
  lt : t'.length < t.length
  sz : b + 2 * t'.length ≤ 2 * t.length
def Rp (p : List UInt8 → RR Val) : Prop := ∀ t v t', p t = .ok (v, t') → Fit t t' (bV v) ∧ wfV v
theorem bVs_snoc (l : List Val) (v : Val) : bVs (l ++ [v]) = bVs l + bV v := by simpa [bVs] using bVs_mid l v []
theorem bMs_snoc (l : List Mem) (v : Mem) : bMs (l ++ [v]) = bMs l + bM v := by simpa [bMs] using bMs_mid l v []
theorem wfVs_snoc : ∀ (l : List Val) (v : Val), wfVs l → wfV v → wfVs (l ++ [v])
  | [], _, _, h => ⟨h, trivial⟩
  | _ :: l, v, h, h' => ⟨h.1, wfVs_snoc l v h.2 h'⟩
theorem wfMs_snoc : ∀ (l : List Mem) (v : Mem), wfMs l → wfM v → wfMs (l ++ [v])
  | [], _, _, h => ⟨h, trivial⟩
  | _ :: l, v, h, h' => ⟨h.1, wfMs_snoc l v h.2 h'⟩
theorem itemsM_fit {p : List UInt8 → RR Val} (hp : Rp p) : ∀ (n : Nat) (l : List Val) (t : List UInt8) (l' : List Val) (t' : List UInt8), itemsM p n l t = .ok (l', t') →
    t' <:+ t ∧ t'.length < t.length ∧ bVs l' + 2 * t'.length ≤ bVs l + 2 * t.length ∧ (wfVs l → wfVs l')
  | 0, _, _, _, _, h => by cases h
  | n + 1, l, t, l', t', h => by
    simp only [itemsM] at h
    split at h
    · rename_i t1 hm
      cases h
      have h1 := mayM_suf hm
      simp only [List.length_cons, List.length_nil] at h1
      exact ⟨h1.1, by omega, by omega, id⟩
    · obtain ⟨_, t1, h1, h⟩ := RR.bind_ok h
      obtain ⟨v, t2, h2, h⟩ := RR.bind_ok h
      have h3 := itemsM_fit hp n _ t2 l' t' h
      have h1 := mustM_suf h1
      obtain ⟨h2, hw⟩ := hp _ _ _ h2
      obtain ⟨s2, b2, z2⟩ := h2
      rw [bVs_snoc] at h3
      simp only [List.length_cons, List.length_nil] at h1
      exact ⟨(h3.1.trans s2).trans h1.1, by omega, by omega, fun h => h3.2.2.2 (wfVs_snoc _ _ h hw)⟩
theorem memberM_fit {p : List UInt8 → RR Val} (hp : Rp p) {l l' : List Mem} {t t' : List UInt8} (h : memberM p l t = .ok (l', t')) :
    t' <:+ t ∧ t'.length < t.length ∧ bMs l' + 2 * t'.length ≤ bMs l + 2 * t.length ∧ (wfMs l → wfMs l') := by
  unfold memberM at h
  obtain ⟨s, t1, h1, h⟩ := RR.bind_ok h
  split at h
  · cases h
  · obtain ⟨_, t2, h2, h⟩ := RR.bind_ok h
    obtain ⟨v, t3, h3, h⟩ := RR.bind_ok h
    cases h
    have hs := textM_suf h1
    have hw := textM_w h1
    have h2 := mustM_suf h2
    obtain ⟨⟨s3, b3, z3⟩, w3⟩ := hp _ _ _ h3
    rw [bMs_snoc]
    simp only [bM, List.length_cons, List.length_nil] at h2 ⊢
    exact ⟨(s3.trans h2.1).trans hs.1, by omega, by omega, fun h => wfMs_snoc _ _ h w3⟩
theorem membersM_fit {p : List UInt8 → RR Val} (hp : Rp p) : ∀ (n : Nat) (l : List Mem) (t : List UInt8) (l' : List Mem) (t' : List UInt8), membersM p n l t = .ok (l', t') →
    t' <:+ t ∧ t'.length < t.length ∧ bMs l' + 2 * t'.length ≤ bMs l + 2 * t.length ∧ (wfMs l → wfMs l')
  | 0, _, _, _, _, h => by cases h
  | n + 1, l, t, l', t', h => by
    simp only [membersM] at h
    split at h
    · rename_i t1 hm
      cases h
      have h1 := mayM_suf hm
      simp only [List.length_cons, List.length_nil] at h1
      exact ⟨h1.1, by omega, by omega, id⟩
    · obtain ⟨_, t1, h1, h⟩ := RR.bind_ok h
      obtain ⟨l2, t2, h2, h⟩ := RR.bind_ok h
      have h3 := membersM_fit hp n _ t2 l' t' h
      have h1 := mustM_suf h1
      have h2 := memberM_fit hp h2
      simp only [List.length_cons, List.length_nil] at h1
      exact ⟨(h3.1.trans h2.1).trans h1.1, by omega, by omega, fun h => h3.2.2.2 (h2.2.2.2 h)⟩
theorem inR0 : inR 0 := by simp [inR]
theorem listM_fit {p : List UInt8 → RR Val} (hp : Rp p) : ∀ t v t', listM p t = .ok (v, t') → t' <:+ t ∧ bV v + 2 * t'.length ≤ 2 * t.length + 1 ∧ wfV v := fun t v t' h => by
  unfold listM at h
  split at h
  · rename_i t1 hm
    cases h
    have h1 := mayM_suf hm
    simp only [List.length_cons, List.length_nil] at h1
    exact ⟨h1.1, by simp only [bV, bVs, bMs, List.length_nil]; omega, inR0, trivial, trivial⟩
  · obtain ⟨v1, t1, h1, h⟩ := RR.bind_ok h
    obtain ⟨l, t2, h2, h⟩ := RR.bind_ok h
    cases h
    obtain ⟨⟨s1, b1, z1⟩, w1⟩ := hp _ _ _ h1
    obtain ⟨s2, b2, z2, w2⟩ := itemsM_fit hp _ _ _ _ _ h2
    simp only [bVs] at z2
    exact ⟨s2.trans s1, by simp only [bV, bMs, List.length_nil]; omega, inR0, w2 ⟨w1, trivial⟩, trivial⟩
theorem mapM_fit {p : List UInt8 → RR Val} (hp : Rp p) : ∀ t v t', mapM p t = .ok (v, t') → t' <:+ t ∧ bV v + 2 * t'.length ≤ 2 * t.length + 1 ∧ wfV v := fun t v t' h => by
  unfold mapM at h
  split at h
  · rename_i t1 hm
    cases h
    have h1 := mayM_suf hm
    simp only [List.length_cons, List.length_nil] at h1
    exact ⟨h1.1, by simp only [bV, bVs, bMs, List.length_nil]; omega, inR0, trivial, trivial⟩
  · obtain ⟨l1, t1, h1, h⟩ := RR.bind_ok h
    obtain ⟨l, t2, h2, h⟩ := RR.bind_ok h
    cases h
    obtain ⟨s1, b1, z1, w1⟩ := memberM_fit hp h1
    obtain ⟨s2, b2, z2, w2⟩ := membersM_fit hp _ _ _ _ _ h2
    simp only [bMs] at z1
    exact ⟨s2.trans s1, by simp only [bV, bVs, List.length_nil]; omega, inR0, trivial, w2 (w1 trivial)⟩
theorem numK_nil : numK [] = 0 := by decide
theorem parse_inR {s : List UInt8} {n : Int} (h : Lib.parseIntB 64 s = .ok n) : inR n := by
  cases s with
  | nil => cases h
  | cons c r =>
    simp only [Lib.parseIntB] at h
    split at h
    · cases h
    · cases h
    · split at h
      · cases h
      · split at h
        · cases h
        · rename_i h1 h2
          cases h
          simp only [inR]
          split <;> simp_all <;> omega
theorem numV_fit (s : List UInt8) : bV (numV s) ≤ 1 + s.length ∧ wfV (numV s) := by
  unfold numV
  split
  · rename_i h
    refine ⟨by simp only [bV, bVs, bMs, List.length_nil]; omega, ?_, trivial, trivial⟩
    unfold wholeB at h
    unfold valI
    rcases hp : Lib.parseIntB 64 s with v | _ | _
    · exact parse_inR hp
    · exact inR0
    · rw [hp] at h; simp [okI] at h
  · exact ⟨by simp only [bV, bVs, bMs]; omega, inR0, trivial, trivial⟩
theorem wordM_fit {t t' : List UInt8} {v : Val} (h : wordM t = .ok (v, t')) : t' <:+ t ∧ t'.length + 4 ≤ t.length ∧ bV v = 1 ∧ wfV v := by
  unfold wordM at h
  split at h
  · rename_i t1 hm
    cases h
    have h1 := mayM_suf hm
    simp only [List.length_cons, List.length_nil] at h1
    exact ⟨h1.1, by omega, rfl, inR0, trivial, trivial⟩
  · split at h
    · rename_i t1 hm
      cases h
      have h1 := mayM_suf hm
      simp only [List.length_cons, List.length_nil] at h1
      exact ⟨h1.1, by omega, rfl, by simp [inR], trivial, trivial⟩
    · obtain ⟨_, t1, h1, h⟩ := RR.bind_ok h
      cases h
      have h1 := mustM_suf h1
      simp only [List.length_cons, List.length_nil] at h1
      exact ⟨h1.1, by omega, rfl, inR0, trivial, trivial⟩
theorem headM_fit {p : List UInt8 → RR Val} (hp : Rp p) : Rp (fun t => headM t p) := fun t v t' h => by
  cases t with
  | nil => have := wordM_fit (t := []) h; simp at this
  | cons c r =>
    simp only [headM] at h
    split at h
    · obtain ⟨s1, z1, w1⟩ := mapM_fit hp _ _ _ h
      have := s1.length_le
      exact ⟨⟨s1.trans (List.suffix_cons ..), by simp; omega, by simp; omega⟩, w1⟩
    · split at h
      · obtain ⟨s1, z1, w1⟩ := listM_fit hp _ _ _ h
        have := s1.length_le
        exact ⟨⟨s1.trans (List.suffix_cons ..), by simp; omega, by simp; omega⟩, w1⟩
      · split at h
        · obtain ⟨s, t1, h1, h⟩ := RR.bind_ok h
          cases h
          have h2 := textM_suf h1
          have h3 := textM_w h1
          exact ⟨⟨h2.1, by omega, by simp only [bV, bVs, bMs]; omega⟩, inR0, trivial, trivial⟩
        · split at h
          · unfold numM at h
            split at h
            · cases h
            · rename_i hk
              cases h
              have h1 := numV_fit ((c :: r).takeWhile nch)
              have h2 : ((c :: r).takeWhile nch).length + ((c :: r).dropWhile nch).length = (c :: r).length := by
                rw [← List.length_append, List.takeWhile_append_dropWhile]
              have h3 : 0 < ((c :: r).takeWhile nch).length := by
                cases hx : (c :: r).takeWhile nch with
                | nil => rw [hx] at hk; exact absurd numK_nil hk
                | cons _ _ => simp
              exact ⟨⟨List.dropWhile_suffix _, by omega, by omega⟩, h1.2⟩
          · have := wordM_fit h
            exact ⟨⟨this.1, by omega, by omega⟩, this.2.2.2⟩
theorem deepM_fit : Rp deepM := fun _ _ _ h => by cases h
theorem valM_fit : ∀ n, Rp (valM n)
  | 0 => fun t v t' h => by
    simp only [valM] at h
    split at h
    · cases h
    · obtain ⟨⟨a, b, c⟩, d⟩ := headM_fit deepM_fit _ _ _ h
      have h1 := skB_suf t
      have h2 := h1.length_le
      exact ⟨⟨a.trans h1, by omega, by omega⟩, d⟩
  | n + 1 => fun t v t' h => by
    simp only [valM] at h
    obtain ⟨⟨a, b, c⟩, d⟩ := headM_fit (valM_fit n) _ _ _ h
    have h1 := skB_suf t
    have h2 := h1.length_le
    exact ⟨⟨a.trans h1, by omega, by omega⟩, d⟩
end Go.Proofs.YtpjafglhdlfnbaaGreatDoor
namespace Go.Proofs.YtpjafglhdlfnbaaGreatDoor
open Go.Ab
theorem bytesOf_len (l : List UInt8) : (bytesOf l).length = l.length := by simp [bytesOf]
theorem bytesOf_app (a b : List UInt8) : bytesOf a ++ bytesOf b = bytesOf (a ++ b) := by simp [bytesOf]
theorem bytesOf_strip (l : List UInt8) : (bytesOf l).map (·.map AV.strip1) = bytesOf l := by simp [bytesOf, AV.strip1]
theorem byts_of (l : List UInt8) : byts (bytesOf l) = some l := by
  induction l with
  | nil => rfl
  | cons c r ih =>
    have h := c.toNat_lt
    simp only [bytesOf, List.map_cons] at ih ⊢
    simp only [byts, ih, Option.map_some]
    rw [if_pos ⟨by omega, by omega⟩]
    simp
theorem bytesOf_one (acc : List UInt8) (c : UInt8) : bytesOf acc ++ [[.int .u8 c.toNat]] = bytesOf (acc ++ [c]) := bytesOf_app acc [c]
theorem bytesOf_two (acc : List UInt8) (c d : UInt8) : bytesOf acc ++ [[.int .u8 c.toNat], [.int .u8 d.toNat]] = bytesOf (acc ++ [c, d]) := bytesOf_app acc [c, d]
theorem wr32 {n : Nat} (h : n < 4294967296) : IntKind.wrap .u32 (n : Int) = n := by
  have e : IntKind.wrap .u32 (n : Int) = (n : Int) % 4294967296 := rfl
  rw [e]; omega
theorem wri32 {n : Nat} (h : n < 2147483648) : IntKind.wrap .i32 (n : Int) = n := by
  have e : IntKind.wrap .i32 (n : Int) = if (n : Int) % 4294967296 ≥ 2147483648 then (n : Int) % 4294967296 - 4294967296 else (n : Int) % 4294967296 := by
    simp [IntKind.wrap, IntKind.bits, IntKind.signed]
  rw [e]; split <;> omega
theorem wr8 (n : Nat) : IntKind.wrap .u8 (n : Int) = ((n % 256 : Nat) : Int) := by
  have e : IntKind.wrap .u8 (n : Int) = (n : Int) % 256 := rfl
  rw [e]; omega
theorem fd6 (n : Nat) : (n : Int).fdiv (2 ^ min 6 IntKind.i32.bits) = ((n / 64 : Nat) : Int) := by
  show (n : Int).fdiv 64 = _
  rw [Int.fdiv_eq_ediv_of_nonneg _ (by decide)]; omega
theorem fd12 (n : Nat) : (n : Int).fdiv (2 ^ min 12 IntKind.i32.bits) = ((n / 4096 : Nat) : Int) := by
  show (n : Int).fdiv 4096 = _
  rw [Int.fdiv_eq_ediv_of_nonneg _ (by decide)]; omega
theorem fd18 (n : Nat) : (n : Int).fdiv (2 ^ min 18 IntKind.i32.bits) = ((n / 262144 : Nat) : Int) := by
  show (n : Int).fdiv 262144 = _
  rw [Int.fdiv_eq_ediv_of_nonneg _ (by decide)]; omega
theorem leadT : ∀ x : Fin 32, IntKind.wrap .u8 ((BitVec.ofInt IntKind.u8.bits 192 ||| BitVec.ofInt IntKind.u8.bits ((x.val : Nat) : Int)).toNat : Int) = ((UInt8.ofNat (192 + x.val)).toNat : Int) := by decide +kernel
theorem leadU : ∀ x : Fin 16, IntKind.wrap .u8 ((BitVec.ofInt IntKind.u8.bits 224 ||| BitVec.ofInt IntKind.u8.bits ((x.val : Nat) : Int)).toNat : Int) = ((UInt8.ofNat (224 + x.val)).toNat : Int) := by decide +kernel
theorem leadV : ∀ x : Fin 8, IntKind.wrap .u8 ((BitVec.ofInt IntKind.u8.bits 240 ||| BitVec.ofInt IntKind.u8.bits ((x.val : Nat) : Int)).toNat : Int) = ((UInt8.ofNat (240 + x.val)).toNat : Int) := by decide +kernel
theorem contT : ∀ x : Fin 256, IntKind.wrap .u8 ((BitVec.ofInt IntKind.u8.bits 128 ||| BitVec.ofInt IntKind.u8.bits (IntKind.wrap .u8 ((BitVec.ofInt IntKind.u8.bits ((x.val : Nat) : Int) &&& BitVec.ofInt IntKind.u8.bits 63).toNat : Int))).toNat : Int) = ((UInt8.ofNat (128 + x.val % 64)).toNat : Int) := by decide +kernel
theorem lead2 {m : Nat} (h : m < 32) : IntKind.wrap .u8 ((BitVec.ofInt IntKind.u8.bits 192 ||| BitVec.ofInt IntKind.u8.bits (IntKind.wrap .u8 (m : Int))).toNat : Int) = ((UInt8.ofNat (192 + m)).toNat : Int) := by
  rw [wr8 m, Nat.mod_eq_of_lt (show m < 256 by omega)]; exact leadT ⟨m, h⟩
theorem lead3 {m : Nat} (h : m < 16) : IntKind.wrap .u8 ((BitVec.ofInt IntKind.u8.bits 224 ||| BitVec.ofInt IntKind.u8.bits (IntKind.wrap .u8 (m : Int))).toNat : Int) = ((UInt8.ofNat (224 + m)).toNat : Int) := by
  rw [wr8 m, Nat.mod_eq_of_lt (show m < 256 by omega)]; exact leadU ⟨m, h⟩
theorem lead4 {m : Nat} (h : m < 8) : IntKind.wrap .u8 ((BitVec.ofInt IntKind.u8.bits 240 ||| BitVec.ofInt IntKind.u8.bits (IntKind.wrap .u8 (m : Int))).toNat : Int) = ((UInt8.ofNat (240 + m)).toNat : Int) := by
  rw [wr8 m, Nat.mod_eq_of_lt (show m < 256 by omega)]; exact leadV ⟨m, h⟩
theorem cont (m : Nat) : IntKind.wrap .u8 ((BitVec.ofInt IntKind.u8.bits 128 ||| BitVec.ofInt IntKind.u8.bits (IntKind.wrap .u8 ((BitVec.ofInt IntKind.u8.bits (IntKind.wrap .u8 (m : Int)) &&& BitVec.ofInt IntKind.u8.bits 63).toNat : Int))).toNat : Int) = ((UInt8.ofNat (128 + m % 64)).toNat : Int) := by
  rw [wr8 m]
  have := contT ⟨m % 256, Nat.mod_lt _ (by decide)⟩
  simp only at this
  rw [this, Nat.mod_mod_of_dvd m (by decide)]
theorem appNon (n : Nat) (h0 : 127 < n) (h1 : n ≤ 1114111) (h2 : ¬ (55296 ≤ n ∧ n ≤ 57343)) (acc : List UInt8) (H : Heap) (o : Own) (ho : Owned H o acc.length 1) (hb : acc.length ≤ Lim) :
    Gives Tryz.prog 188 [.sl o 1 (bytesOf acc), .int .i32 n] H o 1 (bytesOf (acc ++ encM n)) := by
  refine ACalls.goO ir188 ck188 (Nat.le_refl _) fun KP Q hQ hP => ?_
  have e1 := wr32 (n := n) (by omega)
  have hal := bytesOf_len acc
  simp only [Lim] at hb
  have ho' : Owned H o (bytesOf acc).length 1 := by rw [hal]; exact ho
  have fin : ∀ (e : List UInt8) o' H', encM n = e → OwnS H o H' o' ((bytesOf acc).length + e.length) 1 → OwnR H o 1 (bytesOf (acc ++ encM n)) (.sl o' 1 (bytesOf acc ++ bytesOf e)) H' := fun e o' H' he hs => by
    rw [he]; exact ⟨o', by rw [bytesOf_app], by rw [bytesOf_len, List.length_append]; rw [hal] at hs; exact hs⟩
  by_cases h3 : n ≤ 2047
  · have g1 : ((n : Int) ≤ 2047) = True := eq_true (by omega)
    simp (disch := first | omega | assumption) only [ir188, e1, g1, steps, st2, pev, rev, oev, optr, ibin, sbin, ishf, bound, mmAll, mm2, mk, mkArgs, AV.cells, AV.boxable, AV.one, AV.strip1, fillA, fillS, Nat.reduceEqDiff, reduceCtorEq, ↓reduceIte, Nat.reduceAdd, Int.reduceNeg, Nat.reduceLeDiff, Int.reduceToNat, Int.reduceEq, Int.reduceLT, Int.reduceLE, Int.reduceAdd]
    simp only [fd6, lead2 (show n / 64 < 32 by omega), cont]
    refine goP_ownS ho' (by simp [hal]; omega) (by simp [hal, maxLen]; omega) fun o' H' hs => ?_
    simp (disch := first | omega | assumption) only [steps, st2, pev, rev, oev, optr, ibin, sbin, ishf, bound, mmAll, mm2, mk, mkArgs, AV.cells, AV.boxable, AV.one, AV.strip1, fillA, fillS, Nat.reduceEqDiff, reduceCtorEq, ↓reduceIte, Nat.reduceAdd, Int.reduceNeg, Nat.reduceLeDiff, Int.reduceToNat, Int.reduceEq, Int.reduceLT, Int.reduceLE, Int.reduceAdd]
    exact hQ _ _ H' H' [_] nofun rfl (Low.refl _) (fin [_, _] o' H' (by unfold encM; rw [if_neg (by omega), if_pos h3]) hs)
  · have g1 : ¬ ((n : Int) ≤ 2047) := by omega
    by_cases h4 : n ≤ 65535
    · by_cases h5 : n < 55296
      · have g2 : ((n : Int) < 55296) = True := eq_true (by omega)
        simp (disch := first | omega | assumption) only [ir188, e1, g1, g2, steps, st2, pev, rev, oev, optr, ibin, sbin, ishf, bound, mmAll, mm2, mk, mkArgs, AV.cells, AV.boxable, AV.one, AV.strip1, fillA, fillS, Nat.reduceEqDiff, reduceCtorEq, ↓reduceIte, Nat.reduceAdd, Int.reduceNeg, Nat.reduceLeDiff, Int.reduceToNat, Int.reduceEq, Int.reduceLT, Int.reduceLE, Int.reduceAdd]
        simp only [fd6, fd12, lead3 (show n / 4096 < 16 by omega), cont]
        refine goP_ownS ho' (by simp [hal]; omega) (by simp [hal, maxLen]; omega) fun o' H' hs => ?_
        simp (disch := first | omega | assumption) only [steps, st2, pev, rev, oev, optr, ibin, sbin, ishf, bound, mmAll, mm2, mk, mkArgs, AV.cells, AV.boxable, AV.one, AV.strip1, fillA, fillS, Nat.reduceEqDiff, reduceCtorEq, ↓reduceIte, Nat.reduceAdd, Int.reduceNeg, Nat.reduceLeDiff, Int.reduceToNat, Int.reduceEq, Int.reduceLT, Int.reduceLE, Int.reduceAdd]
        exact hQ _ _ H' H' [_] nofun rfl (Low.refl _) (fin [_, _, _] o' H' (by unfold encM; rw [if_neg (by omega), if_neg h3, if_pos h4]) hs)
      · have g2 : ¬ ((n : Int) < 55296) := by omega
        have g3 : ((57343 : Int) < n) = True := eq_true (by omega)
        have g4 : ((n : Int) ≤ 65535) = True := eq_true (by omega)
        simp (disch := first | omega | assumption) only [ir188, e1, g1, g2, g3, g4, steps, st2, pev, rev, oev, optr, ibin, sbin, ishf, bound, mmAll, mm2, mk, mkArgs, AV.cells, AV.boxable, AV.one, AV.strip1, fillA, fillS, Nat.reduceEqDiff, reduceCtorEq, ↓reduceIte, Nat.reduceAdd, Int.reduceNeg, Nat.reduceLeDiff, Int.reduceToNat, Int.reduceEq, Int.reduceLT, Int.reduceLE, Int.reduceAdd]
        simp only [fd6, fd12, lead3 (show n / 4096 < 16 by omega), cont]
        refine goP_ownS ho' (by simp [hal]; omega) (by simp [hal, maxLen]; omega) fun o' H' hs => ?_
        simp (disch := first | omega | assumption) only [steps, st2, pev, rev, oev, optr, ibin, sbin, ishf, bound, mmAll, mm2, mk, mkArgs, AV.cells, AV.boxable, AV.one, AV.strip1, fillA, fillS, Nat.reduceEqDiff, reduceCtorEq, ↓reduceIte, Nat.reduceAdd, Int.reduceNeg, Nat.reduceLeDiff, Int.reduceToNat, Int.reduceEq, Int.reduceLT, Int.reduceLE, Int.reduceAdd]
        exact hQ _ _ H' H' [_] nofun rfl (Low.refl _) (fin [_, _, _] o' H' (by unfold encM; rw [if_neg (by omega), if_neg h3, if_pos h4]) hs)
    · have g2 : ¬ ((n : Int) < 55296) := by omega
      have g3 : ((57343 : Int) < n) = True := eq_true (by omega)
      have g4 : ¬ ((n : Int) ≤ 65535) := by omega
      have g5 : ((65535 : Int) < n) = True := eq_true (by omega)
      have g6 : ((n : Int) ≤ 1114111) = True := eq_true (by omega)
      simp (disch := first | omega | assumption) only [ir188, e1, g1, g2, g3, g4, g5, g6, steps, st2, pev, rev, oev, optr, ibin, sbin, ishf, bound, mmAll, mm2, mk, mkArgs, AV.cells, AV.boxable, AV.one, AV.strip1, fillA, fillS, Nat.reduceEqDiff, reduceCtorEq, ↓reduceIte, Nat.reduceAdd, Int.reduceNeg, Nat.reduceLeDiff, Int.reduceToNat, Int.reduceEq, Int.reduceLT, Int.reduceLE, Int.reduceAdd]
      simp only [fd6, fd12, fd18, lead4 (show n / 262144 < 8 by omega), cont]
      refine goP_ownS ho' (by simp [hal]; omega) (by simp [hal, maxLen]; omega) fun o' H' hs => ?_
      simp (disch := first | omega | assumption) only [steps, st2, pev, rev, oev, optr, ibin, sbin, ishf, bound, mmAll, mm2, mk, mkArgs, AV.cells, AV.boxable, AV.one, AV.strip1, fillA, fillS, Nat.reduceEqDiff, reduceCtorEq, ↓reduceIte, Nat.reduceAdd, Int.reduceNeg, Nat.reduceLeDiff, Int.reduceToNat, Int.reduceEq, Int.reduceLT, Int.reduceLE, Int.reduceAdd]
      exact hQ _ _ H' H' [_] nofun rfl (Low.refl _) (fin [_, _, _, _] o' H' (by unfold encM; rw [if_neg (by omega), if_neg h3, if_neg h4]) hs)
theorem appRune (n : Nat) (h1 : n ≤ 1114111) (h2 : ¬ (55296 ≤ n ∧ n ≤ 57343)) (acc : List UInt8) (H : Heap) (o : Own) (ho : Owned H o acc.length 1) (hb : acc.length ≤ Lim) :
    Gives Tryz.prog 179 [.sl o 1 (bytesOf acc), .int .i32 n] H o 1 (bytesOf (acc ++ encM n)) := by
  refine ACalls.goO ir179 ck179 (Nat.le_refl _) fun KP Q hQ hP => ?_
  have e1 := wr32 (n := n) (by omega)
  have hal := bytesOf_len acc
  by_cases h3 : n ≤ 127
  · have g1 : ((n : Int) ≤ 127) = True := eq_true (by omega)
    have g2 : IntKind.wrap .u8 (n : Int) = ((UInt8.ofNat n).toNat : Int) := by rw [wr8]; simp
    simp only [Lim] at hb
    simp (disch := first | omega | assumption) only [ir179, e1, g1, g2, steps, st2, pev, rev, oev, optr, ibin, sbin, ishf, bound, mmAll, mm2, mk, mkArgs, AV.cells, AV.boxable, AV.one, AV.strip1, fillA, fillS, Nat.reduceEqDiff, reduceCtorEq, ↓reduceIte, Nat.reduceAdd, Int.reduceNeg, Nat.reduceLeDiff, Int.reduceToNat, Int.reduceEq, Int.reduceLT, Int.reduceLE, Int.reduceAdd]
    refine goP_ownS (by rw [hal]; exact ho) (by simp [hal]; omega) (by simp [hal, maxLen]; omega) fun o' H' hs => ?_
    simp (disch := first | omega | assumption) only [steps, st2, pev, rev, oev, optr, ibin, sbin, ishf, bound, mmAll, mm2, mk, mkArgs, AV.cells, AV.boxable, AV.one, AV.strip1, fillA, fillS, Nat.reduceEqDiff, reduceCtorEq, ↓reduceIte, Nat.reduceAdd, Int.reduceNeg, Nat.reduceLeDiff, Int.reduceToNat, Int.reduceEq, Int.reduceLT, Int.reduceLE, Int.reduceAdd]
    refine hQ _ _ H' H' [_] nofun rfl (Low.refl _) ⟨o', ?_, ?_⟩
    · have : encM n = [UInt8.ofNat n] := by unfold encM; rw [if_pos h3]
      rw [this]; exact congrArg _ (bytesOf_one _ _)
    · have : encM n = [UInt8.ofNat n] := by unfold encM; rw [if_pos h3]
      rw [this, bytesOf_len]; simpa [hal] using hs
  · have g1 : ¬ ((n : Int) ≤ 127) := by omega
    simp (disch := first | omega | assumption) only [ir179, e1, g1, steps, st2, pev, rev, oev, optr, ibin, sbin, ishf, bound, mmAll, mm2, mk, mkArgs, AV.cells, AV.boxable, AV.one, AV.strip1, fillA, fillS, Nat.reduceEqDiff, reduceCtorEq, ↓reduceIte, Nat.reduceAdd, Int.reduceNeg, Nat.reduceLeDiff, Int.reduceToNat, Int.reduceEq, Int.reduceLT, Int.reduceLE, Int.reduceAdd]
    refine goK_gives (appNon n (by omega) h1 h2 acc H o ho hb) fun o' H' hs => ?_
    simp (disch := first | omega | assumption) only [steps, st2, pev, rev, oev, optr, ibin, sbin, ishf, bound, mmAll, mm2, mk, mkArgs, AV.cells, AV.boxable, AV.one, AV.strip1, fillA, fillS, Nat.reduceEqDiff, reduceCtorEq, ↓reduceIte, Nat.reduceAdd, Int.reduceNeg, Nat.reduceLeDiff, Int.reduceToNat, Int.reduceEq, Int.reduceLT, Int.reduceLE, Int.reduceAdd]
    exact hQ _ _ H' H' [_] nofun rfl (Low.refl _) ⟨o', rfl, hs⟩
end Go.Proofs.YtpjafglhdlfnbaaGreatDoor
namespace Go.Proofs.YtpjafglhdlfnbaaGreatDoor
open Go.Ab
theorem or32T : ∀ x : Fin 256, IntKind.wrap .u8 ((BitVec.ofInt IntKind.u8.bits ((x.val : Nat) : Int) ||| BitVec.ofInt IntKind.u8.bits 32).toNat : Int) = ((UInt8.ofNat x.val ||| 32).toNat : Int) := by decide +kernel
theorem or32 (c : UInt8) : IntKind.wrap .u8 ((BitVec.ofInt IntKind.u8.bits (c.toNat : Int) ||| BitVec.ofInt IntKind.u8.bits 32).toNat : Int) = ((c ||| 32).toNat : Int) := by
  have := or32T ⟨c.toNat, c.toNat_lt⟩
  simpa using this
theorem idx_le (l : List UInt8) (c : UInt8) : -1 ≤ Lib.indexByte l c ∧ Lib.indexByte l c < l.length := by
  induction l with
  | nil => simp [Lib.indexByte]
  | cons x r ih =>
    simp only [Lib.indexByte, List.length_cons]
    split
    · omega
    · split
      · omega
      · omega
theorem unitC (s : List UInt8) (hs : s.length ≤ Lim) : Pure Tryz.prog 168 [.str s] (.tup [.int .i64 ((unitM s).getD 0 : Nat), .bool (unitM s).isSome]) := by
  refine Pure.go ir168 ck168 (Nat.le_refl _) fun KP Q hQ => ?_
  simp only [Lim] at hs
  by_cases h4 : s.length < 4
  · have g1 : ((s.length : Int) < 4) = True := eq_true (by omega)
    have : unitM s = none := by
      cases h : unitM s with
      | none => rfl
      | some u => have := unitG_len _ _ _ _ h; omega
    simp (disch := first | omega | assumption) only [ir168, g1, steps, st2, pev, rev, oev, optr, ibin, sbin, ishf, bound, mmAll, mm2, mk, mkArgs, AV.cells, AV.boxable, AV.one, AV.strip1, fillA, fillS, Nat.reduceEqDiff, reduceCtorEq, ↓reduceIte, Nat.reduceAdd, Int.reduceNeg, Nat.reduceLeDiff, Int.reduceToNat, Int.reduceEq, Int.reduceLT, Int.reduceLE, Int.reduceAdd]
    exact hQ _ _ _ _ nofun rfl (by simp [tupOf, envOf, AV.strip, AV.strip1, this])
  · have g1 : ¬ ((s.length : Int) < 4) := by omega
    obtain ⟨l, r, hl, hsr⟩ : ∃ l r : List UInt8, l.length = 4 ∧ s = l ++ r := ⟨s.take 4, s.drop 4, by simp; omega, by simp⟩
    have hl' : (l.length : Int) = 4 := by omega
    have key : ∀ (a b : List UInt8) (u : Nat), l = a ++ b → unitG b.length (b ++ r) u = unitG (4 - a.length) (s.drop a.length) u := fun a b u h => by
      have : a.length + b.length = 4 := by rw [← hl, h]; simp
      rw [hsr, h, List.append_assoc, List.drop_left]; congr 1; omega
    simp (disch := first | omega | assumption) only [ir168, g1, steps, st2, pev, rev, oev, optr, ibin, sbin, ishf, bound, mmAll, mm2, mk, mkArgs, AV.cells, AV.boxable, AV.one, AV.strip1, fillA, fillS, Nat.reduceEqDiff, reduceCtorEq, ↓reduceIte, Nat.reduceAdd, Int.reduceNeg, Nat.reduceLeDiff, Int.reduceToNat, Int.reduceEq, Int.reduceLT, Int.reduceLE, Int.reduceAdd]
    refine goL_range l 10 (fun u : Nat => [(4, .int .i64 u)]) (fun done rest u H => unitG rest.length (rest ++ r) u = unitM s ∧ u < 16 ^ done.length ∧ H = Heap.emp) 0 (by simp (disch := first | omega | assumption) only [steps, st2, pev, rev, oev, optr, ibin, sbin, ishf, bound, mmAll, mm2, mk, mkArgs, AV.cells, AV.boxable, AV.one, AV.strip1, fillA, fillS, Nat.reduceEqDiff, reduceCtorEq, ↓reduceIte, Nat.reduceAdd, Int.reduceNeg, Nat.reduceLeDiff, Int.reduceToNat, Int.reduceEq, Int.reduceLT, Int.reduceLE, Int.reduceAdd]) ⟨by rw [hl, ← hsr]; rfl, by simp, rfl⟩ ?_ ?_
    · rintro u H J ⟨hu, _, rfl⟩ hlt
      simp only [List.length_nil, unitG] at hu
      simp (disch := first | omega | assumption) only [hl', steps, st2, pev, rev, oev, optr, ibin, sbin, ishf, bound, mmAll, mm2, mk, mkArgs, AV.cells, AV.boxable, AV.one, AV.strip1, fillA, fillS, Nat.reduceEqDiff, reduceCtorEq, ↓reduceIte, Nat.reduceAdd, Int.reduceNeg, Nat.reduceLeDiff, Int.reduceToNat, Int.reduceEq, Int.reduceLT, Int.reduceLE, Int.reduceAdd]
      exact hQ _ _ _ _ nofun rfl (by simp [tupOf, envOf, AV.strip, AV.strip1, ← hu])
    · rintro done c rest u H J hd hlt hlt2 ⟨hu, hb, rfl⟩ hJ
      have hd4 : done.length < 4 := by omega
      have hlt' : (done.length : Int) < 4 := by omega
      have hlt3 : (done.length : Int) < s.length := by omega
      have hg : s.getD done.length 0 = c := by rw [hsr, hd]; simp
      have hpow : 16 ^ done.length ≤ 4096 := by
        have : done.length ≤ 3 := by omega
        calc 16 ^ done.length ≤ 16 ^ 3 := Nat.pow_le_pow_right (by decide) this
          _ = 4096 := rfl
      simp only [List.length_cons, List.cons_append, unitG] at hu
      have hidx := idx_le hexL (c ||| 32)
      have hc := c.toNat_lt
      simp only [hexL, List.length_cons, List.length_nil] at hidx
      simp (disch := first | omega | assumption) only [hlt', hlt3, hg, or32, steps, st2, pev, rev, oev, optr, ibin, sbin, ishf, bound, mmAll, mm2, mk, mkArgs, AV.cells, AV.boxable, AV.one, AV.strip1, fillA, fillS, Nat.reduceEqDiff, reduceCtorEq, ↓reduceIte, Nat.reduceAdd, Int.reduceNeg, Nat.reduceLeDiff, Int.reduceToNat, Int.reduceEq, Int.reduceLT, Int.reduceLE, Int.reduceAdd]
      refine goK_pure (idxByteC hexL (c ||| 32)) ?_
      have no : hexD c = none → (unitM s) = none := fun e => by rw [e] at hu; exact hu.symm
      by_cases n1 : Lib.indexByte hexL (c ||| 32) < 0
      · have e : hexD c = none := by unfold hexD; rw [if_pos (.inl n1)]
        simp (disch := first | omega | assumption) only [n1, steps, st2, pev, rev, oev, optr, ibin, sbin, ishf, bound, mmAll, mm2, mk, mkArgs, AV.cells, AV.boxable, AV.one, AV.strip1, fillA, fillS, Nat.reduceEqDiff, reduceCtorEq, ↓reduceIte, Nat.reduceAdd, Int.reduceNeg, Nat.reduceLeDiff, Int.reduceToNat, Int.reduceEq, Int.reduceLT, Int.reduceLE, Int.reduceAdd]
        exact hQ _ _ _ _ nofun rfl (by simp [tupOf, envOf, AV.strip, AV.strip1, no e])
      obtain ⟨k, hk⟩ : ∃ k : Nat, Lib.indexByte hexL (c ||| 32) = (k : Int) := ⟨(Lib.indexByte hexL (c ||| 32)).toNat, by omega⟩
      have hk16 : k < 16 := by rw [show Lib.indexByte [48, 49, 50, 51, 52, 53, 54, 55, 56, 57, 97, 98, 99, 100, 101, 102] (c ||| 32) = (k : Int) from hk] at hidx; omega
      have hu4 : u < 4096 := by omega
      have hkn : ¬ ((k : Int) < 0) := by omega
      have hnext : hexD c = some k → unitG rest.length (rest ++ r) (16 * u + k) = unitM s ∧ 16 * u + k < 16 ^ (done ++ [c]).length ∧ Heap.emp = Heap.emp := fun e => by
        rw [e] at hu
        refine ⟨hu, ?_, rfl⟩
        rw [List.length_append, List.length_cons, List.length_nil, Nat.pow_succ]; omega
      have hpush : ((16 * u + k : Nat) : Int) = 16 * (u : Int) + k := by omega
      by_cases n2 : c.toNat < 48
      · have e : hexD c = none := by unfold hexD; rw [if_pos (.inr (.inl n2))]
        have n2' : ((c.toNat : Int) < 48) = True := eq_true (by omega)
        simp (disch := first | omega | assumption) only [hk, hkn, n2', hlt3, hg, steps, st2, pev, rev, oev, optr, ibin, sbin, ishf, bound, mmAll, mm2, mk, mkArgs, AV.cells, AV.boxable, AV.one, AV.strip1, fillA, fillS, Nat.reduceEqDiff, reduceCtorEq, ↓reduceIte, Nat.reduceAdd, Int.reduceNeg, Nat.reduceLeDiff, Int.reduceToNat, Int.reduceEq, Int.reduceLT, Int.reduceLE, Int.reduceAdd]
        exact hQ _ _ _ _ nofun rfl (by simp [tupOf, envOf, AV.strip, AV.strip1, no e])
      have n2' : ¬ ((c.toNat : Int) < 48) := by omega
      by_cases n3 : 57 < c.toNat
      · have n3' : ((57 : Int) < c.toNat) = True := eq_true (by omega)
        by_cases n4 : c.toNat < 65
        · have e : hexD c = none := by unfold hexD; rw [if_pos (.inr (.inr ⟨n3, n4⟩))]
          have n4' : ((c.toNat : Int) < 65) = True := eq_true (by omega)
          simp (disch := first | omega | assumption) only [hk, hkn, n2', n3', n4', hlt3, hg, steps, st2, pev, rev, oev, optr, ibin, sbin, ishf, bound, mmAll, mm2, mk, mkArgs, AV.cells, AV.boxable, AV.one, AV.strip1, fillA, fillS, Nat.reduceEqDiff, reduceCtorEq, ↓reduceIte, Nat.reduceAdd, Int.reduceNeg, Nat.reduceLeDiff, Int.reduceToNat, Int.reduceEq, Int.reduceLT, Int.reduceLE, Int.reduceAdd]
          exact hQ _ _ _ _ nofun rfl (by simp [tupOf, envOf, AV.strip, AV.strip1, no e])
        · have e : hexD c = some k := by unfold hexD; rw [if_neg (by omega), hk]; rfl
          have n4' : ¬ ((c.toNat : Int) < 65) := by omega
          simp (disch := first | omega | assumption) only [hk, hkn, n2', n3', n4', hlt3, hg, wrap64, steps, st2, pev, rev, oev, optr, ibin, sbin, ishf, bound, mmAll, mm2, mk, mkArgs, AV.cells, AV.boxable, AV.one, AV.strip1, fillA, fillS, Nat.reduceEqDiff, reduceCtorEq, ↓reduceIte, Nat.reduceAdd, Int.reduceNeg, Nat.reduceLeDiff, Int.reduceToNat, Int.reduceEq, Int.reduceLT, Int.reduceLE, Int.reduceAdd]
          refine goJ (hJ (16 * u + k) _ (hnext e)) (by simp (disch := first | omega | assumption) only [hpush, steps, st2, pev, rev, oev, optr, ibin, sbin, ishf, bound, mmAll, mm2, mk, mkArgs, AV.cells, AV.boxable, AV.one, AV.strip1, fillA, fillS, Nat.reduceEqDiff, reduceCtorEq, ↓reduceIte, Nat.reduceAdd, Int.reduceNeg, Nat.reduceLeDiff, Int.reduceToNat, Int.reduceEq, Int.reduceLT, Int.reduceLE, Int.reduceAdd])
      · have e : hexD c = some k := by unfold hexD; rw [if_neg (by omega), hk]; rfl
        have n3' : ¬ ((57 : Int) < c.toNat) := by omega
        simp (disch := first | omega | assumption) only [hk, hkn, n2', n3', hlt3, hg, wrap64, steps, st2, pev, rev, oev, optr, ibin, sbin, ishf, bound, mmAll, mm2, mk, mkArgs, AV.cells, AV.boxable, AV.one, AV.strip1, fillA, fillS, Nat.reduceEqDiff, reduceCtorEq, ↓reduceIte, Nat.reduceAdd, Int.reduceNeg, Nat.reduceLeDiff, Int.reduceToNat, Int.reduceEq, Int.reduceLT, Int.reduceLE, Int.reduceAdd]
        refine goJ (hJ (16 * u + k) _ (hnext e)) (by simp (disch := first | omega | assumption) only [hpush, steps, st2, pev, rev, oev, optr, ibin, sbin, ishf, bound, mmAll, mm2, mk, mkArgs, AV.cells, AV.boxable, AV.one, AV.strip1, fillA, fillS, Nat.reduceEqDiff, reduceCtorEq, ↓reduceIte, Nat.reduceAdd, Int.reduceNeg, Nat.reduceLeDiff, Int.reduceToNat, Int.reduceEq, Int.reduceLT, Int.reduceLE, Int.reduceAdd])
def cU (l : List Nat) : List (List AV) := l.map fun (n : Nat) => [AV.int .i64 (n : Int)]
theorem cU_len (l : List Nat) : (cU l).length = l.length := by simp [cU]
theorem cU_strip (l : List Nat) : (cU l).map (·.map AV.strip1) = cU l := by simp [cU, AV.strip1]
theorem joinC (us : List Nat) (hl : us.length ≤ 68719476736) : Pure Tryz.prog 169 [.sl .no 1 (cU us)] (.tup [.str ((joinM us).getD []), .bool (joinM us).isSome]) := by
  refine Pure.go ir169 ck169 (Nat.le_refl _) fun KP Q hQ => ?_
  have hll := cU_len us
  simp (disch := first | omega | assumption) only [ir169, steps, st2, pev, rev, oev, optr, ibin, sbin, ishf, bound, mmAll, mm2, mk, mkArgs, AV.cells, AV.boxable, AV.one, AV.strip1, fillA, fillS, Nat.reduceEqDiff, reduceCtorEq, ↓reduceIte, Nat.reduceAdd, Int.reduceNeg, Nat.reduceLeDiff, Int.reduceToNat, Int.reduceEq, Int.reduceLT, Int.reduceLE, Int.reduceAdd]
  refine goL_st (fun s : List Nat × List Nat × Own × List UInt8 => [(4, .sl s.2.2.1 1 (bytesOf s.2.2.2)), (5, .int .i64 s.1.length)]) (fun s H => us = s.1 ++ s.2.1 ∧ joinM us = (joinM s.2.1).map (s.2.2.2 ++ ·) ∧ s.2.2.2.length ≤ 2 * s.1.length * 2 ∧ Owned H s.2.2.1 s.2.2.2.length 1) (fun s => s.2.1.length) ([], us, .nil, []) (by simp (disch := first | omega | assumption) only [steps, st2, pev, rev, oev, optr, ibin, sbin, ishf, bound, mmAll, mm2, mk, mkArgs, AV.cells, AV.boxable, AV.one, AV.strip1, fillA, fillS, Nat.reduceEqDiff, reduceCtorEq, ↓reduceIte, Nat.reduceAdd, Int.reduceNeg, Nat.reduceLeDiff, Int.reduceToNat, Int.reduceEq, Int.reduceLT, Int.reduceLE, Int.reduceAdd]; rfl) ⟨rfl, by cases joinM us <;> rfl, by simp, rfl⟩ ?_
  rintro ⟨done, rest, o, out⟩ H J ⟨hd, hj, hle, ho⟩ hJ
  simp only at hd hj hle ho
  have hdl : done.length + rest.length = us.length := by rw [hd]; simp
  cases rest with
  | nil =>
    simp only [List.append_nil] at hd
    have hlt : ¬ ((done.length : Int) < us.length) := by rw [hd]; omega
    simp (disch := first | omega | assumption) only [hll, hlt, steps, st2, pev, rev, oev, optr, ibin, sbin, ishf, bound, mmAll, mm2, mk, mkArgs, AV.cells, AV.boxable, AV.one, AV.strip1, fillA, fillS, Nat.reduceEqDiff, reduceCtorEq, ↓reduceIte, Nat.reduceAdd, Int.reduceNeg, Nat.reduceLeDiff, Int.reduceToNat, Int.reduceEq, Int.reduceLT, Int.reduceLE, Int.reduceAdd]
    simp only [joinM, Option.map_some, List.append_nil] at hj
    simp (disch := first | omega | assumption) only [byts_of, steps, st2, pev, rev, oev, optr, ibin, sbin, ishf, bound, mmAll, mm2, mk, mkArgs, AV.cells, AV.boxable, AV.one, AV.strip1, fillA, fillS, Nat.reduceEqDiff, reduceCtorEq, ↓reduceIte, Nat.reduceAdd, Int.reduceNeg, Nat.reduceLeDiff, Int.reduceToNat, Int.reduceEq, Int.reduceLT, Int.reduceLE, Int.reduceAdd]
    exact hQ _ _ _ _ nofun rfl (by simp [tupOf, envOf, AV.strip, AV.strip1, hj])
  | cons u r =>
    have hlt : ((done.length : Int) < us.length) := by simp at hdl; omega
    have hg : (cU us).getD done.length [] = [.int .i64 u] := by rw [hd]; simp [cU]
    have hu0 : ¬ ((u : Int) < 0) := by omega
    have hrl : r.length + 1 + done.length = us.length := by simp at hdl; omega
    have none_of : joinM (u :: r) = none → joinM us = none := fun e => by rw [hj, e]; rfl
    have hmax : maxLen = 9223372036854775807 := rfl
    by_cases a1 : 65535 < u
    · have e := none_of (by rw [joinM.eq_def]; simp only; rw [if_pos (.inl a1)])
      have a1' : ((65535 : Int) < u) = True := eq_true (by omega)
      simp (disch := first | omega | assumption) only [hll, hlt, hg, hu0, a1', steps, st2, pev, rev, oev, optr, ibin, sbin, ishf, bound, mmAll, mm2, mk, mkArgs, AV.cells, AV.boxable, AV.one, AV.strip1, fillA, fillS, Nat.reduceEqDiff, reduceCtorEq, ↓reduceIte, Nat.reduceAdd, Int.reduceNeg, Nat.reduceLeDiff, Int.reduceToNat, Int.reduceEq, Int.reduceLT, Int.reduceLE, Int.reduceAdd]
      exact hQ _ _ _ _ nofun rfl (by simp [tupOf, envOf, AV.strip, AV.strip1, e])
    have a1' : ¬ ((65535 : Int) < u) := by omega
    by_cases a2 : 56320 ≤ u ∧ u ≤ 57343
    · have e := none_of (by rw [joinM.eq_def]; simp only; rw [if_pos (.inr a2)])
      have a2' : ((56320 : Int) ≤ u) = True := eq_true (by omega)
      have a3' : ((u : Int) ≤ 57343) = True := eq_true (by omega)
      simp (disch := first | omega | assumption) only [hll, hlt, hg, hu0, a1', a2', a3', steps, st2, pev, rev, oev, optr, ibin, sbin, ishf, bound, mmAll, mm2, mk, mkArgs, AV.cells, AV.boxable, AV.one, AV.strip1, fillA, fillS, Nat.reduceEqDiff, reduceCtorEq, ↓reduceIte, Nat.reduceAdd, Int.reduceNeg, Nat.reduceLeDiff, Int.reduceToNat, Int.reduceEq, Int.reduceLT, Int.reduceLE, Int.reduceAdd]
      exact hQ _ _ _ _ nofun rfl (by simp [tupOf, envOf, AV.strip, AV.strip1, e])
    by_cases a3 : 55296 ≤ u ∧ u < 56320
    · have b1 : ¬ ((56320 : Int) ≤ u) := by omega
      have b2 : ((55296 : Int) ≤ u) = True := eq_true (by omega)
      have b3 : ((u : Int) < 56320) = True := eq_true (by omega)
      cases r with
      | nil =>
        have e := none_of (by rw [joinM.eq_def]; simp only; rw [if_neg (by omega), if_pos a3])
        have b4 : ((done.length : Int) + 1 = us.length) = True := eq_true (by simp at hrl; omega)
        simp (disch := first | omega | assumption) only [hll, hlt, hg, hu0, a1', b1, b2, b3, wrap64, b4, steps, st2, pev, rev, oev, optr, ibin, sbin, ishf, bound, mmAll, mm2, mk, mkArgs, AV.cells, AV.boxable, AV.one, AV.strip1, fillA, fillS, Nat.reduceEqDiff, reduceCtorEq, ↓reduceIte, Nat.reduceAdd, Int.reduceNeg, Nat.reduceLeDiff, Int.reduceToNat, Int.reduceEq, Int.reduceLT, Int.reduceLE, Int.reduceAdd]
        exact hQ _ _ _ _ nofun rfl (by simp [tupOf, envOf, AV.strip, AV.strip1, e])
      | cons v r =>
        have b4 : ¬ ((done.length : Int) + 1 = us.length) := by simp at hrl; omega
        have b5 : ((done.length : Int) + 1 < us.length) := by simp at hrl; omega
        have b6 : ((done.length : Int) + 1).toNat = done.length + 1 := by omega
        have hg2 : (cU us).getD (done.length + 1) [] = [.int .i64 v] := by rw [hd]; simp [cU]
        by_cases c1 : v < 56320
        · have e := none_of (by rw [joinM.eq_def]; simp only; rw [if_neg (by omega), if_pos a3, if_pos (.inl c1)])
          have c1' : ((v : Int) < 56320) = True := eq_true (by omega)
          simp (disch := first | omega | assumption) only [hll, hlt, hg, hu0, a1', b1, b2, b3, wrap64, b4, b5, b6, hg2, c1', steps, st2, pev, rev, oev, optr, ibin, sbin, ishf, bound, mmAll, mm2, mk, mkArgs, AV.cells, AV.boxable, AV.one, AV.strip1, fillA, fillS, Nat.reduceEqDiff, reduceCtorEq, ↓reduceIte, Nat.reduceAdd, Int.reduceNeg, Nat.reduceLeDiff, Int.reduceToNat, Int.reduceEq, Int.reduceLT, Int.reduceLE, Int.reduceAdd]
          exact hQ _ _ _ _ nofun rfl (by simp [tupOf, envOf, AV.strip, AV.strip1, e])
        have c1' : ¬ ((v : Int) < 56320) := by omega
        by_cases c2 : 57343 < v
        · have e := none_of (by rw [joinM.eq_def]; simp only; rw [if_neg (by omega), if_pos a3, if_pos (.inr c2)])
          have c2' : ((57343 : Int) < v) = True := eq_true (by omega)
          simp (disch := first | omega | assumption) only [hll, hlt, hg, hu0, a1', b1, b2, b3, wrap64, b4, b5, b6, hg2, c1', c2', steps, st2, pev, rev, oev, optr, ibin, sbin, ishf, bound, mmAll, mm2, mk, mkArgs, AV.cells, AV.boxable, AV.one, AV.strip1, fillA, fillS, Nat.reduceEqDiff, reduceCtorEq, ↓reduceIte, Nat.reduceAdd, Int.reduceNeg, Nat.reduceLeDiff, Int.reduceToNat, Int.reduceEq, Int.reduceLT, Int.reduceLE, Int.reduceAdd]
          exact hQ _ _ _ _ nofun rfl (by simp [tupOf, envOf, AV.strip, AV.strip1, e])
        have c2' : ¬ ((57343 : Int) < v) := by omega
        have ej : joinM (u :: v :: r) = (joinM r).map (encM (65536 + 1024 * (u - 55296) + (v - 56320)) ++ ·) := by rw [joinM.eq_def]; simp only; rw [if_neg (by omega), if_pos a3, if_neg (by omega)]
        obtain ⟨m, hm⟩ : ∃ m, 65536 + 1024 * (u - 55296) + (v - 56320) = m := ⟨_, rfl⟩
        rw [hm] at ej
        have hm2 : (65536 + 1024 * ((u : Int) - 55296) + v - 56320) = (m : Int) := by omega
        have hm3 := (encM_len m).1
        simp (disch := first | omega | assumption) only [hll, hlt, hg, hu0, a1', b1, b2, b3, wrap64, b4, b5, b6, hg2, c1', c2', hm2, wri32 (show m < 2147483648 by omega), steps, st2, pev, rev, oev, optr, ibin, sbin, ishf, bound, mmAll, mm2, mk, mkArgs, AV.cells, AV.boxable, AV.one, AV.strip1, fillA, fillS, Nat.reduceEqDiff, reduceCtorEq, ↓reduceIte, Nat.reduceAdd, Int.reduceNeg, Nat.reduceLeDiff, Int.reduceToNat, Int.reduceEq, Int.reduceLT, Int.reduceLE, Int.reduceAdd]
        refine goK_gives (appRune m (by omega) (by omega) out _ o ho (by simp only [Lim]; omega)) fun o' H' hs => ?_
        simp (disch := first | omega | assumption) only [wrap64, steps, st2, pev, rev, oev, optr, ibin, sbin, ishf, bound, mmAll, mm2, mk, mkArgs, AV.cells, AV.boxable, AV.one, AV.strip1, fillA, fillS, Nat.reduceEqDiff, reduceCtorEq, ↓reduceIte, Nat.reduceAdd, Int.reduceNeg, Nat.reduceLeDiff, Int.reduceToNat, Int.reduceEq, Int.reduceLT, Int.reduceLE, Int.reduceAdd]
        have hown := hs.own
        rw [bytesOf_len] at hown
        have e5 : (((done ++ [u, v]).length : Nat) : Int) = (done.length : Int) + 1 + 1 := by simp; omega
        refine goJ (hJ (done ++ [u, v], r, o', out ++ encM m) _ (by simp; omega) ⟨by simp [hd], ?_, ?_, hown⟩) (by simp (disch := first | omega | assumption) only [e5, steps, st2, pev, rev, oev, optr, ibin, sbin, ishf, bound, mmAll, mm2, mk, mkArgs, AV.cells, AV.boxable, AV.one, AV.strip1, fillA, fillS, Nat.reduceEqDiff, reduceCtorEq, ↓reduceIte, Nat.reduceAdd, Int.reduceNeg, Nat.reduceLeDiff, Int.reduceToNat, Int.reduceEq, Int.reduceLT, Int.reduceLE, Int.reduceAdd])
        · simp only [hj, ej]; cases joinM r <;> simp
        · simp; omega
    have ej : joinM (u :: r) = (joinM r).map (encM u ++ ·) := by
      rw [joinM.eq_def]; simp only; rw [if_neg (by omega), if_neg a3]
    have hm3 := (encM_len u).1
    have e5 : (((done ++ [u]).length : Nat) : Int) = (done.length : Int) + 1 := by simp
    by_cases h : u < 55296
    · have b1 : ¬ ((56320 : Int) ≤ u) := by omega
      have b2 : ¬ ((55296 : Int) ≤ u) := by omega
      simp (disch := first | omega | assumption) only [hll, hlt, hg, hu0, a1', b1, b2, wri32 (show u < 2147483648 by omega), steps, st2, pev, rev, oev, optr, ibin, sbin, ishf, bound, mmAll, mm2, mk, mkArgs, AV.cells, AV.boxable, AV.one, AV.strip1, fillA, fillS, Nat.reduceEqDiff, reduceCtorEq, ↓reduceIte, Nat.reduceAdd, Int.reduceNeg, Nat.reduceLeDiff, Int.reduceToNat, Int.reduceEq, Int.reduceLT, Int.reduceLE, Int.reduceAdd]
      refine goK_gives (appRune u (by omega) (by omega) out _ o ho (by simp only [Lim]; omega)) fun o' H' hs => ?_
      simp (disch := first | omega | assumption) only [wrap64, steps, st2, pev, rev, oev, optr, ibin, sbin, ishf, bound, mmAll, mm2, mk, mkArgs, AV.cells, AV.boxable, AV.one, AV.strip1, fillA, fillS, Nat.reduceEqDiff, reduceCtorEq, ↓reduceIte, Nat.reduceAdd, Int.reduceNeg, Nat.reduceLeDiff, Int.reduceToNat, Int.reduceEq, Int.reduceLT, Int.reduceLE, Int.reduceAdd]
      have hown := hs.own
      rw [bytesOf_len] at hown
      refine goJ (hJ (done ++ [u], r, o', out ++ encM u) _ (by simp) ⟨by simp [hd], ?_, ?_, hown⟩) (by simp (disch := first | omega | assumption) only [e5, steps, st2, pev, rev, oev, optr, ibin, sbin, ishf, bound, mmAll, mm2, mk, mkArgs, AV.cells, AV.boxable, AV.one, AV.strip1, fillA, fillS, Nat.reduceEqDiff, reduceCtorEq, ↓reduceIte, Nat.reduceAdd, Int.reduceNeg, Nat.reduceLeDiff, Int.reduceToNat, Int.reduceEq, Int.reduceLT, Int.reduceLE, Int.reduceAdd])
      · simp only [hj, ej]; cases joinM r <;> simp
      · simp; omega
    · have b1 : ((56320 : Int) ≤ u) = True := eq_true (by omega)
      have b2 : ¬ ((u : Int) ≤ 57343) := by omega
      have b3 : ((55296 : Int) ≤ u) = True := eq_true (by omega)
      have b4 : ¬ ((u : Int) < 56320) := by omega
      simp (disch := first | omega | assumption) only [hll, hlt, hg, hu0, a1', b1, b2, b3, b4, wri32 (show u < 2147483648 by omega), steps, st2, pev, rev, oev, optr, ibin, sbin, ishf, bound, mmAll, mm2, mk, mkArgs, AV.cells, AV.boxable, AV.one, AV.strip1, fillA, fillS, Nat.reduceEqDiff, reduceCtorEq, ↓reduceIte, Nat.reduceAdd, Int.reduceNeg, Nat.reduceLeDiff, Int.reduceToNat, Int.reduceEq, Int.reduceLT, Int.reduceLE, Int.reduceAdd]
      refine goK_gives (appRune u (by omega) (by omega) out _ o ho (by simp only [Lim]; omega)) fun o' H' hs => ?_
      simp (disch := first | omega | assumption) only [wrap64, steps, st2, pev, rev, oev, optr, ibin, sbin, ishf, bound, mmAll, mm2, mk, mkArgs, AV.cells, AV.boxable, AV.one, AV.strip1, fillA, fillS, Nat.reduceEqDiff, reduceCtorEq, ↓reduceIte, Nat.reduceAdd, Int.reduceNeg, Nat.reduceLeDiff, Int.reduceToNat, Int.reduceEq, Int.reduceLT, Int.reduceLE, Int.reduceAdd]
      have hown := hs.own
      rw [bytesOf_len] at hown
      refine goJ (hJ (done ++ [u], r, o', out ++ encM u) _ (by simp) ⟨by simp [hd], ?_, ?_, hown⟩) (by simp (disch := first | omega | assumption) only [e5, steps, st2, pev, rev, oev, optr, ibin, sbin, ishf, bound, mmAll, mm2, mk, mkArgs, AV.cells, AV.boxable, AV.one, AV.strip1, fillA, fillS, Nat.reduceEqDiff, reduceCtorEq, ↓reduceIte, Nat.reduceAdd, Int.reduceNeg, Nat.reduceLeDiff, Int.reduceToNat, Int.reduceEq, Int.reduceLT, Int.reduceLE, Int.reduceAdd])
      · simp only [hj, ej]; cases joinM r <;> simp
      · simp; omega
end Go.Proofs.YtpjafglhdlfnbaaGreatDoor
namespace Go.Proofs.YtpjafglhdlfnbaaGreatDoor
open Go.Ab
abbrev LimQ : Nat := 68719476736
theorem own_ne {H : Heap} {c b d n sz : Nat} {cs : List AV} (h : Owned H (.tip b d) n sz) (hc : H c = some (.cells cs)) : b ≠ c := fun e => by
  subst e
  have : H b = some (.tip (d + n) sz) := h
  rw [hc] at this; cases this
theorem own_keep {H H' : Heap} {o : Own} {n sz c : Nat} {cs : List AV} (h : Owned H o n sz) (hc : H c = some (.cells cs)) (hk : Kept H o H') : H' c = some (.cells cs) :=
  hk c _ hc fun d e => by subst e; exact own_ne h hc rfl
theorem own_upd {H : Heap} {o : Own} {n sz c : Nat} {cs : List AV} {x : AObj} (h : Owned H o n sz) (hc : H c = some (.cells cs)) : Owned (H.upd c x) o n sz := by
  cases o with
  | tip b d => have := own_ne h hc; show (H.upd c x) b = _; rw [upd_ne this]; exact h
  | no => exact h
  | nil => exact h
  | full => exact h
structure SaidAt (H : Heap) (q : Nat) (x : Sd) (o o2 : Own) : Prop where
  hq : H q = some (.cells [.sl o 1 (bytesOf x.b), .sl o2 1 (cU x.u), .bool x.ok])
  ho : Owned H o x.b.length 1
  ho2 : Owned H o2 x.u.length 1
  ne : ∀ b d d2, o = .tip b d → o2 ≠ .tip b d2
theorem flushC {H : Heap} {q : Nat} {x : Sd} {o o2 : Own} (hs : SaidAt H q x o o2) (hw : x.w ≤ LimQ) :
    ACalls Tryz.prog 140 [.ptr q 0] H (fun e H' => ∃ v, e = .ret v ∧ (v = .tup [] ∧ ∃ o', SaidAt H' q (flushM x) o' .nil)) := by
  refine ACalls.go ir140 ck140 (Nat.le_refl _) fun KP Q hQ => ?_
  obtain ⟨hq, ho, ho2, hne⟩ := hs
  have hbl := bytesOf_len x.b
  simp only [LimQ, Sd.w] at hw
  simp (disch := first | omega | assumption) only [ir140, hq, go_sem, ↓reduceIte]
  refine goK_pure (Pure.low (joinC x.u (by omega))) ?_
  have hfw := flush_w x
  simp only [flushM, Sd.w, List.length_append] at hfw
  simp (disch := first | omega | assumption) only [hq, go_sem, ↓reduceIte]
  refine goP_ownS (by rw [hbl]; exact ho) (by simp [bytesOf_len]; omega) (by simp [maxLen, bytesOf_len]; omega) fun o' H1 hs => ?_
  have h1 : H1 q = some (.cells [.sl o 1 (bytesOf x.b), .sl o2 1 (cU x.u), .bool x.ok]) := own_keep ho hq hs.kept
  have hown := hs.own
  simp only [List.length_append, bytesOf_len] at hown
  cases hok : x.ok
  · rw [hok] at h1
    simp (disch := first | omega | assumption) only [h1, bytesOf_strip, bytesOf_app, go_sem, ↓reduceIte]
    refine hQ _ _ _ _ _ nofun rfl (Low.refl _) ⟨rfl, o', ?_, ?_, rfl, nofun⟩
    · simp [flushM, hok, upd_same, cU, bytesOf_app, bytesOf_strip]
    · simp only [flushM, List.length_append]
      exact own_upd hown h1
  · rw [hok] at h1
    simp (disch := first | omega | assumption) only [h1, bytesOf_strip, bytesOf_app, go_sem, ↓reduceIte]
    refine hQ _ _ _ _ _ nofun rfl (Low.refl _) ⟨rfl, o', ?_, ?_, rfl, nofun⟩
    · simp [flushM, hok, upd_same, cU, bytesOf_app, bytesOf_strip]
    · simp only [flushM, List.length_append]
      exact own_upd hown h1
def EscP (H' : Heap) (q : Nat) (x : Sd) (s : List UInt8) (v : AV) : Prop := match escM x s with
  | none => v = .int .i64 0
  | some (x', t') => v = .int .i64 ((s.length - t'.length : Nat) : Int) ∧ ∃ o o2, SaidAt H' q x' o o2
theorem escC {H : Heap} {q : Nat} {x : Sd} {o o2 : Own} (hs : SaidAt H q x o o2) (hw : x.w ≤ LimQ) (s : List UInt8) (hl : s.length ≤ Lim) :
    ACalls Tryz.prog 139 [.ptr q 0, .str s] H (fun e H' => ∃ v, e = .ret v ∧ EscP H' q x s v) := by
  refine ACalls.go ir139 ck139 (Nat.le_refl _) fun KP Q hQ => ?_
  have hs0 := hs
  obtain ⟨hq, ho, ho2, hne⟩ := hs
  have hul := cU_len x.u
  have hw0 := hw
  simp only [LimQ, Sd.w] at hw
  simp only [Lim] at hl
  simp (disch := first | omega | assumption) only [ir139, go_sem, ↓reduceIte]
  refine goK_pure (prefixC s [117]) ?_
  cases s with
  | nil =>
    simp (disch := first | omega | assumption) only [List.isPrefixOf, go_sem, ↓reduceIte]
    exact hQ _ _ _ _ [_] nofun rfl (Low.refl _) (by simp [EscP, escM, tupOf, envOf, AV.strip, AV.strip1])
  | cons c t =>
    simp only [List.length_cons] at hl
    by_cases hc : c = 117
    · subst hc
      have hp : [117].isPrefixOf ((117 : UInt8) :: t) = true := rfl
      have h1 : ((1 : Int) ≤ ((t.length + 1 : Nat) : Int)) = True := eq_true (by omega)
      simp (disch := first | omega | assumption) only [hp, h1, go_sem, ↓reduceIte]
      refine goK_pure (unitC t (by simp only [Lim]; omega)) ?_
      cases hu : unitM t with
      | none =>
        simp (disch := first | omega | assumption) only [Option.isSome_none, go_sem, ↓reduceIte]
        exact hQ _ _ _ _ [_] nofun rfl (Low.refl _) (by simp [EscP, escM, hu, tupOf, envOf, AV.strip, AV.strip1])
      | some u =>
        have h4 := unitG_len _ _ _ _ hu
        simp (disch := first | omega | assumption) only [Option.isSome_some, Option.getD_some, hq, go_sem, ↓reduceIte]
        refine goP_ownS (by rw [hul]; exact ho2) (by simp [hul]; omega) (by simp [maxLen, hul]; omega) fun o' H1 hs1 => ?_
        have h2 := own_keep ho2 hq hs1.kept
        simp (disch := first | omega | assumption) only [h2, cU_strip, go_sem, ↓reduceIte]
        refine hQ _ _ _ _ [_] nofun rfl (Low.refl _) ?_
        have hsp := Sep.step (a := [(o, x.b.length, 1)]) (b := []) (n := x.u.length) (n' := x.u.length + 1) (sz := 1) ⟨by intro y hy; simp at hy; rcases hy with rfl | rfl <;> assumption, ?_⟩ (by simpa [hul] using hs1)
        · simp only [EscP, escM, if_true, hu, Option.map_some]
          refine ⟨?_, o, o', ?_, ?_, ?_, ?_⟩
          · show AV.int .i64 5 = _
            simp only [List.length_cons, List.length_drop]
            congr 1; omega
          · simp [upd_same, cU]
          · exact own_upd (hsp.own (o, x.b.length, 1) (by simp)) h2
          · simp only [List.length_append, List.length_cons, List.length_nil]
            exact own_upd (hsp.own (o', x.u.length + 1, 1) (by simp)) h2
          · intro b d d2 e1 e2
            have := hsp.nd
            simp [e1, e2, tipOf] at this
        · cases h5 : tipOf o with
          | none => cases h6 : tipOf o2 <;> simp [h5, h6]
          | some b =>
            obtain ⟨d, h7⟩ := tipOf_some h5
            cases h6 : tipOf o2 with
            | none => simp [h5, h6]
            | some b2 =>
              obtain ⟨d2, h8⟩ := tipOf_some h6
              simp only [List.cons_append, List.nil_append, List.filterMap_cons, List.filterMap_nil, h5, h6, List.nodup_cons, List.mem_singleton, List.not_mem_nil, not_false_eq_true, List.nodup_nil, and_true]
              rintro rfl
              exact hne b d d2 h7 h8
    · have hp : [117].isPrefixOf (c :: t) = false := by
        simp only [List.isPrefixOf, Bool.and_true, beq_eq_false_iff_ne, ne_eq]; exact fun e => hc e.symm
      have hcl : ¬ (c :: t = []) := by simp
      have h1 : ((0 : Int) < ((t.length + 1 : Nat) : Int)) = True := eq_true (by omega)
      simp (disch := first | omega | assumption) only [hp, hcl, h1, go_sem, ↓reduceIte]
      refine goK_pure (idxByteC escL c) ?_
      have hidx := idx_le escL c
      by_cases hk : Lib.indexByte escL c < 0
      · simp (disch := first | omega | assumption) only [hk, go_sem, ↓reduceIte]
        exact hQ _ _ _ _ [_] nofun rfl (Low.refl _) (by simp [EscP, escM, hc, hk, tupOf, envOf, AV.strip, AV.strip1])
      · obtain ⟨k, hk2⟩ : ∃ k : Nat, Lib.indexByte escL c = (k : Int) := ⟨(Lib.indexByte escL c).toNat, by omega⟩
        have hk8 : k < 8 := by simp [escL] at hidx; rw [show Lib.indexByte [34, 92, 47, 98, 102, 110, 114, 116] c = (k : Int) from hk2] at hidx; omega
        have hk0 : ¬ ((k : Int) < 0) := by omega
        simp (disch := first | omega | assumption) only [hk2, hk0, go_sem, ↓reduceIte]
        refine goK_ret (flushC hs0 hw0) fun v H1 ⟨hv, o', hs1⟩ => ?_
        subst hv
        obtain ⟨hq1, ho1, _, _⟩ := hs1
        have hfw := flush_w x
        have hbl := bytesOf_len (flushM x).b
        simp only [Sd.w] at hfw
        have hk8' : ((k : Int) < 8) = True := eq_true (by omega)
        simp (disch := first | omega | assumption) only [hq1, hk8', go_sem, ↓reduceIte]
        refine goP_ownS (by rw [hbl]; exact ho1) (by simp [hbl]; omega) (by simp [maxLen, hbl]; omega) fun o3 H2 hs3 => ?_
        have hq2 := own_keep ho1 hq1 hs3.kept
        simp (disch := first | omega | assumption) only [hq2, go_sem, ↓reduceIte]
        refine hQ _ _ _ _ [_] nofun rfl (Low.refl _) ?_
        simp only [EscP, escM, hc, if_false, hk2, hk0]
        refine ⟨?_, o3, .nil, ?_, ?_, rfl, nofun⟩
        · show AV.int .i64 1 = _
          simp only [List.length_cons]
          congr 1; omega
        · simp only [upd_same, Sd.put, Int.toNat_natCast]
          rw [← bytesOf_app]; rfl
        · simp only [Sd.put, List.length_append, List.length_cons, List.length_nil]
          exact own_upd (by simpa [hbl] using hs3.own) hq2
end Go.Proofs.YtpjafglhdlfnbaaGreatDoor
namespace Go.Proofs.YtpjafglhdlfnbaaGreatDoor
open Go.Ab
def quoA (may : UInt8 → Bool) (t : List UInt8) : AV := match quoM may t with
  | some (b, t') => .tup [.str b, .int .i64 ((t.length + 1 - t'.length : Nat) : Int)]
  | none => .tup [.str [], .int .i64 0]
theorem quotedC (f : FuncId) (hf : Program.callable Tryz.prog f = true) (may : UInt8 → Bool) (hmay : ∀ c : UInt8, Pure Tryz.prog f [.int .u8 c.toNat] (.bool (may c))) (a : UInt8) (t : List UInt8) (hl : t.length + 1 ≤ LimQ) :
    Pure Tryz.prog 102 [.str (a :: t), .clo f [] []] (quoA may t) := by
  refine Pure.go ir102 ck102 (Nat.le_refl _) fun KP Q hQ => ?_
  simp only [LimQ] at hl
  simp (disch := first | omega | assumption) only [ir102, go_sem, ↓reduceIte]
  refine goA_intro fun q hq => ?_
  simp (disch := first | omega | assumption) only [go_sem, ↓reduceIte]
  obtain ⟨R, hR⟩ : ∃ R, quoG may (t.length + 1) t ⟨[], [], true⟩ = R := ⟨_, rfl⟩
  have fail : R = none → quoA may t = .tup [.str [], .int .i64 0] := fun e => by unfold quoA quoM; rw [hR, e]
  refine goL_st (fun s : List UInt8 × Sd × Own × Own => [(7, .int .i64 ((t.length + 1 - s.1.length : Nat) : Int))])
    (fun s H => s.1 <:+ t ∧ (∃ n, s.1.length < n ∧ quoG may n s.1 s.2.1 = R) ∧ s.2.1.w + s.1.length ≤ t.length ∧ SaidAt H q s.2.1 s.2.2.1 s.2.2.2) (fun s => s.1.length) (t, ⟨[], [], true⟩, .nil, .nil)
    (by have : (t.length + 1 - t.length : Nat) = 1 := by omega
        simp (disch := first | omega | assumption) only [this, go_sem, ↓reduceIte]) ⟨List.suffix_refl _, ⟨t.length + 1, by simp, hR⟩, by simp [Sd.w], upd_same .., rfl, rfl, nofun⟩ ?_
  rintro ⟨rest, x, o, o2⟩ H J ⟨hsuf, ⟨n, hn, hg⟩, hw, hs⟩ hJ
  simp only at hsuf hn hg hw hs
  have hrl := hsuf.length_le
  obtain ⟨n, rfl⟩ : ∃ k, n = k + 1 := ⟨n - 1, by omega⟩
  cases rest with
  | nil =>
    have e0 : R = none := by rw [← hg]; rfl
    have h0 : t.length + 1 - 0 = t.length + 1 := rfl
    have h1 : (((t.length + 1 : Nat) : Int) ≤ ((t.length + 1 : Nat) : Int)) = True := eq_true (Int.le_refl _)
    simp (disch := first | omega | assumption) only [h0, h1, go_sem, ↓reduceIte]
    exact hQ _ _ _ _ nofun rfl (by simp [tupOf, envOf, AV.strip, AV.strip1, fail e0])
  | cons c r =>
    obtain ⟨p, hp⟩ := hsuf
    have hpl : t.length = p.length + (r.length + 1) := by rw [← hp]; simp
    have h0 : t.length + 1 - (r.length + 1) = p.length + 1 := by omega
    have h1 : ¬ (((t.length + 1 : Nat) : Int) ≤ ((p.length + 1 : Nat) : Int)) := by omega
    have h2 : (((p.length + 1 : Nat) : Int) < ((t.length + 1 : Nat) : Int)) = True := eq_true (by omega)
    have hi : (a :: t).getD (p.length + 1) 0 = c := by rw [← hp]; simp
    have hi1 : (((p.length + 1 : Nat) : Int) + 1) = ((p.length + 1 + 1 : Nat) : Int) := by omega
    have hsr : r <:+ t := ⟨p ++ [c], by rw [← hp]; simp⟩
    simp only [quoG] at hg
    simp only [List.length_cons] at hw hn
    have hx : x.w ≤ LimQ := by simp only [LimQ]; omega
    by_cases c1 : c = 34
    · subst c1
      simp only [if_true] at hg
      have hc : (((34 : UInt8).toNat : Int) = 34) = True := eq_true rfl
      simp (disch := first | omega | assumption) only [h0, h1, h2, hi, hc, go_sem, ↓reduceIte]
      refine goK_ret (flushC hs hx) fun v H1 ⟨hv, o', hs1⟩ => ?_
      subst hv
      have hq := hs1.hq
      cases hok : (flushM x).ok
      · rw [hok] at hq
        have e0 : quoM may t = none := by unfold quoM; rw [hR, ← hg]; simp [hok]
        simp (disch := first | omega | assumption) only [hq, go_sem, ↓reduceIte]
        exact hQ _ _ _ _ nofun rfl (by simp [tupOf, envOf, AV.strip, AV.strip1, quoA, e0])
      · rw [hok] at hq
        have e0 : quoM may t = some ((flushM x).b, r) := by unfold quoM; rw [hR, ← hg]; simp [hok]
        simp (disch := first | omega | assumption) only [hq, byts_of, wrap64, go_sem, ↓reduceIte]
        have e1 : (p.length : Int) + 1 + 1 = ((t.length + 1 - r.length : Nat) : Int) := by omega
        exact hQ _ _ _ _ nofun rfl (by simp [tupOf, envOf, AV.strip, AV.strip1, quoA, e0, e1])
    have c1' : ¬ ((c.toNat : Int) = 34) := fun e => c1 (by apply UInt8.toNat_inj.1; show c.toNat = 34; omega)
    rw [if_neg c1] at hg
    by_cases c2 : c = 92
    · subst c2
      simp only [if_true] at hg
      have hc : ¬ (((92 : UInt8).toNat : Int) = 34) := by decide
      have hc2 : (((92 : UInt8).toNat : Int) = 92) = True := eq_true rfl
      have h3 : (((p.length + 1 : Nat) : Int) + 1 ≤ ((t.length + 1 : Nat) : Int)) = True := eq_true (by omega)
      have h4 : (((p.length + 1 : Nat) : Int) + 1).toNat = p.length + 2 := by omega
      have hdr : (a :: t).drop (p.length + 2) = r := by rw [← hp]; simp
      simp (disch := first | omega | assumption) only [h0, h1, h2, hi, hc, hc2, wrap64, h3, h4, hdr, go_sem, ↓reduceIte]
      refine goK_ret (escC hs hx r (by simp only [Lim]; omega)) fun v H1 he => ?_
      unfold EscP at he
      cases hm : escM x r with
      | none =>
        rw [hm] at he hg
        subst he
        simp (disch := first | omega | assumption) only [go_sem, ↓reduceIte]
        exact hQ _ _ _ _ nofun rfl (by simp [tupOf, envOf, AV.strip, AV.strip1, fail hg.symm])
      | some y =>
        obtain ⟨x', t'⟩ := y
        rw [hm] at he hg
        obtain ⟨hv, o3, o4, hs3⟩ := he
        subst hv
        have h5 := escM_suf hm
        have h6 := escM_w hm
        have h7 : ¬ (((r.length - t'.length : Nat) : Int) = 0) := by omega
        have h8 : ((p.length + 1 : Nat) : Int) + (1 + ((r.length - t'.length : Nat) : Int)) = ((t.length + 1 - t'.length : Nat) : Int) := by omega
        simp (disch := first | omega | assumption) only [h7, wrap64, h8, go_sem, ↓reduceIte]
        exact goJ (hJ (t', x', o3, o4) _ (by simp; omega) ⟨h5.1.trans hsr, ⟨n, by show t'.length < n; omega, hg⟩, by show x'.w + t'.length ≤ t.length; omega, hs3⟩) (by simp (disch := first | omega | assumption) only [go_sem, ↓reduceIte])
    have c2' : ¬ ((c.toNat : Int) = 92) := fun e => c2 (by apply UInt8.toNat_inj.1; show c.toNat = 92; omega)
    rw [if_neg c2] at hg
    simp (disch := first | omega | assumption) only [h0, h1, h2, hi, c1', c2', hf, go_sem, ↓reduceIte]
    refine goK_pure (hmay c) ?_
    cases hm : may c
    · rw [hm] at hg
      simp (disch := first | omega | assumption) only [go_sem, ↓reduceIte]
      exact hQ _ _ _ _ nofun rfl (by simp [tupOf, envOf, AV.strip, AV.strip1, fail hg.symm])
    · rw [hm] at hg
      simp only [if_true] at hg
      simp (disch := first | omega | assumption) only [go_sem, ↓reduceIte]
      refine goK_ret (flushC hs hx) fun v H1 ⟨hv, o', hs1⟩ => ?_
      subst hv
      obtain ⟨hq1, ho1, _, _⟩ := hs1
      have hfw := flush_w x
      have hpw := put_w x c
      have hbl := bytesOf_len (flushM x).b
      simp (disch := first | omega | assumption) only [hq1, h2, hi, go_sem, ↓reduceIte]
      refine goP_ownS (by rw [hbl]; exact ho1) (by simp [hbl]; omega) (by simp [maxLen, hbl]; omega) fun o3 H2 hs3 => ?_
      have hq2 := own_keep ho1 hq1 hs3.kept
      simp (disch := first | omega | assumption) only [hq2, wrap64, go_sem, ↓reduceIte]
      have h8 : ((p.length + 1 : Nat) : Int) + 1 = ((t.length + 1 - r.length : Nat) : Int) := by omega
      refine goJ (hJ (r, x.put c, o3, .nil) _ (by simp) ⟨hsr, ⟨n, by show r.length < n; omega, hg⟩, by show (x.put c).w + r.length ≤ t.length; omega, ?_, ?_, rfl, nofun⟩) (by simp (disch := first | omega | assumption) only [h8, go_sem, ↓reduceIte])
      · simp only [upd_same, Sd.put]
        rw [← bytesOf_app]; rfl
      · simp only [Sd.put, List.length_append, List.length_cons, List.length_nil]
        exact own_upd (by simpa [hbl] using hs3.own) hq2
end Go.Proofs.YtpjafglhdlfnbaaGreatDoor
namespace Go.Proofs.YtpjafglhdlfnbaaGreatDoor
open Go.Ab
def ir5 : AFn := ⟨47, 1, [.t 2], .seq (.reg [] [⟨some 1, none, .boxv (.t 0), []⟩, ⟨some 2, none, .mv (.k (.bool false)), []⟩])
 (.seq (.seq (.reg [] [⟨some 8, none, .ld 5 true (.t 1), []⟩, ⟨some 9, none, .call 16 [(.t 8)], []⟩, ⟨some 10, none, .bi .gtr .i64 (.t 9) (.k (.int .i64 3000)), []⟩])
 (.cond (.t 10) (.seq (.reg [] [⟨some 11, none, .call 12 [], []⟩, ⟨some 2, none, .mv (.t 11), []⟩])
 (.ret)) (.skip)))
 (.seq (.reg [] [⟨some 12, none, .ld 5 true (.t 1), []⟩, ⟨some 13, none, .call 17 [(.t 12)], []⟩, ⟨some 3, none, .alloc [.int .i64 0, .int .i64 0, .str [], .sl .nil 5 [], .sl .nil 6 []], []⟩, ⟨none, none, .st 5 (.t 3) (.t 13), []⟩])
 (.seq (.reg [] [⟨some 15, none, .ld 5 true (.t 3), []⟩, ⟨some 16, none, .call 18 [(.t 15)], []⟩, ⟨some 14, none, .mv (.t 16), []⟩, ⟨some 17, none, .ext (.t 14) 0, []⟩, ⟨some 18, none, .ext (.t 14) 1, []⟩, ⟨some 4, none, .mv (.t 17), []⟩, ⟨some 5, none, .mv (.t 18), []⟩])
 (.seq (.reg [] [⟨some 20, none, .ld 5 true (.t 1), []⟩, ⟨some 21, none, .call 19 [(.t 20)], []⟩, ⟨some 19, none, .mv (.t 21), []⟩, ⟨some 22, none, .ext (.t 19) 0, []⟩, ⟨some 23, none, .ext (.t 19) 1, []⟩, ⟨some 6, none, .mv (.t 22), []⟩, ⟨some 7, none, .mv (.t 23), []⟩])
 (.seq (.reg [0, 1, 2, 3, 4, 5, 6, 7, 8, 9, 11, 10, 12, 13, 14, 15, 16, 17, 18, 19, 20, 21, 22, 23] [⟨some 24, none, .mv (.t 4), []⟩, ⟨some 25, none, .mv (.t 6), []⟩, ⟨some 26, none, .bs .eql (.t 24) (.t 25), []⟩, ⟨some 27, none, .mv (.t 26), []⟩, ⟨some 28, (some (27, true)), .mv (.t 5), []⟩, ⟨some 29, (some (27, true)), .mv (.t 7), []⟩, ⟨some 30, (some (27, true)), .bb false (.t 28) (.t 29), []⟩, ⟨some 31, none, .pick (.t 27) (.t 30) (.k (.bool false)), []⟩, ⟨some 32, none, .mv (.t 31), []⟩, ⟨some 33, (some (32, true)), .ld 5 true (.t 3), []⟩, ⟨some 35, (some (32, true)), .ld 5 true (.t 1), []⟩, ⟨some 34, (some (32, true)), .call 20 [(.t 33)], [10]⟩, ⟨some 36, (some (32, true)), .call 21 [(.t 35)], []⟩, ⟨some 37, (some (32, true)), .bb false (.t 34) (.t 36), []⟩, ⟨some 38, none, .pick (.t 32) (.t 37) (.k (.bool false)), []⟩, ⟨some 39, none, .mv (.t 38), []⟩, ⟨some 40, (some (39, true)), .ld 5 true (.t 3), []⟩, ⟨some 41, (some (39, true)), .ld 5 true (.t 1), []⟩, ⟨some 42, (some (39, true)), .call 15 [(.t 40), (.t 41)], []⟩, ⟨some 43, none, .pick (.t 39) (.t 42) (.k (.bool false)), []⟩, ⟨some 44, none, .mv (.t 43), []⟩, ⟨some 45, (some (44, true)), .call 12 [], []⟩, ⟨some 46, none, .pick (.t 44) (.t 45) (.k (.bool false)), []⟩, ⟨some 2, none, .mv (.t 46), []⟩])
 (.ret))))))⟩
theorem ck5 : chkFn Tryz.prog 5 ir5 = true := by kernel_rfl
def ir6 : AFn := ⟨50, 1, [.t 2], .seq (.reg [] [⟨some 1, none, .boxv (.t 0), []⟩, ⟨some 2, none, .mv (.k (.bool false)), []⟩])
 (.seq (.seq (.reg [] [⟨some 8, none, .ld 5 true (.t 1), []⟩, ⟨some 9, none, .call 16 [(.t 8)], []⟩, ⟨some 10, none, .bi .gtr .i64 (.t 9) (.k (.int .i64 3000)), []⟩])
 (.cond (.t 10) (.seq (.reg [] [⟨some 11, none, .call 12 [], []⟩, ⟨some 2, none, .mv (.t 11), []⟩])
 (.ret)) (.skip)))
 (.seq (.reg [] [⟨some 13, none, .ld 5 true (.t 1), []⟩, ⟨some 14, none, .call 18 [(.t 13)], []⟩, ⟨some 12, none, .mv (.t 14), []⟩, ⟨some 15, none, .ext (.t 12) 0, []⟩, ⟨some 16, none, .ext (.t 12) 1, []⟩, ⟨some 3, none, .mv (.t 15), []⟩, ⟨some 4, none, .mv (.t 16), []⟩])
 (.seq (.seq (.reg [] [⟨some 17, none, .mv (.t 4), []⟩, ⟨some 18, none, .not (.t 17), []⟩])
 (.cond (.t 18) (.seq (.reg [] [⟨some 19, none, .mv (.t 3), []⟩, ⟨some 20, none, .bs .eql (.t 19) (.k (.str [])), []⟩, ⟨some 21, none, .mv (.t 20), []⟩, ⟨some 22, (some (21, true)), .call 12 [], []⟩, ⟨some 23, none, .pick (.t 21) (.t 22) (.k (.bool false)), []⟩, ⟨some 2, none, .mv (.t 23), []⟩])
 (.ret)) (.skip)))
 (.seq (.reg [] [⟨some 25, none, .mv (.t 3), []⟩, ⟨some 26, none, .call 13 [(.t 25)], []⟩, ⟨some 24, none, .mv (.t 26), []⟩, ⟨some 27, none, .ext (.t 24) 0, []⟩, ⟨some 28, none, .ext (.t 24) 1, []⟩, ⟨some 5, none, .alloc [.int .i64 0, .int .i64 0, .str [], .sl .nil 5 [], .sl .nil 6 []], []⟩, ⟨none, none, .st 5 (.t 5) (.t 27), []⟩, ⟨some 6, none, .mv (.t 28), []⟩])
 (.seq (.reg [] [⟨some 7, none, .mv (.k (.int .i64 0)), []⟩])
 (.seq (.seq (.reg [] [⟨some 29, none, .ld 5 true (.t 1), []⟩, ⟨some 30, none, .call 22 [(.t 29)], []⟩, ⟨some 31, none, .bi .gtr .i64 (.t 30) (.k (.int .i64 16)), []⟩])
 (.cond (.t 31) (.reg [] [⟨some 7, none, .mv (.k (.int .i64 4)), []⟩]) (.skip)))
 (.seq (.seq (.reg [] [⟨some 32, none, .mv (.t 3), []⟩, ⟨some 33, none, .lens (.t 32), []⟩, ⟨some 34, none, .bi .gtr .i64 (.t 33) (.k (.int .i64 8192)), []⟩])
 (.cond (.t 34) (.reg [] [⟨some 7, none, .mv (.k (.int .i64 3)), []⟩]) (.skip)))
 (.seq (.reg [] [⟨some 35, none, .mv (.t 6), []⟩, ⟨some 36, none, .mv (.t 7), []⟩, ⟨some 37, none, .bi .eql .i64 (.t 35) (.t 36), []⟩, ⟨some 38, none, .mv (.t 37), []⟩, ⟨some 39, (some (38, true)), .mv (.t 6), []⟩, ⟨some 40, (some (38, true)), .bi .neq .i64 (.t 39) (.k (.int .i64 0)), []⟩, ⟨some 41, (some (38, true)), .mv (.t 40), []⟩, ⟨some 42, (some (41, false)), .ld 5 true (.t 1), []⟩, ⟨some 43, (some (41, false)), .ld 5 true (.t 5), []⟩, ⟨some 44, (some (41, false)), .call 23 [(.t 42), (.t 43)], []⟩, ⟨some 45, (some (38, true)), .pick (.t 41) (.k (.bool true)) (.t 44), []⟩, ⟨some 46, none, .pick (.t 38) (.t 45) (.k (.bool false)), []⟩, ⟨some 47, none, .mv (.t 46), []⟩, ⟨some 48, (some (47, true)), .call 12 [], []⟩, ⟨some 49, none, .pick (.t 47) (.t 48) (.k (.bool false)), []⟩, ⟨some 2, none, .mv (.t 49), []⟩])
 (.ret)))))))))⟩
theorem ck6 : chkFn Tryz.prog 6 ir6 = true := by kernel_rfl
def ir12 : AFn := ⟨47, 0, [.t 0], .seq (.reg [] [⟨some 0, none, .mv (.k (.bool false)), []⟩])
 (.seq (.reg [] [⟨some 8, none, .call 13 [(.k (.str [123, 34, 97, 34, 58, 49, 44, 34, 92, 117, 48, 48, 54, 49, 34, 58, 50, 125]))], []⟩, ⟨some 7, none, .mv (.t 8), []⟩, ⟨some 9, none, .ext (.t 7) 0, []⟩, ⟨some 10, none, .ext (.t 7) 1, []⟩, ⟨some 1, none, .alloc [.int .i64 0, .int .i64 0, .str [], .sl .nil 5 [], .sl .nil 6 []], []⟩, ⟨none, none, .st 5 (.t 1) (.t 9), []⟩, ⟨some 2, none, .mv (.t 10), []⟩])
 (.seq (.reg [] [⟨some 12, none, .call 13 [(.k (.str [91, 49, 46, 48, 44, 45, 48, 93]))], []⟩, ⟨some 11, none, .mv (.t 12), []⟩, ⟨some 13, none, .ext (.t 11) 0, []⟩, ⟨some 14, none, .ext (.t 11) 1, []⟩, ⟨some 3, none, .alloc [.int .i64 0, .int .i64 0, .str [], .sl .nil 5 [], .sl .nil 6 []], []⟩, ⟨none, none, .st 5 (.t 3) (.t 13), []⟩, ⟨some 4, none, .mv (.t 14), []⟩])
 (.seq (.reg [] [⟨some 16, none, .ld 5 true (.t 3), []⟩, ⟨some 17, none, .call 18 [(.t 16)], []⟩, ⟨some 15, none, .mv (.t 17), []⟩, ⟨some 18, none, .ext (.t 15) 0, []⟩, ⟨some 19, none, .ext (.t 15) 1, []⟩, ⟨some 5, none, .mv (.t 18), []⟩, ⟨some 6, none, .mv (.t 19), []⟩])
 (.seq (.reg [] [⟨some 20, none, .mv (.t 2), []⟩, ⟨some 21, none, .bi .eql .i64 (.t 20) (.k (.int .i64 5)), []⟩, ⟨some 22, none, .mv (.t 21), []⟩, ⟨some 23, (some (22, true)), .mv (.t 4), []⟩, ⟨some 24, (some (22, true)), .bi .eql .i64 (.t 23) (.k (.int .i64 0)), []⟩, ⟨some 25, none, .pick (.t 22) (.t 24) (.k (.bool false)), []⟩, ⟨some 26, none, .mv (.t 25), []⟩, ⟨some 27, (some (26, true)), .fa 3 (.t 3), []⟩, ⟨some 28, (some (26, true)), .ld 1 false (.t 27), []⟩, ⟨some 29, (some (26, true)), .len (.t 28), []⟩, ⟨some 30, (some (26, true)), .bi .eql .i64 (.t 29) (.k (.int .i64 2)), []⟩, ⟨some 31, none, .pick (.t 26) (.t 30) (.k (.bool false)), []⟩, ⟨some 32, none, .mv (.t 31), []⟩, ⟨some 33, (some (32, true)), .fa 3 (.t 3), []⟩, ⟨some 34, (some (32, true)), .ld 1 false (.t 33), []⟩, ⟨some 35, (some (32, true)), .ia 5 (.t 34) (.k (.int .i64 0)), []⟩, ⟨some 36, (some (32, true)), .fa 0 (.t 35), []⟩, ⟨some 37, (some (32, true)), .ld 1 false (.t 36), []⟩, ⟨some 38, (some (32, true)), .bi .eql .i64 (.t 37) (.k (.int .i64 3)), []⟩, ⟨some 39, none, .pick (.t 32) (.t 38) (.k (.bool false)), []⟩, ⟨some 40, none, .mv (.t 39), []⟩, ⟨some 41, (some (40, true)), .mv (.t 6), []⟩, ⟨some 42, none, .pick (.t 40) (.t 41) (.k (.bool false)), []⟩, ⟨some 43, none, .mv (.t 42), []⟩, ⟨some 44, (some (43, true)), .mv (.t 5), []⟩, ⟨some 45, (some (43, true)), .bs .eql (.t 44) (.k (.str [91, 49, 46, 48, 44, 48, 93])), []⟩, ⟨some 46, none, .pick (.t 43) (.t 45) (.k (.bool false)), []⟩, ⟨some 0, none, .mv (.t 46), []⟩])
 (.ret)))))⟩
theorem ck12 : chkFn Tryz.prog 12 ir12 = true := by kernel_rfl
def ir18 : AFn := ⟨10, 1, [.t 2, .t 3], .seq (.reg [] [⟨some 1, none, .boxv (.t 0), []⟩, ⟨some 2, none, .mv (.k (.str [])), []⟩, ⟨some 3, none, .mv (.k (.bool false)), []⟩])
 (.seq (.seq (.reg [] [⟨some 4, none, .ld 5 true (.t 1), []⟩, ⟨some 5, none, .call 20 [(.t 4)], []⟩, ⟨some 6, none, .not (.t 5), []⟩])
 (.cond (.t 6) (.seq (.reg [] [⟨some 2, none, .mv (.k (.str [])), []⟩, ⟨some 3, none, .mv (.k (.bool false)), []⟩])
 (.ret)) (.skip)))
 (.seq (.reg [] [⟨some 7, none, .ld 5 true (.t 1), []⟩, ⟨some 8, none, .call 41 [(.k (.sl .nil 1 [])), (.t 7)], []⟩, ⟨some 9, none, .cvb2s (.t 8), []⟩, ⟨some 2, none, .mv (.t 9), []⟩, ⟨some 3, none, .mv (.k (.bool true)), []⟩])
 (.ret)))⟩
theorem ck18 : chkFn Tryz.prog 18 ir18 = true := by kernel_rfl
def ir19 : AFn := ⟨9, 1, [.t 2, .t 3], .seq (.reg [] [⟨some 1, none, .boxv (.t 0), []⟩, ⟨some 2, none, .mv (.k (.str [])), []⟩, ⟨some 3, none, .mv (.k (.bool false)), []⟩])
 (.seq (.seq (.reg [] [⟨some 4, none, .ld 5 true (.t 1), []⟩, ⟨some 5, none, .call 21 [(.t 4)], []⟩, ⟨some 6, none, .not (.t 5), []⟩])
 (.cond (.t 6) (.seq (.reg [] [⟨some 2, none, .mv (.k (.str [])), []⟩, ⟨some 3, none, .mv (.k (.bool false)), []⟩])
 (.ret)) (.skip)))
 (.seq (.reg [] [⟨some 7, none, .ld 5 true (.t 1), []⟩, ⟨some 8, none, .call 42 [(.t 7)], []⟩, ⟨some 2, none, .mv (.t 8), []⟩, ⟨some 3, none, .mv (.k (.bool true)), []⟩])
 (.ret)))⟩
theorem ck19 : chkFn Tryz.prog 19 ir19 = true := by kernel_rfl
def ir20 : AFn := ⟨9, 1, [.t 2], .seq (.reg [] [⟨some 1, none, .boxv (.t 0), []⟩, ⟨some 2, none, .mv (.k (.bool false)), []⟩])
 (.seq (.reg [] [⟨some 3, none, .ld 5 true (.t 1), []⟩, ⟨some 4, none, .call 43 [(.t 3)], []⟩, ⟨some 5, none, .mv (.t 4), []⟩, ⟨some 6, (some (5, true)), .ld 5 true (.t 1), []⟩, ⟨some 7, (some (5, true)), .call 44 [(.t 6)], []⟩, ⟨some 8, none, .pick (.t 5) (.t 7) (.k (.bool false)), []⟩, ⟨some 2, none, .mv (.t 8), []⟩])
 (.ret))⟩
theorem ck20 : chkFn Tryz.prog 20 ir20 = true := by kernel_rfl
def ir21 : AFn := ⟨9, 1, [.t 2], .seq (.reg [] [⟨some 1, none, .boxv (.t 0), []⟩, ⟨some 2, none, .mv (.k (.bool false)), []⟩])
 (.seq (.reg [] [⟨some 3, none, .ld 5 true (.t 1), []⟩, ⟨some 4, none, .call 45 [(.t 3)], []⟩, ⟨some 5, none, .mv (.t 4), []⟩, ⟨some 6, (some (5, true)), .ld 5 true (.t 1), []⟩, ⟨some 7, (some (5, true)), .call 46 [(.t 6)], []⟩, ⟨some 8, none, .pick (.t 5) (.t 7) (.k (.bool false)), []⟩, ⟨some 2, none, .mv (.t 8), []⟩])
 (.ret))⟩
theorem ck21 : chkFn Tryz.prog 21 ir21 = true := by kernel_rfl
def ir33 : AFn := ⟨78, 1, [.c 2 5 true], .seq (.reg [] [⟨some 2, none, .alloc [.int .i64 0, .int .i64 0, .str [], .sl .nil 5 [], .sl .nil 6 []], []⟩])
 (.seq (.reg [] [⟨some 4, none, .mv (.t 0), []⟩, ⟨some 5, none, .call 34 [(.t 4)], []⟩])
 (.seq (.reg [] [⟨some 3, none, .mv (.k (.str [])), []⟩])
 (.seq (.seq (.reg [0, 1, 2, 3, 4, 5, 6, 7, 8, 9] [⟨some 6, none, .mv (.t 0), []⟩, ⟨some 7, none, .nilchk (.t 6), []⟩, ⟨some 8, none, .fa 1 (.t 7), []⟩, ⟨some 9, none, .ld 1 false (.t 8), []⟩, ⟨some 10, none, .mv (.t 0), []⟩, ⟨some 11, none, .nilchk (.t 10), []⟩, ⟨some 12, none, .fa 0 (.t 11), []⟩, ⟨some 13, none, .ld 1 false (.t 12), []⟩, ⟨some 14, none, .lens (.t 13), []⟩, ⟨some 15, none, .bi .lss .i64 (.t 9) (.t 14), []⟩])
 (.cond (.t 15) (.reg [0, 1, 2, 3, 4, 5, 6, 7, 8, 9, 10, 11, 12, 13, 14] [⟨some 16, none, .mv (.t 0), []⟩, ⟨some 17, none, .nilchk (.t 16), []⟩, ⟨some 18, none, .fa 0 (.t 17), []⟩, ⟨some 19, none, .ld 1 false (.t 18), []⟩, ⟨some 20, none, .mv (.t 0), []⟩, ⟨some 21, none, .nilchk (.t 20), []⟩, ⟨some 22, none, .fa 1 (.t 21), []⟩, ⟨some 23, none, .ld 1 false (.t 22), []⟩, ⟨some 24, none, .mv (.t 0), []⟩, ⟨some 25, none, .nilchk (.t 24), []⟩, ⟨some 26, none, .fa 1 (.t 25), []⟩, ⟨some 27, none, .ld 1 false (.t 26), []⟩, ⟨some 28, none, .bi .add .i64 (.t 27) (.k (.int .i64 1)), []⟩, ⟨some 29, none, .sls (.t 19) (some (.t 23)) (some (.t 28)), []⟩, ⟨some 3, none, .mv (.t 29), []⟩]) (.skip)))
 (.seq (.block 0 (.seq (.reg [] [⟨some 31, none, .mv (.t 3), []⟩, ⟨some 32, none, .bs .eql (.t 31) (.k (.str [123])), []⟩, ⟨some 33, none, .mv (.t 32), []⟩, ⟨some 34, (some (33, false)), .mv (.t 3), []⟩, ⟨some 35, (some (33, false)), .bs .eql (.t 34) (.k (.str [91])), []⟩, ⟨some 36, none, .pick (.t 33) (.k (.bool true)) (.t 35), []⟩, ⟨some 30, none, .mv (.t 36), []⟩])
 (.cond (.t 30) (.seq (.reg [] [⟨some 37, none, .mv (.t 0), []⟩, ⟨some 38, none, .call 59 [(.t 37)], []⟩])
 (.seq (.reg [] [⟨some 39, none, .mv (.t 0), []⟩, ⟨some 40, none, .nilchk (.t 39), []⟩, ⟨some 41, none, .fa 1 (.t 40), []⟩, ⟨some 42, none, .ld 1 false (.t 41), []⟩, ⟨some 43, none, .bi .add .i64 (.t 42) (.k (.int .i64 1)), []⟩, ⟨some 44, none, .nilchk (.t 39), []⟩, ⟨some 45, none, .fa 1 (.t 44), []⟩, ⟨none, none, .st 1 (.t 45) (.t 43), []⟩])
 (.seq (.seq (.reg [] [⟨some 46, none, .mv (.t 3), []⟩, ⟨some 47, none, .bs .eql (.t 46) (.k (.str [123])), []⟩])
 (.cond (.t 47) (.seq (.reg [] [⟨some 48, none, .mv (.t 0), []⟩, ⟨some 49, none, .call 60 [(.t 48)], []⟩, ⟨none, none, .st 5 (.t 2) (.t 49), []⟩])
 (.ret)) (.skip)))
 (.seq (.reg [] [⟨some 50, none, .mv (.t 0), []⟩, ⟨some 51, none, .call 61 [(.t 50)], []⟩, ⟨none, none, .st 5 (.t 2) (.t 51), []⟩])
 (.ret))))) (.seq (.reg [] [⟨some 53, none, .mv (.t 3), []⟩, ⟨some 54, none, .bs .eql (.t 53) (.k (.str [34])), []⟩, ⟨some 52, none, .mv (.t 54), []⟩])
 (.cond (.t 52) (.seq (.reg [] [⟨some 55, none, .mv (.t 0), []⟩, ⟨some 56, none, .call 63 [(.t 55)], []⟩, ⟨some 57, none, .call 62 [(.t 56)], []⟩, ⟨none, none, .st 5 (.t 2) (.t 57), []⟩])
 (.ret)) (.seq (.reg [] [⟨some 59, none, .mv (.t 3), []⟩, ⟨some 60, none, .bs .neq (.t 59) (.k (.str [])), []⟩, ⟨some 61, none, .mv (.t 60), []⟩, ⟨some 62, (some (61, true)), .mv (.t 3), []⟩, ⟨some 63, (some (61, true)), .call 64 [(.k (.str [45, 48, 49, 50, 51, 52, 53, 54, 55, 56, 57])), (.t 62)], []⟩, ⟨some 64, none, .pick (.t 61) (.t 63) (.k (.bool false)), []⟩, ⟨some 58, none, .mv (.t 64), []⟩])
 (.cond (.t 58) (.seq (.reg [] [⟨some 65, none, .mv (.t 0), []⟩, ⟨some 66, none, .call 65 [(.t 65)], []⟩, ⟨none, none, .st 5 (.t 2) (.t 66), []⟩])
 (.ret)) (.seq (.reg [] [⟨some 68, none, .mv (.t 0), []⟩, ⟨some 69, none, .call 66 [(.t 68), (.k (.str [110, 117, 108, 108]))], []⟩, ⟨some 67, none, .mv (.t 69), []⟩])
 (.cond (.t 67) (.seq (.reg [] [⟨some 70, none, .bld [.int .i64 0, .int .i64 0, .str [], .sl .nil 5 [], .sl .nil 6 []] [], []⟩, ⟨none, none, .st 5 (.t 2) (.t 70), []⟩])
 (.ret)) (.seq (.reg [] [⟨some 72, none, .mv (.t 0), []⟩, ⟨some 73, none, .call 66 [(.t 72), (.k (.str [116, 114, 117, 101]))], []⟩, ⟨some 71, none, .mv (.t 73), []⟩])
 (.cond (.t 71) (.seq (.reg [] [⟨some 74, none, .bld [.int .i64 0, .int .i64 0, .str [], .sl .nil 5 [], .sl .nil 6 []] [(0, 1, (.k (.int .i64 1))), (1, 1, (.k (.int .i64 1)))], []⟩, ⟨none, none, .st 5 (.t 2) (.t 74), []⟩])
 (.ret)) (.skip))))))))))))
 (.seq (.reg [] [⟨some 75, none, .mv (.t 0), []⟩, ⟨some 76, none, .call 67 [(.t 75), (.k (.str [102, 97, 108, 115, 101]))], []⟩])
 (.seq (.reg [] [⟨some 77, none, .bld [.int .i64 0, .int .i64 0, .str [], .sl .nil 5 [], .sl .nil 6 []] [(0, 1, (.k (.int .i64 1)))], []⟩, ⟨none, none, .st 5 (.t 2) (.t 77), []⟩])
 (.ret)))))))⟩
theorem ck33 : chkFn Tryz.prog 33 ir33 = true := by kernel_rfl
def ir34 : AFn := ⟨32, 1, [], .block 0 (.loop [0] (.seq (.seq (.reg [0, 1, 2, 3, 4, 5, 6, 7, 8, 9, 10, 11, 12, 13, 14, 15, 16, 17, 18, 19, 20, 21, 22] [⟨some 2, none, .mv (.t 0), []⟩, ⟨some 3, none, .nilchk (.t 2), []⟩, ⟨some 4, none, .fa 1 (.t 3), []⟩, ⟨some 5, none, .ld 1 false (.t 4), []⟩, ⟨some 6, none, .mv (.t 0), []⟩, ⟨some 7, none, .nilchk (.t 6), []⟩, ⟨some 8, none, .fa 0 (.t 7), []⟩, ⟨some 9, none, .ld 1 false (.t 8), []⟩, ⟨some 10, none, .lens (.t 9), []⟩, ⟨some 11, none, .bi .lss .i64 (.t 5) (.t 10), []⟩, ⟨some 12, none, .mv (.t 11), []⟩, ⟨some 13, (some (12, true)), .mv (.t 0), []⟩, ⟨some 14, (some (12, true)), .nilchk (.t 13), []⟩, ⟨some 15, (some (12, true)), .fa 0 (.t 14), []⟩, ⟨some 16, (some (12, true)), .ld 1 false (.t 15), []⟩, ⟨some 17, (some (12, true)), .mv (.t 0), []⟩, ⟨some 18, (some (12, true)), .nilchk (.t 17), []⟩, ⟨some 19, (some (12, true)), .fa 1 (.t 18), []⟩, ⟨some 20, (some (12, true)), .ld 1 false (.t 19), []⟩, ⟨some 21, (some (12, true)), .ixs (.t 16) (.t 20), []⟩, ⟨some 22, (some (12, true)), .call 68 [(.k (.str [9, 10, 13, 32])), (.t 21)], []⟩, ⟨some 23, (some (12, true)), .bi .geq .i64 (.t 22) (.k (.int .i64 0)), []⟩, ⟨some 24, none, .pick (.t 12) (.t 23) (.k (.bool false)), []⟩])
 (.cond (.t 24) (.skip) (.exit 0)))
 (.block 1 (.reg [] [⟨some 25, none, .mv (.t 0), []⟩, ⟨some 26, none, .nilchk (.t 25), []⟩, ⟨some 27, none, .fa 1 (.t 26), []⟩, ⟨some 28, none, .ld 1 false (.t 27), []⟩, ⟨some 29, none, .bi .add .i64 (.t 28) (.k (.int .i64 1)), []⟩, ⟨some 30, none, .nilchk (.t 25), []⟩, ⟨some 31, none, .fa 1 (.t 30), []⟩, ⟨none, none, .st 1 (.t 31) (.t 29), []⟩]))))⟩
theorem ck34 : chkFn Tryz.prog 34 ir34 = true := by kernel_rfl
def ir35 : AFn := ⟨7, 2, [], .reg [] [⟨some 4, none, .mv (.t 1), []⟩, ⟨some 5, none, .bld [.int .i64 0] [(0, 1, (.t 4))], []⟩, ⟨some 6, none, .mki 55 (.t 5), []⟩, ⟨none, none, .pan (.t 6), []⟩]⟩
theorem ck35 : chkFn Tryz.prog 35 ir35 = true := by kernel_rfl
def ir41 : AFn := ⟨94, 2, [.t 4], .seq (.reg [] [⟨some 3, none, .boxv (.t 1), []⟩, ⟨some 4, none, .mv (.k (.sl .nil 1 [])), []⟩])
 (.seq (.seq (.reg [] [⟨some 9, none, .fa 0 (.t 3), []⟩, ⟨some 10, none, .ld 1 false (.t 9), []⟩])
 (.block 0 (.seq (.reg [] [⟨some 12, none, .bi .eql .i64 (.t 10) (.k (.int .i64 0)), []⟩, ⟨some 11, none, .mv (.t 12), []⟩])
 (.cond (.t 11) (.seq (.reg [] [⟨some 13, none, .mv (.t 0), []⟩, ⟨some 14, none, .apps (.t 13) (.k (.str [110, 117, 108, 108])), []⟩, ⟨some 4, none, .mv (.t 14), []⟩])
 (.ret)) (.seq (.reg [] [⟨some 16, none, .bi .eql .i64 (.t 10) (.k (.int .i64 1)), []⟩, ⟨some 15, none, .mv (.t 16), []⟩])
 (.cond (.t 15) (.seq (.reg [] [⟨some 17, none, .mv (.t 0), []⟩, ⟨some 18, none, .fa 1 (.t 3), []⟩, ⟨some 19, none, .ld 1 false (.t 18), []⟩, ⟨some 20, none, .bi .eql .i64 (.t 19) (.k (.int .i64 1)), []⟩, ⟨some 21, none, .call 77 [(.t 17), (.t 20)], []⟩, ⟨some 4, none, .mv (.t 21), []⟩])
 (.ret)) (.seq (.reg [] [⟨some 23, none, .bi .eql .i64 (.t 10) (.k (.int .i64 2)), []⟩, ⟨some 22, none, .mv (.t 23), []⟩])
 (.cond (.t 22) (.seq (.reg [] [⟨some 24, none, .mv (.t 0), []⟩, ⟨some 25, none, .fa 1 (.t 3), []⟩, ⟨some 26, none, .ld 1 false (.t 25), []⟩, ⟨some 27, none, .call 78 [(.t 24), (.t 26), (.k (.int .i64 10))], []⟩, ⟨some 4, none, .mv (.t 27), []⟩])
 (.ret)) (.seq (.reg [] [⟨some 29, none, .bi .eql .i64 (.t 10) (.k (.int .i64 3)), []⟩, ⟨some 28, none, .mv (.t 29), []⟩])
 (.cond (.t 28) (.seq (.reg [] [⟨some 30, none, .mv (.t 0), []⟩, ⟨some 31, none, .fa 2 (.t 3), []⟩, ⟨some 32, none, .ld 1 false (.t 31), []⟩, ⟨some 33, none, .apps (.t 30) (.t 32), []⟩, ⟨some 4, none, .mv (.t 33), []⟩])
 (.ret)) (.seq (.reg [] [⟨some 35, none, .bi .eql .i64 (.t 10) (.k (.int .i64 4)), []⟩, ⟨some 34, none, .mv (.t 35), []⟩])
 (.cond (.t 34) (.seq (.reg [] [⟨some 36, none, .mv (.t 0), []⟩, ⟨some 37, none, .fa 2 (.t 3), []⟩, ⟨some 38, none, .ld 1 false (.t 37), []⟩, ⟨some 39, none, .call 79 [(.t 36), (.t 38)], []⟩, ⟨some 4, none, .mv (.t 39), []⟩])
 (.ret)) (.seq (.reg [] [⟨some 41, none, .bi .eql .i64 (.t 10) (.k (.int .i64 6)), []⟩, ⟨some 40, none, .mv (.t 41), []⟩])
 (.cond (.t 40) (.seq (.reg [] [⟨some 42, none, .mv (.t 0), []⟩, ⟨some 43, none, .bls 1 1 [.int .u8 0] [(0, (.k (.int .u8 91)))], []⟩, ⟨some 44, none, .app 1 1 (.t 42) (.t 43), []⟩, ⟨some 0, none, .mv (.t 44), []⟩])
 (.seq (.seq (.reg [] [⟨some 45, none, .fa 3 (.t 3), []⟩, ⟨some 46, none, .ld 1 false (.t 45), []⟩, ⟨some 47, none, .len (.t 46), []⟩, ⟨some 48, none, .mv (.k (.int .i64 0)), []⟩])
 (.block 1 (.loop [0, 46, 47, 48] (.seq (.reg [] [⟨some 49, none, .bi .lss .i64 (.t 48) (.t 47), []⟩])
 (.seq (.cond (.t 49) (.skip) (.exit 1))
 (.seq (.block 2 (.seq (.reg [] [⟨some 50, none, .mv (.t 48), []⟩, ⟨some 51, none, .ia 5 (.t 46) (.t 48), []⟩, ⟨some 52, none, .ld 5 true (.t 51), []⟩, ⟨some 6, none, .alloc [.int .i64 0, .int .i64 0, .str [], .sl .nil 5 [], .sl .nil 6 []], []⟩, ⟨some 5, none, .mv (.t 50), []⟩, ⟨none, none, .st 5 (.t 6) (.t 52), []⟩])
 (.seq (.seq (.reg [] [⟨some 53, none, .mv (.t 5), []⟩, ⟨some 54, none, .bi .gtr .i64 (.t 53) (.k (.int .i64 0)), []⟩])
 (.cond (.t 54) (.reg [] [⟨some 55, none, .mv (.t 0), []⟩, ⟨some 56, none, .bls 1 1 [.int .u8 0] [(0, (.k (.int .u8 44)))], []⟩, ⟨some 57, none, .app 1 1 (.t 55) (.t 56), []⟩, ⟨some 0, none, .mv (.t 57), []⟩]) (.skip)))
 (.reg [] [⟨some 58, none, .mv (.t 0), []⟩, ⟨some 59, none, .ld 5 true (.t 6), []⟩, ⟨some 60, none, .call 41 [(.t 58), (.t 59)], []⟩, ⟨some 0, none, .mv (.t 60), []⟩]))))
 (.reg [] [⟨some 61, none, .bi .add .i64 (.t 48) (.k (.int .i64 1)), []⟩, ⟨some 48, none, .mv (.t 61), []⟩])))))))
 (.seq (.reg [] [⟨some 62, none, .mv (.t 0), []⟩, ⟨some 63, none, .bls 1 1 [.int .u8 0] [(0, (.k (.int .u8 93)))], []⟩, ⟨some 64, none, .app 1 1 (.t 62) (.t 63), []⟩, ⟨some 4, none, .mv (.t 64), []⟩])
 (.ret)))) (.skip)))))))))))))))
 (.seq (.reg [] [⟨some 65, none, .mv (.t 0), []⟩, ⟨some 66, none, .bls 1 1 [.int .u8 0] [(0, (.k (.int .u8 123)))], []⟩, ⟨some 67, none, .app 1 1 (.t 65) (.t 66), []⟩, ⟨some 0, none, .mv (.t 67), []⟩])
 (.seq (.seq (.reg [] [⟨some 68, none, .fa 4 (.t 3), []⟩, ⟨some 69, none, .ld 1 false (.t 68), []⟩, ⟨some 70, none, .len (.t 69), []⟩, ⟨some 71, none, .mv (.k (.int .i64 0)), []⟩])
 (.block 3 (.loop [0, 69, 70, 71] (.seq (.reg [] [⟨some 72, none, .bi .lss .i64 (.t 71) (.t 70), []⟩])
 (.seq (.cond (.t 72) (.skip) (.exit 3))
 (.seq (.block 4 (.seq (.reg [] [⟨some 73, none, .mv (.t 71), []⟩, ⟨some 74, none, .ia 6 (.t 69) (.t 71), []⟩, ⟨some 75, none, .ld 6 true (.t 74), []⟩, ⟨some 8, none, .alloc [.str [], .int .i64 0, .int .i64 0, .str [], .sl .nil 5 [], .sl .nil 6 []], []⟩, ⟨some 7, none, .mv (.t 73), []⟩, ⟨none, none, .st 6 (.t 8) (.t 75), []⟩])
 (.seq (.seq (.reg [] [⟨some 76, none, .mv (.t 7), []⟩, ⟨some 77, none, .bi .gtr .i64 (.t 76) (.k (.int .i64 0)), []⟩])
 (.cond (.t 77) (.reg [] [⟨some 78, none, .mv (.t 0), []⟩, ⟨some 79, none, .bls 1 1 [.int .u8 0] [(0, (.k (.int .u8 44)))], []⟩, ⟨some 80, none, .app 1 1 (.t 78) (.t 79), []⟩, ⟨some 0, none, .mv (.t 80), []⟩]) (.skip)))
 (.reg [0, 1, 2, 4, 6, 7, 3, 5, 8, 9] [⟨some 81, none, .mv (.t 0), []⟩, ⟨some 82, none, .fa 0 (.t 8), []⟩, ⟨some 83, none, .ld 1 false (.t 82), []⟩, ⟨some 85, none, .bls 1 1 [.int .u8 0] [(0, (.k (.int .u8 58)))], []⟩, ⟨some 87, none, .fa 1 (.t 8), []⟩, ⟨some 88, none, .ld 5 true (.t 87), []⟩, ⟨some 84, none, .call 79 [(.t 81), (.t 83)], [5]⟩, ⟨some 86, none, .app 1 1 (.t 84) (.t 85), [5]⟩, ⟨some 89, none, .call 41 [(.t 86), (.t 88)], []⟩, ⟨some 0, none, .mv (.t 89), []⟩]))))
 (.reg [] [⟨some 90, none, .bi .add .i64 (.t 71) (.k (.int .i64 1)), []⟩, ⟨some 71, none, .mv (.t 90), []⟩])))))))
 (.seq (.reg [] [⟨some 91, none, .mv (.t 0), []⟩, ⟨some 92, none, .bls 1 1 [.int .u8 0] [(0, (.k (.int .u8 125)))], []⟩, ⟨some 93, none, .app 1 1 (.t 91) (.t 92), []⟩, ⟨some 4, none, .mv (.t 93), []⟩])
 (.ret)))))⟩
theorem ck41 : chkFn Tryz.prog 41 ir41 = true := by kernel_rfl
def ir42 : AFn := ⟨84, 1, [.t 2], .seq (.reg [] [⟨some 1, none, .boxv (.t 0), []⟩, ⟨some 2, none, .mv (.k (.str [])), []⟩])
 (.seq (.seq (.reg [] [⟨some 7, none, .fa 0 (.t 1), []⟩, ⟨some 8, none, .ld 1 false (.t 7), []⟩])
 (.block 0 (.seq (.reg [] [⟨some 10, none, .bi .eql .i64 (.t 8) (.k (.int .i64 1)), []⟩, ⟨some 9, none, .mv (.t 10), []⟩])
 (.cond (.t 9) (.seq (.seq (.reg [] [⟨some 11, none, .fa 1 (.t 1), []⟩, ⟨some 12, none, .ld 1 false (.t 11), []⟩, ⟨some 13, none, .bi .eql .i64 (.t 12) (.k (.int .i64 1)), []⟩])
 (.cond (.t 13) (.seq (.reg [] [⟨some 2, none, .mv (.k (.str [116, 114, 117, 101])), []⟩])
 (.ret)) (.skip)))
 (.seq (.reg [] [⟨some 2, none, .mv (.k (.str [102, 97, 108, 115, 101])), []⟩])
 (.ret))) (.seq (.reg [] [⟨some 15, none, .bi .eql .i64 (.t 8) (.k (.int .i64 2)), []⟩, ⟨some 14, none, .mv (.t 15), []⟩])
 (.cond (.t 14) (.seq (.reg [] [⟨some 16, none, .fa 1 (.t 1), []⟩, ⟨some 17, none, .ld 1 false (.t 16), []⟩, ⟨some 18, none, .call 80 [(.t 17)], []⟩, ⟨some 2, none, .mv (.t 18), []⟩])
 (.ret)) (.seq (.reg [] [⟨some 20, none, .bi .eql .i64 (.t 8) (.k (.int .i64 3)), []⟩, ⟨some 19, none, .mv (.t 20), []⟩])
 (.cond (.t 19) (.seq (.reg [] [⟨some 21, none, .fa 2 (.t 1), []⟩, ⟨some 22, none, .ld 1 false (.t 21), []⟩, ⟨some 2, none, .mv (.t 22), []⟩])
 (.ret)) (.seq (.reg [] [⟨some 24, none, .bi .eql .i64 (.t 8) (.k (.int .i64 4)), []⟩, ⟨some 23, none, .mv (.t 24), []⟩])
 (.cond (.t 23) (.seq (.reg [] [⟨some 25, none, .fa 2 (.t 1), []⟩, ⟨some 26, none, .ld 1 false (.t 25), []⟩, ⟨some 27, none, .call 81 [(.t 26)], []⟩, ⟨some 2, none, .mv (.t 27), []⟩])
 (.ret)) (.seq (.reg [] [⟨some 29, none, .bi .eql .i64 (.t 8) (.k (.int .i64 6)), []⟩, ⟨some 28, none, .mv (.t 29), []⟩])
 (.cond (.t 28) (.seq (.reg [] [⟨some 3, none, .mv (.k (.str [91])), []⟩])
 (.seq (.seq (.reg [] [⟨some 4, none, .mv (.k (.int .i64 0)), []⟩])
 (.block 1 (.loop [1, 3, 4] (.seq (.seq (.reg [] [⟨some 30, none, .mv (.t 4), []⟩, ⟨some 31, none, .fa 3 (.t 1), []⟩, ⟨some 32, none, .ld 1 false (.t 31), []⟩, ⟨some 33, none, .len (.t 32), []⟩, ⟨some 34, none, .bi .lss .i64 (.t 30) (.t 33), []⟩])
 (.cond (.t 34) (.skip) (.exit 1)))
 (.seq (.block 2 (.seq (.seq (.reg [] [⟨some 37, none, .mv (.t 4), []⟩, ⟨some 38, none, .bi .gtr .i64 (.t 37) (.k (.int .i64 0)), []⟩])
 (.cond (.t 38) (.reg [] [⟨some 39, none, .mv (.t 3), []⟩, ⟨some 40, none, .bs .add (.t 39) (.k (.str [44])), []⟩, ⟨some 3, none, .mv (.t 40), []⟩]) (.skip)))
 (.reg [] [⟨some 41, none, .mv (.t 3), []⟩, ⟨some 42, none, .fa 3 (.t 1), []⟩, ⟨some 43, none, .ld 1 false (.t 42), []⟩, ⟨some 44, none, .mv (.t 4), []⟩, ⟨some 45, none, .ia 5 (.t 43) (.t 44), []⟩, ⟨some 46, none, .ld 5 true (.t 45), []⟩, ⟨some 47, none, .call 42 [(.t 46)], []⟩, ⟨some 48, none, .bs .add (.t 41) (.t 47), []⟩, ⟨some 3, none, .mv (.t 48), []⟩])))
 (.reg [] [⟨some 35, none, .mv (.t 4), []⟩, ⟨some 36, none, .bi .add .i64 (.t 35) (.k (.int .i64 1)), []⟩, ⟨some 4, none, .mv (.t 36), []⟩]))))))
 (.seq (.reg [] [⟨some 49, none, .mv (.t 3), []⟩, ⟨some 50, none, .bs .add (.t 49) (.k (.str [93])), []⟩, ⟨some 2, none, .mv (.t 50), []⟩])
 (.ret)))) (.seq (.reg [] [⟨some 52, none, .bi .eql .i64 (.t 8) (.k (.int .i64 7)), []⟩, ⟨some 51, none, .mv (.t 52), []⟩])
 (.cond (.t 51) (.seq (.reg [] [⟨some 5, none, .mv (.k (.str [123])), []⟩])
 (.seq (.seq (.reg [] [⟨some 6, none, .mv (.k (.int .i64 0)), []⟩])
 (.block 3 (.loop [1, 5, 6] (.seq (.seq (.reg [] [⟨some 53, none, .mv (.t 6), []⟩, ⟨some 54, none, .fa 4 (.t 1), []⟩, ⟨some 55, none, .ld 1 false (.t 54), []⟩, ⟨some 56, none, .len (.t 55), []⟩, ⟨some 57, none, .bi .lss .i64 (.t 53) (.t 56), []⟩])
 (.cond (.t 57) (.skip) (.exit 3)))
 (.seq (.block 4 (.seq (.seq (.reg [] [⟨some 60, none, .mv (.t 6), []⟩, ⟨some 61, none, .bi .gtr .i64 (.t 60) (.k (.int .i64 0)), []⟩])
 (.cond (.t 61) (.reg [] [⟨some 62, none, .mv (.t 5), []⟩, ⟨some 63, none, .bs .add (.t 62) (.k (.str [44])), []⟩, ⟨some 5, none, .mv (.t 63), []⟩]) (.skip)))
 (.reg [0, 1, 2, 3, 4, 5, 6, 10, 11, 12, 13, 14, 15, 7, 8, 9, 16, 17, 18] [⟨some 64, none, .mv (.t 5), []⟩, ⟨some 65, none, .fa 4 (.t 1), []⟩, ⟨some 66, none, .ld 1 false (.t 65), []⟩, ⟨some 67, none, .mv (.t 6), []⟩, ⟨some 68, none, .ia 6 (.t 66) (.t 67), []⟩, ⟨some 69, none, .fa 0 (.t 68), []⟩, ⟨some 70, none, .ld 1 false (.t 69), []⟩, ⟨some 74, none, .fa 4 (.t 1), []⟩, ⟨some 75, none, .ld 1 false (.t 74), []⟩, ⟨some 76, none, .mv (.t 6), []⟩, ⟨some 77, none, .ia 6 (.t 75) (.t 76), []⟩, ⟨some 78, none, .fa 1 (.t 77), []⟩, ⟨some 79, none, .ld 5 true (.t 78), []⟩, ⟨some 71, none, .call 81 [(.t 70)], [8, 12]⟩, ⟨some 72, none, .bs .add (.t 64) (.t 71), []⟩, ⟨some 73, none, .bs .add (.t 72) (.k (.str [58])), []⟩, ⟨some 80, none, .call 42 [(.t 79)], []⟩, ⟨some 81, none, .bs .add (.t 73) (.t 80), []⟩, ⟨some 5, none, .mv (.t 81), []⟩])))
 (.reg [] [⟨some 58, none, .mv (.t 6), []⟩, ⟨some 59, none, .bi .add .i64 (.t 58) (.k (.int .i64 1)), []⟩, ⟨some 6, none, .mv (.t 59), []⟩]))))))
 (.seq (.reg [] [⟨some 82, none, .mv (.t 5), []⟩, ⟨some 83, none, .bs .add (.t 82) (.k (.str [125])), []⟩, ⟨some 2, none, .mv (.t 83), []⟩])
 (.ret)))) (.skip)))))))))))))))
 (.seq (.reg [] [⟨some 2, none, .mv (.k (.str [110, 117, 108, 108])), []⟩])
 (.ret)))⟩
theorem ck42 : chkFn Tryz.prog 42 ir42 = true := by kernel_rfl
def ir44 : AFn := ⟨49, 1, [.t 2], .seq (.reg [] [⟨some 1, none, .boxv (.t 0), []⟩, ⟨some 2, none, .mv (.k (.bool false)), []⟩])
 (.seq (.seq (.reg [] [⟨some 8, none, .fa 0 (.t 1), []⟩, ⟨some 9, none, .ld 1 false (.t 8), []⟩, ⟨some 10, none, .bi .eql .i64 (.t 9) (.k (.int .i64 5)), []⟩, ⟨some 11, none, .mv (.t 10), []⟩, ⟨some 12, (some (11, false)), .fa 0 (.t 1), []⟩, ⟨some 13, (some (11, false)), .ld 1 false (.t 12), []⟩, ⟨some 14, (some (11, false)), .bi .eql .i64 (.t 13) (.k (.int .i64 8)), []⟩, ⟨some 15, none, .pick (.t 11) (.k (.bool true)) (.t 14), []⟩])
 (.cond (.t 15) (.seq (.reg [] [⟨some 2, none, .mv (.k (.bool false)), []⟩])
 (.ret)) (.skip)))
 (.seq (.seq (.reg [] [⟨some 16, none, .fa 3 (.t 1), []⟩, ⟨some 17, none, .ld 1 false (.t 16), []⟩, ⟨some 18, none, .len (.t 17), []⟩, ⟨some 19, none, .mv (.k (.int .i64 0)), []⟩])
 (.block 0 (.loop [1, 17, 18, 19] (.seq (.reg [] [⟨some 20, none, .bi .lss .i64 (.t 19) (.t 18), []⟩])
 (.seq (.cond (.t 20) (.skip) (.exit 0))
 (.seq (.block 1 (.seq (.reg [] [⟨some 21, none, .ia 5 (.t 17) (.t 19), []⟩, ⟨some 22, none, .ld 5 true (.t 21), []⟩, ⟨some 4, none, .alloc [.int .i64 0, .int .i64 0, .str [], .sl .nil 5 [], .sl .nil 6 []], []⟩, ⟨none, none, .st 5 (.t 4) (.t 22), []⟩])
 (.seq (.reg [] [⟨some 23, none, .ld 5 true (.t 4), []⟩, ⟨some 24, none, .call 44 [(.t 23)], []⟩, ⟨some 25, none, .not (.t 24), []⟩])
 (.cond (.t 25) (.seq (.reg [] [⟨some 2, none, .mv (.k (.bool false)), []⟩])
 (.ret)) (.skip)))))
 (.reg [] [⟨some 26, none, .bi .add .i64 (.t 19) (.k (.int .i64 1)), []⟩, ⟨some 19, none, .mv (.t 26), []⟩])))))))
 (.seq (.reg [] [⟨some 27, none, .mkm (.one .s), []⟩, ⟨some 5, none, .mv (.t 27), []⟩])
 (.seq (.seq (.reg [] [⟨some 28, none, .fa 4 (.t 1), []⟩, ⟨some 29, none, .ld 1 false (.t 28), []⟩, ⟨some 30, none, .len (.t 29), []⟩, ⟨some 31, none, .mv (.k (.int .i64 0)), []⟩])
 (.block 2 (.loop [5, 29, 30, 31] (.seq (.reg [] [⟨some 32, none, .bi .lss .i64 (.t 31) (.t 30), []⟩])
 (.seq (.cond (.t 32) (.skip) (.exit 2))
 (.seq (.block 3 (.seq (.reg [] [⟨some 33, none, .ia 6 (.t 29) (.t 31), []⟩, ⟨some 34, none, .ld 6 true (.t 33), []⟩, ⟨some 7, none, .alloc [.str [], .int .i64 0, .int .i64 0, .str [], .sl .nil 5 [], .sl .nil 6 []], []⟩, ⟨none, none, .st 6 (.t 7) (.t 34), []⟩])
 (.seq (.seq (.reg [] [⟨some 35, none, .mv (.t 5), []⟩, ⟨some 36, none, .fa 0 (.t 7), []⟩, ⟨some 37, none, .ld 1 false (.t 36), []⟩, ⟨some 38, none, .lkp (.one .s) (.bool false) false (.t 35) (.t 37), []⟩, ⟨some 39, none, .mv (.t 38), []⟩, ⟨some 40, (some (39, false)), .fa 1 (.t 7), []⟩, ⟨some 41, (some (39, false)), .ld 5 true (.t 40), []⟩, ⟨some 42, (some (39, false)), .call 44 [(.t 41)], []⟩, ⟨some 43, (some (39, false)), .not (.t 42), []⟩, ⟨some 44, none, .pick (.t 39) (.k (.bool true)) (.t 43), []⟩])
 (.cond (.t 44) (.seq (.reg [] [⟨some 2, none, .mv (.k (.bool false)), []⟩])
 (.ret)) (.skip)))
 (.reg [] [⟨some 45, none, .mv (.t 5), []⟩, ⟨some 46, none, .fa 0 (.t 7), []⟩, ⟨some 47, none, .ld 1 false (.t 46), []⟩, ⟨none, none, .mup (.one .s) (.t 45) (.t 47) (.k (.bool true)), []⟩]))))
 (.reg [] [⟨some 48, none, .bi .add .i64 (.t 31) (.k (.int .i64 1)), []⟩, ⟨some 31, none, .mv (.t 48), []⟩])))))))
 (.seq (.reg [] [⟨some 2, none, .mv (.k (.bool true)), []⟩])
 (.ret))))))⟩
theorem ck44 : chkFn Tryz.prog 44 ir44 = true := by kernel_rfl
def ir46 : AFn := ⟨61, 1, [.t 2], .seq (.reg [] [⟨some 1, none, .boxv (.t 0), []⟩, ⟨some 2, none, .mv (.k (.bool false)), []⟩])
 (.seq (.seq (.reg [] [⟨some 7, none, .fa 0 (.t 1), []⟩, ⟨some 8, none, .ld 1 false (.t 7), []⟩, ⟨some 9, none, .bi .eql .i64 (.t 8) (.k (.int .i64 5)), []⟩, ⟨some 10, none, .mv (.t 9), []⟩, ⟨some 11, (some (10, false)), .fa 0 (.t 1), []⟩, ⟨some 12, (some (10, false)), .ld 1 false (.t 11), []⟩, ⟨some 13, (some (10, false)), .bi .eql .i64 (.t 12) (.k (.int .i64 8)), []⟩, ⟨some 14, none, .pick (.t 10) (.k (.bool true)) (.t 13), []⟩])
 (.cond (.t 14) (.seq (.reg [] [⟨some 2, none, .mv (.k (.bool false)), []⟩])
 (.ret)) (.skip)))
 (.seq (.seq (.reg [] [⟨some 3, none, .mv (.k (.int .i64 0)), []⟩])
 (.block 0 (.loop [1, 3] (.seq (.seq (.reg [] [⟨some 15, none, .mv (.t 3), []⟩, ⟨some 16, none, .fa 3 (.t 1), []⟩, ⟨some 17, none, .ld 1 false (.t 16), []⟩, ⟨some 18, none, .len (.t 17), []⟩, ⟨some 19, none, .bi .lss .i64 (.t 15) (.t 18), []⟩])
 (.cond (.t 19) (.skip) (.exit 0)))
 (.seq (.block 1 (.seq (.reg [] [⟨some 22, none, .fa 3 (.t 1), []⟩, ⟨some 23, none, .ld 1 false (.t 22), []⟩, ⟨some 24, none, .mv (.t 3), []⟩, ⟨some 25, none, .ia 5 (.t 23) (.t 24), []⟩, ⟨some 26, none, .ld 5 true (.t 25), []⟩, ⟨some 27, none, .call 46 [(.t 26)], []⟩, ⟨some 28, none, .not (.t 27), []⟩])
 (.cond (.t 28) (.seq (.reg [] [⟨some 2, none, .mv (.k (.bool false)), []⟩])
 (.ret)) (.skip))))
 (.reg [] [⟨some 20, none, .mv (.t 3), []⟩, ⟨some 21, none, .bi .add .i64 (.t 20) (.k (.int .i64 1)), []⟩, ⟨some 3, none, .mv (.t 21), []⟩]))))))
 (.seq (.seq (.reg [] [⟨some 4, none, .mv (.k (.int .i64 0)), []⟩])
 (.block 2 (.loop [1, 4] (.seq (.seq (.reg [] [⟨some 29, none, .mv (.t 4), []⟩, ⟨some 30, none, .fa 4 (.t 1), []⟩, ⟨some 31, none, .ld 1 false (.t 30), []⟩, ⟨some 32, none, .len (.t 31), []⟩, ⟨some 33, none, .bi .lss .i64 (.t 29) (.t 32), []⟩])
 (.cond (.t 33) (.skip) (.exit 2)))
 (.seq (.block 3 (.seq (.reg [0, 1, 2, 3, 4, 5, 6, 7, 8, 9, 10, 11, 12, 13, 14, 15, 16] [⟨some 37, none, .fa 4 (.t 1), []⟩, ⟨some 38, none, .ld 1 false (.t 37), []⟩, ⟨some 39, none, .mv (.t 4), []⟩, ⟨some 40, none, .ia 6 (.t 38) (.t 39), []⟩, ⟨some 41, none, .fa 0 (.t 40), []⟩, ⟨some 42, none, .ld 1 false (.t 41), []⟩, ⟨some 43, none, .fa 4 (.t 1), []⟩, ⟨some 44, none, .ld 1 false (.t 43), []⟩, ⟨some 45, none, .mv (.t 4), []⟩, ⟨some 46, none, .sll 6 (.t 44) none (some (.t 45)) none, []⟩, ⟨some 47, none, .call 30 [(.t 42), (.t 46)], []⟩, ⟨some 36, none, .mv (.t 47), []⟩, ⟨some 48, none, .ext (.t 36) 0, []⟩, ⟨some 49, none, .ext (.t 36) 1, []⟩, ⟨some 5, none, .alloc [.int .i64 0, .int .i64 0, .str [], .sl .nil 5 [], .sl .nil 6 []], []⟩, ⟨none, none, .st 5 (.t 5) (.t 48), []⟩, ⟨some 6, none, .mv (.t 49), []⟩])
 (.seq (.reg [] [⟨some 50, none, .mv (.t 6), []⟩, ⟨some 51, none, .mv (.t 50), []⟩, ⟨some 52, (some (51, false)), .fa 4 (.t 1), []⟩, ⟨some 53, (some (51, false)), .ld 1 false (.t 52), []⟩, ⟨some 54, (some (51, false)), .mv (.t 4), []⟩, ⟨some 55, (some (51, false)), .ia 6 (.t 53) (.t 54), []⟩, ⟨some 56, (some (51, false)), .fa 1 (.t 55), []⟩, ⟨some 57, (some (51, false)), .ld 5 true (.t 56), []⟩, ⟨some 58, (some (51, false)), .call 46 [(.t 57)], []⟩, ⟨some 59, (some (51, false)), .not (.t 58), []⟩, ⟨some 60, none, .pick (.t 51) (.k (.bool true)) (.t 59), []⟩])
 (.cond (.t 60) (.seq (.reg [] [⟨some 2, none, .mv (.k (.bool false)), []⟩])
 (.ret)) (.skip)))))
 (.reg [] [⟨some 34, none, .mv (.t 4), []⟩, ⟨some 35, none, .bi .add .i64 (.t 34) (.k (.int .i64 1)), []⟩, ⟨some 4, none, .mv (.t 35), []⟩]))))))
 (.seq (.reg [] [⟨some 2, none, .mv (.k (.bool true)), []⟩])
 (.ret)))))⟩
theorem ck46 : chkFn Tryz.prog 46 ir46 = true := by kernel_rfl
def ir59 : AFn := ⟨16, 1, [], .seq (.seq (.reg [] [⟨some 2, none, .mv (.t 0), []⟩, ⟨some 3, none, .nilchk (.t 2), []⟩, ⟨some 4, none, .fa 2 (.t 3), []⟩, ⟨some 5, none, .ld 1 false (.t 4), []⟩, ⟨some 6, none, .bi .eql .i64 (.t 5) (.k (.int .i64 16)), []⟩])
 (.cond (.t 6) (.reg [] [⟨some 7, none, .mv (.t 0), []⟩, ⟨some 8, none, .call 35 [(.t 7), (.k (.int .i64 4))], []⟩]) (.skip)))
 (.reg [] [⟨some 9, none, .mv (.t 0), []⟩, ⟨some 10, none, .nilchk (.t 9), []⟩, ⟨some 11, none, .fa 2 (.t 10), []⟩, ⟨some 12, none, .ld 1 false (.t 11), []⟩, ⟨some 13, none, .bi .add .i64 (.t 12) (.k (.int .i64 1)), []⟩, ⟨some 14, none, .nilchk (.t 9), []⟩, ⟨some 15, none, .fa 2 (.t 14), []⟩, ⟨none, none, .st 1 (.t 15) (.t 13), []⟩])⟩
theorem ck59 : chkFn Tryz.prog 59 ir59 = true := by kernel_rfl
def ir60 : AFn := ⟨31, 1, [.c 2 5 true], .seq (.reg [] [⟨some 2, none, .alloc [.int .i64 0, .int .i64 0, .str [], .sl .nil 5 [], .sl .nil 6 []], []⟩])
 (.seq (.reg [] [⟨some 4, none, .bld [.int .i64 0, .int .i64 0, .str [], .sl .nil 5 [], .sl .nil 6 []] [(0, 1, (.k (.int .i64 7)))], []⟩, ⟨some 3, none, .alloc [.int .i64 0, .int .i64 0, .str [], .sl .nil 5 [], .sl .nil 6 []], []⟩, ⟨none, none, .st 5 (.t 3) (.t 4), []⟩])
 (.seq (.seq (.reg [] [⟨some 5, none, .mv (.t 0), []⟩, ⟨some 6, none, .call 66 [(.t 5), (.k (.str [125]))], []⟩, ⟨some 7, none, .not (.t 6), []⟩])
 (.cond (.t 7) (.seq (.reg [] [⟨some 8, none, .mv (.t 0), []⟩, ⟨some 9, none, .fa 4 (.t 3), []⟩, ⟨some 10, none, .ld 1 false (.t 9), []⟩, ⟨some 11, none, .call 109 [(.t 8), (.t 10)], []⟩, ⟨some 12, none, .fa 4 (.t 3), []⟩, ⟨none, none, .st 1 (.t 12) (.t 11), []⟩])
 (.block 0 (.loop [0, 2, 3] (.seq (.seq (.reg [] [⟨some 13, none, .mv (.t 0), []⟩, ⟨some 14, none, .call 66 [(.t 13), (.k (.str [125]))], []⟩, ⟨some 15, none, .not (.t 14), []⟩])
 (.cond (.t 15) (.skip) (.exit 0)))
 (.block 1 (.seq (.reg [] [⟨some 16, none, .mv (.t 0), []⟩, ⟨some 17, none, .call 67 [(.t 16), (.k (.str [44]))], []⟩])
 (.reg [] [⟨some 18, none, .mv (.t 0), []⟩, ⟨some 19, none, .fa 4 (.t 3), []⟩, ⟨some 20, none, .ld 1 false (.t 19), []⟩, ⟨some 21, none, .call 109 [(.t 18), (.t 20)], []⟩, ⟨some 22, none, .fa 4 (.t 3), []⟩, ⟨none, none, .st 1 (.t 22) (.t 21), []⟩]))))))) (.skip)))
 (.seq (.reg [] [⟨some 23, none, .mv (.t 0), []⟩, ⟨some 24, none, .nilchk (.t 23), []⟩, ⟨some 25, none, .fa 2 (.t 24), []⟩, ⟨some 26, none, .ld 1 false (.t 25), []⟩, ⟨some 27, none, .bi .sub .i64 (.t 26) (.k (.int .i64 1)), []⟩, ⟨some 28, none, .nilchk (.t 23), []⟩, ⟨some 29, none, .fa 2 (.t 28), []⟩, ⟨none, none, .st 1 (.t 29) (.t 27), []⟩])
 (.seq (.reg [] [⟨some 30, none, .ld 5 true (.t 3), []⟩, ⟨none, none, .st 5 (.t 2) (.t 30), []⟩])
 (.ret)))))⟩
theorem ck60 : chkFn Tryz.prog 60 ir60 = true := by kernel_rfl
def ir61 : AFn := ⟨35, 1, [.c 2 5 true], .seq (.reg [] [⟨some 2, none, .alloc [.int .i64 0, .int .i64 0, .str [], .sl .nil 5 [], .sl .nil 6 []], []⟩])
 (.seq (.reg [] [⟨some 4, none, .bld [.int .i64 0, .int .i64 0, .str [], .sl .nil 5 [], .sl .nil 6 []] [(0, 1, (.k (.int .i64 6)))], []⟩, ⟨some 3, none, .alloc [.int .i64 0, .int .i64 0, .str [], .sl .nil 5 [], .sl .nil 6 []], []⟩, ⟨none, none, .st 5 (.t 3) (.t 4), []⟩])
 (.seq (.seq (.reg [] [⟨some 5, none, .mv (.t 0), []⟩, ⟨some 6, none, .call 66 [(.t 5), (.k (.str [93]))], []⟩, ⟨some 7, none, .not (.t 6), []⟩])
 (.cond (.t 7) (.seq (.reg [0, 1, 2, 3, 4, 5, 6, 7] [⟨some 8, none, .fa 3 (.t 3), []⟩, ⟨some 9, none, .ld 1 false (.t 8), []⟩, ⟨some 10, none, .mv (.t 0), []⟩, ⟨some 11, none, .call 33 [(.t 10)], [1]⟩, ⟨some 12, none, .bls 5 1 [.int .i64 0, .int .i64 0, .str [], .sl .nil 5 [], .sl .nil 6 []] [(0, (.t 11))], []⟩, ⟨some 13, none, .app 5 80 (.t 9) (.t 12), []⟩, ⟨some 14, none, .fa 3 (.t 3), []⟩, ⟨none, none, .st 1 (.t 14) (.t 13), []⟩])
 (.block 0 (.loop [0, 2, 3] (.seq (.seq (.reg [] [⟨some 15, none, .mv (.t 0), []⟩, ⟨some 16, none, .call 66 [(.t 15), (.k (.str [93]))], []⟩, ⟨some 17, none, .not (.t 16), []⟩])
 (.cond (.t 17) (.skip) (.exit 0)))
 (.block 1 (.seq (.reg [] [⟨some 18, none, .mv (.t 0), []⟩, ⟨some 19, none, .call 67 [(.t 18), (.k (.str [44]))], []⟩])
 (.reg [0, 1, 2, 3, 4, 5, 6, 7] [⟨some 20, none, .fa 3 (.t 3), []⟩, ⟨some 21, none, .ld 1 false (.t 20), []⟩, ⟨some 22, none, .mv (.t 0), []⟩, ⟨some 23, none, .call 33 [(.t 22)], [1]⟩, ⟨some 24, none, .bls 5 1 [.int .i64 0, .int .i64 0, .str [], .sl .nil 5 [], .sl .nil 6 []] [(0, (.t 23))], []⟩, ⟨some 25, none, .app 5 80 (.t 21) (.t 24), []⟩, ⟨some 26, none, .fa 3 (.t 3), []⟩, ⟨none, none, .st 1 (.t 26) (.t 25), []⟩]))))))) (.skip)))
 (.seq (.reg [] [⟨some 27, none, .mv (.t 0), []⟩, ⟨some 28, none, .nilchk (.t 27), []⟩, ⟨some 29, none, .fa 2 (.t 28), []⟩, ⟨some 30, none, .ld 1 false (.t 29), []⟩, ⟨some 31, none, .bi .sub .i64 (.t 30) (.k (.int .i64 1)), []⟩, ⟨some 32, none, .nilchk (.t 27), []⟩, ⟨some 33, none, .fa 2 (.t 32), []⟩, ⟨none, none, .st 1 (.t 33) (.t 31), []⟩])
 (.seq (.reg [] [⟨some 34, none, .ld 5 true (.t 3), []⟩, ⟨none, none, .st 5 (.t 2) (.t 34), []⟩])
 (.ret)))))⟩
theorem ck61 : chkFn Tryz.prog 61 ir61 = true := by kernel_rfl
def ir63 : AFn := ⟨46, 1, [.t 2], .seq (.reg [] [⟨some 2, none, .mv (.k (.str [])), []⟩])
 (.seq (.reg [] [⟨some 5, none, .mv (.t 0), []⟩, ⟨some 6, none, .call 34 [(.t 5)], []⟩])
 (.seq (.seq (.reg [0, 1, 2, 3, 4, 5, 6, 7, 8, 9, 10] [⟨some 7, none, .mv (.t 0), []⟩, ⟨some 8, none, .nilchk (.t 7), []⟩, ⟨some 9, none, .fa 0 (.t 8), []⟩, ⟨some 10, none, .ld 1 false (.t 9), []⟩, ⟨some 11, none, .mv (.t 0), []⟩, ⟨some 12, none, .nilchk (.t 11), []⟩, ⟨some 13, none, .fa 1 (.t 12), []⟩, ⟨some 14, none, .ld 1 false (.t 13), []⟩, ⟨some 15, none, .sls (.t 10) (some (.t 14)) none, []⟩, ⟨some 16, none, .call 99 [(.t 15), (.k (.str [34]))], []⟩, ⟨some 17, none, .not (.t 16), []⟩])
 (.cond (.t 17) (.reg [] [⟨some 18, none, .mv (.t 0), []⟩, ⟨some 19, none, .call 35 [(.t 18), (.k (.int .i64 2))], []⟩]) (.skip)))
 (.seq (.reg [0, 1, 2, 3, 4, 5, 6, 7, 8, 9, 10, 11, 12, 13, 14] [⟨some 21, none, .mv (.t 0), []⟩, ⟨some 22, none, .nilchk (.t 21), []⟩, ⟨some 23, none, .fa 0 (.t 22), []⟩, ⟨some 24, none, .ld 1 false (.t 23), []⟩, ⟨some 25, none, .mv (.t 0), []⟩, ⟨some 26, none, .nilchk (.t 25), []⟩, ⟨some 27, none, .fa 1 (.t 26), []⟩, ⟨some 28, none, .ld 1 false (.t 27), []⟩, ⟨some 29, none, .sls (.t 24) (some (.t 28)) none, []⟩, ⟨some 30, none, .call 102 [(.t 29), (.k (.clo 110 [] []))], []⟩, ⟨some 20, none, .mv (.t 30), []⟩, ⟨some 31, none, .ext (.t 20) 0, []⟩, ⟨some 32, none, .ext (.t 20) 1, []⟩, ⟨some 3, none, .mv (.t 31), []⟩, ⟨some 4, none, .mv (.t 32), []⟩])
 (.seq (.seq (.reg [] [⟨some 33, none, .mv (.t 4), []⟩, ⟨some 34, none, .bi .eql .i64 (.t 33) (.k (.int .i64 0)), []⟩])
 (.cond (.t 34) (.reg [] [⟨some 35, none, .mv (.t 0), []⟩, ⟨some 36, none, .call 35 [(.t 35), (.k (.int .i64 2))], []⟩]) (.skip)))
 (.seq (.reg [] [⟨some 37, none, .mv (.t 0), []⟩, ⟨some 38, none, .nilchk (.t 37), []⟩, ⟨some 39, none, .fa 1 (.t 38), []⟩, ⟨some 40, none, .ld 1 false (.t 39), []⟩, ⟨some 41, none, .mv (.t 4), []⟩, ⟨some 42, none, .bi .add .i64 (.t 40) (.t 41), []⟩, ⟨some 43, none, .nilchk (.t 37), []⟩, ⟨some 44, none, .fa 1 (.t 43), []⟩, ⟨none, none, .st 1 (.t 44) (.t 42), []⟩])
 (.seq (.reg [] [⟨some 45, none, .mv (.t 3), []⟩, ⟨some 2, none, .mv (.t 45), []⟩])
 (.ret)))))))⟩
theorem ck63 : chkFn Tryz.prog 63 ir63 = true := by kernel_rfl
def ir65 : AFn := ⟨66, 1, [.c 2 5 true], .seq (.reg [] [⟨some 2, none, .alloc [.int .i64 0, .int .i64 0, .str [], .sl .nil 5 [], .sl .nil 6 []], []⟩])
 (.seq (.reg [] [⟨some 7, none, .mv (.t 0), []⟩, ⟨some 8, none, .nilchk (.t 7), []⟩, ⟨some 9, none, .fa 1 (.t 8), []⟩, ⟨some 10, none, .ld 1 false (.t 9), []⟩, ⟨some 3, none, .mv (.t 10), []⟩])
 (.seq (.block 0 (.loop [0, 2, 3] (.seq (.seq (.reg [0, 1, 2, 3, 4, 5, 6, 7, 8, 9, 10, 11, 12, 13, 14, 15, 16, 17, 18, 19, 20, 21, 22] [⟨some 11, none, .mv (.t 0), []⟩, ⟨some 12, none, .nilchk (.t 11), []⟩, ⟨some 13, none, .fa 1 (.t 12), []⟩, ⟨some 14, none, .ld 1 false (.t 13), []⟩, ⟨some 15, none, .mv (.t 0), []⟩, ⟨some 16, none, .nilchk (.t 15), []⟩, ⟨some 17, none, .fa 0 (.t 16), []⟩, ⟨some 18, none, .ld 1 false (.t 17), []⟩, ⟨some 19, none, .lens (.t 18), []⟩, ⟨some 20, none, .bi .lss .i64 (.t 14) (.t 19), []⟩, ⟨some 21, none, .mv (.t 20), []⟩, ⟨some 22, (some (21, true)), .mv (.t 0), []⟩, ⟨some 23, (some (21, true)), .nilchk (.t 22), []⟩, ⟨some 24, (some (21, true)), .fa 0 (.t 23), []⟩, ⟨some 25, (some (21, true)), .ld 1 false (.t 24), []⟩, ⟨some 26, (some (21, true)), .mv (.t 0), []⟩, ⟨some 27, (some (21, true)), .nilchk (.t 26), []⟩, ⟨some 28, (some (21, true)), .fa 1 (.t 27), []⟩, ⟨some 29, (some (21, true)), .ld 1 false (.t 28), []⟩, ⟨some 30, (some (21, true)), .ixs (.t 25) (.t 29), []⟩, ⟨some 31, (some (21, true)), .call 68 [(.k (.str [48, 49, 50, 51, 52, 53, 54, 55, 56, 57, 43, 45, 46, 101, 69])), (.t 30)], []⟩, ⟨some 32, (some (21, true)), .bi .geq .i64 (.t 31) (.k (.int .i64 0)), []⟩, ⟨some 33, none, .pick (.t 21) (.t 32) (.k (.bool false)), []⟩])
 (.cond (.t 33) (.skip) (.exit 0)))
 (.block 1 (.reg [] [⟨some 34, none, .mv (.t 0), []⟩, ⟨some 35, none, .nilchk (.t 34), []⟩, ⟨some 36, none, .fa 1 (.t 35), []⟩, ⟨some 37, none, .ld 1 false (.t 36), []⟩, ⟨some 38, none, .bi .add .i64 (.t 37) (.k (.int .i64 1)), []⟩, ⟨some 39, none, .nilchk (.t 34), []⟩, ⟨some 40, none, .fa 1 (.t 39), []⟩, ⟨none, none, .st 1 (.t 40) (.t 38), []⟩])))))
 (.seq (.reg [0, 1, 2, 3, 4, 5, 6, 7, 8, 9, 10] [⟨some 41, none, .mv (.t 0), []⟩, ⟨some 42, none, .nilchk (.t 41), []⟩, ⟨some 43, none, .fa 0 (.t 42), []⟩, ⟨some 44, none, .ld 1 false (.t 43), []⟩, ⟨some 45, none, .mv (.t 3), []⟩, ⟨some 46, none, .mv (.t 0), []⟩, ⟨some 47, none, .nilchk (.t 46), []⟩, ⟨some 48, none, .fa 1 (.t 47), []⟩, ⟨some 49, none, .ld 1 false (.t 48), []⟩, ⟨some 50, none, .sls (.t 44) (some (.t 45)) (some (.t 49)), []⟩, ⟨some 4, none, .mv (.t 50), []⟩])
 (.seq (.seq (.reg [] [⟨some 51, none, .mv (.t 4), []⟩, ⟨some 52, none, .call 90 [(.t 51)], []⟩, ⟨some 53, none, .bi .eql .i64 (.t 52) (.k (.int .i64 0)), []⟩])
 (.cond (.t 53) (.reg [] [⟨some 54, none, .mv (.t 0), []⟩, ⟨some 55, none, .call 35 [(.t 54), (.k (.int .i64 2))], []⟩]) (.skip)))
 (.seq (.seq (.reg [] [⟨some 57, none, .mv (.t 4), []⟩, ⟨some 58, none, .call 112 [(.t 57)], []⟩, ⟨some 56, none, .mv (.t 58), []⟩, ⟨some 59, none, .ext (.t 56) 0, []⟩, ⟨some 60, none, .ext (.t 56) 1, []⟩, ⟨some 5, none, .mv (.t 59), []⟩, ⟨some 6, none, .mv (.t 60), []⟩])
 (.seq (.reg [] [⟨some 61, none, .mv (.t 6), []⟩])
 (.cond (.t 61) (.seq (.reg [] [⟨some 62, none, .mv (.t 5), []⟩, ⟨some 63, none, .call 113 [(.t 62)], []⟩, ⟨none, none, .st 5 (.t 2) (.t 63), []⟩])
 (.ret)) (.skip))))
 (.seq (.reg [] [⟨some 64, none, .mv (.t 4), []⟩, ⟨some 65, none, .bld [.int .i64 0, .int .i64 0, .str [], .sl .nil 5 [], .sl .nil 6 []] [(0, 1, (.k (.int .i64 3))), (2, 1, (.t 64))], []⟩, ⟨none, none, .st 5 (.t 2) (.t 65), []⟩])
 (.ret)))))))⟩
theorem ck65 : chkFn Tryz.prog 65 ir65 = true := by kernel_rfl
def ir66 : AFn := ⟨30, 2, [.t 4], .seq (.reg [] [⟨some 4, none, .mv (.k (.bool false)), []⟩])
 (.seq (.reg [] [⟨some 6, none, .mv (.t 0), []⟩, ⟨some 7, none, .call 34 [(.t 6)], []⟩])
 (.seq (.reg [0, 1, 2, 3, 4, 5, 6, 7, 8, 9, 10, 11] [⟨some 8, none, .mv (.t 0), []⟩, ⟨some 9, none, .nilchk (.t 8), []⟩, ⟨some 10, none, .fa 0 (.t 9), []⟩, ⟨some 11, none, .ld 1 false (.t 10), []⟩, ⟨some 12, none, .mv (.t 0), []⟩, ⟨some 13, none, .nilchk (.t 12), []⟩, ⟨some 14, none, .fa 1 (.t 13), []⟩, ⟨some 15, none, .ld 1 false (.t 14), []⟩, ⟨some 16, none, .sls (.t 11) (some (.t 15)) none, []⟩, ⟨some 17, none, .mv (.t 1), []⟩, ⟨some 18, none, .call 99 [(.t 16), (.t 17)], []⟩, ⟨some 5, none, .mv (.t 18), []⟩])
 (.seq (.seq (.reg [] [⟨some 19, none, .mv (.t 5), []⟩])
 (.cond (.t 19) (.reg [] [⟨some 20, none, .mv (.t 0), []⟩, ⟨some 21, none, .nilchk (.t 20), []⟩, ⟨some 22, none, .fa 1 (.t 21), []⟩, ⟨some 23, none, .ld 1 false (.t 22), []⟩, ⟨some 24, none, .mv (.t 1), []⟩, ⟨some 25, none, .lens (.t 24), []⟩, ⟨some 26, none, .bi .add .i64 (.t 23) (.t 25), []⟩, ⟨some 27, none, .nilchk (.t 20), []⟩, ⟨some 28, none, .fa 1 (.t 27), []⟩, ⟨none, none, .st 1 (.t 28) (.t 26), []⟩]) (.skip)))
 (.seq (.reg [] [⟨some 29, none, .mv (.t 5), []⟩, ⟨some 4, none, .mv (.t 29), []⟩])
 (.ret)))))⟩
theorem ck66 : chkFn Tryz.prog 66 ir66 = true := by kernel_rfl
def ir67 : AFn := ⟨10, 2, [], .seq (.reg [] [⟨some 4, none, .mv (.t 0), []⟩, ⟨some 5, none, .mv (.t 1), []⟩, ⟨some 6, none, .call 66 [(.t 4), (.t 5)], []⟩, ⟨some 7, none, .not (.t 6), []⟩])
 (.cond (.t 7) (.reg [] [⟨some 8, none, .mv (.t 0), []⟩, ⟨some 9, none, .call 35 [(.t 8), (.k (.int .i64 2))], []⟩]) (.skip))⟩
theorem ck67 : chkFn Tryz.prog 67 ir67 = true := by kernel_rfl
def ir79 : AFn := ⟨51, 2, [.t 4], .seq (.reg [] [⟨some 4, none, .mv (.k (.sl .nil 1 [])), []⟩])
 (.seq (.reg [] [⟨some 7, none, .mv (.t 0), []⟩, ⟨some 8, none, .bls 1 1 [.int .u8 0] [(0, (.k (.int .u8 34)))], []⟩, ⟨some 9, none, .app 1 1 (.t 7) (.t 8), []⟩, ⟨some 0, none, .mv (.t 9), []⟩])
 (.seq (.seq (.reg [] [⟨some 10, none, .mv (.t 1), []⟩, ⟨some 11, none, .lens (.t 10), []⟩, ⟨some 12, none, .mv (.k (.int .i64 0)), []⟩])
 (.block 0 (.loop [0, 1, 11, 12] (.seq (.reg [] [⟨some 13, none, .bi .lss .i64 (.t 12) (.t 11), []⟩])
 (.seq (.cond (.t 13) (.skip) (.exit 0))
 (.seq (.block 1 (.seq (.reg [] [⟨some 14, none, .mv (.t 12), []⟩, ⟨some 5, none, .mv (.t 14), []⟩])
 (.seq (.reg [] [⟨some 15, none, .mv (.t 1), []⟩, ⟨some 16, none, .mv (.t 5), []⟩, ⟨some 17, none, .ixs (.t 15) (.t 16), []⟩, ⟨some 6, none, .mv (.t 17), []⟩])
 (.block 2 (.seq (.reg [] [⟨some 23, none, .mv (.t 6), []⟩, ⟨some 24, none, .bi .eql .u8 (.t 23) (.k (.int .u8 34)), []⟩, ⟨some 25, none, .mv (.t 24), []⟩, ⟨some 26, (some (25, false)), .mv (.t 6), []⟩, ⟨some 27, (some (25, false)), .bi .eql .u8 (.t 26) (.k (.int .u8 92)), []⟩, ⟨some 28, none, .pick (.t 25) (.k (.bool true)) (.t 27), []⟩, ⟨some 22, none, .mv (.t 28), []⟩])
 (.cond (.t 22) (.reg [] [⟨some 29, none, .mv (.t 0), []⟩, ⟨some 30, none, .mv (.t 6), []⟩, ⟨some 31, none, .bls 1 2 [.int .u8 0] [(0, (.k (.int .u8 92))), (1, (.t 30))], []⟩, ⟨some 32, none, .app 1 1 (.t 29) (.t 31), []⟩, ⟨some 0, none, .mv (.t 32), []⟩]) (.seq (.reg [] [⟨some 34, none, .mv (.t 6), []⟩, ⟨some 35, none, .bi .lss .u8 (.t 34) (.k (.int .u8 32)), []⟩, ⟨some 33, none, .mv (.t 35), []⟩])
 (.cond (.t 33) (.seq (.reg [] [⟨some 36, none, .mv (.t 0), []⟩, ⟨some 37, none, .apps (.t 36) (.k (.str [92, 117, 48, 48])), []⟩, ⟨some 0, none, .mv (.t 37), []⟩])
 (.reg [0, 1, 2, 3, 4, 5, 6, 7, 8, 9] [⟨some 38, none, .mv (.t 0), []⟩, ⟨some 39, none, .mv (.t 6), []⟩, ⟨some 40, none, .shf .shr (.t 39) (.k (.int .u64 4)), []⟩, ⟨some 41, none, .ixs (.k (.str [48, 49, 50, 51, 52, 53, 54, 55, 56, 57, 97, 98, 99, 100, 101, 102])) (.t 40), []⟩, ⟨some 42, none, .mv (.t 6), []⟩, ⟨some 43, none, .bi .and .u8 (.t 42) (.k (.int .u8 15)), []⟩, ⟨some 44, none, .ixs (.k (.str [48, 49, 50, 51, 52, 53, 54, 55, 56, 57, 97, 98, 99, 100, 101, 102])) (.t 43), []⟩, ⟨some 45, none, .bls 1 2 [.int .u8 0] [(0, (.t 41)), (1, (.t 44))], []⟩, ⟨some 46, none, .app 1 1 (.t 38) (.t 45), []⟩, ⟨some 0, none, .mv (.t 46), []⟩])) (.reg [] [⟨some 18, none, .mv (.t 0), []⟩, ⟨some 19, none, .mv (.t 6), []⟩, ⟨some 20, none, .bls 1 1 [.int .u8 0] [(0, (.t 19))], []⟩, ⟨some 21, none, .app 1 1 (.t 18) (.t 20), []⟩, ⟨some 0, none, .mv (.t 21), []⟩])))))))))
 (.reg [] [⟨some 47, none, .bi .add .i64 (.t 12) (.k (.int .i64 1)), []⟩, ⟨some 12, none, .mv (.t 47), []⟩])))))))
 (.seq (.reg [] [⟨some 48, none, .mv (.t 0), []⟩, ⟨some 49, none, .bls 1 1 [.int .u8 0] [(0, (.k (.int .u8 34)))], []⟩, ⟨some 50, none, .app 1 1 (.t 48) (.t 49), []⟩, ⟨some 4, none, .mv (.t 50), []⟩])
 (.ret))))⟩
theorem ck79 : chkFn Tryz.prog 79 ir79 = true := by kernel_rfl
def ir81 : AFn := ⟨60, 1, [.t 2], .seq (.reg [] [⟨some 2, none, .mv (.k (.str [])), []⟩])
 (.seq (.reg [] [⟨some 3, none, .mv (.k (.str [])), []⟩])
 (.seq (.seq (.reg [] [⟨some 4, none, .mv (.k (.int .i64 0)), []⟩])
 (.block 0 (.loop [0, 3, 4] (.seq (.seq (.reg [] [⟨some 5, none, .mv (.t 4), []⟩, ⟨some 6, none, .mv (.t 0), []⟩, ⟨some 7, none, .lens (.t 6), []⟩, ⟨some 8, none, .bi .lss .i64 (.t 5) (.t 7), []⟩])
 (.cond (.t 8) (.skip) (.exit 0)))
 (.seq (.block 1 (.block 2 (.seq (.reg [] [⟨some 19, none, .mv (.t 0), []⟩, ⟨some 20, none, .mv (.t 4), []⟩, ⟨some 21, none, .ixs (.t 19) (.t 20), []⟩, ⟨some 22, none, .bi .eql .u8 (.t 21) (.k (.int .u8 34)), []⟩, ⟨some 23, none, .mv (.t 22), []⟩, ⟨some 24, (some (23, false)), .mv (.t 0), []⟩, ⟨some 25, (some (23, false)), .mv (.t 4), []⟩, ⟨some 26, (some (23, false)), .ixs (.t 24) (.t 25), []⟩, ⟨some 27, (some (23, false)), .bi .eql .u8 (.t 26) (.k (.int .u8 92)), []⟩, ⟨some 28, none, .pick (.t 23) (.k (.bool true)) (.t 27), []⟩, ⟨some 18, none, .mv (.t 28), []⟩])
 (.cond (.t 18) (.reg [] [⟨some 29, none, .mv (.t 3), []⟩, ⟨some 30, none, .bs .add (.t 29) (.k (.str [92])), []⟩, ⟨some 31, none, .mv (.t 0), []⟩, ⟨some 32, none, .mv (.t 4), []⟩, ⟨some 33, none, .mv (.t 4), []⟩, ⟨some 34, none, .bi .add .i64 (.t 33) (.k (.int .i64 1)), []⟩, ⟨some 35, none, .sls (.t 31) (some (.t 32)) (some (.t 34)), []⟩, ⟨some 36, none, .bs .add (.t 30) (.t 35), []⟩, ⟨some 3, none, .mv (.t 36), []⟩]) (.seq (.reg [] [⟨some 38, none, .mv (.t 0), []⟩, ⟨some 39, none, .mv (.t 4), []⟩, ⟨some 40, none, .ixs (.t 38) (.t 39), []⟩, ⟨some 41, none, .bi .lss .u8 (.t 40) (.k (.int .u8 32)), []⟩, ⟨some 37, none, .mv (.t 41), []⟩])
 (.cond (.t 37) (.reg [0, 1, 2, 3, 4, 5, 6, 7, 8, 9, 10, 11, 12, 13, 14, 15] [⟨some 42, none, .mv (.t 3), []⟩, ⟨some 43, none, .bs .add (.t 42) (.k (.str [92, 117, 48, 48])), []⟩, ⟨some 44, none, .mv (.t 0), []⟩, ⟨some 45, none, .mv (.t 4), []⟩, ⟨some 46, none, .ixs (.t 44) (.t 45), []⟩, ⟨some 47, none, .bi .quo .u8 (.t 46) (.k (.int .u8 16)), []⟩, ⟨some 48, none, .ixs (.k (.str [48, 49, 50, 51, 52, 53, 54, 55, 56, 57, 97, 98, 99, 100, 101, 102])) (.t 47), []⟩, ⟨some 49, none, .mv (.t 0), []⟩, ⟨some 50, none, .mv (.t 4), []⟩, ⟨some 51, none, .ixs (.t 49) (.t 50), []⟩, ⟨some 52, none, .bi .rem .u8 (.t 51) (.k (.int .u8 16)), []⟩, ⟨some 53, none, .ixs (.k (.str [48, 49, 50, 51, 52, 53, 54, 55, 56, 57, 97, 98, 99, 100, 101, 102])) (.t 52), []⟩, ⟨some 54, none, .bls 1 2 [.int .u8 0] [(0, (.t 48)), (1, (.t 53))], []⟩, ⟨some 55, none, .cvb2s (.t 54), []⟩, ⟨some 56, none, .bs .add (.t 43) (.t 55), []⟩, ⟨some 3, none, .mv (.t 56), []⟩]) (.reg [] [⟨some 11, none, .mv (.t 3), []⟩, ⟨some 12, none, .mv (.t 0), []⟩, ⟨some 13, none, .mv (.t 4), []⟩, ⟨some 14, none, .mv (.t 4), []⟩, ⟨some 15, none, .bi .add .i64 (.t 14) (.k (.int .i64 1)), []⟩, ⟨some 16, none, .sls (.t 12) (some (.t 13)) (some (.t 15)), []⟩, ⟨some 17, none, .bs .add (.t 11) (.t 16), []⟩, ⟨some 3, none, .mv (.t 17), []⟩])))))))
 (.reg [] [⟨some 9, none, .mv (.t 4), []⟩, ⟨some 10, none, .bi .add .i64 (.t 9) (.k (.int .i64 1)), []⟩, ⟨some 4, none, .mv (.t 10), []⟩]))))))
 (.seq (.reg [] [⟨some 57, none, .mv (.t 3), []⟩, ⟨some 58, none, .bs .add (.k (.str [34])) (.t 57), []⟩, ⟨some 59, none, .bs .add (.t 58) (.k (.str [34])), []⟩, ⟨some 2, none, .mv (.t 59), []⟩])
 (.ret))))⟩
theorem ck81 : chkFn Tryz.prog 81 ir81 = true := by kernel_rfl
def ir109 : AFn := ⟨28, 2, [.t 4], .seq (.reg [] [⟨some 4, none, .mv (.k (.sl .nil 6 [])), []⟩])
 (.seq (.reg [] [⟨some 8, none, .mv (.t 0), []⟩, ⟨some 9, none, .call 63 [(.t 8)], []⟩, ⟨some 5, none, .mv (.t 9), []⟩])
 (.seq (.seq (.reg [] [⟨some 11, none, .mv (.t 5), []⟩, ⟨some 12, none, .mv (.t 1), []⟩, ⟨some 13, none, .call 29 [(.t 11), (.t 12)], []⟩, ⟨some 10, none, .mv (.t 13), []⟩, ⟨some 14, none, .ext (.t 10) 0, []⟩, ⟨some 15, none, .ext (.t 10) 1, []⟩, ⟨some 6, none, .alloc [.int .i64 0, .int .i64 0, .str [], .sl .nil 5 [], .sl .nil 6 []], []⟩, ⟨none, none, .st 5 (.t 6) (.t 14), []⟩, ⟨some 7, none, .mv (.t 15), []⟩])
 (.seq (.reg [] [⟨some 16, none, .mv (.t 7), []⟩])
 (.cond (.t 16) (.reg [] [⟨some 17, none, .mv (.t 0), []⟩, ⟨some 18, none, .call 35 [(.t 17), (.k (.int .i64 5))], []⟩]) (.skip))))
 (.seq (.reg [] [⟨some 19, none, .mv (.t 0), []⟩, ⟨some 20, none, .call 67 [(.t 19), (.k (.str [58]))], []⟩])
 (.seq (.reg [] [⟨some 21, none, .mv (.t 1), []⟩, ⟨some 22, none, .mv (.t 5), []⟩, ⟨some 23, none, .mv (.t 0), []⟩, ⟨some 24, none, .call 33 [(.t 23)], []⟩, ⟨some 25, none, .bld [.str [], .int .i64 0, .int .i64 0, .str [], .sl .nil 5 [], .sl .nil 6 []] [(0, 1, (.t 22)), (1, 5, (.t 24))], []⟩, ⟨some 26, none, .bls 6 1 [.str [], .int .i64 0, .int .i64 0, .str [], .sl .nil 5 [], .sl .nil 6 []] [(0, (.t 25))], []⟩, ⟨some 27, none, .app 6 96 (.t 21) (.t 26), []⟩, ⟨some 4, none, .mv (.t 27), []⟩])
 (.ret)))))⟩
theorem ck109 : chkFn Tryz.prog 109 ir109 = true := by kernel_rfl
def ir110 : AFn := ⟨5, 1, [.t 2], .seq (.reg [] [⟨some 2, none, .mv (.k (.bool false)), []⟩])
 (.seq (.reg [] [⟨some 3, none, .mv (.t 0), []⟩, ⟨some 4, none, .bi .geq .u8 (.t 3) (.k (.int .u8 32)), []⟩, ⟨some 2, none, .mv (.t 4), []⟩])
 (.ret))⟩
theorem ck110 : chkFn Tryz.prog 110 ir110 = true := by kernel_rfl
end Go.Proofs.YtpjafglhdlfnbaaGreatDoor
namespace Go.Proofs.YtpjafglhdlfnbaaGreatDoor
open Go.Ab
def stopV (n : Int) : AV := .ifc 55 (.agg [.int .i64 n])
def rdc (s p : List UInt8) (dp : Nat) : AObj := .cells [.str s, .int .i64 (p.length : Int), .int .i64 (dp : Int)]
def At (H : Heap) (r : Nat) (s t : List UInt8) (dp : Nat) (H' : Heap) : Prop := ∃ p, p ++ t = s ∧ H' = H.upd r (rdc s p dp)
def RetP {α : Type} (H : Heap) (r : Nat) (s : List UInt8) (dp : Nat) (x : RR α) (f : α → AV) (v : AV) (H' : Heap) : Prop := ∃ a t', x = .ok (a, t') ∧ v = f a ∧ At H r s t' dp H'
def PanP {α : Type} (x : RR α) (v : AV) (_ : Heap) : Prop := ∃ n, x = .error n ∧ v = stopV n
abbrev LimS : Nat := 1000000
theorem failC (H : Heap) (r : Nat) (n : Int) : ACalls Tryz.prog 35 [.ptr r 0, .int .i64 n] H (fun e H' => match e with | .ret v => False | .pan v => v = stopV n) := by
  refine ACalls.goO (R := fun _ _ => False) (RP := fun v _ => v = stopV n) ir35 ck35 (Nat.le_refl _) fun KP Q hQ hP => ?_
  simp (disch := first | omega | assumption) only [ir35, go_sem, ↓reduceIte]
  exact hP _ _ H (Low.refl _) rfl
theorem blanksC {H : Heap} {r : Nat} {s p t : List UInt8} {dp : Nat} (hs : p ++ t = s) (hl : s.length ≤ LimS) (hr : H r = some (rdc s p dp)) :
    ACalls Tryz.prog 34 [.ptr r 0] H (fun e H' => ∃ v, e = .ret v ∧ (v = .tup [] ∧ At H r s (skB t) dp H')) := by
  refine ACalls.go ir34 ck34 (Nat.le_refl _) fun KP Q hQ => ?_
  simp only [LimS] at hl
  simp (disch := first | omega | assumption) only [ir34, go_sem, ↓reduceIte]
  refine goL_st (fun _ : List UInt8 × List UInt8 => []) (fun x H' => x.1 ++ x.2 = s ∧ skB x.2 = skB t ∧ H' = H.upd r (rdc s x.1 dp)) (fun x => x.2.length) (p, t) (by simp (disch := first | omega | assumption) only [go_sem, ↓reduceIte]) ⟨hs, rfl, by funext c; by_cases e : c = r <;> simp [Heap.upd, e, hr]⟩ ?_
  rintro ⟨q, u⟩ H' J ⟨hq, hu, rfl⟩ hJ
  simp only at hq hu
  have hg : (H.upd r (rdc s q dp)) r = some (.cells [.str s, .int .i64 (q.length : Int), .int .i64 (dp : Int)]) := by rw [upd_same]; rfl
  have hlen : q.length + u.length = s.length := by rw [← hq]; simp
  cases u with
  | nil =>
    have h1 : ¬ ((q.length : Int) < s.length) := by simp at hlen; omega
    simp (disch := first | omega | assumption) only [hg, h1, go_sem, ↓reduceIte]
    exact hQ _ _ _ _ [] nofun rfl (Low.refl _) ⟨rfl, q, by rw [← hu]; simpa [skB] using hq, rfl⟩
  | cons c u =>
    have h1 : ((q.length : Int) < s.length) = True := eq_true (by simp at hlen; omega)
    have hc : s.getD q.length 0 = c := by rw [← hq]; simp
    simp (disch := first | omega | assumption) only [hg, h1, hc, go_sem, ↓reduceIte]
    refine goK_pure (idxByteC [9, 10, 13, 32] c) ?_
    by_cases hb : 0 ≤ Lib.indexByte [9, 10, 13, 32] c
    · have hbk : bk c = true := by simp [bk, hb]
      simp (disch := first | omega | assumption) only [hb, hg, wrap64, go_sem, ↓reduceIte]
      refine goJ (hJ (q ++ [c], u) _ (by simp) ⟨by simpa using hq, by rw [← hu]; simp [skB, hbk], ?_⟩) (by simp (disch := first | omega | assumption) only [go_sem, ↓reduceIte])
      simp [rdc]
    · have hbk : bk c = false := by simp [bk, hb]
      simp (disch := first | omega | assumption) only [hb, go_sem, ↓reduceIte]
      refine hQ _ _ _ _ [] nofun rfl (Low.refl _) ⟨rfl, q, ?_, rfl⟩
      rw [← hu, skB, hbk]; simpa using hq
theorem skB_idem : ∀ t, skB (skB t) = skB t
  | [] => rfl
  | c :: t => by
    rw [skB]; split
    · exact skB_idem t
    · rename_i h; rw [skB, if_neg h]
theorem mayM_sk (p t : List UInt8) : mayM p (skB t) = mayM p t := by unfold mayM; rw [skB_idem]
theorem upd_upd (H : Heap) (b : Nat) (x y : AObj) : (H.upd b x).upd b y = H.upd b y := by
  funext c; by_cases e : c = b <;> simp [Heap.upd, e]
theorem At.again {H H1 H2 : Heap} {r : Nat} {s t t' : List UInt8} {dp dp' : Nat} (h : At H r s t dp H1) (h' : At H1 r s t' dp' H2) : At H r s t' dp' H2 := by
  obtain ⟨p, _, rfl⟩ := h
  obtain ⟨q, hq, rfl⟩ := h'
  exact ⟨q, hq, upd_upd ..⟩
theorem At.at {H H1 : Heap} {r : Nat} {s t : List UInt8} {dp : Nat} (h : At H r s t dp H1) : ∃ p, p ++ t = s ∧ H1 r = some (rdc s p dp) := by
  obtain ⟨p, hp, rfl⟩ := h
  exact ⟨p, hp, upd_same ..⟩
def MayP (H : Heap) (r : Nat) (s : List UInt8) (dp : Nat) (x t : List UInt8) (v : AV) (H' : Heap) : Prop := match mayM x t with
  | some t' => v = .bool true ∧ At H r s t' dp H'
  | none => v = .bool false ∧ At H r s (skB t) dp H'
theorem mayC {H : Heap} {r : Nat} {s p t : List UInt8} {dp : Nat} (hs : p ++ t = s) (hl : s.length ≤ LimS) (hr : H r = some (rdc s p dp)) (x : List UInt8) (hx : x.length ≤ 100) :
    ACalls Tryz.prog 66 [.ptr r 0, .str x] H (fun e H' => ∃ v, e = .ret v ∧ MayP H r s dp x t v H') := by
  refine ACalls.go ir66 ck66 (Nat.le_refl _) fun KP Q hQ => ?_
  simp (disch := first | omega | assumption) only [ir66, go_sem, ↓reduceIte]
  refine goK_ret (blanksC hs hl hr) fun v H1 ⟨hv, ha⟩ => ?_
  subst hv
  have ha0 := ha
  simp only [LimS] at hl
  obtain ⟨q, hq, h1⟩ := ha.at
  simp only [rdc] at h1
  have hlen : q.length + (skB t).length = s.length := by rw [← hq]; simp
  have hle : ((q.length : Int) ≤ s.length) = True := eq_true (by omega)
  have hd : s.drop q.length = skB t := by rw [← hq]; simp
  simp (disch := first | omega | assumption) only [h1, hle, hd, go_sem, ↓reduceIte]
  refine goK_pure (prefixC (skB t) x) ?_
  by_cases hp : x.isPrefixOf (skB t) = true
  · have hm : mayM x t = some ((skB t).drop x.length) := by unfold mayM; rw [if_pos hp]
    have h2 := (List.isPrefixOf_iff_prefix.1 hp).length_le
    simp (disch := first | omega | assumption) only [hp, h1, wrap64, go_sem, ↓reduceIte]
    refine hQ _ _ _ _ [_] nofun rfl (Low.refl _) ?_
    simp only [MayP, hm]
    refine ⟨rfl, ha0.again ⟨q ++ (skB t).take x.length, ?_, ?_⟩⟩
    · rw [List.append_assoc, List.take_append_drop]; exact hq
    · congr 1; simp only [rdc, List.length_append, List.length_take]
      rw [Nat.min_eq_left h2]; rfl
  · have hp' : x.isPrefixOf (skB t) = false := Bool.eq_false_iff.2 hp
    have hm : mayM x t = none := by unfold mayM; rw [if_neg hp]
    simp (disch := first | omega | assumption) only [hp', go_sem, ↓reduceIte]
    refine hQ _ _ _ _ [_] nofun rfl (Low.refl _) ?_
    simp only [MayP, hm]
    exact ⟨rfl, ha0⟩
theorem mustC {H : Heap} {r : Nat} {s p t : List UInt8} {dp : Nat} (hs : p ++ t = s) (hl : s.length ≤ LimS) (hr : H r = some (rdc s p dp)) (x : List UInt8) (hx : x.length ≤ 100) :
    ACalls Tryz.prog 67 [.ptr r 0, .str x] H (fun e H' => match e with | .ret v => RetP H r s dp (mustM x t) (fun _ => .tup []) v H' | .pan v => PanP (mustM x t) v H') := by
  refine ACalls.goO ir67 ck67 (Nat.le_refl _) fun KP Q hQ hP => ?_
  simp (disch := first | omega | assumption) only [ir67, go_sem, ↓reduceIte]
  refine goK_ret (mayC hs hl hr x hx) fun v H1 hm => ?_
  unfold MayP at hm
  cases hx : mayM x t with
  | some t' =>
    rw [hx] at hm
    obtain ⟨hv, ha⟩ := hm
    subst hv
    simp (disch := first | omega | assumption) only [go_sem, ↓reduceIte]
    exact hQ _ _ _ _ [] nofun rfl (Low.refl _) ⟨(), t', by unfold mustM; rw [hx], rfl, ha⟩
  | none =>
    rw [hx] at hm
    obtain ⟨hv, ha⟩ := hm
    subst hv
    simp (disch := first | omega | assumption) only [go_sem, ↓reduceIte]
    exact goK_both (failC H1 r 2) (fun _ _ h => h.elim) fun v H2 h => hP v H2 H2 (Low.refl _) ⟨2, by unfold mustM; rw [hx], h⟩
theorem highC (c : UInt8) : Pure Tryz.prog 110 [.int .u8 c.toNat] (.bool (hiB c)) := by
  refine Pure.go ir110 ck110 (Nat.le_refl _) fun KP Q hQ => ?_
  by_cases h : 32 ≤ c.toNat
  · have h' : ((32 : Int) ≤ c.toNat) = True := eq_true (by omega)
    simp (disch := first | omega | assumption) only [ir110, h', go_sem, ↓reduceIte]
    exact hQ _ _ _ _ nofun rfl (by simp [tupOf, envOf, AV.strip, AV.strip1, hiB, h])
  · have h' : ¬ ((32 : Int) ≤ c.toNat) := by omega
    simp (disch := first | omega | assumption) only [ir110, h', go_sem, ↓reduceIte]
    exact hQ _ _ _ _ nofun rfl (by simp [tupOf, envOf, AV.strip, AV.strip1, hiB, h])
theorem textC {H : Heap} {r : Nat} {s p t : List UInt8} {dp : Nat} (hs : p ++ t = s) (hl : s.length ≤ LimS) (hr : H r = some (rdc s p dp)) :
    ACalls Tryz.prog 63 [.ptr r 0] H (fun e H' => match e with | .ret v => RetP H r s dp (textM t) AV.str v H' | .pan v => PanP (textM t) v H') := by
  refine ACalls.goO ir63 ck63 (Nat.le_refl _) fun KP Q hQ hP => ?_
  simp (disch := first | omega | assumption) only [ir63, go_sem, ↓reduceIte]
  refine goK_ret (blanksC hs hl hr) fun v H1 ⟨hv, ha⟩ => ?_
  subst hv
  have ha0 := ha
  simp only [LimS] at hl
  obtain ⟨q, hq, h1⟩ := ha.at
  simp only [rdc] at h1
  have hlen : q.length + (skB t).length = s.length := by rw [← hq]; simp
  have hle : ((q.length : Int) ≤ s.length) = True := eq_true (by omega)
  have hd : s.drop q.length = skB t := by rw [← hq]; simp
  simp (disch := first | omega | assumption) only [h1, hle, hd, go_sem, ↓reduceIte]
  refine goK_pure (prefixC (skB t) [34]) ?_
  by_cases hp : [34].isPrefixOf (skB t) = true
  · obtain ⟨u, hu⟩ : ∃ u, skB t = 34 :: u := by
      cases hk : skB t with
      | nil => rw [hk] at hp; cases hp
      | cons c u => rw [hk] at hp; simp [List.isPrefixOf] at hp; exact ⟨u, by rw [hp]⟩
    rw [hu] at hp hd hq hlen
    rw [hu]
    simp only [List.length_cons] at hlen
    simp (disch := first | omega | assumption) only [hp, h1, hle, hd, go_sem, ↓reduceIte]
    refine goK_pure (quotedC 110 (by decide +kernel) hiB highC 34 u (by simp only [LimQ]; omega)) ?_
    cases hm : quoM hiB u with
    | none =>
      have e0 : textM t = .error 2 := by unfold textM; rw [hu, if_pos hp]; simp [hm]
      simp (disch := first | omega | assumption) only [quoA, hm, go_sem, ↓reduceIte]
      exact goK_both (failC _ r 2) (fun _ _ h => h.elim) fun v H2 h => hP v H2 H2 (Low.refl _) ⟨2, e0, h⟩
    | some y =>
      obtain ⟨b, t'⟩ := y
      have e0 : textM t = .ok (b, t') := by unfold textM; rw [hu, if_pos hp]; simp [hm]
      have h2 := quoM_suf hm
      have h3 : ¬ (((u.length + 1 - t'.length : Nat) : Int) = 0) := by omega
      simp (disch := first | omega | assumption) only [quoA, hm, h3, h1, wrap64, go_sem, ↓reduceIte]
      refine hQ _ _ _ _ [_] nofun rfl (Low.refl _) ⟨b, t', e0, rfl, ha0.again ?_⟩
      obtain ⟨m, hm2⟩ := h2.1
      refine ⟨q ++ 34 :: m, by rw [← hq, ← hm2]; simp, ?_⟩
      congr 1
      simp only [rdc, List.length_append, List.length_cons]
      have : u.length = m.length + t'.length := by rw [← hm2]; simp
      have e1 : (q.length : Int) + ((u.length + 1 - t'.length : Nat) : Int) = ((q.length + (m.length + 1) : Nat) : Int) := by omega
      rw [e1]
  · have hp' : [34].isPrefixOf (skB t) = false := Bool.eq_false_iff.2 hp
    have e0 : textM t = .error 2 := by unfold textM; rw [if_neg hp]
    simp (disch := first | omega | assumption) only [hp', go_sem, ↓reduceIte]
    exact goK_both (failC _ r 2) (fun _ _ h => h.elim) fun v H2 h => hP v H2 H2 (Low.refl _) ⟨2, e0, h⟩
theorem openC {H : Heap} {r : Nat} {s p : List UInt8} {dp : Nat} (hd : dp ≤ 16) (hr : H r = some (rdc s p dp)) :
    ACalls Tryz.prog 59 [.ptr r 0] H (fun e H' => match e with | .ret v => dp < 16 ∧ v = .tup [] ∧ H' = H.upd r (rdc s p (dp + 1)) | .pan v => dp = 16 ∧ v = stopV 4) := by
  refine ACalls.goO (R := fun v H' => dp < 16 ∧ v = .tup [] ∧ H' = H.upd r (rdc s p (dp + 1))) (RP := fun v _ => dp = 16 ∧ v = stopV 4) ir59 ck59 (Nat.le_refl _) fun KP Q hQ hP => ?_
  simp only [rdc] at hr
  by_cases h : dp = 16
  · have h1 : ((dp : Int) = 16) = True := eq_true (by omega)
    simp (disch := first | omega | assumption) only [ir59, hr, h1, go_sem, ↓reduceIte]
    exact goK_both (failC _ r 4) (fun _ _ h => h.elim) fun v H2 h2 => hP v H2 H2 (Low.refl _) ⟨h, h2⟩
  · have h1 : ¬ ((dp : Int) = 16) := by omega
    simp (disch := first | omega | assumption) only [ir59, hr, h1, wrap64, go_sem, ↓reduceIte]
    exact hQ _ _ _ _ [] nofun rfl (Low.refl _) ⟨by omega, rfl, by simp [rdc]⟩
theorem retStrip {P : Program} {f : FuncId} {args : List AV} {H : Heap} {R RP : AV → Heap → Prop} (h : ACalls P f args H (fun e H' => match e with | .ret v => R v.strip H' | .pan v => RP v H')) :
    ACalls P f args H (fun e H' => match e with | .ret v => R v H' | .pan v => RP v H') := by
  intro γ w vs ht hs hv
  refine (h γ w vs ht hs hv).mono fun e w' ⟨γ', H', r, h1, h2, h3, h4, h5⟩ => ?_
  cases r with
  | ret v =>
    cases e with
    | returned u => exact ⟨γ', H', .ret v.strip, h1, h2, h3, Rep.strip h4, h5⟩
    | panicked ch => exact h4.elim
    | outgrown => exact h4.elim
  | pan v => exact ⟨γ', H', .pan v, h1, h2, h3, h4, h5⟩
theorem numberV {H : Heap} {r : Nat} {s p t : List UInt8} {dp : Nat} (hs : p ++ t = s) (hl : s.length ≤ LimS) (hr : H r = some (rdc s p dp)) :
    ACalls Tryz.prog 65 [.ptr r 0] H (fun e H' => match e with | .ret v => RetP H r s dp (numM t) (fun v => .agg (cV v)) v H' | .pan v => PanP (numM t) v H') := by
  refine retStrip (ACalls.goO (R := fun v H' => RetP H r s dp (numM t) (fun v => .agg (cV v)) v.strip H') (RP := fun v H' => PanP (numM t) v H') ir65 ck65 (Nat.le_refl _) fun KP Q hQ hP => ?_)
  have hl0 := hl
  simp only [LimS] at hl
  have hr0 := hr
  simp only [rdc] at hr
  simp (disch := first | omega | assumption) only [ir65, go_sem, ↓reduceIte]
  refine goA_intro fun b hb => ?_
  have hbr : ¬ (r = b) := fun e => by subst e; rw [hb] at hr; cases hr
  simp (disch := first | omega | assumption) only [hr, hbr, go_sem, ↓reduceIte]
  refine goL_st (fun _ : List UInt8 × List UInt8 => []) (fun x H' => p ++ (x.1 ++ x.2) = s ∧ x.1 ++ x.2.takeWhile nch = t.takeWhile nch ∧ x.2.dropWhile nch = t.dropWhile nch ∧ H' = (H.upd r (rdc s (p ++ x.1) dp)).upd b (.cells [.int .i64 0, .int .i64 0, .str [], .sl .nil 5 [], .sl .nil 6 []])) (fun x => x.2.length) ([], t) (by simp (disch := first | omega | assumption) only [go_sem, ↓reduceIte]) ⟨by simpa using hs, by simp, rfl, ?_⟩ ?_
  · funext c
    by_cases e : c = b
    · simp [Heap.upd, e]
    · by_cases e2 : c = r <;> simp [Heap.upd, e, e2, hr, rdc]
  rintro ⟨q, u⟩ H' J ⟨hq, hu, hd, rfl⟩ hJ
  simp only at hq hu hd
  have hg : ((H.upd r (rdc s (p ++ q) dp)).upd b (.cells [.int .i64 0, .int .i64 0, .str [], .sl .nil 5 [], .sl .nil 6 []])) r = some (.cells [.str s, .int .i64 ((p ++ q).length : Int), .int .i64 (dp : Int)]) := by rw [upd_ne hbr, upd_same]; rfl
  have hgb : ((H.upd r (rdc s (p ++ q) dp)).upd b (.cells [.int .i64 0, .int .i64 0, .str [], .sl .nil 5 [], .sl .nil 6 []])) b = some (.cells [.int .i64 0, .int .i64 0, .str [], .sl .nil 5 [], .sl .nil 6 []]) := upd_same ..
  have hlen : (p ++ q).length + u.length = s.length := by rw [← hq]; simp; omega
  have fin : (u = [] ∨ ∃ c u', u = c :: u' ∧ nch c = false) → q = t.takeWhile nch ∧ u = t.dropWhile nch := by
    rintro (rfl | ⟨c, u', rfl, hc⟩)
    · simp only [List.takeWhile_nil, List.append_nil, List.dropWhile_nil] at hu hd; exact ⟨hu, hd⟩
    · simp only [List.takeWhile_cons, hc, List.dropWhile_cons, Bool.false_eq_true, if_false, List.append_nil] at hu hd; exact ⟨hu, hd⟩
  have b1 : ((p.length : Int) ≤ ((p ++ q).length : Nat)) = True := eq_true (by simp; omega)
  have b2 : ((((p ++ q).length : Nat) : Int) ≤ s.length) = True := eq_true (by omega)
  have e3 : (s.take (p ++ q).length).drop p.length = q := by
    rw [← hq, ← List.append_assoc, List.take_left, List.drop_left]
  have hql : q.length ≤ 1000000 := by simp at hlen; omega
  have low : ∀ {x : AObj}, Low (H.upd r (rdc s (p ++ q) dp)) ((H.upd r (rdc s (p ++ q) dp)).upd b x) := fun {x} => (Low.refl _).upd (by rw [upd_ne (Ne.symm hbr)]; exact hb)
  have hat : At H r s u dp (H.upd r (rdc s (p ++ q) dp)) := ⟨p ++ q, by rw [List.append_assoc]; exact hq, rfl⟩
  cases u with
  | nil =>
    have h1 : ¬ ((((p ++ q).length : Nat) : Int) < s.length) := by simp at hlen ⊢; omega
    have END : (([] : List UInt8) = [] ∨ ∃ c u', ([] : List UInt8) = c :: u' ∧ nch c = false) := .inl rfl
    · simp (disch := first | omega | assumption) only [hg, h1, go_sem, ↓reduceIte]
      obtain ⟨e1, e2⟩ := fin END
      obtain ⟨k, hk⟩ : ∃ k, numK q = k := ⟨_, rfl⟩
      simp (disch := first | omega | assumption) only [hg, b1, b2, e3, go_sem, ↓reduceIte]
      refine goK_pure (NumberC q (by simp only [Lim]; omega)) ?_
      by_cases h0 : numK q = 0
      · have e0 : numM t = .error 2 := by unfold numM; rw [← e1, if_pos h0]
        simp (disch := first | omega | assumption) only [h0, go_sem, ↓reduceIte]
        exact goK_both (failC _ r 2) (fun _ _ h => h.elim) fun v H2 h => hP v H2 H2 (Low.refl _) ⟨2, e0, h⟩
      · have e0 : numM t = .ok (numV q, []) := by unfold numM; rw [← e1, if_neg h0, ← e2]
        simp (disch := first | omega | assumption) only [h0, go_sem, ↓reduceIte]
        refine goK_pure (WholeC q (by simp only [Lim]; omega)) ?_
        cases hw : wholeB q
        · simp (disch := first | omega | assumption) only [hgb, go_sem, ↓reduceIte]
          refine hQ _ _ _ _ [.agg [.int .i64 3, .int .i64 0, .str q, .sl .nil 5 [], .sl .nil 6 []]] nofun (by simp (disch := first | omega | assumption) only [ir65, resvs, resv, upd_same, go_sem, ↓reduceIte]) low ⟨_, _, e0, ?_, hat⟩
          simp [tupOf, AV.strip, AV.strip1, numV, hw, cV, cVs, cMs]
        · simp (disch := first | omega | assumption) only [go_sem, ↓reduceIte]
          refine goK_pure (intP _) ?_
          simp (disch := first | omega | assumption) only [hgb, cV, cVs, cMs, go_sem, ↓reduceIte]
          refine hQ _ _ _ _ [.agg [.int .i64 2, .int .i64 (valI q), .str [], .sl .no 5 [], .sl .no 6 []]] nofun (by simp (disch := first | omega | assumption) only [ir65, resvs, resv, upd_same, go_sem, ↓reduceIte]) low ⟨_, _, e0, ?_, hat⟩
          simp [tupOf, AV.strip, AV.strip1, numV, hw, cV, cVs, cMs]
  | cons c u =>
    have h1 : ((((p ++ q).length : Nat) : Int) < s.length) = True := eq_true (by simp at hlen ⊢; omega)
    have hc : s.getD (p ++ q).length 0 = c := by rw [← hq, ← List.append_assoc]; simp
    simp (disch := first | omega | assumption) only [hg, h1, hc, go_sem, ↓reduceIte]
    refine goK_pure (idxByteC [48, 49, 50, 51, 52, 53, 54, 55, 56, 57, 43, 45, 46, 101, 69] c) ?_
    by_cases hb2 : 0 ≤ Lib.indexByte [48, 49, 50, 51, 52, 53, 54, 55, 56, 57, 43, 45, 46, 101, 69] c
    · have hbk : nch c = true := by simp [nch, hb2]
      simp (disch := first | omega | assumption) only [hb2, hg, wrap64, go_sem, ↓reduceIte]
      refine goJ (hJ (q ++ [c], u) _ (by simp) ⟨by simpa using hq, ?_, ?_, ?_⟩) (by simp (disch := first | omega | assumption) only [go_sem, ↓reduceIte])
      · rw [← hu]; simp [hbk]
      · rw [← hd]; simp [hbk]
      · funext n
        by_cases e : n = b
        · subst e; simp [Heap.upd, Ne.symm hbr]
        · by_cases e2 : n = r
          · subst e2; simp [Heap.upd, hbr, rdc, Int.add_assoc]
          · simp [Heap.upd, e, e2]
    · have hbk : nch c = false := by simp [nch, hb2]
      have END : (c :: u = [] ∨ ∃ c' u', c :: u = c' :: u' ∧ nch c' = false) := .inr ⟨c, u, rfl, hbk⟩
      simp (disch := first | omega | assumption) only [hb2, hg, go_sem, ↓reduceIte]
      obtain ⟨e1, e2⟩ := fin END
      obtain ⟨k, hk⟩ : ∃ k, numK q = k := ⟨_, rfl⟩
      simp (disch := first | omega | assumption) only [b1, b2, e3, hg, rdc, go_sem, ↓reduceIte]
      refine goK_pure (NumberC q (by simp only [Lim]; omega)) ?_
      by_cases h0 : numK q = 0
      · have e0 : numM t = .error 2 := by unfold numM; rw [← e1, if_pos h0]
        simp (disch := first | omega | assumption) only [h0, go_sem, ↓reduceIte]
        exact goK_both (failC _ r 2) (fun _ _ h => h.elim) fun v H2 h => hP v H2 H2 (Low.refl _) ⟨2, e0, h⟩
      · have e0 : numM t = .ok (numV q, c :: u) := by unfold numM; rw [← e1, if_neg h0, ← e2]
        simp (disch := first | omega | assumption) only [h0, go_sem, ↓reduceIte]
        refine goK_pure (WholeC q (by simp only [Lim]; omega)) ?_
        cases hw : wholeB q
        · simp (disch := first | omega | assumption) only [hgb, go_sem, ↓reduceIte]
          refine hQ _ _ _ _ [.agg [.int .i64 3, .int .i64 0, .str q, .sl .nil 5 [], .sl .nil 6 []]] nofun (by simp (disch := first | omega | assumption) only [ir65, resvs, resv, upd_same, go_sem, ↓reduceIte]) low ⟨_, _, e0, ?_, hat⟩
          simp [tupOf, AV.strip, AV.strip1, numV, hw, cV, cVs, cMs]
        · simp (disch := first | omega | assumption) only [go_sem, ↓reduceIte]
          refine goK_pure (intP _) ?_
          simp (disch := first | omega | assumption) only [hgb, cV, cVs, cMs, go_sem, ↓reduceIte]
          refine hQ _ _ _ _ [.agg [.int .i64 2, .int .i64 (valI q), .str [], .sl .no 5 [], .sl .no 6 []]] nofun (by simp (disch := first | omega | assumption) only [ir65, resvs, resv, upd_same, go_sem, ↓reduceIte]) low ⟨_, _, e0, ?_, hat⟩
          simp [tupOf, AV.strip, AV.strip1, numV, hw, cV, cVs, cMs]
end Go.Proofs.YtpjafglhdlfnbaaGreatDoor
namespace Go.Proofs.YtpjafglhdlfnbaaGreatDoor
open Go.Ab
theorem getV_has (s : List UInt8) : ∀ l, (getV s l).2 = hasN s l
  | [] => rfl
  | .mk t v :: r => by
    simp only [getV, hasN]
    by_cases h : t = s
    · simp [h]
    · simp only [h, if_false, decide_false, Bool.false_or]; exact getV_has s r
theorem valM_sk (n : Nat) (t : List UInt8) : valM n (skB t) = valM n t := by
  cases n <;> simp only [valM, skB_idem]
structure LInv (H : Heap) (r : Nat) (s : List UInt8) (dp : Nat) (H' : Heap) (t : List UInt8) (o : Own) (n sz : Nat) : Prop where
  keep : ∀ c x, c ≠ r → H c = some x → H' c = some x
  here : ∃ p, p ++ t = s ∧ H' r = some (rdc s p dp)
  own : Owned H' o n sz
  tip : ∀ b d, o = .tip b d → H b = none
  hr : ∃ x, H r = some x
theorem LInv.call {H H1 H2 : Heap} {r : Nat} {s t t' : List UInt8} {dp dp' : Nat} {o : Own} {n sz : Nat} (h : LInv H r s dp H1 t o n sz) (ha : At H1 r s t' dp' H2) : LInv H r s dp' H2 t' o n sz := by
  obtain ⟨p, hp, h1⟩ := h.here
  obtain ⟨q, hq, rfl⟩ := ha
  exact ⟨fun c x hc hx => by rw [upd_ne hc]; exact h.keep c x hc hx, ⟨q, hq, upd_same ..⟩, own_upd h.own h1, h.tip, h.hr⟩
theorem LInv.app {H H1 H2 : Heap} {r : Nat} {s t : List UInt8} {dp : Nat} {o o' : Own} {n n' sz : Nat} (h : LInv H r s dp H1 t o n sz) (hs : OwnS H1 o H2 o' n' sz) : LInv H r s dp H2 t o' n' sz := by
  obtain ⟨p, hp, h1⟩ := h.here
  refine ⟨fun c x hc hx => hs.kept c x (h.keep c x hc hx) fun d e => ?_, ⟨p, hp, own_keep h.own h1 hs.kept⟩, hs.own, fun b d e => ?_, h.hr⟩
  · have := h.tip c d e; rw [hx] at this; cases this
  · rcases hs.new b d e with h2 | ⟨d0, e2⟩
    · cases hb : H b with
      | none => rfl
      | some x =>
        by_cases e3 : b = r
        · subst e3; rw [h1] at h2; cases h2
        · rw [h.keep b x e3 hb] at h2; cases h2
    · exact h.tip b d0 e2
theorem LInv.box {H H1 : Heap} {r b : Nat} {s t : List UInt8} {dp : Nat} {o : Own} {n sz : Nat} {cs cs' : List AV} (h : LInv H r s dp H1 t o n sz) (hb : H b = none) (h1 : H1 b = some (.cells cs)) : LInv H r s dp (H1.upd b (.cells cs')) t o n sz := by
  have hbr : r ≠ b := fun e => by subst e; obtain ⟨x, hx⟩ := h.hr; rw [hb] at hx; cases hx
  obtain ⟨p, hp, h2⟩ := h.here
  exact ⟨fun c x hc hx => by rw [upd_ne (fun e => by subst e; rw [hb] at hx; cases hx)]; exact h.keep c x hc hx, ⟨p, hp, by rw [upd_ne hbr]; exact h2⟩, own_upd h.own h1, h.tip, h.hr⟩
theorem LInv.low {H H1 : Heap} {r : Nat} {s t : List UInt8} {dp : Nat} {o : Own} {n sz : Nat} (h : LInv H r s dp H1 t o n sz) : ∃ H2, Low H2 H1 ∧ At H r s t dp H2 := by
  obtain ⟨p, hp, h1⟩ := h.here
  refine ⟨_, Low.of_sub fun c x hc => ?_, p, hp, rfl⟩
  by_cases e : c = r
  · subst e; rw [upd_same] at hc; rw [← hc]; exact h1
  · rw [upd_ne e] at hc; exact h.keep c x e hc
theorem OwnS.unbox {A H' : Heap} {o o' : Own} {n sz b : Nat} {x : AObj} (h : OwnS (A.upd b x) o H' o' n sz) (hb : A b = none) : OwnS A o H' o' n sz := by
  refine ⟨h.own, fun c y hc hn => h.kept c y ?_ hn, fun c d e => ?_⟩
  · rw [upd_ne (fun e => by subst e; rw [hb] at hc; cases hc)]; exact hc
  · rcases h.new c d e with h1 | h1
    · left
      by_cases e2 : c = b
      · subst e2; exact hb
      · rwa [upd_ne e2] at h1
    · exact .inr h1
theorem LInv.mem {H H1 H2 : Heap} {r : Nat} {s t t' p' : List UInt8} {dp : Nat} {o o' : Own} {n n' sz : Nat} (h : LInv H r s dp H1 t o n sz) (hp : p' ++ t' = s) (hs : OwnS (H1.upd r (rdc s p' dp)) o H2 o' n' sz) : LInv H r s dp H2 t' o' n' sz :=
  (h.call ⟨p', hp, rfl⟩).app hs
def ValC (k : Nat) : Prop := ∀ (H : Heap) (r : Nat) (s p t : List UInt8), p ++ t = s → s.length ≤ LimS → H r = some (rdc s p (16 - k)) →
  ACalls Tryz.prog 33 [.ptr r 0] H (fun e H' => match e with | .ret v => RetP H r s (16 - k) (valM k t) (fun v => .agg (cV v)) v H' | .pan v => PanP (valM k t) v H')
def MemP (H : Heap) (r : Nat) (s : List UInt8) (dp : Nat) (o : Own) (x : RR (List Mem)) (v : AV) (H' : Heap) : Prop :=
  ∃ l' t' o' p', x = .ok (l', t') ∧ v = .sl o' 6 (cMs l') ∧ p' ++ t' = s ∧ OwnS (H.upd r (rdc s p' dp)) o H' o' l'.length 6
theorem memberC {k : Nat} (hv : ValC k) {H : Heap} {r : Nat} {s p t : List UInt8} (hs : p ++ t = s) (hl : s.length ≤ LimS) (hr : H r = some (rdc s p (16 - k))) (l : List Mem) (o : Own) (ho : Owned H o l.length 6) (hb : l.length ≤ LimS) :
    ACalls Tryz.prog 109 [.ptr r 0, .sl o 6 (cMs l)] H (fun e H' => match e with | .ret v => MemP H r s (16 - k) o (memberM (valM k) l t) v H' | .pan v => PanP (memberM (valM k) l t) v H') := by
  refine ACalls.goO ir109 ck109 (Nat.le_refl _) fun KP Q hQ hP => ?_
  have hml := cMs_len l
  simp (disch := first | omega | assumption) only [ir109, go_sem, ↓reduceIte]
  refine goK_both (textC hs hl hr) (fun v H1 ⟨nm, t1, e1, hv1, ha1⟩ => ?_) fun v H1 ⟨n, e1, hv1⟩ => hP v H1 H1 (Low.refl _) ⟨n, by unfold memberM RR.bind; rw [e1], hv1⟩
  subst hv1
  simp only [LimS] at hb
  have hl1 : H1 r = some (rdc s _ (16 - k)) := ha1.at.choose_spec.2
  obtain ⟨p1, hp1, hr1⟩ := ha1.at
  simp (disch := first | omega | assumption) only [go_sem, ↓reduceIte]
  refine goK_pure (Pure.low (getP nm l (by simp only [Lim]; omega))) ?_
  rw [getV_has]
  simp (disch := first | omega | assumption) only [cV_len, cV_take, cV_splice, cM_len, cM_take, cM_splice, cM_mk, go_sem, ↓reduceIte]
  refine goA_intro fun b1 hb1 => ?_
  have hbr : ¬ (r = b1) := fun e => by subst e; rw [hb1] at hr1; cases hr1
  have em : memberM (valM k) l t = if hasN nm l then .error 5 else (mustM [58] t1).bind fun _ t => (valM k t).bind fun v t => .ok (l ++ [.mk nm v], t) := by unfold memberM; rw [e1]; rfl
  cases hh : hasN nm l
  · rw [hh] at em
    simp only [Bool.false_eq_true, if_false] at em
    simp (disch := first | omega | assumption) only [cV_len, cV_take, cV_splice, cM_len, cM_take, cM_splice, cM_mk, go_sem, ↓reduceIte]
    refine goK_both (mustC (dp := 16 - k) hp1 hl (by rw [upd_ne hbr]; exact hr1) [58] (by decide)) (fun v H2 ⟨_, t2, e2, hv2, ha2⟩ => ?_) fun v H2 ⟨n, e2, hv2⟩ => hP v H2 H2 (Low.refl _) ⟨n, by rw [em, e2]; rfl, hv2⟩
    subst hv2
    obtain ⟨p2, hp2, hr2⟩ := ha2.at
    simp (disch := first | omega | assumption) only [cV_len, cV_take, cV_splice, cM_len, cM_take, cM_splice, cM_mk, go_sem, ↓reduceIte]
    refine goK_both (hv _ r s p2 t2 hp2 hl hr2) (fun v H3 ⟨x, t3, e3, hv3, ha3⟩ => ?_) fun v H3 ⟨n, e3, hv3⟩ => hP v H3 H3 (Low.refl _) ⟨n, by rw [em, e2]; simp only [RR.bind, e3], hv3⟩
    subst hv3
    have hat := (ha2.again ha3)
    obtain ⟨p3, hp3, rfl⟩ := hat
    have hb3 : (H1.upd b1 (.cells (cV (getV nm l).1))) r = some (rdc s p1 (16 - k)) := by rw [upd_ne hbr]; exact hr1
    have ho3 : Owned (((H1.upd b1 (.cells (cV (getV nm l).1))).upd r (rdc s p3 (16 - k)))) o l.length 6 := by
      obtain ⟨p0, hp0, rfl⟩ := ha1
      refine own_upd ?_ hb3
      cases o with
      | tip c d =>
        have h5 : H c = some _ := ho
        have h6 := own_ne ho hr
        have h7 : c ≠ b1 := fun e => by subst e; rw [upd_ne h6, h5] at hb1; cases hb1
        show (_ : Heap) c = _
        rw [upd_ne h7, upd_ne h6]; exact h5
      | no => exact ho
      | nil => exact ho
      | full => exact ho
    simp (disch := first | omega | assumption) only [cV_len, cV_take, cV_splice, cM_len, cM_take, cM_splice, cM_mk, cV_len, cV_strip, hml, go_sem, ↓reduceIte]
    refine goP_ownS (by rw [hml]; exact ho3) (by simp [hml]; omega) (by simp [maxLen, hml]; omega) fun o' H4 hs4 => ?_
    simp (disch := first | omega | assumption) only [cV_len, cV_take, cV_splice, cM_len, cM_take, cM_splice, cM_mk, go_sem, ↓reduceIte]
    refine hQ _ _ H4 H4 [_] nofun rfl (Low.refl _) ⟨l ++ [.mk nm x], t3, o', p3, by rw [em, e2]; simp only [RR.bind, e3], ?_, hp3, ?_⟩
    · show AV.sl o' 6 (cMs l ++ [AV.str nm :: (cV x).map AV.strip1]) = _
      rw [cV_strip, cMs_map, cMs_map]; simp [cM]
    · obtain ⟨p0, hp0, rfl⟩ := ha1
      have e5 : (((H.upd r (rdc s p0 (16 - k))).upd b1 (.cells (cV (getV nm l).1))).upd r (rdc s p3 (16 - k))) = (H.upd r (rdc s p3 (16 - k))).upd b1 (.cells (cV (getV nm l).1)) := by
        funext c
        by_cases e : c = r
        · subst e; simp [Heap.upd, hbr]
        · simp [Heap.upd, e]
      rw [e5] at hs4
      rw [List.length_append]
      refine OwnS.unbox (by simpa [hml] using hs4) ?_
      rw [upd_ne (Ne.symm hbr)] at hb1 ⊢; exact hb1
  · rw [hh] at em
    simp only [if_true] at em
    simp (disch := first | omega | assumption) only [cV_len, cV_take, cV_splice, cM_len, cM_take, cM_splice, cM_mk, go_sem, ↓reduceIte]
    exact goK_both (failC _ r 5) (fun _ _ h => h.elim) fun v H2 h => hP v H2 H2 (Low.refl _) ⟨5, em, h⟩
end Go.Proofs.YtpjafglhdlfnbaaGreatDoor
