/- Texts joined: NumB NumC ValE RowJ RowV Doc Qm RowD Sep LibB Jm Jn Enc Quo Quo2 Quo3 Jv Jp Itoa NumR NumS Jr Jo Code Good Qr Deci Qr2 Qr3 Qr4 Tm Tp Tq Tp2 Pm Tp3 Wa Wb. -/
import Derived.JoinedOf
import Derived.Lib.ItoaMem
import Derived.Lib.ItoaLen
import Derived.Lib.ValidLaws
import Derived.Lib.ParseIntBTie
import Derived.Lib.Join
import Derived.Lib.DecodeN
import Derived.Lib.TrimUEq
import Derived.Shelf.Strings.OnBuilder
import Derived.Test.YticbbfbpeimkbaaGreatDoorM1
import Derived.Test.YticbbfbpeimkbaaGreatDoorM2
import Derived.Test.YticbbfbpeimkbaaGreatDoorM3
set_option maxRecDepth 100000
set_option linter.unusedSimpArgs false
set_option linter.unusedVariables false
namespace Go.Proofs.YticbbfbpeimkbaaGreatDoor
open Go.Ab
theorem prefix1 (c : UInt8) (s : List UInt8) : [c].isPrefixOf s = decide (s.head? = some c) := by
  cases s with
  | nil => rfl
  | cons d r =>
    by_cases h : d = c
    · subst h; simp [List.isPrefixOf]
    · have h' : ¬ c = d := fun e => h e.symm
      simp [List.isPrefixOf, h, h']
def intN (s : List UInt8) : Nat := if run1 s = 0 then 0 else if s.getD 0 0 = 48 then 1 else run1 s
def wholeN (s : List UInt8) : Nat := if s.head? = some 45 then (if run1 s.tail = 0 then 0 else 1 + intN s.tail) else intN s
theorem intN_le (s : List UInt8) : intN s ≤ s.length := by have := run1_le s; unfold intN; split <;> (try split) <;> omega
theorem wholeN_le (s : List UInt8) : wholeN s ≤ s.length := by
  have h1 := intN_le s
  have h2 := intN_le s.tail
  unfold wholeN
  split
  · rename_i h
    cases s with
    | nil => simp at h
    | cons c r =>
      simp only [List.tail_cons, List.length_cons] at h2 ⊢
      by_cases h0 : run1 r = 0 <;> simp only [h0, if_true, if_false] <;> omega
  · exact h1
theorem u8_is (a : UInt8) (n : Nat) (hn : n < 256) : decide ((a.toNat : Int) = n) = decide (a = UInt8.ofNat n) := by
  rw [decide_eq_decide]
  have : (UInt8.ofNat n).toNat = n := by simp [UInt8.toNat_ofNat']; omega
  constructor
  · intro h; apply UInt8.toNat_inj.1; rw [this]; omega
  · intro h; subst h; rw [this]
theorem wholeC (s : List UInt8) (hs : s.length ≤ Lim) : Pure Tryz.prog 284 [.str s] (.int .i64 (wholeN s)) := by
  refine Pure.go ir284 ck284 (Nat.le_refl _) fun KP Q hQ => ?_
  simp only [Lim] at hs
  simp (disch := first | omega | assumption) only [ir284, go_sem, ↓reduceIte]
  refine goK_pure (prefixC s [45]) ?_
  rw [prefix1]
  by_cases h : s.head? = some 45
  · cases s with
    | nil => simp at h
    | cons c r =>
      have hc : c = 45 := by simpa using h
      subst hc
      simp only [List.length_cons] at hs
      have h1 : (1 : Int) ≤ ((r.length + 1 : Nat) : Int) := by omega
      have h2 : (1 : Int) < ((r.length + 1 : Nat) : Int) ∨ r = [] := by cases r <;> simp; omega
      simp (disch := first | omega | assumption) only [h, h1, Int.toNat_one, go_sem, ↓reduceIte]
      refine goK_pure (digitsC r (by simp only [Lim]; omega)) ?_
      by_cases h0 : run1 r = 0
      · simp (disch := first | omega | assumption) only [h0, go_sem, ↓reduceIte]
        exact hQ _ _ _ _ nofun rfl (by simp [tupOf, envOf, AV.strip, AV.strip1, wholeN, h0])
      · have h0' : ¬ ((run1 r : Int) = 0) := by omega
        have hrl := run1_le r
        have hlt : (1 : Int) < ((r.length + 1 : Nat) : Int) := by omega
        have e := u8_is (r.getD 0 0) 48 (by omega)
        by_cases h48 : r.getD 0 0 = 48
        · have hi : intN r = 1 := by simp only [intN, h0, h48, if_false, if_true]
          simp (disch := first | omega | assumption) only [h0', hlt, Int.toNat_one, h48, UInt8.reduceToNat, wrap64, go_sem, ↓reduceIte]
          exact hQ _ _ _ _ nofun rfl (by simp [tupOf, envOf, AV.strip, AV.strip1, wholeN, h0, hi])
        · have h48' : ¬ ((r.getD 0 0).toNat : Int) = 48 := by
            intro hh
            rw [decide_eq_true (by exact hh)] at e
            exact h48 (by simpa using e.symm)
          have hi : intN r = run1 r := by simp only [intN, h0, h48, if_false]
          simp (disch := first | omega | assumption) only [h0', hlt, Int.toNat_one, h48', wrap64, go_sem, ↓reduceIte]
          exact hQ _ _ _ _ nofun rfl (by simp [tupOf, envOf, AV.strip, AV.strip1, wholeN, h0, hi])
  · simp (disch := first | omega | assumption) only [h, go_sem, ↓reduceIte]
    refine goK_pure (digitsC s (by simp only [Lim]; omega)) ?_
    by_cases h0 : run1 s = 0
    · simp (disch := first | omega | assumption) only [h0, go_sem, ↓reduceIte]
      exact hQ _ _ _ _ nofun rfl (by simp [tupOf, envOf, AV.strip, AV.strip1, wholeN, h, intN, h0])
    · have h0' : ¬ ((run1 s : Int) = 0) := by omega
      have hrl := run1_le s
      have hlt : (0 : Int) < (s.length : Int) := by omega
      have e := u8_is (s.getD 0 0) 48 (by omega)
      by_cases h48 : s.getD 0 0 = 48
      · have hi : intN s = 1 := by simp only [intN, h0, h48, if_false, if_true]
        simp (disch := first | omega | assumption) only [h0', hlt, h48, UInt8.reduceToNat, wrap64, go_sem, ↓reduceIte]
        exact hQ _ _ _ _ nofun rfl (by simp [tupOf, envOf, AV.strip, AV.strip1, wholeN, h, hi])
      · have h48' : ¬ ((s.getD 0 0).toNat : Int) = 48 := by
          intro hh
          rw [decide_eq_true (by exact hh)] at e
          exact h48 (by simpa using e.symm)
        have hi : intN s = run1 s := by simp only [intN, h0, h48, if_false]
        simp (disch := first | omega | assumption) only [h0', hlt, h48', wrap64, go_sem, ↓reduceIte]
        exact hQ _ _ _ _ nofun rfl (by simp [tupOf, envOf, AV.strip, AV.strip1, wholeN, h, hi])
def isE (c : UInt8) : Bool := decide (c = 101) || decide (c = 69)
def sgN (r : List UInt8) : Nat := if r.head? = some 43 ∨ r.head? = some 45 then 1 else 0
def powN : List UInt8 → Nat
  | [] => 0
  | c :: r => if isE c then (if run1 (r.drop (sgN r)) = 0 then 0 else 1 + sgN r + run1 (r.drop (sgN r))) else 0
theorem sgN_le (r : List UInt8) : sgN r ≤ r.length := by
  unfold sgN
  split
  · cases r <;> simp_all
  · omega
theorem powN_le : ∀ s, powN s ≤ s.length
  | [] => by simp [powN]
  | c :: r => by
    have h := run1_le (r.drop (sgN r))
    have h2 := sgN_le r
    rw [List.length_drop] at h
    simp only [powN, List.length_cons]
    split
    · split <;> omega
    · omega
theorem powerC (s : List UInt8) (hs : s.length ≤ Lim) : Pure Tryz.prog 286 [.str s] (.int .i64 (powN s)) := by
  refine Pure.go ir286 ck286 (Nat.le_refl _) fun KP Q hQ => ?_
  simp only [Lim] at hs
  cases s with
  | nil =>
    simp (disch := first | omega | assumption) only [ir286, go_sem, ↓reduceIte]
    exact hQ _ _ _ _ nofun rfl (by simp [tupOf, envOf, AV.strip, AV.strip1, powN])
  | cons c r =>
    simp only [List.length_cons] at hs
    have hne : ¬ (c :: r = []) := by simp
    have hp : (0 : Int) < ((r.length + 1 : Nat) : Int) := by omega
    have e1 := u8_is c 101 (by omega)
    have e2 := u8_is c 69 (by omega)
    have hE : ∀ (P : Prop), P → P := fun _ h => h
    by_cases hc : isE c = true
    case neg =>
      have hc1 : ¬ (c.toNat : Int) = 101 := by
        intro hh; rw [decide_eq_true (by exact hh)] at e1
        exact hc (by simp [isE, (by simpa using e1.symm : c = 101)])
      have hc2 : ¬ (c.toNat : Int) = 69 := by
        intro hh; rw [decide_eq_true (by exact hh)] at e2
        exact hc (by simp [isE, (by simpa using e2.symm : c = 69)])
      simp (disch := first | omega | assumption) only [ir286, hne, hp, hc1, hc2, go_sem, ↓reduceIte]
      have hcf : isE c = false := by simpa using hc
      exact hQ _ _ _ _ nofun rfl (by simp [tupOf, envOf, AV.strip, AV.strip1, powN, hcf])
    have fin : ∀ k : Nat, run1 (r.drop (sgN r)) = k → powN (c :: r) = if k = 0 then 0 else 1 + sgN r + k := fun k hk => by subst hk; simp only [powN, hc, if_true]
    have hcase : (c.toNat : Int) = 101 ∨ (¬ (c.toNat : Int) = 101 ∧ (c.toNat : Int) = 69) := by
      simp only [isE, Bool.or_eq_true, decide_eq_true_eq] at hc
      rcases hc with rfl | rfl
      · exact .inl rfl
      · exact .inr ⟨by decide, rfl⟩
    have hdl := run1_le (r.drop (sgN r))
    rw [List.length_drop] at hdl
    have hsl := sgN_le r
    cases r with
    | nil =>
      have k0 := fin 0 (by simp [sgN, run1])
      rcases hcase with h1 | ⟨h1, h2⟩
      · simp (disch := first | omega | assumption) only [ir286, h1, go_sem, ↓reduceIte]
        refine goK_pure (digitsC [] (by simp)) ?_
        simp (disch := first | omega | assumption) only [run1, go_sem, ↓reduceIte]
        exact hQ _ _ _ _ nofun rfl (by simp [tupOf, envOf, AV.strip, AV.strip1, k0])
      · simp (disch := first | omega | assumption) only [ir286, h1, h2, go_sem, ↓reduceIte]
        refine goK_pure (digitsC [] (by simp)) ?_
        simp (disch := first | omega | assumption) only [run1, go_sem, ↓reduceIte]
        exact hQ _ _ _ _ nofun rfl (by simp [tupOf, envOf, AV.strip, AV.strip1, k0])
    | cons d t =>
      simp only [List.length_cons] at hs
      have hl1 : (1 : Int) < ((t.length + 1 + 1 : Nat) : Int) := by omega
      have hl2 : (2 : Int) ≤ ((t.length + 1 + 1 : Nat) : Int) := by omega
      have hl3 : (1 : Int) ≤ ((t.length + 1 + 1 : Nat) : Int) := by omega
      have f1 := u8_is d 43 (by omega)
      have f2 := u8_is d 45 (by omega)
      by_cases hsg : d = 43 ∨ d = 45
      · have hsg1 : sgN (d :: t) = 1 := by simp only [sgN, List.head?_cons, Option.some.injEq, hsg, if_true]
        have k0 := fin (run1 t) (by rw [hsg1]; rfl)
        rw [hsg1] at k0 hdl
        have hd : (d.toNat : Int) = 43 ∨ (¬ (d.toNat : Int) = 43 ∧ (d.toNat : Int) = 45) := by
          rcases hsg with rfl | rfl
          · exact .inl rfl
          · exact .inr ⟨by decide, rfl⟩
        rcases hcase with h1 | ⟨h1, h2⟩ <;> rcases hd with h3 | ⟨h3, h4⟩
        all_goals
          simp only [hl1, hl2, List.length_cons, List.drop_succ_cons, List.drop_zero] at hdl
        · simp (disch := first | omega | assumption) only [ir286, h1, h3, hl1, hl2, Int.toNat_one, go_sem, ↓reduceIte]
          refine goK_pure (digitsC t (by simp only [Lim]; omega)) ?_
          by_cases hz : run1 t = 0
          · simp (disch := first | omega | assumption) only [hz, go_sem, ↓reduceIte]
            exact hQ _ _ _ _ nofun rfl (by simp [tupOf, envOf, AV.strip, AV.strip1, k0, hz])
          · have hz' : ¬ (run1 t : Int) = 0 := by omega
            simp (disch := first | omega | assumption) only [hz', wrap64, go_sem, ↓reduceIte]
            exact hQ _ _ _ _ nofun rfl (by simp [tupOf, envOf, AV.strip, AV.strip1, k0, hz])
        · simp (disch := first | omega | assumption) only [ir286, h1, h3, h4, hl1, hl2, Int.toNat_one, go_sem, ↓reduceIte]
          refine goK_pure (digitsC t (by simp only [Lim]; omega)) ?_
          by_cases hz : run1 t = 0
          · simp (disch := first | omega | assumption) only [hz, go_sem, ↓reduceIte]
            exact hQ _ _ _ _ nofun rfl (by simp [tupOf, envOf, AV.strip, AV.strip1, k0, hz])
          · have hz' : ¬ (run1 t : Int) = 0 := by omega
            simp (disch := first | omega | assumption) only [hz', wrap64, go_sem, ↓reduceIte]
            exact hQ _ _ _ _ nofun rfl (by simp [tupOf, envOf, AV.strip, AV.strip1, k0, hz])
        · simp (disch := first | omega | assumption) only [ir286, h1, h2, h3, hl1, hl2, Int.toNat_one, go_sem, ↓reduceIte]
          refine goK_pure (digitsC t (by simp only [Lim]; omega)) ?_
          by_cases hz : run1 t = 0
          · simp (disch := first | omega | assumption) only [hz, go_sem, ↓reduceIte]
            exact hQ _ _ _ _ nofun rfl (by simp [tupOf, envOf, AV.strip, AV.strip1, k0, hz])
          · have hz' : ¬ (run1 t : Int) = 0 := by omega
            simp (disch := first | omega | assumption) only [hz', wrap64, go_sem, ↓reduceIte]
            exact hQ _ _ _ _ nofun rfl (by simp [tupOf, envOf, AV.strip, AV.strip1, k0, hz])
        · simp (disch := first | omega | assumption) only [ir286, h1, h2, h3, h4, hl1, hl2, Int.toNat_one, go_sem, ↓reduceIte]
          refine goK_pure (digitsC t (by simp only [Lim]; omega)) ?_
          by_cases hz : run1 t = 0
          · simp (disch := first | omega | assumption) only [hz, go_sem, ↓reduceIte]
            exact hQ _ _ _ _ nofun rfl (by simp [tupOf, envOf, AV.strip, AV.strip1, k0, hz])
          · have hz' : ¬ (run1 t : Int) = 0 := by omega
            simp (disch := first | omega | assumption) only [hz', wrap64, go_sem, ↓reduceIte]
            exact hQ _ _ _ _ nofun rfl (by simp [tupOf, envOf, AV.strip, AV.strip1, k0, hz])
      · have hsg0 : sgN (d :: t) = 0 := by simp only [sgN, List.head?_cons, Option.some.injEq, hsg, if_false]
        have k0 := fin (run1 (d :: t)) (by rw [hsg0]; rfl)
        rw [hsg0] at k0 hdl
        have h3 : ¬ (d.toNat : Int) = 43 := by
          intro hh; rw [decide_eq_true (by exact hh)] at f1
          exact hsg (.inl (by simpa using f1.symm))
        have h4 : ¬ (d.toNat : Int) = 45 := by
          intro hh; rw [decide_eq_true (by exact hh)] at f2
          exact hsg (.inr (by simpa using f2.symm))
        simp only [List.drop_zero, List.length_cons] at hdl
        rcases hcase with h1 | ⟨h1, h2⟩
        · simp (disch := first | omega | assumption) only [ir286, h1, h3, h4, hl1, hl3, Int.toNat_one, go_sem, ↓reduceIte]
          refine goK_pure (digitsC (d :: t) (by simp only [Lim, List.length_cons]; omega)) ?_
          by_cases hz : run1 (d :: t) = 0
          · simp (disch := first | omega | assumption) only [hz, go_sem, ↓reduceIte]
            exact hQ _ _ _ _ nofun rfl (by simp [tupOf, envOf, AV.strip, AV.strip1, k0, hz])
          · have hz' : ¬ (run1 (d :: t) : Int) = 0 := by omega
            simp (disch := first | omega | assumption) only [hz', wrap64, go_sem, ↓reduceIte]
            exact hQ _ _ _ _ nofun rfl (by simp [tupOf, envOf, AV.strip, AV.strip1, k0, hz])
        · simp (disch := first | omega | assumption) only [ir286, h1, h2, h3, h4, hl1, hl3, Int.toNat_one, go_sem, ↓reduceIte]
          refine goK_pure (digitsC (d :: t) (by simp only [Lim, List.length_cons]; omega)) ?_
          by_cases hz : run1 (d :: t) = 0
          · simp (disch := first | omega | assumption) only [hz, go_sem, ↓reduceIte]
            exact hQ _ _ _ _ nofun rfl (by simp [tupOf, envOf, AV.strip, AV.strip1, k0, hz])
          · have hz' : ¬ (run1 (d :: t) : Int) = 0 := by omega
            simp (disch := first | omega | assumption) only [hz', wrap64, go_sem, ↓reduceIte]
            exact hQ _ _ _ _ nofun rfl (by simp [tupOf, envOf, AV.strip, AV.strip1, k0, hz])
end Go.Proofs.YticbbfbpeimkbaaGreatDoor
namespace Go.Proofs.YticbbfbpeimkbaaGreatDoor
open Go.Ab
def fracN (r : List UInt8) : Nat := if r.head? = some 46 ∧ 0 < run1 r.tail then 1 + run1 r.tail else 0
def numN (s : List UInt8) : Nat × Int :=
  if wholeN s = 0 then (0, 0) else
    (wholeN s + fracN (s.drop (wholeN s)) + powN (s.drop (wholeN s + fracN (s.drop (wholeN s)))), if fracN (s.drop (wholeN s)) = 0 ∧ powN (s.drop (wholeN s + fracN (s.drop (wholeN s)))) = 0 then 3 else 4)
theorem numberC (s : List UInt8) (hs : s.length ≤ Lim) : Pure Tryz.prog 225 [.str s] (.tup [.int .i64 (numN s).1, .int .i64 (numN s).2]) := by
  refine Pure.go ir225 ck225 (Nat.le_refl _) fun KP Q hQ => ?_
  have hs' := hs
  simp only [Lim] at hs
  simp (disch := first | omega | assumption) only [ir225, go_sem, ↓reduceIte]
  refine goK_pure (wholeC s hs') ?_
  have hw := wholeN_le s
  by_cases h0 : wholeN s = 0
  · simp (disch := first | omega | assumption) only [h0, go_sem, ↓reduceIte]
    exact hQ _ _ _ _ nofun rfl (by simp [tupOf, envOf, AV.strip, AV.strip1, numN, h0])
  have h0' : ¬ ((wholeN s : Int) = 0) := by omega
  have hwl : (wholeN s : Int) ≤ s.length := by omega
  simp (disch := first | omega | assumption) only [h0', hwl, go_sem, ↓reduceIte]
  refine goK_pure (prefixC (s.drop (wholeN s)) [46]) ?_
  rw [prefix1]
  generalize hn : wholeN s = n at *
  have fin : ∀ f p : Nat, fracN (s.drop n) = f → powN (s.drop (n + f)) = p → numN s = (n + f + p, if f = 0 ∧ p = 0 then 3 else 4) := fun f p hf hp => by
    unfold numN
    rw [hn, hf, hp]
    simp only [h0, if_false]
  have hpl := powN_le (s.drop n)
  rw [List.length_drop] at hpl
  by_cases h46 : (s.drop n).head? = some 46
  · obtain ⟨c, t, hct⟩ : ∃ c t, s.drop n = c :: t := by
      cases hx : s.drop n with
      | nil => rw [hx] at h46; simp at h46
      | cons c t => exact ⟨c, t, rfl⟩
    have hlen : s.length = n + 1 + t.length := by have := congrArg List.length hct; simp at this; omega
    have hdr : s.drop (n + 1) = t := by rw [← List.drop_drop, hct]; rfl
    have hto : ((n : Int) + 1).toNat = n + 1 := by omega
    have hn1 : (0 : Int) ≤ (n : Int) + 1 := by omega
    have hn2 : (n : Int) + 1 ≤ s.length := by omega
    have hrl := run1_le t
    simp (disch := first | omega | assumption) only [h46, wrap64, hto, hn1, hn2, hdr, go_sem, ↓reduceIte]
    refine goK_pure (digitsC t (by simp only [Lim]; omega)) ?_
    by_cases hk : (0 : Int) < run1 t
    · have hk' : 0 < run1 t := by omega
      have hfr : fracN (s.drop n) = 1 + run1 t := by unfold fracN; rw [if_pos ⟨h46, by rw [hct]; exact hk'⟩, hct]; rfl
      have hto2 : ((n : Int) + 1 + run1 t).toNat = n + (1 + run1 t) := by omega
      have hn3 : (0 : Int) ≤ (n : Int) + 1 + run1 t := by omega
      have hn4 : (n : Int) + 1 + run1 t ≤ s.length := by omega
      have hpl2 := powN_le (s.drop (n + (1 + run1 t)))
      rw [List.length_drop] at hpl2
      simp (disch := first | omega | assumption) only [hk, wrap64, hto2, hn3, hn4, go_sem, ↓reduceIte]
      refine goK_pure (powerC (s.drop (n + (1 + run1 t))) (by rw [List.length_drop]; simp only [Lim]; omega)) ?_
      have hf := fin _ _ hfr rfl
      generalize hp : powN (s.drop (n + (1 + run1 t))) = p at *
      by_cases hp0 : (0 : Int) < p
      · simp (disch := first | omega | assumption) only [hp0, wrap64, go_sem, ↓reduceIte]
        exact hQ _ _ _ _ nofun rfl (by simp [tupOf, envOf, AV.strip, AV.strip1, hf, Int.add_assoc])
      · have hp00 : p = 0 := by omega
        subst hp00
        simp (disch := first | omega | assumption) only [go_sem, ↓reduceIte]
        exact hQ _ _ _ _ nofun rfl (by simp [tupOf, envOf, AV.strip, AV.strip1, hf, Int.add_assoc])
    · have hk0 : run1 t = 0 := by omega
      have hfr : fracN (s.drop n) = 0 := by unfold fracN; exact if_neg fun hh => by have := hh.2; rw [hct] at this; simp only [List.tail_cons] at this; omega
      simp (disch := first | omega | assumption) only [hk, hwl, go_sem, ↓reduceIte]
      refine goK_pure (powerC (s.drop n) (by rw [List.length_drop]; simp only [Lim]; omega)) ?_
      have hf := fin _ _ hfr rfl
      rw [Nat.add_zero] at hf
      generalize hp : powN (s.drop n) = p at *
      by_cases hp0 : (0 : Int) < p
      · have hp1 : ¬ p = 0 := by omega
        simp (disch := first | omega | assumption) only [hp0, wrap64, go_sem, ↓reduceIte]
        exact hQ _ _ _ _ nofun rfl (by simp [tupOf, envOf, AV.strip, AV.strip1, hf, hp1])
      · have hp00 : p = 0 := by omega
        subst hp00
        simp (disch := first | omega | assumption) only [go_sem, ↓reduceIte]
        exact hQ _ _ _ _ nofun rfl (by simp [tupOf, envOf, AV.strip, AV.strip1, hf])
  · have hfr : fracN (s.drop n) = 0 := by unfold fracN; exact if_neg fun hh => h46 hh.1
    simp (disch := first | omega | assumption) only [h46, hwl, go_sem, ↓reduceIte]
    refine goK_pure (powerC (s.drop n) (by rw [List.length_drop]; simp only [Lim]; omega)) ?_
    have hf := fin _ _ hfr rfl
    rw [Nat.add_zero] at hf
    generalize hp : powN (s.drop n) = p at *
    by_cases hp0 : (0 : Int) < p
    · have hp1 : ¬ p = 0 := by omega
      simp (disch := first | omega | assumption) only [hp0, wrap64, go_sem, ↓reduceIte]
      exact hQ _ _ _ _ nofun rfl (by simp [tupOf, envOf, AV.strip, AV.strip1, hf, hp1])
    · have hp00 : p = 0 := by omega
      subst hp00
      simp (disch := first | omega | assumption) only [go_sem, ↓reduceIte]
      exact hQ _ _ _ _ nofun rfl (by simp [tupOf, envOf, AV.strip, AV.strip1, hf])
def numK (s : List UInt8) : Int := if (numN s).1 = s.length then (numN s).2 else 0
theorem NumberC (s : List UInt8) (hs : s.length ≤ Lim) : Pure Tryz.prog 207 [.str s] (.int .i64 (numK s)) := by
  refine Pure.go ir207 ck207 (Nat.le_refl _) fun KP Q hQ => ?_
  simp (disch := first | omega | assumption) only [ir207, go_sem, ↓reduceIte]
  refine goK_pure (numberC s hs) ?_
  by_cases h : (numN s).1 = s.length
  · have h' : (((numN s).1 : Int) = s.length) = True := eq_true (by omega)
    simp (disch := first | omega | assumption) only [h', go_sem, ↓reduceIte]
    exact hQ _ _ _ _ nofun rfl (by simp [tupOf, envOf, AV.strip, AV.strip1, numK, h])
  · have h' : ¬ ((numN s).1 : Int) = s.length := by omega
    simp (disch := first | omega | assumption) only [h', go_sem, ↓reduceIte]
    exact hQ _ _ _ _ nofun rfl (by simp [tupOf, envOf, AV.strip, AV.strip1, numK, h])
def okI : Lib.NumEnd Int → Bool
  | .ok _ => true
  | _ => false
def valI (s : List UInt8) : Int := match Lib.parseIntB 64 s with
  | .ok v => v
  | Lib.NumEnd.syntax => 0
  | .range => Lib.intSat 64 s
def wholeB (s : List UInt8) : Bool := okI (Lib.parseIntB 64 s) && decide (numK s = 3)
theorem WholeC (s : List UInt8) (hs : s.length ≤ Lim) : Pure Tryz.prog 176 [.str s] (.tup [.int .i64 (valI s), .bool (wholeB s)]) := by
  refine Pure.go ir176 ck176 (Nat.le_refl _) fun KP Q hQ => ?_
  simp (disch := first | omega | assumption) only [ir176, go_sem, ↓reduceIte]
  refine goK_pure (parseIntC s (by simp only [Lim] at hs; omega)) ?_
  rcases hp : Lib.parseIntB 64 s with v | _ | _
  · simp (disch := first | omega | assumption) only [parseA, hp, go_sem, ↓reduceIte]
    refine goK_pure (NumberC s hs) ?_
    simp (disch := first | omega | assumption) only [go_sem, ↓reduceIte]
    exact hQ _ _ _ _ nofun rfl (by simp [tupOf, envOf, AV.strip, AV.strip1, valI, wholeB, hp, okI])
  · simp (disch := first | omega | assumption) only [parseA, hp, go_sem, ↓reduceIte]
    exact hQ _ _ _ _ nofun rfl (by simp [tupOf, envOf, AV.strip, AV.strip1, valI, wholeB, hp, okI])
  · simp (disch := first | omega | assumption) only [parseA, hp, go_sem, ↓reduceIte]
    exact hQ _ _ _ _ nofun rfl (by simp [tupOf, envOf, AV.strip, AV.strip1, valI, wholeB, hp, okI])
def numB (s : List UInt8) : Bool := decide (numK s = 4) || (decide (numK s = 3) && !wholeB s)
theorem numC (s : List UInt8) (hs : s.length ≤ Lim) : Pure Tryz.prog 309 [.str s] (.bool (numB s)) := by
  refine Pure.go ir309 ck309 (Nat.le_refl _) fun KP Q hQ => ?_
  simp (disch := first | omega | assumption) only [ir309, go_sem, ↓reduceIte]
  refine goK_pure (NumberC s hs) ?_
  simp (disch := first | omega | assumption) only [go_sem, ↓reduceIte]
  refine goK_pure (WholeC s hs) ?_
  by_cases h4 : numK s = 4
  · simp (disch := first | omega | assumption) only [h4, go_sem, ↓reduceIte]
    exact hQ _ _ _ _ nofun rfl (by simp [tupOf, envOf, AV.strip, AV.strip1, numB, h4])
  · by_cases h3 : numK s = 3
    · simp (disch := first | omega | assumption) only [h4, h3, go_sem, ↓reduceIte]
      exact hQ _ _ _ _ nofun rfl (by simp [tupOf, envOf, AV.strip, AV.strip1, numB, h4, h3])
    · simp (disch := first | omega | assumption) only [h4, h3, go_sem, ↓reduceIte]
      exact hQ _ _ _ _ nofun rfl (by simp [tupOf, envOf, AV.strip, AV.strip1, numB, h4, h3])
def resB (s : List UInt8) : Bool := decide (s = [116, 114, 117, 101]) || (decide (s = [102, 97, 108, 115, 101]) || decide (s = [110, 117, 108, 108]))
theorem resC (s : List UInt8) : Pure Tryz.prog 310 [.str s] (.bool (resB s)) := by
  refine Pure.go ir310 ck310 (Nat.le_refl _) fun KP Q hQ => ?_
  by_cases h1 : s = [116, 114, 117, 101]
  · simp (disch := first | omega | assumption) only [ir310, h1, go_sem, ↓reduceIte]
    exact hQ _ _ _ _ nofun rfl (by simp [tupOf, envOf, AV.strip, AV.strip1, resB, h1])
  · by_cases h2 : s = [102, 97, 108, 115, 101]
    · subst h2
      have h3 : ¬ ([102, 97, 108, 115, 101] : List UInt8) = [116, 114, 117, 101] := by decide
      simp (disch := first | omega | assumption) only [ir310, h3, go_sem, ↓reduceIte]
      exact hQ _ _ _ _ nofun rfl (by simp [tupOf, envOf, AV.strip, AV.strip1, resB, h3])
    · simp (disch := first | omega | assumption) only [ir310, h1, h2, go_sem, ↓reduceIte]
      exact hQ _ _ _ _ nofun rfl (by simp [tupOf, envOf, AV.strip, AV.strip1, resB, h1, h2])
theorem goodC (s : List UInt8) (hs : s.length ≤ Lim) : Pure Tryz.prog 202 [.str s] (.bool (Lib.validD s)) := by
  refine Pure.go ir202 ck202 (Nat.le_refl _) fun KP Q hQ => ?_
  simp (disch := first | omega | assumption) only [ir202, go_sem, ↓reduceIte]
  refine goK_pure (validC s (by simp only [Lim] at hs; omega)) ?_
  simp (disch := first | omega | assumption) only [go_sem, ↓reduceIte]
  exact hQ _ _ _ _ nofun rfl (by simp [tupOf, envOf, AV.strip, AV.strip1])
def bareM (n : Int) (s : List UInt8) (l : List Val) (m : List Mem) : Bool := decide (n = 0) && (decide (s = []) && (decide (l.length = 0) && decide (m.length = 0)))
theorem bareC (k n : Int) (s : List UInt8) (l : List Val) (m : List Mem) : Pure Tryz.prog 267 [.agg (cV (.mk k n s l m))] (.bool (bareM n s l m)) := by
  refine Pure.go ir267 ck267 (Nat.le_refl _) fun KP Q hQ => ?_
  have h1 := cVs_len l
  have h2 := cMs_len m
  by_cases g1 : n = 0
  case neg =>
    simp (disch := first | omega | assumption) only [ir267, cV_mk, g1, go_sem, ↓reduceIte]
    exact hQ _ _ _ _ nofun rfl (by simp [tupOf, envOf, AV.strip, AV.strip1, bareM, g1])
  by_cases g2 : s = []
  case neg =>
    simp (disch := first | omega | assumption) only [ir267, cV_mk, g1, g2, go_sem, ↓reduceIte]
    exact hQ _ _ _ _ nofun rfl (by simp [tupOf, envOf, AV.strip, AV.strip1, bareM, g2])
  by_cases g3 : l.length = 0
  case neg =>
    simp (disch := first | omega | assumption) only [ir267, cV_mk, g1, g2, h1, g3, go_sem, ↓reduceIte]
    exact hQ _ _ _ _ nofun rfl (by simp [tupOf, envOf, AV.strip, AV.strip1, bareM, g3])
  have e : decide ((m.length : Int) = 0) = decide (m.length = 0) := by rw [decide_eq_decide]; omega
  simp (disch := first | omega | assumption) only [ir267, cV_mk, g1, g2, h1, h2, g3, go_sem, ↓reduceIte]
  exact hQ _ _ _ _ nofun rfl (by simp [tupOf, envOf, AV.strip, AV.strip1, bareM, g1, g2, g3, e])
def singleM (k n : Int) (s : List UInt8) (l : List Val) (m : List Mem) : Bool :=
  bareM 0 [] l m && (if k = 0 then decide (n = 0) && decide (s = []) else if k = 1 then (decide (n = 0) || decide (n = 1)) && decide (s = []) else if k = 2 then decide (s = [])
    else if k = 3 then decide (n = 0) && numB s else if k = 4 then decide (n = 0) && Lib.validD s else if k = 5 then decide (n = 0) && (nameM s && !resB s) else if k = 8 then decide (n = 0) && nameM s else false)
theorem singleC (k n : Int) (s : List UInt8) (l : List Val) (m : List Mem) (hs : s.length ≤ Lim) : Pure Tryz.prog 266 [.agg (cV (.mk k n s l m))] (.bool (singleM k n s l m)) := by
  refine Pure.go ir266 ck266 (Nat.le_refl _) fun KP Q hQ => ?_
  simp (disch := first | omega | assumption) only [ir266, cV_mk, go_sem, ↓reduceIte]
  refine goA_intro fun b hb => ?_
  simp (disch := first | omega | assumption) only [go_sem, ↓reduceIte]
  refine goK_pure (bareC k 0 [] l m) ?_
  cases hb : bareM 0 [] l m with
  | false =>
    simp (disch := first | omega | assumption) only [hb, go_sem, ↓reduceIte]
    exact hQ _ _ _ _ nofun rfl (by simp [tupOf, envOf, AV.strip, AV.strip1, singleM, hb])
  | true =>
    by_cases k0 : k = 0
    · by_cases n0 : n = 0
      · simp (disch := first | omega | assumption) only [hb, k0, n0, go_sem, ↓reduceIte]
        exact hQ _ _ _ _ nofun rfl (by simp [tupOf, envOf, AV.strip, AV.strip1, singleM, hb, k0, n0])
      · simp (disch := first | omega | assumption) only [hb, k0, n0, go_sem, ↓reduceIte]
        exact hQ _ _ _ _ nofun rfl (by simp [tupOf, envOf, AV.strip, AV.strip1, singleM, hb, k0, n0])
    by_cases k1 : k = 1
    · by_cases n0 : n = 0
      · simp (disch := first | omega | assumption) only [hb, k0, k1, n0, go_sem, ↓reduceIte]
        exact hQ _ _ _ _ nofun rfl (by simp [tupOf, envOf, AV.strip, AV.strip1, singleM, hb, k1, n0])
      · by_cases n1 : n = 1
        · simp (disch := first | omega | assumption) only [hb, k0, k1, n0, n1, go_sem, ↓reduceIte]
          exact hQ _ _ _ _ nofun rfl (by simp [tupOf, envOf, AV.strip, AV.strip1, singleM, hb, k1, n1])
        · simp (disch := first | omega | assumption) only [hb, k0, k1, n0, n1, go_sem, ↓reduceIte]
          exact hQ _ _ _ _ nofun rfl (by simp [tupOf, envOf, AV.strip, AV.strip1, singleM, hb, k1, n0, n1])
    by_cases k2 : k = 2
    · simp (disch := first | omega | assumption) only [hb, k0, k1, k2, go_sem, ↓reduceIte]
      exact hQ _ _ _ _ nofun rfl (by simp [tupOf, envOf, AV.strip, AV.strip1, singleM, hb, k2])
    by_cases k3 : k = 3
    · by_cases n0 : n = 0
      · simp (disch := first | omega | assumption) only [hb, k0, k1, k2, k3, n0, go_sem, ↓reduceIte]
        refine goK_pure (numC s hs) ?_
        simp (disch := first | omega | assumption) only [go_sem, ↓reduceIte]
        exact hQ _ _ _ _ nofun rfl (by simp [tupOf, envOf, AV.strip, AV.strip1, singleM, hb, k3, n0])
      · simp (disch := first | omega | assumption) only [hb, k0, k1, k2, k3, n0, go_sem, ↓reduceIte]
        exact hQ _ _ _ _ nofun rfl (by simp [tupOf, envOf, AV.strip, AV.strip1, singleM, hb, k3, n0])
    by_cases k4 : k = 4
    · by_cases n0 : n = 0
      · simp (disch := first | omega | assumption) only [hb, k0, k1, k2, k3, k4, n0, go_sem, ↓reduceIte]
        refine goK_pure (goodC s hs) ?_
        simp (disch := first | omega | assumption) only [go_sem, ↓reduceIte]
        exact hQ _ _ _ _ nofun rfl (by simp [tupOf, envOf, AV.strip, AV.strip1, singleM, hb, k4, n0])
      · simp (disch := first | omega | assumption) only [hb, k0, k1, k2, k3, k4, n0, go_sem, ↓reduceIte]
        exact hQ _ _ _ _ nofun rfl (by simp [tupOf, envOf, AV.strip, AV.strip1, singleM, hb, k4, n0])
    by_cases k5 : k = 5
    · by_cases n0 : n = 0
      · simp (disch := first | omega | assumption) only [hb, k0, k1, k2, k3, k4, k5, n0, go_sem, ↓reduceIte]
        refine goK_pure (nameC s hs) ?_
        cases hn : nameM s with
        | true =>
          simp (disch := first | omega | assumption) only [hn, go_sem, ↓reduceIte]
          refine goK_pure (resC s) ?_
          simp (disch := first | omega | assumption) only [go_sem, ↓reduceIte]
          exact hQ _ _ _ _ nofun rfl (by simp [tupOf, envOf, AV.strip, AV.strip1, singleM, hb, k5, n0, hn])
        | false =>
          simp (disch := first | omega | assumption) only [hn, go_sem, ↓reduceIte]
          exact hQ _ _ _ _ nofun rfl (by simp [tupOf, envOf, AV.strip, AV.strip1, singleM, hb, k5, n0, hn])
      · simp (disch := first | omega | assumption) only [hb, k0, k1, k2, k3, k4, k5, n0, go_sem, ↓reduceIte]
        exact hQ _ _ _ _ nofun rfl (by simp [tupOf, envOf, AV.strip, AV.strip1, singleM, hb, k5, n0])
    by_cases k8 : k = 8
    · by_cases n0 : n = 0
      · simp (disch := first | omega | assumption) only [hb, k0, k1, k2, k3, k4, k5, k8, n0, go_sem, ↓reduceIte]
        refine goK_pure (nameC s hs) ?_
        simp (disch := first | omega | assumption) only [go_sem, ↓reduceIte]
        exact hQ _ _ _ _ nofun rfl (by simp [tupOf, envOf, AV.strip, AV.strip1, singleM, hb, k8, n0])
      · simp (disch := first | omega | assumption) only [hb, k0, k1, k2, k3, k4, k5, k8, n0, go_sem, ↓reduceIte]
        exact hQ _ _ _ _ nofun rfl (by simp [tupOf, envOf, AV.strip, AV.strip1, singleM, hb, k8, n0])
    · simp (disch := first | omega | assumption) only [hb, k0, k1, k2, k3, k4, k5, k8, go_sem, ↓reduceIte]
      exact hQ _ _ _ _ nofun rfl (by simp [tupOf, envOf, AV.strip, AV.strip1, singleM, hb, k0, k1, k2, k3, k4, k5, k8])
end Go.Proofs.YticbbfbpeimkbaaGreatDoor
namespace Go.Proofs.YticbbfbpeimkbaaGreatDoor
open Go.Ab
mutual
def allV (may : List UInt8 → Bool) : Val → Bool
  | .mk k n s l m => if k = 6 then allVs may l && bareM n s [] m else if k = 7 then allMs may m && bareM n s l [] else singleM k n s l m
def allVs (may : List UInt8 → Bool) : List Val → Bool
  | [] => true
  | v :: r => allV may v && allVs may r
def allM (may : List UInt8 → Bool) : Mem → Bool
  | .mk s v => may s && allV may v
def allMs (may : List UInt8 → Bool) : List Mem → Bool
  | [] => true
  | x :: r => allM may x && allMs may r
end
theorem allC (f : FuncId) (hf : Program.callable Tryz.prog f = true) (may : List UInt8 → Bool) (hmay : ∀ s : List UInt8, s.length ≤ Lim → Pure Tryz.prog f [.str s] (.bool (may s))) :
    ∀ v, bV v ≤ Lim → Pure Tryz.prog 201 [.agg (cV v), .clo f [] []] (.bool (allV may v)) := by
  refine Val.ind fun k n s l m ihl ihm hb => ?_
  have hb' : 1 + s.length + bVs l + bMs m ≤ Lim := hb
  have hll := bVs_len l
  have hml := bMs_len m
  have h1 := cVs_len l
  have h2 := cMs_len m
  simp only [Lim] at hb'
  refine Pure.go ir201 ck201 (Nat.le_refl _) fun KP Q hQ => ?_
  simp (disch := first | omega | assumption) only [ir201, cV_mk, go_sem, ↓reduceIte]
  refine goA_intro fun b hb => ?_
  by_cases k6 : k = 6
  · subst k6
    simp (disch := first | omega | assumption) only [h1, go_sem, ↓reduceIte]
    refine goL_range l 22 (fun _ : Unit => [(6, .bool true)]) (fun done rest _ H => allVs may rest = allVs may l ∧ H b = some (.cells [.int .i64 6, .int .i64 n, .str s, .sl .nil 5 [], .sl .no 6 (cMs m)])) () (by simp (disch := first | omega | assumption) only [go_sem, ↓reduceIte]) ⟨rfl, by simp [Heap.upd]⟩ ?_ ?_
    · rintro _ H J ⟨hn, hH⟩ hlt
      simp only [allVs] at hn
      simp (disch := first | omega | assumption) only [h1, hlt, hH, go_sem, ↓reduceIte]
      refine goK_pure (Pure.low (bareC 6 n s [] m)) ?_
      simp (disch := first | omega | assumption) only [go_sem, ↓reduceIte]
      exact hQ _ _ _ _ nofun rfl (by simp [tupOf, envOf, AV.strip, AV.strip1, allV, ← hn])
    · rintro done x rest _ H J hd hlt _ ⟨hn, hH⟩ hJ
      have hg := cVs_get hd
      have hbm := bVs_mid done x rest
      rw [← hd] at hbm
      simp only [allVs] at hn
      simp (disch := first | omega | assumption) only [cV_len, cV_take, cV_splice, cM_len, cM_take, cM_splice, cM_mk, h1, hlt, hg, go_sem, ↓reduceIte]
      refine goA_intro fun b2 hb2 => ?_
      have hne := ne_of_none hb2 hH
      simp (disch := first | omega | assumption) only [cV_len, cV_take, cV_splice, cM_len, cM_take, cM_splice, cM_mk, go_sem, ↓reduceIte]
      refine goK_pure (ihl x (by rw [hd]; simp) (by simp only [Lim]; omega)) ?_
      cases hx : allV may x with
      | true =>
        simp only [hx, Bool.true_and] at hn
        simp (disch := first | omega | assumption) only [hx, go_sem, ↓reduceIte]
        exact goJ (hJ () _ ⟨hn, by simp [Heap.upd, Ne.symm hne, hH]⟩) (by simp (disch := first | omega | assumption) only [wrap64, go_sem, ↓reduceIte])
      | false =>
        simp only [hx, Bool.false_and] at hn
        simp (disch := first | omega | assumption) only [hx, go_sem, ↓reduceIte]
        exact hQ _ _ _ _ nofun rfl (by simp [tupOf, envOf, AV.strip, AV.strip1, allV, ← hn])
  by_cases k7 : k = 7
  · subst k7
    simp (disch := first | omega | assumption) only [h2, go_sem, ↓reduceIte]
    refine goL_range m 38 (fun _ : Unit => [(6, .bool true)]) (fun done rest _ H => allMs may rest = allMs may m ∧ H b = some (.cells [.int .i64 7, .int .i64 n, .str s, .sl .no 5 (cVs l), .sl .nil 6 []])) () (by simp (disch := first | omega | assumption) only [go_sem, ↓reduceIte]) ⟨rfl, by simp [Heap.upd]⟩ ?_ ?_
    · rintro _ H J ⟨hn, hH⟩ hlt
      simp only [allMs] at hn
      simp (disch := first | omega | assumption) only [h2, hlt, hH, go_sem, ↓reduceIte]
      refine goK_pure (Pure.low (bareC 7 n s l [])) ?_
      simp (disch := first | omega | assumption) only [go_sem, ↓reduceIte]
      exact hQ _ _ _ _ nofun rfl (by simp [tupOf, envOf, AV.strip, AV.strip1, allV, ← hn])
    · rintro done x rest _ H J hd hlt _ ⟨hn, hH⟩ hJ
      have hg := cMs_get hd
      have hbm := bMs_mid done x rest
      rw [← hd] at hbm
      have hmem : x ∈ m := by rw [hd]; simp
      obtain ⟨t, v⟩ := x
      simp only [allMs, allM, bM] at hn hbm
      simp (disch := first | omega | assumption) only [cV_len, cV_take, cV_splice, cM_len, cM_take, cM_splice, cM_mk, h2, hlt, hg, go_sem, ↓reduceIte]
      refine goA_intro fun b2 hb2 => ?_
      have hne := ne_of_none hb2 hH
      simp (disch := first | omega | assumption) only [cV_len, cV_take, cV_splice, cM_len, cM_take, cM_splice, cM_mk, go_sem, ↓reduceIte]
      refine ⟨hf, goK_pure (hmay t (by simp only [Lim]; omega)) ?_⟩
      cases ht : may t with
      | true =>
        simp (disch := first | omega | assumption) only [cV_len, cV_take, cV_splice, cM_len, cM_take, cM_splice, cM_mk, ht, go_sem, ↓reduceIte]
        refine goK_pure (ihm t v hmem (by simp only [Lim]; omega)) ?_
        cases hx : allV may v with
        | true =>
          simp only [ht, hx, Bool.true_and] at hn
          simp (disch := first | omega | assumption) only [hx, go_sem, ↓reduceIte]
          exact goJ (hJ () _ ⟨hn, by simp [Heap.upd, Ne.symm hne, hH]⟩) (by simp (disch := first | omega | assumption) only [wrap64, go_sem, ↓reduceIte])
        | false =>
          simp only [ht, hx, Bool.true_and, Bool.false_and] at hn
          simp (disch := first | omega | assumption) only [hx, go_sem, ↓reduceIte]
          exact hQ _ _ _ _ nofun rfl (by simp [tupOf, envOf, AV.strip, AV.strip1, allV, ← hn])
      | false =>
        simp only [ht, Bool.false_and] at hn
        simp (disch := first | omega | assumption) only [cV_len, cV_take, cV_splice, cM_len, cM_take, cM_splice, cM_mk, ht, go_sem, ↓reduceIte]
        exact hQ _ _ _ _ nofun rfl (by simp [tupOf, envOf, AV.strip, AV.strip1, allV, ← hn])
  · simp (disch := first | omega | assumption) only [k6, k7, go_sem, ↓reduceIte]
    refine goK_pure (singleC k n s l m (by simp only [Lim]; omega)) ?_
    simp (disch := first | omega | assumption) only [go_sem, ↓reduceIte]
    exact hQ _ _ _ _ nofun rfl (by simp [tupOf, envOf, AV.strip, AV.strip1, allV, k6, k7])
def goodV (v : Val) : Bool := allV Lib.validD v
def plainV (v : Val) : Bool := allV nameM v && decide (depthV v ≤ 16)
theorem plainVC (v : Val) (hb : bV v ≤ Lim) : Pure Tryz.prog 117 [.agg (cV v)] (.bool (plainV v)) := by
  refine Pure.go ir117 ck117 (Nat.le_refl _) fun KP Q hQ => ?_
  simp (disch := first | omega | assumption) only [cV_len, cV_take, cV_splice, cM_len, cM_take, cM_splice, cM_mk, ir117, go_sem, ↓reduceIte]
  refine goK_pure (allC _ (by kernel_rfl) nameM nameC v hb) ?_
  cases h : allV nameM v with
  | true =>
    simp (disch := first | omega | assumption) only [cV_len, cV_take, cV_splice, cM_len, cM_take, cM_splice, cM_mk, h, go_sem, ↓reduceIte]
    refine goK_pure (depthC v hb) ?_
    simp (disch := first | omega | assumption) only [go_sem, ↓reduceIte]
    exact hQ _ _ _ _ nofun rfl (by simp [tupOf, envOf, AV.strip, AV.strip1, plainV, h])
  | false =>
    simp (disch := first | omega | assumption) only [h, go_sem, ↓reduceIte]
    exact hQ _ _ _ _ nofun rfl (by simp [tupOf, envOf, AV.strip, AV.strip1, plainV, h])
theorem wordC (s : List UInt8) : Pure Tryz.prog 204 [.str s] (.agg (cK ⟨2, s⟩)) := by
  refine Pure.go ir204 ck204 (Nat.le_refl _) fun KP Q hQ => ?_
  simp (disch := first | omega | assumption) only [ir204, go_sem, ↓reduceIte]
  refine goA_intro fun b hb => ?_
  simp (disch := first | omega | assumption) only [go_sem, ↓reduceIte]
  exact hQ _ _ _ [.agg [.int .i64 2, .str s]] nofun (by simp (disch := first | omega | assumption) only [ir204, resvs, resv, go_sem, ↓reduceIte]) rfl
theorem punctC (s : List UInt8) : Pure Tryz.prog 208 [.str s] (.agg (cK ⟨1, s⟩)) := by
  refine Pure.go ir208 ck208 (Nat.le_refl _) fun KP Q hQ => ?_
  simp (disch := first | omega | assumption) only [ir208, go_sem, ↓reduceIte]
  refine goA_intro fun b hb => ?_
  simp (disch := first | omega | assumption) only [go_sem, ↓reduceIte]
  exact hQ _ _ _ [.agg [.int .i64 1, .str s]] nofun (by simp (disch := first | omega | assumption) only [ir208, resvs, resv, go_sem, ↓reduceIte]) rfl
def boolT (b : Bool) : List UInt8 := if b then [116, 114, 117, 101] else [102, 97, 108, 115, 101]
theorem fmtBool0 (b : Bool) : Pure Tryz.prog 269 [.bool b] (.str (boolT b)) := by
  refine Pure.go ir269 ck269 (Nat.le_refl _) fun KP Q hQ => ?_
  cases b
  · simp (disch := first | omega | assumption) only [ir269, go_sem, ↓reduceIte]
    exact hQ _ _ _ _ nofun rfl (by simp [tupOf, envOf, AV.strip, AV.strip1, boolT])
  · simp (disch := first | omega | assumption) only [ir269, go_sem, ↓reduceIte]
    exact hQ _ _ _ _ nofun rfl (by simp [tupOf, envOf, AV.strip, AV.strip1, boolT])
theorem fmtBool (b : Bool) : Pure Tryz.prog 205 [.bool b] (.str (boolT b)) := by
  refine Pure.go ir205 ck205 (Nat.le_refl _) fun KP Q hQ => ?_
  simp (disch := first | omega | assumption) only [ir205, go_sem, ↓reduceIte]
  refine goK_pure (fmtBool0 b) ?_
  simp (disch := first | omega | assumption) only [go_sem, ↓reduceIte]
  exact hQ _ _ _ _ nofun rfl (by simp [tupOf, envOf, AV.strip, AV.strip1])
mutual
def tokV : Val → List Tok
  | .mk k n s l m => if k = 0 then [⟨2, [110, 117, 108, 108]⟩] else if k = 1 then [⟨2, boolT (decide (n = 1))⟩] else if k = 2 then [⟨3, Lib.itoa n⟩] else if k = 3 then [⟨numK s, s⟩] else if k = 4 then [⟨5, s⟩]
    else if k = 5 then [⟨2, s⟩] else if k = 8 then [⟨1, [36]⟩, ⟨2, s⟩] else if k = 6 then ⟨1, [91]⟩ :: (tokVs l ++ [⟨1, [93]⟩]) else ⟨1, [123]⟩ :: (tokMs m ++ [⟨1, [125]⟩])
def tokVs : List Val → List Tok
  | [] => []
  | v :: r => tokV v ++ tokVs r
def tokM : Mem → List Tok
  | .mk s v => ⟨2, s⟩ :: ⟨1, [58]⟩ :: tokV v
def tokMs : List Mem → List Tok
  | [] => []
  | x :: r => tokM x ++ tokMs r
end
mutual
theorem tokV_le : ∀ v, (tokV v).length + 2 ≤ 4 * bV v
  | .mk k n s l m => by
    have h1 := tokVs_le l
    have h2 := tokMs_le m
    simp only [tokV, bV]
    repeat' split
    all_goals simp only [List.length_cons, List.length_append, List.length_nil]
    all_goals omega
theorem tokVs_le : ∀ l, (tokVs l).length ≤ 4 * bVs l
  | [] => by simp [tokVs]
  | v :: r => by
    have h1 := tokV_le v
    have h2 := tokVs_le r
    simp only [tokVs, bVs, List.length_append]; omega
theorem tokM_le : ∀ x, (tokM x).length ≤ 4 * bM x
  | .mk s v => by have := tokV_le v; simp only [tokM, bM, List.length_cons]; omega
theorem tokMs_le : ∀ l, (tokMs l).length ≤ 4 * bMs l
  | [] => by simp [tokMs]
  | x :: r => by
    have h1 := tokM_le x
    have h2 := tokMs_le r
    simp only [tokMs, bMs, List.length_append]; omega
end
def inR (n : Int) : Prop := -9223372036854775808 ≤ n ∧ n ≤ 9223372036854775807
mutual
def wfV : Val → Prop
  | .mk _ n _ l m => inR n ∧ wfVs l ∧ wfMs m
def wfVs : List Val → Prop
  | [] => True
  | v :: r => wfV v ∧ wfVs r
def wfM : Mem → Prop
  | .mk _ v => wfV v
def wfMs : List Mem → Prop
  | [] => True
  | x :: r => wfM x ∧ wfMs r
end
theorem wfVs_mem : ∀ {l : List Val}, wfVs l → ∀ v ∈ l, wfV v
  | _ :: _, h, v, hv => (List.mem_cons.1 hv).elim (fun e => e ▸ h.1) (wfVs_mem h.2 v)
theorem wfMs_mem : ∀ {l : List Mem}, wfMs l → ∀ s v, Mem.mk s v ∈ l → wfV v
  | _ :: _, h, s, v, hv => (List.mem_cons.1 hv).elim (fun e => by have := h.1; rw [← e] at this; exact this) (wfMs_mem h.2 s v)
theorem cKs_app (a : List Tok) (t : Tok) : cKs a ++ [[.int .i64 t.k, .str t.s]] = cKs (a ++ [t]) := by simp [cKs, cK]
theorem cKs_app2 (a : List Tok) (t u : Tok) : cKs a ++ [[.int .i64 t.k, .str t.s], [.int .i64 u.k, .str u.s]] = cKs (a ++ [t, u]) := by simp [cKs, cK]
theorem tokensC : ∀ v, wfV v → ∀ acc H o, acc.length + 4 * bV v ≤ Lim → Owned H o acc.length 2 → Gives Tryz.prog 118 [.sl o 2 (cKs acc), .agg (cV v)] H o 2 (cKs (acc ++ tokV v)) := by
  refine Val.ind fun k n s l m ihl ihm hwf acc H o hb ho => ?_
  obtain ⟨hn, hwl, hwm⟩ := hwf
  have hb' : acc.length + 4 * (1 + s.length + bVs l + bMs m) ≤ Lim := hb
  have hll := bVs_len l
  have hml := bMs_len m
  have h1 := cVs_len l
  have h2 := cMs_len m
  have h3 := cKs_len acc
  have hT := tokVs_le l
  have hM := tokMs_le m
  simp only [Lim] at hb'
  have hsl : s.length ≤ Lim := by simp only [Lim]; omega
  refine ACalls.goO ir118 ck118 (Nat.le_refl _) fun KP Q hQ hP => ?_
  have one : ∀ t : Tok, tokV (.mk k n s l m) = [t] → ∀ o' H', OwnS H o H' o' (acc.length + 1) 2 → OwnR H o 2 (cKs (acc ++ tokV (.mk k n s l m))) (.sl o' 2 (cKs acc ++ [[.int .i64 t.k, .str t.s]])) H' := fun t e o' H' hs => by
    rw [e]; exact ⟨o', by rw [cKs_app], by rw [cKs_len]; simpa using hs⟩
  have hq1 : ((cKs acc).length + 1) * 24 ≤ 140737488355328 := by rw [h3]; omega
  have hq2 : (cKs acc).length + 1 ≤ maxLen := by rw [h3]; simp only [maxLen]; omega
  have hq3 : ((cKs acc).length + 2) * 24 ≤ 140737488355328 := by rw [h3]; omega
  have hq4 : (cKs acc).length + 2 ≤ maxLen := by rw [h3]; simp only [maxLen]; omega
  have ho' : Owned H o (cKs acc).length 2 := by rw [h3]; exact ho
  by_cases k0 : k = 0
  · subst k0
    simp (disch := first | omega | assumption) only [ir118, cV_mk, go_sem, ↓reduceIte]
    refine goK_pure (wordC _) ?_
    simp (disch := first | omega | assumption) only [cK, go_sem, ↓reduceIte]
    refine goP_ownS ho' hq1 hq2 fun o' H' hs => ?_
    simp (disch := first | omega | assumption) only [go_sem, ↓reduceIte]
    exact hQ _ _ H' H' [_] nofun rfl (Low.refl _) (one ⟨2, [110, 117, 108, 108]⟩ (by simp [tokV]) o' H' (by simpa [h3] using hs))
  by_cases k1 : k = 1
  · subst k1
    simp (disch := first | omega | assumption) only [ir118, cV_mk, go_sem, ↓reduceIte]
    refine goK_pure (fmtBool _) ?_
    simp (disch := first | omega | assumption) only [go_sem, ↓reduceIte]
    refine goK_pure (wordC _) ?_
    simp (disch := first | omega | assumption) only [cK, go_sem, ↓reduceIte]
    refine goP_ownS ho' hq1 hq2 fun o' H' hs => ?_
    simp (disch := first | omega | assumption) only [go_sem, ↓reduceIte]
    exact hQ _ _ H' H' [_] nofun rfl (Low.refl _) (one ⟨2, boolT (decide (n = 1))⟩ (by simp [tokV]) o' H' (by simpa [h3] using hs))
  by_cases k2 : k = 2
  · subst k2
    simp (disch := first | omega | assumption) only [ir118, cV_mk, go_sem, ↓reduceIte]
    refine goK_pure (formatIntC n hn.1 hn.2) ?_
    simp (disch := first | omega | assumption) only [go_sem, ↓reduceIte]
    refine goP_ownS ho' hq1 hq2 fun o' H' hs => ?_
    simp (disch := first | omega | assumption) only [go_sem, ↓reduceIte]
    exact hQ _ _ H' H' [_] nofun rfl (Low.refl _) (one ⟨3, Lib.itoa n⟩ (by simp [tokV]) o' H' (by simpa [h3] using hs))
  by_cases k3 : k = 3
  · subst k3
    simp (disch := first | omega | assumption) only [ir118, cV_mk, go_sem, ↓reduceIte]
    refine goK_pure (NumberC s hsl) ?_
    simp (disch := first | omega | assumption) only [go_sem, ↓reduceIte]
    refine goP_ownS ho' hq1 hq2 fun o' H' hs => ?_
    simp (disch := first | omega | assumption) only [go_sem, ↓reduceIte]
    exact hQ _ _ H' H' [_] nofun rfl (Low.refl _) (one ⟨numK s, s⟩ (by simp [tokV]) o' H' (by simpa [h3] using hs))
  by_cases k4 : k = 4
  · subst k4
    simp (disch := first | omega | assumption) only [ir118, cV_mk, go_sem, ↓reduceIte]
    refine goP_ownS ho' hq1 hq2 fun o' H' hs => ?_
    simp (disch := first | omega | assumption) only [go_sem, ↓reduceIte]
    exact hQ _ _ H' H' [_] nofun rfl (Low.refl _) (one ⟨5, s⟩ (by simp [tokV]) o' H' (by simpa [h3] using hs))
  by_cases k5 : k = 5
  · subst k5
    simp (disch := first | omega | assumption) only [ir118, cV_mk, go_sem, ↓reduceIte]
    refine goK_pure (wordC _) ?_
    simp (disch := first | omega | assumption) only [cK, go_sem, ↓reduceIte]
    refine goP_ownS ho' hq1 hq2 fun o' H' hs => ?_
    simp (disch := first | omega | assumption) only [go_sem, ↓reduceIte]
    exact hQ _ _ H' H' [_] nofun rfl (Low.refl _) (one ⟨2, s⟩ (by simp [tokV]) o' H' (by simpa [h3] using hs))
  by_cases k8 : k = 8
  · subst k8
    simp (disch := first | omega | assumption) only [ir118, cV_mk, go_sem, ↓reduceIte]
    refine goK_pure (punctC _) ?_
    simp (disch := first | omega | assumption) only [cK, go_sem, ↓reduceIte]
    refine goK_pure (wordC _) ?_
    simp (disch := first | omega | assumption) only [cK, go_sem, ↓reduceIte]
    refine goP_ownS ho' hq3 hq4 fun o' H' hs => ?_
    simp (disch := first | omega | assumption) only [go_sem, ↓reduceIte]
    refine hQ _ _ H' H' [_] nofun rfl (Low.refl _) ?_
    have e : tokV (.mk 8 n s l m) = [⟨1, [36]⟩, ⟨2, s⟩] := by simp [tokV]
    rw [e]
    exact ⟨o', by rw [← cKs_app2]; rfl, by rw [cKs_len]; simpa [h3] using hs⟩
  by_cases k6 : k = 6
  · subst k6
    have e : tokV (.mk 6 n s l m) = ⟨1, [91]⟩ :: (tokVs l ++ [⟨1, [93]⟩]) := by simp [tokV]
    have ea := cKs_app acc ⟨1, [91]⟩
    simp only at ea
    simp (disch := first | omega | assumption) only [ir118, cV_mk, go_sem, ↓reduceIte]
    refine goK_pure (punctC _) ?_
    simp (disch := first | omega | assumption) only [cK, go_sem, ↓reduceIte]
    refine goP_ownS ho' hq1 hq2 fun o1 H1 hs1 => ?_
    have hs1' : OwnS H o H1 o1 (acc ++ [(⟨1, [91]⟩ : Tok)]).length 2 := by simpa [h3] using hs1
    simp (disch := first | omega | assumption) only [ea, h1, go_sem, ↓reduceIte]
    refine goL_range l 81 (fun x : Own × List Tok => [(0, .sl x.1 2 (cKs x.2))]) (fun done rest x H' => x.2 ++ tokVs rest = acc ++ ⟨1, [91]⟩ :: tokVs l ∧ x.2.length + 4 * bVs rest ≤ acc.length + 1 + 4 * bVs l ∧ OwnS H o H' x.1 x.2.length 2) (o1, acc ++ [⟨1, [91]⟩]) (by simp (disch := first | omega | assumption) only [go_sem, ↓reduceIte]) ⟨by simp, by simp, hs1'⟩ ?_ ?_
    · rintro ⟨o2, a⟩ H2 J ⟨hn, hle, hs⟩ hlt
      simp only [tokVs, List.append_nil, bVs] at hn hle
      have h4 := cKs_len a
      simp (disch := first | omega | assumption) only [h1, hlt, go_sem, ↓reduceIte]
      refine goK_pure (punctC _) ?_
      simp (disch := first | omega | assumption) only [cK, go_sem, ↓reduceIte]
      refine goP_ownS (by rw [h4]; exact hs.own) (by simp only [h4, List.length_cons, List.length_nil]; omega) (by simp only [h4, List.length_cons, List.length_nil, maxLen]; omega) fun o3 H3 hs3 => ?_
      simp (disch := first | omega | assumption) only [go_sem, ↓reduceIte]
      refine hQ _ _ H3 H3 [_] nofun rfl (Low.refl _) ?_
      have e2 : acc ++ tokV (.mk 6 n s l m) = a ++ [⟨1, [93]⟩] := by rw [e, hn]; simp
      rw [e2]
      exact ⟨o3, by rw [← cKs_app]; rfl, by rw [cKs_len]; exact hs.trans (by simpa [h4] using hs3)⟩
    · rintro done x rest ⟨o2, a⟩ H2 J hd hlt _ ⟨hn, hle, hs⟩ hJ
      have hg := cVs_get hd
      have hx := tokV_le x
      have hmem : x ∈ l := by rw [hd]; simp
      simp only [tokVs, bVs] at hn hle
      simp (disch := first | omega | assumption) only [cV_len, cV_take, cV_splice, cM_len, cM_take, cM_splice, cM_mk, h1, hlt, hg, go_sem, ↓reduceIte]
      refine goA_intro fun b hb => ?_
      simp (disch := first | omega | assumption) only [cV_len, cV_take, cV_splice, cM_len, cM_take, cM_splice, cM_mk, go_sem, ↓reduceIte]
      refine goK_gives (ihl x hmem (wfVs_mem hwl x hmem) a _ o2 (by simp only [Lim]; omega) (hs.own.upd hb)) fun o3 H3 hs3 => ?_
      rw [cKs_len] at hs3
      simp (disch := first | omega | assumption) only [wrap64, go_sem, ↓reduceIte]
      exact goJ (hJ (o3, a ++ tokV x) H3 ⟨by rw [← hn]; simp, by simp only [List.length_append]; omega, (hs.upd hb).trans hs3⟩) (by simp (disch := first | omega | assumption) only [go_sem, ↓reduceIte])
  · have e : tokV (.mk k n s l m) = ⟨1, [123]⟩ :: (tokMs m ++ [⟨1, [125]⟩]) := by simp [tokV, k0, k1, k2, k3, k4, k5, k8, k6]
    have ea := cKs_app acc ⟨1, [123]⟩
    simp only at ea
    simp (disch := first | omega | assumption) only [ir118, cV_mk, k0, k1, k2, k3, k4, k5, k8, k6, go_sem, ↓reduceIte]
    refine goK_pure (punctC _) ?_
    simp (disch := first | omega | assumption) only [cK, go_sem, ↓reduceIte]
    refine goP_ownS ho' hq1 hq2 fun o1 H1 hs1 => ?_
    have hs1' : OwnS H o H1 o1 (acc ++ [(⟨1, [123]⟩ : Tok)]).length 2 := by simpa [h3] using hs1
    simp (disch := first | omega | assumption) only [ea, h2, go_sem, ↓reduceIte]
    refine goL_range m 100 (fun x : Own × List Tok => [(0, .sl x.1 2 (cKs x.2))]) (fun done rest x H' => x.2 ++ tokMs rest = acc ++ ⟨1, [123]⟩ :: tokMs m ∧ x.2.length + 4 * bMs rest ≤ acc.length + 1 + 4 * bMs m ∧ OwnS H o H' x.1 x.2.length 2) (o1, acc ++ [⟨1, [123]⟩]) (by simp (disch := first | omega | assumption) only [go_sem, ↓reduceIte]) ⟨by simp, by simp, hs1'⟩ ?_ ?_
    · rintro ⟨o2, a⟩ H2 J ⟨hn, hle, hs⟩ hlt
      simp only [tokMs, List.append_nil, bMs] at hn hle
      have h4 := cKs_len a
      simp (disch := first | omega | assumption) only [h2, hlt, go_sem, ↓reduceIte]
      refine goK_pure (punctC _) ?_
      simp (disch := first | omega | assumption) only [cK, go_sem, ↓reduceIte]
      refine goP_ownS (by rw [h4]; exact hs.own) (by simp only [h4, List.length_cons, List.length_nil]; omega) (by simp only [h4, List.length_cons, List.length_nil, maxLen]; omega) fun o3 H3 hs3 => ?_
      simp (disch := first | omega | assumption) only [go_sem, ↓reduceIte]
      refine hQ _ _ H3 H3 [_] nofun rfl (Low.refl _) ?_
      have e2 : acc ++ tokV (.mk k n s l m) = a ++ [⟨1, [125]⟩] := by rw [e, hn]; simp
      rw [e2]
      exact ⟨o3, by rw [← cKs_app]; rfl, by rw [cKs_len]; exact hs.trans (by simpa [h4] using hs3)⟩
    · rintro done x rest ⟨o2, a⟩ H2 J hd hlt _ ⟨hn, hle, hs⟩ hJ
      have hg := cMs_get hd
      have hmem : x ∈ m := by rw [hd]; simp
      obtain ⟨t, v⟩ := x
      have hx := tokV_le v
      have h4 := cKs_len a
      have hp := bV_pos v
      simp only [tokMs, tokM, bMs, bM] at hn hle
      have ea2 := cKs_app2 a ⟨2, t⟩ ⟨1, [58]⟩
      simp only at ea2
      simp (disch := first | omega | assumption) only [cV_len, cV_take, cV_splice, cM_len, cM_take, cM_splice, cM_mk, h2, hlt, hg, go_sem, ↓reduceIte]
      refine goA_intro fun b hb => ?_
      simp (disch := first | omega | assumption) only [cV_len, cV_take, cV_splice, cM_len, cM_take, cM_splice, cM_mk, go_sem, ↓reduceIte]
      refine goK_pure (wordC _) ?_
      simp (disch := first | omega | assumption) only [cV_len, cV_take, cV_splice, cM_len, cM_take, cM_splice, cM_mk, cK, go_sem, ↓reduceIte]
      refine goK_pure (punctC _) ?_
      simp (disch := first | omega | assumption) only [cV_len, cV_take, cV_splice, cM_len, cM_take, cM_splice, cM_mk, cK, go_sem, ↓reduceIte]
      refine goP_ownS (by rw [h4]; exact hs.own.upd hb) (by simp only [h4, List.length_cons, List.length_nil]; omega) (by simp only [h4, List.length_cons, List.length_nil, maxLen]; omega) fun o3 H3 hs3 => ?_
      have hs3' : OwnS H o H3 o3 (a ++ [(⟨2, t⟩ : Tok), ⟨1, [58]⟩]).length 2 := (hs.upd hb).trans (by simpa [h4] using hs3)
      have hHb : H3 b = some (.cells (cM (.mk t v))) := hs3.kept b _ (by simp [Heap.upd, cM_mk]) fun d e => by
        have := hs.own; subst e
        have hx : H2 b = _ := this
        rw [hb] at hx; cases hx
      simp (disch := first | omega | assumption) only [cV_len, cV_take, cV_splice, cM_len, cM_take, cM_splice, cM_mk, ea2, hHb, go_sem, ↓reduceIte]
      refine goK_gives (ihm t v hmem (wfMs_mem hwm t v hmem) _ _ o3 (by simp only [Lim, List.length_append, List.length_cons, List.length_nil]; omega) hs3'.own) fun o4 H4 hs4 => ?_
      rw [cKs_len] at hs4
      simp (disch := first | omega | assumption) only [wrap64, go_sem, ↓reduceIte]
      exact goJ (hJ (o4, a ++ [⟨2, t⟩, ⟨1, [58]⟩] ++ tokV v) H4 ⟨by rw [← hn]; simp, by simp only [List.length_append, List.length_cons, List.length_nil]; omega, hs3'.trans hs4⟩) (by simp (disch := first | omega | assumption) only [go_sem, ↓reduceIte])
def toksV (v : Val) : List Tok := if plainV v then tokV v else []
theorem TokensC (v : Val) (hw : wfV v) (hb : 4 * bV v ≤ Lim) : Pure Tryz.prog 55 [.agg (cV v)] (.tup [.sl .no 2 (cKs (toksV v)), .bool (plainV v)]) := by
  have hb' : bV v ≤ Lim := by omega
  refine Pure.go ir55 ck55 (Nat.le_refl _) fun KP Q hQ => ?_
  simp (disch := first | omega | assumption) only [cV_len, cV_take, cV_splice, cM_len, cM_take, cM_splice, cM_mk, ir55, go_sem, ↓reduceIte]
  refine goK_pure (plainVC v hb') ?_
  cases h : plainV v with
  | false =>
    simp (disch := first | omega | assumption) only [h, go_sem, ↓reduceIte]
    exact hQ _ _ _ _ nofun rfl (by simp [tupOf, envOf, AV.strip, AV.strip1, toksV, h, cKs])
  | true =>
    simp (disch := first | omega | assumption) only [cV_len, cV_take, cV_splice, cM_len, cM_take, cM_splice, cM_mk, h, go_sem, ↓reduceIte]
    refine goK_gives (tokensC v hw [] _ .nil (by simpa using hb) rfl) fun o' H' hs => ?_
    simp (disch := first | omega | assumption) only [go_sem, ↓reduceIte]
    exact hQ _ _ _ _ nofun rfl (by simp [tupOf, envOf, AV.strip, AV.strip1, toksV, h])
end Go.Proofs.YticbbfbpeimkbaaGreatDoor
namespace Go.Proofs.YticbbfbpeimkbaaGreatDoor
def joinP0 (P : Program) (f : FuncId) (fn : Func) (s : ChangeSpec) (c : OpenClaim) : Bool := c.wf (OpenSpec.ofChange s) && laidOutB P && mapsRowed P && fn.params.all (P.readableRec ·) && namedTie P c.named s.vars
def joinP1 (P : Program) (f : FuncId) (fn : Func) (s : ChangeSpec) (c : OpenClaim) : Bool := (c.stops == []) && (P.stops == []) && (c.knobs == []) && (P.stopKnobs == []) && (c.maps == (fn.params.toList ++ s.plain.varTypes P).any (P.mapsRec ·)) && (c.ifaces == (fn.params.toList ++ s.plain.varTypes P).any (P.ifacesRec ·)) && (c.mapsOut == P.mapsAmong fn.resultTypes.toList) && (c.loops == (fn.params.toList ++ s.plain.varTypes P).any (P.loopsFrom ·)) && (c.wideKeys == (fn.params.toList ++ s.plain.varTypes P ++ fn.resultTypes.toList).any (P.wideKeysFrom ·)) && s.vars.all (P.varReadable ·) && fn.resultTypes.all (fun t => P.readableRec t && decide (t < P.types.size)) && (c.ifacesOut == fn.resultTypes.toList.any (P.ifacesRec ·)) && (c.loopsOut == fn.resultTypes.toList.any (P.loopsFrom ·)) && (c.veiled == (fn.params.toList ++ s.plain.varTypes P ++ fn.resultTypes.toList).any (P.veiledRec ·)) && c.veiledFits P fn.params.toList (fn.params.toList ++ s.plain.varTypes P ++ fn.resultTypes.toList)
def joinP2 (P : Program) (f : FuncId) (fn : Func) (s : ChangeSpec) (c : OpenClaim) : Bool := (c.inPlace == P.inPlace f) && (c.unfollowed == P.unfollowed f) && (c.recurses == P.recurses f) && (c.named == P.varsNamed f)
def joinP3 (P : Program) (f : FuncId) (fn : Func) (s : ChangeSpec) (c : OpenClaim) : Bool := (c.plainKeys == P.plainKeys) && c.shortTexts.isNone
def joinP4 (P : Program) (f : FuncId) (fn : Func) (s : ChangeSpec) (c : OpenClaim) : Bool := P.stopsHeard
def joinP5 (P : Program) (f : FuncId) (fn : Func) (s : ChangeSpec) (c : OpenClaim) : Bool := P.mayEnter
def joinP6 (P : Program) (f : FuncId) (fn : Func) (s : ChangeSpec) (c : OpenClaim) : Bool := (c.lifted == P.liftsFinal) && (P.make == some c.make) && (c.kinds == (if c.domain.isEmpty then [] else fn.params.toList.map fun t => match P.underlying t with | some (.int k) => some k | _ => none)) && (c.pinned == c.pinnedBy)
theorem joined_of {P : Program} {f : FuncId} {fn : Func} {s : ChangeSpec} {c : OpenClaim} (h0 : joinP0 P f fn s c = true) (h1 : joinP1 P f fn s c = true) (h2 : joinP2 P f fn s c = true) (h3 : joinP3 P f fn s c = true) (h4 : joinP4 P f fn s c = true) (h5 : joinP5 P f fn s c = true) (h6 : joinP6 P f fn s c = true) : joinedFacts P f fn s c = true := by
  simp only [joinP0, Bool.and_eq_true] at h0
  obtain ⟨⟨⟨⟨a0, a1⟩, a2⟩, a3⟩, a4⟩ := h0
  simp only [joinP1, Bool.and_eq_true] at h1
  obtain ⟨⟨⟨⟨⟨⟨⟨⟨⟨⟨⟨⟨⟨⟨a5, a6⟩, a7⟩, a8⟩, a13⟩, a14⟩, a15⟩, a16⟩, a17⟩, a18⟩, a19⟩, a20⟩, a21⟩, a30⟩, a31⟩ := h1
  simp only [joinP2, Bool.and_eq_true] at h2
  obtain ⟨⟨⟨a9, a10⟩, a11⟩, a12⟩ := h2
  simp only [joinP3, Bool.and_eq_true] at h3
  obtain ⟨a22, a23⟩ := h3
  simp only [joinP4, Bool.and_eq_true] at h4
  have a24 := h4
  simp only [joinP5, Bool.and_eq_true] at h5
  have a25 := h5
  simp only [joinP6, Bool.and_eq_true] at h6
  obtain ⟨⟨⟨a26, a27⟩, a28⟩, a29⟩ := h6
  simp only [joinedFacts, Bool.and_eq_true]
  exact ⟨⟨⟨⟨⟨⟨⟨⟨⟨⟨⟨⟨⟨⟨⟨⟨⟨⟨⟨⟨⟨⟨⟨⟨⟨⟨⟨⟨⟨⟨⟨a0, a1⟩, a2⟩, a3⟩, a4⟩, a5⟩, a6⟩, a7⟩, a8⟩, a9⟩, a10⟩, a11⟩, a12⟩, a13⟩, a14⟩, a15⟩, a16⟩, a17⟩, a18⟩, a19⟩, a20⟩, a21⟩, a22⟩, a23⟩, a24⟩, a25⟩, a26⟩, a27⟩, a28⟩, a29⟩, a30⟩, a31⟩
end Go.Proofs.YticbbfbpeimkbaaGreatDoor
namespace Go.Proofs.YticbbfbpeimkbaaGreatDoor
open Go.Ab Go.Lib
open Go.ChangeShapes Go.WideShapes Go.ChangeAt Go.RowKit Go.WideElems
theorem own : ownKnob Tryz.prog.godebug = none := by kernel_rfl
theorem laidOut : laidOutB Tryz.prog = true := by kernel_rfl
theorem bVs_sum : ∀ l, bVs l = (l.map bV).sum
  | [] => rfl
  | v :: r => by simp [bVs, bVs_sum r]
theorem bMs_sum : ∀ l, bMs l = (l.map bM).sum
  | [] => rfl
  | v :: r => by simp [bMs, bMs_sum r]
theorem wfVs_all : ∀ {l : List Val}, (∀ v ∈ l, wfV v) → wfVs l
  | [], _ => trivial
  | v :: r, h => ⟨h v (.head _), wfVs_all fun x hx => h x (.tail _ hx)⟩
theorem wfMs_all : ∀ {l : List Mem}, (∀ v ∈ l, wfM v) → wfMs l
  | [], _ => trivial
  | v :: r, h => ⟨h v (.head _), wfMs_all fun x hx => h x (.tail _ hx)⟩
theorem inR_wf {n : Int} (h : (Lit.int .i64 n).wf = true) : inR n := by
  simp [Lit.wf, IntKind.has, IntKind.min, IntKind.max, IntKind.signed, IntKind.bits] at h
  unfold inR
  omega
abbrev DV (m : Nat) : Prop := DecB Tryz.prog m 56 5 cV wfV bV
abbrev DM (m : Nat) : Prop := DecB Tryz.prog m 148 6 cM wfM bM
theorem decVs {m : Nat} (h : DV m) : DecB Tryz.prog (m + 1) 53 1 (fun l : List Val => [.sl .no 5 (cVs l)]) (fun l => wfVs l) (fun l => bVs l + 1) := by
  intro H enc W cs d ps h1 h2
  obtain ⟨a, h3, h4, h5, h6⟩ := DecB.slice (t := 53) Tryz.underlying53 (B := 80) (sz := 5) (by kernel_rfl) (by kernel_rfl) (by decide) h enc W cs d ps h1 h2
  exact ⟨a, wfVs_all h3.2.2, by simp only [bVs_sum]; exact h4, h5, by simp only [cVs_map]; exact h6⟩
theorem decMs {m : Nat} (h : DM m) : DecB Tryz.prog (m + 1) 54 1 (fun l : List Mem => [.sl .no 6 (cMs l)]) (fun l => wfMs l) (fun l => bMs l + 1) := by
  intro H enc W cs d ps h1 h2
  obtain ⟨a, h3, h4, h5, h6⟩ := DecB.slice (t := 54) Tryz.underlying54 (B := 96) (sz := 6) (by kernel_rfl) (by kernel_rfl) (by decide) h enc W cs d ps h1 h2
  exact ⟨a, wfMs_all h3.2.2, by simp only [bMs_sum]; exact h4, h5, by simp only [cMs_map]; exact h6⟩
theorem dec : ∀ m, DV m ∧ DM m := by
  intro m
  induction m using Nat.strongRecOn with
  | _ m ih =>
    have hs : ∀ {k}, k ≤ m → DecB Tryz.prog k 53 1 (fun l : List Val => [.sl .no 5 (cVs l)]) (fun l => wfVs l) (fun l => bVs l + 1) := fun {k} hk => by
      cases k with
      | zero => exact DecB.zero
      | succ k => exact decVs (ih k (by omega)).1
    have hm : ∀ {k}, k ≤ m → DecB Tryz.prog k 54 1 (fun l : List Mem => [.sl .no 6 (cMs l)]) (fun l => wfMs l) (fun l => bMs l + 1) := fun {k} hk => by
      cases k with
      | zero => exact DecB.zero
      | succ k => exact decMs (ih k (by omega)).2
    refine ⟨?_, ?_⟩
    · cases m with
      | zero => exact DecB.zero
      | succ k =>
        exact DecB.struct (DecFsB.cons (by kernel_rfl) (DecB.int (k := .i64) Tryz.underlying3) (DecFsB.cons (by kernel_rfl) (DecB.int (k := .i64) Tryz.underlying2) (DecFsB.cons (by kernel_rfl) (DecB.str Tryz.underlying9) (DecFsB.cons (by kernel_rfl) (hs (by omega)) (DecFsB.cons (by kernel_rfl) (hm (by omega)) DecFsB.nil)))))
          (by kernel_rfl) (by kernel_rfl) cV wfV bV (fun x => .mk x.1 x.2.1 x.2.2.1 x.2.2.2.1 x.2.2.2.2.1) (fun a => rfl) (fun a h => ⟨inR_wf h.2.1, h.2.2.2.1, h.2.2.2.2.1⟩) (fun a => by simp only [bV]; omega)
    · cases m with
      | zero => exact DecB.zero
      | succ k =>
        exact DecB.struct (DecFsB.cons (by kernel_rfl) (DecB.str Tryz.underlying9) (DecFsB.cons (by kernel_rfl) (ih k (by omega)).1 DecFsB.nil))
          (by kernel_rfl) (by kernel_rfl) cM wfM bM (fun x => .mk x.1 x.2.1) (fun a => by simp [cM]) (fun a h => h.2.1) (fun a => by simp only [bM]; omega)
theorem decVA (m : Nat) : DV m := (dec m).1
theorem decMsA : ∀ m, DecB Tryz.prog m 54 1 (fun l : List Mem => [.sl .no 6 (cMs l)]) (fun l => wfMs l) (fun l => bMs l + 1)
  | 0 => DecB.zero
  | m + 1 => decMs (dec m).2
theorem agg_of {W : World} {r : Reach} {b : Nat} {t : TypeId} {fs : Array Field} {v : Value} (ht : Tryz.prog.underlying t = some (.struct fs)) (h : Value.okWide Tryz.prog W r b t v) : ∃ cs, v = .agg cs := by
  unfold Value.okWide at h
  rw [ht] at h
  obtain ⟨cs, h, _⟩ := h
  exact ⟨cs, h⟩
theorem cond_bulk {H : Type} {s : ChangeSpec} {ds : List (DataW H)} (h : ∀ k, (Rows.OpenSpec.upto s).cond = some k → k H ds = true) : blkAll ds ≤ 1048576 := by
  have h1 : Rows.uptoSmall H ds = true := h _ rfl
  have h2 := of_decide_eq_true h1
  rwa [bulkAll_eq] at h2
end Go.Proofs.YticbbfbpeimkbaaGreatDoor
namespace Go.Proofs.YticbbfbpeimkbaaGreatDoor
open Go.Ab
structure DirD where
  nm : List UInt8
  args : List Mem
inductive SelD where
  | mk (k : Int) (al nm : List UInt8) (args : List Mem) (dirs : List DirD) (on : List UInt8) (sels : List SelD)
structure TyD where
  nm : List UInt8
  lists : Int
  musts : Int
structure VarD where
  nm : List UInt8
  t : TyD
  has : Bool
  d : Val
structure OpD where
  k : Int
  nm : List UInt8
  vars : List VarD
  dirs : List DirD
  sels : List SelD
structure FragD where
  nm : List UInt8
  on : List UInt8
  dirs : List DirD
  sels : List SelD
structure DocD where
  ops : List OpD
  frags : List FragD
def cD (x : DirD) : List AV := [.str x.nm, .sl .no 6 (cMs x.args)]
def cDs (l : List DirD) : List (List AV) := l.map cD
mutual
def cS : SelD → List AV
  | .mk k al nm args dirs on sels => [.int .i64 k, .str al, .str nm, .sl .no 6 (cMs args), .sl .no 2 (cDs dirs), .str on, .sl .no 7 (cSs sels)]
def cSs : List SelD → List (List AV)
  | [] => []
  | x :: r => cS x :: cSs r
end
def cTy (t : TyD) : List AV := [.str t.nm, .int .i64 t.lists, .int .i64 t.musts]
def cW (x : VarD) : List AV := cTy ⟨x.nm, 0, 0⟩ |>.take 1 |>.append (cTy x.t ++ (.bool x.has :: cV x.d))
def cWs (l : List VarD) : List (List AV) := l.map cW
def cO (x : OpD) : List AV := [.int .i64 x.k, .str x.nm, .sl .no 10 (cWs x.vars), .sl .no 2 (cDs x.dirs), .sl .no 7 (cSs x.sels)]
def cOs (l : List OpD) : List (List AV) := l.map cO
def cF (x : FragD) : List AV := [.str x.nm, .str x.on, .sl .no 2 (cDs x.dirs), .sl .no 7 (cSs x.sels)]
def cFs (l : List FragD) : List (List AV) := l.map cF
def cDoc (d : DocD) : List AV := [.sl .no 5 (cOs d.ops), .sl .no 4 (cFs d.frags)]
theorem cW_mk (nm : List UInt8) (t : TyD) (h : Bool) (d : Val) : cW ⟨nm, t, h, d⟩ = .str nm :: .str t.nm :: .int .i64 t.lists :: .int .i64 t.musts :: .bool h :: cV d := rfl
theorem cSs_map : ∀ l, cSs l = l.map cS
  | [] => rfl
  | v :: r => by rw [cSs, cSs_map r]; rfl
theorem cDs_len (l : List DirD) : (cDs l).length = l.length := by simp [cDs]
theorem cSs_len (l : List SelD) : (cSs l).length = l.length := by rw [cSs_map]; simp
theorem cWs_len (l : List VarD) : (cWs l).length = l.length := by simp [cWs]
theorem cOs_len (l : List OpD) : (cOs l).length = l.length := by simp [cOs]
theorem cFs_len (l : List FragD) : (cFs l).length = l.length := by simp [cFs]
theorem cDs_get {l a : List DirD} {x : DirD} {b : List DirD} (h : l = a ++ x :: b) : (cDs l).getD a.length [] = cD x := getD_mid' h
theorem cSs_get {l a : List SelD} {x : SelD} {b : List SelD} (h : l = a ++ x :: b) : (cSs l).getD a.length [] = cS x := by rw [cSs_map, getD_mid' h]
theorem cWs_get {l a : List VarD} {x : VarD} {b : List VarD} (h : l = a ++ x :: b) : (cWs l).getD a.length [] = cW x := getD_mid' h
theorem cOs_get {l a : List OpD} {x : OpD} {b : List OpD} (h : l = a ++ x :: b) : (cOs l).getD a.length [] = cO x := getD_mid' h
theorem cFs_get {l a : List FragD} {x : FragD} {b : List FragD} (h : l = a ++ x :: b) : (cFs l).getD a.length [] = cF x := getD_mid' h
theorem cS_mk (k : Int) (al nm : List UInt8) (args : List Mem) (dirs : List DirD) (on : List UInt8) (sels : List SelD) : cS (.mk k al nm args dirs on sels) = [.int .i64 k, .str al, .str nm, .sl .no 6 (cMs args), .sl .no 2 (cDs dirs), .str on, .sl .no 7 (cSs sels)] := rfl
theorem cO_strip (x : OpD) : (cO x).map AV.strip1 = cO x := rfl
theorem cF_strip (x : FragD) : (cF x).map AV.strip1 = cF x := rfl
def bD (x : DirD) : Nat := 1 + x.nm.length + bMs x.args
def bDs (l : List DirD) : Nat := (l.map bD).sum
mutual
def bS : SelD → Nat
  | .mk _ al nm args dirs on sels => 1 + al.length + nm.length + on.length + bMs args + bDs dirs + bSs sels
def bSs : List SelD → Nat
  | [] => 0
  | x :: r => bS x + bSs r
end
def bW (x : VarD) : Nat := x.nm.length + x.t.nm.length + bV x.d
def bWs (l : List VarD) : Nat := (l.map bW).sum
def bO (x : OpD) : Nat := 1 + x.nm.length + bWs x.vars + bDs x.dirs + bSs x.sels
def bOs (l : List OpD) : Nat := (l.map bO).sum
def bF (x : FragD) : Nat := 1 + x.nm.length + x.on.length + bDs x.dirs + bSs x.sels
def bFs (l : List FragD) : Nat := (l.map bF).sum
def bDoc (d : DocD) : Nat := bOs d.ops + bFs d.frags
theorem sum_len {α : Type} {f : α → Nat} (hf : ∀ x, 1 ≤ f x) : ∀ l : List α, l.length ≤ (l.map f).sum
  | [] => Nat.zero_le _
  | x :: r => by have := sum_len hf r; have := hf x; simp only [List.map_cons, List.sum_cons, List.length_cons]; omega
theorem sum_mid {α : Type} (f : α → Nat) (a : List α) (x : α) (b : List α) : ((a ++ x :: b).map f).sum = (a.map f).sum + f x + (b.map f).sum := by simp; omega
theorem bDs_len (l : List DirD) : l.length ≤ bDs l := sum_len (fun x => by simp only [bD]; omega) l
theorem bWs_len (l : List VarD) : l.length ≤ bWs l := sum_len (fun x => by have := bV_pos x.d; simp only [bW]; omega) l
theorem bOs_len (l : List OpD) : l.length ≤ bOs l := sum_len (fun x => by simp only [bO]; omega) l
theorem bFs_len (l : List FragD) : l.length ≤ bFs l := sum_len (fun x => by simp only [bF]; omega) l
theorem bS_pos (x : SelD) : 1 ≤ bS x := by cases x; simp only [bS]; omega
theorem bSs_len : ∀ l : List SelD, l.length ≤ bSs l
  | [] => by simp
  | v :: r => by have := bSs_len r; have := bS_pos v; simp only [bSs, List.length_cons]; omega
theorem bDs_mid (a : List DirD) (x : DirD) (b : List DirD) : bDs (a ++ x :: b) = bDs a + bD x + bDs b := sum_mid ..
theorem bWs_mid (a : List VarD) (x : VarD) (b : List VarD) : bWs (a ++ x :: b) = bWs a + bW x + bWs b := sum_mid ..
theorem bOs_mid (a : List OpD) (x : OpD) (b : List OpD) : bOs (a ++ x :: b) = bOs a + bO x + bOs b := sum_mid ..
theorem bFs_mid (a : List FragD) (x : FragD) (b : List FragD) : bFs (a ++ x :: b) = bFs a + bF x + bFs b := sum_mid ..
theorem bSs_mid (a : List SelD) (x : SelD) (b : List SelD) : bSs (a ++ x :: b) = bSs a + bS x + bSs b := by
  induction a with
  | nil => simp [bSs]
  | cons y a ih => simp only [List.cons_append, bSs, ih]; omega
mutual
theorem SelD.ind {P : SelD → Prop} (h : ∀ k al nm args dirs on sels, (∀ v ∈ sels, P v) → P (.mk k al nm args dirs on sels)) : ∀ v, P v
  | .mk k al nm args dirs on sels => h k al nm args dirs on sels (SelD.indL h sels)
theorem SelD.indL {P : SelD → Prop} (h : ∀ k al nm args dirs on sels, (∀ v ∈ sels, P v) → P (.mk k al nm args dirs on sels)) : ∀ l : List SelD, ∀ v ∈ l, P v
  | [], _, hv => by cases hv
  | x :: r, v, hv => (List.mem_cons.1 hv).elim (fun e => e ▸ SelD.ind h x) (SelD.indL h r v)
end
end Go.Proofs.YticbbfbpeimkbaaGreatDoor
namespace Go.Proofs.YticbbfbpeimkbaaGreatDoor
open Go.Ab
def wfD (x : DirD) : Prop := wfMs x.args
def wfDs (l : List DirD) : Prop := ∀ x ∈ l, wfD x
mutual
def wfS : SelD → Prop
  | .mk _ _ _ args dirs _ sels => wfMs args ∧ wfDs dirs ∧ wfSs sels
def wfSs : List SelD → Prop
  | [] => True
  | x :: r => wfS x ∧ wfSs r
end
theorem wfSs_all : ∀ {l : List SelD}, (∀ v ∈ l, wfS v) → wfSs l
  | [], _ => trivial
  | v :: r, h => ⟨h v (.head _), wfSs_all fun x hx => h x (.tail _ hx)⟩
def wfW (x : VarD) : Prop := inR x.t.lists ∧ inR x.t.musts ∧ wfV x.d
def wfO (x : OpD) : Prop := (∀ y ∈ x.vars, wfW y) ∧ wfDs x.dirs ∧ wfSs x.sels
def wfF (x : FragD) : Prop := wfDs x.dirs ∧ wfSs x.sels
def wfDoc (d : DocD) : Prop := (∀ x ∈ d.ops, wfO x) ∧ ∀ x ∈ d.frags, wfF x
def pk (s : List UInt8) : Tok := ⟨1, s⟩
def wk (s : List UInt8) : Tok := ⟨2, s⟩
def rightV2 (dp : Int) (fixed : Bool) (v : Val) : Bool := plainV v && (decide (dp + depthV v ≤ 16) && (!fixed || decide ((varsV v []).length = 0)))
def rightMe (dp : Int) (fixed : Bool) : Mem → Bool
  | .mk s v => nameM s && rightV2 dp fixed v
def rightMs (dp : Int) (fixed : Bool) (l : List Mem) : Bool := l.all (rightMe dp fixed)
def rightDi (dp : Int) (fixed : Bool) (d : DirD) : Bool := nameM d.nm && rightMs dp fixed d.args
def rightDs (dp : Int) (fixed : Bool) (l : List DirD) : Bool := l.all (rightDi dp fixed)
mutual
def rightS (dp : Int) : SelD → Bool
  | .mk k al nm args dirs on sels => rightDs dp false dirs &&
    (if k = 0 then nameM nm && ((decide (al = []) || nameM al) && (decide (on = []) && (rightMs dp false args && (decide (sels.length = 0) || (decide (dp + 1 ≤ 16) && rightSl (dp + 1) sels)))))
     else if k = 1 then nameM nm && (decide (nm ≠ [111, 110]) && (decide (al = []) && (decide (on = []) && (decide (args.length = 0) && decide (sels.length = 0)))))
     else if k = 2 then decide (nm = []) && (decide (al = []) && (decide (args.length = 0) && ((decide (on = []) || nameM on) && (decide (sels.length ≠ 0) && (decide (dp + 1 ≤ 16) && rightSl (dp + 1) sels)))))
     else false)
def rightSl (dp : Int) : List SelD → Bool
  | [] => true
  | x :: r => rightS dp x && rightSl dp r
end
def rightSs (dp : Int) (l : List SelD) : Bool := decide (l.length ≠ 0) && (decide (dp ≤ 16) && rightSl dp l)
def rightTy (t : TyD) : Bool := nameM t.nm && (decide (0 ≤ t.lists) && (decide (t.lists ≤ 4) && (decide (0 ≤ t.musts) && decide (t.musts < 2 ^ (t.lists.toNat + 1)))))
noncomputable def rightDf (has : Bool) (v : Val) : Bool := if has then rightV2 0 true v else eqd v zV
noncomputable def rightW (x : VarD) : Bool := nameM x.nm && (rightTy x.t && rightDf x.has x.d)
noncomputable def rightO (o : OpD) : Bool := (decide (o.k = 0) || decide (o.k = 1)) && ((decide (o.nm = []) || nameM o.nm) && (o.vars.all rightW && (rightDs 0 true o.dirs && rightSs 1 o.sels)))
def rightF (f : FragD) : Bool := decide (f.nm ≠ [111, 110]) && (nameM f.nm && (nameM f.on && (rightDs 0 true f.dirs && rightSs 1 f.sels)))
noncomputable def rightDoc (d : DocD) : Bool := decide (0 < d.ops.length + d.frags.length) && (d.ops.all rightO && d.frags.all rightF)
def tArgs (l : List Mem) : List Tok := if l.length = 0 then [] else pk [40] :: (tokMs l ++ [pk [41]])
def tD (d : DirD) : List Tok := pk [64] :: wk d.nm :: tArgs d.args
def tDs (l : List DirD) : List Tok := l.flatMap tD
mutual
def tS : SelD → List Tok
  | .mk k al nm args dirs on sels => (if k = 0 then (if al = [] then [] else [wk al, pk [58]]) ++ (wk nm :: tArgs args) else if k = 1 then [pk [46, 46, 46], wk nm] else pk [46, 46, 46] :: (if on = [] then [] else [wk [111, 110], wk on])) ++
    (tDs dirs ++ (if sels.length = 0 then [] else pk [123] :: (tSl sels ++ [pk [125]])))
def tSl : List SelD → List Tok
  | [] => []
  | x :: r => tS x ++ tSl r
end
def tBl (l : List SelD) : List Tok := pk [123] :: (tSl l ++ [pk [125]])
def bitB (m : Int) (i : Nat) : Bool := decide (m / 2 ^ i % 2 = 1)
def tyPc (n : Nat) (m : Int) (i : Nat) : List Tok := (if i < n then [pk [93]] else []) ++ (if bitB m i then [pk [33]] else [])
def tyTl (n : Nat) (m : Int) : Nat → List Tok
  | 0 => tyPc n m 0
  | i + 1 => tyPc n m (i + 1) ++ tyTl n m i
def tTy (t : TyD) : List Tok := List.replicate t.lists.toNat (pk [91]) ++ (wk t.nm :: tyTl t.lists.toNat t.musts t.lists.toNat)
def tDf (has : Bool) (v : Val) : List Tok := if has then pk [61] :: tokV v else []
def tW (x : VarD) : List Tok := pk [36] :: wk x.nm :: pk [58] :: (tTy x.t ++ tDf x.has x.d)
def tWs (l : List VarD) : List Tok := if l.length = 0 then [] else pk [40] :: (l.flatMap tW ++ [pk [41]])
def tO (o : OpD) : List Tok := wk (if o.k = 0 then [113, 117, 101, 114, 121] else [109, 117, 116, 97, 116, 105, 111, 110]) :: ((if o.nm = [] then [] else [wk o.nm]) ++ (tWs o.vars ++ (tDs o.dirs ++ tBl o.sels)))
def tF (f : FragD) : List Tok := wk [102, 114, 97, 103, 109, 101, 110, 116] :: wk f.nm :: wk [111, 110] :: wk f.on :: (tDs f.dirs ++ tBl f.sels)
def tDoc (d : DocD) : List Tok := d.ops.flatMap tO ++ d.frags.flatMap tF
theorem tSl_app : ∀ a b, tSl (a ++ b) = tSl a ++ tSl b
  | [], b => rfl
  | x :: a, b => by simp [tSl, tSl_app a b]
theorem rightSl_app (dp : Int) : ∀ a b, rightSl dp (a ++ b) = (rightSl dp a && rightSl dp b)
  | [], b => by simp [rightSl]
  | x :: a, b => by simp [rightSl, rightSl_app dp a b, Bool.and_assoc]
theorem tokMs_app : ∀ a b, tokMs (a ++ b) = tokMs a ++ tokMs b
  | [], b => rfl
  | x :: a, b => by simp [tokMs, tokMs_app a b]
end Go.Proofs.YticbbfbpeimkbaaGreatDoor
namespace Go.Proofs.YticbbfbpeimkbaaGreatDoor
open Go.Ab Go.Lib
open Go.ChangeShapes Go.WideShapes Go.ChangeAt Go.RowKit Go.WideElems
theorem bSs_sum : ∀ l, bSs l = (l.map bS).sum
  | [] => rfl
  | v :: r => by simp [bSs, bSs_sum r]
theorem decD : ∀ m, DecB Tryz.prog m 169 2 cD wfD bD
  | 0 => DecB.zero
  | k + 1 => DecB.struct (DecFsB.cons (by kernel_rfl) (DecB.str Tryz.underlying9) (DecFsB.cons (by kernel_rfl) (decMsA k) DecFsB.nil))
      (by kernel_rfl) (by kernel_rfl) cD wfD bD (fun x => ⟨x.1, x.2.1⟩) (fun a => rfl) (fun a h => h.2.1) (fun a => by simp only [bD]; omega)
theorem decDs : ∀ m, DecB Tryz.prog m 43 1 (fun l : List DirD => [.sl .no 2 (cDs l)]) wfDs (fun l => bDs l + 1)
  | 0 => DecB.zero
  | m + 1 => by
    intro enc W cs d ps h1 h2
    obtain ⟨a, h3, h4, h5, h6⟩ := DecB.slice (t := 43) Tryz.underlying43 (B := 40) (sz := 2) (by kernel_rfl) (by kernel_rfl) (by decide) (decD m) enc W cs d ps h1 h2
    exact ⟨a, h3.2.2, by simp only [bDs]; exact h4, h5, by simp only [cDs]; exact h6⟩
theorem decSs1 {m : Nat} (h : DecB Tryz.prog m 96 7 cS wfS bS) : DecB Tryz.prog (m + 1) 36 1 (fun l : List SelD => [.sl .no 7 (cSs l)]) wfSs (fun l => bSs l + 1) := by
  intro H enc W cs d ps h1 h2
  obtain ⟨a, h3, h4, h5, h6⟩ := DecB.slice (t := 36) Tryz.underlying36 (B := 128) (sz := 7) (by kernel_rfl) (by kernel_rfl) (by decide) h enc W cs d ps h1 h2
  exact ⟨a, wfSs_all h3.2.2, by simp only [bSs_sum]; exact h4, h5, by simp only [cSs_map]; exact h6⟩
theorem decS : ∀ m, DecB Tryz.prog m 96 7 cS wfS bS := by
  intro m
  induction m using Nat.strongRecOn with
  | _ m ih =>
    cases m with
    | zero => exact DecB.zero
    | succ k =>
      have hs : DecB Tryz.prog k 36 1 (fun l : List SelD => [.sl .no 7 (cSs l)]) wfSs (fun l => bSs l + 1) := by
        cases k with
        | zero => exact DecB.zero
        | succ k => exact decSs1 (ih k (by omega))
      intro H
      exact DecB.struct (DecFsB.cons (by kernel_rfl) (DecB.int (k := .i64) Tryz.underlying3) (DecFsB.cons (by kernel_rfl) (DecB.str Tryz.underlying9) (DecFsB.cons (by kernel_rfl) (DecB.str Tryz.underlying9) (DecFsB.cons (by kernel_rfl) (decMsA k) (DecFsB.cons (by kernel_rfl) (decDs k) (DecFsB.cons (by kernel_rfl) (DecB.str Tryz.underlying9) (DecFsB.cons (by kernel_rfl) hs DecFsB.nil)))))))
        (by kernel_rfl) (by kernel_rfl) cS wfS bS (fun x => .mk x.1 x.2.1 x.2.2.1 x.2.2.2.1 x.2.2.2.2.1 x.2.2.2.2.2.1 x.2.2.2.2.2.2.1) (fun a => rfl) (fun a h => ⟨h.2.2.2.1, h.2.2.2.2.1, h.2.2.2.2.2.2.1⟩) (fun a => by simp only [bS]; omega)
theorem decSs : ∀ m, DecB Tryz.prog m 36 1 (fun l : List SelD => [.sl .no 7 (cSs l)]) wfSs (fun l => bSs l + 1)
  | 0 => DecB.zero
  | m + 1 => decSs1 (decS m)
def bTy (t : TyD) : Nat := t.nm.length
theorem decTy : ∀ m, DecB Tryz.prog m 60 3 cTy (fun t => inR t.lists ∧ inR t.musts) bTy
  | 0 => DecB.zero
  | k + 1 => DecB.struct (DecFsB.cons (by kernel_rfl) (DecB.str Tryz.underlying9) (DecFsB.cons (by kernel_rfl) (DecB.int (k := .i64) Tryz.underlying3) (DecFsB.cons (by kernel_rfl) (DecB.int (k := .i64) Tryz.underlying3) DecFsB.nil)))
      (by kernel_rfl) (by kernel_rfl) cTy (fun t => inR t.lists ∧ inR t.musts) bTy (fun x => ⟨x.1, x.2.1, x.2.2.1⟩) (fun a => rfl) (fun a h => ⟨inR_wf h.2.1, inR_wf h.2.2.1⟩) (fun a => by simp only [bTy]; omega)
theorem decW : ∀ m, DecB Tryz.prog m 92 10 cW wfW bW
  | 0 => DecB.zero
  | k + 1 => DecB.struct (DecFsB.cons (by kernel_rfl) (DecB.str Tryz.underlying9) (DecFsB.cons (by kernel_rfl) (decTy k) (DecFsB.cons (by kernel_rfl) (DecB.bool Tryz.underlying4) (DecFsB.cons (by kernel_rfl) (decVA k) DecFsB.nil))))
      (by kernel_rfl) (by kernel_rfl) cW wfW bW (fun x => ⟨x.1, x.2.1, x.2.2.1, x.2.2.2.1⟩) (fun a => by simp [cW_mk, cTy]) (fun a h => ⟨h.2.1.1, h.2.1.2, h.2.2.2.1⟩) (fun a => by simp only [bW, bTy]; omega)
theorem decWs : ∀ m, DecB Tryz.prog m 42 1 (fun l : List VarD => [.sl .no 10 (cWs l)]) (fun l => ∀ x ∈ l, wfW x) (fun l => bWs l + 1)
  | 0 => DecB.zero
  | m + 1 => by
    intro enc W cs d ps h1 h2
    obtain ⟨a, h3, h4, h5, h6⟩ := DecB.slice (t := 42) Tryz.underlying42 (B := 136) (sz := 10) (by kernel_rfl) (by kernel_rfl) (by decide) (decW m) enc W cs d ps h1 h2
    exact ⟨a, h3.2.2, by simp only [bWs]; exact h4, h5, by simp only [cWs]; exact h6⟩
theorem decO : ∀ m, DecB Tryz.prog m 45 5 cO wfO bO
  | 0 => DecB.zero
  | k + 1 => DecB.struct (DecFsB.cons (by kernel_rfl) (DecB.int (k := .i64) Tryz.underlying3) (DecFsB.cons (by kernel_rfl) (DecB.str Tryz.underlying9) (DecFsB.cons (by kernel_rfl) (decWs k) (DecFsB.cons (by kernel_rfl) (decDs k) (DecFsB.cons (by kernel_rfl) (decSs k) DecFsB.nil)))))
      (by kernel_rfl) (by kernel_rfl) cO wfO bO (fun x => ⟨x.1, x.2.1, x.2.2.1, x.2.2.2.1, x.2.2.2.2.1⟩) (fun a => rfl) (fun a h => ⟨h.2.2.1, h.2.2.2.1, h.2.2.2.2.1⟩) (fun a => by simp only [bO]; omega)
theorem decF : ∀ m, DecB Tryz.prog m 94 4 cF wfF bF
  | 0 => DecB.zero
  | k + 1 => DecB.struct (DecFsB.cons (by kernel_rfl) (DecB.str Tryz.underlying9) (DecFsB.cons (by kernel_rfl) (DecB.str Tryz.underlying9) (DecFsB.cons (by kernel_rfl) (decDs k) (DecFsB.cons (by kernel_rfl) (decSs k) DecFsB.nil))))
      (by kernel_rfl) (by kernel_rfl) cF wfF bF (fun x => ⟨x.1, x.2.1, x.2.2.1, x.2.2.2.1⟩) (fun a => rfl) (fun a h => ⟨h.2.2.1, h.2.2.2.1⟩) (fun a => by simp only [bF]; omega)
theorem decOs : ∀ m, DecB Tryz.prog m 22 1 (fun l : List OpD => [.sl .no 5 (cOs l)]) (fun l => ∀ x ∈ l, wfO x) (fun l => bOs l + 1)
  | 0 => DecB.zero
  | m + 1 => by
    intro enc W cs d ps h1 h2
    obtain ⟨a, h3, h4, h5, h6⟩ := DecB.slice (t := 22) Tryz.underlying22 (B := 96) (sz := 5) (by kernel_rfl) (by kernel_rfl) (by decide) (decO m) enc W cs d ps h1 h2
    exact ⟨a, h3.2.2, by simp only [bOs]; exact h4, h5, by simp only [cOs]; exact h6⟩
theorem decFs : ∀ m, DecB Tryz.prog m 23 1 (fun l : List FragD => [.sl .no 4 (cFs l)]) (fun l => ∀ x ∈ l, wfF x) (fun l => bFs l + 1)
  | 0 => DecB.zero
  | m + 1 => by
    intro enc W cs d ps h1 h2
    obtain ⟨a, h3, h4, h5, h6⟩ := DecB.slice (t := 23) Tryz.underlying23 (B := 80) (sz := 4) (by kernel_rfl) (by kernel_rfl) (by decide) (decF m) enc W cs d ps h1 h2
    exact ⟨a, h3.2.2, by simp only [bFs]; exact h4, h5, by simp only [cFs]; exact h6⟩
theorem decDocA : ∀ m, DecB Tryz.prog m 25 2 cDoc wfDoc bDoc
  | 0 => DecB.zero
  | k + 1 => DecB.struct (DecFsB.cons (by kernel_rfl) (decOs k) (DecFsB.cons (by kernel_rfl) (decFs k) DecFsB.nil))
      (by kernel_rfl) (by kernel_rfl) cDoc wfDoc bDoc (fun x => ⟨x.1, x.2.1⟩) (fun a => rfl) (fun a h => ⟨h.1, h.2.1⟩) (fun a => by simp only [bDoc]; omega)
end Go.Proofs.YticbbfbpeimkbaaGreatDoor
namespace Go.Proofs.YticbbfbpeimkbaaGreatDoor
open Go.Ab
def tipOf : Own → Option Nat
  | .tip b _ => some b
  | _ => none
structure Sep (H : Heap) (l : List (Own × Nat × Nat)) : Prop where
  own : ∀ x ∈ l, Owned H x.1 x.2.1 x.2.2
  nd : (l.filterMap fun x => tipOf x.1).Nodup
theorem tipOf_some {o : Own} {b : Nat} (h : tipOf o = some b) : ∃ d, o = .tip b d := by
  cases o <;> simp [tipOf] at h
  rename_i c d; subst h; exact ⟨d, rfl⟩
theorem Owned.ofKept {H H' : Heap} {o o2 : Own} {n sz : Nat} (h : Owned H o n sz) (hk : Kept H o2 H') (hne : ∀ b d d2, o = .tip b d → o2 ≠ .tip b d2) : Owned H' o n sz := by
  cases o with
  | tip b d => exact hk b _ h fun d2 e => hne b d d2 rfl e
  | no => exact h
  | nil => exact h
  | full => exact h
theorem Sep.step {H H' : Heap} {a b : List (Own × Nat × Nat)} {o o' : Own} {n n' sz : Nat} (h : Sep H (a ++ (o, n, sz) :: b)) (h' : OwnS H o H' o' n' sz) : Sep H' (a ++ (o', n', sz) :: b) := by
  have hnd := h.nd
  simp only [List.filterMap_append, List.filterMap_cons] at hnd
  have hother : ∀ x, x ∈ a ∨ x ∈ b → ∀ c d d2, x.1 = .tip c d → o ≠ .tip c d2 := fun x hx c d d2 hxe e => by
    subst e
    simp only [tipOf] at hnd
    rw [List.nodup_append] at hnd
    obtain ⟨_, hb, hab⟩ := hnd
    rcases hx with hx | hx
    · exact hab c (List.mem_filterMap.2 ⟨x, hx, by rw [hxe]⟩) c (List.mem_cons_self ..) rfl
    · exact (List.nodup_cons.1 hb).1 (List.mem_filterMap.2 ⟨x, hx, by rw [hxe]⟩)
  refine ⟨fun x hx => ?_, ?_⟩
  · rcases List.mem_append.1 hx with hx | hx
    · exact Owned.ofKept (h.own x (by simp [hx])) h'.kept fun c d d2 => hother x (.inl hx) c d d2
    · rcases List.mem_cons.1 hx with rfl | hx
      · exact h'.own
      · exact Owned.ofKept (h.own x (by simp [hx])) h'.kept fun c d d2 => hother x (.inr hx) c d d2
  · simp only [List.filterMap_append, List.filterMap_cons]
    have hsub : ∀ c, c ∈ a.filterMap (fun x => tipOf x.1) ∨ c ∈ b.filterMap (fun x => tipOf x.1) → tipOf o' ≠ some c := fun c hc e => by
      obtain ⟨d', e⟩ := tipOf_some e
      have hH : H c ≠ none ∧ ∀ d0, o ≠ .tip c d0 := by
        rcases hc with hc | hc <;> obtain ⟨x, hx, hxe⟩ := List.mem_filterMap.1 hc <;> obtain ⟨d, hxe⟩ := tipOf_some hxe
        · have := h.own x (by simp [hx]); rw [hxe] at this
          have h2 : H c = some _ := this
          exact ⟨by simp [h2], fun d0 => hother x (.inl hx) c d d0 hxe⟩
        · have := h.own x (by simp [hx]); rw [hxe] at this
          have h2 : H c = some _ := this
          exact ⟨by simp [h2], fun d0 => hother x (.inr hx) c d d0 hxe⟩
      rcases h'.new c d' e with h1 | ⟨d0, h1⟩
      · exact hH.1 h1
      · exact hH.2 d0 h1
    have hnd2 : (a.filterMap (fun x => tipOf x.1) ++ b.filterMap (fun x => tipOf x.1)).Nodup := by
      cases ho : tipOf o with
      | none => rw [ho] at hnd; exact hnd
      | some c =>
        rw [ho] at hnd
        rw [List.nodup_append] at hnd ⊢
        exact ⟨hnd.1, (List.nodup_cons.1 hnd.2.1).2, fun x hx y hy => hnd.2.2 x hx y (List.mem_cons_of_mem _ hy)⟩
    cases ho : tipOf o' with
    | none => exact hnd2
    | some c =>
      have hc := hsub c
      rw [List.nodup_append] at hnd2 ⊢
      refine ⟨hnd2.1, List.nodup_cons.2 ⟨fun hm => hc (.inr hm) ho, hnd2.2.1⟩, fun x hx y hy => ?_⟩
      rcases List.mem_cons.1 hy with rfl | hy
      · exact fun e => hc (.inl (e ▸ hx)) ho
      · exact hnd2.2.2 x hx y hy
theorem Sep.mono {H H' : Heap} {l : List (Own × Nat × Nat)} (h : Sep H l) (hk : ∀ c n sz, H c = some (.tip n sz) → H' c = some (.tip n sz)) : Sep H' l :=
  ⟨fun x hx => by
    have := h.own x hx
    obtain ⟨o, n, sz⟩ := x
    cases o with
    | tip c d => exact hk c _ _ this
    | no => exact this
    | nil => exact this
    | full => exact this, h.nd⟩
end Go.Proofs.YticbbfbpeimkbaaGreatDoor
namespace Go.Proofs.YticbbfbpeimkbaaGreatDoor
open Go.Ab Go.RowKit Go.Sort Go.Lib
theorem containsC1 (s : List UInt8) (c : UInt8) : Pure Tryz.prog 209 [.str s, .str [c]] (.bool (decide (0 ≤ Lib.indexByte s c))) := by
  refine Pure.of_calls fun γ w vs ht hv => ?_
  obtain ⟨hl, hr⟩ := hv
  match vs, hl with
  | [v, u], _ =>
    cases hr 0 _ _ rfl rfl
    cases hr 1 _ _ rfl rfl
    exact (Tryz.strings_Contains_one ⟨s.toArray⟩ c w).mono fun e w' ⟨he, hw⟩ => ⟨hw, _, he, .bool _⟩
end Go.Proofs.YticbbfbpeimkbaaGreatDoor
namespace Go.Proofs.YticbbfbpeimkbaaGreatDoor
open Go.Ab
def hexL : List UInt8 := [48, 49, 50, 51, 52, 53, 54, 55, 56, 57, 97, 98, 99, 100, 101, 102]
def hexD (c : UInt8) : Option Nat := if Lib.indexByte hexL (c ||| 32) < 0 ∨ c.toNat < 48 ∨ (57 < c.toNat ∧ c.toNat < 65) then none else some (Lib.indexByte hexL (c ||| 32)).toNat
def unitG : Nat → List UInt8 → Nat → Option Nat
  | 0, _, u => some u
  | _ + 1, [], _ => none
  | n + 1, c :: t, u => match hexD c with
    | none => none
    | some k => unitG n t (16 * u + k)
def unitM (s : List UInt8) : Option Nat := unitG 4 s 0
def encM (n : Nat) : List UInt8 :=
  if n ≤ 127 then [UInt8.ofNat n]
  else if n ≤ 2047 then [UInt8.ofNat (192 + n / 64), UInt8.ofNat (128 + n % 64)]
  else if n ≤ 65535 then [UInt8.ofNat (224 + n / 4096), UInt8.ofNat (128 + n / 64 % 64), UInt8.ofNat (128 + n % 64)]
  else [UInt8.ofNat (240 + n / 262144), UInt8.ofNat (128 + n / 4096 % 64), UInt8.ofNat (128 + n / 64 % 64), UInt8.ofNat (128 + n % 64)]
def joinM : List Nat → Option (List UInt8)
  | [] => some []
  | u :: r => if 65535 < u ∨ (56320 ≤ u ∧ u ≤ 57343) then none
    else if 55296 ≤ u ∧ u < 56320 then match r with
      | [] => none
      | v :: r => if v < 56320 ∨ 57343 < v then none else (joinM r).map (encM (65536 + 1024 * (u - 55296) + (v - 56320)) ++ ·)
    else (joinM r).map (encM u ++ ·)
structure Sd where
  b : List UInt8
  u : List Nat
  ok : Bool
def flushM (q : Sd) : Sd := ⟨q.b ++ (joinM q.u).getD [], [], q.ok && (joinM q.u).isSome⟩
def Sd.put (q : Sd) (c : UInt8) : Sd := ⟨(flushM q).b ++ [c], [], (flushM q).ok⟩
def escL : List UInt8 := [34, 92, 47, 98, 102, 110, 114, 116]
def escV : List UInt8 := [34, 92, 47, 8, 12, 10, 13, 9]
def escM (q : Sd) : List UInt8 → Option (Sd × List UInt8)
  | [] => none
  | c :: t => if c = 117 then (unitM t).map fun u => (⟨q.b, q.u ++ [u], q.ok⟩, t.drop 4)
    else if Lib.indexByte escL c < 0 then none else some (q.put (escV.getD (Lib.indexByte escL c).toNat 0), t)
def quoG (may : UInt8 → Bool) : Nat → List UInt8 → Sd → Option (Sd × List UInt8)
  | 0, _, _ => none
  | _ + 1, [], _ => none
  | n + 1, c :: t, q => if c = 34 then some (flushM q, t)
    else if c = 92 then match escM q t with
      | none => none
      | some (q', t') => quoG may n t' q'
    else if may c then quoG may n t (q.put c) else none
def quoM (may : UInt8 → Bool) (t : List UInt8) : Option (List UInt8 × List UInt8) := match quoG may (t.length + 1) t ⟨[], [], true⟩ with
  | some (q, t') => if q.ok then some (q.b, t') else none
  | none => none
def hiB (c : UInt8) : Bool := decide (32 ≤ c.toNat)
def bk (c : UInt8) : Bool := decide (0 ≤ Lib.indexByte [9, 10, 13, 32] c)
def skB : List UInt8 → List UInt8
  | [] => []
  | c :: t => if bk c then skB t else c :: t
abbrev RR (α : Type) := Except Int (α × List UInt8)
def RR.bind {α β : Type} (x : RR α) (f : α → List UInt8 → RR β) : RR β := match x with
  | .ok (a, t) => f a t
  | .error e => .error e
def mayM (p t : List UInt8) : Option (List UInt8) := if p.isPrefixOf (skB t) then some ((skB t).drop p.length) else none
def mustM (p t : List UInt8) : RR Unit := match mayM p t with
  | some t' => .ok ((), t')
  | none => .error 2
def textM (t : List UInt8) : RR (List UInt8) := if [34].isPrefixOf (skB t) then match quoM hiB (skB t).tail with
    | some x => .ok x
    | none => .error 2
  else .error 2
def hasN (s : List UInt8) : List Mem → Bool
  | [] => false
  | .mk t _ :: r => decide (t = s) || hasN s r
def memberM (p : List UInt8 → RR Val) (l : List Mem) (t : List UInt8) : RR (List Mem) :=
  (textM t).bind fun s t => if hasN s l then .error 5 else (mustM [58] t).bind fun _ t => (p t).bind fun v t => .ok (l ++ [.mk s v], t)
def membersM (p : List UInt8 → RR Val) : Nat → List Mem → List UInt8 → RR (List Mem)
  | 0, _, _ => .error 2
  | n + 1, l, t => match mayM [125] t with
    | some t' => .ok (l, t')
    | none => (mustM [44] t).bind fun _ t => (memberM p l t).bind fun l t => membersM p n l t
def mapM (p : List UInt8 → RR Val) (t : List UInt8) : RR Val := match mayM [125] t with
  | some t' => .ok (.mk 7 0 [] [] [], t')
  | none => (memberM p [] t).bind fun l t => (membersM p (t.length + 1) l t).bind fun l t => .ok (.mk 7 0 [] [] l, t)
end Go.Proofs.YticbbfbpeimkbaaGreatDoor
namespace Go.Proofs.YticbbfbpeimkbaaGreatDoor
open Go.Ab
def Sd.w (q : Sd) : Nat := q.b.length + 3 * q.u.length
end Go.Proofs.YticbbfbpeimkbaaGreatDoor
namespace Go.Proofs.YticbbfbpeimkbaaGreatDoor
open Go.Ab
theorem bytesOf_len (l : List UInt8) : (bytesOf l).length = l.length := by simp [bytesOf]
theorem bytesOf_app (a b : List UInt8) : bytesOf a ++ bytesOf b = bytesOf (a ++ b) := by simp [bytesOf]
theorem bytesOf_strip (l : List UInt8) : (bytesOf l).map (·.map AV.strip1) = bytesOf l := by simp [bytesOf, AV.strip1]
theorem byts_of (l : List UInt8) : byts (bytesOf l) = some l := by
  induction l with
  | nil => rfl
  | cons c r ih =>
    have h := c.toNat_lt
    simp only [bytesOf, List.map_cons] at ih ⊢
    simp only [byts, ih, Option.map_some]
    rw [if_pos ⟨by omega, by omega⟩]
    simp
theorem bytesOf_one (acc : List UInt8) (c : UInt8) : bytesOf acc ++ [[.int .u8 c.toNat]] = bytesOf (acc ++ [c]) := bytesOf_app acc [c]
theorem bytesOf_two (acc : List UInt8) (c d : UInt8) : bytesOf acc ++ [[.int .u8 c.toNat], [.int .u8 d.toNat]] = bytesOf (acc ++ [c, d]) := bytesOf_app acc [c, d]
theorem wr8 (n : Nat) : IntKind.wrap .u8 (n : Int) = ((n % 256 : Nat) : Int) := by
  have e : IntKind.wrap .u8 (n : Int) = (n : Int) % 256 := rfl
  rw [e]; omega
end Go.Proofs.YticbbfbpeimkbaaGreatDoor
namespace Go.Proofs.YticbbfbpeimkbaaGreatDoor
open Go.Ab
def cU (l : List Nat) : List (List AV) := l.map fun (n : Nat) => [AV.int .i64 (n : Int)]
theorem cU_len (l : List Nat) : (cU l).length = l.length := by simp [cU]
end Go.Proofs.YticbbfbpeimkbaaGreatDoor
namespace Go.Proofs.YticbbfbpeimkbaaGreatDoor
open Go.Ab
theorem upd_upd (H : Heap) (b : Nat) (x y : AObj) : (H.upd b x).upd b y = H.upd b y := by
  funext c; by_cases e : c = b <;> simp [Heap.upd, e]
theorem own_ne {H : Heap} {c b d n sz : Nat} {cs : List AV} (h : Owned H (.tip b d) n sz) (hc : H c = some (.cells cs)) : b ≠ c := fun e => by
  subst e
  have : H b = some (.tip (d + n) sz) := h
  rw [hc] at this; cases this
theorem own_keep {H H' : Heap} {o : Own} {n sz c : Nat} {cs : List AV} (h : Owned H o n sz) (hc : H c = some (.cells cs)) (hk : Kept H o H') : H' c = some (.cells cs) :=
  hk c _ hc fun d e => by subst e; exact own_ne h hc rfl
theorem own_upd {H : Heap} {o : Own} {n sz c : Nat} {cs : List AV} {x : AObj} (h : Owned H o n sz) (hc : H c = some (.cells cs)) : Owned (H.upd c x) o n sz := by
  cases o with
  | tip b d => have := own_ne h hc; show (H.upd c x) b = _; rw [upd_ne this]; exact h
  | no => exact h
  | nil => exact h
  | full => exact h
end Go.Proofs.YticbbfbpeimkbaaGreatDoor
namespace Go.Proofs.YticbbfbpeimkbaaGreatDoor
open Go.Ab
end Go.Proofs.YticbbfbpeimkbaaGreatDoor
namespace Go.Proofs.YticbbfbpeimkbaaGreatDoor
open Go.Ab Go.Lib
theorem getD_app {a b : List UInt8} {i : Nat} (h : i < a.length) : (a ++ b).getD i 0 = a.getD i 0 := by
  simp [List.getD, List.getElem?_append_left h]
theorem getD_at (a : List UInt8) (c : UInt8) (b : List UInt8) : (a ++ c :: b).getD a.length 0 = c := by simp
theorem check_some {n b1 b2 b3 sz lo hi k : Nat} (h : checkN n b1 b2 b3 sz lo hi = some k) :
    2 ≤ k ∧ k ≤ 4 ∧ k ≤ n ∧ k = sz ∧ lo ≤ b1 ∧ (3 ≤ k → 128 ≤ b2) ∧ (4 ≤ k → 128 ≤ b3) ∧ ∀ n' c2 c3, k ≤ n' → (3 ≤ k → c2 = b2) → (4 ≤ k → c3 = b3) → checkN n' b1 c2 c3 sz lo hi = some k := by
  unfold checkN at h
  split at h
  · rename_i hs
    split at h
    · cases h
    · rename_i hc
      cases h
      refine ⟨by omega, by omega, by omega, hs.symm, by omega, by omega, by omega, fun n' c2 c3 h1 _ _ => ?_⟩
      unfold checkN; rw [if_pos hs, if_neg (by omega)]
  · rename_i hs2
    split at h
    · rename_i hs
      split at h
      · cases h
      · rename_i hc
        cases h
        refine ⟨by omega, by omega, by omega, hs.symm, by omega, by omega, by omega, fun n' c2 c3 h1 h2 _ => ?_⟩
        have := h2 (by omega)
        unfold checkN; rw [if_neg hs2, if_pos hs, if_neg (by omega)]
    · rename_i hs3
      split at h
      · rename_i hs
        split at h
        · cases h
        · rename_i hc
          cases h
          refine ⟨by omega, by omega, by omega, hs.symm, by omega, by omega, by omega, fun n' c2 c3 h1 h2 h3 => ?_⟩
          have := h2 (by omega)
          have := h3 (by omega)
          unfold checkN; rw [if_neg hs2, if_neg hs3, if_pos hs, if_neg (by omega)]
      · cases h
theorem lo_T : ∀ x : Fin 256, 2 ≤ firstT x.val % 8 → firstT x.val % 8 ≤ 4 → 128 ≤ accLo (firstT x.val / 16) := by decide +kernel
theorem lo_ge {b : Nat} (h : b < 256) (h1 : 2 ≤ firstT b % 8) (h2 : firstT b % 8 ≤ 4) : 128 ≤ accLo (firstT b / 16) := lo_T ⟨b, h⟩ h1 h2
theorem validD_app : ∀ (n : Nat) (a b : List UInt8), a.length ≤ n → validD a = true → validD (a ++ b) = validD b
  | n, [], b, _, _ => by simp
  | 0, x :: t, b, h, _ => by simp at h
  | n + 1, x :: t, b, h, hv => by
    by_cases hx : x.toNat < 128
    · rw [validD_cons x t hx] at hv
      rw [List.cons_append, validD_cons x _ hx]
      exact validD_app n t b (by simpa using h) hv
    · have h0 : 128 ≤ ((x :: t).getD 0 0).toNat := by simp; omega
      rw [validD_lead (x :: t) (by simp) h0] at hv
      split at hv
      · cases hv
      · rename_i k hk
        obtain ⟨k2, k4, kl, ks, klo, _, _, kall⟩ := check_some hk
        have hkl : k ≤ (x :: t).length := kl
        have e1 : ((x :: t ++ b).getD 1 0) = (x :: t).getD 1 0 := getD_app (by omega)
        have e0 : ((x :: t ++ b).getD 0 0) = (x :: t).getD 0 0 := getD_app (by omega)
        rw [validD_lead (x :: t ++ b) (by simp) (by rw [e0]; exact h0), e0, e1]
        rw [kall (x :: t ++ b).length _ _ (by simp only [List.length_append]; omega) (fun h3 => by rw [getD_app (by omega)]) (fun h3 => by rw [getD_app (by omega)])]
        simp only
        rw [List.drop_append_of_le_length hkl]
        exact validD_app n _ b (by rw [List.length_drop]; omega) hv
theorem validA {a b : List UInt8} (h : validD a = true) : validD (a ++ b) = validD b := validD_app a.length a b (Nat.le_refl _) h
theorem validA2 {a b : List UInt8} (h : validD a = true) (h' : validD b = true) : validD (a ++ b) = true := (validA h).trans h'
theorem validD_split (c : UInt8) (hc : c.toNat < 128) : ∀ (n : Nat) (a b : List UInt8), a.length ≤ n → validD (a ++ c :: b) = true → validD a = true ∧ validD b = true
  | n, [], b, _, hv => by
    rw [List.nil_append, validD_cons c b hc] at hv
    exact ⟨validD_nil, hv⟩
  | 0, x :: t, b, h, _ => by simp at h
  | n + 1, x :: t, b, h, hv => by
    by_cases hx : x.toNat < 128
    · rw [List.cons_append, validD_cons x _ hx] at hv
      rw [validD_cons x t hx]
      exact validD_split c hc n t b (by simpa using h) hv
    · have h0 : 128 ≤ ((x :: t ++ c :: b).getD 0 0).toNat := by simp; omega
      have e0 : ((x :: t ++ c :: b).getD 0 0) = (x :: t).getD 0 0 := getD_app (by simp)
      have ec : ((x :: t ++ c :: b).getD (x :: t).length 0) = c := getD_at ..
      rw [validD_lead (x :: t ++ c :: b) (by simp) h0] at hv
      split at hv
      · cases hv
      · rename_i k hk
        obtain ⟨k2, k4, kl, ks, klo, k3, k4', kall⟩ := check_some hk
        have hlo := lo_ge ((x :: t ++ c :: b).getD 0 0).toNat_lt (by omega) (by omega)
        have hkl : k ≤ (x :: t).length := by
          rcases Nat.lt_or_ge (x :: t).length k with h1 | h1
          · exfalso
            have hl : (x :: t).length = 1 ∨ (x :: t).length = 2 ∨ (x :: t).length = 3 := by simp only [List.length_cons] at h1 ⊢; omega
            rcases hl with e | e | e
            · rw [e] at ec h1; rw [ec] at klo; omega
            · rw [e] at ec h1; rw [ec] at k3; have := k3 (by omega); omega
            · rw [e] at ec h1; rw [ec] at k4'; have := k4' (by omega); omega
          · exact h1
        have e1 : ((x :: t ++ c :: b).getD 1 0) = (x :: t).getD 1 0 := getD_app (by omega)
        rw [List.drop_append_of_le_length hkl] at hv
        obtain ⟨g1, g2⟩ := validD_split c hc n _ b (by rw [List.length_drop]; omega) hv
        refine ⟨?_, g2⟩
        rw [validD_lead (x :: t) (by simp) (by rw [← e0]; exact h0), ← e0, ← e1]
        rw [kall (x :: t).length _ _ hkl (fun h3 => by rw [getD_app (by omega)]) (fun h3 => by rw [getD_app (by omega)])]
        exact g1
theorem validS {c : UInt8} (hc : c.toNat < 128) {a b : List UInt8} (hv : validD (a ++ c :: b) = true) : validD a = true ∧ validD b = true := validD_split c hc a.length a b (Nat.le_refl _) hv
theorem ofN {n : Nat} (h : n < 256) : (UInt8.ofNat n).toNat = n := by rw [UInt8.toNat_ofNat']; omega
theorem enc_valid {n : Nat} (h1 : n ≤ 1114111) (h2 : ¬ (55296 ≤ n ∧ n ≤ 57343)) : validD (encM n) = true := by
  unfold encM
  split
  · rename_i h
    rw [validD_cons _ _ (by rw [ofN (by omega)]; omega)]; rfl
  · split
    · rename_i h0 h
      rw [validD_lead _ (by simp) (by simp only [List.getD_cons_zero]; rw [ofN (by omega)]; omega)]
      simp only [List.getD_cons_zero, List.getD_cons_succ, List.getD_nil, List.length_cons, List.length_nil]
      rw [ofN (show 192 + n / 64 < 256 by omega), ofN (show 128 + n % 64 < 256 by omega)]
      have e : firstT (192 + n / 64) = 2 := by unfold firstT; rw [if_neg (by omega), if_neg (by omega), if_pos (by omega)]
      rw [e]
      have e2 : checkN (0 + 1 + 1) (128 + n % 64) (0 : UInt8).toNat (0 : UInt8).toNat (2 % 8) (accLo (2 / 16)) (accHi (2 / 16)) = some 2 := by
        unfold checkN accLo accHi; simp; omega
      rw [e2]; rfl
    · split
      · rename_i h0 h1' h
        rw [validD_lead _ (by simp) (by simp only [List.getD_cons_zero]; rw [ofN (by omega)]; omega)]
        simp only [List.getD_cons_zero, List.getD_cons_succ, List.getD_nil, List.length_cons, List.length_nil]
        rw [ofN (show 224 + n / 4096 < 256 by omega), ofN (show 128 + n / 64 % 64 < 256 by omega), ofN (show 128 + n % 64 < 256 by omega)]
        have e2 : checkN (0 + 1 + 1 + 1) (128 + n / 64 % 64) (128 + n % 64) (0 : UInt8).toNat (firstT (224 + n / 4096) % 8) (accLo (firstT (224 + n / 4096) / 16)) (accHi (firstT (224 + n / 4096) / 16)) = some 3 := by
          have c : n / 4096 = 0 ∨ (1 ≤ n / 4096 ∧ n / 4096 < 13) ∨ n / 4096 = 13 ∨ (14 ≤ n / 4096 ∧ n / 4096 < 16) := by omega
          rcases c with c | c | c | c
          · rw [c]; unfold checkN; simp [firstT, accLo, accHi]; omega
          · have e : firstT (224 + n / 4096) = 3 := by unfold firstT; rw [if_neg (by omega), if_neg (by omega), if_neg (by omega), if_neg (by omega), if_pos (by omega)]
            rw [e]; unfold checkN; simp [accLo, accHi]; omega
          · rw [c]; unfold checkN; simp [firstT, accLo, accHi]; omega
          · have e : firstT (224 + n / 4096) = 3 := by unfold firstT; rw [if_neg (by omega), if_neg (by omega), if_neg (by omega), if_neg (by omega), if_neg (by omega), if_neg (by omega), if_pos (by omega)]
            rw [e]; unfold checkN; simp [accLo, accHi]; omega
        rw [e2]; rfl
      · rename_i h0 h1' h
        rw [validD_lead _ (by simp) (by simp only [List.getD_cons_zero]; rw [ofN (by omega)]; omega)]
        simp only [List.getD_cons_zero, List.getD_cons_succ, List.getD_nil, List.length_cons, List.length_nil]
        rw [ofN (show 240 + n / 262144 < 256 by omega), ofN (show 128 + n / 4096 % 64 < 256 by omega), ofN (show 128 + n / 64 % 64 < 256 by omega), ofN (show 128 + n % 64 < 256 by omega)]
        have e2 : checkN (0 + 1 + 1 + 1 + 1) (128 + n / 4096 % 64) (128 + n / 64 % 64) (128 + n % 64) (firstT (240 + n / 262144) % 8) (accLo (firstT (240 + n / 262144) / 16)) (accHi (firstT (240 + n / 262144) / 16)) = some 4 := by
          have c : n / 262144 = 0 ∨ (1 ≤ n / 262144 ∧ n / 262144 < 4) ∨ n / 262144 = 4 := by omega
          rcases c with c | c | c
          · rw [c]; unfold checkN; simp [firstT, accLo, accHi]; omega
          · have e : firstT (240 + n / 262144) = 4 := by unfold firstT; rw [if_neg (by omega), if_neg (by omega), if_neg (by omega), if_neg (by omega), if_neg (by omega), if_neg (by omega), if_neg (by omega), if_neg (by omega), if_pos (by omega)]
            rw [e]; unfold checkN; simp [accLo, accHi]; omega
          · rw [c]; unfold checkN; simp [firstT, accLo, accHi]; omega
        rw [e2]; rfl
theorem join_valid : ∀ (u : List Nat) (s : List UInt8), joinM u = some s → validD s = true
  | [], s, h => by cases h; rfl
  | u :: [], s, h => by
    simp only [joinM] at h
    split at h
    · cases h
    · rename_i h1
      split at h
      · cases h
      · simp only [Option.map_some, Option.some.injEq] at h
        subst h
        rw [List.append_nil]
        exact enc_valid (by omega) (by omega)
  | u :: v :: r, s, h => by
    rw [joinM] at h
    split at h
    · cases h
    · rename_i h1
      split at h
      · rename_i h2
        split at h
        · cases h
        · rename_i h3
          cases hr : joinM r with
          | none => simp [hr] at h
          | some x =>
            simp only [hr, Option.map_some, Option.some.injEq] at h
            subst h
            exact validA2 (enc_valid (by omega) (by omega)) (join_valid r x hr)
      · rename_i h2
        cases hr : joinM (v :: r) with
        | none => simp [hr] at h
        | some x =>
          simp only [hr, Option.map_some, Option.some.injEq] at h
          subst h
          exact validA2 (enc_valid (by omega) (by omega)) (join_valid (v :: r) x hr)
end Go.Proofs.YticbbfbpeimkbaaGreatDoor
namespace Go.Proofs.YticbbfbpeimkbaaGreatDoor
open Go.Ab
mutual
def singV : Val → Bool
  | .mk k _ _ l m => !(decide (k = 5) || decide (k = 8)) && (singVs l && singMs [] m)
def singVs : List Val → Bool
  | [] => true
  | v :: r => singV v && singVs r
def singM : Mem → Bool
  | .mk _ v => singV v
def singMs : List (List UInt8) → List Mem → Bool
  | _, [] => true
  | ns, x :: r => !(ns.contains (nmM x)) && (singM x && singMs (ns ++ [nmM x]) r)
def nmM : Mem → List UInt8
  | .mk s _ => s
end
def rightV (v : Val) : Bool := goodV v && singV v
end Go.Proofs.YticbbfbpeimkbaaGreatDoor
namespace Go.Proofs.YticbbfbpeimkbaaGreatDoor
open Go.Lib
end Go.Proofs.YticbbfbpeimkbaaGreatDoor
namespace Go.Proofs.YticbbfbpeimkbaaGreatDoor
open Go.Ab
end Go.Proofs.YticbbfbpeimkbaaGreatDoor
namespace Go.Proofs.YticbbfbpeimkbaaGreatDoor
open Go.Ab
end Go.Proofs.YticbbfbpeimkbaaGreatDoor
namespace Go.Proofs.YticbbfbpeimkbaaGreatDoor
open Go.Ab Go.Lib
structure SdOk (q : Sd) (acc : List UInt8) : Prop where
  ok : q.ok = true
  small : ∀ u ∈ q.u, u < 128
  eq : acc = q.b ++ q.u.map UInt8.ofNat
theorem join_small : ∀ u : List Nat, (∀ x ∈ u, x < 128) → joinM u = some (u.map UInt8.ofNat)
  | [], _ => rfl
  | u :: r, h => by
    have h1 := h u (.head _)
    have h2 := join_small r fun x hx => h x (.tail _ hx)
    have e : encM u = [UInt8.ofNat u] := by unfold encM; rw [if_pos (by omega)]
    cases r with
    | nil => simp only [joinM]; rw [if_neg (by omega), if_neg (by omega), e]; rfl
    | cons v r => rw [joinM, if_neg (by omega), if_neg (by omega), h2, e]; rfl
theorem SdOk.flush {q : Sd} {acc : List UInt8} (h : SdOk q acc) : flushM q = ⟨acc, [], true⟩ := by
  unfold flushM; rw [join_small _ h.small, h.ok, h.eq]; rfl
theorem SdOk.put {q : Sd} {acc : List UInt8} (h : SdOk q acc) (c : UInt8) : SdOk (q.put c) (acc ++ [c]) := by
  unfold Sd.put; rw [h.flush]; exact ⟨rfl, by simp, by simp⟩
theorem SdOk.unit {q : Sd} {acc : List UInt8} (h : SdOk q acc) {u : Nat} (hu : u < 128) : SdOk ⟨q.b, q.u ++ [u], q.ok⟩ (acc ++ [UInt8.ofNat u]) :=
  ⟨h.ok, fun x hx => by rcases List.mem_append.1 hx with e | e; exact h.small x e; simp at e; omega, by rw [h.eq]; simp⟩
end Go.Proofs.YticbbfbpeimkbaaGreatDoor
namespace Go.Proofs.YticbbfbpeimkbaaGreatDoor
open Go.Ab Go.Lib
structure SInv' (q : Sd) (t : List UInt8) : Prop where
  none : q.u = [] → validD (q.b ++ t) = true
  some : q.u ≠ [] → validD q.b = true ∧ validD t = true
theorem flush_b {q : Sd} (h : validD q.b = true) : validD (flushM q).b = true := by
  unfold flushM
  cases hj : joinM q.u with
  | none => simpa using h
  | some s => exact validA2 h (join_valid _ _ hj)
theorem flush_nil {q : Sd} (h : q.u = []) : (flushM q).b = q.b := by unfold flushM; rw [h]; simp [joinM]
theorem SInv'.low {q : Sd} {c : UInt8} {t : List UInt8} (h : SInv' q (c :: t)) (hc : c.toNat < 128) : validD q.b = true ∧ validD t = true := by
  by_cases hu : q.u = []
  · exact validS hc (h.none hu)
  · obtain ⟨h1, h2⟩ := h.some hu
    rw [validD_cons c t hc] at h2
    exact ⟨h1, h2⟩
theorem SInv'.put {q : Sd} {c : UInt8} {t : List UInt8} (h : SInv' q (c :: t)) : SInv' (q.put c) t := by
  refine ⟨fun _ => ?_, fun e => absurd rfl e⟩
  show validD (((flushM q).b ++ [c]) ++ t) = true
  rw [List.append_assoc]
  by_cases hu : q.u = []
  · rw [flush_nil hu]; exact h.none hu
  · obtain ⟨h1, h2⟩ := h.some hu
    exact validA2 (flush_b h1) h2
def LR (n : Int) (l : List Val) : Prop := ∀ v ∈ l, rightV v = true ∧ depthV v ≤ n
theorem LR.all {n : Int} : ∀ {l : List Val}, LR n l → allVs validD l = true ∧ singVs l = true
  | [], _ => ⟨rfl, rfl⟩
  | v :: l, h => by
    have h1 := LR.all (l := l) fun x hx => h x (.tail _ hx)
    have h2 := (h v (.head _)).1
    simp only [rightV, goodV, Bool.and_eq_true] at h2
    simp [allVs, singVs, h1.1, h1.2, h2.1, h2.2]
end Go.Proofs.YticbbfbpeimkbaaGreatDoor
namespace Go.Proofs.YticbbfbpeimkbaaGreatDoor
open Go.Ab
def codeN (l : List UInt8) : Nat × Nat := if l = [] then (0, 0) else if Lib.decodeL l = (65533, 1) then (0, 0) else Lib.decodeL l
def cv (v0 : Nat) (b : Nat → Nat) : Nat → Nat
  | 0 => v0
  | j + 1 => cv v0 b j * 64 + b (j + 1) % 64
end Go.Proofs.YticbbfbpeimkbaaGreatDoor
namespace Go.Proofs.YticbbfbpeimkbaaGreatDoor
open Go.Ab
theorem codeN_good {l : List UInt8} (hne : l ≠ []) (h : (codeN l).2 ≠ 0) : Lib.validD l = Lib.validD (l.drop (codeN l).2) ∧ (codeN l).2 ≤ l.length := by
  unfold codeN at h ⊢
  rw [if_neg hne] at h ⊢
  split at h
  · simp at h
  · rename_i e
    rw [if_neg e]
    refine ⟨?_, Lib.decodeL_le l hne⟩
    rw [Lib.validD_step l hne, if_neg]
    rintro ⟨a, b⟩
    exact e (Prod.ext a b)
end Go.Proofs.YticbbfbpeimkbaaGreatDoor
namespace Go.Proofs.YticbbfbpeimkbaaGreatDoor
open Go.Ab Go.Lib
end Go.Proofs.YticbbfbpeimkbaaGreatDoor
namespace Go.Proofs.YticbbfbpeimkbaaGreatDoor
open Go.Ab
end Go.Proofs.YticbbfbpeimkbaaGreatDoor
namespace Go.Proofs.YticbbfbpeimkbaaGreatDoor
open Go.Ab Go.Lib
end Go.Proofs.YticbbfbpeimkbaaGreatDoor
namespace Go.Proofs.YticbbfbpeimkbaaGreatDoor
open Go.Ab Go.Lib
structure DecOk (l : List UInt8) (c k : Nat) : Prop where
  enc : encM c = l.take k
  le : c ≤ 1114111
  pos : 1 ≤ k
  len : k ≤ l.length
  one : k = 1 → c = (l.getD 0 0).toNat ∧ (l.getD 0 0).toNat < 128
  high : k ≠ 1 → ∀ x ∈ l.take k, 128 ≤ x.toNat
theorem ofN_eq {n : Nat} {b : UInt8} (h : n = b.toNat) : UInt8.ofNat n = b := UInt8.toNat_inj.1 (by rw [UInt8.toNat_ofNat', h]; have := b.toNat_lt; omega)
theorem dec_two {b0 b1 : UInt8} {t : List UInt8} (h0 : b0.toNat / 32 = 6) (h1 : b1.toNat / 64 = 2) (hc : 128 ≤ b0.toNat % 32 * 64 + b1.toNat % 64) : DecOk (b0 :: b1 :: t) (b0.toNat % 32 * 64 + b1.toNat % 64) 2 := by
  refine ⟨?_, by omega, by omega, by simp, fun h => by omega, fun _ x hx => ?_⟩
  · unfold encM
    rw [if_neg (by omega), if_pos (by omega)]
    simp only [List.take_succ_cons, List.take_zero, List.cons.injEq, and_true]
    exact ⟨ofN_eq (by omega), ofN_eq (by omega)⟩
  · simp only [List.take_succ_cons, List.take_zero, List.mem_cons, List.not_mem_nil, or_false] at hx
    rcases hx with rfl | rfl <;> omega
theorem dec_three {b0 b1 b2 : UInt8} {t : List UInt8} (h0 : b0.toNat / 16 = 14) (h1 : b1.toNat / 64 = 2) (h2 : b2.toNat / 64 = 2) (hc : 2048 ≤ b0.toNat % 16 * 4096 + b1.toNat % 64 * 64 + b2.toNat % 64) :
    DecOk (b0 :: b1 :: b2 :: t) (b0.toNat % 16 * 4096 + b1.toNat % 64 * 64 + b2.toNat % 64) 3 := by
  refine ⟨?_, by omega, by omega, by simp, fun h => by omega, fun _ x hx => ?_⟩
  · unfold encM
    rw [if_neg (by omega), if_neg (by omega), if_pos (by omega)]
    simp only [List.take_succ_cons, List.take_zero, List.cons.injEq, and_true]
    exact ⟨ofN_eq (by omega), ofN_eq (by omega), ofN_eq (by omega)⟩
  · simp only [List.take_succ_cons, List.take_zero, List.mem_cons, List.not_mem_nil, or_false] at hx
    rcases hx with rfl | rfl | rfl <;> omega
theorem dec_four {b0 b1 b2 b3 : UInt8} {t : List UInt8} (h0 : b0.toNat / 8 = 30) (h1 : b1.toNat / 64 = 2) (h2 : b2.toNat / 64 = 2) (h3 : b3.toNat / 64 = 2)
    (hc : 65536 ≤ b0.toNat % 8 * 262144 + b1.toNat % 64 * 4096 + b2.toNat % 64 * 64 + b3.toNat % 64) (hd : b0.toNat % 8 * 262144 + b1.toNat % 64 * 4096 + b2.toNat % 64 * 64 + b3.toNat % 64 ≤ 1114111) :
    DecOk (b0 :: b1 :: b2 :: b3 :: t) (b0.toNat % 8 * 262144 + b1.toNat % 64 * 4096 + b2.toNat % 64 * 64 + b3.toNat % 64) 4 := by
  refine ⟨?_, by omega, by omega, by simp, fun h => by omega, fun _ x hx => ?_⟩
  · unfold encM
    rw [if_neg (by omega), if_neg (by omega), if_neg (by omega)]
    simp only [List.take_succ_cons, List.take_zero, List.cons.injEq, and_true]
    exact ⟨ofN_eq (by omega), ofN_eq (by omega), ofN_eq (by omega), ofN_eq (by omega)⟩
  · simp only [List.take_succ_cons, List.take_zero, List.mem_cons, List.not_mem_nil, or_false] at hx
    rcases hx with rfl | rfl | rfl | rfl <;> omega
theorem dec_ok {l : List UInt8} (hne : l ≠ []) (h : decodeL l ≠ (65533, 1)) : DecOk l (decodeL l).1 (decodeL l).2 := by
  rw [decodeL_N] at h ⊢
  obtain ⟨b0, t, rfl⟩ : ∃ b0 t, l = b0 :: t := by cases l with | nil => exact absurd rfl hne | cons a b => exact ⟨a, b, rfl⟩
  simp only [List.getD_cons_zero, List.getD_cons_succ] at h ⊢
  unfold decodeN at h ⊢
  split at h
  · rename_i h0
    rw [if_pos h0]
    refine ⟨?_, by simp only; omega, by simp, by simp, fun _ => ⟨by simp, by simpa using h0⟩, fun h => absurd rfl h⟩
    simp only
    unfold encM
    rw [if_pos (by omega)]
    simp only [List.take_succ_cons, List.take_zero, List.cons.injEq, and_true]
    exact ofN_eq rfl
  · rename_i h0
    rw [if_neg h0]
    split at h
    · rename_i h1
      rw [if_pos h1]
      split at h
      · rename_i h2
        rw [if_pos h2]
        obtain ⟨b1, t, rfl⟩ : ∃ b1 r, t = b1 :: r := by cases t with | nil => simp at h1 | cons a b => exact ⟨a, b, rfl⟩
        exact dec_two h1.1 (by simpa using h1.2.2) (by simpa using h2)
      · exact absurd rfl h
    · rename_i h1
      rw [if_neg h1]
      split at h
      · rename_i h2
        rw [if_pos h2]
        split at h
        · rename_i h3
          rw [if_pos h3]
          obtain ⟨b1, t, rfl⟩ : ∃ b1 r, t = b1 :: r := by cases t with | nil => simp at h2 | cons a b => exact ⟨a, b, rfl⟩
          obtain ⟨b2, t, rfl⟩ : ∃ b2 r, t = b2 :: r := by cases t with | nil => simp at h2 | cons a b => exact ⟨a, b, rfl⟩
          exact dec_three h2.1 (by simpa using h2.2.1.2) (by simpa using h2.2.2.2) (by simpa using h3.1)
        · exact absurd rfl h
      · rename_i h2
        rw [if_neg h2]
        split at h
        · rename_i h3
          rw [if_pos h3]
          split at h
          · rename_i h4
            rw [if_pos h4]
            obtain ⟨b1, t, rfl⟩ : ∃ b1 r, t = b1 :: r := by cases t with | nil => simp at h3 | cons a b => exact ⟨a, b, rfl⟩
            obtain ⟨b2, t, rfl⟩ : ∃ b2 r, t = b2 :: r := by cases t with | nil => simp at h3 | cons a b => exact ⟨a, b, rfl⟩
            obtain ⟨b3, t, rfl⟩ : ∃ b3 r, t = b3 :: r := by cases t with | nil => simp at h3 | cons a b => exact ⟨a, b, rfl⟩
            exact dec_four h3.1 (by simpa using h3.2.1.2) (by simpa using h3.2.2.1.2) (by simpa using h3.2.2.2.2) (by simpa using h4.1) (by have := h4.2; simp at this ⊢; omega)
          · exact absurd rfl h
        · exact absurd rfl h
theorem code_ok {l : List UInt8} (hne : l ≠ []) (hv : validD l = true) : DecOk l (codeN l).1 (codeN l).2 ∧ validD (l.drop (codeN l).2) = true := by
  rw [validD_step l hne] at hv
  split at hv
  · cases hv
  · rename_i h
    have h' : decodeL l ≠ (65533, 1) := fun e => h ⟨by rw [e], by rw [e]⟩
    have e : codeN l = decodeL l := by unfold codeN; rw [if_neg hne, if_neg h']
    rw [e]
    exact ⟨dec_ok hne h', hv⟩
end Go.Proofs.YticbbfbpeimkbaaGreatDoor
namespace Go.Proofs.YticbbfbpeimkbaaGreatDoor
open Go.Ab Go.Lib
end Go.Proofs.YticbbfbpeimkbaaGreatDoor
namespace Go.Proofs.YticbbfbpeimkbaaGreatDoor
open Go.Ab Go.Lib
def dotsT : List UInt8 := [46, 46, 46]
def marksT : List UInt8 := [33, 36, 38, 40, 41, 58, 61, 64, 91, 93, 123, 124, 125]
def isMark : List UInt8 → Bool
  | [c] => decide (0 ≤ Lib.indexByte marksT c)
  | _ => false
def rightK (t : Tok) : Bool := if t.k = 1 then decide (t.s = dotsT) || isMark t.s else if t.k = 2 then nameM t.s else if t.k = 3 ∨ t.k = 4 then decide (numK t.s = t.k) else if t.k = 5 then validD t.s else false
def unitT (u : Nat) : List UInt8 := [92, 117, hexL.getD (u / 4096 % 16) 0, hexL.getD (u / 256 % 16) 0, hexL.getD (u / 16 % 16) 0, hexL.getD (u % 16) 0]
def pieceT (c : Nat) (bs : List UInt8) : List UInt8 :=
  if c = 34 ∨ c = 92 then [92, UInt8.ofNat c] else if c = 10 then [92, 110] else if c < 32 then unitT c
  else if 65536 ≤ c then unitT (55296 + (c - 65536) / 1024) ++ unitT (56320 + (c - 65536) % 1024) else bs
def tquoG : Nat → List UInt8 → List UInt8
  | 0, _ => []
  | n + 1, l => if l = [] then [] else pieceT (codeN l).1 (l.take (codeN l).2) ++ tquoG n (l.drop (codeN l).2)
def tquo (s : List UInt8) : List UInt8 := 34 :: (tquoG s.length s ++ [34])
def tokT (t : Tok) : List UInt8 := if t.k = 5 then tquo t.s else t.s
def tjoin (l : List Tok) : List UInt8 := Lib.join (l.map tokT) [32]
def tprint (l : List Tok) : List UInt8 × Bool := if l.all rightK then (tjoin l, true) else ([], false)
def isBl (c : UInt8) : Bool := decide (c = 9) || decide (c = 32)
def leadN (s : List UInt8) : Nat := (s.takeWhile isBl).length
def bareL (s : List UInt8) : Bool := s.all isBl
def indG : List (List UInt8) → Int → Int
  | [], a => a
  | s :: r, a => indG r (if bareL s then a else if a < 0 ∨ (leadN s : Int) < a then leadN s else a)
def indM (l : List (List UInt8)) : Int := indG l.tail (-1)
end Go.Proofs.YticbbfbpeimkbaaGreatDoor
namespace Go.Proofs.YticbbfbpeimkbaaGreatDoor
open Go.Ab Go.Lib
theorem decGo (s : List UInt8) : decodeGo ⟨s.toArray⟩ = if s = [] then (65533, 0) else decodeL s := by
  unfold decodeGo
  cases s with
  | nil => rfl
  | cons c r => rw [if_neg (by simp [ByteArray.size]), if_neg (by simp)]; rfl
theorem decodeC (s : List UInt8) : Pure Tryz.prog 272 [.str s] (.tup [.int .i32 ((if s = [] then (65533, 0) else decodeL s : Nat × Nat).1), .int .i64 ((if s = [] then (65533, 0) else decodeL s : Nat × Nat).2)]) := by
  refine Pure.of_below fun γ w vs ht hv => ?_
  rw [arg_str hv]
  have h := Tryz.utf8_DecodeRuneInString ⟨s.toArray⟩ w (utf8Tabs ht)
  rw [decGo] at h
  exact Calls.mono h fun e w' ⟨he, hb⟩ => ⟨hb, _, he, rep_two (.int _ _) (.int _ _)⟩
theorem joinX : Go.Proofs.Builder.Extra Tryz.prog Tryz.lays156_ren where
  sizeBuilder := by kernel_rfl
  liesBuilder := by kernel_rfl
  t5 := Tryz.underlying5
  a5 := Tryz.isAgg5
  z5 := Tryz.sizeOf5
  v5 := Tryz.zeroValue5
  infoByte := by kernel_rfl
  cellsByte := by kernel_rfl
  sizeByte := by kernel_rfl
  neB5 := by decide
theorem joinStrC (l : List (List UInt8)) (sep : List UInt8) (hl : (Lib.join l sep).length ≤ 140737488355328) (hn : l.length ≤ 140737488355328) : Pure Tryz.prog 121 [.sl .no 1 (cT l), .str sep] (.str (Lib.join l sep)) := by
  refine Pure.of_below fun γ w vs ht hv => ?_
  obtain ⟨hlv, hr⟩ := hv
  match vs, hlv with
  | [v, u], _ =>
    have h0 := hr 0 _ _ rfl rfl
    cases hr 1 _ _ rfl rfl
    generalize hx : cT l = xs at h0
    cases h0 with
    | slnil _ _ ho =>
      have : l = [] := by cases l with | nil => rfl | cons a b => simp [cT] at hx
      subst this
      exact (Any.strings_Join_none Tryz.lays156 joinX none 0 ⟨sep.toArray⟩ w).mono fun e w' ⟨he, hw⟩ => ⟨by rw [hw]; exact RowKit.Below.refl _ _, _, he, .str _⟩
    | sl0 _ _ a ho =>
      have : l = [] := by cases l with | nil => rfl | cons a b => simp [cT] at hx
      subst this
      exact (Any.strings_Join_none Tryz.lays156 joinX (some a) 0 ⟨sep.toArray⟩ w).mono fun e w' ⟨he, hw⟩ => ⟨by rw [hw]; exact RowKit.Below.refl _ _, _, he, .str _⟩
    | sl _ _ _ b off cap cv hc hm hu hcell hrr ho =>
      subst hx
      have hcl := cT_len l
      cases hl0 : l with
      | nil =>
        subst hl0
        exact (Any.strings_Join_none Tryz.lays156 joinX (some ⟨b, off, none⟩) cap ⟨sep.toArray⟩ w).mono fun e w' ⟨he, hw⟩ => ⟨by rw [hw]; exact RowKit.Below.refl _ _, _, he, .str _⟩
      | cons x0 r0 =>
        have hcells : ∀ (j : Nat) x, (l.map fun s => (⟨s.toArray⟩ : ByteArray))[j]? = some x → w.cell? ⟨b, off + j, none⟩ = some (.string x) := fun j x hj => by
          rw [List.getElem?_map, Option.map_eq_some_iff] at hj
          obtain ⟨s, h1, rfl⟩ := hj
          have g1 : (cT l)[j]? = some [.str s] := by simp [cT, h1]
          have h2 := hcell j _ g1 0 (by decide)
          have h3 := hrr j _ g1 0 (.str s) rfl
          have e : off + (j * 1 + 0) = off + j := by omega
          rw [e] at h2
          generalize cv j 0 = y at h2 h3
          cases h3
          exact h2.1
        have hbk : b < w.heap.size := by
          have := hcells 0 ⟨x0.toArray⟩ (by rw [hl0]; rfl)
          exact World.block_lt_of_cell? w _ this
        have hmap : (l.map fun s => (⟨s.toArray⟩ : ByteArray)).map (·.data.toList) = l := by
          rw [List.map_map]; exact (List.map_congr_left (g := id) fun s _ => by simp).trans (List.map_id l)
        have h := Any.strings_Join Tryz.lays156 joinX b off cap (l.map fun s => (⟨s.toArray⟩ : ByteArray)) ⟨sep.toArray⟩ w hcells hbk (by simpa using hn) (by rw [List.length_map]; omega) (by rw [hmap]; exact hl)
        rw [List.length_map, hmap] at h
        rw [← hl0, hcl]
        exact h.mono fun e w' ⟨he, hb⟩ => ⟨hb, _, he, .str _⟩
theorem codeC (s : List UInt8) (i : Nat) (hi : i < s.length) (hs : s.length ≤ Lim) : Pure Tryz.prog 210 [.str s, .int .i64 i] (.tup [.int .i64 (codeN (s.drop i)).1, .int .i64 (codeN (s.drop i)).2]) := by
  refine Pure.go ir210 ck210 (Nat.le_refl _) fun KP Q hQ => ?_
  simp only [Lim] at hs
  have hne : s.drop i ≠ [] := fun e => by have := congrArg List.length e; simp at this; omega
  have h1 : ¬ ((i : Int) < 0) := by omega
  have h2 : ¬ ((s.length : Int) ≤ i) := by omega
  have h3 : ((i : Int) ≤ s.length) = True := eq_true (by omega)
  simp (disch := first | omega | assumption) only [ir210, h1, h2, h3, go_sem, ↓reduceIte]
  refine goK_pure (decodeC (s.drop i)) ?_
  have hw := decodeL_width (s.drop i)
  have hr := decodeL_rune (s.drop i)
  unfold codeN at hQ
  simp only [hne, if_false] at hQ ⊢
  generalize decodeL (s.drop i) = x at *
  obtain ⟨c, k⟩ := x
  simp only at hw hr hQ
  have e : IntKind.wrap .i64 (c : Int) = c := wrap64 (by omega) (by omega)
  by_cases hc : c = 65533
  · have g1 : ((c : Int) = 65533) = True := eq_true (by omega)
    by_cases hk : k < 2
    · have g2 : ((k : Int) < 2) = True := eq_true (by omega)
      have e1 : (c, k) = (65533, 1) := by rw [hc]; congr 1; omega
      rw [if_pos e1] at hQ
      simp (disch := first | omega | assumption) only [g1, g2, go_sem, ↓reduceIte]
      exact hQ _ _ _ _ nofun rfl (by simp [tupOf, envOf, AV.strip, AV.strip1])
    · have g2 : ¬ ((k : Int) < 2) := by omega
      have e1 : ¬ ((c, k) = (65533, 1)) := fun h => by cases h; omega
      rw [if_neg e1] at hQ
      simp (disch := first | omega | assumption) only [g1, g2, e, go_sem, ↓reduceIte]
      exact hQ _ _ _ _ nofun rfl (by simp [tupOf, envOf, AV.strip, AV.strip1])
  · have g1 : ¬ ((c : Int) = 65533) := by omega
    have e1 : ¬ ((c, k) = (65533, 1)) := fun h => by cases h; omega
    rw [if_neg e1] at hQ
    simp (disch := first | omega | assumption) only [g1, e, go_sem, ↓reduceIte]
    exact hQ _ _ _ _ nofun rfl (by simp [tupOf, envOf, AV.strip, AV.strip1])
def unitsG : Nat → List UInt8 → List Nat
  | 0, _ => []
  | n + 1, l => if l = [] then [] else (if 65536 ≤ (codeN l).1 then [55296 + ((codeN l).1 - 65536) / 1024, 56320 + ((codeN l).1 - 65536) % 1024] else [(codeN l).1]) ++ unitsG n (l.drop (codeN l).2)
theorem unitsG_nil (n : Nat) : unitsG n [] = [] := by cases n <;> simp [unitsG]
theorem unitsG_fuel : ∀ (n m : Nat) (l : List UInt8), l.length ≤ n → l.length ≤ m → validD l = true → unitsG n l = unitsG m l
  | 0, m, l, h, _, _ => by rw [List.length_eq_zero_iff.1 (by omega : l.length = 0), unitsG_nil, unitsG_nil]
  | n, 0, l, _, h, _ => by rw [List.length_eq_zero_iff.1 (by omega : l.length = 0), unitsG_nil, unitsG_nil]
  | n + 1, m + 1, l, h1, h2, hv => by
    by_cases hne : l = []
    · subst hne; rw [unitsG_nil, unitsG_nil]
    · obtain ⟨hd, hv2⟩ := code_ok hne hv
      have := hd.pos
      have := hd.len
      simp only [unitsG, hne, if_false]
      rw [unitsG_fuel n m _ (by simp; omega) (by simp; omega) hv2]
theorem tdiv1024 (n : Nat) : ((n : Int)).tdiv 1024 = ((n / 1024 : Nat) : Int) := by rw [Int.tdiv_eq_ediv_of_nonneg (by omega)]; omega
theorem tmod1024 (n : Nat) : ((n : Int)).tmod 1024 = ((n % 1024 : Nat) : Int) := by rw [Int.tmod_eq_emod_of_nonneg (by omega)]; omega
theorem unitsC (s : List UInt8) (hv : validD s = true) (hs : s.length ≤ Lim) : Pure Tryz.prog 211 [.str s] (.tup [.sl .no 1 (cU (unitsG s.length s)), .bool true]) := by
  refine Pure.go ir211 ck211 (Nat.le_refl _) fun KP Q hQ => ?_
  have hs' := hs
  simp only [Lim] at hs
  simp (disch := first | omega | assumption) only [ir211, go_sem, ↓reduceIte]
  refine goL_st (fun x : Own × List Nat × Nat => [(4, .sl x.1 1 (cU x.2.1)), (5, .int .i64 x.2.2)])
    (fun x H => x.2.2 ≤ s.length ∧ x.2.1.length ≤ 2 * x.2.2 ∧ unitsG s.length s = x.2.1 ++ unitsG (s.drop x.2.2).length (s.drop x.2.2) ∧ validD (s.drop x.2.2) = true ∧ OwnS Heap.emp .nil H x.1 x.2.1.length 1) (fun x => s.length - x.2.2) (.nil, [], 0) (by simp (disch := first | omega | assumption) only [cU, go_sem, ↓reduceIte]) ⟨by simp, by simp, by simp, by simpa using hv, OwnS.refl rfl⟩ ?_
  rintro ⟨o, acc, i⟩ H J ⟨hi, hai, hc, hv, hs1⟩ hJ
  simp only at hi hai hc hv hs1
  by_cases hlt : i < s.length
  case neg =>
    have hlt' : ¬ (i : Int) < s.length := by omega
    rw [List.drop_of_length_le (by omega)] at hc
    rw [unitsG_nil, List.append_nil] at hc
    simp (disch := first | omega | assumption) only [hlt', go_sem, ↓reduceIte]
    exact hQ _ _ _ _ nofun rfl (by simp [tupOf, envOf, AV.strip, AV.strip1, hc])
  have hlt' : (i : Int) < s.length := by omega
  have hne : s.drop i ≠ [] := fun e => by have := congrArg List.length e; simp at this; omega
  have hcl := cU_len acc
  obtain ⟨hd, hv2⟩ := code_ok hne hv
  have hp := hd.pos
  have hle := hd.len
  have hmax := hd.le
  have hst : unitsG (s.drop i).length (s.drop i) = (if 65536 ≤ (codeN (s.drop i)).1 then [55296 + ((codeN (s.drop i)).1 - 65536) / 1024, 56320 + ((codeN (s.drop i)).1 - 65536) % 1024] else [(codeN (s.drop i)).1]) ++ unitsG ((s.drop i).drop (codeN (s.drop i)).2).length ((s.drop i).drop (codeN (s.drop i)).2) := by
    obtain ⟨n, hn⟩ : ∃ n, (s.drop i).length = n + 1 := ⟨(s.drop i).length - 1, by omega⟩
    rw [hn, unitsG, if_neg hne, unitsG_fuel n _ _ (by simp at hn ⊢; omega) (Nat.le_refl _) hv2]
  simp (disch := first | omega | assumption) only [hlt', go_sem, ↓reduceIte]
  refine goK_pure (codeC s i hlt hs') ?_
  rw [hst] at hc
  rw [List.drop_drop] at hc hv2
  rw [List.length_drop] at hle
  generalize (codeN (s.drop i)).1 = c at *
  generalize (codeN (s.drop i)).2 = k at *
  have h0' : ¬ ((k : Int) = 0) := by omega
  by_cases hc6 : 65536 ≤ c
  · have g : ((65536 : Int) ≤ c) = True := eq_true (by omega)
    have w1 : IntKind.wrap .i64 ((c : Int) - 65536) = ((c - 65536 : Nat) : Int) := by rw [wrap64 (by omega) (by omega)]; omega
    have w2 : IntKind.wrap .i64 (((c - 65536) / 1024 : Nat) : Int) = (((c - 65536) / 1024 : Nat) : Int) := wrap64 (by omega) (by omega)
    have w3 : IntKind.wrap .i64 (55296 + (((c - 65536) / 1024 : Nat) : Int)) = ((55296 + (c - 65536) / 1024 : Nat) : Int) := by rw [wrap64 (by omega) (by omega)]; omega
    have w4 : IntKind.wrap .i64 (56320 + (((c - 65536) % 1024 : Nat) : Int)) = ((56320 + (c - 65536) % 1024 : Nat) : Int) := by rw [wrap64 (by omega) (by omega)]; omega
    rw [if_pos hc6] at hc
    simp (disch := first | omega | assumption) only [h0', g, w1, tdiv1024, tmod1024, w2, w3, w4, go_sem, ↓reduceIte]
    refine goP_ownS (by rw [hcl]; exact hs1.own) (by simp only [hcl, List.length_cons, List.length_nil]; omega) (by simp only [hcl, List.length_cons, List.length_nil, maxLen]; omega) fun o' H' hs2 => ?_
    simp (disch := first | omega | assumption) only [wrap64, go_sem, ↓reduceIte]
    exact goJ (hJ (o', acc ++ [55296 + (c - 65536) / 1024, 56320 + (c - 65536) % 1024], i + k) H' (by simp only; omega) ⟨by simp only; omega, by simp; omega, by rw [hc]; simp, hv2, hs1.trans (by simpa [hcl] using hs2)⟩) (by simp (disch := first | omega | assumption) only [cU, List.map_append, Int.natCast_add, go_sem, ↓reduceIte])
  · have g : ¬ ((65536 : Int) ≤ c) := by omega
    rw [if_neg hc6] at hc
    simp (disch := first | omega | assumption) only [h0', g, go_sem, ↓reduceIte]
    refine goP_ownS (by rw [hcl]; exact hs1.own) (by simp only [hcl, List.length_cons, List.length_nil]; omega) (by simp only [hcl, List.length_cons, List.length_nil, maxLen]; omega) fun o' H' hs2 => ?_
    simp (disch := first | omega | assumption) only [wrap64, go_sem, ↓reduceIte]
    exact goJ (hJ (o', acc ++ [c], i + k) H' (by simp only; omega) ⟨by simp only; omega, by simp; omega, by rw [hc]; simp, hv2, hs1.trans (by simpa [hcl] using hs2)⟩) (by simp (disch := first | omega | assumption) only [cU, List.map_append, Int.natCast_add, go_sem, ↓reduceIte])
end Go.Proofs.YticbbfbpeimkbaaGreatDoor
namespace Go.Proofs.YticbbfbpeimkbaaGreatDoor
open Go.Ab Go.Lib
theorem decN_pref {n n' b0 b1 b2 b3 c1 c2 c3 c k : Nat} (h : decodeN n b0 b1 b2 b3 = (c, k)) (hv : (c, k) ≠ (65533, 1)) (hn : k ≤ n') (h1 : 1 < k → c1 = b1) (h2 : 2 < k → c2 = b2) (h3 : 3 < k → c3 = b3) : decodeN n' b0 c1 c2 c3 = (c, k) := by
  unfold decodeN at h
  split at h
  · rename_i h0
    unfold decodeN
    rw [if_pos h0, h]
  rename_i h0
  split at h
  · rename_i hA
    split at h
    · rename_i hB
      cases h
      unfold decodeN
      rw [if_neg h0, h1 (by decide), if_pos ⟨hA.1, by omega, hA.2.2⟩, if_pos hB]
    · exact absurd h.symm hv
  rename_i hA
  split at h
  · rename_i hB
    split at h
    · rename_i hC
      cases h
      unfold decodeN
      rw [if_neg h0, h1 (by decide), h2 (by decide), if_neg (by omega), if_pos ⟨hB.1, ⟨by omega, hB.2.1.2⟩, by omega, hB.2.2.2⟩, if_pos hC]
    · exact absurd h.symm hv
  rename_i hB
  split at h
  · rename_i hC
    split at h
    · rename_i hD
      cases h
      unfold decodeN
      rw [if_neg h0, h1 (by decide), h2 (by decide), h3 (by decide), if_neg (by omega), if_neg (by omega), if_pos ⟨hC.1, ⟨by omega, hC.2.1.2⟩, ⟨by omega, hC.2.2.1.2⟩, by omega, hC.2.2.2.2⟩, if_pos hD]
    · exact absurd h.symm hv
  · exact absurd h.symm hv
theorem codeN_dec {l : List UInt8} (hne : l ≠ []) (h : (codeN l).2 ≠ 0) : codeN l = decodeL l ∧ decodeL l ≠ (65533, 1) := by
  unfold codeN at h ⊢
  rw [if_neg hne] at h ⊢
  split at h
  · exact absurd rfl h
  · rename_i h2; rw [if_neg h2]; exact ⟨rfl, h2⟩
theorem codeN_pref {l : List UInt8} (hne : l ≠ []) (h : (codeN l).2 ≠ 0) (t : List UInt8) : codeN (l.take (codeN l).2 ++ t) = codeN l := by
  obtain ⟨e, hv⟩ := codeN_dec hne h
  have hk := decodeL_le l hne
  rw [e]
  generalize hd : decodeL l = x at *
  obtain ⟨c, k⟩ := x
  simp only at *
  have h2 : decodeL (l.take k ++ t) = (c, k) := by
    rw [decodeL_N] at hd ⊢
    have hg : ∀ j, j < k → (l.take k ++ t).getD j 0 = l.getD j 0 := fun j hj => by
      simp only [List.getD_eq_getElem?_getD]
      rw [List.getElem?_append_left (by simp; omega), List.getElem?_take_of_lt hj]
    have hk1 : 1 ≤ k := by rw [← show (decodeL l).2 = k by rw [decodeL_N, hd]]; exact decodeL_width l
    rw [hg 0 (by omega)]
    exact decN_pref hd hv (by simp; omega) (fun hj => by rw [hg 1 hj]) (fun hj => by rw [hg 2 hj]) fun hj => by rw [hg 3 hj]
  have hne2 : l.take k ++ t ≠ [] := fun e => by
    have h3 := congrArg List.length e
    have hk1 : 1 ≤ k := by rw [← show (decodeL l).2 = k by rw [hd]]; exact decodeL_width l
    have hl : 0 < l.length := List.length_pos_iff.2 hne
    simp only [List.length_append, List.length_take, List.length_nil] at h3; omega
  unfold codeN
  rw [if_neg hne2, h2, if_neg hv]
theorem take_one {l : List UInt8} {c k : Nat} (h : DecOk l c k) (hc : c < 128) : k = 1 ∧ l.take k = [UInt8.ofNat c] ∧ (l.getD 0 0).toNat = c := by
  have e := h.enc
  have hl : (encM c).length = 1 := by unfold encM; rw [if_pos (by omega)]; rfl
  have hk : k = 1 := by
    rw [e] at hl
    have := h.len
    simp at hl; omega
  refine ⟨hk, by rw [← e]; unfold encM; rw [if_pos (by omega)], (h.one hk).1.symm⟩
end Go.Proofs.YticbbfbpeimkbaaGreatDoor
namespace Go.Proofs.YticbbfbpeimkbaaGreatDoor
open Go.Ab Go.Lib
theorem unitT_len (u : Nat) : (unitT u).length = 6 := rfl
theorem pieceT_len {l : List UInt8} {c k : Nat} (h : DecOk l c k) : (pieceT c (l.take k)).length ≤ 6 * k := by
  have hp := h.pos
  have hl := h.len
  have he := h.enc
  unfold pieceT
  split
  · simp; omega
  split
  · simp; omega
  split
  · rw [unitT_len]; omega
  split
  · have : k = 4 := by
      have e := congrArg List.length he
      unfold encM at e
      rw [if_neg (by omega), if_neg (by omega), if_neg (by omega)] at e
      simp at e; omega
    simp only [List.length_append, unitT_len]; omega
  · simp; omega
theorem tquoG_nil (n : Nat) : tquoG n [] = [] := by cases n <;> simp [tquoG]
theorem tquoG_fuel : ∀ (n m : Nat) (l : List UInt8), l.length ≤ n → l.length ≤ m → validD l = true → tquoG n l = tquoG m l
  | 0, m, l, h, _, _ => by rw [List.length_eq_zero_iff.1 (by omega : l.length = 0), tquoG_nil, tquoG_nil]
  | n, 0, l, _, h, _ => by rw [List.length_eq_zero_iff.1 (by omega : l.length = 0), tquoG_nil, tquoG_nil]
  | n + 1, m + 1, l, h1, h2, hv => by
    by_cases hne : l = []
    · subst hne; rw [tquoG_nil, tquoG_nil]
    · obtain ⟨hd, hv2⟩ := code_ok hne hv
      have := hd.pos
      have := hd.len
      simp only [tquoG, hne, if_false]
      rw [tquoG_fuel n m _ (by simp; omega) (by simp; omega) hv2]
theorem tquoG_len : ∀ (n : Nat) (l : List UInt8), validD l = true → (tquoG n l).length ≤ 6 * l.length
  | 0, l, _ => by simp [tquoG]
  | n + 1, l, hv => by
    by_cases hne : l = []
    · subst hne; simp [tquoG]
    · obtain ⟨hd, hv2⟩ := code_ok hne hv
      have h1 := pieceT_len hd
      have h2 := tquoG_len n _ hv2
      have h3 := hd.len
      simp only [tquoG, hne, if_false, List.length_append]
      simp only [List.length_drop] at h2
      omega
def tquoF (l : List UInt8) : List UInt8 := tquoG l.length l
theorem tquoF_step {l : List UInt8} (hne : l ≠ []) (hv : validD l = true) : tquoF l = pieceT (codeN l).1 (l.take (codeN l).2) ++ tquoF (l.drop (codeN l).2) := by
  obtain ⟨hd, hv2⟩ := code_ok hne hv
  have := hd.pos
  have := hd.len
  unfold tquoF
  obtain ⟨n, hn⟩ : ∃ n, l.length = n + 1 := ⟨l.length - 1, by omega⟩
  rw [hn, tquoG, if_neg hne, tquoG_fuel n _ _ (by simp; omega) (Nat.le_refl _) hv2]
theorem tquo_len (s : List UInt8) (hv : validD s = true) : (tquo s).length ≤ 6 * s.length + 2 := by
  have := tquoG_len s.length s hv
  simp only [tquo, List.length_cons, List.length_append, List.length_nil]; omega
theorem tokT_len {t : Tok} (h : rightK t = true) : (tokT t).length ≤ 6 * t.s.length + 2 := by
  unfold tokT
  split
  · rename_i h5
    unfold rightK at h
    rw [h5] at h
    exact tquo_len _ (by simpa using h)
  · omega
theorem fdN (u k : Nat) (hk : k ≤ 64) : (u : Int).fdiv (2 ^ min k IntKind.i64.bits) = ((u / 2 ^ k : Nat) : Int) := by
  have e : min k IntKind.i64.bits = k := by show min k 64 = k; omega
  rw [e, Int.fdiv_eq_ediv_of_nonneg _ (by exact_mod_cast Nat.zero_le _)]
  norm_cast
theorem tmod16 (n : Nat) : ((n : Int)).tmod 16 = ((n % 16 : Nat) : Int) := by rw [Int.tmod_eq_emod_of_nonneg (by omega)]; omega
theorem unitTC (u : Nat) (hu : u < 65536) (acc : List UInt8) (H : Heap) (o : Own) (ho : Owned H o acc.length 1) (hb : acc.length ≤ Lim) :
    Gives Tryz.prog 212 [.sl o 1 (bytesOf acc), .int .i64 u] H o 1 (bytesOf (acc ++ unitT u)) := by
  refine ACalls.goO ir212 ck212 (Nat.le_refl _) fun KP Q hQ hP => ?_
  have hal := bytesOf_len acc
  simp only [Lim] at hb
  simp (disch := first | omega | assumption) only [ir212, steps, st2, pev, rev, oev, optr, ibin, sbin, ishf, bound, mmAll, mm2, mk, mkArgs, AV.cells, AV.boxable, AV.one, AV.strip1, fillA, fillS, Nat.reduceEqDiff, reduceCtorEq, ↓reduceIte, Nat.reduceAdd, Int.reduceNeg, Nat.reduceLeDiff, Int.reduceToNat, Int.reduceEq, Int.reduceLT, Int.reduceLE, Int.reduceAdd]
  refine goP_ownS (by rw [hal]; exact ho) (by simp [hal]; omega) (by simp [hal, maxLen]; omega) fun o1 H1 hs1 => ?_
  have hs1' : OwnS H o H1 o1 (acc ++ [92, 117]).length 1 := by simpa [hal] using hs1
  have e1 : bytesOf acc ++ [[AV.int .u8 92], [AV.int .u8 117]] = bytesOf (acc ++ [92, 117]) := bytesOf_two acc 92 117
  simp (disch := first | omega | assumption) only [e1, steps, st2, pev, rev, oev, optr, ibin, sbin, ishf, bound, mmAll, mm2, mk, mkArgs, AV.cells, AV.boxable, AV.one, AV.strip1, fillA, fillS, Nat.reduceEqDiff, reduceCtorEq, ↓reduceIte, Nat.reduceAdd, Int.reduceNeg, Nat.reduceLeDiff, Int.reduceToNat, Int.reduceEq, Int.reduceLT, Int.reduceLE, Int.reduceAdd]
  refine goL_st (fun x : Nat × Own => [(0, .sl x.2 1 (bytesOf (acc ++ (unitT u).take (6 - x.1)))), (5, .int .i64 ((x.1 : Int) - 1))]) (fun x H' => x.1 ≤ 4 ∧ OwnS H o H' x.2 (acc ++ (unitT u).take (6 - x.1)).length 1) (fun x => x.1) (4, o1) (by simp (disch := first | omega | assumption) only [unitT, Int.reduceSub, steps, st2, pev, rev, oev, optr, ibin, sbin, ishf, bound, mmAll, mm2, mk, mkArgs, AV.cells, AV.boxable, AV.one, AV.strip1, fillA, fillS, Nat.reduceEqDiff, reduceCtorEq, ↓reduceIte, Nat.reduceAdd, Int.reduceNeg, Nat.reduceLeDiff, Int.reduceToNat, Int.reduceEq, Int.reduceLT, Int.reduceLE, Int.reduceAdd]) ⟨by simp, by simpa [unitT] using hs1'⟩ ?_
  rintro ⟨k, o2⟩ H2 J ⟨hk, hs⟩ hJ
  simp only at hk hs
  cases k with
  | zero =>
    have h0 : ¬ ((0 : Int) ≤ -1) := by omega
    have e : (unitT u).take (6 - 0) = unitT u := rfl
    rw [e] at hs
    simp (disch := first | omega | assumption) only [h0, e, Int.reduceSub, steps, st2, pev, rev, oev, optr, ibin, sbin, ishf, bound, mmAll, mm2, mk, mkArgs, AV.cells, AV.boxable, AV.one, AV.strip1, fillA, fillS, Nat.reduceEqDiff, reduceCtorEq, ↓reduceIte, Nat.reduceAdd, Int.reduceNeg, Nat.reduceLeDiff, Int.reduceToNat, Int.reduceEq, Int.reduceLT, Int.reduceLE, Int.reduceAdd]
    exact hQ _ _ H2 H2 [_] nofun rfl (Low.refl _) ⟨o2, rfl, by rw [bytesOf_len]; exact hs⟩
  | succ j =>
    have e0 : ((j + 1 : Nat) : Int) - 1 = (j : Int) := by omega
    have h0 : ((0 : Int) ≤ j) = True := eq_true (by omega)
    have w1 : IntKind.wrap .i64 (4 * (j : Int)) = ((4 * j : Nat) : Int) := by rw [wrap64 (by omega) (by omega)]; omega
    have w2 := fdN u (4 * j) (by omega)
    have hlt : (((u / 2 ^ (4 * j) % 16 : Nat) : Int) < 16) = True := eq_true (by omega)
    have w0 : (((4 * j : Nat) : Int) < 0) = False := eq_false (by omega)
    have hm : ((unitT u).take (6 - (j + 1))) ++ [hexL.getD (u / 2 ^ (4 * j) % 16) 0] = (unitT u).take (6 - j) := by
      have : j = 0 ∨ j = 1 ∨ j = 2 ∨ j = 3 := by omega
      rcases this with rfl | rfl | rfl | rfl <;> simp [unitT]
    have hl2 := bytesOf_len (acc ++ (unitT u).take (6 - (j + 1)))
    have hl3 : (acc ++ (unitT u).take (6 - (j + 1))).length ≤ acc.length + 6 := by simp [unitT_len]; omega
    have e3 := bytesOf_one (acc ++ (unitT u).take (6 - (j + 1))) (hexL.getD (u / 2 ^ (4 * j) % 16) 0)
    rw [List.append_assoc, hm] at e3
    have hg : ([48, 49, 50, 51, 52, 53, 54, 55, 56, 57, 97, 98, 99, 100, 101, 102] : List UInt8).getD (u / 2 ^ (4 * j) % 16) 0 = hexL.getD (u / 2 ^ (4 * j) % 16) 0 := rfl
    simp (disch := first | omega | assumption) only [e0, h0, w1, w2, w0, tmod16, hlt, hg, steps, st2, pev, rev, oev, optr, ibin, sbin, ishf, bound, mmAll, mm2, mk, mkArgs, AV.cells, AV.boxable, AV.one, AV.strip1, fillA, fillS, Nat.reduceEqDiff, reduceCtorEq, ↓reduceIte, Nat.reduceAdd, Int.reduceNeg, Nat.reduceLeDiff, Int.reduceToNat, Int.reduceEq, Int.reduceLT, Int.reduceLE, Int.reduceAdd]
    refine goP_ownS (by rw [hl2]; exact hs.own) (by simp only [hl2, List.length_cons, List.length_nil]; omega) (by simp only [hl2, List.length_cons, List.length_nil, maxLen]; omega) fun o3 H3 hs3 => ?_
    have hs4 : OwnS H o H3 o3 (acc ++ (unitT u).take (6 - j)).length 1 := by
      have e : (acc ++ (unitT u).take (6 - j)).length = (bytesOf (acc ++ (unitT u).take (6 - (j + 1)))).length + 1 := by
        rw [hl2, ← hm, ← List.append_assoc]; simp only [List.length_append, List.length_cons, List.length_nil]
      rw [e]; exact hs.trans hs3
    simp (disch := first | omega | assumption) only [e3, wrap64, steps, st2, pev, rev, oev, optr, ibin, sbin, ishf, bound, mmAll, mm2, mk, mkArgs, AV.cells, AV.boxable, AV.one, AV.strip1, fillA, fillS, Nat.reduceEqDiff, reduceCtorEq, ↓reduceIte, Nat.reduceAdd, Int.reduceNeg, Nat.reduceLeDiff, Int.reduceToNat, Int.reduceEq, Int.reduceLT, Int.reduceLE, Int.reduceAdd]
    exact goJ (hJ (j, o3) H3 (Nat.lt_succ_self j) ⟨by simp only; omega, hs4⟩) (by simp (disch := first | omega | assumption) only [steps, st2, pev, rev, oev, optr, ibin, sbin, ishf, bound, mmAll, mm2, mk, mkArgs, AV.cells, AV.boxable, AV.one, AV.strip1, fillA, fillS, Nat.reduceEqDiff, reduceCtorEq, ↓reduceIte, Nat.reduceAdd, Int.reduceNeg, Nat.reduceLeDiff, Int.reduceToNat, Int.reduceEq, Int.reduceLT, Int.reduceLE, Int.reduceAdd])
theorem unitsG_one {l : List UInt8} {c k : Nat} (hne : l ≠ []) (hv : validD l = true) (hc : (codeN l).1 = c) (hk : (codeN l).2 = k) :
    validD (l.take k) = true ∧ (l.take k).length = k ∧ unitsG (l.take k).length (l.take k) = if 65536 ≤ c then [55296 + (c - 65536) / 1024, 56320 + (c - 65536) % 1024] else [c] := by
  obtain ⟨hd, hv2⟩ := code_ok hne hv
  subst hc; subst hk
  have hp := hd.pos
  have hle := hd.len
  have hlen : (l.take (codeN l).2).length = (codeN l).2 := by simp; omega
  have hne2 : l.take (codeN l).2 ≠ [] := fun e => by rw [e] at hlen; simp at hlen; omega
  have hcode := codeN_pref hne (by omega : (codeN l).2 ≠ 0) []
  rw [List.append_nil] at hcode
  have hdrop : (l.take (codeN l).2).drop (codeN l).2 = [] := by apply List.drop_eq_nil_of_le; omega
  refine ⟨?_, hlen, ?_⟩
  · have := (codeN_good hne2 (by rw [hcode]; omega)).1
    rw [this, hcode, hdrop]; rfl
  · rw [hlen]
    obtain ⟨n, hn⟩ : ∃ n, (codeN l).2 = n + 1 := ⟨(codeN l).2 - 1, by omega⟩
    conv => lhs; rw [show unitsG (codeN l).2 = unitsG (n + 1) by rw [hn]]
    rw [unitsG, if_neg hne2, hcode, hdrop, unitsG_nil, List.append_nil]
theorem wr8n {n : Nat} (h : n < 256) : IntKind.wrap .u8 (n : Int) = ((UInt8.ofNat n).toNat : Int) := by
  rw [wr8]; simp
set_option maxHeartbeats 1000000 in
theorem quoteTC (s : List UInt8) (hv : validD s = true) (hs : 6 * s.length + 2 ≤ Lim) : Pure Tryz.prog 120 [.str s] (.str (tquo s)) := by
  refine Pure.go ir120 ck120 (Nat.le_refl _) fun KP Q hQ => ?_
  have hs' : s.length ≤ Lim := by simp only [Lim] at hs ⊢; omega
  simp only [Lim] at hs
  simp (disch := first | omega | assumption) only [ir120, steps, st2, pev, rev, oev, optr, ibin, sbin, ishf, bound, mmAll, mm2, mk, mkArgs, AV.cells, AV.boxable, AV.one, AV.strip1, fillA, fillS, Nat.reduceEqDiff, reduceCtorEq, ↓reduceIte, Nat.reduceAdd, Int.reduceNeg, Nat.reduceLeDiff, Int.reduceToNat, Int.reduceEq, Int.reduceLT, Int.reduceLE, Int.reduceAdd]
  have e34 : ([[AV.int .u8 34]] : List (List AV)) = bytesOf [34] := rfl
  simp (disch := first | omega | assumption) only [e34, steps, st2, pev, rev, oev, optr, ibin, sbin, ishf, bound, mmAll, mm2, mk, mkArgs, AV.cells, AV.boxable, AV.one, AV.strip1, fillA, fillS, Nat.reduceEqDiff, reduceCtorEq, ↓reduceIte, Nat.reduceAdd, Int.reduceNeg, Nat.reduceLeDiff, Int.reduceToNat, Int.reduceEq, Int.reduceLT, Int.reduceLE, Int.reduceAdd]
  refine goL_st (fun x : Own × List UInt8 × Nat => [(3, .sl x.1 1 (bytesOf x.2.1)), (4, .int .i64 x.2.2)])
    (fun x H => x.2.2 ≤ s.length ∧ x.2.1.length ≤ 6 * x.2.2 + 1 ∧ 34 :: tquoF s = x.2.1 ++ tquoF (s.drop x.2.2) ∧ validD (s.drop x.2.2) = true ∧ Owned H x.1 x.2.1.length 1) (fun x => s.length - x.2.2) (.full, [34], 0) (by simp (disch := first | omega | assumption) only [steps, st2, pev, rev, oev, optr, ibin, sbin, ishf, bound, mmAll, mm2, mk, mkArgs, AV.cells, AV.boxable, AV.one, AV.strip1, fillA, fillS, Nat.reduceEqDiff, reduceCtorEq, ↓reduceIte, Nat.reduceAdd, Int.reduceNeg, Nat.reduceLeDiff, Int.reduceToNat, Int.reduceEq, Int.reduceLT, Int.reduceLE, Int.reduceAdd]) ⟨by simp, by simp, by simp, by simpa using hv, Owned.full _ _ _⟩ ?_
  rintro ⟨o, acc, i⟩ H J ⟨hi, hai, hc, hv, hs1⟩ hJ
  simp only at hi hai hc hv hs1
  have hal := bytesOf_len acc
  by_cases hlt : i < s.length
  case neg =>
    have hlt' : ¬ (i : Int) < s.length := by omega
    rw [List.drop_of_length_le (by omega)] at hc
    have e0 : tquoF [] = [] := rfl
    rw [e0, List.append_nil] at hc
    have e3 : bytesOf acc ++ [[AV.int .u8 34]] = bytesOf (acc ++ [34]) := bytesOf_one acc 34
    simp (disch := first | omega | assumption) only [hlt', steps, st2, pev, rev, oev, optr, ibin, sbin, ishf, bound, mmAll, mm2, mk, mkArgs, AV.cells, AV.boxable, AV.one, AV.strip1, fillA, fillS, Nat.reduceEqDiff, reduceCtorEq, ↓reduceIte, Nat.reduceAdd, Int.reduceNeg, Nat.reduceLeDiff, Int.reduceToNat, Int.reduceEq, Int.reduceLT, Int.reduceLE, Int.reduceAdd]
    refine goP_ownS (by rw [hal]; exact hs1) (by simp only [hal, List.length_cons, List.length_nil]; omega) (by simp only [hal, List.length_cons, List.length_nil, maxLen]; omega) fun o3 H3 hs3 => ?_
    simp (disch := first | omega | assumption) only [e3, byts_of, steps, st2, pev, rev, oev, optr, ibin, sbin, ishf, bound, mmAll, mm2, mk, mkArgs, AV.cells, AV.boxable, AV.one, AV.strip1, fillA, fillS, Nat.reduceEqDiff, reduceCtorEq, ↓reduceIte, Nat.reduceAdd, Int.reduceNeg, Nat.reduceLeDiff, Int.reduceToNat, Int.reduceEq, Int.reduceLT, Int.reduceLE, Int.reduceAdd]
    have e4 : tquo s = acc ++ [34] := by rw [← hc]; rfl
    exact hQ _ _ _ _ nofun rfl (by simp [tupOf, envOf, AV.strip, AV.strip1, e4])
  have hlt' : (i : Int) < s.length := by omega
  have hne : s.drop i ≠ [] := fun e => by have := congrArg List.length e; simp at this; omega
  obtain ⟨hd, hv2⟩ := code_ok hne hv
  have hst := tquoF_step hne hv
  have hone := unitsG_one hne hv rfl rfl
  have hpl := pieceT_len hd
  have hp := hd.pos
  have hle := hd.len
  have hmax := hd.le
  have h1b := @take_one _ _ _ hd
  rw [List.length_drop] at hle
  simp (disch := first | omega | assumption) only [hlt', steps, st2, pev, rev, oev, optr, ibin, sbin, ishf, bound, mmAll, mm2, mk, mkArgs, AV.cells, AV.boxable, AV.one, AV.strip1, fillA, fillS, Nat.reduceEqDiff, reduceCtorEq, ↓reduceIte, Nat.reduceAdd, Int.reduceNeg, Nat.reduceLeDiff, Int.reduceToNat, Int.reduceEq, Int.reduceLT, Int.reduceLE, Int.reduceAdd]
  refine goK_pure (codeC s i hlt hs') ?_
  rw [hst] at hc
  rw [List.drop_drop] at hc hv2
  generalize (codeN (s.drop i)).1 = c at *
  generalize (codeN (s.drop i)).2 = k at *
  have hmax1 : ((1 : Int) > (k : Int)) = False := eq_false (by omega)
  have wk : IntKind.wrap .i64 ((i : Int) + (k : Int)) = ((i + k : Nat) : Int) := by rw [wrap64 (by omega) (by omega)]; omega
  have hsub : (s.take (i + k)).drop i = (s.drop i).take k := by rw [List.drop_take]; congr 1; omega
  have hle2 : (((i + k : Nat) : Int) ≤ s.length) = True := eq_true (by omega)
  have hle3 : ((i : Int) ≤ ((i + k : Nat) : Int)) = True := eq_true (by omega)
  have step : ∀ o3 H3 (bs : List UInt8), bs = pieceT c ((s.drop i).take k) → Owned H3 o3 (acc ++ bs).length 1 → J ((setAll _ [(3, .sl o3 1 (bytesOf (acc ++ bs))), (4, .int .i64 ((i + k : Nat) : Int))]).keep [0, 3, 4]) H3 := fun o3 H3 bs hbs ho3 =>
    hJ (o3, acc ++ bs, i + k) H3 (by simp only; omega) ⟨by simp only; omega, by simp only [List.length_append, hbs]; omega, by rw [hc, hbs]; simp, hv2, ho3⟩
  by_cases c1 : c = 34 ∨ c = 92
  · have g : ((c : Int) = 34 ∨ (c : Int) = 92) := by omega
    have e3 : bytesOf acc ++ [[AV.int .u8 92], [AV.int .u8 (UInt8.ofNat c).toNat]] = bytesOf (acc ++ [92, UInt8.ofNat c]) := bytesOf_two acc 92 _
    have ep : [92, UInt8.ofNat c] = pieceT c ((s.drop i).take k) := by unfold pieceT; rw [if_pos c1]
    rcases c1 with c1 | c1
    all_goals
      have w8 : IntKind.wrap .u8 (c : Int) = ((UInt8.ofNat c).toNat : Int) := wr8n (by omega)
      subst c1
      have gg := w8
      simp only [Int.cast_ofNat_Int] at w8
      simp (disch := first | omega | assumption) only [w8, steps, st2, pev, rev, oev, optr, ibin, sbin, ishf, bound, mmAll, mm2, mk, mkArgs, AV.cells, AV.boxable, AV.one, AV.strip1, fillA, fillS, Nat.reduceEqDiff, reduceCtorEq, ↓reduceIte, Nat.reduceAdd, Int.reduceNeg, Nat.reduceLeDiff, Int.reduceToNat, Int.reduceEq, Int.reduceLT, Int.reduceLE, Int.reduceAdd]
      refine goP_ownS (by rw [hal]; exact hs1) (by simp only [hal, List.length_cons, List.length_nil]; omega) (by simp only [hal, List.length_cons, List.length_nil, maxLen]; omega) fun o3 H3 hs3 => ?_
      simp (disch := first | omega | assumption) only [e3, hmax1, wk, steps, st2, pev, rev, oev, optr, ibin, sbin, ishf, bound, mmAll, mm2, mk, mkArgs, AV.cells, AV.boxable, AV.one, AV.strip1, fillA, fillS, Nat.reduceEqDiff, reduceCtorEq, ↓reduceIte, Nat.reduceAdd, Int.reduceNeg, Nat.reduceLeDiff, Int.reduceToNat, Int.reduceEq, Int.reduceLT, Int.reduceLE, Int.reduceAdd]
      exact goJ (step o3 H3 _ ep (by simpa [hal] using hs3.own)) (by simp (disch := first | omega | assumption) only [steps, st2, pev, rev, oev, optr, ibin, sbin, ishf, bound, mmAll, mm2, mk, mkArgs, AV.cells, AV.boxable, AV.one, AV.strip1, fillA, fillS, Nat.reduceEqDiff, reduceCtorEq, ↓reduceIte, Nat.reduceAdd, Int.reduceNeg, Nat.reduceLeDiff, Int.reduceToNat, Int.reduceEq, Int.reduceLT, Int.reduceLE, Int.reduceAdd])
  have g34 : ¬ ((c : Int) = 34) := by omega
  have g92 : ¬ ((c : Int) = 92) := by omega
  by_cases c2 : c = 10
  · subst c2
    have e3 : bytesOf acc ++ [[AV.int .u8 92], [AV.int .u8 110]] = bytesOf (acc ++ [92, 110]) := bytesOf_two acc 92 110
    have ep : [92, 110] = pieceT 10 ((s.drop i).take k) := by unfold pieceT; rw [if_neg (by decide), if_pos rfl]
    simp (disch := first | omega | assumption) only [steps, st2, pev, rev, oev, optr, ibin, sbin, ishf, bound, mmAll, mm2, mk, mkArgs, AV.cells, AV.boxable, AV.one, AV.strip1, fillA, fillS, Nat.reduceEqDiff, reduceCtorEq, ↓reduceIte, Nat.reduceAdd, Int.reduceNeg, Nat.reduceLeDiff, Int.reduceToNat, Int.reduceEq, Int.reduceLT, Int.reduceLE, Int.reduceAdd]
    refine goP_ownS (by rw [hal]; exact hs1) (by simp only [hal, List.length_cons, List.length_nil]; omega) (by simp only [hal, List.length_cons, List.length_nil, maxLen]; omega) fun o3 H3 hs3 => ?_
    simp (disch := first | omega | assumption) only [e3, hmax1, wk, steps, st2, pev, rev, oev, optr, ibin, sbin, ishf, bound, mmAll, mm2, mk, mkArgs, AV.cells, AV.boxable, AV.one, AV.strip1, fillA, fillS, Nat.reduceEqDiff, reduceCtorEq, ↓reduceIte, Nat.reduceAdd, Int.reduceNeg, Nat.reduceLeDiff, Int.reduceToNat, Int.reduceEq, Int.reduceLT, Int.reduceLE, Int.reduceAdd]
    exact goJ (step o3 H3 _ ep (by simpa [hal] using hs3.own)) (by simp (disch := first | omega | assumption) only [steps, st2, pev, rev, oev, optr, ibin, sbin, ishf, bound, mmAll, mm2, mk, mkArgs, AV.cells, AV.boxable, AV.one, AV.strip1, fillA, fillS, Nat.reduceEqDiff, reduceCtorEq, ↓reduceIte, Nat.reduceAdd, Int.reduceNeg, Nat.reduceLeDiff, Int.reduceToNat, Int.reduceEq, Int.reduceLT, Int.reduceLE, Int.reduceAdd])
  have g10 : ¬ ((c : Int) = 10) := by omega
  by_cases c3 : c < 32 ∨ 65536 ≤ c
  · have hus := hone.2.2
    have hvt := hone.1
    have htl := hone.2.1
    have hlim : ((s.drop i).take k).length ≤ Lim := by rw [htl]; simp only [Lim]; omega
    have loop : ∀ (ρ : Env) (us : List Nat), us = (if 65536 ≤ c then [55296 + (c - 65536) / 1024, 56320 + (c - 65536) % 1024] else [c]) → (∀ u ∈ us, u < 65536) ∧ us.flatMap unitT = pieceT c ((s.drop i).take k) := fun ρ us hu => by
      subst hu
      by_cases h6 : 65536 ≤ c
      · rw [if_pos h6]
        refine ⟨fun u hu => by simp at hu; omega, ?_⟩
        unfold pieceT; rw [if_neg c1, if_neg c2, if_neg (by omega), if_pos h6]; simp
      · rw [if_neg h6]
        refine ⟨fun u hu => by simp at hu; omega, ?_⟩
        unfold pieceT; rw [if_neg c1, if_neg c2, if_pos (by omega)]; simp
    obtain ⟨us, hus2⟩ : ∃ us, us = (if 65536 ≤ c then [55296 + (c - 65536) / 1024, 56320 + (c - 65536) % 1024] else [c]) := ⟨_, rfl⟩
    rw [← hus2] at hus
    obtain ⟨hu1, hu2⟩ := loop (fun _ => .any) us hus2
    have hul : us.length ≤ 2 := by rw [hus2]; split <;> simp
    have hcl := cU_len us
    by_cases c4 : c < 32
    case' pos =>
      have g32 : ((c : Int) < 32) = True := eq_true (by omega)
      simp (disch := first | omega | assumption) only [g34, g92, g10, g32, wk, hle2, hle3, hsub, steps, st2, pev, rev, oev, optr, ibin, sbin, ishf, bound, mmAll, mm2, mk, mkArgs, AV.cells, AV.boxable, AV.one, AV.strip1, fillA, fillS, Nat.reduceEqDiff, reduceCtorEq, ↓reduceIte, Nat.reduceAdd, Int.reduceNeg, Nat.reduceLeDiff, Int.reduceToNat, Int.reduceEq, Int.reduceLT, Int.reduceLE, Int.reduceAdd]
    case' neg =>
      have g32 : ¬ ((c : Int) < 32) := by omega
      have g6 : ((65536 : Int) ≤ c) = True := eq_true (by omega)
      simp (disch := first | omega | assumption) only [g34, g92, g10, g32, g6, wk, hle2, hle3, hsub, steps, st2, pev, rev, oev, optr, ibin, sbin, ishf, bound, mmAll, mm2, mk, mkArgs, AV.cells, AV.boxable, AV.one, AV.strip1, fillA, fillS, Nat.reduceEqDiff, reduceCtorEq, ↓reduceIte, Nat.reduceAdd, Int.reduceNeg, Nat.reduceLeDiff, Int.reduceToNat, Int.reduceEq, Int.reduceLT, Int.reduceLE, Int.reduceAdd]
    all_goals
      refine goK_pure (unitsC _ hvt hlim) ?_
      rw [hus]
      simp (disch := first | omega | assumption) only [hcl, steps, st2, pev, rev, oev, optr, ibin, sbin, ishf, bound, mmAll, mm2, mk, mkArgs, AV.cells, AV.boxable, AV.one, AV.strip1, fillA, fillS, Nat.reduceEqDiff, reduceCtorEq, ↓reduceIte, Nat.reduceAdd, Int.reduceNeg, Nat.reduceLeDiff, Int.reduceToNat, Int.reduceEq, Int.reduceLT, Int.reduceLE, Int.reduceAdd]
      refine goL_range us 67 (fun x : Own × List UInt8 => [(3, .sl x.1 1 (bytesOf x.2))]) (fun done rest x H' => x.2 ++ rest.flatMap unitT = acc ++ pieceT c ((s.drop i).take k) ∧ x.2.length ≤ acc.length + 6 * done.length ∧ Owned H' x.1 x.2.length 1) (o, acc) (by simp (disch := first | omega | assumption) only [steps, st2, pev, rev, oev, optr, ibin, sbin, ishf, bound, mmAll, mm2, mk, mkArgs, AV.cells, AV.boxable, AV.one, AV.strip1, fillA, fillS, Nat.reduceEqDiff, reduceCtorEq, ↓reduceIte, Nat.reduceAdd, Int.reduceNeg, Nat.reduceLeDiff, Int.reduceToNat, Int.reduceEq, Int.reduceLT, Int.reduceLE, Int.reduceAdd]) ⟨by simp only; rw [hu2], by simp, hs1⟩ ?_ ?_
      · rintro ⟨o2, a⟩ H2 J2 ⟨hn, hle, hs2⟩ hlt
        simp only [List.flatMap_nil, List.append_nil] at hn hle hs2
        simp (disch := first | omega | assumption) only [hcl, hlt, hmax1, wk, steps, st2, pev, rev, oev, optr, ibin, sbin, ishf, bound, mmAll, mm2, mk, mkArgs, AV.cells, AV.boxable, AV.one, AV.strip1, fillA, fillS, Nat.reduceEqDiff, reduceCtorEq, ↓reduceIte, Nat.reduceAdd, Int.reduceNeg, Nat.reduceLeDiff, Int.reduceToNat, Int.reduceEq, Int.reduceLT, Int.reduceLE, Int.reduceAdd]
        subst hn
        exact goJ (step o2 H2 _ rfl hs2) (by simp (disch := first | omega | assumption) only [steps, st2, pev, rev, oev, optr, ibin, sbin, ishf, bound, mmAll, mm2, mk, mkArgs, AV.cells, AV.boxable, AV.one, AV.strip1, fillA, fillS, Nat.reduceEqDiff, reduceCtorEq, ↓reduceIte, Nat.reduceAdd, Int.reduceNeg, Nat.reduceLeDiff, Int.reduceToNat, Int.reduceEq, Int.reduceLT, Int.reduceLE, Int.reduceAdd])
      · rintro done x rest ⟨o2, a⟩ H2 J2 hdn hlt hlt2 ⟨hn, hle, hs2⟩ hJ2
        simp only [List.flatMap_cons] at hn hle hs2
        have hg : (cU us).getD done.length [] = [AV.int .i64 (x : Int)] := getD_mid' hdn
        simp (disch := first | omega | assumption) only [hcl, hlt, hg, steps, st2, pev, rev, oev, optr, ibin, sbin, ishf, bound, mmAll, mm2, mk, mkArgs, AV.cells, AV.boxable, AV.one, AV.strip1, fillA, fillS, Nat.reduceEqDiff, reduceCtorEq, ↓reduceIte, Nat.reduceAdd, Int.reduceNeg, Nat.reduceLeDiff, Int.reduceToNat, Int.reduceEq, Int.reduceLT, Int.reduceLE, Int.reduceAdd]
        refine goK_gives (unitTC x (hu1 x (by rw [hdn]; simp)) a _ o2 hs2 (by simp only [Lim]; omega)) fun o3 H3 hs3 => ?_
        rw [bytesOf_len] at hs3
        simp (disch := first | omega | assumption) only [wrap64, steps, st2, pev, rev, oev, optr, ibin, sbin, ishf, bound, mmAll, mm2, mk, mkArgs, AV.cells, AV.boxable, AV.one, AV.strip1, fillA, fillS, Nat.reduceEqDiff, reduceCtorEq, ↓reduceIte, Nat.reduceAdd, Int.reduceNeg, Nat.reduceLeDiff, Int.reduceToNat, Int.reduceEq, Int.reduceLT, Int.reduceLE, Int.reduceAdd]
        exact goJ (hJ2 (o3, a ++ unitT x) H3 ⟨by rw [← hn]; simp, by simp only [List.length_append, unitT_len, List.length_cons, List.length_nil]; omega, hs3.own⟩) (by simp (disch := first | omega | assumption) only [steps, st2, pev, rev, oev, optr, ibin, sbin, ishf, bound, mmAll, mm2, mk, mkArgs, AV.cells, AV.boxable, AV.one, AV.strip1, fillA, fillS, Nat.reduceEqDiff, reduceCtorEq, ↓reduceIte, Nat.reduceAdd, Int.reduceNeg, Nat.reduceLeDiff, Int.reduceToNat, Int.reduceEq, Int.reduceLT, Int.reduceLE, Int.reduceAdd])
  · have g32 : ¬ ((c : Int) < 32) := by omega
    have g6 : ¬ ((65536 : Int) ≤ c) := by omega
    have ep : (s.drop i).take k = pieceT c ((s.drop i).take k) := by unfold pieceT; rw [if_neg c1, if_neg c2, if_neg (by omega), if_neg (by omega)]
    have htl := hone.2.1
    have hbl := bytesOf_len ((s.drop i).take k)
    simp (disch := first | omega | assumption) only [g34, g92, g10, g32, g6, wk, hle2, hle3, hsub, steps, st2, pev, rev, oev, optr, ibin, sbin, ishf, bound, mmAll, mm2, mk, mkArgs, AV.cells, AV.boxable, AV.one, AV.strip1, fillA, fillS, Nat.reduceEqDiff, reduceCtorEq, ↓reduceIte, Nat.reduceAdd, Int.reduceNeg, Nat.reduceLeDiff, Int.reduceToNat, Int.reduceEq, Int.reduceLT, Int.reduceLE, Int.reduceAdd]
    refine goP_ownS (by rw [hal]; exact hs1) (by rw [hal, hbl, htl]; omega) (by rw [hal, hbl, htl]; simp only [maxLen]; omega) fun o3 H3 hs3 => ?_
    simp (disch := first | omega | assumption) only [bytesOf_strip, bytesOf_app, hmax1, wk, steps, st2, pev, rev, oev, optr, ibin, sbin, ishf, bound, mmAll, mm2, mk, mkArgs, AV.cells, AV.boxable, AV.one, AV.strip1, fillA, fillS, Nat.reduceEqDiff, reduceCtorEq, ↓reduceIte, Nat.reduceAdd, Int.reduceNeg, Nat.reduceLeDiff, Int.reduceToNat, Int.reduceEq, Int.reduceLT, Int.reduceLE, Int.reduceAdd]
    exact goJ (step o3 H3 _ ep (by have := hs3.own; rw [hal, hbl] at this; simpa using this)) (by simp (disch := first | omega | assumption) only [steps, st2, pev, rev, oev, optr, ibin, sbin, ishf, bound, mmAll, mm2, mk, mkArgs, AV.cells, AV.boxable, AV.one, AV.strip1, fillA, fillS, Nat.reduceEqDiff, reduceCtorEq, ↓reduceIte, Nat.reduceAdd, Int.reduceNeg, Nat.reduceLeDiff, Int.reduceToNat, Int.reduceEq, Int.reduceLT, Int.reduceLE, Int.reduceAdd])
end Go.Proofs.YticbbfbpeimkbaaGreatDoor
namespace Go.Proofs.YticbbfbpeimkbaaGreatDoor
open Go.Ab
abbrev TS := List Tok
abbrev PR (α : Type) := Except Int (α × TS)
def wK (t : Tok) : Nat := t.s.length + 4
def wT (l : TS) : Nat := (l.map wK).sum
theorem wT_cons (x : Tok) (l : TS) : wT (x :: l) = wK x + wT l := by simp [wT]
structure Fp {α : Type} (b : α → Nat) (ok : α → Prop) (c : Nat) (t : TS) (a : α) (t' : TS) : Prop where
  suf : t' <:+ t
  w : b a + c + wT t' ≤ wT t
  ok : ok a
def GP {α : Type} (b : α → Nat) (ok : α → Prop) (c : Nat) (f : TS → PR α) : Prop := ∀ t a t', f t = .ok (a, t') → Fp b ok c t a t'
theorem Fp.lt {α : Type} {b : α → Nat} {ok : α → Prop} {c : Nat} {t t' : TS} {a : α} (h : Fp b ok c t a t') (hc : 0 < c) : t'.length < t.length := by
  obtain ⟨p, hp⟩ := h.suf
  have h2 := h.w
  cases p with
  | nil => simp at hp; subst hp; omega
  | cons x p => rw [← hp]; simp; omega
def b0 {α : Type} (_ : α) : Nat := 0
theorem GP.lt {α : Type} {b : α → Nat} {ok : α → Prop} {c : Nat} {f : TS → PR α} (h : GP b ok c f) (hc : 0 < c) : ∀ t a t', f t = .ok (a, t') → t'.length < t.length := fun t a t' e => (h t a t' e).lt hc
end Go.Proofs.YticbbfbpeimkbaaGreatDoor
namespace Go.Proofs.YticbbfbpeimkbaaGreatDoor
open Go.Ab Go.Lib
theorem isMark_ne {s : List UInt8} (h : s.length ≠ 1) : isMark s = false := by
  match s, h with
  | [], _ => rfl
  | [_], h => exact absurd rfl h
  | _ :: _ :: _, _ => rfl
theorem rightTC (t : Tok) (ht : t.s.length ≤ Lim) : Pure Tryz.prog 119 [.agg (cK t)] (.bool (rightK t)) := by
  refine Pure.go ir119 ck119 (Nat.le_refl _) fun KP Q hQ => ?_
  obtain ⟨k, s⟩ := t
  simp only at ht
  by_cases k1 : k = 1
  · subst k1
    by_cases hd : s = [46, 46, 46]
    · simp (disch := first | omega | assumption) only [ir119, cK, hd, go_sem, ↓reduceIte]
      exact hQ _ _ _ _ nofun rfl (by simp [tupOf, envOf, AV.strip, AV.strip1, rightK, hd, dotsT])
    by_cases hl : s.length = 1
    · obtain ⟨c, rfl⟩ := List.length_eq_one_iff.1 hl
      simp (disch := first | omega | assumption) only [ir119, cK, hd, go_sem, ↓reduceIte]
      have e : rightK ⟨1, [c]⟩ = decide (0 ≤ Lib.indexByte marksT c) := by simp [rightK, dotsT, isMark]
      refine goK_pure (containsC1 _ c) ?_
      simp (disch := first | omega | assumption) only [go_sem, ↓reduceIte]
      exact hQ _ _ _ [_] nofun rfl (by rw [e]; rfl)
    · have hl' : ¬ ((s.length : Int) = 1) := by omega
      simp (disch := first | omega | assumption) only [ir119, cK, hd, hl', go_sem, ↓reduceIte]
      exact hQ _ _ _ _ nofun rfl (by simp [tupOf, envOf, AV.strip, AV.strip1, rightK, hd, dotsT, isMark_ne hl])
  by_cases k2 : k = 2
  · subst k2
    simp (disch := first | omega | assumption) only [ir119, cK, go_sem, ↓reduceIte]
    refine goK_pure (nameC s ht) ?_
    simp (disch := first | omega | assumption) only [go_sem, ↓reduceIte]
    exact hQ _ _ _ _ nofun rfl (by simp [tupOf, envOf, AV.strip, AV.strip1, rightK])
  by_cases k3 : k = 3
  · subst k3
    simp (disch := first | omega | assumption) only [ir119, cK, go_sem, ↓reduceIte]
    refine goK_pure (NumberC s ht) ?_
    simp (disch := first | omega | assumption) only [go_sem, ↓reduceIte]
    exact hQ _ _ _ _ nofun rfl (by simp [tupOf, envOf, AV.strip, AV.strip1, rightK])
  by_cases k4 : k = 4
  · subst k4
    simp (disch := first | omega | assumption) only [ir119, cK, go_sem, ↓reduceIte]
    refine goK_pure (NumberC s ht) ?_
    simp (disch := first | omega | assumption) only [go_sem, ↓reduceIte]
    exact hQ _ _ _ _ nofun rfl (by simp [tupOf, envOf, AV.strip, AV.strip1, rightK])
  by_cases k5 : k = 5
  · subst k5
    simp (disch := first | omega | assumption) only [ir119, cK, go_sem, ↓reduceIte]
    refine goK_pure (goodC s ht) ?_
    simp (disch := first | omega | assumption) only [go_sem, ↓reduceIte]
    exact hQ _ _ _ _ nofun rfl (by simp [tupOf, envOf, AV.strip, AV.strip1, rightK])
  · simp (disch := first | omega | assumption) only [ir119, cK, k1, k2, k3, k4, k5, go_sem, ↓reduceIte]
    exact hQ _ _ _ _ nofun rfl (by simp [tupOf, envOf, AV.strip, AV.strip1, rightK, k1, k2, k3, k4, k5])
theorem join_le : ∀ l : List (List UInt8), (Lib.join l [32]).length ≤ (l.map fun s => s.length + 1).sum
  | [] => by simp [Lib.join_nil]
  | x :: r => by
    rw [Lib.join_length]
    have : ∀ l : List (List UInt8), lens l + l.length = (l.map fun s => s.length + 1).sum := fun l => by
      induction l with
      | nil => rfl
      | cons y l ih => simp only [lens, List.map_cons, List.sum_cons, List.length_cons] at ih ⊢; omega
    have h := this (x :: r)
    simp only [List.length_cons, List.length_nil] at h ⊢
    omega
theorem tjoin_le (l : List Tok) (h : l.all rightK = true) : (tjoin l).length ≤ 6 * wT l := by
  refine Nat.le_trans (join_le _) ?_
  induction l with
  | nil => simp [wT]
  | cons t l ih =>
    simp only [List.all_cons, Bool.and_eq_true] at h
    have h1 := tokT_len h.1
    have h2 := ih h.2
    rw [wT_cons]
    simp only [List.map_cons, List.sum_cons, wK] at h2 ⊢
    omega
theorem wT_mem {l : List Tok} {t : Tok} (h : t ∈ l) : t.s.length + 4 ≤ wT l := by
  induction l with
  | nil => cases h
  | cons y l ih =>
    rw [wT_cons]
    rcases List.mem_cons.1 h with rfl | h
    · unfold wK; omega
    · have := ih h; omega
theorem wT_len (l : List Tok) : 4 * l.length ≤ wT l := by
  induction l with
  | nil => simp
  | cons y l ih => rw [wT_cons]; simp only [List.length_cons, wK]; omega
theorem printTC (L : List Tok) (hb : 8 * wT L ≤ Lim) : Pure Tryz.prog 56 [.sl .no 2 (cKs L)] (.tup [.str (tprint L).1, .bool (tprint L).2]) := by
  refine Pure.go ir56 ck56 (Nat.le_refl _) fun KP Q hQ => ?_
  have hkl := cKs_len L
  have hwl := wT_len L
  simp only [Lim] at hb
  simp (disch := first | omega | assumption) only [ir56, hkl, go_sem, ↓reduceIte]
  refine goL_range L 9 (fun x : Own × List (List UInt8) => [(4, .sl x.1 1 (cT x.2))]) (fun done rest x H => x.2 = done.map tokT ∧ done.all rightK = true ∧ Owned H x.1 x.2.length 1) (.nil, []) (by simp (disch := first | omega | assumption) only [cT, go_sem, ↓reduceIte]) ⟨rfl, rfl, Owned.nil _ _⟩ ?_ ?_
  · rintro ⟨o, l⟩ H J ⟨hl, hr, ho⟩ hlt
    simp only at hl hr ho
    subst hl
    have hj := tjoin_le L hr
    have hcl := cT_len (L.map tokT)
    simp (disch := first | omega | assumption) only [hkl, hlt, go_sem, ↓reduceIte]
    refine goK_pure (Pure.low (joinStrC (L.map tokT) [32] (by show (tjoin L).length ≤ _; omega) (by simp; omega))) ?_
    simp (disch := first | omega | assumption) only [go_sem, ↓reduceIte]
    exact hQ _ _ _ _ nofun rfl (by simp [tupOf, envOf, AV.strip, AV.strip1, tprint, hr, tjoin])
  · rintro done x rest ⟨o, l⟩ H J hd hlt hlt2 ⟨hl, hr, ho⟩ hJ
    simp only at hl hr ho
    have hg := cKs_get hd
    have hmem : x ∈ L := by rw [hd]; simp
    have hx := wT_mem hmem
    have hlen : l.length = done.length := by rw [hl]; simp
    have hcl := cT_len l
    simp (disch := first | omega | assumption) only [hkl, hlt, hg, go_sem, ↓reduceIte]
    refine goA_intro fun b hb => ?_
    simp (disch := first | omega | assumption) only [go_sem, ↓reduceIte]
    refine goK_pure (rightTC x (by simp only [Lim]; omega)) ?_
    cases hrx : rightK x with
    | false =>
      have e : L.all rightK = false := by rw [hd]; simp [hrx]
      simp (disch := first | omega | assumption) only [go_sem, ↓reduceIte]
      exact hQ _ _ _ _ nofun rfl (by simp [tupOf, envOf, AV.strip, AV.strip1, tprint, e])
    | true =>
      by_cases k5 : x.k = 5
      · have hv : validD x.s = true := by unfold rightK at hrx; rw [k5] at hrx; simpa using hrx
        simp (disch := first | omega | assumption) only [k5, go_sem, ↓reduceIte]
        refine goK_pure (quoteTC x.s hv (by simp only [Lim]; omega)) ?_
        simp (disch := first | omega | assumption) only [go_sem, ↓reduceIte]
        refine goP_ownS (by rw [hcl]; exact ho.upd hb) (by simp only [hcl, List.length_cons, List.length_nil]; omega) (by simp only [hcl, List.length_cons, List.length_nil, maxLen]; omega) fun o3 H3 hs3 => ?_
        have et : tokT x = tquo x.s := by unfold tokT; rw [if_pos k5]
        simp (disch := first | omega | assumption) only [wrap64, go_sem, ↓reduceIte]
        exact goJ (hJ (o3, l ++ [tquo x.s]) H3 ⟨by rw [hl]; simp [et], by simp [hr, hrx], by simpa [hcl] using hs3.own⟩) (by simp (disch := first | omega | assumption) only [cT, List.map_append, go_sem, ↓reduceIte])
      · have et : tokT x = x.s := by unfold tokT; rw [if_neg k5]
        simp (disch := first | omega | assumption) only [k5, go_sem, ↓reduceIte]
        refine goP_ownS (by rw [hcl]; exact ho.upd hb) (by simp only [hcl, List.length_cons, List.length_nil]; omega) (by simp only [hcl, List.length_cons, List.length_nil, maxLen]; omega) fun o3 H3 hs3 => ?_
        simp (disch := first | omega | assumption) only [wrap64, go_sem, ↓reduceIte]
        exact goJ (hJ (o3, l ++ [x.s]) H3 ⟨by rw [hl]; simp [et], by simp [hr, hrx], by simpa [hcl] using hs3.own⟩) (by simp (disch := first | omega | assumption) only [cT, List.map_append, go_sem, ↓reduceIte])
end Go.Proofs.YticbbfbpeimkbaaGreatDoor
namespace Go.Proofs.YticbbfbpeimkbaaGreatDoor
open Go.Ab
structure WAt (H : Heap) (w : Nat) (o : Own) (l : List Tok) (ok : Bool) (dp : Int) : Prop where
  cell : H w = some (.cells [.sl o 2 (cKs l), .bool ok, .int .i64 dp])
  own : Owned H o l.length 2
structure WStep (H : Heap) (o : Own) (w : Nat) (H' : Heap) (o' : Own) : Prop where
  keep : ∀ c x, c ≠ w → (∀ d, o ≠ .tip c d) → H c = some x → H' c = some x
  new : ∀ b d, o' = .tip b d → H b = none ∨ ∃ d0, o = .tip b d0
theorem WStep.refl (H : Heap) (o : Own) (w : Nat) : WStep H o w H o := ⟨fun _ _ _ _ h => h, fun b d e => .inr ⟨d, e⟩⟩
theorem WStep.trans {H H1 H2 : Heap} {o o1 o2 : Own} {w : Nat} {x : AObj} (h : WStep H o w H1 o1) (hw : H1 w = some x) (h' : WStep H1 o1 w H2 o2) : WStep H o w H2 o2 := by
  refine ⟨fun c y hc hn hy => h'.keep c y hc (fun d e => ?_) (h.keep c y hc hn hy), fun b d e => ?_⟩
  · rcases h.new c d e with h1 | ⟨d0, h1⟩
    · rw [hy] at h1; cases h1
    · exact hn d0 h1
  · rcases h'.new b d e with h1 | ⟨d0, h1⟩
    · cases hb : H b with
      | none => exact .inl rfl
      | some y =>
        by_cases e2 : ∃ d, o = .tip b d
        · exact .inr e2
        · have hbw : b ≠ w := fun e3 => by subst e3; rw [hw] at h1; cases h1
          have := h.keep b y hbw (fun d e3 => e2 ⟨d, e3⟩) hb
          rw [h1] at this; cases this
    · exact h.new b d0 h1
theorem WStep.box {H H' : Heap} {o o' : Own} {w b n : Nat} {cs : List AV} (h : WStep H o w H' o') (ho : Owned H o n 2) (hb : H b = some (.cells cs)) (hw : b ≠ w) : H' b = some (.cells cs) :=
  h.keep b _ hw (fun d e => by subst e; exact own_ne ho hb rfl) hb
theorem WStep.upd {H H' : Heap} {o o' : Own} {w : Nat} {x : AObj} (h : WStep H o w H' o') : WStep H o w (H'.upd w x) o' :=
  ⟨fun c y hc hn hy => by rw [upd_ne hc]; exact h.keep c y hc hn hy, h.new⟩
theorem WStep.alloc {H H' : Heap} {o o' : Own} {w b : Nat} {x : AObj} (h : WStep H o w H' o') (hb : H' b = none) : WStep H o w (H'.upd b x) o' :=
  ⟨fun c y hc hn hy => by have := h.keep c y hc hn hy; rw [upd_ne (fun e => by subst e; rw [hb] at this; cases this)]; exact this, h.new⟩
theorem WAt.alloc {H : Heap} {w b : Nat} {o : Own} {l : List Tok} {ok : Bool} {dp : Int} {x : AObj} (h : WAt H w o l ok dp) (hb : H b = none) : WAt (H.upd b x) w o l ok dp :=
  ⟨by rw [upd_ne (fun e => by subst e; rw [h.cell] at hb; cases hb)]; exact h.cell, h.own.upd hb⟩
theorem WAt.put {H : Heap} {w : Nat} {o : Own} {l : List Tok} {ok ok' : Bool} {dp dp' : Int} (h : WAt H w o l ok dp) : WAt (H.upd w (.cells [.sl o 2 (cKs l), .bool ok', .int .i64 dp'])) w o l ok' dp' :=
  ⟨upd_same .., own_upd h.own h.cell⟩
theorem WAt.app {H H1 : Heap} {w : Nat} {o o1 : Own} {l ts : List Tok} {ok : Bool} {dp : Int} {n : Nat} (h : WAt H w o l ok dp) (hs : OwnS H o H1 o1 n 2) (hn : n = (l ++ ts).length) :
    H1 w = some (.cells [.sl o 2 (cKs l), .bool ok, .int .i64 dp]) ∧ WAt (H1.upd w (.cells [.sl o1 2 (cKs (l ++ ts)), .bool ok, .int .i64 dp])) w o1 (l ++ ts) ok dp ∧ WStep H o w (H1.upd w (.cells [.sl o1 2 (cKs (l ++ ts)), .bool ok, .int .i64 dp])) o1 := by
  subst hn
  have hc := own_keep h.own h.cell hs.kept
  exact ⟨hc, ⟨upd_same .., own_upd hs.own hc⟩, fun c y hcw hn hy => by rw [upd_ne hcw]; exact hs.kept c y hy hn, hs.new⟩
abbrev RetT (R : AV → Heap → Prop) : AEnd → Heap → Prop := fun e H' => ∃ v, e = .ret v ∧ R v H'
def WC (f : FuncId) (args : List AV) (B : Nat) (lo hi : Int) (r : Int → Bool) (tk : List Tok) : Prop :=
  ∀ (H : Heap) (w : Nat) (o : Own) (l : List Tok) (ok : Bool) (dp : Int), WAt H w o l ok dp → lo ≤ dp → dp ≤ hi → l.length + B ≤ Lim →
    ACalls Tryz.prog f (.ptr w 0 :: args) H (RetT fun v H' => v = .tup [] ∧ ∃ o' l', WAt H' w o' l' (ok && r dp) dp ∧ WStep H o w H' o' ∧ l'.length ≤ l.length + B ∧ ((ok && r dp) = true → l' = l ++ tk))
structure WR (H0 : Heap) (o0 : Own) (w : Nat) (l0 : List Tok) (ok0 : Bool) (dp : Int) (B : Nat) (r : Bool) (tk : List Tok) (H : Heap) (o : Own) (l : List Tok) : Prop where
  here : WAt H w o l (ok0 && r) dp
  st : WStep H0 o0 w H o
  len : l.length ≤ l0.length + B
  eq : (ok0 && r) = true → l = l0 ++ tk
theorem WR.refl {H : Heap} {o : Own} {w : Nat} {l : List Tok} {ok : Bool} {dp : Int} (h : WAt H w o l ok dp) : WR H o w l ok dp 0 true [] H o l :=
  ⟨by rw [Bool.and_true]; exact h, .refl _ _ _, Nat.le_refl _, fun _ => by simp⟩
theorem WR.alloc {H0 H : Heap} {o0 o : Own} {w b B : Nat} {l0 l tk : List Tok} {ok0 r : Bool} {dp : Int} {x : AObj} (h : WR H0 o0 w l0 ok0 dp B r tk H o l) (hb : H b = none) : WR H0 o0 w l0 ok0 dp B r tk (H.upd b x) o l :=
  ⟨h.here.alloc hb, h.st.alloc hb, h.len, h.eq⟩
theorem WR.fin {H0 H : Heap} {o0 o : Own} {w B B' : Nat} {l0 l tk tk' : List Tok} {ok0 r r' : Bool} {dp : Int} (h : WR H0 o0 w l0 ok0 dp B r tk H o l) (hr : r = r') (ht : r' = true → tk = tk') (hB : B ≤ B') :
    ∃ o' l', WAt H w o' l' (ok0 && r') dp ∧ WStep H0 o0 w H o' ∧ l'.length ≤ l0.length + B' ∧ ((ok0 && r') = true → l' = l0 ++ tk') := by
  subst hr
  refine ⟨o, l, h.here, h.st, by have := h.len; omega, fun e => ?_⟩
  rw [h.eq e, ht (by simp only [Bool.and_eq_true] at e; exact e.2)]
section
variable {KP : AV → Heap → Prop} {Q : AExit → Env → Heap → Prop} {st : List Fr} {ρ : Env} {H : Heap} {all items : List AItem} {d : Option Nat} {R : List Chk}
theorem goK_W0 {f : FuncId} {args : List AV} {B : Nat} {lo hi : Int} {r : Int → Bool} {tk : List Tok} (hc : WC f args B lo hi r tk) {w : Nat} {o : Own} {l : List Tok} {ok : Bool} {dp : Int} (h : WAt H w o l ok dp) (h0 : lo ≤ dp) (h1 : dp ≤ hi) (hb : l.length + B ≤ Lim)
    (k : ∀ o' l' H', WAt H' w o' l' (ok && r dp) dp → WStep H o w H' o' → l'.length ≤ l.length + B → ((ok && r dp) = true → l' = l ++ tk) → goR Tryz.prog KP Q all items st R (ρ.set d (.tup [])) H') :
    goK Tryz.prog KP Q all items st d R ρ f (.ptr w 0 :: args) H := by
  refine goK_ret (hc H w o l ok dp h h0 h1 hb) fun v H' ⟨hv, o', l', h2, h3, h4, h5⟩ => ?_
  subst hv
  exact k o' l' H' h2 h3 h4 h5
theorem goK_W {f : FuncId} {args : List AV} {B' : Nat} {lo hi : Int} {r' : Int → Bool} {tk' : List Tok} (hc : WC f args B' lo hi r' tk') {H0 : Heap} {o0 o : Own} {w B : Nat} {l0 l tk : List Tok} {ok0 r : Bool} {dp : Int} (h : WR H0 o0 w l0 ok0 dp B r tk H o l) (h0 : lo ≤ dp) (h1 : dp ≤ hi)
    (hb : l0.length + (B + B') ≤ Lim) (k : ∀ o' l' H', WR H0 o0 w l0 ok0 dp (B + B') (r && r' dp) (tk ++ tk') H' o' l' → WStep H o w H' o' → goR Tryz.prog KP Q all items st R (ρ.set d (.tup [])) H') :
    goK Tryz.prog KP Q all items st d R ρ f (.ptr w 0 :: args) H := by
  have hlen := h.len
  refine goK_W0 hc h.here h0 h1 (by omega) fun o' l' H' h2 h3 h4 h5 => k o' l' H' ⟨by rw [← Bool.and_assoc]; exact h2, h.st.trans h.here.cell h3, by omega, fun e => ?_⟩ h3
  rw [← Bool.and_assoc] at e
  rw [h5 e, h.eq (by simp only [Bool.and_eq_true] at e ⊢; exact e.1), List.append_assoc]
end
theorem newW : ACalls Tryz.prog 69 [] Heap.emp (RetT fun v H' => ∃ w, v = .ptr w 0 ∧ WAt H' w .nil [] true 0) := by
  refine ACalls.go ir69 ck69 (Nat.le_refl _) fun KP Q hQ => ?_
  simp (disch := first | omega | assumption) only [ir69, go_sem, ↓reduceIte]
  refine goA_intro fun b hb => ?_
  simp (disch := first | omega | assumption) only [go_sem, ↓reduceIte]
  exact hQ _ _ _ _ [_] nofun rfl (Low.refl _) ⟨b, rfl, upd_same .., rfl⟩
theorem needC (b : Bool) : WC 70 [.bool b] 0 (-1000) 1000 (fun _ => b) [] := by
  intro H w o l ok dp h h0 h1 hb
  refine ACalls.go ir70 ck70 (Nat.le_refl _) fun KP Q hQ => ?_
  have hc := h.cell
  cases ok
  · simp (disch := first | omega | assumption) only [ir70, hc, go_sem, ↓reduceIte]
    exact hQ _ _ _ _ [] nofun rfl (Low.refl _) ⟨rfl, o, l, h.put, (WStep.refl ..).upd, by simp, fun _ => by simp⟩
  · simp (disch := first | omega | assumption) only [ir70, hc, go_sem, ↓reduceIte]
    exact hQ _ _ _ _ [] nofun rfl (Low.refl _) ⟨rfl, o, l, by rw [Bool.true_and]; exact h.put, (WStep.refl ..).upd, by simp, fun _ => by simp⟩
theorem nameWC (s : List UInt8) (hs : s.length ≤ Lim) : WC 139 [.str s] 1 (-1000) 1000 (fun _ => nameM s) [wk s] := by
  intro H w o l ok dp h h0 h1 hb
  refine ACalls.go ir139 ck139 (Nat.le_refl _) fun KP Q hQ => ?_
  have hkl := cKs_len l
  simp only [Lim] at hb
  simp (disch := first | omega | assumption) only [ir139, go_sem, ↓reduceIte]
  refine goK_pure (nameC s hs) ?_
  simp (disch := first | omega | assumption) only [go_sem, ↓reduceIte]
  refine goK_W0 (needC _) h h0 h1 (by simp only [Lim]; omega) fun o1 l1 H1 h2 h3 h4 h5 => ?_
  have hkl1 := cKs_len l1
  have hc := h2.cell
  simp (disch := first | omega | assumption) only [hc, go_sem, ↓reduceIte]
  refine goP_ownS (by rw [hkl1]; exact h2.own) (by simp only [hkl1, List.length_cons, List.length_nil]; omega) (by simp only [hkl1, List.length_cons, List.length_nil, maxLen]; omega) fun o2 H2 hs2 => ?_
  obtain ⟨g1, g2, g3⟩ := h2.app (ts := [wk s]) hs2 (by simp [hkl1])
  have ek : cKs l1 ++ [[AV.int .i64 2, AV.str s]] = cKs (l1 ++ [wk s]) := cKs_app l1 (wk s)
  simp (disch := first | omega | assumption) only [g1, ek, go_sem, ↓reduceIte]
  exact hQ _ _ _ _ [] nofun rfl (Low.refl _) ⟨rfl, o2, l1 ++ [wk s], g2, h3.trans h2.cell g3, by simp; omega, fun e => by rw [h5 e]; simp⟩
theorem markC (m : List UInt8) (o9 : Own) : WC 140 [.sl o9 1 [[.str m]]] 1 (-1000) 1000 (fun _ => true) [pk m] := by
  intro H w o l ok dp h h0 h1 hb
  refine ACalls.go ir140 ck140 (Nat.le_refl _) fun KP Q hQ => ?_
  simp only [Lim] at hb
  simp (disch := first | omega | assumption) only [ir140, go_sem, ↓reduceIte]
  refine goL_range [m] 8 (fun x : Own × List Tok => []) (fun done rest x H' => WAt H' w x.1 x.2 ok dp ∧ WStep H o w H' x.1 ∧ x.2 = l ++ done.map pk) (o, l) (by simp (disch := first | omega | assumption) only [go_sem, ↓reduceIte]) ⟨h, .refl _ _ _, by simp⟩ ?_ ?_
  · rintro ⟨o1, l1⟩ H1 J ⟨h2, h3, h4⟩ hlt
    simp only at h2 h3 h4
    simp (disch := first | omega | assumption) only [go_sem, ↓reduceIte]
    refine hQ _ _ H1 H1 [] nofun rfl (Low.refl _) ⟨rfl, o1, l1, by simpa using h2, h3, by rw [h4]; simp, fun _ => by rw [h4]; simp⟩
  · rintro done x rest ⟨o1, l1⟩ H1 J hd hlt hlt2 ⟨h2, h3, h4⟩ hJ
    simp only at h2 h3 h4
    have hl1 : l1.length ≤ l.length + 1 := by rw [h4]; simp only [List.length_append, List.length_map]; have := congrArg List.length hd; simp at this; omega
    have hg : ([[AV.str m]] : List (List AV)).getD done.length [] = [.str x] := by
      have : ([m].map fun k => [AV.str k]).getD done.length [] = [.str x] := getD_mid' hd
      exact this
    have hkl1 := cKs_len l1
    have hc := h2.cell
    have hlt1 : ((done.length : Int) < 1) = True := eq_true (by simpa using hlt)
    have hdl : done.length < 1 := by simpa using hlt2
    simp (disch := first | omega | assumption) only [hlt1, hg, hc, go_sem, ↓reduceIte]
    refine goP_ownS (by rw [hkl1]; exact h2.own) (by simp only [hkl1, List.length_cons, List.length_nil]; omega) (by simp only [hkl1, List.length_cons, List.length_nil, maxLen]; omega) fun o2 H2 hs2 => ?_
    obtain ⟨g1, g2, g3⟩ := h2.app (ts := [pk x]) hs2 (by simp [hkl1])
    have ek : cKs l1 ++ [[AV.int .i64 1, AV.str x]] = cKs (l1 ++ [pk x]) := cKs_app l1 (pk x)
    simp (disch := first | omega | assumption) only [g1, ek, wrap64, go_sem, ↓reduceIte]
    exact goJ (hJ (o2, l1 ++ [pk x]) _ ⟨g2, h3.trans h2.cell g3, by rw [h4]; simp⟩) (by simp (disch := first | omega | assumption) only [go_sem, ↓reduceIte])
end Go.Proofs.YticbbfbpeimkbaaGreatDoor
namespace Go.Proofs.YticbbfbpeimkbaaGreatDoor
open Go.Ab
theorem toksV_val (v : Val) : toksV v = if plainV v then tokV v else [] := by unfold toksV; rfl
theorem valueWC (v : Val) (hw : wfV v) (hv : 4 * bV v ≤ Lim) (fixed : Bool) : WC 237 [.agg (cV v), .bool fixed] (4 * bV v) 0 32 (fun dp => rightV2 dp fixed v) (tokV v) := by
  intro H w o l ok dp h h0 h1 hb
  have hvb : bV v ≤ Lim := by simp only [Lim] at hv ⊢; omega
  have htl : (toksV v).length ≤ 4 * bV v := by
    have := tokV_le v
    rw [toksV_val]; split
    · omega
    · simp
  have hkt := cKs_len (toksV v)
  have hdv := depthV_le v
  have hvl := varsV_le v []
  have hcv := cT_len (varsV v [])
  simp only [Lim] at hb hv
  refine ACalls.go ir237 ck237 (Nat.le_refl _) fun KP Q hQ => ?_
  have hc := h.cell
  have fin : ∀ (b : Bool), b = rightV2 dp fixed v → ∀ (H2 : Heap) (o2 : Own) (l2 : List Tok), WAt H2 w o2 l2 (ok && b) dp → WStep H o w H2 o2 → l2.length ≤ l.length + 0 → ((ok && b) = true → l2 = l ++ []) →
      ∀ (H3 : Heap) (o3 : Own), OwnS H2 o2 H3 o3 ((cKs l2).length + (cKs (toksV v)).length) 2 →
      H3 w = some (.cells [.sl o2 2 (cKs l2), .bool (ok && b), .int .i64 dp]) ∧ ∃ o' l', WAt (H3.upd w (.cells [.sl o3 2 (cKs l2 ++ cKs (toksV v)), .bool (ok && b), .int .i64 dp])) w o' l' (ok && rightV2 dp fixed v) dp ∧
        WStep H o w (H3.upd w (.cells [.sl o3 2 (cKs l2 ++ cKs (toksV v)), .bool (ok && b), .int .i64 dp])) o' ∧ l'.length ≤ l.length + 4 * bV v ∧ ((ok && rightV2 dp fixed v) = true → l' = l ++ tokV v) := by
    intro b hbr H2 o2 l2 h2 h3 h4 h5 H3 o3 hs
    obtain ⟨g1, g2, g3⟩ := h2.app (ts := toksV v) hs (by simp [cKs_len])
    rw [cKs_append] at g2 g3
    refine ⟨g1, o3, l2 ++ toksV v, by rw [← hbr]; exact g2, h3.trans h2.cell g3, by simp only [List.length_append]; omega, fun e => ?_⟩
    rw [← hbr] at e
    have er : rightV2 dp fixed v = true := by rw [← hbr]; simp only [Bool.and_eq_true] at e; exact e.2
    have ep : plainV v = true := by simp only [rightV2, Bool.and_eq_true] at er; exact er.1
    rw [h5 e, toksV_val, ep]; simp
  have d1 : IntKind.wrap .i64 (dp + depthV v) = dp + depthV v := wrap64 (by omega) (by omega)
  cases hp : plainV v with
  | false =>
    have hbr : false = rightV2 dp fixed v := by simp [rightV2, hp]
    simp (disch := first | omega | assumption) only [cV_len, cV_take, cV_splice, cM_len, cM_take, cM_splice, cM_mk, ir237, steps, st2, pev, rev, oev, optr, ibin, sbin, ishf, bound, mmAll, mm2, mk, mkArgs, AV.cells, AV.boxable, AV.one, AV.strip1, fillA, fillS, Nat.reduceEqDiff, reduceCtorEq, ↓reduceIte, Nat.reduceAdd, Int.reduceNeg, Nat.reduceLeDiff, Int.reduceToNat, Int.reduceEq, Int.reduceLT, Int.reduceLE, Int.reduceAdd]
    refine goK_pure (TokensC v hw hv) ?_
    simp (disch := first | omega | assumption) only [hp, steps, st2, pev, rev, oev, optr, ibin, sbin, ishf, bound, mmAll, mm2, mk, mkArgs, AV.cells, AV.boxable, AV.one, AV.strip1, fillA, fillS, Nat.reduceEqDiff, reduceCtorEq, ↓reduceIte, Nat.reduceAdd, Int.reduceNeg, Nat.reduceLeDiff, Int.reduceToNat, Int.reduceEq, Int.reduceLT, Int.reduceLE, Int.reduceAdd]
    refine goK_W0 (needC _) h (by omega) (by omega) (by simp only [Lim]; omega) fun o2 l2 H2 h2 h3 h4 h5 => ?_
    have hk2 := cKs_len l2
    have hc2 := h2.cell
    simp (disch := first | omega | assumption) only [hc2, steps, st2, pev, rev, oev, optr, ibin, sbin, ishf, bound, mmAll, mm2, mk, mkArgs, AV.cells, AV.boxable, AV.one, AV.strip1, fillA, fillS, Nat.reduceEqDiff, reduceCtorEq, ↓reduceIte, Nat.reduceAdd, Int.reduceNeg, Nat.reduceLeDiff, Int.reduceToNat, Int.reduceEq, Int.reduceLT, Int.reduceLE, Int.reduceAdd]
    refine goP_ownS (by rw [hk2]; exact h2.own) (by rw [hk2, hkt]; omega) (by rw [hk2, hkt]; simp only [maxLen]; omega) fun o3 H3 hs3 => ?_
    obtain ⟨g1, g2⟩ := fin _ hbr H2 o2 l2 h2 h3 h4 h5 H3 o3 hs3
    simp (disch := first | omega | assumption) only [g1, cKs_strip, steps, st2, pev, rev, oev, optr, ibin, sbin, ishf, bound, mmAll, mm2, mk, mkArgs, AV.cells, AV.boxable, AV.one, AV.strip1, fillA, fillS, Nat.reduceEqDiff, reduceCtorEq, ↓reduceIte, Nat.reduceAdd, Int.reduceNeg, Nat.reduceLeDiff, Int.reduceToNat, Int.reduceEq, Int.reduceLT, Int.reduceLE, Int.reduceAdd]
    exact hQ _ _ _ _ [] nofun rfl (Low.refl _) ⟨rfl, g2⟩
  | true =>
    by_cases hd : dp + depthV v ≤ 16
    case neg =>
      have hbr : false = rightV2 dp fixed v := by simp [rightV2, hd]
      simp (disch := first | omega | assumption) only [cV_len, cV_take, cV_splice, cM_len, cM_take, cM_splice, cM_mk, ir237, steps, st2, pev, rev, oev, optr, ibin, sbin, ishf, bound, mmAll, mm2, mk, mkArgs, AV.cells, AV.boxable, AV.one, AV.strip1, fillA, fillS, Nat.reduceEqDiff, reduceCtorEq, ↓reduceIte, Nat.reduceAdd, Int.reduceNeg, Nat.reduceLeDiff, Int.reduceToNat, Int.reduceEq, Int.reduceLT, Int.reduceLE, Int.reduceAdd]
      refine goK_pure (TokensC v hw hv) ?_
      simp (disch := first | omega | assumption) only [cV_len, cV_take, cV_splice, cM_len, cM_take, cM_splice, cM_mk, hp, hc, steps, st2, pev, rev, oev, optr, ibin, sbin, ishf, bound, mmAll, mm2, mk, mkArgs, AV.cells, AV.boxable, AV.one, AV.strip1, fillA, fillS, Nat.reduceEqDiff, reduceCtorEq, ↓reduceIte, Nat.reduceAdd, Int.reduceNeg, Nat.reduceLeDiff, Int.reduceToNat, Int.reduceEq, Int.reduceLT, Int.reduceLE, Int.reduceAdd]
      refine goK_pure (depthC v hvb) ?_
      simp (disch := first | omega | assumption) only [cV_len, cV_take, cV_splice, cM_len, cM_take, cM_splice, cM_mk, d1, hd, hc, steps, st2, pev, rev, oev, optr, ibin, sbin, ishf, bound, mmAll, mm2, mk, mkArgs, AV.cells, AV.boxable, AV.one, AV.strip1, fillA, fillS, Nat.reduceEqDiff, reduceCtorEq, ↓reduceIte, Nat.reduceAdd, Int.reduceNeg, Nat.reduceLeDiff, Int.reduceToNat, Int.reduceEq, Int.reduceLT, Int.reduceLE, Int.reduceAdd]
      refine goK_W0 (needC _) h (by omega) (by omega) (by simp only [Lim]; omega) fun o2 l2 H2 h2 h3 h4 h5 => ?_
      have hk2 := cKs_len l2
      have hc2 := h2.cell
      simp (disch := first | omega | assumption) only [hc2, steps, st2, pev, rev, oev, optr, ibin, sbin, ishf, bound, mmAll, mm2, mk, mkArgs, AV.cells, AV.boxable, AV.one, AV.strip1, fillA, fillS, Nat.reduceEqDiff, reduceCtorEq, ↓reduceIte, Nat.reduceAdd, Int.reduceNeg, Nat.reduceLeDiff, Int.reduceToNat, Int.reduceEq, Int.reduceLT, Int.reduceLE, Int.reduceAdd]
      refine goP_ownS (by rw [hk2]; exact h2.own) (by rw [hk2, hkt]; omega) (by rw [hk2, hkt]; simp only [maxLen]; omega) fun o3 H3 hs3 => ?_
      obtain ⟨g1, g2⟩ := fin _ hbr H2 o2 l2 h2 h3 h4 h5 H3 o3 hs3
      simp (disch := first | omega | assumption) only [g1, cKs_strip, steps, st2, pev, rev, oev, optr, ibin, sbin, ishf, bound, mmAll, mm2, mk, mkArgs, AV.cells, AV.boxable, AV.one, AV.strip1, fillA, fillS, Nat.reduceEqDiff, reduceCtorEq, ↓reduceIte, Nat.reduceAdd, Int.reduceNeg, Nat.reduceLeDiff, Int.reduceToNat, Int.reduceEq, Int.reduceLT, Int.reduceLE, Int.reduceAdd]
      exact hQ _ _ _ _ [] nofun rfl (Low.refl _) ⟨rfl, g2⟩
    cases fixed with
    | false =>
      have hbr : true = rightV2 dp false v := by simp [rightV2, hd, hp]
      simp (disch := first | omega | assumption) only [cV_len, cV_take, cV_splice, cM_len, cM_take, cM_splice, cM_mk, ir237, steps, st2, pev, rev, oev, optr, ibin, sbin, ishf, bound, mmAll, mm2, mk, mkArgs, AV.cells, AV.boxable, AV.one, AV.strip1, fillA, fillS, Nat.reduceEqDiff, reduceCtorEq, ↓reduceIte, Nat.reduceAdd, Int.reduceNeg, Nat.reduceLeDiff, Int.reduceToNat, Int.reduceEq, Int.reduceLT, Int.reduceLE, Int.reduceAdd]
      refine goK_pure (TokensC v hw hv) ?_
      simp (disch := first | omega | assumption) only [cV_len, cV_take, cV_splice, cM_len, cM_take, cM_splice, cM_mk, hp, hc, steps, st2, pev, rev, oev, optr, ibin, sbin, ishf, bound, mmAll, mm2, mk, mkArgs, AV.cells, AV.boxable, AV.one, AV.strip1, fillA, fillS, Nat.reduceEqDiff, reduceCtorEq, ↓reduceIte, Nat.reduceAdd, Int.reduceNeg, Nat.reduceLeDiff, Int.reduceToNat, Int.reduceEq, Int.reduceLT, Int.reduceLE, Int.reduceAdd]
      refine goK_pure (depthC v hvb) ?_
      simp (disch := first | omega | assumption) only [cV_len, cV_take, cV_splice, cM_len, cM_take, cM_splice, cM_mk, d1, hd, hc, steps, st2, pev, rev, oev, optr, ibin, sbin, ishf, bound, mmAll, mm2, mk, mkArgs, AV.cells, AV.boxable, AV.one, AV.strip1, fillA, fillS, Nat.reduceEqDiff, reduceCtorEq, ↓reduceIte, Nat.reduceAdd, Int.reduceNeg, Nat.reduceLeDiff, Int.reduceToNat, Int.reduceEq, Int.reduceLT, Int.reduceLE, Int.reduceAdd]
      refine goK_W0 (needC _) h (by omega) (by omega) (by simp only [Lim]; omega) fun o2 l2 H2 h2 h3 h4 h5 => ?_
      have hk2 := cKs_len l2
      have hc2 := h2.cell
      simp (disch := first | omega | assumption) only [hc2, steps, st2, pev, rev, oev, optr, ibin, sbin, ishf, bound, mmAll, mm2, mk, mkArgs, AV.cells, AV.boxable, AV.one, AV.strip1, fillA, fillS, Nat.reduceEqDiff, reduceCtorEq, ↓reduceIte, Nat.reduceAdd, Int.reduceNeg, Nat.reduceLeDiff, Int.reduceToNat, Int.reduceEq, Int.reduceLT, Int.reduceLE, Int.reduceAdd]
      refine goP_ownS (by rw [hk2]; exact h2.own) (by rw [hk2, hkt]; omega) (by rw [hk2, hkt]; simp only [maxLen]; omega) fun o3 H3 hs3 => ?_
      obtain ⟨g1, g2⟩ := fin _ hbr H2 o2 l2 h2 h3 h4 h5 H3 o3 hs3
      simp (disch := first | omega | assumption) only [g1, cKs_strip, steps, st2, pev, rev, oev, optr, ibin, sbin, ishf, bound, mmAll, mm2, mk, mkArgs, AV.cells, AV.boxable, AV.one, AV.strip1, fillA, fillS, Nat.reduceEqDiff, reduceCtorEq, ↓reduceIte, Nat.reduceAdd, Int.reduceNeg, Nat.reduceLeDiff, Int.reduceToNat, Int.reduceEq, Int.reduceLT, Int.reduceLE, Int.reduceAdd]
      exact hQ _ _ _ _ [] nofun rfl (Low.refl _) ⟨rfl, g2⟩
    | true =>
      simp (disch := first | omega | assumption) only [cV_len, cV_take, cV_splice, cM_len, cM_take, cM_splice, cM_mk, ir237, steps, st2, pev, rev, oev, optr, ibin, sbin, ishf, bound, mmAll, mm2, mk, mkArgs, AV.cells, AV.boxable, AV.one, AV.strip1, fillA, fillS, Nat.reduceEqDiff, reduceCtorEq, ↓reduceIte, Nat.reduceAdd, Int.reduceNeg, Nat.reduceLeDiff, Int.reduceToNat, Int.reduceEq, Int.reduceLT, Int.reduceLE, Int.reduceAdd]
      refine goK_pure (TokensC v hw hv) ?_
      simp (disch := first | omega | assumption) only [cV_len, cV_take, cV_splice, cM_len, cM_take, cM_splice, cM_mk, hp, hc, steps, st2, pev, rev, oev, optr, ibin, sbin, ishf, bound, mmAll, mm2, mk, mkArgs, AV.cells, AV.boxable, AV.one, AV.strip1, fillA, fillS, Nat.reduceEqDiff, reduceCtorEq, ↓reduceIte, Nat.reduceAdd, Int.reduceNeg, Nat.reduceLeDiff, Int.reduceToNat, Int.reduceEq, Int.reduceLT, Int.reduceLE, Int.reduceAdd]
      refine goK_pure (depthC v hvb) ?_
      simp (disch := first | omega | assumption) only [cV_len, cV_take, cV_splice, cM_len, cM_take, cM_splice, cM_mk, d1, hd, hc, steps, st2, pev, rev, oev, optr, ibin, sbin, ishf, bound, mmAll, mm2, mk, mkArgs, AV.cells, AV.boxable, AV.one, AV.strip1, fillA, fillS, Nat.reduceEqDiff, reduceCtorEq, ↓reduceIte, Nat.reduceAdd, Int.reduceNeg, Nat.reduceLeDiff, Int.reduceToNat, Int.reduceEq, Int.reduceLT, Int.reduceLE, Int.reduceAdd]
      refine goK_pure (varsPT v hvb) ?_
      by_cases hz : (varsV v []).length = 0
      · have hbr : true = rightV2 dp true v := by simp [rightV2, hd, hp, hz]
        have hz' : ¬ ((0 : Int) < (varsV v []).length) := by omega
        simp (disch := first | omega | assumption) only [cV_len, cV_take, cV_splice, cM_len, cM_take, cM_splice, cM_mk, hcv, hz', steps, st2, pev, rev, oev, optr, ibin, sbin, ishf, bound, mmAll, mm2, mk, mkArgs, AV.cells, AV.boxable, AV.one, AV.strip1, fillA, fillS, Nat.reduceEqDiff, reduceCtorEq, ↓reduceIte, Nat.reduceAdd, Int.reduceNeg, Nat.reduceLeDiff, Int.reduceToNat, Int.reduceEq, Int.reduceLT, Int.reduceLE, Int.reduceAdd]
        refine goK_W0 (needC _) h (by omega) (by omega) (by simp only [Lim]; omega) fun o2 l2 H2 h2 h3 h4 h5 => ?_
        have hk2 := cKs_len l2
        have hc2 := h2.cell
        simp (disch := first | omega | assumption) only [hc2, steps, st2, pev, rev, oev, optr, ibin, sbin, ishf, bound, mmAll, mm2, mk, mkArgs, AV.cells, AV.boxable, AV.one, AV.strip1, fillA, fillS, Nat.reduceEqDiff, reduceCtorEq, ↓reduceIte, Nat.reduceAdd, Int.reduceNeg, Nat.reduceLeDiff, Int.reduceToNat, Int.reduceEq, Int.reduceLT, Int.reduceLE, Int.reduceAdd]
        refine goP_ownS (by rw [hk2]; exact h2.own) (by rw [hk2, hkt]; omega) (by rw [hk2, hkt]; simp only [maxLen]; omega) fun o3 H3 hs3 => ?_
        obtain ⟨g1, g2⟩ := fin _ hbr H2 o2 l2 h2 h3 h4 h5 H3 o3 hs3
        simp (disch := first | omega | assumption) only [g1, cKs_strip, steps, st2, pev, rev, oev, optr, ibin, sbin, ishf, bound, mmAll, mm2, mk, mkArgs, AV.cells, AV.boxable, AV.one, AV.strip1, fillA, fillS, Nat.reduceEqDiff, reduceCtorEq, ↓reduceIte, Nat.reduceAdd, Int.reduceNeg, Nat.reduceLeDiff, Int.reduceToNat, Int.reduceEq, Int.reduceLT, Int.reduceLE, Int.reduceAdd]
        exact hQ _ _ _ _ [] nofun rfl (Low.refl _) ⟨rfl, g2⟩
      · have hbr : false = rightV2 dp true v := by simp [rightV2, hd, hp, hz]
        have hz' : ((0 : Int) < (varsV v []).length) = True := eq_true (by omega)
        simp (disch := first | omega | assumption) only [cV_len, cV_take, cV_splice, cM_len, cM_take, cM_splice, cM_mk, hcv, hz', steps, st2, pev, rev, oev, optr, ibin, sbin, ishf, bound, mmAll, mm2, mk, mkArgs, AV.cells, AV.boxable, AV.one, AV.strip1, fillA, fillS, Nat.reduceEqDiff, reduceCtorEq, ↓reduceIte, Nat.reduceAdd, Int.reduceNeg, Nat.reduceLeDiff, Int.reduceToNat, Int.reduceEq, Int.reduceLT, Int.reduceLE, Int.reduceAdd]
        refine goK_W0 (needC _) h (by omega) (by omega) (by simp only [Lim]; omega) fun o2 l2 H2 h2 h3 h4 h5 => ?_
        have hk2 := cKs_len l2
        have hc2 := h2.cell
        simp (disch := first | omega | assumption) only [hc2, steps, st2, pev, rev, oev, optr, ibin, sbin, ishf, bound, mmAll, mm2, mk, mkArgs, AV.cells, AV.boxable, AV.one, AV.strip1, fillA, fillS, Nat.reduceEqDiff, reduceCtorEq, ↓reduceIte, Nat.reduceAdd, Int.reduceNeg, Nat.reduceLeDiff, Int.reduceToNat, Int.reduceEq, Int.reduceLT, Int.reduceLE, Int.reduceAdd]
        refine goP_ownS (by rw [hk2]; exact h2.own) (by rw [hk2, hkt]; omega) (by rw [hk2, hkt]; simp only [maxLen]; omega) fun o3 H3 hs3 => ?_
        obtain ⟨g1, g2⟩ := fin _ hbr H2 o2 l2 h2 h3 h4 h5 H3 o3 hs3
        simp (disch := first | omega | assumption) only [g1, cKs_strip, steps, st2, pev, rev, oev, optr, ibin, sbin, ishf, bound, mmAll, mm2, mk, mkArgs, AV.cells, AV.boxable, AV.one, AV.strip1, fillA, fillS, Nat.reduceEqDiff, reduceCtorEq, ↓reduceIte, Nat.reduceAdd, Int.reduceNeg, Nat.reduceLeDiff, Int.reduceToNat, Int.reduceEq, Int.reduceLT, Int.reduceLE, Int.reduceAdd]
        exact hQ _ _ _ _ [] nofun rfl (Low.refl _) ⟨rfl, g2⟩
theorem fdivP (m : Int) (k : Nat) (hk : k ≤ 64) : m.fdiv (2 ^ min k IntKind.i64.bits) = m / 2 ^ k := by
  have e : min k IntKind.i64.bits = k := by show min k 64 = k; omega
  have hp : (0 : Int) ≤ 2 ^ k := by exact_mod_cast Nat.zero_le _
  rw [e, Int.fdiv_eq_ediv_of_nonneg _ hp]
theorem rightTyC (t : TyD) (hs : t.nm.length ≤ Lim) : Pure Tryz.prog 125 [.agg (cTy t)] (.bool (rightTy t)) := by
  refine Pure.go ir125 ck125 (Nat.le_refl _) fun KP Q hQ => ?_
  obtain ⟨nm, ls, ms⟩ := t
  simp only at hs
  simp (disch := first | omega | assumption) only [ir125, cTy, steps, st2, pev, rev, oev, optr, ibin, sbin, ishf, bound, mmAll, mm2, mk, mkArgs, AV.cells, AV.boxable, AV.one, AV.strip1, fillA, fillS, Nat.reduceEqDiff, reduceCtorEq, ↓reduceIte, Nat.reduceAdd, Int.reduceNeg, Nat.reduceLeDiff, Int.reduceToNat, Int.reduceEq, Int.reduceLT, Int.reduceLE, Int.reduceAdd]
  refine goK_pure (nameC nm hs) ?_
  cases h1 : nameM nm with
  | false =>
    simp (disch := first | omega | assumption) only [steps, st2, pev, rev, oev, optr, ibin, sbin, ishf, bound, mmAll, mm2, mk, mkArgs, AV.cells, AV.boxable, AV.one, AV.strip1, fillA, fillS, Nat.reduceEqDiff, reduceCtorEq, ↓reduceIte, Nat.reduceAdd, Int.reduceNeg, Nat.reduceLeDiff, Int.reduceToNat, Int.reduceEq, Int.reduceLT, Int.reduceLE, Int.reduceAdd]
    exact hQ _ _ _ _ nofun rfl (by simp [tupOf, envOf, AV.strip, AV.strip1, rightTy, h1])
  | true =>
    by_cases h2 : 0 ≤ ls
    case neg =>
      simp (disch := first | omega | assumption) only [h2, steps, st2, pev, rev, oev, optr, ibin, sbin, ishf, bound, mmAll, mm2, mk, mkArgs, AV.cells, AV.boxable, AV.one, AV.strip1, fillA, fillS, Nat.reduceEqDiff, reduceCtorEq, ↓reduceIte, Nat.reduceAdd, Int.reduceNeg, Nat.reduceLeDiff, Int.reduceToNat, Int.reduceEq, Int.reduceLT, Int.reduceLE, Int.reduceAdd]
      exact hQ _ _ _ _ nofun rfl (by simp [tupOf, envOf, AV.strip, AV.strip1, rightTy, h1, h2])
    by_cases h3 : ls ≤ 4
    case neg =>
      simp (disch := first | omega | assumption) only [h2, h3, steps, st2, pev, rev, oev, optr, ibin, sbin, ishf, bound, mmAll, mm2, mk, mkArgs, AV.cells, AV.boxable, AV.one, AV.strip1, fillA, fillS, Nat.reduceEqDiff, reduceCtorEq, ↓reduceIte, Nat.reduceAdd, Int.reduceNeg, Nat.reduceLeDiff, Int.reduceToNat, Int.reduceEq, Int.reduceLT, Int.reduceLE, Int.reduceAdd]
      exact hQ _ _ _ _ nofun rfl (by simp [tupOf, envOf, AV.strip, AV.strip1, rightTy, h1, h2, h3])
    by_cases h4 : 0 ≤ ms
    case neg =>
      simp (disch := first | omega | assumption) only [h2, h3, h4, steps, st2, pev, rev, oev, optr, ibin, sbin, ishf, bound, mmAll, mm2, mk, mkArgs, AV.cells, AV.boxable, AV.one, AV.strip1, fillA, fillS, Nat.reduceEqDiff, reduceCtorEq, ↓reduceIte, Nat.reduceAdd, Int.reduceNeg, Nat.reduceLeDiff, Int.reduceToNat, Int.reduceEq, Int.reduceLT, Int.reduceLE, Int.reduceAdd]
      exact hQ _ _ _ _ nofun rfl (by simp [tupOf, envOf, AV.strip, AV.strip1, rightTy, h1, h2, h3, h4])
    have w1 : IntKind.wrap .i64 (ls + 1) = ls + 1 := wrap64 (by omega) (by omega)
    have w2 : ¬ (ls + 1 < 0) := by omega
    have e1 : (ls + 1).toNat = ls.toNat + 1 := by omega
    have e2 := fdivP ms (ls.toNat + 1) (by omega)
    have hpow : (0 : Int) < 2 ^ (ls.toNat + 1) := by exact_mod_cast Nat.pos_of_ne_zero (by simp)
    have e3 : (ms / 2 ^ (ls.toNat + 1) = 0) = (ms < 2 ^ (ls.toNat + 1)) := propext ⟨fun h => by
      by_cases hlt : ms < 2 ^ (ls.toNat + 1)
      · exact hlt
      · have := (Int.le_ediv_iff_mul_le hpow).2 (show 1 * 2 ^ (ls.toNat + 1) ≤ ms by omega)
        omega, fun h => Int.ediv_eq_zero_of_lt h4 h⟩
    simp (disch := first | omega | assumption) only [h2, h3, h4, w1, w2, e1, e2, e3, steps, st2, pev, rev, oev, optr, ibin, sbin, ishf, bound, mmAll, mm2, mk, mkArgs, AV.cells, AV.boxable, AV.one, AV.strip1, fillA, fillS, Nat.reduceEqDiff, reduceCtorEq, ↓reduceIte, Nat.reduceAdd, Int.reduceNeg, Nat.reduceLeDiff, Int.reduceToNat, Int.reduceEq, Int.reduceLT, Int.reduceLE, Int.reduceAdd]
    exact hQ _ _ _ _ nofun rfl (by simp [tupOf, envOf, AV.strip, AV.strip1, rightTy, h1, h2, h3, h4])
end Go.Proofs.YticbbfbpeimkbaaGreatDoor
