/- Texts joined: Jv Jp Itoa NumR NumS Jr Jo Code Good Qr Deci Qr2 Qr3 Qr4 Tm Tp Tq Tp2 Pm Tp3 Wa Wb Wc ValF ValH Pt Pu. -/
import Derived.Lib.ValidLaws
import Derived.Lib.ItoaMem
import Derived.Lib.ParseIntBTie
import Derived.Lib.ItoaLen
import Derived.Lib.Join
import Derived.Lib.DecodeN
import Derived.Lib.TrimUEq
import Derived.Shelf.Strings.OnBuilder
import Derived.Test.YticbbfbpeimkbaaGreatDoorM1
import Derived.Test.YticbbfbpeimkbaaGreatDoorM2
import Derived.Test.YticbbfbpeimkbaaGreatDoorM3
import Derived.Test.YticbbfbpeimkbaaGreatDoorM4
set_option maxRecDepth 100000
set_option linter.unusedSimpArgs false
set_option linter.unusedVariables false
namespace Go.Proofs.YticbbfbpeimkbaaGreatDoor
open Go.Ab Go.Lib
theorem getD_app {a b : List UInt8} {i : Nat} (h : i < a.length) : (a ++ b).getD i 0 = a.getD i 0 := by
  simp [List.getD, List.getElem?_append_left h]
theorem getD_at (a : List UInt8) (c : UInt8) (b : List UInt8) : (a ++ c :: b).getD a.length 0 = c := by simp
theorem check_some {n b1 b2 b3 sz lo hi k : Nat} (h : checkN n b1 b2 b3 sz lo hi = some k) :
    2 ≤ k ∧ k ≤ 4 ∧ k ≤ n ∧ k = sz ∧ lo ≤ b1 ∧ (3 ≤ k → 128 ≤ b2) ∧ (4 ≤ k → 128 ≤ b3) ∧ ∀ n' c2 c3, k ≤ n' → (3 ≤ k → c2 = b2) → (4 ≤ k → c3 = b3) → checkN n' b1 c2 c3 sz lo hi = some k := by
  unfold checkN at h
  split at h
  · rename_i hs
    split at h
    · cases h
    · rename_i hc
      cases h
      refine ⟨by omega, by omega, by omega, hs.symm, by omega, by omega, by omega, fun n' c2 c3 h1 _ _ => ?_⟩
      unfold checkN; rw [if_pos hs, if_neg (by omega)]
  · rename_i hs2
    split at h
    · rename_i hs
      split at h
      · cases h
      · rename_i hc
        cases h
        refine ⟨by omega, by omega, by omega, hs.symm, by omega, by omega, by omega, fun n' c2 c3 h1 h2 _ => ?_⟩
        have := h2 (by omega)
        unfold checkN; rw [if_neg hs2, if_pos hs, if_neg (by omega)]
    · rename_i hs3
      split at h
      · rename_i hs
        split at h
        · cases h
        · rename_i hc
          cases h
          refine ⟨by omega, by omega, by omega, hs.symm, by omega, by omega, by omega, fun n' c2 c3 h1 h2 h3 => ?_⟩
          have := h2 (by omega)
          have := h3 (by omega)
          unfold checkN; rw [if_neg hs2, if_neg hs3, if_pos hs, if_neg (by omega)]
      · cases h
theorem lo_T : ∀ x : Fin 256, 2 ≤ firstT x.val % 8 → firstT x.val % 8 ≤ 4 → 128 ≤ accLo (firstT x.val / 16) := by decide +kernel
theorem lo_ge {b : Nat} (h : b < 256) (h1 : 2 ≤ firstT b % 8) (h2 : firstT b % 8 ≤ 4) : 128 ≤ accLo (firstT b / 16) := lo_T ⟨b, h⟩ h1 h2
theorem validD_app : ∀ (n : Nat) (a b : List UInt8), a.length ≤ n → validD a = true → validD (a ++ b) = validD b
  | n, [], b, _, _ => by simp
  | 0, x :: t, b, h, _ => by simp at h
  | n + 1, x :: t, b, h, hv => by
    by_cases hx : x.toNat < 128
    · rw [validD_cons x t hx] at hv
      rw [List.cons_append, validD_cons x _ hx]
      exact validD_app n t b (by simpa using h) hv
    · have h0 : 128 ≤ ((x :: t).getD 0 0).toNat := by simp; omega
      rw [validD_lead (x :: t) (by simp) h0] at hv
      split at hv
      · cases hv
      · rename_i k hk
        obtain ⟨k2, k4, kl, ks, klo, _, _, kall⟩ := check_some hk
        have hkl : k ≤ (x :: t).length := kl
        have e1 : ((x :: t ++ b).getD 1 0) = (x :: t).getD 1 0 := getD_app (by omega)
        have e0 : ((x :: t ++ b).getD 0 0) = (x :: t).getD 0 0 := getD_app (by omega)
        rw [validD_lead (x :: t ++ b) (by simp) (by rw [e0]; exact h0), e0, e1]
        rw [kall (x :: t ++ b).length _ _ (by simp only [List.length_append]; omega) (fun h3 => by rw [getD_app (by omega)]) (fun h3 => by rw [getD_app (by omega)])]
        simp only
        rw [List.drop_append_of_le_length hkl]
        exact validD_app n _ b (by rw [List.length_drop]; omega) hv
theorem validA {a b : List UInt8} (h : validD a = true) : validD (a ++ b) = validD b := validD_app a.length a b (Nat.le_refl _) h
theorem validA2 {a b : List UInt8} (h : validD a = true) (h' : validD b = true) : validD (a ++ b) = true := (validA h).trans h'
theorem validD_split (c : UInt8) (hc : c.toNat < 128) : ∀ (n : Nat) (a b : List UInt8), a.length ≤ n → validD (a ++ c :: b) = true → validD a = true ∧ validD b = true
  | n, [], b, _, hv => by
    rw [List.nil_append, validD_cons c b hc] at hv
    exact ⟨validD_nil, hv⟩
  | 0, x :: t, b, h, _ => by simp at h
  | n + 1, x :: t, b, h, hv => by
    by_cases hx : x.toNat < 128
    · rw [List.cons_append, validD_cons x _ hx] at hv
      rw [validD_cons x t hx]
      exact validD_split c hc n t b (by simpa using h) hv
    · have h0 : 128 ≤ ((x :: t ++ c :: b).getD 0 0).toNat := by simp; omega
      have e0 : ((x :: t ++ c :: b).getD 0 0) = (x :: t).getD 0 0 := getD_app (by simp)
      have ec : ((x :: t ++ c :: b).getD (x :: t).length 0) = c := getD_at ..
      rw [validD_lead (x :: t ++ c :: b) (by simp) h0] at hv
      split at hv
      · cases hv
      · rename_i k hk
        obtain ⟨k2, k4, kl, ks, klo, k3, k4', kall⟩ := check_some hk
        have hlo := lo_ge ((x :: t ++ c :: b).getD 0 0).toNat_lt (by omega) (by omega)
        have hkl : k ≤ (x :: t).length := by
          rcases Nat.lt_or_ge (x :: t).length k with h1 | h1
          · exfalso
            have hl : (x :: t).length = 1 ∨ (x :: t).length = 2 ∨ (x :: t).length = 3 := by simp only [List.length_cons] at h1 ⊢; omega
            rcases hl with e | e | e
            · rw [e] at ec h1; rw [ec] at klo; omega
            · rw [e] at ec h1; rw [ec] at k3; have := k3 (by omega); omega
            · rw [e] at ec h1; rw [ec] at k4'; have := k4' (by omega); omega
          · exact h1
        have e1 : ((x :: t ++ c :: b).getD 1 0) = (x :: t).getD 1 0 := getD_app (by omega)
        rw [List.drop_append_of_le_length hkl] at hv
        obtain ⟨g1, g2⟩ := validD_split c hc n _ b (by rw [List.length_drop]; omega) hv
        refine ⟨?_, g2⟩
        rw [validD_lead (x :: t) (by simp) (by rw [← e0]; exact h0), ← e0, ← e1]
        rw [kall (x :: t).length _ _ hkl (fun h3 => by rw [getD_app (by omega)]) (fun h3 => by rw [getD_app (by omega)])]
        exact g1
theorem validS {c : UInt8} (hc : c.toNat < 128) {a b : List UInt8} (hv : validD (a ++ c :: b) = true) : validD a = true ∧ validD b = true := validD_split c hc a.length a b (Nat.le_refl _) hv
theorem ofN {n : Nat} (h : n < 256) : (UInt8.ofNat n).toNat = n := by rw [UInt8.toNat_ofNat']; omega
theorem enc_valid {n : Nat} (h1 : n ≤ 1114111) (h2 : ¬ (55296 ≤ n ∧ n ≤ 57343)) : validD (encM n) = true := by
  unfold encM
  split
  · rename_i h
    rw [validD_cons _ _ (by rw [ofN (by omega)]; omega)]; rfl
  · split
    · rename_i h0 h
      rw [validD_lead _ (by simp) (by simp only [List.getD_cons_zero]; rw [ofN (by omega)]; omega)]
      simp only [List.getD_cons_zero, List.getD_cons_succ, List.getD_nil, List.length_cons, List.length_nil]
      rw [ofN (show 192 + n / 64 < 256 by omega), ofN (show 128 + n % 64 < 256 by omega)]
      have e : firstT (192 + n / 64) = 2 := by unfold firstT; rw [if_neg (by omega), if_neg (by omega), if_pos (by omega)]
      rw [e]
      have e2 : checkN (0 + 1 + 1) (128 + n % 64) (0 : UInt8).toNat (0 : UInt8).toNat (2 % 8) (accLo (2 / 16)) (accHi (2 / 16)) = some 2 := by
        unfold checkN accLo accHi; simp; omega
      rw [e2]; rfl
    · split
      · rename_i h0 h1' h
        rw [validD_lead _ (by simp) (by simp only [List.getD_cons_zero]; rw [ofN (by omega)]; omega)]
        simp only [List.getD_cons_zero, List.getD_cons_succ, List.getD_nil, List.length_cons, List.length_nil]
        rw [ofN (show 224 + n / 4096 < 256 by omega), ofN (show 128 + n / 64 % 64 < 256 by omega), ofN (show 128 + n % 64 < 256 by omega)]
        have e2 : checkN (0 + 1 + 1 + 1) (128 + n / 64 % 64) (128 + n % 64) (0 : UInt8).toNat (firstT (224 + n / 4096) % 8) (accLo (firstT (224 + n / 4096) / 16)) (accHi (firstT (224 + n / 4096) / 16)) = some 3 := by
          have c : n / 4096 = 0 ∨ (1 ≤ n / 4096 ∧ n / 4096 < 13) ∨ n / 4096 = 13 ∨ (14 ≤ n / 4096 ∧ n / 4096 < 16) := by omega
          rcases c with c | c | c | c
          · rw [c]; unfold checkN; simp [firstT, accLo, accHi]; omega
          · have e : firstT (224 + n / 4096) = 3 := by unfold firstT; rw [if_neg (by omega), if_neg (by omega), if_neg (by omega), if_neg (by omega), if_pos (by omega)]
            rw [e]; unfold checkN; simp [accLo, accHi]; omega
          · rw [c]; unfold checkN; simp [firstT, accLo, accHi]; omega
          · have e : firstT (224 + n / 4096) = 3 := by unfold firstT; rw [if_neg (by omega), if_neg (by omega), if_neg (by omega), if_neg (by omega), if_neg (by omega), if_neg (by omega), if_pos (by omega)]
            rw [e]; unfold checkN; simp [accLo, accHi]; omega
        rw [e2]; rfl
      · rename_i h0 h1' h
        rw [validD_lead _ (by simp) (by simp only [List.getD_cons_zero]; rw [ofN (by omega)]; omega)]
        simp only [List.getD_cons_zero, List.getD_cons_succ, List.getD_nil, List.length_cons, List.length_nil]
        rw [ofN (show 240 + n / 262144 < 256 by omega), ofN (show 128 + n / 4096 % 64 < 256 by omega), ofN (show 128 + n / 64 % 64 < 256 by omega), ofN (show 128 + n % 64 < 256 by omega)]
        have e2 : checkN (0 + 1 + 1 + 1 + 1) (128 + n / 4096 % 64) (128 + n / 64 % 64) (128 + n % 64) (firstT (240 + n / 262144) % 8) (accLo (firstT (240 + n / 262144) / 16)) (accHi (firstT (240 + n / 262144) / 16)) = some 4 := by
          have c : n / 262144 = 0 ∨ (1 ≤ n / 262144 ∧ n / 262144 < 4) ∨ n / 262144 = 4 := by omega
          rcases c with c | c | c
          · rw [c]; unfold checkN; simp [firstT, accLo, accHi]; omega
          · have e : firstT (240 + n / 262144) = 4 := by unfold firstT; rw [if_neg (by omega), if_neg (by omega), if_neg (by omega), if_neg (by omega), if_neg (by omega), if_neg (by omega), if_neg (by omega), if_neg (by omega), if_pos (by omega)]
            rw [e]; unfold checkN; simp [accLo, accHi]; omega
          · rw [c]; unfold checkN; simp [firstT, accLo, accHi]; omega
        rw [e2]; rfl
theorem join_valid : ∀ (u : List Nat) (s : List UInt8), joinM u = some s → validD s = true
  | [], s, h => by cases h; rfl
  | u :: [], s, h => by
    simp only [joinM] at h
    split at h
    · cases h
    · rename_i h1
      split at h
      · cases h
      · simp only [Option.map_some, Option.some.injEq] at h
        subst h
        rw [List.append_nil]
        exact enc_valid (by omega) (by omega)
  | u :: v :: r, s, h => by
    rw [joinM] at h
    split at h
    · cases h
    · rename_i h1
      split at h
      · rename_i h2
        split at h
        · cases h
        · rename_i h3
          cases hr : joinM r with
          | none => simp [hr] at h
          | some x =>
            simp only [hr, Option.map_some, Option.some.injEq] at h
            subst h
            exact validA2 (enc_valid (by omega) (by omega)) (join_valid r x hr)
      · rename_i h2
        cases hr : joinM (v :: r) with
        | none => simp [hr] at h
        | some x =>
          simp only [hr, Option.map_some, Option.some.injEq] at h
          subst h
          exact validA2 (enc_valid (by omega) (by omega)) (join_valid (v :: r) x hr)
end Go.Proofs.YticbbfbpeimkbaaGreatDoor
namespace Go.Proofs.YticbbfbpeimkbaaGreatDoor
open Go.Ab
mutual
def singV : Val → Bool
  | .mk k _ _ l m => !(decide (k = 5) || decide (k = 8)) && (singVs l && singMs [] m)
def singVs : List Val → Bool
  | [] => true
  | v :: r => singV v && singVs r
def singM : Mem → Bool
  | .mk _ v => singV v
def singMs : List (List UInt8) → List Mem → Bool
  | _, [] => true
  | ns, x :: r => !(ns.contains (nmM x)) && (singM x && singMs (ns ++ [nmM x]) r)
def nmM : Mem → List UInt8
  | .mk s _ => s
end
def rightV (v : Val) : Bool := goodV v && singV v
end Go.Proofs.YticbbfbpeimkbaaGreatDoor
namespace Go.Proofs.YticbbfbpeimkbaaGreatDoor
open Go.Lib
end Go.Proofs.YticbbfbpeimkbaaGreatDoor
namespace Go.Proofs.YticbbfbpeimkbaaGreatDoor
open Go.Ab
theorem u8_ne {c : UInt8} {n : Nat} (hn : n < 256) (h : c ≠ UInt8.ofNat n) : ¬ ((c.toNat : Int) = n) := fun e => by
  have h2 := u8_is c n hn
  rw [e] at h2
  simp at h2
  exact h h2
theorem numeralR (s : List UInt8) (hs : s.length ≤ Lim) : Pure Tryz.prog 257 [.str s] (.tup [.int .i64 (numN s).1, .int .i64 (numN s).2]) := by
  refine Pure.go ir257 ck257 (Nat.le_refl _) fun KP Q hQ => ?_
  have hs' := hs
  simp only [Lim] at hs
  simp (disch := first | omega | assumption) only [ir257, go_sem, ↓reduceIte]
  refine goU_cut (fun i : Nat => [(4, .int .i64 i)]) (fun i H => (i = if s.head? = some 45 then 1 else 0) ∧ H = Heap.emp) (fun J hJ => ?_) ?_
  · cases s with
    | nil =>
      simp (disch := first | omega | assumption) only [go_sem, ↓reduceIte]
      exact goJ (hJ 0 _ ⟨rfl, rfl⟩) (by simp (disch := first | omega | assumption) only [go_sem, ↓reduceIte])
    | cons c t =>
      have hp : (0 : Int) < ((t.length + 1 : Nat) : Int) := by omega
      by_cases h : c = 45
      · have h' : (c.toNat : Int) = 45 := by rw [h]; rfl
        simp (disch := first | omega | assumption) only [hp, h', go_sem, ↓reduceIte]
        exact goJ (hJ 1 _ ⟨by rw [h]; rfl, rfl⟩) (by simp (disch := first | omega | assumption) only [wrap64, go_sem, ↓reduceIte])
      · have h' : ¬ (c.toNat : Int) = 45 := u8_ne (n := 45) (by omega) h
        simp (disch := first | omega | assumption) only [hp, h', go_sem, ↓reduceIte]
        exact goJ (hJ 0 _ ⟨by simp [h], rfl⟩) (by simp (disch := first | omega | assumption) only [go_sem, ↓reduceIte])
  rintro i H ⟨hi, rfl⟩
  have hil : i ≤ s.length := by
    rw [hi]; split
    · rename_i h; cases s <;> simp_all
    · omega
  have hw : wholeN s = if run1 (s.drop i) = 0 then 0 else i + intN (s.drop i) := by
    unfold wholeN
    rw [hi]
    split
    · cases s <;> simp_all
    · simp only [List.drop_zero, Nat.zero_add]
      split
      · rename_i h; simp [intN, h]
      · rfl
  have hrl := run1_le (s.drop i)
  rw [List.length_drop] at hrl
  simp (disch := first | omega | assumption) only [go_sem, ↓reduceIte]
  refine goK_pure (runR s i (by omega) (by omega) hs') ?_
  rw [Int.toNat_natCast]
  by_cases h0 : run1 (s.drop i) = 0
  · have hw0 : wholeN s = 0 := by rw [hw, if_pos h0]
    simp (disch := first | omega | assumption) only [h0, go_sem, ↓reduceIte]
    exact hQ _ _ _ _ nofun rfl (by simp [tupOf, envOf, AV.strip, AV.strip1, numN, hw0])
  have h0' : ¬ ((run1 (s.drop i) : Int) = 0) := by omega
  rw [if_neg h0] at hw
  simp (disch := first | omega | assumption) only [h0', go_sem, ↓reduceIte]
  have hlt : (i : Int) < s.length := by omega
  refine goU_cut (fun k : Nat => [(5, .int .i64 k)]) (fun k H => k = intN (s.drop i) ∧ H = Heap.emp) (fun J hJ => ?_) ?_
  · rcases drop_cases s i with ⟨e1, e2⟩ | ⟨e1, e2⟩
    · rw [e1] at h0; exact absurd rfl h0
    have hg : (s.drop i).getD 0 0 = s.getD i 0 := by rw [e2]; rfl
    by_cases h : s.getD i 0 = 48
    · have h' : ((s.getD i 0).toNat : Int) = 48 := by rw [h]; rfl
      simp (disch := first | omega | assumption) only [hlt, h', go_sem, ↓reduceIte]
      exact goJ (hJ 1 _ ⟨by unfold intN; rw [if_neg h0, hg, if_pos h], rfl⟩) (by simp (disch := first | omega | assumption) only [go_sem, ↓reduceIte])
    · have h' : ¬ ((s.getD i 0).toNat : Int) = 48 := u8_ne (n := 48) (by omega) h
      simp (disch := first | omega | assumption) only [hlt, h', go_sem, ↓reduceIte]
      exact goJ (hJ (run1 (s.drop i)) _ ⟨by unfold intN; rw [if_neg h0, hg, if_neg h], rfl⟩) (by simp (disch := first | omega | assumption) only [go_sem, ↓reduceIte])
  rintro k H ⟨hk, rfl⟩
  subst hk
  have hn0 : wholeN s ≠ 0 := by have := intN_pos h0; omega
  have hwl := wholeN_le s
  have hik : (i : Int) + (intN (s.drop i) : Int) = wholeN s := by omega
  have hnum : numN s = (wholeN s + fracN (s.drop (wholeN s)) + powN (s.drop (wholeN s + fracN (s.drop (wholeN s)))), if fracN (s.drop (wholeN s)) = 0 ∧ powN (s.drop (wholeN s + fracN (s.drop (wholeN s)))) = 0 then 3 else 4) := by
    unfold numN; rw [if_neg hn0]
  generalize wholeN s = n at hn0 hwl hik hnum
  simp (disch := first | omega | assumption) only [wrap64, hik, go_sem, ↓reduceIte]
  refine goU_cut (fun x : Nat × Int => [(4, .int .i64 x.1), (6, .int .i64 x.2)]) (fun x H => x = (n + fracN (s.drop n), if fracN (s.drop n) = 0 then 3 else 4) ∧ H = Heap.emp) (fun J hJ => ?_) ?_
  · simp (disch := first | omega | assumption) only [wrap64, hik, go_sem, ↓reduceIte]
    rcases drop_cases s n with ⟨e1, e2⟩ | ⟨e1, e2⟩
    · have hlt : ¬ (n : Int) < s.length := by omega
      have hf : fracN (s.drop n) = 0 := by simp [fracN, e1]
      simp (disch := first | omega | assumption) only [hlt, go_sem, ↓reduceIte]
      exact goJ (hJ (n, 3) _ ⟨by simp [hf], rfl⟩) (by simp (disch := first | omega | assumption) only [go_sem, ↓reduceIte])
    · have hlt : (n : Int) < s.length := by omega
      by_cases h : s.getD n 0 = 46
      · have hto : ((n : Int) + 1).toNat = n + 1 := by omega
        have hv : ((s.getD n 0).toNat : Int) = 46 := by rw [h]; rfl
        simp (disch := first | omega | assumption) only [hlt, hv, wrap64, go_sem, ↓reduceIte]
        refine goK_pure (runR s (n + 1) (by omega) (by omega) hs') ?_
        rw [hto]
        have hrl2 := run1_le (s.drop (n + 1))
        rw [List.length_drop] at hrl2
        by_cases hr : 0 < run1 (s.drop (n + 1))
        · have hf : fracN (s.drop n) = 1 + run1 (s.drop (n + 1)) := by rw [e2, h]; simp only [fracN, List.head?_cons, List.tail_cons, true_and]; rw [if_pos hr]
          have hr' : (0 : Int) < run1 (s.drop (n + 1)) := by omega
          simp (disch := first | omega | assumption) only [hr', wrap64, go_sem, ↓reduceIte]
          refine goK_pure (runR s (n + 1) (by omega) (by omega) hs') ?_
          rw [hto]
          simp (disch := first | omega | assumption) only [wrap64, go_sem, ↓reduceIte]
          exact goJ (hJ (n + 1 + run1 (s.drop (n + 1)), 4) _ ⟨by rw [hf]; simp; omega, rfl⟩) (by simp (disch := first | omega | assumption) only [Int.natCast_add, Int.natCast_one, go_sem, ↓reduceIte])
        · have hf : fracN (s.drop n) = 0 := by rw [e2, h]; simp only [fracN, List.head?_cons, List.tail_cons, true_and]; rw [if_neg hr]
          have hr' : ¬ (0 : Int) < run1 (s.drop (n + 1)) := by omega
          simp (disch := first | omega | assumption) only [hr', go_sem, ↓reduceIte]
          exact goJ (hJ (n, 3) _ ⟨by simp [hf], rfl⟩) (by simp (disch := first | omega | assumption) only [go_sem, ↓reduceIte])
      · have h' : ¬ ((s.getD n 0).toNat : Int) = 46 := u8_ne (n := 46) (by omega) h
        have hf : fracN (s.drop n) = 0 := by rw [e2]; simp only [fracN, List.head?_cons, Option.some.injEq]; rw [if_neg (fun e => h e.1)]
        simp (disch := first | omega | assumption) only [hlt, h', go_sem, ↓reduceIte]
        exact goJ (hJ (n, 3) _ ⟨by simp [hf], rfl⟩) (by simp (disch := first | omega | assumption) only [go_sem, ↓reduceIte])
  rintro ⟨m, k⟩ H ⟨hx, rfl⟩
  simp only [Prod.mk.injEq] at hx
  obtain ⟨hm, hk⟩ := hx
  have hml : m ≤ s.length := by
    have := fracN_le (s.drop n)
    rw [List.length_drop] at this
    omega
  rw [← hm] at hnum
  simp (disch := first | omega | assumption) only [go_sem, ↓reduceIte]
  refine goU_cut (fun x : Nat × Int => [(4, .int .i64 x.1), (6, .int .i64 x.2)]) (fun x H => x = (m + powN (s.drop m), if powN (s.drop m) = 0 then k else 4) ∧ H = Heap.emp) (fun J hJ => ?_) ?_
  · rcases drop_cases s m with ⟨e1, e2⟩ | ⟨e1, e2⟩
    · have hlt : ¬ (m : Int) < s.length := by omega
      have hp : powN (s.drop m) = 0 := by rw [e1]; rfl
      simp (disch := first | omega | assumption) only [hlt, go_sem, ↓reduceIte]
      exact goJ (hJ (m, k) _ ⟨by simp [hp], rfl⟩) (by simp (disch := first | omega | assumption) only [go_sem, ↓reduceIte])
    · have hlt : (m : Int) < s.length := by omega
      obtain ⟨c, hc⟩ : ∃ c, s.getD m 0 = c := ⟨_, rfl⟩
      rw [hc] at e2
      by_cases h : isE c = true
      · have hE : c = 101 ∨ c = 69 := by simpa [isE] using h
        have hp : powN (s.drop m) = if run1 (s.drop (m + 1 + sgN (s.drop (m + 1)))) = 0 then 0 else 1 + sgN (s.drop (m + 1)) + run1 (s.drop (m + 1 + sgN (s.drop (m + 1)))) := by
          rw [e2]; simp only [powN, h, if_true, List.drop_drop]
        have hto : ((m : Int) + 1).toNat = m + 1 := by omega
        have hm1 : (0 : Int) ≤ (m : Int) + 1 := by omega
        have hsg := sgN_le (s.drop (m + 1))
        rw [List.length_drop] at hsg
        rcases hE with he | he
        case' inl =>
          have hv : (c.toNat : Int) = 101 := by rw [he]; rfl
          simp (disch := first | omega | assumption) only [hlt, hc, hv, wrap64, go_sem, ↓reduceIte]
        case' inr =>
          have hv : (c.toNat : Int) = 69 := by rw [he]; rfl
          have hv2 : ¬ (69 : Int) = 101 := by omega
          simp (disch := first | omega | assumption) only [hlt, hc, hv, hv2, wrap64, go_sem, ↓reduceIte]
        all_goals
          refine goU_cut (fun q : Nat => [(7, .int .i64 q)]) (fun q H => q = m + 1 + sgN (s.drop (m + 1)) ∧ H = Heap.emp) (fun J2 hJ2 => ?_) ?_
          · rcases drop_cases s (m + 1) with ⟨f1, f2⟩ | ⟨f1, f2⟩
            · have hq : ¬ ((m : Int) + 1 < s.length) := by omega
              simp (disch := first | omega | assumption) only [wrap64, hq, go_sem, ↓reduceIte]
              exact goJ (hJ2 (m + 1) _ ⟨by rw [f1]; rfl, rfl⟩) (by simp (disch := first | omega | assumption) only [Int.natCast_add, Int.natCast_one, go_sem, ↓reduceIte])
            · have hq : (m : Int) + 1 < s.length := by omega
              obtain ⟨d, hd⟩ : ∃ d, s.getD (m + 1) 0 = d := ⟨_, rfl⟩
              rw [hd] at f2
              by_cases d43 : d = 43
              · have hv3 : (d.toNat : Int) = 43 := by rw [d43]; rfl
                simp (disch := first | omega | assumption) only [wrap64, hq, hto, hm1, hd, hv3, go_sem, ↓reduceIte]
                exact goJ (hJ2 (m + 1 + 1) _ ⟨by rw [f2, d43]; rfl, rfl⟩) (by simp (disch := first | omega | assumption) only [Int.natCast_add, Int.natCast_one, go_sem, ↓reduceIte])
              · have hv3 : ¬ (d.toNat : Int) = 43 := u8_ne (n := 43) (by omega) d43
                by_cases d45 : d = 45
                · have hv4 : (d.toNat : Int) = 45 := by rw [d45]; rfl
                  have hv5 : ¬ (45 : Int) = 43 := by omega
                  simp (disch := first | omega | assumption) only [wrap64, hq, hto, hm1, hd, hv4, hv5, go_sem, ↓reduceIte]
                  exact goJ (hJ2 (m + 1 + 1) _ ⟨by rw [f2, d45]; rfl, rfl⟩) (by simp (disch := first | omega | assumption) only [Int.natCast_add, Int.natCast_one, go_sem, ↓reduceIte])
                · have hv4 : ¬ (d.toNat : Int) = 45 := u8_ne (n := 45) (by omega) d45
                  simp (disch := first | omega | assumption) only [wrap64, hq, hto, hm1, hd, hv3, hv4, go_sem, ↓reduceIte]
                  exact goJ (hJ2 (m + 1) _ ⟨by rw [f2]; simp [sgN, d43, d45], rfl⟩) (by simp (disch := first | omega | assumption) only [Int.natCast_add, Int.natCast_one, go_sem, ↓reduceIte])
          rintro q H ⟨hq, rfl⟩
          rw [← hq] at hp
          have hql : q ≤ s.length := by omega
          simp (disch := first | omega | assumption) only [go_sem, ↓reduceIte]
          refine goK_pure (runR s q (by omega) (by omega) hs') ?_
          rw [Int.toNat_natCast]
          have hrl3 := run1_le (s.drop q)
          rw [List.length_drop] at hrl3
          by_cases hr : run1 (s.drop q) = 0
          · have hr' : ¬ (0 : Int) < run1 (s.drop q) := by omega
            rw [if_pos hr] at hp
            simp (disch := first | omega | assumption) only [hr', go_sem, ↓reduceIte]
            exact goJ (hJ (m, k) _ ⟨by simp [hp], rfl⟩) (by simp (disch := first | omega | assumption) only [go_sem, ↓reduceIte])
          · have hr' : (0 : Int) < run1 (s.drop q) := by omega
            rw [if_neg hr] at hp
            simp (disch := first | omega | assumption) only [hr', go_sem, ↓reduceIte]
            refine goK_pure (runR s q (by omega) (by omega) hs') ?_
            rw [Int.toNat_natCast]
            simp (disch := first | omega | assumption) only [wrap64, go_sem, ↓reduceIte]
            exact goJ (hJ (q + run1 (s.drop q), 4) _ ⟨by rw [hp]; simp; omega, rfl⟩) (by simp (disch := first | omega | assumption) only [Int.natCast_add, go_sem, ↓reduceIte])
      · have h1 : c ≠ 101 := fun e => h (by simp [isE, e])
        have h2 : c ≠ 69 := fun e => h (by simp [isE, e])
        have hp : powN (s.drop m) = 0 := by rw [e2]; simp [powN, h]
        have h1' : ¬ (c.toNat : Int) = 101 := u8_ne (n := 101) (by omega) h1
        have h2' : ¬ (c.toNat : Int) = 69 := u8_ne (n := 69) (by omega) h2
        simp (disch := first | omega | assumption) only [hlt, hc, h1', h2', go_sem, ↓reduceIte]
        exact goJ (hJ (m, k) _ ⟨by simp [hp], rfl⟩) (by simp (disch := first | omega | assumption) only [go_sem, ↓reduceIte])
  rintro ⟨m2, k2⟩ H ⟨hx, rfl⟩
  simp only [Prod.mk.injEq] at hx
  obtain ⟨hm2, hk2⟩ := hx
  have hfin : numN s = (m2, k2) := by
    rw [hnum, hm2, hk2, hk]
    by_cases a : fracN (s.drop n) = 0 <;> by_cases b : powN (s.drop m) = 0 <;> simp [a, b]
  simp (disch := first | omega | assumption) only [go_sem, ↓reduceIte]
  exact hQ _ _ _ _ nofun rfl (by simp [tupOf, envOf, AV.strip, AV.strip1, hfin])
end Go.Proofs.YticbbfbpeimkbaaGreatDoor
namespace Go.Proofs.YticbbfbpeimkbaaGreatDoor
open Go.Ab
theorem NumberR (s : List UInt8) (hs : s.length ≤ Lim) : Pure Tryz.prog 240 [.str s] (.int .i64 (numK s)) := by
  refine Pure.go ir240 ck240 (Nat.le_refl _) fun KP Q hQ => ?_
  simp (disch := first | omega | assumption) only [ir240, go_sem, ↓reduceIte]
  refine goK_pure (numeralR s hs) ?_
  by_cases h : (numN s).1 = s.length
  · have h' : ((numN s).1 : Int) = s.length := by omega
    simp (disch := first | omega | assumption) only [h', go_sem, ↓reduceIte]
    exact hQ _ _ _ _ nofun rfl (by simp [tupOf, envOf, AV.strip, AV.strip1, numK, h])
  · have h' : ¬ ((numN s).1 : Int) = s.length := by omega
    simp (disch := first | omega | assumption) only [h', go_sem, ↓reduceIte]
    exact hQ _ _ _ _ nofun rfl (by simp [tupOf, envOf, AV.strip, AV.strip1, numK, h])
def dg (c : UInt8) : Int := IntKind.u8.wrap ((c.toNat : Int) - 48)
theorem dg_le (c : UInt8) : 0 ≤ dg c ∧ dg c ≤ 255 := by
  unfold dg IntKind.wrap
  simp [IntKind.signed, IntKind.bits]
  omega
theorem dg_digit {c : UInt8} (h : isD c = true) : dg c = (c.toNat : Int) - 48 := by
  simp only [isD, Bool.and_eq_true, decide_eq_true_eq] at h
  unfold dg IntKind.wrap
  simp [IntKind.signed, IntKind.bits]
  omega
def i64N : List UInt8 → Int → Option Int
  | [], a => some a
  | c :: r, a => if a < Int.tdiv (-9223372036854775808 + dg c) 10 then none else i64N r (10 * a - dg c)
theorem step_ok {a d : Int} (h0 : 0 ≤ d) (h1 : d ≤ 255) (ha : -9223372036854775808 ≤ a) (ha2 : a ≤ 0) (h : ¬ a < Int.tdiv (-9223372036854775808 + d) 10) : -9223372036854775808 ≤ 10 * a - d ∧ 10 * a - d ≤ 0 := by
  have e : Int.tdiv (-9223372036854775808 + d) 10 = -((9223372036854775808 - d) / 10) := by
    rw [show (-9223372036854775808 + d) = -(9223372036854775808 - d) by omega, Int.neg_tdiv, Int.tdiv_eq_ediv_of_nonneg (by omega)]
  rw [e] at h
  omega
def i64R (s : List UInt8) : Int × Bool :=
  if s.head? = some 45 then (match i64N s.tail 0 with | some a => (a, true) | none => (0, false))
  else (match i64N s 0 with | some a => if a = -9223372036854775808 then (0, false) else (-a, true) | none => (0, false))
theorem int64R (s : List UInt8) (hs : s.length ≤ Lim) : Pure Tryz.prog 184 [.str s] (.tup [.int .i64 (i64R s).1, .bool (i64R s).2]) := by
  refine Pure.go ir184 ck184 (Nat.le_refl _) fun KP Q hQ => ?_
  simp only [Lim] at hs
  simp (disch := first | omega | assumption) only [ir184, go_sem, ↓reduceIte]
  refine goU_cut (fun x : Nat × Bool => [(4, .int .i64 x.1), (5, .bool x.2)]) (fun x H => x = (if s.head? = some 45 then (1, true) else (0, false)) ∧ H = Heap.emp) (fun J hJ => ?_) ?_
  · cases s with
    | nil =>
      simp (disch := first | omega | assumption) only [go_sem, ↓reduceIte]
      exact goJ (hJ (0, false) _ ⟨rfl, rfl⟩) (by simp (disch := first | omega | assumption) only [go_sem, ↓reduceIte])
    | cons c t =>
      have hp : (0 : Int) < ((t.length + 1 : Nat) : Int) := by omega
      by_cases h : c = 45
      · have h' : (c.toNat : Int) = 45 := by rw [h]; rfl
        simp (disch := first | omega | assumption) only [hp, h', go_sem, ↓reduceIte]
        exact goJ (hJ (1, true) _ ⟨by rw [h]; rfl, rfl⟩) (by simp (disch := first | omega | assumption) only [go_sem, ↓reduceIte])
      · have h' : ¬ (c.toNat : Int) = 45 := u8_ne (n := 45) (by omega) h
        simp (disch := first | omega | assumption) only [hp, h', go_sem, ↓reduceIte]
        exact goJ (hJ (0, false) _ ⟨by simp [h], rfl⟩) (by simp (disch := first | omega | assumption) only [go_sem, ↓reduceIte])
  rintro ⟨n0, neg⟩ H ⟨hx, rfl⟩
  have hn0 : n0 ≤ s.length := by
    split at hx
    · rename_i h
      cases s with
      | nil => simp at h
      | cons c t => cases hx; simp
    · cases hx; omega
  have hR : i64R s = if neg then (match i64N (s.drop n0) 0 with | some a => (a, true) | none => (0, false)) else (match i64N (s.drop n0) 0 with | some a => if a = -9223372036854775808 then (0, false) else (-a, true) | none => (0, false)) := by
    unfold i64R
    split at hx
    · rename_i h
      cases hx
      rw [if_pos h]
      simp
    · rename_i h
      cases hx
      rw [if_neg h]
      simp
  simp (disch := first | omega | assumption) only [go_sem, ↓reduceIte]
  refine goL_st (fun x : Nat × Int => [(4, .int .i64 x.1), (6, .int .i64 x.2)]) (fun x H => i64N (s.drop x.1) x.2 = i64N (s.drop n0) 0 ∧ x.1 ≤ s.length ∧ (-9223372036854775808 ≤ x.2 ∧ x.2 ≤ 0)) (fun x => s.length - x.1) (n0, 0) (by simp (disch := first | omega | assumption) only [go_sem, ↓reduceIte]) ⟨rfl, hn0, by omega, by omega⟩ ?_
  rintro ⟨n, a⟩ H J ⟨hn, hle, ha1, ha2⟩ hJ
  simp only at hn hle ha1 ha2
  rcases drop_cases s n with ⟨e1, e2⟩ | ⟨e1, e2⟩
  · have hlt : ¬ (n : Int) < s.length := by omega
    rw [e1] at hn
    simp only [i64N] at hn
    rw [← hn] at hR
    cases neg with
    | true =>
      simp (disch := first | omega | assumption) only [hlt, go_sem, ↓reduceIte]
      exact hQ _ _ _ _ nofun rfl (by simp [tupOf, envOf, AV.strip, AV.strip1, hR])
    | false =>
      by_cases hm : a = -9223372036854775808
      · simp (disch := first | omega | assumption) only [hlt, hm, go_sem, ↓reduceIte]
        exact hQ _ _ _ _ nofun rfl (by simp [tupOf, envOf, AV.strip, AV.strip1, hR, hm])
      · simp (disch := first | omega | assumption) only [hlt, hm, wrap64, go_sem, ↓reduceIte]
        exact hQ _ _ _ _ nofun rfl (by simp [tupOf, envOf, AV.strip, AV.strip1, hR, hm])
  · have hlt : (n : Int) < s.length := by omega
    obtain ⟨c, hc⟩ : ∃ c, s.getD n 0 = c := ⟨_, rfl⟩
    rw [hc] at e2
    rw [e2] at hn
    simp only [i64N] at hn
    have hd := dg_le c
    have hdg : IntKind.u8.wrap ((c.toNat : Int) - 48) = dg c := rfl
    have he : Int.tdiv (-9223372036854775808 + dg c) 10 = -((9223372036854775808 - dg c) / 10) := by
      rw [show (-9223372036854775808 + dg c) = -(9223372036854775808 - dg c) by omega, Int.neg_tdiv, Int.tdiv_eq_ediv_of_nonneg (by omega)]
    by_cases hb : a < Int.tdiv (-9223372036854775808 + dg c) 10
    · rw [if_pos hb] at hn
      rw [← hn] at hR
      simp (disch := first | omega | assumption) only [hlt, hc, hdg, wrap64, hb, go_sem, ↓reduceIte]
      cases neg with
      | true => exact hQ _ _ _ _ nofun rfl (by simp [tupOf, envOf, AV.strip, AV.strip1, hR])
      | false => exact hQ _ _ _ _ nofun rfl (by simp [tupOf, envOf, AV.strip, AV.strip1, hR])
    · have hst := step_ok hd.1 hd.2 ha1 ha2 hb
      rw [if_neg hb] at hn
      simp (disch := first | omega | assumption) only [hlt, hc, hdg, wrap64, hb, go_sem, ↓reduceIte]
      exact goJ (hJ (n + 1, 10 * a - dg c) _ (by simp only; omega) ⟨hn, by simp only; omega, hst⟩) (by simp (disch := first | omega | assumption) only [Int.natCast_add, Int.natCast_one, go_sem, ↓reduceIte])
def decV (acc : Nat) (l : List UInt8) : Nat := l.foldl (fun a c => a * 10 + (c.toNat - 48)) acc
theorem decV_nil (acc : Nat) : decV acc [] = acc := by unfold decV; rw [List.foldl_nil]
theorem decV_cons (acc : Nat) (c : UInt8) (r : List UInt8) : decV acc (c :: r) = decV (acc * 10 + (c.toNat - 48)) r := by unfold decV; rw [List.foldl_cons]
theorem i64N_cons (c : UInt8) (r : List UInt8) (a : Int) : i64N (c :: r) a = if a < Int.tdiv (-9223372036854775808 + dg c) 10 then none else i64N r (10 * a - dg c) := by rw [i64N]
theorem decV_ge : ∀ (r : List UInt8) (acc : Nat), acc ≤ decV acc r
  | [], acc => by rw [decV_nil]; exact Nat.le_refl _
  | c :: r, acc => by have := decV_ge r (acc * 10 + (c.toNat - 48)); rw [decV_cons]; omega
theorem i64N_digits : ∀ (r : List UInt8) (acc : Nat), (∀ c ∈ r, isD c = true) → acc ≤ 9223372036854775808 → i64N r (-(acc : Int)) = if decV acc r ≤ 9223372036854775808 then some (-(decV acc r : Int)) else none
  | [], acc, _, h => by rw [decV_nil, if_pos h]; rfl
  | c :: r, acc, hd, h => by
    have hc := hd c (by simp)
    have hv := dg_digit hc
    simp only [isD, Bool.and_eq_true, decide_eq_true_eq] at hc
    have he : Int.tdiv (-9223372036854775808 + dg c) 10 = -((9223372036854775808 - dg c) / 10) := by
      rw [show (-9223372036854775808 + dg c) = -(9223372036854775808 - dg c) by omega, Int.neg_tdiv, Int.tdiv_eq_ediv_of_nonneg (by omega)]
    have hg := decV_ge r (acc * 10 + (c.toNat - 48))
    rw [i64N_cons, decV_cons]
    by_cases hb : -(acc : Int) < Int.tdiv (-9223372036854775808 + dg c) 10
    · rw [if_pos hb, if_neg (by omega)]
    · rw [if_neg hb]
      have e : 10 * -(acc : Int) - dg c = -((acc * 10 + (c.toNat - 48) : Nat) : Int) := by omega
      rw [e]
      exact i64N_digits r _ (fun x hx => hd x (by simp [hx])) (by omega)
theorem parse_digits : ∀ (r : List UInt8) (acc : Nat), (∀ c ∈ r, isD c = true) → acc < 18446744073709551616 → Lib.parseUint10 acc r = if decV acc r < 18446744073709551616 then .ok (decV acc r) else .range
  | [], acc, _, h => by rw [decV_nil, if_pos h]; rfl
  | c :: r, acc, hd, h => by
    have hc := hd c (by simp)
    simp only [isD, Bool.and_eq_true, decide_eq_true_eq] at hc
    have hg := decV_ge r (acc * 10 + (c.toNat - 48))
    rw [decV_cons]
    simp only [Lib.parseUint10]
    rw [if_pos hc]
    by_cases h1 : 1844674407370955162 ≤ acc
    · rw [if_pos h1, if_neg (by omega)]
    · rw [if_neg h1]
      by_cases h2 : 18446744073709551616 ≤ acc * 10 + (c.toNat - 48)
      · rw [if_pos h2, if_neg (by omega)]
      · rw [if_neg h2]
        exact parse_digits r _ (fun x hx => hd x (by simp [hx])) (by omega)
theorem run1_full : ∀ l : List UInt8, run1 l = l.length → ∀ c ∈ l, isD c = true
  | [], _, c, hc => by cases hc
  | x :: r, h, c, hc => by
    simp only [run1, List.length_cons] at h
    split at h
    · rename_i hx
      rcases List.mem_cons.1 hc with e | e
      · subst e; exact hx
      · exact run1_full r (by omega) c e
    · omega
theorem intN_full {l : List UInt8} (h : intN l = l.length) (h0 : run1 l ≠ 0) : ∀ c ∈ l, isD c = true := by
  unfold intN at h
  rw [if_neg h0] at h
  split at h
  · apply run1_full
    have := run1_le l
    omega
  · exact run1_full l h
theorem wholeN_neg (t : List UInt8) : wholeN (45 :: t) = if run1 t = 0 then 0 else 1 + intN t := by
  unfold wholeN; exact if_pos rfl
theorem wholeN_pos {s : List UInt8} (h : ¬ s.head? = some 45) : wholeN s = intN s := by
  unfold wholeN; exact if_neg h
theorem num3 {s : List UInt8} (h : numK s = 3) : (∃ t, s = 45 :: t ∧ t ≠ [] ∧ ∀ c ∈ t, isD c = true) ∨ (∃ c t, s = c :: t ∧ ∀ x ∈ s, isD x = true) := by
  unfold numK at h
  split at h
  · rename_i hl
    unfold numN at h hl
    split at h
    · simp at h
    · rename_i hw
      rw [if_neg hw] at hl
      simp only at h hl
      split at h
      · rename_i hfp
        rw [hfp.2, hfp.1] at hl
        simp only [Nat.add_zero] at hl
        by_cases h45 : s.head? = some 45
        · cases s with
          | nil => simp at h45
          | cons c t =>
            have hc : c = 45 := by simpa using h45
            subst hc
            rw [wholeN_neg] at hl hw
            by_cases h0 : run1 t = 0
            · rw [if_pos h0] at hw; omega
            · rw [if_neg h0] at hl
              refine .inl ⟨t, rfl, ?_, intN_full (by simp only [List.length_cons] at hl; omega) h0⟩
              intro e; subst e; exact h0 rfl
        · rw [wholeN_pos h45] at hl hw
          have h0 : run1 s ≠ 0 := fun e => hw (by simp [intN, e])
          cases s with
          | nil => exact absurd rfl h0
          | cons c t => exact .inr ⟨c, t, rfl, intN_full hl h0⟩
      · omega
  · omega
theorem i64R_neg (t : List UInt8) : i64R (45 :: t) = match i64N t 0 with | some a => (a, true) | none => (0, false) := by
  unfold i64R; exact if_pos rfl
theorem i64R_pos {c : UInt8} (t : List UInt8) (h : c ≠ 45) : i64R (c :: t) = match i64N (c :: t) 0 with | some a => if a = -9223372036854775808 then (0, false) else (-a, true) | none => (0, false) := by
  unfold i64R; exact if_neg (fun e => h (by simpa using e))
theorem i64_ok {s : List UInt8} (h : numK s = 3) : (i64R s).2 = okI (Lib.parseIntB 64 s) := by
  rw [Lib.parseIntB_64]
  rcases num3 h with ⟨t, rfl, hne, hd⟩ | ⟨c, t, rfl, hd⟩
  · have h1 := i64N_digits t 0 hd (by omega)
    have h2 := parse_digits t 0 hd (by omega)
    simp only [Int.natCast_zero, Int.neg_zero] at h1
    rw [Lib.atoiAll_minus, i64R_neg, h1]
    unfold Lib.parseMag
    rw [if_neg hne, h2]
    generalize decV 0 t = V
    by_cases a : V ≤ 9223372036854775808
    · rw [if_pos a, if_pos (by omega)]
      simp only [Lib.signed]
      rw [if_neg (by omega)]
      rfl
    · rw [if_neg a]
      by_cases b : V < 18446744073709551616
      · rw [if_pos b]
        simp only [Lib.signed]
        rw [if_pos (by omega)]
        rfl
      · rw [if_neg b]
        rfl
  · have h1 := i64N_digits (c :: t) 0 hd (by omega)
    have h2 := parse_digits (c :: t) 0 hd (by omega)
    have hc := hd c (by simp)
    simp only [isD, Bool.and_eq_true, decide_eq_true_eq] at hc
    have h45 : c ≠ 45 := fun e => by subst e; simp at hc
    simp only [Int.natCast_zero, Int.neg_zero] at h1
    rw [Lib.atoiAll_plain c t (by omega) (by omega), i64R_pos t h45, h1]
    unfold Lib.parseMag
    rw [if_neg (List.cons_ne_nil c t), h2]
    generalize decV 0 (c :: t) = V
    by_cases a : V ≤ 9223372036854775808
    · rw [if_pos a, if_pos (by omega)]
      simp only [Lib.signless]
      by_cases b : V = 9223372036854775808
      · rw [if_pos (by omega), if_pos (by omega)]; rfl
      · rw [if_neg (by omega), if_neg (by omega)]; rfl
    · rw [if_neg a]
      by_cases b : V < 18446744073709551616
      · rw [if_pos b]
        simp only [Lib.signless]
        rw [if_pos (by omega)]
        rfl
      · rw [if_neg b]
        rfl
theorem num_clause (s : List UInt8) : (decide (s ≠ []) && (decide (numK s ≠ 0) && (decide (numK s = 4) || !(i64R s).2))) = numB s := by
  unfold numB wholeB
  by_cases h4 : numK s = 4
  · have hs : s ≠ [] := fun e => by subst e; revert h4; decide
    simp [h4, hs]
  · by_cases h3 : numK s = 3
    · have hs : s ≠ [] := fun e => by subst e; revert h3; decide
      simp [h3, hs, i64_ok h3]
    · have h0 : numK s = 0 := by
        unfold numK at *
        unfold numN at *
        by_cases a : wholeN s = 0
        · simp [a]
        · simp only [a, if_false] at *
          split
          · rename_i e
            rw [if_pos e] at h3 h4
            split at h3 <;> simp_all
          · rfl
      simp [h3, h4, h0]
end Go.Proofs.YticbbfbpeimkbaaGreatDoor
namespace Go.Proofs.YticbbfbpeimkbaaGreatDoor
open Go.Ab Go.Lib
structure SdOk (q : Sd) (acc : List UInt8) : Prop where
  ok : q.ok = true
  small : ∀ u ∈ q.u, u < 128
  eq : acc = q.b ++ q.u.map UInt8.ofNat
theorem join_small : ∀ u : List Nat, (∀ x ∈ u, x < 128) → joinM u = some (u.map UInt8.ofNat)
  | [], _ => rfl
  | u :: r, h => by
    have h1 := h u (.head _)
    have h2 := join_small r fun x hx => h x (.tail _ hx)
    have e : encM u = [UInt8.ofNat u] := by unfold encM; rw [if_pos (by omega)]
    cases r with
    | nil => simp only [joinM]; rw [if_neg (by omega), if_neg (by omega), e]; rfl
    | cons v r => rw [joinM, if_neg (by omega), if_neg (by omega), h2, e]; rfl
theorem SdOk.flush {q : Sd} {acc : List UInt8} (h : SdOk q acc) : flushM q = ⟨acc, [], true⟩ := by
  unfold flushM; rw [join_small _ h.small, h.ok, h.eq]; rfl
theorem SdOk.put {q : Sd} {acc : List UInt8} (h : SdOk q acc) (c : UInt8) : SdOk (q.put c) (acc ++ [c]) := by
  unfold Sd.put; rw [h.flush]; exact ⟨rfl, by simp, by simp⟩
theorem SdOk.unit {q : Sd} {acc : List UInt8} (h : SdOk q acc) {u : Nat} (hu : u < 128) : SdOk ⟨q.b, q.u ++ [u], q.ok⟩ (acc ++ [UInt8.ofNat u]) :=
  ⟨h.ok, fun x hx => by rcases List.mem_append.1 hx with e | e; exact h.small x e; simp at e; omega, by rw [h.eq]; simp⟩
end Go.Proofs.YticbbfbpeimkbaaGreatDoor
namespace Go.Proofs.YticbbfbpeimkbaaGreatDoor
open Go.Ab Go.Lib
structure SInv' (q : Sd) (t : List UInt8) : Prop where
  none : q.u = [] → validD (q.b ++ t) = true
  some : q.u ≠ [] → validD q.b = true ∧ validD t = true
theorem flush_b {q : Sd} (h : validD q.b = true) : validD (flushM q).b = true := by
  unfold flushM
  cases hj : joinM q.u with
  | none => simpa using h
  | some s => exact validA2 h (join_valid _ _ hj)
theorem flush_nil {q : Sd} (h : q.u = []) : (flushM q).b = q.b := by unfold flushM; rw [h]; simp [joinM]
theorem SInv'.low {q : Sd} {c : UInt8} {t : List UInt8} (h : SInv' q (c :: t)) (hc : c.toNat < 128) : validD q.b = true ∧ validD t = true := by
  by_cases hu : q.u = []
  · exact validS hc (h.none hu)
  · obtain ⟨h1, h2⟩ := h.some hu
    rw [validD_cons c t hc] at h2
    exact ⟨h1, h2⟩
theorem SInv'.put {q : Sd} {c : UInt8} {t : List UInt8} (h : SInv' q (c :: t)) : SInv' (q.put c) t := by
  refine ⟨fun _ => ?_, fun e => absurd rfl e⟩
  show validD (((flushM q).b ++ [c]) ++ t) = true
  rw [List.append_assoc]
  by_cases hu : q.u = []
  · rw [flush_nil hu]; exact h.none hu
  · obtain ⟨h1, h2⟩ := h.some hu
    exact validA2 (flush_b h1) h2
def LR (n : Int) (l : List Val) : Prop := ∀ v ∈ l, rightV v = true ∧ depthV v ≤ n
theorem LR.all {n : Int} : ∀ {l : List Val}, LR n l → allVs validD l = true ∧ singVs l = true
  | [], _ => ⟨rfl, rfl⟩
  | v :: l, h => by
    have h1 := LR.all (l := l) fun x hx => h x (.tail _ hx)
    have h2 := (h v (.head _)).1
    simp only [rightV, goodV, Bool.and_eq_true] at h2
    simp [allVs, singVs, h1.1, h1.2, h2.1, h2.2]
end Go.Proofs.YticbbfbpeimkbaaGreatDoor
namespace Go.Proofs.YticbbfbpeimkbaaGreatDoor
open Go.Ab
theorem ofNat_toNat64 {n : Nat} (h : n < 18446744073709551616) : (BitVec.ofInt 64 (n : Int)).toNat = n := by
  rw [BitVec.toNat_ofInt]; omega
theorem wrap_nat {n : Nat} (h : n < 9223372036854775808) : IntKind.wrap .i64 (n : Int) = n := wrap64 (by omega) (by omega)
theorem and_lo {n : Nat} (j : Nat) (h : n < 9223372036854775808) (hj : 2 ^ j - 1 < 9223372036854775808) : IntKind.wrap .i64 ((BitVec.ofInt IntKind.i64.bits (n : Int) &&& BitVec.ofInt IntKind.i64.bits ((2 ^ j - 1 : Nat) : Int)).toNat : Int) = ((n % 2 ^ j : Nat) : Int) := by
  have e : (BitVec.ofInt IntKind.i64.bits (n : Int) &&& BitVec.ofInt IntKind.i64.bits ((2 ^ j - 1 : Nat) : Int)).toNat = n % 2 ^ j := by
    rw [BitVec.toNat_and]
    show (BitVec.ofInt 64 (n : Int)).toNat &&& (BitVec.ofInt 64 ((2 ^ j - 1 : Nat) : Int)).toNat = _
    rw [ofNat_toNat64 (by omega), ofNat_toNat64 (by omega), Nat.and_two_pow_sub_one_eq_mod]
  rw [e]
  exact wrap_nat (Nat.lt_of_le_of_lt (Nat.mod_le _ _) h)
theorem and31 {n : Nat} (h : n < 9223372036854775808) : IntKind.wrap .i64 ((BitVec.ofInt IntKind.i64.bits (n : Int) &&& BitVec.ofInt IntKind.i64.bits 31).toNat : Int) = ((n % 32 : Nat) : Int) := and_lo 5 h (by decide)
theorem and15 {n : Nat} (h : n < 9223372036854775808) : IntKind.wrap .i64 ((BitVec.ofInt IntKind.i64.bits (n : Int) &&& BitVec.ofInt IntKind.i64.bits 15).toNat : Int) = ((n % 16 : Nat) : Int) := and_lo 4 h (by decide)
theorem and7 {n : Nat} (h : n < 9223372036854775808) : IntKind.wrap .i64 ((BitVec.ofInt IntKind.i64.bits (n : Int) &&& BitVec.ofInt IntKind.i64.bits 7).toNat : Int) = ((n % 8 : Nat) : Int) := and_lo 3 h (by decide)
theorem and63 {n : Nat} (h : n < 9223372036854775808) : IntKind.wrap .i64 ((BitVec.ofInt IntKind.i64.bits (n : Int) &&& BitVec.ofInt IntKind.i64.bits 63).toNat : Int) = ((n % 64 : Nat) : Int) := and_lo 6 h (by decide)
theorem or64 {a b : Nat} (ha : a < 16777216) (hb : b < 64) : IntKind.wrap .i64 ((BitVec.ofInt IntKind.i64.bits ((a * 64 : Nat) : Int) ||| BitVec.ofInt IntKind.i64.bits (b : Int)).toNat : Int) = ((a * 64 + b : Nat) : Int) := by
  have e : (BitVec.ofInt IntKind.i64.bits ((a * 64 : Nat) : Int) ||| BitVec.ofInt IntKind.i64.bits (b : Int)).toNat = a * 64 + b := by
    rw [BitVec.toNat_or]
    show (BitVec.ofInt 64 ((a * 64 : Nat) : Int)).toNat ||| (BitVec.ofInt 64 (b : Int)).toNat = _
    rw [ofNat_toNat64 (by omega), ofNat_toNat64 (by omega)]
    have := Nat.two_pow_add_eq_or_of_lt (i := 6) (b := b) (by omega) a
    rw [show (2 : Nat) ^ 6 = 64 by rfl] at this
    rw [Nat.mul_comm a 64, this]
  rw [e]
  exact wrap_nat (by omega)
def codeN (l : List UInt8) : Nat × Nat := if l = [] then (0, 0) else if Lib.decodeL l = (65533, 1) then (0, 0) else Lib.decodeL l
abbrev bt (s : List UInt8) (i k : Nat) : Nat := (s.getD (i + k) 0).toNat
theorem bt_lt (s : List UInt8) (i k : Nat) : bt s i k < 256 := (s.getD (i + k) 0).toNat_lt
theorem drop_getD (s : List UInt8) (i k : Nat) : (s.drop i).getD k 0 = s.getD (i + k) 0 := by simp [List.getElem?_drop]
theorem codeN_eq {s : List UInt8} {i : Nat} (h : i < s.length) : codeN (s.drop i) = if Lib.decodeN (s.length - i) (bt s i 0) (bt s i 1) (bt s i 2) (bt s i 3) = (65533, 1) then (0, 0) else Lib.decodeN (s.length - i) (bt s i 0) (bt s i 1) (bt s i 2) (bt s i 3) := by
  have hne : s.drop i ≠ [] := fun e => by have := congrArg List.length e; simp at this; omega
  unfold codeN
  rw [if_neg hne, Lib.decodeL_N, List.length_drop]
  simp only [drop_getD]
def cv (v0 : Nat) (b : Nat → Nat) : Nat → Nat
  | 0 => v0
  | j + 1 => cv v0 b j * 64 + b (j + 1) % 64
def Lead (b0 w lo v : Nat) : Prop := (194 ≤ b0 ∧ b0 < 224 ∧ w = 2 ∧ lo = 128 ∧ v = b0 % 32) ∨ (224 ≤ b0 ∧ b0 < 240 ∧ w = 3 ∧ lo = 2048 ∧ v = b0 % 16) ∨ (240 ≤ b0 ∧ b0 < 245 ∧ w = 4 ∧ lo = 65536 ∧ v = b0 % 8)
theorem dec_short {n b0 b1 b2 b3 w lo v : Nat} (h : Lead b0 w lo v) (hn : n < w) : Lib.decodeN n b0 b1 b2 b3 = (65533, 1) := by
  unfold Lib.decodeN
  rcases h with ⟨h1, h2, rfl, _, _⟩ | ⟨h1, h2, rfl, _, _⟩ | ⟨h1, h2, rfl, _, _⟩ <;> (repeat' split) <;> first | rfl | (exfalso; omega)
theorem dec_cont {n w lo v j : Nat} {b : Nat → Nat} (h : Lead (b 0) w lo v) (h1 : 1 ≤ j) (hj : j < w) (hc : b j < 128 ∨ 191 < b j) : Lib.decodeN n (b 0) (b 1) (b 2) (b 3) = (65533, 1) := by
  have hj4 : j = 1 ∨ j = 2 ∨ j = 3 := by rcases h with h | h | h <;> omega
  unfold Lib.decodeN
  rcases h with ⟨h2, h3, rfl, _, _⟩ | ⟨h2, h3, rfl, _, _⟩ | ⟨h2, h3, rfl, _, _⟩ <;> rcases hj4 with rfl | rfl | rfl <;> (repeat' split) <;> first | rfl | (exfalso; omega)
theorem dec_full {n w lo v : Nat} {b : Nat → Nat} (h : Lead (b 0) w lo v) (hn : w ≤ n) (hc : ∀ j, 1 ≤ j → j < w → 128 ≤ b j ∧ b j ≤ 191) :
    (if Lib.decodeN n (b 0) (b 1) (b 2) (b 3) = (65533, 1) then (0, 0) else Lib.decodeN n (b 0) (b 1) (b 2) (b 3)) = if cv v b (w - 1) < lo ∨ 1114111 < cv v b (w - 1) ∨ (55296 ≤ cv v b (w - 1) ∧ cv v b (w - 1) < 57344) then (0, 0) else (cv v b (w - 1), w) := by
  rcases h with ⟨h2, h3, rfl, rfl, rfl⟩ | ⟨h2, h3, rfl, rfl, rfl⟩ | ⟨h2, h3, rfl, rfl, rfl⟩
  · have c1 := hc 1 (by omega) (by omega)
    have e : Lib.decodeN n (b 0) (b 1) (b 2) (b 3) = (b 0 % 32 * 64 + b 1 % 64, 2) := by
      unfold Lib.decodeN
      rw [if_neg (by omega), if_pos (by omega), if_pos (by omega)]
    have e2 : cv (b 0 % 32) b (2 - 1) = b 0 % 32 * 64 + b 1 % 64 := rfl
    rw [e, e2, if_neg (by simp), if_neg (by omega)]
  · have c1 := hc 1 (by omega) (by omega)
    have c2 := hc 2 (by omega) (by omega)
    have e2 : cv (b 0 % 16) b (3 - 1) = b 0 % 16 * 4096 + b 1 % 64 * 64 + b 2 % 64 := by
      show (b 0 % 16 * 64 + b 1 % 64) * 64 + b 2 % 64 = _
      omega
    rw [e2]
    by_cases g : b 0 % 16 * 4096 + b 1 % 64 * 64 + b 2 % 64 ≥ 2048 ∧ (b 0 % 16 * 4096 + b 1 % 64 * 64 + b 2 % 64 < 55296 ∨ (57344 ≤ b 0 % 16 * 4096 + b 1 % 64 * 64 + b 2 % 64 ∧ b 0 % 16 * 4096 + b 1 % 64 * 64 + b 2 % 64 ≤ 1114111))
    · have e : Lib.decodeN n (b 0) (b 1) (b 2) (b 3) = (b 0 % 16 * 4096 + b 1 % 64 * 64 + b 2 % 64, 3) := by
        unfold Lib.decodeN
        rw [if_neg (by omega), if_neg (by omega), if_pos (by omega), if_pos g]
      rw [e, if_neg (by simp), if_neg (by omega)]
    · have e : Lib.decodeN n (b 0) (b 1) (b 2) (b 3) = (65533, 1) := by
        unfold Lib.decodeN
        rw [if_neg (by omega), if_neg (by omega), if_pos (by omega), if_neg g]
      rw [e, if_pos rfl, if_pos (by omega)]
  · have c1 := hc 1 (by omega) (by omega)
    have c2 := hc 2 (by omega) (by omega)
    have c3 := hc 3 (by omega) (by omega)
    have e2 : cv (b 0 % 8) b (4 - 1) = b 0 % 8 * 262144 + b 1 % 64 * 4096 + b 2 % 64 * 64 + b 3 % 64 := by
      show ((b 0 % 8 * 64 + b 1 % 64) * 64 + b 2 % 64) * 64 + b 3 % 64 = _
      omega
    rw [e2]
    by_cases g : b 0 % 8 * 262144 + b 1 % 64 * 4096 + b 2 % 64 * 64 + b 3 % 64 ≥ 65536 ∧ (b 0 % 8 * 262144 + b 1 % 64 * 4096 + b 2 % 64 * 64 + b 3 % 64 < 55296 ∨ (57344 ≤ b 0 % 8 * 262144 + b 1 % 64 * 4096 + b 2 % 64 * 64 + b 3 % 64 ∧ b 0 % 8 * 262144 + b 1 % 64 * 4096 + b 2 % 64 * 64 + b 3 % 64 ≤ 1114111))
    · have e : Lib.decodeN n (b 0) (b 1) (b 2) (b 3) = (b 0 % 8 * 262144 + b 1 % 64 * 4096 + b 2 % 64 * 64 + b 3 % 64, 4) := by
        unfold Lib.decodeN
        rw [if_neg (by omega), if_neg (by omega), if_neg (by omega), if_pos (by omega), if_pos g]
      rw [e, if_neg (by simp), if_neg (by omega)]
    · have e : Lib.decodeN n (b 0) (b 1) (b 2) (b 3) = (65533, 1) := by
        unfold Lib.decodeN
        rw [if_neg (by omega), if_neg (by omega), if_neg (by omega), if_pos (by omega), if_neg g]
      rw [e, if_pos rfl, if_pos (by omega)]
theorem CodeR (s : List UInt8) (i : Nat) (hi : i < s.length) (hs : s.length ≤ Lim) : Pure Tryz.prog 301 [.str s, .int .i64 i] (.tup [.int .i64 (codeN (s.drop i)).1, .int .i64 (codeN (s.drop i)).2]) := by
  refine Pure.go ir301 ck301 (Nat.le_refl _) fun KP Q hQ => ?_
  simp only [Lim] at hs
  have hlt : (i : Int) < s.length := by omega
  have h0 : ¬ (i : Int) < 0 := by omega
  have hge : ¬ (s.length : Int) ≤ i := by omega
  rw [codeN_eq hi] at hQ
  have hb0 := bt_lt s i 0
  obtain ⟨c, hc⟩ : ∃ c, s.getD i 0 = c := ⟨_, rfl⟩
  have hcb : c.toNat = bt s i 0 := by rw [← hc]; rfl
  have hcb' : (c.toNat : Int) = (bt s i 0 : Nat) := by rw [hcb]
  have hw0 : IntKind.wrap .i64 ((bt s i 0 : Nat) : Int) = (bt s i 0 : Nat) := wrap_nat (by omega)
  generalize hB : (fun k => bt s i k) = b at *
  have b0e : bt s i 0 = b 0 := by rw [← hB]
  have bk : ∀ k, bt s i k = b k := fun k => by rw [← hB]
  have hbl : ∀ k, b k < 256 := fun k => by rw [← bk]; exact bt_lt s i k
  simp only [bk] at hQ hb0 hcb hcb' hw0
  by_cases a : (b 0 : Int) < 128
  · simp (disch := first | omega | assumption) only [ir301, h0, hlt, hge, hc, hcb', hw0, a, steps, st2, pev, rev, oev, optr, ibin, sbin, ishf, bound, mmAll, mm2, mk, mkArgs, AV.cells, AV.boxable, AV.one, AV.strip1, fillA, fillS, Nat.reduceEqDiff, reduceCtorEq, ↓reduceIte, Nat.reduceAdd, Int.reduceNeg, Nat.reduceLeDiff, Int.reduceToNat, Int.reduceEq, Int.reduceLT, Int.reduceLE, Int.reduceAdd]
    have e : Lib.decodeN (s.length - i) (b 0) (b 1) (b 2) (b 3) = (b 0, 1) := by unfold Lib.decodeN; rw [if_pos (by omega)]
    rw [e, if_neg (by simp; omega)] at hQ
    exact hQ _ _ _ _ nofun rfl (by simp [tupOf, envOf, AV.strip, AV.strip1])
  simp (disch := first | omega | assumption) only [ir301, h0, hlt, hge, hc, hcb', hw0, a, steps, st2, pev, rev, oev, optr, ibin, sbin, ishf, bound, mmAll, mm2, mk, mkArgs, AV.cells, AV.boxable, AV.one, AV.strip1, fillA, fillS, Nat.reduceEqDiff, reduceCtorEq, ↓reduceIte, Nat.reduceAdd, Int.reduceNeg, Nat.reduceLeDiff, Int.reduceToNat, Int.reduceEq, Int.reduceLT, Int.reduceLE, Int.reduceAdd]
  refine goU_cut (fun x : Nat × Nat × Nat => [(6, .int .i64 x.2.2), (7, .int .i64 x.1), (8, .int .i64 x.2.1)]) (fun x H => Lead (b 0) x.1 x.2.1 x.2.2 ∧ H = Heap.emp) (fun J hJ => ?_) ?_
  · simp (disch := first | omega | assumption) only [steps, st2, pev, rev, oev, optr, ibin, sbin, ishf, bound, mmAll, mm2, mk, mkArgs, AV.cells, AV.boxable, AV.one, AV.strip1, fillA, fillS, Nat.reduceEqDiff, reduceCtorEq, ↓reduceIte, Nat.reduceAdd, Int.reduceNeg, Nat.reduceLeDiff, Int.reduceToNat, Int.reduceEq, Int.reduceLT, Int.reduceLE, Int.reduceAdd]
    by_cases a1 : (194 : Int) ≤ b 0
    · by_cases a2 : (b 0 : Int) < 224
      · have e := and31 (n := b 0) (by omega)
        simp (disch := first | omega | assumption) only [a1, a2, e, steps, st2, pev, rev, oev, optr, ibin, sbin, ishf, bound, mmAll, mm2, mk, mkArgs, AV.cells, AV.boxable, AV.one, AV.strip1, fillA, fillS, Nat.reduceEqDiff, reduceCtorEq, ↓reduceIte, Nat.reduceAdd, Int.reduceNeg, Nat.reduceLeDiff, Int.reduceToNat, Int.reduceEq, Int.reduceLT, Int.reduceLE, Int.reduceAdd]
        exact goJ (hJ (2, 128, b 0 % 32) _ ⟨.inl ⟨by omega, by omega, rfl, rfl, rfl⟩, rfl⟩) (by simp (disch := first | omega | assumption) only [steps, st2, pev, rev, oev, optr, ibin, sbin, ishf, bound, mmAll, mm2, mk, mkArgs, AV.cells, AV.boxable, AV.one, AV.strip1, fillA, fillS, Nat.reduceEqDiff, reduceCtorEq, ↓reduceIte, Nat.reduceAdd, Int.reduceNeg, Nat.reduceLeDiff, Int.reduceToNat, Int.reduceEq, Int.reduceLT, Int.reduceLE, Int.reduceAdd])
      · by_cases a3 : (b 0 : Int) < 240
        · have a4 : (224 : Int) ≤ b 0 := by omega
          have e := and15 (n := b 0) (by omega)
          simp (disch := first | omega | assumption) only [a1, a2, a3, a4, e, steps, st2, pev, rev, oev, optr, ibin, sbin, ishf, bound, mmAll, mm2, mk, mkArgs, AV.cells, AV.boxable, AV.one, AV.strip1, fillA, fillS, Nat.reduceEqDiff, reduceCtorEq, ↓reduceIte, Nat.reduceAdd, Int.reduceNeg, Nat.reduceLeDiff, Int.reduceToNat, Int.reduceEq, Int.reduceLT, Int.reduceLE, Int.reduceAdd]
          exact goJ (hJ (3, 2048, b 0 % 16) _ ⟨.inr (.inl ⟨by omega, by omega, rfl, rfl, rfl⟩), rfl⟩) (by simp (disch := first | omega | assumption) only [steps, st2, pev, rev, oev, optr, ibin, sbin, ishf, bound, mmAll, mm2, mk, mkArgs, AV.cells, AV.boxable, AV.one, AV.strip1, fillA, fillS, Nat.reduceEqDiff, reduceCtorEq, ↓reduceIte, Nat.reduceAdd, Int.reduceNeg, Nat.reduceLeDiff, Int.reduceToNat, Int.reduceEq, Int.reduceLT, Int.reduceLE, Int.reduceAdd])
        · have a4 : (224 : Int) ≤ b 0 := by omega
          have a5 : (240 : Int) ≤ b 0 := by omega
          by_cases a6 : (b 0 : Int) < 245
          · have e := and7 (n := b 0) (by omega)
            simp (disch := first | omega | assumption) only [a1, a2, a3, a4, a5, a6, e, steps, st2, pev, rev, oev, optr, ibin, sbin, ishf, bound, mmAll, mm2, mk, mkArgs, AV.cells, AV.boxable, AV.one, AV.strip1, fillA, fillS, Nat.reduceEqDiff, reduceCtorEq, ↓reduceIte, Nat.reduceAdd, Int.reduceNeg, Nat.reduceLeDiff, Int.reduceToNat, Int.reduceEq, Int.reduceLT, Int.reduceLE, Int.reduceAdd]
            exact goJ (hJ (4, 65536, b 0 % 8) _ ⟨.inr (.inr ⟨by omega, by omega, rfl, rfl, rfl⟩), rfl⟩) (by simp (disch := first | omega | assumption) only [steps, st2, pev, rev, oev, optr, ibin, sbin, ishf, bound, mmAll, mm2, mk, mkArgs, AV.cells, AV.boxable, AV.one, AV.strip1, fillA, fillS, Nat.reduceEqDiff, reduceCtorEq, ↓reduceIte, Nat.reduceAdd, Int.reduceNeg, Nat.reduceLeDiff, Int.reduceToNat, Int.reduceEq, Int.reduceLT, Int.reduceLE, Int.reduceAdd])
          · rw [Lib.decodeN_bad _ _ _ _ _ (.inr ⟨by omega, hbl 0⟩), if_pos rfl] at hQ
            simp (disch := first | omega | assumption) only [a1, a2, a3, a4, a5, a6, steps, st2, pev, rev, oev, optr, ibin, sbin, ishf, bound, mmAll, mm2, mk, mkArgs, AV.cells, AV.boxable, AV.one, AV.strip1, fillA, fillS, Nat.reduceEqDiff, reduceCtorEq, ↓reduceIte, Nat.reduceAdd, Int.reduceNeg, Nat.reduceLeDiff, Int.reduceToNat, Int.reduceEq, Int.reduceLT, Int.reduceLE, Int.reduceAdd]
            exact hQ _ _ _ _ nofun rfl (by simp [tupOf, envOf, AV.strip, AV.strip1])
    · have a2 : ¬ (224 : Int) ≤ b 0 := by omega
      have a3 : ¬ (240 : Int) ≤ b 0 := by omega
      rw [Lib.decodeN_bad _ _ _ _ _ (.inl ⟨by omega, by omega⟩), if_pos rfl] at hQ
      simp (disch := first | omega | assumption) only [a1, a2, a3, steps, st2, pev, rev, oev, optr, ibin, sbin, ishf, bound, mmAll, mm2, mk, mkArgs, AV.cells, AV.boxable, AV.one, AV.strip1, fillA, fillS, Nat.reduceEqDiff, reduceCtorEq, ↓reduceIte, Nat.reduceAdd, Int.reduceNeg, Nat.reduceLeDiff, Int.reduceToNat, Int.reduceEq, Int.reduceLT, Int.reduceLE, Int.reduceAdd]
      exact hQ _ _ _ _ nofun rfl (by simp [tupOf, envOf, AV.strip, AV.strip1])
  rintro ⟨w, lo, v⟩ H ⟨hL, rfl⟩
  simp only at hL
  have hv : v < 32 ∧ 2 ≤ w ∧ w ≤ 4 ∧ lo ≤ 65536 := by rcases hL with h | h | h <;> omega
  by_cases g : w ≤ s.length - i
  case neg =>
    have g' : (s.length : Int) - i < w := by omega
    rw [dec_short hL (by omega), if_pos rfl] at hQ
    simp (disch := first | omega | assumption) only [wrap64, g', steps, st2, pev, rev, oev, optr, ibin, sbin, ishf, bound, mmAll, mm2, mk, mkArgs, AV.cells, AV.boxable, AV.one, AV.strip1, fillA, fillS, Nat.reduceEqDiff, reduceCtorEq, ↓reduceIte, Nat.reduceAdd, Int.reduceNeg, Nat.reduceLeDiff, Int.reduceToNat, Int.reduceEq, Int.reduceLT, Int.reduceLE, Int.reduceAdd]
    exact hQ _ _ _ _ nofun rfl (by simp [tupOf, envOf, AV.strip, AV.strip1])
  have g' : ¬ (s.length : Int) - i < w := by omega
  simp (disch := first | omega | assumption) only [wrap64, g', steps, st2, pev, rev, oev, optr, ibin, sbin, ishf, bound, mmAll, mm2, mk, mkArgs, AV.cells, AV.boxable, AV.one, AV.strip1, fillA, fillS, Nat.reduceEqDiff, reduceCtorEq, ↓reduceIte, Nat.reduceAdd, Int.reduceNeg, Nat.reduceLeDiff, Int.reduceToNat, Int.reduceEq, Int.reduceLT, Int.reduceLE, Int.reduceAdd]
  refine goL_st (fun j : Nat => [(6, .int .i64 (cv v b j)), (9, .int .i64 (j + 1 : Nat))]) (fun j H => j + 1 ≤ w ∧ (∀ k, 1 ≤ k → k < j + 1 → 128 ≤ b k ∧ b k ≤ 191) ∧ cv v b j < 32 * 64 ^ j) (fun j => w - j) 0 (by simp (disch := first | omega | assumption) only [cv, steps, st2, pev, rev, oev, optr, ibin, sbin, ishf, bound, mmAll, mm2, mk, mkArgs, AV.cells, AV.boxable, AV.one, AV.strip1, fillA, fillS, Nat.reduceEqDiff, reduceCtorEq, ↓reduceIte, Nat.reduceAdd, Int.reduceNeg, Nat.reduceLeDiff, Int.reduceToNat, Int.reduceEq, Int.reduceLT, Int.reduceLE, Int.reduceAdd]) ⟨by omega, fun k h1 h2 => by omega, by simp [cv]; omega⟩ ?_
  rintro j H J ⟨hj, hcont, hcv⟩ hJ
  have hcv2 : cv v b j < 8388608 := by
    have : j = 0 ∨ j = 1 ∨ j = 2 ∨ j = 3 := by omega
    rcases this with rfl | rfl | rfl | rfl <;> omega
  by_cases hjw : j + 1 < w
  · have hjw' : ((j + 1 : Nat) : Int) < w := by omega
    have hto : ((i : Int) + ((j + 1 : Nat) : Int)).toNat = i + (j + 1) := by omega
    have hi1 : (0 : Int) ≤ (i : Int) + ((j + 1 : Nat) : Int) := by omega
    have hi2 : (i : Int) + ((j + 1 : Nat) : Int) < s.length := by omega
    obtain ⟨d, hd⟩ : ∃ d, s.getD (i + (j + 1)) 0 = d := ⟨_, rfl⟩
    have hdb : (d.toNat : Int) = (b (j + 1) : Nat) := by rw [← hd, ← bk]
    have hb1 := hbl (j + 1)
    have hw1 : IntKind.wrap .i64 ((b (j + 1) : Nat) : Int) = (b (j + 1) : Nat) := wrap_nat (by omega)
    simp (disch := first | omega | assumption) only [hjw', wrap64, hto, hi1, hi2, hd, hdb, hw1, steps, st2, pev, rev, oev, optr, ibin, sbin, ishf, bound, mmAll, mm2, mk, mkArgs, AV.cells, AV.boxable, AV.one, AV.strip1, fillA, fillS, Nat.reduceEqDiff, reduceCtorEq, ↓reduceIte, Nat.reduceAdd, Int.reduceNeg, Nat.reduceLeDiff, Int.reduceToNat, Int.reduceEq, Int.reduceLT, Int.reduceLE, Int.reduceAdd]
    by_cases a1 : ((b (j + 1) : Nat) : Int) < 128
    · rw [dec_cont hL (by omega) hjw (.inl (by omega)), if_pos rfl] at hQ
      simp (disch := first | omega | assumption) only [a1, steps, st2, pev, rev, oev, optr, ibin, sbin, ishf, bound, mmAll, mm2, mk, mkArgs, AV.cells, AV.boxable, AV.one, AV.strip1, fillA, fillS, Nat.reduceEqDiff, reduceCtorEq, ↓reduceIte, Nat.reduceAdd, Int.reduceNeg, Nat.reduceLeDiff, Int.reduceToNat, Int.reduceEq, Int.reduceLT, Int.reduceLE, Int.reduceAdd]
      exact hQ _ _ _ _ nofun rfl (by simp [tupOf, envOf, AV.strip, AV.strip1])
    by_cases a2 : (191 : Int) < ((b (j + 1) : Nat) : Int)
    · rw [dec_cont hL (by omega) hjw (.inr (by omega)), if_pos rfl] at hQ
      simp (disch := first | omega | assumption) only [a1, a2, steps, st2, pev, rev, oev, optr, ibin, sbin, ishf, bound, mmAll, mm2, mk, mkArgs, AV.cells, AV.boxable, AV.one, AV.strip1, fillA, fillS, Nat.reduceEqDiff, reduceCtorEq, ↓reduceIte, Nat.reduceAdd, Int.reduceNeg, Nat.reduceLeDiff, Int.reduceToNat, Int.reduceEq, Int.reduceLT, Int.reduceLE, Int.reduceAdd]
      exact hQ _ _ _ _ nofun rfl (by simp [tupOf, envOf, AV.strip, AV.strip1])
    have e1 := and63 (n := b (j + 1)) (by omega)
    have e2 : IntKind.wrap .i64 ((cv v b j : Int) * 2 ^ (min 6 IntKind.i64.bits)) = ((cv v b j * 64 : Nat) : Int) := by
      have e3 : (2 : Int) ^ (min 6 IntKind.i64.bits) = 64 := by decide
      rw [e3, wrap64 (by omega) (by omega)]; omega
    have e4 := or64 (a := cv v b j) (b := b (j + 1) % 64) (by omega) (Nat.mod_lt _ (by omega))
    simp (disch := first | omega | assumption) only [a1, a2, e1, e2, e4, steps, st2, pev, rev, oev, optr, ibin, sbin, ishf, bound, mmAll, mm2, mk, mkArgs, AV.cells, AV.boxable, AV.one, AV.strip1, fillA, fillS, Nat.reduceEqDiff, reduceCtorEq, ↓reduceIte, Nat.reduceAdd, Int.reduceNeg, Nat.reduceLeDiff, Int.reduceToNat, Int.reduceEq, Int.reduceLT, Int.reduceLE, Int.reduceAdd]
    have hpow : 32 * 64 ^ (j + 1) = 64 * (32 * 64 ^ j) := by rw [Nat.pow_succ]; omega
    exact goJ (hJ (j + 1) _ (by omega) ⟨by omega, fun k h1 h2 => by
      rcases Nat.lt_or_ge k (j + 1) with h3 | h3
      · exact hcont k h1 h3
      · have : k = j + 1 := by omega
        subst this
        omega, by simp only [cv]; omega⟩) (by simp (disch := first | omega | assumption) only [wrap64, cv, Int.natCast_add, Int.natCast_one, steps, st2, pev, rev, oev, optr, ibin, sbin, ishf, bound, mmAll, mm2, mk, mkArgs, AV.cells, AV.boxable, AV.one, AV.strip1, fillA, fillS, Nat.reduceEqDiff, reduceCtorEq, ↓reduceIte, Nat.reduceAdd, Int.reduceNeg, Nat.reduceLeDiff, Int.reduceToNat, Int.reduceEq, Int.reduceLT, Int.reduceLE, Int.reduceAdd])
  · have hjw' : ¬ ((j + 1 : Nat) : Int) < w := by omega
    have hjw2 : j = w - 1 := by omega
    subst hjw2
    rw [dec_full hL g (fun k h1 h2 => hcont k h1 (by omega))] at hQ
    have hcvB : (IntKind.wrap .i64 ((cv v b (w - 1) : Nat) : Int)) = (cv v b (w - 1) : Nat) := wrap_nat (by omega)
    by_cases x1 : ((cv v b (w - 1) : Nat) : Int) < lo
    · rw [if_pos (.inl (by omega))] at hQ
      simp (disch := first | omega | assumption) only [hjw', x1, steps, st2, pev, rev, oev, optr, ibin, sbin, ishf, bound, mmAll, mm2, mk, mkArgs, AV.cells, AV.boxable, AV.one, AV.strip1, fillA, fillS, Nat.reduceEqDiff, reduceCtorEq, ↓reduceIte, Nat.reduceAdd, Int.reduceNeg, Nat.reduceLeDiff, Int.reduceToNat, Int.reduceEq, Int.reduceLT, Int.reduceLE, Int.reduceAdd]
      exact hQ _ _ _ _ nofun rfl (by simp [tupOf, envOf, AV.strip, AV.strip1])
    by_cases x2 : (1114111 : Int) < ((cv v b (w - 1) : Nat) : Int)
    · rw [if_pos (.inr (.inl (by omega)))] at hQ
      simp (disch := first | omega | assumption) only [hjw', x1, x2, steps, st2, pev, rev, oev, optr, ibin, sbin, ishf, bound, mmAll, mm2, mk, mkArgs, AV.cells, AV.boxable, AV.one, AV.strip1, fillA, fillS, Nat.reduceEqDiff, reduceCtorEq, ↓reduceIte, Nat.reduceAdd, Int.reduceNeg, Nat.reduceLeDiff, Int.reduceToNat, Int.reduceEq, Int.reduceLT, Int.reduceLE, Int.reduceAdd]
      exact hQ _ _ _ _ nofun rfl (by simp [tupOf, envOf, AV.strip, AV.strip1])
    by_cases x3 : (55296 : Int) ≤ ((cv v b (w - 1) : Nat) : Int)
    · by_cases x4 : ((cv v b (w - 1) : Nat) : Int) < 57344
      · rw [if_pos (.inr (.inr ⟨by omega, by omega⟩))] at hQ
        simp (disch := first | omega | assumption) only [hjw', x1, x2, x3, x4, steps, st2, pev, rev, oev, optr, ibin, sbin, ishf, bound, mmAll, mm2, mk, mkArgs, AV.cells, AV.boxable, AV.one, AV.strip1, fillA, fillS, Nat.reduceEqDiff, reduceCtorEq, ↓reduceIte, Nat.reduceAdd, Int.reduceNeg, Nat.reduceLeDiff, Int.reduceToNat, Int.reduceEq, Int.reduceLT, Int.reduceLE, Int.reduceAdd]
        exact hQ _ _ _ _ nofun rfl (by simp [tupOf, envOf, AV.strip, AV.strip1])
      · rw [if_neg (by omega)] at hQ
        simp (disch := first | omega | assumption) only [hjw', x1, x2, x3, x4, steps, st2, pev, rev, oev, optr, ibin, sbin, ishf, bound, mmAll, mm2, mk, mkArgs, AV.cells, AV.boxable, AV.one, AV.strip1, fillA, fillS, Nat.reduceEqDiff, reduceCtorEq, ↓reduceIte, Nat.reduceAdd, Int.reduceNeg, Nat.reduceLeDiff, Int.reduceToNat, Int.reduceEq, Int.reduceLT, Int.reduceLE, Int.reduceAdd]
        exact hQ _ _ _ _ nofun rfl (by simp [tupOf, envOf, AV.strip, AV.strip1])
    · rw [if_neg (by omega)] at hQ
      simp (disch := first | omega | assumption) only [hjw', x1, x2, x3, steps, st2, pev, rev, oev, optr, ibin, sbin, ishf, bound, mmAll, mm2, mk, mkArgs, AV.cells, AV.boxable, AV.one, AV.strip1, fillA, fillS, Nat.reduceEqDiff, reduceCtorEq, ↓reduceIte, Nat.reduceAdd, Int.reduceNeg, Nat.reduceLeDiff, Int.reduceToNat, Int.reduceEq, Int.reduceLT, Int.reduceLE, Int.reduceAdd]
      exact hQ _ _ _ _ nofun rfl (by simp [tupOf, envOf, AV.strip, AV.strip1])
end Go.Proofs.YticbbfbpeimkbaaGreatDoor
namespace Go.Proofs.YticbbfbpeimkbaaGreatDoor
open Go.Ab
def cZ (l : List Int) : List (List AV) := l.map fun n => [.int .i64 n]
theorem cZ_len (l : List Int) : (cZ l).length = l.length := by simp [cZ]
def codesG : Nat → List UInt8 → List Int
  | 0, _ => []
  | k + 1, l => if l = [] then [] else ((codeN l).1 : Int) :: codesG k (l.drop (codeN l).2)
theorem codesG_nil (k : Nat) : codesG k [] = [] := by cases k <;> simp [codesG]
def codesM (s : List UInt8) : List Int := if Lib.validD s then codesG s.length s else []
theorem codeN_bad {l : List UInt8} (hne : l ≠ []) (h : (codeN l).2 = 0) : Lib.validD l = false := by
  have hw := Lib.decodeL_width l
  unfold codeN at h
  rw [if_neg hne] at h
  split at h
  · rename_i e
    rw [Lib.validD_step l hne, e]; simp
  · omega
theorem codeN_good {l : List UInt8} (hne : l ≠ []) (h : (codeN l).2 ≠ 0) : Lib.validD l = Lib.validD (l.drop (codeN l).2) ∧ (codeN l).2 ≤ l.length := by
  unfold codeN at h ⊢
  rw [if_neg hne] at h ⊢
  split at h
  · simp at h
  · rename_i e
    rw [if_neg e]
    refine ⟨?_, Lib.decodeL_le l hne⟩
    rw [Lib.validD_step l hne, if_neg]
    rintro ⟨a, b⟩
    exact e (Prod.ext a b)
theorem CodesR (s : List UInt8) (hs : s.length ≤ Lim) : Pure Tryz.prog 252 [.str s] (.tup [.sl .no 1 (cZ (codesM s)), .bool (Lib.validD s)]) := by
  refine Pure.go ir252 ck252 (Nat.le_refl _) fun KP Q hQ => ?_
  have hs' := hs
  simp only [Lim] at hs
  simp (disch := first | omega | assumption) only [ir252, go_sem, ↓reduceIte]
  refine goL_st (fun x : Own × List Int × Nat => [(4, .sl x.1 1 (cZ x.2.1)), (5, .int .i64 x.2.2)])
    (fun x H => x.2.2 ≤ s.length ∧ x.2.1.length ≤ x.2.2 ∧ codesG s.length s = x.2.1 ++ codesG (s.length - x.2.1.length) (s.drop x.2.2) ∧ Lib.validD s = Lib.validD (s.drop x.2.2) ∧ OwnS Heap.emp .nil H x.1 x.2.1.length 1) (fun x => s.length - x.2.2) (.nil, [], 0) (by simp (disch := first | omega | assumption) only [cZ, go_sem, ↓reduceIte]) ⟨by simp, by simp, by simp, by simp, OwnS.refl rfl⟩ ?_
  rintro ⟨o, acc, i⟩ H J ⟨hi, hai, hc, hv, hs1⟩ hJ
  simp only at hi hai hc hv hs1
  by_cases hlt : i < s.length
  case neg =>
    have hlt' : ¬ (i : Int) < s.length := by omega
    rw [List.drop_of_length_le (by omega)] at hc hv
    rw [codesG_nil, List.append_nil] at hc
    rw [Lib.validD_nil] at hv
    simp (disch := first | omega | assumption) only [hlt', go_sem, ↓reduceIte]
    exact hQ _ _ _ _ nofun rfl (by simp [tupOf, envOf, AV.strip, AV.strip1, codesM, hv, hc])
  have hlt' : (i : Int) < s.length := by omega
  have hne : s.drop i ≠ [] := fun e => by have := congrArg List.length e; simp at this; omega
  have hcl := cZ_len acc
  simp (disch := first | omega | assumption) only [hlt', go_sem, ↓reduceIte]
  refine goK_pure (Pure.low (CodeR s i hlt hs')) ?_
  by_cases h0 : (codeN (s.drop i)).2 = 0
  · rw [codeN_bad hne h0] at hv
    have h0' : ((codeN (s.drop i)).2 : Int) = 0 := by omega
    simp (disch := first | omega | assumption) only [h0', go_sem, ↓reduceIte]
    exact hQ _ _ _ _ nofun rfl (by simp [tupOf, envOf, AV.strip, AV.strip1, codesM, hv, cZ])
  · obtain ⟨g1, g2⟩ := codeN_good hne h0
    rw [List.length_drop] at g2
    rw [List.drop_drop] at g1
    have h0' : ¬ ((codeN (s.drop i)).2 : Int) = 0 := by omega
    simp (disch := first | omega | assumption) only [h0', go_sem, ↓reduceIte]
    refine goP_ownS (by rw [hcl]; exact hs1.own) ?_ ?_ fun o' H' hs2 => ?_
    · simp only [hcl, List.length_cons, List.length_nil]; omega
    · simp only [hcl, List.length_cons, List.length_nil, maxLen]; omega
    simp (disch := first | omega | assumption) only [wrap64, go_sem, ↓reduceIte]
    refine goJ (hJ (o', acc ++ [((codeN (s.drop i)).1 : Int)], i + (codeN (s.drop i)).2) H' (by simp only; omega) ⟨by simp only; omega, by simp only [List.length_append, List.length_cons, List.length_nil]; omega, ?_, by rw [hv, g1], hs1.trans (by simpa [hcl] using hs2)⟩) (by simp (disch := first | omega | assumption) only [cZ, List.map_append, Int.natCast_add, go_sem, ↓reduceIte])
    rw [hc]
    obtain ⟨k, hk⟩ : ∃ k, s.length - acc.length = k + 1 := ⟨s.length - acc.length - 1, by omega⟩
    have hk2 : s.length - (acc ++ [((codeN (s.drop i)).1 : Int)]).length = k := by simp only [List.length_append, List.length_cons, List.length_nil]; omega
    simp only [hk, hk2, codesG]
    rw [if_neg hne, List.drop_drop]
    simp
theorem GoodR (s : List UInt8) (hs : s.length ≤ Lim) : Pure Tryz.prog 296 [.str s] (.bool (Lib.validD s)) := by
  refine Pure.go ir296 ck296 (Nat.le_refl _) fun KP Q hQ => ?_
  simp (disch := first | omega | assumption) only [ir296, go_sem, ↓reduceIte]
  refine goK_pure (CodesR s hs) ?_
  simp (disch := first | omega | assumption) only [go_sem, ↓reduceIte]
  exact hQ _ _ _ _ nofun rfl (by simp [tupOf, envOf, AV.strip, AV.strip1])
end Go.Proofs.YticbbfbpeimkbaaGreatDoor
namespace Go.Proofs.YticbbfbpeimkbaaGreatDoor
open Go.Ab Go.Lib
end Go.Proofs.YticbbfbpeimkbaaGreatDoor
namespace Go.Proofs.YticbbfbpeimkbaaGreatDoor
open Go.Ab
theorem wrap_u8 {x : Int} (h0 : 0 ≤ x) (h1 : x < 256) : IntKind.wrap .u8 x = x := by
  unfold IntKind.wrap
  simp [IntKind.signed, IntKind.bits]
  omega
theorem byts_one {d : Nat} (h : d < 10) : byts [[.int .u8 (IntKind.wrap .u8 (48 + (d : Int)))]] = some [UInt8.ofNat (48 + d)] := by
  rw [wrap_u8 (by omega) (by omega)]
  simp only [byts, Option.map_some]
  rw [if_pos (by omega)]
  congr 2
theorem itoa_abs (n : Int) : Lib.itoa n = if n < 0 then 45 :: Lib.decDigits n.natAbs else Lib.decDigits n.natAbs := by
  unfold Lib.itoa
  split
  · rfl
  · congr 1; omega
theorem dec_len {u : Nat} (h : u ≤ 9223372036854775808) : (Lib.decDigits u).length ≤ 21 := by
  have := Lib.itoa_length_le (-(u : Int)) (by omega) (by omega)
  rw [itoa_abs] at this
  by_cases h0 : u = 0
  · subst h0; rw [Lib.decDigits]; simp
  · rw [if_pos (by omega)] at this
    simp only [Int.natAbs_neg, Int.natAbs_natCast, List.length_cons] at this
    omega
theorem DecimalR (n : Int) (h0 : -9223372036854775808 ≤ n) (h1 : n ≤ 9223372036854775807) : Pure Tryz.prog 239 [.int .i64 n] (.str (Lib.itoa n)) := by
  refine Pure.go ir239 ck239 (Nat.le_refl _) fun KP Q hQ => ?_
  by_cases n0 : n = 0
  · simp (disch := first | omega | assumption) only [ir239, n0, go_sem, ↓reduceIte]
    have e : Lib.itoa n = [48] := by subst n0; unfold Lib.itoa; rw [if_neg (by omega)]; unfold Lib.decDigits; rfl
    exact hQ _ _ _ _ nofun rfl (by simp [tupOf, envOf, AV.strip, AV.strip1, e])
  have hlen := dec_len (u := n.natAbs) (by omega)
  rw [itoa_abs] at hQ
  generalize hD : Lib.decDigits n.natAbs = D at hlen hQ
  simp (disch := first | omega | assumption) only [ir239, n0, go_sem, ↓reduceIte]
  refine goL_st (fun x : Nat × List UInt8 => [(3, .str x.2), (4, .int .i64 (if n < 0 then -(x.1 : Int) else x.1))]) (fun x H => x.1 ≤ n.natAbs ∧ D = (if x.1 = 0 then x.2 else Lib.decDigits x.1 ++ x.2)) (fun x => x.1) (n.natAbs, [])
    (by have e : (if n < 0 then -(n.natAbs : Int) else n.natAbs) = n := by split <;> omega
        simp (disch := first | omega | assumption) only [e, go_sem, ↓reduceIte]) ⟨Nat.le_refl _, by rw [if_neg (by omega), List.append_nil, hD]⟩ ?_
  rintro ⟨u, t⟩ H J ⟨hu, ht⟩ hJ
  simp only at hu ht
  have htl : t.length ≤ 21 := by
    have : t.length ≤ D.length := by
      rw [ht]; split
      · exact Nat.le_refl _
      · simp
    omega
  by_cases u0 : u = 0
  · have e : (if n < 0 then -(u : Int) else u) = 0 := by split <;> omega
    rw [if_pos u0] at ht
    subst u0
    by_cases hn : n < 0
    · simp (disch := first | omega | assumption) only [hn, Int.neg_zero, go_sem, ↓reduceIte]
      rw [if_pos hn] at hQ
      exact hQ _ _ _ _ nofun rfl (by simp [tupOf, envOf, AV.strip, AV.strip1, ht])
    · simp (disch := first | omega | assumption) only [hn, Int.neg_zero, go_sem, ↓reduceIte]
      rw [if_neg hn] at hQ
      exact hQ _ _ _ _ nofun rfl (by simp [tupOf, envOf, AV.strip, AV.strip1, ht])
  · rw [if_neg u0] at ht
    have hm : u % 10 < 10 := Nat.mod_lt _ (by omega)
    have hstep : D = (if u / 10 = 0 then UInt8.ofNat (48 + u % 10) :: t else Lib.decDigits (u / 10) ++ UInt8.ofNat (48 + u % 10) :: t) := by
      rw [ht, Lib.decDigits]
      by_cases h10 : u < 10
      · have e1 : u / 10 = 0 := by omega
        have e2 : u % 10 = u := by omega
        rw [dif_pos h10, if_pos e1, e2]; rfl
      · have e1 : ¬ u / 10 = 0 := by omega
        rw [dif_neg h10, if_neg e1, List.append_assoc]; rfl
    have hby := byts_one hm
    by_cases hn : n < 0
    · have e : (if n < 0 then -(u : Int) else u) = -(u : Int) := if_pos hn
      have e' : (if n < 0 then -((u / 10 : Nat) : Int) else ((u / 10 : Nat) : Int)) = -((u / 10 : Nat) : Int) := if_pos hn
      have hne : ¬ (-(u : Int) = 0) := by omega
      have hmod : Int.tmod (-(u : Int)) 10 = -((u % 10 : Nat) : Int) := by rw [Int.neg_tmod, Int.tmod_eq_emod_of_nonneg (by omega)]; omega
      have hdiv : Int.tdiv (-(u : Int)) 10 = -((u / 10 : Nat) : Int) := by rw [Int.neg_tdiv, Int.tdiv_eq_ediv_of_nonneg (by omega)]; omega
      have hw1 : IntKind.wrap .i64 (48 + ((u % 10 : Nat) : Int)) = 48 + ((u % 10 : Nat) : Int) := wrap64 (by omega) (by omega)
      by_cases z : u % 10 = 0
      · have hz : -((u % 10 : Nat) : Int) = ((u % 10 : Nat) : Int) := by omega
        have hz2 : ¬ ((u % 10 : Nat) : Int) < 0 := by omega
        simp (disch := first | omega | assumption) only [e, hne, hmod, hdiv, hby, wrap64, hz, hz2, hw1, go_sem, ↓reduceIte]
        exact goJ (hJ (u / 10, UInt8.ofNat (48 + u % 10) :: t) _ (by simp only; omega) ⟨by simp only; omega, hstep⟩) (by simp (disch := first | omega | assumption) only [e', wrap64, go_sem, ↓reduceIte])
      · have hz2 : -((u % 10 : Nat) : Int) < 0 := by omega
        have hneg : 0 - -((u % 10 : Nat) : Int) = ((u % 10 : Nat) : Int) := by omega
        simp (disch := first | omega | assumption) only [e, hne, hmod, hdiv, hby, wrap64, hz2, hw1, hneg, go_sem, ↓reduceIte]
        exact goJ (hJ (u / 10, UInt8.ofNat (48 + u % 10) :: t) _ (by simp only; omega) ⟨by simp only; omega, hstep⟩) (by simp (disch := first | omega | assumption) only [e', wrap64, go_sem, ↓reduceIte])
    · have e : (if n < 0 then -(u : Int) else u) = (u : Int) := if_neg hn
      have e' : (if n < 0 then -((u / 10 : Nat) : Int) else ((u / 10 : Nat) : Int)) = ((u / 10 : Nat) : Int) := if_neg hn
      have hne : ¬ ((u : Int) = 0) := by omega
      have hmod : Int.tmod (u : Int) 10 = ((u % 10 : Nat) : Int) := by rw [Int.tmod_eq_emod_of_nonneg (by omega)]; omega
      have hdiv : Int.tdiv (u : Int) 10 = ((u / 10 : Nat) : Int) := by rw [Int.tdiv_eq_ediv_of_nonneg (by omega)]; omega
      have hw1 : IntKind.wrap .i64 (48 + ((u % 10 : Nat) : Int)) = 48 + ((u % 10 : Nat) : Int) := wrap64 (by omega) (by omega)
      have hz2 : ¬ ((u % 10 : Nat) : Int) < 0 := by omega
      simp (disch := first | omega | assumption) only [e, hne, hmod, hdiv, hby, wrap64, hz2, hw1, go_sem, ↓reduceIte]
      exact goJ (hJ (u / 10, UInt8.ofNat (48 + u % 10) :: t) _ (by simp only; omega) ⟨by simp only; omega, hstep⟩) (by simp (disch := first | omega | assumption) only [e', wrap64, go_sem, ↓reduceIte])
end Go.Proofs.YticbbfbpeimkbaaGreatDoor
namespace Go.Proofs.YticbbfbpeimkbaaGreatDoor
open Go.Ab Go.Lib
end Go.Proofs.YticbbfbpeimkbaaGreatDoor
namespace Go.Proofs.YticbbfbpeimkbaaGreatDoor
open Go.Ab Go.Lib
structure DecOk (l : List UInt8) (c k : Nat) : Prop where
  enc : encM c = l.take k
  le : c ≤ 1114111
  pos : 1 ≤ k
  len : k ≤ l.length
  one : k = 1 → c = (l.getD 0 0).toNat ∧ (l.getD 0 0).toNat < 128
  high : k ≠ 1 → ∀ x ∈ l.take k, 128 ≤ x.toNat
theorem ofN_eq {n : Nat} {b : UInt8} (h : n = b.toNat) : UInt8.ofNat n = b := UInt8.toNat_inj.1 (by rw [UInt8.toNat_ofNat', h]; have := b.toNat_lt; omega)
theorem dec_two {b0 b1 : UInt8} {t : List UInt8} (h0 : b0.toNat / 32 = 6) (h1 : b1.toNat / 64 = 2) (hc : 128 ≤ b0.toNat % 32 * 64 + b1.toNat % 64) : DecOk (b0 :: b1 :: t) (b0.toNat % 32 * 64 + b1.toNat % 64) 2 := by
  refine ⟨?_, by omega, by omega, by simp, fun h => by omega, fun _ x hx => ?_⟩
  · unfold encM
    rw [if_neg (by omega), if_pos (by omega)]
    simp only [List.take_succ_cons, List.take_zero, List.cons.injEq, and_true]
    exact ⟨ofN_eq (by omega), ofN_eq (by omega)⟩
  · simp only [List.take_succ_cons, List.take_zero, List.mem_cons, List.not_mem_nil, or_false] at hx
    rcases hx with rfl | rfl <;> omega
theorem dec_three {b0 b1 b2 : UInt8} {t : List UInt8} (h0 : b0.toNat / 16 = 14) (h1 : b1.toNat / 64 = 2) (h2 : b2.toNat / 64 = 2) (hc : 2048 ≤ b0.toNat % 16 * 4096 + b1.toNat % 64 * 64 + b2.toNat % 64) :
    DecOk (b0 :: b1 :: b2 :: t) (b0.toNat % 16 * 4096 + b1.toNat % 64 * 64 + b2.toNat % 64) 3 := by
  refine ⟨?_, by omega, by omega, by simp, fun h => by omega, fun _ x hx => ?_⟩
  · unfold encM
    rw [if_neg (by omega), if_neg (by omega), if_pos (by omega)]
    simp only [List.take_succ_cons, List.take_zero, List.cons.injEq, and_true]
    exact ⟨ofN_eq (by omega), ofN_eq (by omega), ofN_eq (by omega)⟩
  · simp only [List.take_succ_cons, List.take_zero, List.mem_cons, List.not_mem_nil, or_false] at hx
    rcases hx with rfl | rfl | rfl <;> omega
theorem dec_four {b0 b1 b2 b3 : UInt8} {t : List UInt8} (h0 : b0.toNat / 8 = 30) (h1 : b1.toNat / 64 = 2) (h2 : b2.toNat / 64 = 2) (h3 : b3.toNat / 64 = 2)
    (hc : 65536 ≤ b0.toNat % 8 * 262144 + b1.toNat % 64 * 4096 + b2.toNat % 64 * 64 + b3.toNat % 64) (hd : b0.toNat % 8 * 262144 + b1.toNat % 64 * 4096 + b2.toNat % 64 * 64 + b3.toNat % 64 ≤ 1114111) :
    DecOk (b0 :: b1 :: b2 :: b3 :: t) (b0.toNat % 8 * 262144 + b1.toNat % 64 * 4096 + b2.toNat % 64 * 64 + b3.toNat % 64) 4 := by
  refine ⟨?_, by omega, by omega, by simp, fun h => by omega, fun _ x hx => ?_⟩
  · unfold encM
    rw [if_neg (by omega), if_neg (by omega), if_neg (by omega)]
    simp only [List.take_succ_cons, List.take_zero, List.cons.injEq, and_true]
    exact ⟨ofN_eq (by omega), ofN_eq (by omega), ofN_eq (by omega), ofN_eq (by omega)⟩
  · simp only [List.take_succ_cons, List.take_zero, List.mem_cons, List.not_mem_nil, or_false] at hx
    rcases hx with rfl | rfl | rfl | rfl <;> omega
theorem dec_ok {l : List UInt8} (hne : l ≠ []) (h : decodeL l ≠ (65533, 1)) : DecOk l (decodeL l).1 (decodeL l).2 := by
  rw [decodeL_N] at h ⊢
  obtain ⟨b0, t, rfl⟩ : ∃ b0 t, l = b0 :: t := by cases l with | nil => exact absurd rfl hne | cons a b => exact ⟨a, b, rfl⟩
  simp only [List.getD_cons_zero, List.getD_cons_succ] at h ⊢
  unfold decodeN at h ⊢
  split at h
  · rename_i h0
    rw [if_pos h0]
    refine ⟨?_, by simp only; omega, by simp, by simp, fun _ => ⟨by simp, by simpa using h0⟩, fun h => absurd rfl h⟩
    simp only
    unfold encM
    rw [if_pos (by omega)]
    simp only [List.take_succ_cons, List.take_zero, List.cons.injEq, and_true]
    exact ofN_eq rfl
  · rename_i h0
    rw [if_neg h0]
    split at h
    · rename_i h1
      rw [if_pos h1]
      split at h
      · rename_i h2
        rw [if_pos h2]
        obtain ⟨b1, t, rfl⟩ : ∃ b1 r, t = b1 :: r := by cases t with | nil => simp at h1 | cons a b => exact ⟨a, b, rfl⟩
        exact dec_two h1.1 (by simpa using h1.2.2) (by simpa using h2)
      · exact absurd rfl h
    · rename_i h1
      rw [if_neg h1]
      split at h
      · rename_i h2
        rw [if_pos h2]
        split at h
        · rename_i h3
          rw [if_pos h3]
          obtain ⟨b1, t, rfl⟩ : ∃ b1 r, t = b1 :: r := by cases t with | nil => simp at h2 | cons a b => exact ⟨a, b, rfl⟩
          obtain ⟨b2, t, rfl⟩ : ∃ b2 r, t = b2 :: r := by cases t with | nil => simp at h2 | cons a b => exact ⟨a, b, rfl⟩
          exact dec_three h2.1 (by simpa using h2.2.1.2) (by simpa using h2.2.2.2) (by simpa using h3.1)
        · exact absurd rfl h
      · rename_i h2
        rw [if_neg h2]
        split at h
        · rename_i h3
          rw [if_pos h3]
          split at h
          · rename_i h4
            rw [if_pos h4]
            obtain ⟨b1, t, rfl⟩ : ∃ b1 r, t = b1 :: r := by cases t with | nil => simp at h3 | cons a b => exact ⟨a, b, rfl⟩
            obtain ⟨b2, t, rfl⟩ : ∃ b2 r, t = b2 :: r := by cases t with | nil => simp at h3 | cons a b => exact ⟨a, b, rfl⟩
            obtain ⟨b3, t, rfl⟩ : ∃ b3 r, t = b3 :: r := by cases t with | nil => simp at h3 | cons a b => exact ⟨a, b, rfl⟩
            exact dec_four h3.1 (by simpa using h3.2.1.2) (by simpa using h3.2.2.1.2) (by simpa using h3.2.2.2.2) (by simpa using h4.1) (by have := h4.2; simp at this ⊢; omega)
          · exact absurd rfl h
        · exact absurd rfl h
theorem code_ok {l : List UInt8} (hne : l ≠ []) (hv : validD l = true) : DecOk l (codeN l).1 (codeN l).2 ∧ validD (l.drop (codeN l).2) = true := by
  rw [validD_step l hne] at hv
  split at hv
  · cases hv
  · rename_i h
    have h' : decodeL l ≠ (65533, 1) := fun e => h ⟨by rw [e], by rw [e]⟩
    have e : codeN l = decodeL l := by unfold codeN; rw [if_neg hne, if_neg h']
    rw [e]
    exact ⟨dec_ok hne h', hv⟩
end Go.Proofs.YticbbfbpeimkbaaGreatDoor
namespace Go.Proofs.YticbbfbpeimkbaaGreatDoor
open Go.Ab Go.Lib
end Go.Proofs.YticbbfbpeimkbaaGreatDoor
namespace Go.Proofs.YticbbfbpeimkbaaGreatDoor
open Go.Ab Go.Lib
def dotsT : List UInt8 := [46, 46, 46]
def marksT : List UInt8 := [33, 36, 38, 40, 41, 58, 61, 64, 91, 93, 123, 124, 125]
def isMark : List UInt8 → Bool
  | [c] => decide (0 ≤ Lib.indexByte marksT c)
  | _ => false
def rightK (t : Tok) : Bool := if t.k = 1 then decide (t.s = dotsT) || isMark t.s else if t.k = 2 then nameM t.s else if t.k = 3 ∨ t.k = 4 then decide (numK t.s = t.k) else if t.k = 5 then validD t.s else false
def unitT (u : Nat) : List UInt8 := [92, 117, hexL.getD (u / 4096 % 16) 0, hexL.getD (u / 256 % 16) 0, hexL.getD (u / 16 % 16) 0, hexL.getD (u % 16) 0]
def pieceT (c : Nat) (bs : List UInt8) : List UInt8 :=
  if c = 34 ∨ c = 92 then [92, UInt8.ofNat c] else if c = 10 then [92, 110] else if c < 32 then unitT c
  else if 65536 ≤ c then unitT (55296 + (c - 65536) / 1024) ++ unitT (56320 + (c - 65536) % 1024) else bs
def tquoG : Nat → List UInt8 → List UInt8
  | 0, _ => []
  | n + 1, l => if l = [] then [] else pieceT (codeN l).1 (l.take (codeN l).2) ++ tquoG n (l.drop (codeN l).2)
def tquo (s : List UInt8) : List UInt8 := 34 :: (tquoG s.length s ++ [34])
def tokT (t : Tok) : List UInt8 := if t.k = 5 then tquo t.s else t.s
def tjoin (l : List Tok) : List UInt8 := Lib.join (l.map tokT) [32]
def tprint (l : List Tok) : List UInt8 × Bool := if l.all rightK then (tjoin l, true) else ([], false)
def isBl (c : UInt8) : Bool := decide (c = 9) || decide (c = 32)
def leadN (s : List UInt8) : Nat := (s.takeWhile isBl).length
def bareL (s : List UInt8) : Bool := s.all isBl
def indG : List (List UInt8) → Int → Int
  | [], a => a
  | s :: r, a => indG r (if bareL s then a else if a < 0 ∨ (leadN s : Int) < a then leadN s else a)
def indM (l : List (List UInt8)) : Int := indG l.tail (-1)
end Go.Proofs.YticbbfbpeimkbaaGreatDoor
namespace Go.Proofs.YticbbfbpeimkbaaGreatDoor
open Go.Ab Go.Lib
theorem decGo (s : List UInt8) : decodeGo ⟨s.toArray⟩ = if s = [] then (65533, 0) else decodeL s := by
  unfold decodeGo
  cases s with
  | nil => rfl
  | cons c r => rw [if_neg (by simp [ByteArray.size]), if_neg (by simp)]; rfl
theorem decodeC (s : List UInt8) : Pure Tryz.prog 272 [.str s] (.tup [.int .i32 ((if s = [] then (65533, 0) else decodeL s : Nat × Nat).1), .int .i64 ((if s = [] then (65533, 0) else decodeL s : Nat × Nat).2)]) := by
  refine Pure.of_below fun γ w vs ht hv => ?_
  rw [arg_str hv]
  have h := Tryz.utf8_DecodeRuneInString ⟨s.toArray⟩ w (utf8Tabs ht)
  rw [decGo] at h
  exact Calls.mono h fun e w' ⟨he, hb⟩ => ⟨hb, _, he, rep_two (.int _ _) (.int _ _)⟩
theorem joinX : Go.Proofs.Builder.Extra Tryz.prog Tryz.lays156_ren where
  sizeBuilder := by kernel_rfl
  liesBuilder := by kernel_rfl
  t5 := Tryz.underlying5
  a5 := Tryz.isAgg5
  z5 := Tryz.sizeOf5
  v5 := Tryz.zeroValue5
  infoByte := by kernel_rfl
  cellsByte := by kernel_rfl
  sizeByte := by kernel_rfl
  neB5 := by decide
theorem joinStrC (l : List (List UInt8)) (sep : List UInt8) (hl : (Lib.join l sep).length ≤ 140737488355328) (hn : l.length ≤ 140737488355328) : Pure Tryz.prog 121 [.sl .no 1 (cT l), .str sep] (.str (Lib.join l sep)) := by
  refine Pure.of_below fun γ w vs ht hv => ?_
  obtain ⟨hlv, hr⟩ := hv
  match vs, hlv with
  | [v, u], _ =>
    have h0 := hr 0 _ _ rfl rfl
    cases hr 1 _ _ rfl rfl
    generalize hx : cT l = xs at h0
    cases h0 with
    | slnil _ _ ho =>
      have : l = [] := by cases l with | nil => rfl | cons a b => simp [cT] at hx
      subst this
      exact (Any.strings_Join_none Tryz.lays156 joinX none 0 ⟨sep.toArray⟩ w).mono fun e w' ⟨he, hw⟩ => ⟨by rw [hw]; exact RowKit.Below.refl _ _, _, he, .str _⟩
    | sl0 _ _ a ho =>
      have : l = [] := by cases l with | nil => rfl | cons a b => simp [cT] at hx
      subst this
      exact (Any.strings_Join_none Tryz.lays156 joinX (some a) 0 ⟨sep.toArray⟩ w).mono fun e w' ⟨he, hw⟩ => ⟨by rw [hw]; exact RowKit.Below.refl _ _, _, he, .str _⟩
    | sl _ _ _ b off cap cv hc hm hu hcell hrr ho =>
      subst hx
      have hcl := cT_len l
      cases hl0 : l with
      | nil =>
        subst hl0
        exact (Any.strings_Join_none Tryz.lays156 joinX (some ⟨b, off, none⟩) cap ⟨sep.toArray⟩ w).mono fun e w' ⟨he, hw⟩ => ⟨by rw [hw]; exact RowKit.Below.refl _ _, _, he, .str _⟩
      | cons x0 r0 =>
        have hcells : ∀ (j : Nat) x, (l.map fun s => (⟨s.toArray⟩ : ByteArray))[j]? = some x → w.cell? ⟨b, off + j, none⟩ = some (.string x) := fun j x hj => by
          rw [List.getElem?_map, Option.map_eq_some_iff] at hj
          obtain ⟨s, h1, rfl⟩ := hj
          have g1 : (cT l)[j]? = some [.str s] := by simp [cT, h1]
          have h2 := hcell j _ g1 0 (by decide)
          have h3 := hrr j _ g1 0 (.str s) rfl
          have e : off + (j * 1 + 0) = off + j := by omega
          rw [e] at h2
          generalize cv j 0 = y at h2 h3
          cases h3
          exact h2.1
        have hbk : b < w.heap.size := by
          have := hcells 0 ⟨x0.toArray⟩ (by rw [hl0]; rfl)
          exact World.block_lt_of_cell? w _ this
        have hmap : (l.map fun s => (⟨s.toArray⟩ : ByteArray)).map (·.data.toList) = l := by
          rw [List.map_map]; exact (List.map_congr_left (g := id) fun s _ => by simp).trans (List.map_id l)
        have h := Any.strings_Join Tryz.lays156 joinX b off cap (l.map fun s => (⟨s.toArray⟩ : ByteArray)) ⟨sep.toArray⟩ w hcells hbk (by simpa using hn) (by rw [List.length_map]; omega) (by rw [hmap]; exact hl)
        rw [List.length_map, hmap] at h
        rw [← hl0, hcl]
        exact h.mono fun e w' ⟨he, hb⟩ => ⟨hb, _, he, .str _⟩
theorem codeC (s : List UInt8) (i : Nat) (hi : i < s.length) (hs : s.length ≤ Lim) : Pure Tryz.prog 210 [.str s, .int .i64 i] (.tup [.int .i64 (codeN (s.drop i)).1, .int .i64 (codeN (s.drop i)).2]) := by
  refine Pure.go ir210 ck210 (Nat.le_refl _) fun KP Q hQ => ?_
  simp only [Lim] at hs
  have hne : s.drop i ≠ [] := fun e => by have := congrArg List.length e; simp at this; omega
  have h1 : ¬ ((i : Int) < 0) := by omega
  have h2 : ¬ ((s.length : Int) ≤ i) := by omega
  have h3 : ((i : Int) ≤ s.length) = True := eq_true (by omega)
  simp (disch := first | omega | assumption) only [ir210, h1, h2, h3, go_sem, ↓reduceIte]
  refine goK_pure (decodeC (s.drop i)) ?_
  have hw := decodeL_width (s.drop i)
  have hr := decodeL_rune (s.drop i)
  unfold codeN at hQ
  simp only [hne, if_false] at hQ ⊢
  generalize decodeL (s.drop i) = x at *
  obtain ⟨c, k⟩ := x
  simp only at hw hr hQ
  have e : IntKind.wrap .i64 (c : Int) = c := wrap64 (by omega) (by omega)
  by_cases hc : c = 65533
  · have g1 : ((c : Int) = 65533) = True := eq_true (by omega)
    by_cases hk : k < 2
    · have g2 : ((k : Int) < 2) = True := eq_true (by omega)
      have e1 : (c, k) = (65533, 1) := by rw [hc]; congr 1; omega
      rw [if_pos e1] at hQ
      simp (disch := first | omega | assumption) only [g1, g2, go_sem, ↓reduceIte]
      exact hQ _ _ _ _ nofun rfl (by simp [tupOf, envOf, AV.strip, AV.strip1])
    · have g2 : ¬ ((k : Int) < 2) := by omega
      have e1 : ¬ ((c, k) = (65533, 1)) := fun h => by cases h; omega
      rw [if_neg e1] at hQ
      simp (disch := first | omega | assumption) only [g1, g2, e, go_sem, ↓reduceIte]
      exact hQ _ _ _ _ nofun rfl (by simp [tupOf, envOf, AV.strip, AV.strip1])
  · have g1 : ¬ ((c : Int) = 65533) := by omega
    have e1 : ¬ ((c, k) = (65533, 1)) := fun h => by cases h; omega
    rw [if_neg e1] at hQ
    simp (disch := first | omega | assumption) only [g1, e, go_sem, ↓reduceIte]
    exact hQ _ _ _ _ nofun rfl (by simp [tupOf, envOf, AV.strip, AV.strip1])
def unitsG : Nat → List UInt8 → List Nat
  | 0, _ => []
  | n + 1, l => if l = [] then [] else (if 65536 ≤ (codeN l).1 then [55296 + ((codeN l).1 - 65536) / 1024, 56320 + ((codeN l).1 - 65536) % 1024] else [(codeN l).1]) ++ unitsG n (l.drop (codeN l).2)
theorem unitsG_nil (n : Nat) : unitsG n [] = [] := by cases n <;> simp [unitsG]
theorem unitsG_fuel : ∀ (n m : Nat) (l : List UInt8), l.length ≤ n → l.length ≤ m → validD l = true → unitsG n l = unitsG m l
  | 0, m, l, h, _, _ => by rw [List.length_eq_zero_iff.1 (by omega : l.length = 0), unitsG_nil, unitsG_nil]
  | n, 0, l, _, h, _ => by rw [List.length_eq_zero_iff.1 (by omega : l.length = 0), unitsG_nil, unitsG_nil]
  | n + 1, m + 1, l, h1, h2, hv => by
    by_cases hne : l = []
    · subst hne; rw [unitsG_nil, unitsG_nil]
    · obtain ⟨hd, hv2⟩ := code_ok hne hv
      have := hd.pos
      have := hd.len
      simp only [unitsG, hne, if_false]
      rw [unitsG_fuel n m _ (by simp; omega) (by simp; omega) hv2]
theorem tdiv1024 (n : Nat) : ((n : Int)).tdiv 1024 = ((n / 1024 : Nat) : Int) := by rw [Int.tdiv_eq_ediv_of_nonneg (by omega)]; omega
theorem tmod1024 (n : Nat) : ((n : Int)).tmod 1024 = ((n % 1024 : Nat) : Int) := by rw [Int.tmod_eq_emod_of_nonneg (by omega)]; omega
theorem unitsC (s : List UInt8) (hv : validD s = true) (hs : s.length ≤ Lim) : Pure Tryz.prog 211 [.str s] (.tup [.sl .no 1 (cU (unitsG s.length s)), .bool true]) := by
  refine Pure.go ir211 ck211 (Nat.le_refl _) fun KP Q hQ => ?_
  have hs' := hs
  simp only [Lim] at hs
  simp (disch := first | omega | assumption) only [ir211, go_sem, ↓reduceIte]
  refine goL_st (fun x : Own × List Nat × Nat => [(4, .sl x.1 1 (cU x.2.1)), (5, .int .i64 x.2.2)])
    (fun x H => x.2.2 ≤ s.length ∧ x.2.1.length ≤ 2 * x.2.2 ∧ unitsG s.length s = x.2.1 ++ unitsG (s.drop x.2.2).length (s.drop x.2.2) ∧ validD (s.drop x.2.2) = true ∧ OwnS Heap.emp .nil H x.1 x.2.1.length 1) (fun x => s.length - x.2.2) (.nil, [], 0) (by simp (disch := first | omega | assumption) only [cU, go_sem, ↓reduceIte]) ⟨by simp, by simp, by simp, by simpa using hv, OwnS.refl rfl⟩ ?_
  rintro ⟨o, acc, i⟩ H J ⟨hi, hai, hc, hv, hs1⟩ hJ
  simp only at hi hai hc hv hs1
  by_cases hlt : i < s.length
  case neg =>
    have hlt' : ¬ (i : Int) < s.length := by omega
    rw [List.drop_of_length_le (by omega)] at hc
    rw [unitsG_nil, List.append_nil] at hc
    simp (disch := first | omega | assumption) only [hlt', go_sem, ↓reduceIte]
    exact hQ _ _ _ _ nofun rfl (by simp [tupOf, envOf, AV.strip, AV.strip1, hc])
  have hlt' : (i : Int) < s.length := by omega
  have hne : s.drop i ≠ [] := fun e => by have := congrArg List.length e; simp at this; omega
  have hcl := cU_len acc
  obtain ⟨hd, hv2⟩ := code_ok hne hv
  have hp := hd.pos
  have hle := hd.len
  have hmax := hd.le
  have hst : unitsG (s.drop i).length (s.drop i) = (if 65536 ≤ (codeN (s.drop i)).1 then [55296 + ((codeN (s.drop i)).1 - 65536) / 1024, 56320 + ((codeN (s.drop i)).1 - 65536) % 1024] else [(codeN (s.drop i)).1]) ++ unitsG ((s.drop i).drop (codeN (s.drop i)).2).length ((s.drop i).drop (codeN (s.drop i)).2) := by
    obtain ⟨n, hn⟩ : ∃ n, (s.drop i).length = n + 1 := ⟨(s.drop i).length - 1, by omega⟩
    rw [hn, unitsG, if_neg hne, unitsG_fuel n _ _ (by simp at hn ⊢; omega) (Nat.le_refl _) hv2]
  simp (disch := first | omega | assumption) only [hlt', go_sem, ↓reduceIte]
  refine goK_pure (codeC s i hlt hs') ?_
  rw [hst] at hc
  rw [List.drop_drop] at hc hv2
  rw [List.length_drop] at hle
  generalize (codeN (s.drop i)).1 = c at *
  generalize (codeN (s.drop i)).2 = k at *
  have h0' : ¬ ((k : Int) = 0) := by omega
  by_cases hc6 : 65536 ≤ c
  · have g : ((65536 : Int) ≤ c) = True := eq_true (by omega)
    have w1 : IntKind.wrap .i64 ((c : Int) - 65536) = ((c - 65536 : Nat) : Int) := by rw [wrap64 (by omega) (by omega)]; omega
    have w2 : IntKind.wrap .i64 (((c - 65536) / 1024 : Nat) : Int) = (((c - 65536) / 1024 : Nat) : Int) := wrap64 (by omega) (by omega)
    have w3 : IntKind.wrap .i64 (55296 + (((c - 65536) / 1024 : Nat) : Int)) = ((55296 + (c - 65536) / 1024 : Nat) : Int) := by rw [wrap64 (by omega) (by omega)]; omega
    have w4 : IntKind.wrap .i64 (56320 + (((c - 65536) % 1024 : Nat) : Int)) = ((56320 + (c - 65536) % 1024 : Nat) : Int) := by rw [wrap64 (by omega) (by omega)]; omega
    rw [if_pos hc6] at hc
    simp (disch := first | omega | assumption) only [h0', g, w1, tdiv1024, tmod1024, w2, w3, w4, go_sem, ↓reduceIte]
    refine goP_ownS (by rw [hcl]; exact hs1.own) (by simp only [hcl, List.length_cons, List.length_nil]; omega) (by simp only [hcl, List.length_cons, List.length_nil, maxLen]; omega) fun o' H' hs2 => ?_
    simp (disch := first | omega | assumption) only [wrap64, go_sem, ↓reduceIte]
    exact goJ (hJ (o', acc ++ [55296 + (c - 65536) / 1024, 56320 + (c - 65536) % 1024], i + k) H' (by simp only; omega) ⟨by simp only; omega, by simp; omega, by rw [hc]; simp, hv2, hs1.trans (by simpa [hcl] using hs2)⟩) (by simp (disch := first | omega | assumption) only [cU, List.map_append, Int.natCast_add, go_sem, ↓reduceIte])
  · have g : ¬ ((65536 : Int) ≤ c) := by omega
    rw [if_neg hc6] at hc
    simp (disch := first | omega | assumption) only [h0', g, go_sem, ↓reduceIte]
    refine goP_ownS (by rw [hcl]; exact hs1.own) (by simp only [hcl, List.length_cons, List.length_nil]; omega) (by simp only [hcl, List.length_cons, List.length_nil, maxLen]; omega) fun o' H' hs2 => ?_
    simp (disch := first | omega | assumption) only [wrap64, go_sem, ↓reduceIte]
    exact goJ (hJ (o', acc ++ [c], i + k) H' (by simp only; omega) ⟨by simp only; omega, by simp; omega, by rw [hc]; simp, hv2, hs1.trans (by simpa [hcl] using hs2)⟩) (by simp (disch := first | omega | assumption) only [cU, List.map_append, Int.natCast_add, go_sem, ↓reduceIte])
end Go.Proofs.YticbbfbpeimkbaaGreatDoor
namespace Go.Proofs.YticbbfbpeimkbaaGreatDoor
open Go.Ab Go.Lib
theorem decN_pref {n n' b0 b1 b2 b3 c1 c2 c3 c k : Nat} (h : decodeN n b0 b1 b2 b3 = (c, k)) (hv : (c, k) ≠ (65533, 1)) (hn : k ≤ n') (h1 : 1 < k → c1 = b1) (h2 : 2 < k → c2 = b2) (h3 : 3 < k → c3 = b3) : decodeN n' b0 c1 c2 c3 = (c, k) := by
  unfold decodeN at h
  split at h
  · rename_i h0
    unfold decodeN
    rw [if_pos h0, h]
  rename_i h0
  split at h
  · rename_i hA
    split at h
    · rename_i hB
      cases h
      unfold decodeN
      rw [if_neg h0, h1 (by decide), if_pos ⟨hA.1, by omega, hA.2.2⟩, if_pos hB]
    · exact absurd h.symm hv
  rename_i hA
  split at h
  · rename_i hB
    split at h
    · rename_i hC
      cases h
      unfold decodeN
      rw [if_neg h0, h1 (by decide), h2 (by decide), if_neg (by omega), if_pos ⟨hB.1, ⟨by omega, hB.2.1.2⟩, by omega, hB.2.2.2⟩, if_pos hC]
    · exact absurd h.symm hv
  rename_i hB
  split at h
  · rename_i hC
    split at h
    · rename_i hD
      cases h
      unfold decodeN
      rw [if_neg h0, h1 (by decide), h2 (by decide), h3 (by decide), if_neg (by omega), if_neg (by omega), if_pos ⟨hC.1, ⟨by omega, hC.2.1.2⟩, ⟨by omega, hC.2.2.1.2⟩, by omega, hC.2.2.2.2⟩, if_pos hD]
    · exact absurd h.symm hv
  · exact absurd h.symm hv
theorem codeN_dec {l : List UInt8} (hne : l ≠ []) (h : (codeN l).2 ≠ 0) : codeN l = decodeL l ∧ decodeL l ≠ (65533, 1) := by
  unfold codeN at h ⊢
  rw [if_neg hne] at h ⊢
  split at h
  · exact absurd rfl h
  · rename_i h2; rw [if_neg h2]; exact ⟨rfl, h2⟩
theorem codeN_pref {l : List UInt8} (hne : l ≠ []) (h : (codeN l).2 ≠ 0) (t : List UInt8) : codeN (l.take (codeN l).2 ++ t) = codeN l := by
  obtain ⟨e, hv⟩ := codeN_dec hne h
  have hk := decodeL_le l hne
  rw [e]
  generalize hd : decodeL l = x at *
  obtain ⟨c, k⟩ := x
  simp only at *
  have h2 : decodeL (l.take k ++ t) = (c, k) := by
    rw [decodeL_N] at hd ⊢
    have hg : ∀ j, j < k → (l.take k ++ t).getD j 0 = l.getD j 0 := fun j hj => by
      simp only [List.getD_eq_getElem?_getD]
      rw [List.getElem?_append_left (by simp; omega), List.getElem?_take_of_lt hj]
    have hk1 : 1 ≤ k := by rw [← show (decodeL l).2 = k by rw [decodeL_N, hd]]; exact decodeL_width l
    rw [hg 0 (by omega)]
    exact decN_pref hd hv (by simp; omega) (fun hj => by rw [hg 1 hj]) (fun hj => by rw [hg 2 hj]) fun hj => by rw [hg 3 hj]
  have hne2 : l.take k ++ t ≠ [] := fun e => by
    have h3 := congrArg List.length e
    have hk1 : 1 ≤ k := by rw [← show (decodeL l).2 = k by rw [hd]]; exact decodeL_width l
    have hl : 0 < l.length := List.length_pos_iff.2 hne
    simp only [List.length_append, List.length_take, List.length_nil] at h3; omega
  unfold codeN
  rw [if_neg hne2, h2, if_neg hv]
theorem take_one {l : List UInt8} {c k : Nat} (h : DecOk l c k) (hc : c < 128) : k = 1 ∧ l.take k = [UInt8.ofNat c] ∧ (l.getD 0 0).toNat = c := by
  have e := h.enc
  have hl : (encM c).length = 1 := by unfold encM; rw [if_pos (by omega)]; rfl
  have hk : k = 1 := by
    rw [e] at hl
    have := h.len
    simp at hl; omega
  refine ⟨hk, by rw [← e]; unfold encM; rw [if_pos (by omega)], (h.one hk).1.symm⟩
end Go.Proofs.YticbbfbpeimkbaaGreatDoor
namespace Go.Proofs.YticbbfbpeimkbaaGreatDoor
open Go.Ab Go.Lib
theorem unitT_len (u : Nat) : (unitT u).length = 6 := rfl
theorem pieceT_len {l : List UInt8} {c k : Nat} (h : DecOk l c k) : (pieceT c (l.take k)).length ≤ 6 * k := by
  have hp := h.pos
  have hl := h.len
  have he := h.enc
  unfold pieceT
  split
  · simp; omega
  split
  · simp; omega
  split
  · rw [unitT_len]; omega
  split
  · have : k = 4 := by
      have e := congrArg List.length he
      unfold encM at e
      rw [if_neg (by omega), if_neg (by omega), if_neg (by omega)] at e
      simp at e; omega
    simp only [List.length_append, unitT_len]; omega
  · simp; omega
theorem tquoG_nil (n : Nat) : tquoG n [] = [] := by cases n <;> simp [tquoG]
theorem tquoG_fuel : ∀ (n m : Nat) (l : List UInt8), l.length ≤ n → l.length ≤ m → validD l = true → tquoG n l = tquoG m l
  | 0, m, l, h, _, _ => by rw [List.length_eq_zero_iff.1 (by omega : l.length = 0), tquoG_nil, tquoG_nil]
  | n, 0, l, _, h, _ => by rw [List.length_eq_zero_iff.1 (by omega : l.length = 0), tquoG_nil, tquoG_nil]
  | n + 1, m + 1, l, h1, h2, hv => by
    by_cases hne : l = []
    · subst hne; rw [tquoG_nil, tquoG_nil]
    · obtain ⟨hd, hv2⟩ := code_ok hne hv
      have := hd.pos
      have := hd.len
      simp only [tquoG, hne, if_false]
      rw [tquoG_fuel n m _ (by simp; omega) (by simp; omega) hv2]
theorem tquoG_len : ∀ (n : Nat) (l : List UInt8), validD l = true → (tquoG n l).length ≤ 6 * l.length
  | 0, l, _ => by simp [tquoG]
  | n + 1, l, hv => by
    by_cases hne : l = []
    · subst hne; simp [tquoG]
    · obtain ⟨hd, hv2⟩ := code_ok hne hv
      have h1 := pieceT_len hd
      have h2 := tquoG_len n _ hv2
      have h3 := hd.len
      simp only [tquoG, hne, if_false, List.length_append]
      simp only [List.length_drop] at h2
      omega
def tquoF (l : List UInt8) : List UInt8 := tquoG l.length l
theorem tquoF_step {l : List UInt8} (hne : l ≠ []) (hv : validD l = true) : tquoF l = pieceT (codeN l).1 (l.take (codeN l).2) ++ tquoF (l.drop (codeN l).2) := by
  obtain ⟨hd, hv2⟩ := code_ok hne hv
  have := hd.pos
  have := hd.len
  unfold tquoF
  obtain ⟨n, hn⟩ : ∃ n, l.length = n + 1 := ⟨l.length - 1, by omega⟩
  rw [hn, tquoG, if_neg hne, tquoG_fuel n _ _ (by simp; omega) (Nat.le_refl _) hv2]
theorem tquo_len (s : List UInt8) (hv : validD s = true) : (tquo s).length ≤ 6 * s.length + 2 := by
  have := tquoG_len s.length s hv
  simp only [tquo, List.length_cons, List.length_append, List.length_nil]; omega
theorem tokT_len {t : Tok} (h : rightK t = true) : (tokT t).length ≤ 6 * t.s.length + 2 := by
  unfold tokT
  split
  · rename_i h5
    unfold rightK at h
    rw [h5] at h
    exact tquo_len _ (by simpa using h)
  · omega
theorem fdN (u k : Nat) (hk : k ≤ 64) : (u : Int).fdiv (2 ^ min k IntKind.i64.bits) = ((u / 2 ^ k : Nat) : Int) := by
  have e : min k IntKind.i64.bits = k := by show min k 64 = k; omega
  rw [e, Int.fdiv_eq_ediv_of_nonneg _ (by exact_mod_cast Nat.zero_le _)]
  norm_cast
theorem tmod16 (n : Nat) : ((n : Int)).tmod 16 = ((n % 16 : Nat) : Int) := by rw [Int.tmod_eq_emod_of_nonneg (by omega)]; omega
theorem unitTC (u : Nat) (hu : u < 65536) (acc : List UInt8) (H : Heap) (o : Own) (ho : Owned H o acc.length 1) (hb : acc.length ≤ Lim) :
    Gives Tryz.prog 212 [.sl o 1 (bytesOf acc), .int .i64 u] H o 1 (bytesOf (acc ++ unitT u)) := by
  refine ACalls.goO ir212 ck212 (Nat.le_refl _) fun KP Q hQ hP => ?_
  have hal := bytesOf_len acc
  simp only [Lim] at hb
  simp (disch := first | omega | assumption) only [ir212, steps, st2, pev, rev, oev, optr, ibin, sbin, ishf, bound, mmAll, mm2, mk, mkArgs, AV.cells, AV.boxable, AV.one, AV.strip1, fillA, fillS, Nat.reduceEqDiff, reduceCtorEq, ↓reduceIte, Nat.reduceAdd, Int.reduceNeg, Nat.reduceLeDiff, Int.reduceToNat, Int.reduceEq, Int.reduceLT, Int.reduceLE, Int.reduceAdd]
  refine goP_ownS (by rw [hal]; exact ho) (by simp [hal]; omega) (by simp [hal, maxLen]; omega) fun o1 H1 hs1 => ?_
  have hs1' : OwnS H o H1 o1 (acc ++ [92, 117]).length 1 := by simpa [hal] using hs1
  have e1 : bytesOf acc ++ [[AV.int .u8 92], [AV.int .u8 117]] = bytesOf (acc ++ [92, 117]) := bytesOf_two acc 92 117
  simp (disch := first | omega | assumption) only [e1, steps, st2, pev, rev, oev, optr, ibin, sbin, ishf, bound, mmAll, mm2, mk, mkArgs, AV.cells, AV.boxable, AV.one, AV.strip1, fillA, fillS, Nat.reduceEqDiff, reduceCtorEq, ↓reduceIte, Nat.reduceAdd, Int.reduceNeg, Nat.reduceLeDiff, Int.reduceToNat, Int.reduceEq, Int.reduceLT, Int.reduceLE, Int.reduceAdd]
  refine goL_st (fun x : Nat × Own => [(0, .sl x.2 1 (bytesOf (acc ++ (unitT u).take (6 - x.1)))), (5, .int .i64 ((x.1 : Int) - 1))]) (fun x H' => x.1 ≤ 4 ∧ OwnS H o H' x.2 (acc ++ (unitT u).take (6 - x.1)).length 1) (fun x => x.1) (4, o1) (by simp (disch := first | omega | assumption) only [unitT, Int.reduceSub, steps, st2, pev, rev, oev, optr, ibin, sbin, ishf, bound, mmAll, mm2, mk, mkArgs, AV.cells, AV.boxable, AV.one, AV.strip1, fillA, fillS, Nat.reduceEqDiff, reduceCtorEq, ↓reduceIte, Nat.reduceAdd, Int.reduceNeg, Nat.reduceLeDiff, Int.reduceToNat, Int.reduceEq, Int.reduceLT, Int.reduceLE, Int.reduceAdd]) ⟨by simp, by simpa [unitT] using hs1'⟩ ?_
  rintro ⟨k, o2⟩ H2 J ⟨hk, hs⟩ hJ
  simp only at hk hs
  cases k with
  | zero =>
    have h0 : ¬ ((0 : Int) ≤ -1) := by omega
    have e : (unitT u).take (6 - 0) = unitT u := rfl
    rw [e] at hs
    simp (disch := first | omega | assumption) only [h0, e, Int.reduceSub, steps, st2, pev, rev, oev, optr, ibin, sbin, ishf, bound, mmAll, mm2, mk, mkArgs, AV.cells, AV.boxable, AV.one, AV.strip1, fillA, fillS, Nat.reduceEqDiff, reduceCtorEq, ↓reduceIte, Nat.reduceAdd, Int.reduceNeg, Nat.reduceLeDiff, Int.reduceToNat, Int.reduceEq, Int.reduceLT, Int.reduceLE, Int.reduceAdd]
    exact hQ _ _ H2 H2 [_] nofun rfl (Low.refl _) ⟨o2, rfl, by rw [bytesOf_len]; exact hs⟩
  | succ j =>
    have e0 : ((j + 1 : Nat) : Int) - 1 = (j : Int) := by omega
    have h0 : ((0 : Int) ≤ j) = True := eq_true (by omega)
    have w1 : IntKind.wrap .i64 (4 * (j : Int)) = ((4 * j : Nat) : Int) := by rw [wrap64 (by omega) (by omega)]; omega
    have w2 := fdN u (4 * j) (by omega)
    have hlt : (((u / 2 ^ (4 * j) % 16 : Nat) : Int) < 16) = True := eq_true (by omega)
    have w0 : (((4 * j : Nat) : Int) < 0) = False := eq_false (by omega)
    have hm : ((unitT u).take (6 - (j + 1))) ++ [hexL.getD (u / 2 ^ (4 * j) % 16) 0] = (unitT u).take (6 - j) := by
      have : j = 0 ∨ j = 1 ∨ j = 2 ∨ j = 3 := by omega
      rcases this with rfl | rfl | rfl | rfl <;> simp [unitT]
    have hl2 := bytesOf_len (acc ++ (unitT u).take (6 - (j + 1)))
    have hl3 : (acc ++ (unitT u).take (6 - (j + 1))).length ≤ acc.length + 6 := by simp [unitT_len]; omega
    have e3 := bytesOf_one (acc ++ (unitT u).take (6 - (j + 1))) (hexL.getD (u / 2 ^ (4 * j) % 16) 0)
    rw [List.append_assoc, hm] at e3
    have hg : ([48, 49, 50, 51, 52, 53, 54, 55, 56, 57, 97, 98, 99, 100, 101, 102] : List UInt8).getD (u / 2 ^ (4 * j) % 16) 0 = hexL.getD (u / 2 ^ (4 * j) % 16) 0 := rfl
    simp (disch := first | omega | assumption) only [e0, h0, w1, w2, w0, tmod16, hlt, hg, steps, st2, pev, rev, oev, optr, ibin, sbin, ishf, bound, mmAll, mm2, mk, mkArgs, AV.cells, AV.boxable, AV.one, AV.strip1, fillA, fillS, Nat.reduceEqDiff, reduceCtorEq, ↓reduceIte, Nat.reduceAdd, Int.reduceNeg, Nat.reduceLeDiff, Int.reduceToNat, Int.reduceEq, Int.reduceLT, Int.reduceLE, Int.reduceAdd]
    refine goP_ownS (by rw [hl2]; exact hs.own) (by simp only [hl2, List.length_cons, List.length_nil]; omega) (by simp only [hl2, List.length_cons, List.length_nil, maxLen]; omega) fun o3 H3 hs3 => ?_
    have hs4 : OwnS H o H3 o3 (acc ++ (unitT u).take (6 - j)).length 1 := by
      have e : (acc ++ (unitT u).take (6 - j)).length = (bytesOf (acc ++ (unitT u).take (6 - (j + 1)))).length + 1 := by
        rw [hl2, ← hm, ← List.append_assoc]; simp only [List.length_append, List.length_cons, List.length_nil]
      rw [e]; exact hs.trans hs3
    simp (disch := first | omega | assumption) only [e3, wrap64, steps, st2, pev, rev, oev, optr, ibin, sbin, ishf, bound, mmAll, mm2, mk, mkArgs, AV.cells, AV.boxable, AV.one, AV.strip1, fillA, fillS, Nat.reduceEqDiff, reduceCtorEq, ↓reduceIte, Nat.reduceAdd, Int.reduceNeg, Nat.reduceLeDiff, Int.reduceToNat, Int.reduceEq, Int.reduceLT, Int.reduceLE, Int.reduceAdd]
    exact goJ (hJ (j, o3) H3 (Nat.lt_succ_self j) ⟨by simp only; omega, hs4⟩) (by simp (disch := first | omega | assumption) only [steps, st2, pev, rev, oev, optr, ibin, sbin, ishf, bound, mmAll, mm2, mk, mkArgs, AV.cells, AV.boxable, AV.one, AV.strip1, fillA, fillS, Nat.reduceEqDiff, reduceCtorEq, ↓reduceIte, Nat.reduceAdd, Int.reduceNeg, Nat.reduceLeDiff, Int.reduceToNat, Int.reduceEq, Int.reduceLT, Int.reduceLE, Int.reduceAdd])
theorem unitsG_one {l : List UInt8} {c k : Nat} (hne : l ≠ []) (hv : validD l = true) (hc : (codeN l).1 = c) (hk : (codeN l).2 = k) :
    validD (l.take k) = true ∧ (l.take k).length = k ∧ unitsG (l.take k).length (l.take k) = if 65536 ≤ c then [55296 + (c - 65536) / 1024, 56320 + (c - 65536) % 1024] else [c] := by
  obtain ⟨hd, hv2⟩ := code_ok hne hv
  subst hc; subst hk
  have hp := hd.pos
  have hle := hd.len
  have hlen : (l.take (codeN l).2).length = (codeN l).2 := by simp; omega
  have hne2 : l.take (codeN l).2 ≠ [] := fun e => by rw [e] at hlen; simp at hlen; omega
  have hcode := codeN_pref hne (by omega : (codeN l).2 ≠ 0) []
  rw [List.append_nil] at hcode
  have hdrop : (l.take (codeN l).2).drop (codeN l).2 = [] := by apply List.drop_eq_nil_of_le; omega
  refine ⟨?_, hlen, ?_⟩
  · have := (codeN_good hne2 (by rw [hcode]; omega)).1
    rw [this, hcode, hdrop]; rfl
  · rw [hlen]
    obtain ⟨n, hn⟩ : ∃ n, (codeN l).2 = n + 1 := ⟨(codeN l).2 - 1, by omega⟩
    conv => lhs; rw [show unitsG (codeN l).2 = unitsG (n + 1) by rw [hn]]
    rw [unitsG, if_neg hne2, hcode, hdrop, unitsG_nil, List.append_nil]
theorem wr8n {n : Nat} (h : n < 256) : IntKind.wrap .u8 (n : Int) = ((UInt8.ofNat n).toNat : Int) := by
  rw [wr8]; simp
set_option maxHeartbeats 1000000 in
theorem quoteTC (s : List UInt8) (hv : validD s = true) (hs : 6 * s.length + 2 ≤ Lim) : Pure Tryz.prog 120 [.str s] (.str (tquo s)) := by
  refine Pure.go ir120 ck120 (Nat.le_refl _) fun KP Q hQ => ?_
  have hs' : s.length ≤ Lim := by simp only [Lim] at hs ⊢; omega
  simp only [Lim] at hs
  simp (disch := first | omega | assumption) only [ir120, steps, st2, pev, rev, oev, optr, ibin, sbin, ishf, bound, mmAll, mm2, mk, mkArgs, AV.cells, AV.boxable, AV.one, AV.strip1, fillA, fillS, Nat.reduceEqDiff, reduceCtorEq, ↓reduceIte, Nat.reduceAdd, Int.reduceNeg, Nat.reduceLeDiff, Int.reduceToNat, Int.reduceEq, Int.reduceLT, Int.reduceLE, Int.reduceAdd]
  have e34 : ([[AV.int .u8 34]] : List (List AV)) = bytesOf [34] := rfl
  simp (disch := first | omega | assumption) only [e34, steps, st2, pev, rev, oev, optr, ibin, sbin, ishf, bound, mmAll, mm2, mk, mkArgs, AV.cells, AV.boxable, AV.one, AV.strip1, fillA, fillS, Nat.reduceEqDiff, reduceCtorEq, ↓reduceIte, Nat.reduceAdd, Int.reduceNeg, Nat.reduceLeDiff, Int.reduceToNat, Int.reduceEq, Int.reduceLT, Int.reduceLE, Int.reduceAdd]
  refine goL_st (fun x : Own × List UInt8 × Nat => [(3, .sl x.1 1 (bytesOf x.2.1)), (4, .int .i64 x.2.2)])
    (fun x H => x.2.2 ≤ s.length ∧ x.2.1.length ≤ 6 * x.2.2 + 1 ∧ 34 :: tquoF s = x.2.1 ++ tquoF (s.drop x.2.2) ∧ validD (s.drop x.2.2) = true ∧ Owned H x.1 x.2.1.length 1) (fun x => s.length - x.2.2) (.full, [34], 0) (by simp (disch := first | omega | assumption) only [steps, st2, pev, rev, oev, optr, ibin, sbin, ishf, bound, mmAll, mm2, mk, mkArgs, AV.cells, AV.boxable, AV.one, AV.strip1, fillA, fillS, Nat.reduceEqDiff, reduceCtorEq, ↓reduceIte, Nat.reduceAdd, Int.reduceNeg, Nat.reduceLeDiff, Int.reduceToNat, Int.reduceEq, Int.reduceLT, Int.reduceLE, Int.reduceAdd]) ⟨by simp, by simp, by simp, by simpa using hv, Owned.full _ _ _⟩ ?_
  rintro ⟨o, acc, i⟩ H J ⟨hi, hai, hc, hv, hs1⟩ hJ
  simp only at hi hai hc hv hs1
  have hal := bytesOf_len acc
  by_cases hlt : i < s.length
  case neg =>
    have hlt' : ¬ (i : Int) < s.length := by omega
    rw [List.drop_of_length_le (by omega)] at hc
    have e0 : tquoF [] = [] := rfl
    rw [e0, List.append_nil] at hc
    have e3 : bytesOf acc ++ [[AV.int .u8 34]] = bytesOf (acc ++ [34]) := bytesOf_one acc 34
    simp (disch := first | omega | assumption) only [hlt', steps, st2, pev, rev, oev, optr, ibin, sbin, ishf, bound, mmAll, mm2, mk, mkArgs, AV.cells, AV.boxable, AV.one, AV.strip1, fillA, fillS, Nat.reduceEqDiff, reduceCtorEq, ↓reduceIte, Nat.reduceAdd, Int.reduceNeg, Nat.reduceLeDiff, Int.reduceToNat, Int.reduceEq, Int.reduceLT, Int.reduceLE, Int.reduceAdd]
    refine goP_ownS (by rw [hal]; exact hs1) (by simp only [hal, List.length_cons, List.length_nil]; omega) (by simp only [hal, List.length_cons, List.length_nil, maxLen]; omega) fun o3 H3 hs3 => ?_
    simp (disch := first | omega | assumption) only [e3, byts_of, steps, st2, pev, rev, oev, optr, ibin, sbin, ishf, bound, mmAll, mm2, mk, mkArgs, AV.cells, AV.boxable, AV.one, AV.strip1, fillA, fillS, Nat.reduceEqDiff, reduceCtorEq, ↓reduceIte, Nat.reduceAdd, Int.reduceNeg, Nat.reduceLeDiff, Int.reduceToNat, Int.reduceEq, Int.reduceLT, Int.reduceLE, Int.reduceAdd]
    have e4 : tquo s = acc ++ [34] := by rw [← hc]; rfl
    exact hQ _ _ _ _ nofun rfl (by simp [tupOf, envOf, AV.strip, AV.strip1, e4])
  have hlt' : (i : Int) < s.length := by omega
  have hne : s.drop i ≠ [] := fun e => by have := congrArg List.length e; simp at this; omega
  obtain ⟨hd, hv2⟩ := code_ok hne hv
  have hst := tquoF_step hne hv
  have hone := unitsG_one hne hv rfl rfl
  have hpl := pieceT_len hd
  have hp := hd.pos
  have hle := hd.len
  have hmax := hd.le
  have h1b := @take_one _ _ _ hd
  rw [List.length_drop] at hle
  simp (disch := first | omega | assumption) only [hlt', steps, st2, pev, rev, oev, optr, ibin, sbin, ishf, bound, mmAll, mm2, mk, mkArgs, AV.cells, AV.boxable, AV.one, AV.strip1, fillA, fillS, Nat.reduceEqDiff, reduceCtorEq, ↓reduceIte, Nat.reduceAdd, Int.reduceNeg, Nat.reduceLeDiff, Int.reduceToNat, Int.reduceEq, Int.reduceLT, Int.reduceLE, Int.reduceAdd]
  refine goK_pure (codeC s i hlt hs') ?_
  rw [hst] at hc
  rw [List.drop_drop] at hc hv2
  generalize (codeN (s.drop i)).1 = c at *
  generalize (codeN (s.drop i)).2 = k at *
  have hmax1 : ((1 : Int) > (k : Int)) = False := eq_false (by omega)
  have wk : IntKind.wrap .i64 ((i : Int) + (k : Int)) = ((i + k : Nat) : Int) := by rw [wrap64 (by omega) (by omega)]; omega
  have hsub : (s.take (i + k)).drop i = (s.drop i).take k := by rw [List.drop_take]; congr 1; omega
  have hle2 : (((i + k : Nat) : Int) ≤ s.length) = True := eq_true (by omega)
  have hle3 : ((i : Int) ≤ ((i + k : Nat) : Int)) = True := eq_true (by omega)
  have step : ∀ o3 H3 (bs : List UInt8), bs = pieceT c ((s.drop i).take k) → Owned H3 o3 (acc ++ bs).length 1 → J ((setAll _ [(3, .sl o3 1 (bytesOf (acc ++ bs))), (4, .int .i64 ((i + k : Nat) : Int))]).keep [0, 3, 4]) H3 := fun o3 H3 bs hbs ho3 =>
    hJ (o3, acc ++ bs, i + k) H3 (by simp only; omega) ⟨by simp only; omega, by simp only [List.length_append, hbs]; omega, by rw [hc, hbs]; simp, hv2, ho3⟩
  by_cases c1 : c = 34 ∨ c = 92
  · have g : ((c : Int) = 34 ∨ (c : Int) = 92) := by omega
    have e3 : bytesOf acc ++ [[AV.int .u8 92], [AV.int .u8 (UInt8.ofNat c).toNat]] = bytesOf (acc ++ [92, UInt8.ofNat c]) := bytesOf_two acc 92 _
    have ep : [92, UInt8.ofNat c] = pieceT c ((s.drop i).take k) := by unfold pieceT; rw [if_pos c1]
    rcases c1 with c1 | c1
    all_goals
      have w8 : IntKind.wrap .u8 (c : Int) = ((UInt8.ofNat c).toNat : Int) := wr8n (by omega)
      subst c1
      have gg := w8
      simp only [Int.cast_ofNat_Int] at w8
      simp (disch := first | omega | assumption) only [w8, steps, st2, pev, rev, oev, optr, ibin, sbin, ishf, bound, mmAll, mm2, mk, mkArgs, AV.cells, AV.boxable, AV.one, AV.strip1, fillA, fillS, Nat.reduceEqDiff, reduceCtorEq, ↓reduceIte, Nat.reduceAdd, Int.reduceNeg, Nat.reduceLeDiff, Int.reduceToNat, Int.reduceEq, Int.reduceLT, Int.reduceLE, Int.reduceAdd]
      refine goP_ownS (by rw [hal]; exact hs1) (by simp only [hal, List.length_cons, List.length_nil]; omega) (by simp only [hal, List.length_cons, List.length_nil, maxLen]; omega) fun o3 H3 hs3 => ?_
      simp (disch := first | omega | assumption) only [e3, hmax1, wk, steps, st2, pev, rev, oev, optr, ibin, sbin, ishf, bound, mmAll, mm2, mk, mkArgs, AV.cells, AV.boxable, AV.one, AV.strip1, fillA, fillS, Nat.reduceEqDiff, reduceCtorEq, ↓reduceIte, Nat.reduceAdd, Int.reduceNeg, Nat.reduceLeDiff, Int.reduceToNat, Int.reduceEq, Int.reduceLT, Int.reduceLE, Int.reduceAdd]
      exact goJ (step o3 H3 _ ep (by simpa [hal] using hs3.own)) (by simp (disch := first | omega | assumption) only [steps, st2, pev, rev, oev, optr, ibin, sbin, ishf, bound, mmAll, mm2, mk, mkArgs, AV.cells, AV.boxable, AV.one, AV.strip1, fillA, fillS, Nat.reduceEqDiff, reduceCtorEq, ↓reduceIte, Nat.reduceAdd, Int.reduceNeg, Nat.reduceLeDiff, Int.reduceToNat, Int.reduceEq, Int.reduceLT, Int.reduceLE, Int.reduceAdd])
  have g34 : ¬ ((c : Int) = 34) := by omega
  have g92 : ¬ ((c : Int) = 92) := by omega
  by_cases c2 : c = 10
  · subst c2
    have e3 : bytesOf acc ++ [[AV.int .u8 92], [AV.int .u8 110]] = bytesOf (acc ++ [92, 110]) := bytesOf_two acc 92 110
    have ep : [92, 110] = pieceT 10 ((s.drop i).take k) := by unfold pieceT; rw [if_neg (by decide), if_pos rfl]
    simp (disch := first | omega | assumption) only [steps, st2, pev, rev, oev, optr, ibin, sbin, ishf, bound, mmAll, mm2, mk, mkArgs, AV.cells, AV.boxable, AV.one, AV.strip1, fillA, fillS, Nat.reduceEqDiff, reduceCtorEq, ↓reduceIte, Nat.reduceAdd, Int.reduceNeg, Nat.reduceLeDiff, Int.reduceToNat, Int.reduceEq, Int.reduceLT, Int.reduceLE, Int.reduceAdd]
    refine goP_ownS (by rw [hal]; exact hs1) (by simp only [hal, List.length_cons, List.length_nil]; omega) (by simp only [hal, List.length_cons, List.length_nil, maxLen]; omega) fun o3 H3 hs3 => ?_
    simp (disch := first | omega | assumption) only [e3, hmax1, wk, steps, st2, pev, rev, oev, optr, ibin, sbin, ishf, bound, mmAll, mm2, mk, mkArgs, AV.cells, AV.boxable, AV.one, AV.strip1, fillA, fillS, Nat.reduceEqDiff, reduceCtorEq, ↓reduceIte, Nat.reduceAdd, Int.reduceNeg, Nat.reduceLeDiff, Int.reduceToNat, Int.reduceEq, Int.reduceLT, Int.reduceLE, Int.reduceAdd]
    exact goJ (step o3 H3 _ ep (by simpa [hal] using hs3.own)) (by simp (disch := first | omega | assumption) only [steps, st2, pev, rev, oev, optr, ibin, sbin, ishf, bound, mmAll, mm2, mk, mkArgs, AV.cells, AV.boxable, AV.one, AV.strip1, fillA, fillS, Nat.reduceEqDiff, reduceCtorEq, ↓reduceIte, Nat.reduceAdd, Int.reduceNeg, Nat.reduceLeDiff, Int.reduceToNat, Int.reduceEq, Int.reduceLT, Int.reduceLE, Int.reduceAdd])
  have g10 : ¬ ((c : Int) = 10) := by omega
  by_cases c3 : c < 32 ∨ 65536 ≤ c
  · have hus := hone.2.2
    have hvt := hone.1
    have htl := hone.2.1
    have hlim : ((s.drop i).take k).length ≤ Lim := by rw [htl]; simp only [Lim]; omega
    have loop : ∀ (ρ : Env) (us : List Nat), us = (if 65536 ≤ c then [55296 + (c - 65536) / 1024, 56320 + (c - 65536) % 1024] else [c]) → (∀ u ∈ us, u < 65536) ∧ us.flatMap unitT = pieceT c ((s.drop i).take k) := fun ρ us hu => by
      subst hu
      by_cases h6 : 65536 ≤ c
      · rw [if_pos h6]
        refine ⟨fun u hu => by simp at hu; omega, ?_⟩
        unfold pieceT; rw [if_neg c1, if_neg c2, if_neg (by omega), if_pos h6]; simp
      · rw [if_neg h6]
        refine ⟨fun u hu => by simp at hu; omega, ?_⟩
        unfold pieceT; rw [if_neg c1, if_neg c2, if_pos (by omega)]; simp
    obtain ⟨us, hus2⟩ : ∃ us, us = (if 65536 ≤ c then [55296 + (c - 65536) / 1024, 56320 + (c - 65536) % 1024] else [c]) := ⟨_, rfl⟩
    rw [← hus2] at hus
    obtain ⟨hu1, hu2⟩ := loop (fun _ => .any) us hus2
    have hul : us.length ≤ 2 := by rw [hus2]; split <;> simp
    have hcl := cU_len us
    by_cases c4 : c < 32
    case' pos =>
      have g32 : ((c : Int) < 32) = True := eq_true (by omega)
      simp (disch := first | omega | assumption) only [g34, g92, g10, g32, wk, hle2, hle3, hsub, steps, st2, pev, rev, oev, optr, ibin, sbin, ishf, bound, mmAll, mm2, mk, mkArgs, AV.cells, AV.boxable, AV.one, AV.strip1, fillA, fillS, Nat.reduceEqDiff, reduceCtorEq, ↓reduceIte, Nat.reduceAdd, Int.reduceNeg, Nat.reduceLeDiff, Int.reduceToNat, Int.reduceEq, Int.reduceLT, Int.reduceLE, Int.reduceAdd]
    case' neg =>
      have g32 : ¬ ((c : Int) < 32) := by omega
      have g6 : ((65536 : Int) ≤ c) = True := eq_true (by omega)
      simp (disch := first | omega | assumption) only [g34, g92, g10, g32, g6, wk, hle2, hle3, hsub, steps, st2, pev, rev, oev, optr, ibin, sbin, ishf, bound, mmAll, mm2, mk, mkArgs, AV.cells, AV.boxable, AV.one, AV.strip1, fillA, fillS, Nat.reduceEqDiff, reduceCtorEq, ↓reduceIte, Nat.reduceAdd, Int.reduceNeg, Nat.reduceLeDiff, Int.reduceToNat, Int.reduceEq, Int.reduceLT, Int.reduceLE, Int.reduceAdd]
    all_goals
      refine goK_pure (unitsC _ hvt hlim) ?_
      rw [hus]
      simp (disch := first | omega | assumption) only [hcl, steps, st2, pev, rev, oev, optr, ibin, sbin, ishf, bound, mmAll, mm2, mk, mkArgs, AV.cells, AV.boxable, AV.one, AV.strip1, fillA, fillS, Nat.reduceEqDiff, reduceCtorEq, ↓reduceIte, Nat.reduceAdd, Int.reduceNeg, Nat.reduceLeDiff, Int.reduceToNat, Int.reduceEq, Int.reduceLT, Int.reduceLE, Int.reduceAdd]
      refine goL_range us 67 (fun x : Own × List UInt8 => [(3, .sl x.1 1 (bytesOf x.2))]) (fun done rest x H' => x.2 ++ rest.flatMap unitT = acc ++ pieceT c ((s.drop i).take k) ∧ x.2.length ≤ acc.length + 6 * done.length ∧ Owned H' x.1 x.2.length 1) (o, acc) (by simp (disch := first | omega | assumption) only [steps, st2, pev, rev, oev, optr, ibin, sbin, ishf, bound, mmAll, mm2, mk, mkArgs, AV.cells, AV.boxable, AV.one, AV.strip1, fillA, fillS, Nat.reduceEqDiff, reduceCtorEq, ↓reduceIte, Nat.reduceAdd, Int.reduceNeg, Nat.reduceLeDiff, Int.reduceToNat, Int.reduceEq, Int.reduceLT, Int.reduceLE, Int.reduceAdd]) ⟨by simp only; rw [hu2], by simp, hs1⟩ ?_ ?_
      · rintro ⟨o2, a⟩ H2 J2 ⟨hn, hle, hs2⟩ hlt
        simp only [List.flatMap_nil, List.append_nil] at hn hle hs2
        simp (disch := first | omega | assumption) only [hcl, hlt, hmax1, wk, steps, st2, pev, rev, oev, optr, ibin, sbin, ishf, bound, mmAll, mm2, mk, mkArgs, AV.cells, AV.boxable, AV.one, AV.strip1, fillA, fillS, Nat.reduceEqDiff, reduceCtorEq, ↓reduceIte, Nat.reduceAdd, Int.reduceNeg, Nat.reduceLeDiff, Int.reduceToNat, Int.reduceEq, Int.reduceLT, Int.reduceLE, Int.reduceAdd]
        subst hn
        exact goJ (step o2 H2 _ rfl hs2) (by simp (disch := first | omega | assumption) only [steps, st2, pev, rev, oev, optr, ibin, sbin, ishf, bound, mmAll, mm2, mk, mkArgs, AV.cells, AV.boxable, AV.one, AV.strip1, fillA, fillS, Nat.reduceEqDiff, reduceCtorEq, ↓reduceIte, Nat.reduceAdd, Int.reduceNeg, Nat.reduceLeDiff, Int.reduceToNat, Int.reduceEq, Int.reduceLT, Int.reduceLE, Int.reduceAdd])
      · rintro done x rest ⟨o2, a⟩ H2 J2 hdn hlt hlt2 ⟨hn, hle, hs2⟩ hJ2
        simp only [List.flatMap_cons] at hn hle hs2
        have hg : (cU us).getD done.length [] = [AV.int .i64 (x : Int)] := getD_mid' hdn
        simp (disch := first | omega | assumption) only [hcl, hlt, hg, steps, st2, pev, rev, oev, optr, ibin, sbin, ishf, bound, mmAll, mm2, mk, mkArgs, AV.cells, AV.boxable, AV.one, AV.strip1, fillA, fillS, Nat.reduceEqDiff, reduceCtorEq, ↓reduceIte, Nat.reduceAdd, Int.reduceNeg, Nat.reduceLeDiff, Int.reduceToNat, Int.reduceEq, Int.reduceLT, Int.reduceLE, Int.reduceAdd]
        refine goK_gives (unitTC x (hu1 x (by rw [hdn]; simp)) a _ o2 hs2 (by simp only [Lim]; omega)) fun o3 H3 hs3 => ?_
        rw [bytesOf_len] at hs3
        simp (disch := first | omega | assumption) only [wrap64, steps, st2, pev, rev, oev, optr, ibin, sbin, ishf, bound, mmAll, mm2, mk, mkArgs, AV.cells, AV.boxable, AV.one, AV.strip1, fillA, fillS, Nat.reduceEqDiff, reduceCtorEq, ↓reduceIte, Nat.reduceAdd, Int.reduceNeg, Nat.reduceLeDiff, Int.reduceToNat, Int.reduceEq, Int.reduceLT, Int.reduceLE, Int.reduceAdd]
        exact goJ (hJ2 (o3, a ++ unitT x) H3 ⟨by rw [← hn]; simp, by simp only [List.length_append, unitT_len, List.length_cons, List.length_nil]; omega, hs3.own⟩) (by simp (disch := first | omega | assumption) only [steps, st2, pev, rev, oev, optr, ibin, sbin, ishf, bound, mmAll, mm2, mk, mkArgs, AV.cells, AV.boxable, AV.one, AV.strip1, fillA, fillS, Nat.reduceEqDiff, reduceCtorEq, ↓reduceIte, Nat.reduceAdd, Int.reduceNeg, Nat.reduceLeDiff, Int.reduceToNat, Int.reduceEq, Int.reduceLT, Int.reduceLE, Int.reduceAdd])
  · have g32 : ¬ ((c : Int) < 32) := by omega
    have g6 : ¬ ((65536 : Int) ≤ c) := by omega
    have ep : (s.drop i).take k = pieceT c ((s.drop i).take k) := by unfold pieceT; rw [if_neg c1, if_neg c2, if_neg (by omega), if_neg (by omega)]
    have htl := hone.2.1
    have hbl := bytesOf_len ((s.drop i).take k)
    simp (disch := first | omega | assumption) only [g34, g92, g10, g32, g6, wk, hle2, hle3, hsub, steps, st2, pev, rev, oev, optr, ibin, sbin, ishf, bound, mmAll, mm2, mk, mkArgs, AV.cells, AV.boxable, AV.one, AV.strip1, fillA, fillS, Nat.reduceEqDiff, reduceCtorEq, ↓reduceIte, Nat.reduceAdd, Int.reduceNeg, Nat.reduceLeDiff, Int.reduceToNat, Int.reduceEq, Int.reduceLT, Int.reduceLE, Int.reduceAdd]
    refine goP_ownS (by rw [hal]; exact hs1) (by rw [hal, hbl, htl]; omega) (by rw [hal, hbl, htl]; simp only [maxLen]; omega) fun o3 H3 hs3 => ?_
    simp (disch := first | omega | assumption) only [bytesOf_strip, bytesOf_app, hmax1, wk, steps, st2, pev, rev, oev, optr, ibin, sbin, ishf, bound, mmAll, mm2, mk, mkArgs, AV.cells, AV.boxable, AV.one, AV.strip1, fillA, fillS, Nat.reduceEqDiff, reduceCtorEq, ↓reduceIte, Nat.reduceAdd, Int.reduceNeg, Nat.reduceLeDiff, Int.reduceToNat, Int.reduceEq, Int.reduceLT, Int.reduceLE, Int.reduceAdd]
    exact goJ (step o3 H3 _ ep (by have := hs3.own; rw [hal, hbl] at this; simpa using this)) (by simp (disch := first | omega | assumption) only [steps, st2, pev, rev, oev, optr, ibin, sbin, ishf, bound, mmAll, mm2, mk, mkArgs, AV.cells, AV.boxable, AV.one, AV.strip1, fillA, fillS, Nat.reduceEqDiff, reduceCtorEq, ↓reduceIte, Nat.reduceAdd, Int.reduceNeg, Nat.reduceLeDiff, Int.reduceToNat, Int.reduceEq, Int.reduceLT, Int.reduceLE, Int.reduceAdd])
end Go.Proofs.YticbbfbpeimkbaaGreatDoor
namespace Go.Proofs.YticbbfbpeimkbaaGreatDoor
open Go.Ab
abbrev TS := List Tok
abbrev PR (α : Type) := Except Int (α × TS)
def wK (t : Tok) : Nat := t.s.length + 4
def wT (l : TS) : Nat := (l.map wK).sum
theorem wT_cons (x : Tok) (l : TS) : wT (x :: l) = wK x + wT l := by simp [wT]
structure Fp {α : Type} (b : α → Nat) (ok : α → Prop) (c : Nat) (t : TS) (a : α) (t' : TS) : Prop where
  suf : t' <:+ t
  w : b a + c + wT t' ≤ wT t
  ok : ok a
def GP {α : Type} (b : α → Nat) (ok : α → Prop) (c : Nat) (f : TS → PR α) : Prop := ∀ t a t', f t = .ok (a, t') → Fp b ok c t a t'
theorem Fp.lt {α : Type} {b : α → Nat} {ok : α → Prop} {c : Nat} {t t' : TS} {a : α} (h : Fp b ok c t a t') (hc : 0 < c) : t'.length < t.length := by
  obtain ⟨p, hp⟩ := h.suf
  have h2 := h.w
  cases p with
  | nil => simp at hp; subst hp; omega
  | cons x p => rw [← hp]; simp; omega
def b0 {α : Type} (_ : α) : Nat := 0
theorem GP.lt {α : Type} {b : α → Nat} {ok : α → Prop} {c : Nat} {f : TS → PR α} (h : GP b ok c f) (hc : 0 < c) : ∀ t a t', f t = .ok (a, t') → t'.length < t.length := fun t a t' e => (h t a t' e).lt hc
end Go.Proofs.YticbbfbpeimkbaaGreatDoor
namespace Go.Proofs.YticbbfbpeimkbaaGreatDoor
open Go.Ab Go.Lib
theorem isMark_ne {s : List UInt8} (h : s.length ≠ 1) : isMark s = false := by
  match s, h with
  | [], _ => rfl
  | [_], h => exact absurd rfl h
  | _ :: _ :: _, _ => rfl
theorem rightTC (t : Tok) (ht : t.s.length ≤ Lim) : Pure Tryz.prog 119 [.agg (cK t)] (.bool (rightK t)) := by
  refine Pure.go ir119 ck119 (Nat.le_refl _) fun KP Q hQ => ?_
  obtain ⟨k, s⟩ := t
  simp only at ht
  by_cases k1 : k = 1
  · subst k1
    by_cases hd : s = [46, 46, 46]
    · simp (disch := first | omega | assumption) only [ir119, cK, hd, go_sem, ↓reduceIte]
      exact hQ _ _ _ _ nofun rfl (by simp [tupOf, envOf, AV.strip, AV.strip1, rightK, hd, dotsT])
    by_cases hl : s.length = 1
    · obtain ⟨c, rfl⟩ := List.length_eq_one_iff.1 hl
      simp (disch := first | omega | assumption) only [ir119, cK, hd, go_sem, ↓reduceIte]
      have e : rightK ⟨1, [c]⟩ = decide (0 ≤ Lib.indexByte marksT c) := by simp [rightK, dotsT, isMark]
      refine goK_pure (containsC1 _ c) ?_
      simp (disch := first | omega | assumption) only [go_sem, ↓reduceIte]
      exact hQ _ _ _ [_] nofun rfl (by rw [e]; rfl)
    · have hl' : ¬ ((s.length : Int) = 1) := by omega
      simp (disch := first | omega | assumption) only [ir119, cK, hd, hl', go_sem, ↓reduceIte]
      exact hQ _ _ _ _ nofun rfl (by simp [tupOf, envOf, AV.strip, AV.strip1, rightK, hd, dotsT, isMark_ne hl])
  by_cases k2 : k = 2
  · subst k2
    simp (disch := first | omega | assumption) only [ir119, cK, go_sem, ↓reduceIte]
    refine goK_pure (nameC s ht) ?_
    simp (disch := first | omega | assumption) only [go_sem, ↓reduceIte]
    exact hQ _ _ _ _ nofun rfl (by simp [tupOf, envOf, AV.strip, AV.strip1, rightK])
  by_cases k3 : k = 3
  · subst k3
    simp (disch := first | omega | assumption) only [ir119, cK, go_sem, ↓reduceIte]
    refine goK_pure (NumberC s ht) ?_
    simp (disch := first | omega | assumption) only [go_sem, ↓reduceIte]
    exact hQ _ _ _ _ nofun rfl (by simp [tupOf, envOf, AV.strip, AV.strip1, rightK])
  by_cases k4 : k = 4
  · subst k4
    simp (disch := first | omega | assumption) only [ir119, cK, go_sem, ↓reduceIte]
    refine goK_pure (NumberC s ht) ?_
    simp (disch := first | omega | assumption) only [go_sem, ↓reduceIte]
    exact hQ _ _ _ _ nofun rfl (by simp [tupOf, envOf, AV.strip, AV.strip1, rightK])
  by_cases k5 : k = 5
  · subst k5
    simp (disch := first | omega | assumption) only [ir119, cK, go_sem, ↓reduceIte]
    refine goK_pure (goodC s ht) ?_
    simp (disch := first | omega | assumption) only [go_sem, ↓reduceIte]
    exact hQ _ _ _ _ nofun rfl (by simp [tupOf, envOf, AV.strip, AV.strip1, rightK])
  · simp (disch := first | omega | assumption) only [ir119, cK, k1, k2, k3, k4, k5, go_sem, ↓reduceIte]
    exact hQ _ _ _ _ nofun rfl (by simp [tupOf, envOf, AV.strip, AV.strip1, rightK, k1, k2, k3, k4, k5])
theorem join_le : ∀ l : List (List UInt8), (Lib.join l [32]).length ≤ (l.map fun s => s.length + 1).sum
  | [] => by simp [Lib.join_nil]
  | x :: r => by
    rw [Lib.join_length]
    have : ∀ l : List (List UInt8), lens l + l.length = (l.map fun s => s.length + 1).sum := fun l => by
      induction l with
      | nil => rfl
      | cons y l ih => simp only [lens, List.map_cons, List.sum_cons, List.length_cons] at ih ⊢; omega
    have h := this (x :: r)
    simp only [List.length_cons, List.length_nil] at h ⊢
    omega
theorem tjoin_le (l : List Tok) (h : l.all rightK = true) : (tjoin l).length ≤ 6 * wT l := by
  refine Nat.le_trans (join_le _) ?_
  induction l with
  | nil => simp [wT]
  | cons t l ih =>
    simp only [List.all_cons, Bool.and_eq_true] at h
    have h1 := tokT_len h.1
    have h2 := ih h.2
    rw [wT_cons]
    simp only [List.map_cons, List.sum_cons, wK] at h2 ⊢
    omega
theorem wT_mem {l : List Tok} {t : Tok} (h : t ∈ l) : t.s.length + 4 ≤ wT l := by
  induction l with
  | nil => cases h
  | cons y l ih =>
    rw [wT_cons]
    rcases List.mem_cons.1 h with rfl | h
    · unfold wK; omega
    · have := ih h; omega
theorem wT_len (l : List Tok) : 4 * l.length ≤ wT l := by
  induction l with
  | nil => simp
  | cons y l ih => rw [wT_cons]; simp only [List.length_cons, wK]; omega
theorem printTC (L : List Tok) (hb : 8 * wT L ≤ Lim) : Pure Tryz.prog 56 [.sl .no 2 (cKs L)] (.tup [.str (tprint L).1, .bool (tprint L).2]) := by
  refine Pure.go ir56 ck56 (Nat.le_refl _) fun KP Q hQ => ?_
  have hkl := cKs_len L
  have hwl := wT_len L
  simp only [Lim] at hb
  simp (disch := first | omega | assumption) only [ir56, hkl, go_sem, ↓reduceIte]
  refine goL_range L 9 (fun x : Own × List (List UInt8) => [(4, .sl x.1 1 (cT x.2))]) (fun done rest x H => x.2 = done.map tokT ∧ done.all rightK = true ∧ Owned H x.1 x.2.length 1) (.nil, []) (by simp (disch := first | omega | assumption) only [cT, go_sem, ↓reduceIte]) ⟨rfl, rfl, Owned.nil _ _⟩ ?_ ?_
  · rintro ⟨o, l⟩ H J ⟨hl, hr, ho⟩ hlt
    simp only at hl hr ho
    subst hl
    have hj := tjoin_le L hr
    have hcl := cT_len (L.map tokT)
    simp (disch := first | omega | assumption) only [hkl, hlt, go_sem, ↓reduceIte]
    refine goK_pure (Pure.low (joinStrC (L.map tokT) [32] (by show (tjoin L).length ≤ _; omega) (by simp; omega))) ?_
    simp (disch := first | omega | assumption) only [go_sem, ↓reduceIte]
    exact hQ _ _ _ _ nofun rfl (by simp [tupOf, envOf, AV.strip, AV.strip1, tprint, hr, tjoin])
  · rintro done x rest ⟨o, l⟩ H J hd hlt hlt2 ⟨hl, hr, ho⟩ hJ
    simp only at hl hr ho
    have hg := cKs_get hd
    have hmem : x ∈ L := by rw [hd]; simp
    have hx := wT_mem hmem
    have hlen : l.length = done.length := by rw [hl]; simp
    have hcl := cT_len l
    simp (disch := first | omega | assumption) only [hkl, hlt, hg, go_sem, ↓reduceIte]
    refine goA_intro fun b hb => ?_
    simp (disch := first | omega | assumption) only [go_sem, ↓reduceIte]
    refine goK_pure (rightTC x (by simp only [Lim]; omega)) ?_
    cases hrx : rightK x with
    | false =>
      have e : L.all rightK = false := by rw [hd]; simp [hrx]
      simp (disch := first | omega | assumption) only [go_sem, ↓reduceIte]
      exact hQ _ _ _ _ nofun rfl (by simp [tupOf, envOf, AV.strip, AV.strip1, tprint, e])
    | true =>
      by_cases k5 : x.k = 5
      · have hv : validD x.s = true := by unfold rightK at hrx; rw [k5] at hrx; simpa using hrx
        simp (disch := first | omega | assumption) only [k5, go_sem, ↓reduceIte]
        refine goK_pure (quoteTC x.s hv (by simp only [Lim]; omega)) ?_
        simp (disch := first | omega | assumption) only [go_sem, ↓reduceIte]
        refine goP_ownS (by rw [hcl]; exact ho.upd hb) (by simp only [hcl, List.length_cons, List.length_nil]; omega) (by simp only [hcl, List.length_cons, List.length_nil, maxLen]; omega) fun o3 H3 hs3 => ?_
        have et : tokT x = tquo x.s := by unfold tokT; rw [if_pos k5]
        simp (disch := first | omega | assumption) only [wrap64, go_sem, ↓reduceIte]
        exact goJ (hJ (o3, l ++ [tquo x.s]) H3 ⟨by rw [hl]; simp [et], by simp [hr, hrx], by simpa [hcl] using hs3.own⟩) (by simp (disch := first | omega | assumption) only [cT, List.map_append, go_sem, ↓reduceIte])
      · have et : tokT x = x.s := by unfold tokT; rw [if_neg k5]
        simp (disch := first | omega | assumption) only [k5, go_sem, ↓reduceIte]
        refine goP_ownS (by rw [hcl]; exact ho.upd hb) (by simp only [hcl, List.length_cons, List.length_nil]; omega) (by simp only [hcl, List.length_cons, List.length_nil, maxLen]; omega) fun o3 H3 hs3 => ?_
        simp (disch := first | omega | assumption) only [wrap64, go_sem, ↓reduceIte]
        exact goJ (hJ (o3, l ++ [x.s]) H3 ⟨by rw [hl]; simp [et], by simp [hr, hrx], by simpa [hcl] using hs3.own⟩) (by simp (disch := first | omega | assumption) only [cT, List.map_append, go_sem, ↓reduceIte])
end Go.Proofs.YticbbfbpeimkbaaGreatDoor
namespace Go.Proofs.YticbbfbpeimkbaaGreatDoor
open Go.Ab
structure WAt (H : Heap) (w : Nat) (o : Own) (l : List Tok) (ok : Bool) (dp : Int) : Prop where
  cell : H w = some (.cells [.sl o 2 (cKs l), .bool ok, .int .i64 dp])
  own : Owned H o l.length 2
structure WStep (H : Heap) (o : Own) (w : Nat) (H' : Heap) (o' : Own) : Prop where
  keep : ∀ c x, c ≠ w → (∀ d, o ≠ .tip c d) → H c = some x → H' c = some x
  new : ∀ b d, o' = .tip b d → H b = none ∨ ∃ d0, o = .tip b d0
theorem WStep.refl (H : Heap) (o : Own) (w : Nat) : WStep H o w H o := ⟨fun _ _ _ _ h => h, fun b d e => .inr ⟨d, e⟩⟩
theorem WStep.trans {H H1 H2 : Heap} {o o1 o2 : Own} {w : Nat} {x : AObj} (h : WStep H o w H1 o1) (hw : H1 w = some x) (h' : WStep H1 o1 w H2 o2) : WStep H o w H2 o2 := by
  refine ⟨fun c y hc hn hy => h'.keep c y hc (fun d e => ?_) (h.keep c y hc hn hy), fun b d e => ?_⟩
  · rcases h.new c d e with h1 | ⟨d0, h1⟩
    · rw [hy] at h1; cases h1
    · exact hn d0 h1
  · rcases h'.new b d e with h1 | ⟨d0, h1⟩
    · cases hb : H b with
      | none => exact .inl rfl
      | some y =>
        by_cases e2 : ∃ d, o = .tip b d
        · exact .inr e2
        · have hbw : b ≠ w := fun e3 => by subst e3; rw [hw] at h1; cases h1
          have := h.keep b y hbw (fun d e3 => e2 ⟨d, e3⟩) hb
          rw [h1] at this; cases this
    · exact h.new b d0 h1
theorem WStep.box {H H' : Heap} {o o' : Own} {w b n : Nat} {cs : List AV} (h : WStep H o w H' o') (ho : Owned H o n 2) (hb : H b = some (.cells cs)) (hw : b ≠ w) : H' b = some (.cells cs) :=
  h.keep b _ hw (fun d e => by subst e; exact own_ne ho hb rfl) hb
theorem WStep.upd {H H' : Heap} {o o' : Own} {w : Nat} {x : AObj} (h : WStep H o w H' o') : WStep H o w (H'.upd w x) o' :=
  ⟨fun c y hc hn hy => by rw [upd_ne hc]; exact h.keep c y hc hn hy, h.new⟩
theorem WStep.alloc {H H' : Heap} {o o' : Own} {w b : Nat} {x : AObj} (h : WStep H o w H' o') (hb : H' b = none) : WStep H o w (H'.upd b x) o' :=
  ⟨fun c y hc hn hy => by have := h.keep c y hc hn hy; rw [upd_ne (fun e => by subst e; rw [hb] at this; cases this)]; exact this, h.new⟩
theorem WAt.alloc {H : Heap} {w b : Nat} {o : Own} {l : List Tok} {ok : Bool} {dp : Int} {x : AObj} (h : WAt H w o l ok dp) (hb : H b = none) : WAt (H.upd b x) w o l ok dp :=
  ⟨by rw [upd_ne (fun e => by subst e; rw [h.cell] at hb; cases hb)]; exact h.cell, h.own.upd hb⟩
theorem WAt.put {H : Heap} {w : Nat} {o : Own} {l : List Tok} {ok ok' : Bool} {dp dp' : Int} (h : WAt H w o l ok dp) : WAt (H.upd w (.cells [.sl o 2 (cKs l), .bool ok', .int .i64 dp'])) w o l ok' dp' :=
  ⟨upd_same .., own_upd h.own h.cell⟩
theorem WAt.app {H H1 : Heap} {w : Nat} {o o1 : Own} {l ts : List Tok} {ok : Bool} {dp : Int} {n : Nat} (h : WAt H w o l ok dp) (hs : OwnS H o H1 o1 n 2) (hn : n = (l ++ ts).length) :
    H1 w = some (.cells [.sl o 2 (cKs l), .bool ok, .int .i64 dp]) ∧ WAt (H1.upd w (.cells [.sl o1 2 (cKs (l ++ ts)), .bool ok, .int .i64 dp])) w o1 (l ++ ts) ok dp ∧ WStep H o w (H1.upd w (.cells [.sl o1 2 (cKs (l ++ ts)), .bool ok, .int .i64 dp])) o1 := by
  subst hn
  have hc := own_keep h.own h.cell hs.kept
  exact ⟨hc, ⟨upd_same .., own_upd hs.own hc⟩, fun c y hcw hn hy => by rw [upd_ne hcw]; exact hs.kept c y hy hn, hs.new⟩
abbrev RetT (R : AV → Heap → Prop) : AEnd → Heap → Prop := fun e H' => ∃ v, e = .ret v ∧ R v H'
def WC (f : FuncId) (args : List AV) (B : Nat) (lo hi : Int) (r : Int → Bool) (tk : List Tok) : Prop :=
  ∀ (H : Heap) (w : Nat) (o : Own) (l : List Tok) (ok : Bool) (dp : Int), WAt H w o l ok dp → lo ≤ dp → dp ≤ hi → l.length + B ≤ Lim →
    ACalls Tryz.prog f (.ptr w 0 :: args) H (RetT fun v H' => v = .tup [] ∧ ∃ o' l', WAt H' w o' l' (ok && r dp) dp ∧ WStep H o w H' o' ∧ l'.length ≤ l.length + B ∧ ((ok && r dp) = true → l' = l ++ tk))
structure WR (H0 : Heap) (o0 : Own) (w : Nat) (l0 : List Tok) (ok0 : Bool) (dp : Int) (B : Nat) (r : Bool) (tk : List Tok) (H : Heap) (o : Own) (l : List Tok) : Prop where
  here : WAt H w o l (ok0 && r) dp
  st : WStep H0 o0 w H o
  len : l.length ≤ l0.length + B
  eq : (ok0 && r) = true → l = l0 ++ tk
theorem WR.refl {H : Heap} {o : Own} {w : Nat} {l : List Tok} {ok : Bool} {dp : Int} (h : WAt H w o l ok dp) : WR H o w l ok dp 0 true [] H o l :=
  ⟨by rw [Bool.and_true]; exact h, .refl _ _ _, Nat.le_refl _, fun _ => by simp⟩
theorem WR.alloc {H0 H : Heap} {o0 o : Own} {w b B : Nat} {l0 l tk : List Tok} {ok0 r : Bool} {dp : Int} {x : AObj} (h : WR H0 o0 w l0 ok0 dp B r tk H o l) (hb : H b = none) : WR H0 o0 w l0 ok0 dp B r tk (H.upd b x) o l :=
  ⟨h.here.alloc hb, h.st.alloc hb, h.len, h.eq⟩
theorem WR.fin {H0 H : Heap} {o0 o : Own} {w B B' : Nat} {l0 l tk tk' : List Tok} {ok0 r r' : Bool} {dp : Int} (h : WR H0 o0 w l0 ok0 dp B r tk H o l) (hr : r = r') (ht : r' = true → tk = tk') (hB : B ≤ B') :
    ∃ o' l', WAt H w o' l' (ok0 && r') dp ∧ WStep H0 o0 w H o' ∧ l'.length ≤ l0.length + B' ∧ ((ok0 && r') = true → l' = l0 ++ tk') := by
  subst hr
  refine ⟨o, l, h.here, h.st, by have := h.len; omega, fun e => ?_⟩
  rw [h.eq e, ht (by simp only [Bool.and_eq_true] at e; exact e.2)]
section
variable {KP : AV → Heap → Prop} {Q : AExit → Env → Heap → Prop} {st : List Fr} {ρ : Env} {H : Heap} {all items : List AItem} {d : Option Nat} {R : List Chk}
theorem goK_W0 {f : FuncId} {args : List AV} {B : Nat} {lo hi : Int} {r : Int → Bool} {tk : List Tok} (hc : WC f args B lo hi r tk) {w : Nat} {o : Own} {l : List Tok} {ok : Bool} {dp : Int} (h : WAt H w o l ok dp) (h0 : lo ≤ dp) (h1 : dp ≤ hi) (hb : l.length + B ≤ Lim)
    (k : ∀ o' l' H', WAt H' w o' l' (ok && r dp) dp → WStep H o w H' o' → l'.length ≤ l.length + B → ((ok && r dp) = true → l' = l ++ tk) → goR Tryz.prog KP Q all items st R (ρ.set d (.tup [])) H') :
    goK Tryz.prog KP Q all items st d R ρ f (.ptr w 0 :: args) H := by
  refine goK_ret (hc H w o l ok dp h h0 h1 hb) fun v H' ⟨hv, o', l', h2, h3, h4, h5⟩ => ?_
  subst hv
  exact k o' l' H' h2 h3 h4 h5
theorem goK_W {f : FuncId} {args : List AV} {B' : Nat} {lo hi : Int} {r' : Int → Bool} {tk' : List Tok} (hc : WC f args B' lo hi r' tk') {H0 : Heap} {o0 o : Own} {w B : Nat} {l0 l tk : List Tok} {ok0 r : Bool} {dp : Int} (h : WR H0 o0 w l0 ok0 dp B r tk H o l) (h0 : lo ≤ dp) (h1 : dp ≤ hi)
    (hb : l0.length + (B + B') ≤ Lim) (k : ∀ o' l' H', WR H0 o0 w l0 ok0 dp (B + B') (r && r' dp) (tk ++ tk') H' o' l' → WStep H o w H' o' → goR Tryz.prog KP Q all items st R (ρ.set d (.tup [])) H') :
    goK Tryz.prog KP Q all items st d R ρ f (.ptr w 0 :: args) H := by
  have hlen := h.len
  refine goK_W0 hc h.here h0 h1 (by omega) fun o' l' H' h2 h3 h4 h5 => k o' l' H' ⟨by rw [← Bool.and_assoc]; exact h2, h.st.trans h.here.cell h3, by omega, fun e => ?_⟩ h3
  rw [← Bool.and_assoc] at e
  rw [h5 e, h.eq (by simp only [Bool.and_eq_true] at e ⊢; exact e.1), List.append_assoc]
end
theorem newW : ACalls Tryz.prog 69 [] Heap.emp (RetT fun v H' => ∃ w, v = .ptr w 0 ∧ WAt H' w .nil [] true 0) := by
  refine ACalls.go ir69 ck69 (Nat.le_refl _) fun KP Q hQ => ?_
  simp (disch := first | omega | assumption) only [ir69, go_sem, ↓reduceIte]
  refine goA_intro fun b hb => ?_
  simp (disch := first | omega | assumption) only [go_sem, ↓reduceIte]
  exact hQ _ _ _ _ [_] nofun rfl (Low.refl _) ⟨b, rfl, upd_same .., rfl⟩
theorem needC (b : Bool) : WC 70 [.bool b] 0 (-1000) 1000 (fun _ => b) [] := by
  intro H w o l ok dp h h0 h1 hb
  refine ACalls.go ir70 ck70 (Nat.le_refl _) fun KP Q hQ => ?_
  have hc := h.cell
  cases ok
  · simp (disch := first | omega | assumption) only [ir70, hc, go_sem, ↓reduceIte]
    exact hQ _ _ _ _ [] nofun rfl (Low.refl _) ⟨rfl, o, l, h.put, (WStep.refl ..).upd, by simp, fun _ => by simp⟩
  · simp (disch := first | omega | assumption) only [ir70, hc, go_sem, ↓reduceIte]
    exact hQ _ _ _ _ [] nofun rfl (Low.refl _) ⟨rfl, o, l, by rw [Bool.true_and]; exact h.put, (WStep.refl ..).upd, by simp, fun _ => by simp⟩
theorem nameWC (s : List UInt8) (hs : s.length ≤ Lim) : WC 139 [.str s] 1 (-1000) 1000 (fun _ => nameM s) [wk s] := by
  intro H w o l ok dp h h0 h1 hb
  refine ACalls.go ir139 ck139 (Nat.le_refl _) fun KP Q hQ => ?_
  have hkl := cKs_len l
  simp only [Lim] at hb
  simp (disch := first | omega | assumption) only [ir139, go_sem, ↓reduceIte]
  refine goK_pure (nameC s hs) ?_
  simp (disch := first | omega | assumption) only [go_sem, ↓reduceIte]
  refine goK_W0 (needC _) h h0 h1 (by simp only [Lim]; omega) fun o1 l1 H1 h2 h3 h4 h5 => ?_
  have hkl1 := cKs_len l1
  have hc := h2.cell
  simp (disch := first | omega | assumption) only [hc, go_sem, ↓reduceIte]
  refine goP_ownS (by rw [hkl1]; exact h2.own) (by simp only [hkl1, List.length_cons, List.length_nil]; omega) (by simp only [hkl1, List.length_cons, List.length_nil, maxLen]; omega) fun o2 H2 hs2 => ?_
  obtain ⟨g1, g2, g3⟩ := h2.app (ts := [wk s]) hs2 (by simp [hkl1])
  have ek : cKs l1 ++ [[AV.int .i64 2, AV.str s]] = cKs (l1 ++ [wk s]) := cKs_app l1 (wk s)
  simp (disch := first | omega | assumption) only [g1, ek, go_sem, ↓reduceIte]
  exact hQ _ _ _ _ [] nofun rfl (Low.refl _) ⟨rfl, o2, l1 ++ [wk s], g2, h3.trans h2.cell g3, by simp; omega, fun e => by rw [h5 e]; simp⟩
theorem markC (m : List UInt8) (o9 : Own) : WC 140 [.sl o9 1 [[.str m]]] 1 (-1000) 1000 (fun _ => true) [pk m] := by
  intro H w o l ok dp h h0 h1 hb
  refine ACalls.go ir140 ck140 (Nat.le_refl _) fun KP Q hQ => ?_
  simp only [Lim] at hb
  simp (disch := first | omega | assumption) only [ir140, go_sem, ↓reduceIte]
  refine goL_range [m] 8 (fun x : Own × List Tok => []) (fun done rest x H' => WAt H' w x.1 x.2 ok dp ∧ WStep H o w H' x.1 ∧ x.2 = l ++ done.map pk) (o, l) (by simp (disch := first | omega | assumption) only [go_sem, ↓reduceIte]) ⟨h, .refl _ _ _, by simp⟩ ?_ ?_
  · rintro ⟨o1, l1⟩ H1 J ⟨h2, h3, h4⟩ hlt
    simp only at h2 h3 h4
    simp (disch := first | omega | assumption) only [go_sem, ↓reduceIte]
    refine hQ _ _ H1 H1 [] nofun rfl (Low.refl _) ⟨rfl, o1, l1, by simpa using h2, h3, by rw [h4]; simp, fun _ => by rw [h4]; simp⟩
  · rintro done x rest ⟨o1, l1⟩ H1 J hd hlt hlt2 ⟨h2, h3, h4⟩ hJ
    simp only at h2 h3 h4
    have hl1 : l1.length ≤ l.length + 1 := by rw [h4]; simp only [List.length_append, List.length_map]; have := congrArg List.length hd; simp at this; omega
    have hg : ([[AV.str m]] : List (List AV)).getD done.length [] = [.str x] := by
      have : ([m].map fun k => [AV.str k]).getD done.length [] = [.str x] := getD_mid' hd
      exact this
    have hkl1 := cKs_len l1
    have hc := h2.cell
    have hlt1 : ((done.length : Int) < 1) = True := eq_true (by simpa using hlt)
    have hdl : done.length < 1 := by simpa using hlt2
    simp (disch := first | omega | assumption) only [hlt1, hg, hc, go_sem, ↓reduceIte]
    refine goP_ownS (by rw [hkl1]; exact h2.own) (by simp only [hkl1, List.length_cons, List.length_nil]; omega) (by simp only [hkl1, List.length_cons, List.length_nil, maxLen]; omega) fun o2 H2 hs2 => ?_
    obtain ⟨g1, g2, g3⟩ := h2.app (ts := [pk x]) hs2 (by simp [hkl1])
    have ek : cKs l1 ++ [[AV.int .i64 1, AV.str x]] = cKs (l1 ++ [pk x]) := cKs_app l1 (pk x)
    simp (disch := first | omega | assumption) only [g1, ek, wrap64, go_sem, ↓reduceIte]
    exact goJ (hJ (o2, l1 ++ [pk x]) _ ⟨g2, h3.trans h2.cell g3, by rw [h4]; simp⟩) (by simp (disch := first | omega | assumption) only [go_sem, ↓reduceIte])
end Go.Proofs.YticbbfbpeimkbaaGreatDoor
namespace Go.Proofs.YticbbfbpeimkbaaGreatDoor
open Go.Ab
theorem toksV_val (v : Val) : toksV v = if plainV v then tokV v else [] := by unfold toksV; rfl
theorem valueWC (v : Val) (hw : wfV v) (hv : 4 * bV v ≤ Lim) (fixed : Bool) : WC 237 [.agg (cV v), .bool fixed] (4 * bV v) 0 32 (fun dp => rightV2 dp fixed v) (tokV v) := by
  intro H w o l ok dp h h0 h1 hb
  have hvb : bV v ≤ Lim := by simp only [Lim] at hv ⊢; omega
  have htl : (toksV v).length ≤ 4 * bV v := by
    have := tokV_le v
    rw [toksV_val]; split
    · omega
    · simp
  have hkt := cKs_len (toksV v)
  have hdv := depthV_le v
  have hvl := varsV_le v []
  have hcv := cT_len (varsV v [])
  simp only [Lim] at hb hv
  refine ACalls.go ir237 ck237 (Nat.le_refl _) fun KP Q hQ => ?_
  have hc := h.cell
  have fin : ∀ (b : Bool), b = rightV2 dp fixed v → ∀ (H2 : Heap) (o2 : Own) (l2 : List Tok), WAt H2 w o2 l2 (ok && b) dp → WStep H o w H2 o2 → l2.length ≤ l.length + 0 → ((ok && b) = true → l2 = l ++ []) →
      ∀ (H3 : Heap) (o3 : Own), OwnS H2 o2 H3 o3 ((cKs l2).length + (cKs (toksV v)).length) 2 →
      H3 w = some (.cells [.sl o2 2 (cKs l2), .bool (ok && b), .int .i64 dp]) ∧ ∃ o' l', WAt (H3.upd w (.cells [.sl o3 2 (cKs l2 ++ cKs (toksV v)), .bool (ok && b), .int .i64 dp])) w o' l' (ok && rightV2 dp fixed v) dp ∧
        WStep H o w (H3.upd w (.cells [.sl o3 2 (cKs l2 ++ cKs (toksV v)), .bool (ok && b), .int .i64 dp])) o' ∧ l'.length ≤ l.length + 4 * bV v ∧ ((ok && rightV2 dp fixed v) = true → l' = l ++ tokV v) := by
    intro b hbr H2 o2 l2 h2 h3 h4 h5 H3 o3 hs
    obtain ⟨g1, g2, g3⟩ := h2.app (ts := toksV v) hs (by simp [cKs_len])
    rw [cKs_append] at g2 g3
    refine ⟨g1, o3, l2 ++ toksV v, by rw [← hbr]; exact g2, h3.trans h2.cell g3, by simp only [List.length_append]; omega, fun e => ?_⟩
    rw [← hbr] at e
    have er : rightV2 dp fixed v = true := by rw [← hbr]; simp only [Bool.and_eq_true] at e; exact e.2
    have ep : plainV v = true := by simp only [rightV2, Bool.and_eq_true] at er; exact er.1
    rw [h5 e, toksV_val, ep]; simp
  have d1 : IntKind.wrap .i64 (dp + depthV v) = dp + depthV v := wrap64 (by omega) (by omega)
  cases hp : plainV v with
  | false =>
    have hbr : false = rightV2 dp fixed v := by simp [rightV2, hp]
    simp (disch := first | omega | assumption) only [cV_len, cV_take, cV_splice, cM_len, cM_take, cM_splice, cM_mk, ir237, steps, st2, pev, rev, oev, optr, ibin, sbin, ishf, bound, mmAll, mm2, mk, mkArgs, AV.cells, AV.boxable, AV.one, AV.strip1, fillA, fillS, Nat.reduceEqDiff, reduceCtorEq, ↓reduceIte, Nat.reduceAdd, Int.reduceNeg, Nat.reduceLeDiff, Int.reduceToNat, Int.reduceEq, Int.reduceLT, Int.reduceLE, Int.reduceAdd]
    refine goK_pure (TokensC v hw hv) ?_
    simp (disch := first | omega | assumption) only [hp, steps, st2, pev, rev, oev, optr, ibin, sbin, ishf, bound, mmAll, mm2, mk, mkArgs, AV.cells, AV.boxable, AV.one, AV.strip1, fillA, fillS, Nat.reduceEqDiff, reduceCtorEq, ↓reduceIte, Nat.reduceAdd, Int.reduceNeg, Nat.reduceLeDiff, Int.reduceToNat, Int.reduceEq, Int.reduceLT, Int.reduceLE, Int.reduceAdd]
    refine goK_W0 (needC _) h (by omega) (by omega) (by simp only [Lim]; omega) fun o2 l2 H2 h2 h3 h4 h5 => ?_
    have hk2 := cKs_len l2
    have hc2 := h2.cell
    simp (disch := first | omega | assumption) only [hc2, steps, st2, pev, rev, oev, optr, ibin, sbin, ishf, bound, mmAll, mm2, mk, mkArgs, AV.cells, AV.boxable, AV.one, AV.strip1, fillA, fillS, Nat.reduceEqDiff, reduceCtorEq, ↓reduceIte, Nat.reduceAdd, Int.reduceNeg, Nat.reduceLeDiff, Int.reduceToNat, Int.reduceEq, Int.reduceLT, Int.reduceLE, Int.reduceAdd]
    refine goP_ownS (by rw [hk2]; exact h2.own) (by rw [hk2, hkt]; omega) (by rw [hk2, hkt]; simp only [maxLen]; omega) fun o3 H3 hs3 => ?_
    obtain ⟨g1, g2⟩ := fin _ hbr H2 o2 l2 h2 h3 h4 h5 H3 o3 hs3
    simp (disch := first | omega | assumption) only [g1, cKs_strip, steps, st2, pev, rev, oev, optr, ibin, sbin, ishf, bound, mmAll, mm2, mk, mkArgs, AV.cells, AV.boxable, AV.one, AV.strip1, fillA, fillS, Nat.reduceEqDiff, reduceCtorEq, ↓reduceIte, Nat.reduceAdd, Int.reduceNeg, Nat.reduceLeDiff, Int.reduceToNat, Int.reduceEq, Int.reduceLT, Int.reduceLE, Int.reduceAdd]
    exact hQ _ _ _ _ [] nofun rfl (Low.refl _) ⟨rfl, g2⟩
  | true =>
    by_cases hd : dp + depthV v ≤ 16
    case neg =>
      have hbr : false = rightV2 dp fixed v := by simp [rightV2, hd]
      simp (disch := first | omega | assumption) only [cV_len, cV_take, cV_splice, cM_len, cM_take, cM_splice, cM_mk, ir237, steps, st2, pev, rev, oev, optr, ibin, sbin, ishf, bound, mmAll, mm2, mk, mkArgs, AV.cells, AV.boxable, AV.one, AV.strip1, fillA, fillS, Nat.reduceEqDiff, reduceCtorEq, ↓reduceIte, Nat.reduceAdd, Int.reduceNeg, Nat.reduceLeDiff, Int.reduceToNat, Int.reduceEq, Int.reduceLT, Int.reduceLE, Int.reduceAdd]
      refine goK_pure (TokensC v hw hv) ?_
      simp (disch := first | omega | assumption) only [cV_len, cV_take, cV_splice, cM_len, cM_take, cM_splice, cM_mk, hp, hc, steps, st2, pev, rev, oev, optr, ibin, sbin, ishf, bound, mmAll, mm2, mk, mkArgs, AV.cells, AV.boxable, AV.one, AV.strip1, fillA, fillS, Nat.reduceEqDiff, reduceCtorEq, ↓reduceIte, Nat.reduceAdd, Int.reduceNeg, Nat.reduceLeDiff, Int.reduceToNat, Int.reduceEq, Int.reduceLT, Int.reduceLE, Int.reduceAdd]
      refine goK_pure (depthC v hvb) ?_
      simp (disch := first | omega | assumption) only [cV_len, cV_take, cV_splice, cM_len, cM_take, cM_splice, cM_mk, d1, hd, hc, steps, st2, pev, rev, oev, optr, ibin, sbin, ishf, bound, mmAll, mm2, mk, mkArgs, AV.cells, AV.boxable, AV.one, AV.strip1, fillA, fillS, Nat.reduceEqDiff, reduceCtorEq, ↓reduceIte, Nat.reduceAdd, Int.reduceNeg, Nat.reduceLeDiff, Int.reduceToNat, Int.reduceEq, Int.reduceLT, Int.reduceLE, Int.reduceAdd]
      refine goK_W0 (needC _) h (by omega) (by omega) (by simp only [Lim]; omega) fun o2 l2 H2 h2 h3 h4 h5 => ?_
      have hk2 := cKs_len l2
      have hc2 := h2.cell
      simp (disch := first | omega | assumption) only [hc2, steps, st2, pev, rev, oev, optr, ibin, sbin, ishf, bound, mmAll, mm2, mk, mkArgs, AV.cells, AV.boxable, AV.one, AV.strip1, fillA, fillS, Nat.reduceEqDiff, reduceCtorEq, ↓reduceIte, Nat.reduceAdd, Int.reduceNeg, Nat.reduceLeDiff, Int.reduceToNat, Int.reduceEq, Int.reduceLT, Int.reduceLE, Int.reduceAdd]
      refine goP_ownS (by rw [hk2]; exact h2.own) (by rw [hk2, hkt]; omega) (by rw [hk2, hkt]; simp only [maxLen]; omega) fun o3 H3 hs3 => ?_
      obtain ⟨g1, g2⟩ := fin _ hbr H2 o2 l2 h2 h3 h4 h5 H3 o3 hs3
      simp (disch := first | omega | assumption) only [g1, cKs_strip, steps, st2, pev, rev, oev, optr, ibin, sbin, ishf, bound, mmAll, mm2, mk, mkArgs, AV.cells, AV.boxable, AV.one, AV.strip1, fillA, fillS, Nat.reduceEqDiff, reduceCtorEq, ↓reduceIte, Nat.reduceAdd, Int.reduceNeg, Nat.reduceLeDiff, Int.reduceToNat, Int.reduceEq, Int.reduceLT, Int.reduceLE, Int.reduceAdd]
      exact hQ _ _ _ _ [] nofun rfl (Low.refl _) ⟨rfl, g2⟩
    cases fixed with
    | false =>
      have hbr : true = rightV2 dp false v := by simp [rightV2, hd, hp]
      simp (disch := first | omega | assumption) only [cV_len, cV_take, cV_splice, cM_len, cM_take, cM_splice, cM_mk, ir237, steps, st2, pev, rev, oev, optr, ibin, sbin, ishf, bound, mmAll, mm2, mk, mkArgs, AV.cells, AV.boxable, AV.one, AV.strip1, fillA, fillS, Nat.reduceEqDiff, reduceCtorEq, ↓reduceIte, Nat.reduceAdd, Int.reduceNeg, Nat.reduceLeDiff, Int.reduceToNat, Int.reduceEq, Int.reduceLT, Int.reduceLE, Int.reduceAdd]
      refine goK_pure (TokensC v hw hv) ?_
      simp (disch := first | omega | assumption) only [cV_len, cV_take, cV_splice, cM_len, cM_take, cM_splice, cM_mk, hp, hc, steps, st2, pev, rev, oev, optr, ibin, sbin, ishf, bound, mmAll, mm2, mk, mkArgs, AV.cells, AV.boxable, AV.one, AV.strip1, fillA, fillS, Nat.reduceEqDiff, reduceCtorEq, ↓reduceIte, Nat.reduceAdd, Int.reduceNeg, Nat.reduceLeDiff, Int.reduceToNat, Int.reduceEq, Int.reduceLT, Int.reduceLE, Int.reduceAdd]
      refine goK_pure (depthC v hvb) ?_
      simp (disch := first | omega | assumption) only [cV_len, cV_take, cV_splice, cM_len, cM_take, cM_splice, cM_mk, d1, hd, hc, steps, st2, pev, rev, oev, optr, ibin, sbin, ishf, bound, mmAll, mm2, mk, mkArgs, AV.cells, AV.boxable, AV.one, AV.strip1, fillA, fillS, Nat.reduceEqDiff, reduceCtorEq, ↓reduceIte, Nat.reduceAdd, Int.reduceNeg, Nat.reduceLeDiff, Int.reduceToNat, Int.reduceEq, Int.reduceLT, Int.reduceLE, Int.reduceAdd]
      refine goK_W0 (needC _) h (by omega) (by omega) (by simp only [Lim]; omega) fun o2 l2 H2 h2 h3 h4 h5 => ?_
      have hk2 := cKs_len l2
      have hc2 := h2.cell
      simp (disch := first | omega | assumption) only [hc2, steps, st2, pev, rev, oev, optr, ibin, sbin, ishf, bound, mmAll, mm2, mk, mkArgs, AV.cells, AV.boxable, AV.one, AV.strip1, fillA, fillS, Nat.reduceEqDiff, reduceCtorEq, ↓reduceIte, Nat.reduceAdd, Int.reduceNeg, Nat.reduceLeDiff, Int.reduceToNat, Int.reduceEq, Int.reduceLT, Int.reduceLE, Int.reduceAdd]
      refine goP_ownS (by rw [hk2]; exact h2.own) (by rw [hk2, hkt]; omega) (by rw [hk2, hkt]; simp only [maxLen]; omega) fun o3 H3 hs3 => ?_
      obtain ⟨g1, g2⟩ := fin _ hbr H2 o2 l2 h2 h3 h4 h5 H3 o3 hs3
      simp (disch := first | omega | assumption) only [g1, cKs_strip, steps, st2, pev, rev, oev, optr, ibin, sbin, ishf, bound, mmAll, mm2, mk, mkArgs, AV.cells, AV.boxable, AV.one, AV.strip1, fillA, fillS, Nat.reduceEqDiff, reduceCtorEq, ↓reduceIte, Nat.reduceAdd, Int.reduceNeg, Nat.reduceLeDiff, Int.reduceToNat, Int.reduceEq, Int.reduceLT, Int.reduceLE, Int.reduceAdd]
      exact hQ _ _ _ _ [] nofun rfl (Low.refl _) ⟨rfl, g2⟩
    | true =>
      simp (disch := first | omega | assumption) only [cV_len, cV_take, cV_splice, cM_len, cM_take, cM_splice, cM_mk, ir237, steps, st2, pev, rev, oev, optr, ibin, sbin, ishf, bound, mmAll, mm2, mk, mkArgs, AV.cells, AV.boxable, AV.one, AV.strip1, fillA, fillS, Nat.reduceEqDiff, reduceCtorEq, ↓reduceIte, Nat.reduceAdd, Int.reduceNeg, Nat.reduceLeDiff, Int.reduceToNat, Int.reduceEq, Int.reduceLT, Int.reduceLE, Int.reduceAdd]
      refine goK_pure (TokensC v hw hv) ?_
      simp (disch := first | omega | assumption) only [cV_len, cV_take, cV_splice, cM_len, cM_take, cM_splice, cM_mk, hp, hc, steps, st2, pev, rev, oev, optr, ibin, sbin, ishf, bound, mmAll, mm2, mk, mkArgs, AV.cells, AV.boxable, AV.one, AV.strip1, fillA, fillS, Nat.reduceEqDiff, reduceCtorEq, ↓reduceIte, Nat.reduceAdd, Int.reduceNeg, Nat.reduceLeDiff, Int.reduceToNat, Int.reduceEq, Int.reduceLT, Int.reduceLE, Int.reduceAdd]
      refine goK_pure (depthC v hvb) ?_
      simp (disch := first | omega | assumption) only [cV_len, cV_take, cV_splice, cM_len, cM_take, cM_splice, cM_mk, d1, hd, hc, steps, st2, pev, rev, oev, optr, ibin, sbin, ishf, bound, mmAll, mm2, mk, mkArgs, AV.cells, AV.boxable, AV.one, AV.strip1, fillA, fillS, Nat.reduceEqDiff, reduceCtorEq, ↓reduceIte, Nat.reduceAdd, Int.reduceNeg, Nat.reduceLeDiff, Int.reduceToNat, Int.reduceEq, Int.reduceLT, Int.reduceLE, Int.reduceAdd]
      refine goK_pure (varsPT v hvb) ?_
      by_cases hz : (varsV v []).length = 0
      · have hbr : true = rightV2 dp true v := by simp [rightV2, hd, hp, hz]
        have hz' : ¬ ((0 : Int) < (varsV v []).length) := by omega
        simp (disch := first | omega | assumption) only [cV_len, cV_take, cV_splice, cM_len, cM_take, cM_splice, cM_mk, hcv, hz', steps, st2, pev, rev, oev, optr, ibin, sbin, ishf, bound, mmAll, mm2, mk, mkArgs, AV.cells, AV.boxable, AV.one, AV.strip1, fillA, fillS, Nat.reduceEqDiff, reduceCtorEq, ↓reduceIte, Nat.reduceAdd, Int.reduceNeg, Nat.reduceLeDiff, Int.reduceToNat, Int.reduceEq, Int.reduceLT, Int.reduceLE, Int.reduceAdd]
        refine goK_W0 (needC _) h (by omega) (by omega) (by simp only [Lim]; omega) fun o2 l2 H2 h2 h3 h4 h5 => ?_
        have hk2 := cKs_len l2
        have hc2 := h2.cell
        simp (disch := first | omega | assumption) only [hc2, steps, st2, pev, rev, oev, optr, ibin, sbin, ishf, bound, mmAll, mm2, mk, mkArgs, AV.cells, AV.boxable, AV.one, AV.strip1, fillA, fillS, Nat.reduceEqDiff, reduceCtorEq, ↓reduceIte, Nat.reduceAdd, Int.reduceNeg, Nat.reduceLeDiff, Int.reduceToNat, Int.reduceEq, Int.reduceLT, Int.reduceLE, Int.reduceAdd]
        refine goP_ownS (by rw [hk2]; exact h2.own) (by rw [hk2, hkt]; omega) (by rw [hk2, hkt]; simp only [maxLen]; omega) fun o3 H3 hs3 => ?_
        obtain ⟨g1, g2⟩ := fin _ hbr H2 o2 l2 h2 h3 h4 h5 H3 o3 hs3
        simp (disch := first | omega | assumption) only [g1, cKs_strip, steps, st2, pev, rev, oev, optr, ibin, sbin, ishf, bound, mmAll, mm2, mk, mkArgs, AV.cells, AV.boxable, AV.one, AV.strip1, fillA, fillS, Nat.reduceEqDiff, reduceCtorEq, ↓reduceIte, Nat.reduceAdd, Int.reduceNeg, Nat.reduceLeDiff, Int.reduceToNat, Int.reduceEq, Int.reduceLT, Int.reduceLE, Int.reduceAdd]
        exact hQ _ _ _ _ [] nofun rfl (Low.refl _) ⟨rfl, g2⟩
      · have hbr : false = rightV2 dp true v := by simp [rightV2, hd, hp, hz]
        have hz' : ((0 : Int) < (varsV v []).length) = True := eq_true (by omega)
        simp (disch := first | omega | assumption) only [cV_len, cV_take, cV_splice, cM_len, cM_take, cM_splice, cM_mk, hcv, hz', steps, st2, pev, rev, oev, optr, ibin, sbin, ishf, bound, mmAll, mm2, mk, mkArgs, AV.cells, AV.boxable, AV.one, AV.strip1, fillA, fillS, Nat.reduceEqDiff, reduceCtorEq, ↓reduceIte, Nat.reduceAdd, Int.reduceNeg, Nat.reduceLeDiff, Int.reduceToNat, Int.reduceEq, Int.reduceLT, Int.reduceLE, Int.reduceAdd]
        refine goK_W0 (needC _) h (by omega) (by omega) (by simp only [Lim]; omega) fun o2 l2 H2 h2 h3 h4 h5 => ?_
        have hk2 := cKs_len l2
        have hc2 := h2.cell
        simp (disch := first | omega | assumption) only [hc2, steps, st2, pev, rev, oev, optr, ibin, sbin, ishf, bound, mmAll, mm2, mk, mkArgs, AV.cells, AV.boxable, AV.one, AV.strip1, fillA, fillS, Nat.reduceEqDiff, reduceCtorEq, ↓reduceIte, Nat.reduceAdd, Int.reduceNeg, Nat.reduceLeDiff, Int.reduceToNat, Int.reduceEq, Int.reduceLT, Int.reduceLE, Int.reduceAdd]
        refine goP_ownS (by rw [hk2]; exact h2.own) (by rw [hk2, hkt]; omega) (by rw [hk2, hkt]; simp only [maxLen]; omega) fun o3 H3 hs3 => ?_
        obtain ⟨g1, g2⟩ := fin _ hbr H2 o2 l2 h2 h3 h4 h5 H3 o3 hs3
        simp (disch := first | omega | assumption) only [g1, cKs_strip, steps, st2, pev, rev, oev, optr, ibin, sbin, ishf, bound, mmAll, mm2, mk, mkArgs, AV.cells, AV.boxable, AV.one, AV.strip1, fillA, fillS, Nat.reduceEqDiff, reduceCtorEq, ↓reduceIte, Nat.reduceAdd, Int.reduceNeg, Nat.reduceLeDiff, Int.reduceToNat, Int.reduceEq, Int.reduceLT, Int.reduceLE, Int.reduceAdd]
        exact hQ _ _ _ _ [] nofun rfl (Low.refl _) ⟨rfl, g2⟩
theorem fdivP (m : Int) (k : Nat) (hk : k ≤ 64) : m.fdiv (2 ^ min k IntKind.i64.bits) = m / 2 ^ k := by
  have e : min k IntKind.i64.bits = k := by show min k 64 = k; omega
  have hp : (0 : Int) ≤ 2 ^ k := by exact_mod_cast Nat.zero_le _
  rw [e, Int.fdiv_eq_ediv_of_nonneg _ hp]
theorem rightTyC (t : TyD) (hs : t.nm.length ≤ Lim) : Pure Tryz.prog 125 [.agg (cTy t)] (.bool (rightTy t)) := by
  refine Pure.go ir125 ck125 (Nat.le_refl _) fun KP Q hQ => ?_
  obtain ⟨nm, ls, ms⟩ := t
  simp only at hs
  simp (disch := first | omega | assumption) only [ir125, cTy, steps, st2, pev, rev, oev, optr, ibin, sbin, ishf, bound, mmAll, mm2, mk, mkArgs, AV.cells, AV.boxable, AV.one, AV.strip1, fillA, fillS, Nat.reduceEqDiff, reduceCtorEq, ↓reduceIte, Nat.reduceAdd, Int.reduceNeg, Nat.reduceLeDiff, Int.reduceToNat, Int.reduceEq, Int.reduceLT, Int.reduceLE, Int.reduceAdd]
  refine goK_pure (nameC nm hs) ?_
  cases h1 : nameM nm with
  | false =>
    simp (disch := first | omega | assumption) only [steps, st2, pev, rev, oev, optr, ibin, sbin, ishf, bound, mmAll, mm2, mk, mkArgs, AV.cells, AV.boxable, AV.one, AV.strip1, fillA, fillS, Nat.reduceEqDiff, reduceCtorEq, ↓reduceIte, Nat.reduceAdd, Int.reduceNeg, Nat.reduceLeDiff, Int.reduceToNat, Int.reduceEq, Int.reduceLT, Int.reduceLE, Int.reduceAdd]
    exact hQ _ _ _ _ nofun rfl (by simp [tupOf, envOf, AV.strip, AV.strip1, rightTy, h1])
  | true =>
    by_cases h2 : 0 ≤ ls
    case neg =>
      simp (disch := first | omega | assumption) only [h2, steps, st2, pev, rev, oev, optr, ibin, sbin, ishf, bound, mmAll, mm2, mk, mkArgs, AV.cells, AV.boxable, AV.one, AV.strip1, fillA, fillS, Nat.reduceEqDiff, reduceCtorEq, ↓reduceIte, Nat.reduceAdd, Int.reduceNeg, Nat.reduceLeDiff, Int.reduceToNat, Int.reduceEq, Int.reduceLT, Int.reduceLE, Int.reduceAdd]
      exact hQ _ _ _ _ nofun rfl (by simp [tupOf, envOf, AV.strip, AV.strip1, rightTy, h1, h2])
    by_cases h3 : ls ≤ 4
    case neg =>
      simp (disch := first | omega | assumption) only [h2, h3, steps, st2, pev, rev, oev, optr, ibin, sbin, ishf, bound, mmAll, mm2, mk, mkArgs, AV.cells, AV.boxable, AV.one, AV.strip1, fillA, fillS, Nat.reduceEqDiff, reduceCtorEq, ↓reduceIte, Nat.reduceAdd, Int.reduceNeg, Nat.reduceLeDiff, Int.reduceToNat, Int.reduceEq, Int.reduceLT, Int.reduceLE, Int.reduceAdd]
      exact hQ _ _ _ _ nofun rfl (by simp [tupOf, envOf, AV.strip, AV.strip1, rightTy, h1, h2, h3])
    by_cases h4 : 0 ≤ ms
    case neg =>
      simp (disch := first | omega | assumption) only [h2, h3, h4, steps, st2, pev, rev, oev, optr, ibin, sbin, ishf, bound, mmAll, mm2, mk, mkArgs, AV.cells, AV.boxable, AV.one, AV.strip1, fillA, fillS, Nat.reduceEqDiff, reduceCtorEq, ↓reduceIte, Nat.reduceAdd, Int.reduceNeg, Nat.reduceLeDiff, Int.reduceToNat, Int.reduceEq, Int.reduceLT, Int.reduceLE, Int.reduceAdd]
      exact hQ _ _ _ _ nofun rfl (by simp [tupOf, envOf, AV.strip, AV.strip1, rightTy, h1, h2, h3, h4])
    have w1 : IntKind.wrap .i64 (ls + 1) = ls + 1 := wrap64 (by omega) (by omega)
    have w2 : ¬ (ls + 1 < 0) := by omega
    have e1 : (ls + 1).toNat = ls.toNat + 1 := by omega
    have e2 := fdivP ms (ls.toNat + 1) (by omega)
    have hpow : (0 : Int) < 2 ^ (ls.toNat + 1) := by exact_mod_cast Nat.pos_of_ne_zero (by simp)
    have e3 : (ms / 2 ^ (ls.toNat + 1) = 0) = (ms < 2 ^ (ls.toNat + 1)) := propext ⟨fun h => by
      by_cases hlt : ms < 2 ^ (ls.toNat + 1)
      · exact hlt
      · have := (Int.le_ediv_iff_mul_le hpow).2 (show 1 * 2 ^ (ls.toNat + 1) ≤ ms by omega)
        omega, fun h => Int.ediv_eq_zero_of_lt h4 h⟩
    simp (disch := first | omega | assumption) only [h2, h3, h4, w1, w2, e1, e2, e3, steps, st2, pev, rev, oev, optr, ibin, sbin, ishf, bound, mmAll, mm2, mk, mkArgs, AV.cells, AV.boxable, AV.one, AV.strip1, fillA, fillS, Nat.reduceEqDiff, reduceCtorEq, ↓reduceIte, Nat.reduceAdd, Int.reduceNeg, Nat.reduceLeDiff, Int.reduceToNat, Int.reduceEq, Int.reduceLT, Int.reduceLE, Int.reduceAdd]
    exact hQ _ _ _ _ nofun rfl (by simp [tupOf, envOf, AV.strip, AV.strip1, rightTy, h1, h2, h3, h4])
end Go.Proofs.YticbbfbpeimkbaaGreatDoor
namespace Go.Proofs.YticbbfbpeimkbaaGreatDoor
open Go.Ab
theorem WR.cast {H0 H : Heap} {o0 o : Own} {w B B' : Nat} {l0 l tk tk' : List Tok} {ok0 r r' : Bool} {dp : Int} (h : WR H0 o0 w l0 ok0 dp B r tk H o l) (hB : B ≤ B') (hr : r = r') (ht : tk = tk') : WR H0 o0 w l0 ok0 dp B' r' tk' H o l := by
  subst hr; subst ht
  exact ⟨h.here, h.st, by have := h.len; omega, h.eq⟩
theorem WR.after {H0 H1 H : Heap} {o0 o1 o : Own} {w B : Nat} {l0 l tk : List Tok} {ok0 r : Bool} {dp : Int} (h : WR H1 o1 w l0 ok0 dp B r tk H o l) (hs : WStep H0 o0 w H1 o1) {x : AObj} (hw : H1 w = some x) : WR H0 o0 w l0 ok0 dp B r tk H o l :=
  ⟨h.here, hs.trans hw h.st, h.len, h.eq⟩
def tyRest (n : Nat) (m : Int) : Nat → List Tok
  | 0 => []
  | j + 1 => tyPc n m j ++ tyRest n m j
theorem tyTl_rest (n : Nat) (m : Int) : ∀ j, tyTl n m j = tyRest n m (j + 1)
  | 0 => by simp [tyTl, tyRest]
  | j + 1 => by rw [tyTl, tyTl_rest n m j]; rfl
theorem and1 {x : Int} (h0 : 0 ≤ x) (h1 : x < 64) : IntKind.wrap .i64 ((BitVec.ofInt IntKind.i64.bits x &&& BitVec.ofInt IntKind.i64.bits 1).toNat : Int) = x % 2 := by
  have : ∀ y : Fin 64, IntKind.wrap .i64 ((BitVec.ofInt IntKind.i64.bits (y.val : Int) &&& BitVec.ofInt IntKind.i64.bits 1).toNat : Int) = (y.val : Int) % 2 := by decide +kernel
  have := this ⟨x.toNat, by omega⟩
  simp only [Int.toNat_of_nonneg h0] at this
  exact this
theorem typeWC (t : TyD) (hs : t.nm.length ≤ Lim) : WC 141 [.agg (cTy t)] 20 (-1000) 1000 (fun _ => rightTy t) (tTy t) := by
  intro H w o l ok dp h h0 h1 hb
  have hb0 := hb
  simp only [Lim] at hb
  refine ACalls.go ir141 ck141 (Nat.le_refl _) fun KP Q hQ => ?_
  obtain ⟨nm, ls, ms⟩ := t
  simp only at hs
  have et : cTy ⟨nm, ls, ms⟩ = [.str nm, .int .i64 ls, .int .i64 ms] := rfl
  simp (disch := first | omega | assumption) only [ir141, et, steps, st2, pev, rev, oev, optr, ibin, sbin, ishf, bound, mmAll, mm2, mk, mkArgs, AV.cells, AV.boxable, AV.one, AV.strip1, fillA, fillS, Nat.reduceEqDiff, reduceCtorEq, ↓reduceIte, Nat.reduceAdd, Int.reduceNeg, Nat.reduceLeDiff, Int.reduceToNat, Int.reduceEq, Int.reduceLT, Int.reduceLE, Int.reduceAdd]
  refine goK_pure (show Pure Tryz.prog 125 [.agg [.str nm, .int .i64 ls, .int .i64 ms]] (.bool (rightTy ⟨nm, ls, ms⟩)) from rightTyC ⟨nm, ls, ms⟩ hs) ?_
  simp (disch := first | omega | assumption) only [steps, st2, pev, rev, oev, optr, ibin, sbin, ishf, bound, mmAll, mm2, mk, mkArgs, AV.cells, AV.boxable, AV.one, AV.strip1, fillA, fillS, Nat.reduceEqDiff, reduceCtorEq, ↓reduceIte, Nat.reduceAdd, Int.reduceNeg, Nat.reduceLeDiff, Int.reduceToNat, Int.reduceEq, Int.reduceLT, Int.reduceLE, Int.reduceAdd]
  refine goK_W0 (needC _) h (by omega) (by omega) (by simp only [Lim]; omega) fun o2 l2 H2 h2 h3 h4 h5 => ?_
  have hc2 := h2.cell
  cases hok : ok && rightTy ⟨nm, ls, ms⟩ with
  | false =>
    rw [hok] at h2 hc2
    simp (disch := first | omega | assumption) only [hc2, steps, st2, pev, rev, oev, optr, ibin, sbin, ishf, bound, mmAll, mm2, mk, mkArgs, AV.cells, AV.boxable, AV.one, AV.strip1, fillA, fillS, Nat.reduceEqDiff, reduceCtorEq, ↓reduceIte, Nat.reduceAdd, Int.reduceNeg, Nat.reduceLeDiff, Int.reduceToNat, Int.reduceEq, Int.reduceLT, Int.reduceLE, Int.reduceAdd]
    exact hQ _ _ H2 H2 [] nofun rfl (Low.refl _) ⟨rfl, o2, l2, by rw [hok]; exact h2, h3, by omega, fun e => by rw [hok] at e; cases e⟩
  | true =>
    rw [hok] at h2 hc2 h5
    have e2 : l2 = l := by have := h5 rfl; simpa using this
    subst e2
    have hrt : rightTy ⟨nm, ls, ms⟩ = true := by simp only [Bool.and_eq_true] at hok; exact hok.2
    have hok1 : ok = true := by simp only [Bool.and_eq_true] at hok; exact hok.1
    simp only [rightTy, Bool.and_eq_true, decide_eq_true_eq] at hrt
    obtain ⟨hnm, r1, r2, r3, r4⟩ := hrt
    obtain ⟨n, rfl⟩ : ∃ n : Nat, ls = (n : Int) := ⟨ls.toNat, by omega⟩
    have en : (n : Int).toNat = n := by omega
    rw [en] at r4
    have hn4 : n ≤ 4 := by omega
    have hms : ms < 64 := by
      have : (2 : Int) ^ (n + 1) ≤ 2 ^ 5 := by exact_mod_cast Nat.pow_le_pow_right (by decide) (by omega : n + 1 ≤ 5)
      omega
    have w0 := WR.refl h2
    simp (disch := first | omega | assumption) only [hc2, steps, st2, pev, rev, oev, optr, ibin, sbin, ishf, bound, mmAll, mm2, mk, mkArgs, AV.cells, AV.boxable, AV.one, AV.strip1, fillA, fillS, Nat.reduceEqDiff, reduceCtorEq, ↓reduceIte, Nat.reduceAdd, Int.reduceNeg, Nat.reduceLeDiff, Int.reduceToNat, Int.reduceEq, Int.reduceLT, Int.reduceLE, Int.reduceAdd]
    refine goL_st (fun x : Nat × Own × List Tok => [(16, .int .i64 x.1)]) (fun x H' => x.1 ≤ n ∧ WR H2 o2 w l2 true dp x.1 true (List.replicate x.1 (pk [91])) H' x.2.1 x.2.2) (fun x => n - x.1) (0, o2, l2) (by simp (disch := first | omega | assumption) only [steps, st2, pev, rev, oev, optr, ibin, sbin, ishf, bound, mmAll, mm2, mk, mkArgs, AV.cells, AV.boxable, AV.one, AV.strip1, fillA, fillS, Nat.reduceEqDiff, reduceCtorEq, ↓reduceIte, Nat.reduceAdd, Int.reduceNeg, Nat.reduceLeDiff, Int.reduceToNat, Int.reduceEq, Int.reduceLT, Int.reduceLE, Int.reduceAdd]) ⟨by simp, w0⟩ ?_
    rintro ⟨i, o3, l3⟩ H3 J ⟨hi, w3⟩ hJ
    simp only at hi w3
    by_cases hlt : i < n
    · have hlt' : ((i : Int) < n) = True := eq_true (by omega)
      simp (disch := first | omega | assumption) only [hlt', steps, st2, pev, rev, oev, optr, ibin, sbin, ishf, bound, mmAll, mm2, mk, mkArgs, AV.cells, AV.boxable, AV.one, AV.strip1, fillA, fillS, Nat.reduceEqDiff, reduceCtorEq, ↓reduceIte, Nat.reduceAdd, Int.reduceNeg, Nat.reduceLeDiff, Int.reduceToNat, Int.reduceEq, Int.reduceLT, Int.reduceLE, Int.reduceAdd]
      refine goK_W (markC [91] _) w3 (by omega) (by omega) (by simp only [Lim]; omega) fun o4 l4 H4 w4 _ => ?_
      simp (disch := first | omega | assumption) only [wrap64, steps, st2, pev, rev, oev, optr, ibin, sbin, ishf, bound, mmAll, mm2, mk, mkArgs, AV.cells, AV.boxable, AV.one, AV.strip1, fillA, fillS, Nat.reduceEqDiff, reduceCtorEq, ↓reduceIte, Nat.reduceAdd, Int.reduceNeg, Nat.reduceLeDiff, Int.reduceToNat, Int.reduceEq, Int.reduceLT, Int.reduceLE, Int.reduceAdd]
      exact goJ (hJ (i + 1, o4, l4) H4 (by simp only; omega) ⟨by simp only; omega, w4.cast (Nat.le_refl _) rfl (by rw [List.replicate_succ'])⟩) (by simp (disch := first | omega | assumption) only [Int.natCast_add, steps, st2, pev, rev, oev, optr, ibin, sbin, ishf, bound, mmAll, mm2, mk, mkArgs, AV.cells, AV.boxable, AV.one, AV.strip1, fillA, fillS, Nat.reduceEqDiff, reduceCtorEq, ↓reduceIte, Nat.reduceAdd, Int.reduceNeg, Nat.reduceLeDiff, Int.reduceToNat, Int.reduceEq, Int.reduceLT, Int.reduceLE, Int.reduceAdd])
    · have hlt' : ¬ ((i : Int) < n) := by omega
      obtain rfl : i = n := by omega
      simp (disch := first | omega | assumption) only [hlt', steps, st2, pev, rev, oev, optr, ibin, sbin, ishf, bound, mmAll, mm2, mk, mkArgs, AV.cells, AV.boxable, AV.one, AV.strip1, fillA, fillS, Nat.reduceEqDiff, reduceCtorEq, ↓reduceIte, Nat.reduceAdd, Int.reduceNeg, Nat.reduceLeDiff, Int.reduceToNat, Int.reduceEq, Int.reduceLT, Int.reduceLE, Int.reduceAdd]
      refine goK_W (nameWC nm hs) w3 (by omega) (by omega) (by simp only [Lim]; omega) fun o4 l4 H4 w4 _ => ?_
      rw [hnm] at w4
      simp (disch := first | omega | assumption) only [steps, st2, pev, rev, oev, optr, ibin, sbin, ishf, bound, mmAll, mm2, mk, mkArgs, AV.cells, AV.boxable, AV.one, AV.strip1, fillA, fillS, Nat.reduceEqDiff, reduceCtorEq, ↓reduceIte, Nat.reduceAdd, Int.reduceNeg, Nat.reduceLeDiff, Int.reduceToNat, Int.reduceEq, Int.reduceLT, Int.reduceLE, Int.reduceAdd]
      refine goL_st (fun x : Nat × Own × List Tok × Nat × List Tok => [(4, .int .i64 ((x.1 : Int) - 1))]) (fun x H' => x.1 ≤ i + 1 ∧ x.2.2.2.1 + 2 * x.1 ≤ 19 ∧ x.2.2.2.2 ++ tyRest i ms x.1 = tTy ⟨nm, i, ms⟩ ∧ WR H2 o2 w l2 true dp x.2.2.2.1 true x.2.2.2.2 H' x.2.1 x.2.2.1) (fun x => x.1)
        (i + 1, o4, l4, i + 1, List.replicate i (pk [91]) ++ [wk nm]) (by simp (disch := first | omega | assumption) only [Int.natCast_add, Int.add_sub_cancel, steps, st2, pev, rev, oev, optr, ibin, sbin, ishf, bound, mmAll, mm2, mk, mkArgs, AV.cells, AV.boxable, AV.one, AV.strip1, fillA, fillS, Nat.reduceEqDiff, reduceCtorEq, ↓reduceIte, Nat.reduceAdd, Int.reduceNeg, Nat.reduceLeDiff, Int.reduceToNat, Int.reduceEq, Int.reduceLT, Int.reduceLE, Int.reduceAdd]) ⟨by simp, by simp only; omega, by simp only [tTy, en, tyTl_rest]; simp, w4.cast (Nat.le_refl _) rfl rfl⟩ ?_
      rintro ⟨k, o5, l5, B, tk⟩ H5 J5 ⟨hk, hB, htk, w5⟩ hJ5
      simp only at hk hB htk w5
      cases k with
      | zero =>
        have hz : ¬ ((0 : Int) ≤ -1) := by omega
        have w6 := w5.after h3 h2.cell
        simp only [tyRest, List.append_nil] at htk
        simp (disch := first | omega | assumption) only [hz, Int.reduceSub, steps, st2, pev, rev, oev, optr, ibin, sbin, ishf, bound, mmAll, mm2, mk, mkArgs, AV.cells, AV.boxable, AV.one, AV.strip1, fillA, fillS, Nat.reduceEqDiff, reduceCtorEq, ↓reduceIte, Nat.reduceAdd, Int.reduceNeg, Nat.reduceLeDiff, Int.reduceToNat, Int.reduceEq, Int.reduceLT, Int.reduceLE, Int.reduceAdd]
        refine hQ _ _ H5 H5 [] nofun rfl (Low.refl _) ⟨rfl, ?_⟩
        obtain ⟨o', l', g1, g2, g3, g4⟩ := w6.fin (B' := 20) rfl (fun _ => htk) (by omega)
        rw [hok]
        exact ⟨o', l', by simpa using g1, g2, by omega, fun _ => by simpa using g4 rfl⟩
      | succ j =>
        have e0 : ((j + 1 : Nat) : Int) - 1 = (j : Int) := by omega
        have hz : ((0 : Int) ≤ j) = True := eq_true (by omega)
        have hbit := fdivP ms j (by omega)
        have hq0 : 0 ≤ ms / 2 ^ j := Int.ediv_nonneg r3 (by exact_mod_cast Nat.zero_le _)
        have hq1 : ms / 2 ^ j < 64 := by
          have : ms / 2 ^ j ≤ ms := Int.ediv_le_self _ r3
          omega
        have ha := and1 hq0 hq1
        have hj0 : ¬ ((j : Int) < 0) := by omega
        simp only [tyRest, tyPc] at htk
        by_cases hji : j < i
        · have hji' : ((j : Int) < i) = True := eq_true (by omega)
          rw [if_pos hji] at htk
          simp (disch := first | omega | assumption) only [e0, hz, hji', steps, st2, pev, rev, oev, optr, ibin, sbin, ishf, bound, mmAll, mm2, mk, mkArgs, AV.cells, AV.boxable, AV.one, AV.strip1, fillA, fillS, Nat.reduceEqDiff, reduceCtorEq, ↓reduceIte, Nat.reduceAdd, Int.reduceNeg, Nat.reduceLeDiff, Int.reduceToNat, Int.reduceEq, Int.reduceLT, Int.reduceLE, Int.reduceAdd]
          refine goK_W (markC [93] _) w5 (by omega) (by omega) (by simp only [Lim]; omega) fun o6 l6 H6 w6 _ => ?_
          by_cases hbt : ms / 2 ^ j % 2 = 1
          · have hbb : bitB ms j = true := by simp [bitB, hbt]
            rw [hbb] at htk
            simp (disch := first | omega | assumption) only [hbit, hj0, ha, hbt, steps, st2, pev, rev, oev, optr, ibin, sbin, ishf, bound, mmAll, mm2, mk, mkArgs, AV.cells, AV.boxable, AV.one, AV.strip1, fillA, fillS, Nat.reduceEqDiff, reduceCtorEq, ↓reduceIte, Nat.reduceAdd, Int.reduceNeg, Nat.reduceLeDiff, Int.reduceToNat, Int.reduceEq, Int.reduceLT, Int.reduceLE, Int.reduceAdd]
            refine goK_W (markC [33] _) w6 (by omega) (by omega) (by simp only [Lim]; omega) fun o7 l7 H7 w7 _ => ?_
            simp (disch := first | omega | assumption) only [wrap64, steps, st2, pev, rev, oev, optr, ibin, sbin, ishf, bound, mmAll, mm2, mk, mkArgs, AV.cells, AV.boxable, AV.one, AV.strip1, fillA, fillS, Nat.reduceEqDiff, reduceCtorEq, ↓reduceIte, Nat.reduceAdd, Int.reduceNeg, Nat.reduceLeDiff, Int.reduceToNat, Int.reduceEq, Int.reduceLT, Int.reduceLE, Int.reduceAdd]
            exact goJ (hJ5 (j, o7, l7, B + 1 + 1, tk ++ [pk [93]] ++ [pk [33]]) H7 (Nat.lt_succ_self j) ⟨by simp only; omega, by simp only; omega, by rw [← htk]; simp, w7.cast (Nat.le_refl _) rfl rfl⟩) (by simp (disch := first | omega | assumption) only [steps, st2, pev, rev, oev, optr, ibin, sbin, ishf, bound, mmAll, mm2, mk, mkArgs, AV.cells, AV.boxable, AV.one, AV.strip1, fillA, fillS, Nat.reduceEqDiff, reduceCtorEq, ↓reduceIte, Nat.reduceAdd, Int.reduceNeg, Nat.reduceLeDiff, Int.reduceToNat, Int.reduceEq, Int.reduceLT, Int.reduceLE, Int.reduceAdd])
          · have hbb : bitB ms j = false := by simp [bitB, hbt]
            rw [hbb] at htk
            simp (disch := first | omega | assumption) only [hbit, hj0, ha, hbt, wrap64, steps, st2, pev, rev, oev, optr, ibin, sbin, ishf, bound, mmAll, mm2, mk, mkArgs, AV.cells, AV.boxable, AV.one, AV.strip1, fillA, fillS, Nat.reduceEqDiff, reduceCtorEq, ↓reduceIte, Nat.reduceAdd, Int.reduceNeg, Nat.reduceLeDiff, Int.reduceToNat, Int.reduceEq, Int.reduceLT, Int.reduceLE, Int.reduceAdd]
            exact goJ (hJ5 (j, o6, l6, B + 1, tk ++ [pk [93]]) H6 (Nat.lt_succ_self j) ⟨by simp only; omega, by simp only; omega, by rw [← htk]; simp, w6.cast (Nat.le_refl _) rfl rfl⟩) (by simp (disch := first | omega | assumption) only [steps, st2, pev, rev, oev, optr, ibin, sbin, ishf, bound, mmAll, mm2, mk, mkArgs, AV.cells, AV.boxable, AV.one, AV.strip1, fillA, fillS, Nat.reduceEqDiff, reduceCtorEq, ↓reduceIte, Nat.reduceAdd, Int.reduceNeg, Nat.reduceLeDiff, Int.reduceToNat, Int.reduceEq, Int.reduceLT, Int.reduceLE, Int.reduceAdd])
        · have hji' : ¬ ((j : Int) < i) := by omega
          rw [if_neg hji] at htk
          by_cases hbt : ms / 2 ^ j % 2 = 1
          · have hbb : bitB ms j = true := by simp [bitB, hbt]
            rw [hbb] at htk
            simp (disch := first | omega | assumption) only [e0, hz, hji', hbit, hj0, ha, hbt, steps, st2, pev, rev, oev, optr, ibin, sbin, ishf, bound, mmAll, mm2, mk, mkArgs, AV.cells, AV.boxable, AV.one, AV.strip1, fillA, fillS, Nat.reduceEqDiff, reduceCtorEq, ↓reduceIte, Nat.reduceAdd, Int.reduceNeg, Nat.reduceLeDiff, Int.reduceToNat, Int.reduceEq, Int.reduceLT, Int.reduceLE, Int.reduceAdd]
            refine goK_W (markC [33] _) w5 (by omega) (by omega) (by simp only [Lim]; omega) fun o7 l7 H7 w7 _ => ?_
            simp (disch := first | omega | assumption) only [wrap64, steps, st2, pev, rev, oev, optr, ibin, sbin, ishf, bound, mmAll, mm2, mk, mkArgs, AV.cells, AV.boxable, AV.one, AV.strip1, fillA, fillS, Nat.reduceEqDiff, reduceCtorEq, ↓reduceIte, Nat.reduceAdd, Int.reduceNeg, Nat.reduceLeDiff, Int.reduceToNat, Int.reduceEq, Int.reduceLT, Int.reduceLE, Int.reduceAdd]
            exact goJ (hJ5 (j, o7, l7, B + 1, tk ++ [pk [33]]) H7 (Nat.lt_succ_self j) ⟨by simp only; omega, by simp only; omega, by rw [← htk]; simp, w7.cast (Nat.le_refl _) rfl rfl⟩) (by simp (disch := first | omega | assumption) only [steps, st2, pev, rev, oev, optr, ibin, sbin, ishf, bound, mmAll, mm2, mk, mkArgs, AV.cells, AV.boxable, AV.one, AV.strip1, fillA, fillS, Nat.reduceEqDiff, reduceCtorEq, ↓reduceIte, Nat.reduceAdd, Int.reduceNeg, Nat.reduceLeDiff, Int.reduceToNat, Int.reduceEq, Int.reduceLT, Int.reduceLE, Int.reduceAdd])
          · have hbb : bitB ms j = false := by simp [bitB, hbt]
            rw [hbb] at htk
            simp (disch := first | omega | assumption) only [e0, hz, hji', hbit, hj0, ha, hbt, wrap64, steps, st2, pev, rev, oev, optr, ibin, sbin, ishf, bound, mmAll, mm2, mk, mkArgs, AV.cells, AV.boxable, AV.one, AV.strip1, fillA, fillS, Nat.reduceEqDiff, reduceCtorEq, ↓reduceIte, Nat.reduceAdd, Int.reduceNeg, Nat.reduceLeDiff, Int.reduceToNat, Int.reduceEq, Int.reduceLT, Int.reduceLE, Int.reduceAdd]
            exact goJ (hJ5 (j, o5, l5, B, tk) H5 (Nat.lt_succ_self j) ⟨by simp only; omega, by simp only; omega, by rw [← htk]; simp, w5⟩) (by simp (disch := first | omega | assumption) only [steps, st2, pev, rev, oev, optr, ibin, sbin, ishf, bound, mmAll, mm2, mk, mkArgs, AV.cells, AV.boxable, AV.one, AV.strip1, fillA, fillS, Nat.reduceEqDiff, reduceCtorEq, ↓reduceIte, Nat.reduceAdd, Int.reduceNeg, Nat.reduceLeDiff, Int.reduceToNat, Int.reduceEq, Int.reduceLT, Int.reduceLE, Int.reduceAdd])
theorem defaultWC (has : Bool) (v : Val) (hw : wfV v) (hv : 4 * bV v ≤ Lim) : WC 142 [.bool has, .agg (cV v)] (1 + 4 * bV v) 0 32 (fun dp => if has then rightV2 dp true v else eqd v zV) (tDf has v) := by
  intro H w o l ok dp h h0 h1 hb
  have hvb : bV v ≤ Lim := by simp only [Lim] at hv ⊢; omega
  refine ACalls.go ir142 ck142 (Nat.le_refl _) fun KP Q hQ => ?_
  have w0 := WR.refl h
  cases has with
  | false =>
    simp (disch := first | omega | assumption) only [cV_len, cV_take, cV_splice, cM_len, cM_take, cM_splice, cM_mk, ir142, steps, st2, pev, rev, oev, optr, ibin, sbin, ishf, bound, mmAll, mm2, mk, mkArgs, AV.cells, AV.boxable, AV.one, AV.strip1, fillA, fillS, Nat.reduceEqDiff, reduceCtorEq, ↓reduceIte, Nat.reduceAdd, Int.reduceNeg, Nat.reduceLeDiff, Int.reduceToNat, Int.reduceEq, Int.reduceLT, Int.reduceLE, Int.reduceAdd]
    refine goK_pure (Pure.low (r := .bool (eqd v zV)) (by
      have := sameP v hvb zV
      simpa [AV.strip, cV_strip, cV_zero, AV.strip1] using this)) ?_
    simp (disch := first | omega | assumption) only [steps, st2, pev, rev, oev, optr, ibin, sbin, ishf, bound, mmAll, mm2, mk, mkArgs, AV.cells, AV.boxable, AV.one, AV.strip1, fillA, fillS, Nat.reduceEqDiff, reduceCtorEq, ↓reduceIte, Nat.reduceAdd, Int.reduceNeg, Nat.reduceLeDiff, Int.reduceToNat, Int.reduceEq, Int.reduceLT, Int.reduceLE, Int.reduceAdd]
    refine goK_W (needC _) w0 (by omega) (by omega) (by omega) fun o2 l2 H2 w2 _ => ?_
    simp (disch := first | omega | assumption) only [steps, st2, pev, rev, oev, optr, ibin, sbin, ishf, bound, mmAll, mm2, mk, mkArgs, AV.cells, AV.boxable, AV.one, AV.strip1, fillA, fillS, Nat.reduceEqDiff, reduceCtorEq, ↓reduceIte, Nat.reduceAdd, Int.reduceNeg, Nat.reduceLeDiff, Int.reduceToNat, Int.reduceEq, Int.reduceLT, Int.reduceLE, Int.reduceAdd]
    exact hQ _ _ H2 H2 [] nofun rfl (Low.refl _) ⟨rfl, w2.fin (by simp) (fun _ => by simp [tDf]) (by omega)⟩
  | true =>
    simp (disch := first | omega | assumption) only [cV_len, cV_take, cV_splice, cM_len, cM_take, cM_splice, cM_mk, ir142, steps, st2, pev, rev, oev, optr, ibin, sbin, ishf, bound, mmAll, mm2, mk, mkArgs, AV.cells, AV.boxable, AV.one, AV.strip1, fillA, fillS, Nat.reduceEqDiff, reduceCtorEq, ↓reduceIte, Nat.reduceAdd, Int.reduceNeg, Nat.reduceLeDiff, Int.reduceToNat, Int.reduceEq, Int.reduceLT, Int.reduceLE, Int.reduceAdd]
    refine goK_W (markC [61] _) w0 (by omega) (by omega) (by omega) fun o2 l2 H2 w2 _ => ?_
    simp (disch := first | omega | assumption) only [cV_len, cV_take, cV_splice, cM_len, cM_take, cM_splice, cM_mk, steps, st2, pev, rev, oev, optr, ibin, sbin, ishf, bound, mmAll, mm2, mk, mkArgs, AV.cells, AV.boxable, AV.one, AV.strip1, fillA, fillS, Nat.reduceEqDiff, reduceCtorEq, ↓reduceIte, Nat.reduceAdd, Int.reduceNeg, Nat.reduceLeDiff, Int.reduceToNat, Int.reduceEq, Int.reduceLT, Int.reduceLE, Int.reduceAdd]
    refine goK_W (valueWC v hw hv true) w2 (by omega) (by omega) (by omega) fun o3 l3 H3 w3 _ => ?_
    simp (disch := first | omega | assumption) only [steps, st2, pev, rev, oev, optr, ibin, sbin, ishf, bound, mmAll, mm2, mk, mkArgs, AV.cells, AV.boxable, AV.one, AV.strip1, fillA, fillS, Nat.reduceEqDiff, reduceCtorEq, ↓reduceIte, Nat.reduceAdd, Int.reduceNeg, Nat.reduceLeDiff, Int.reduceToNat, Int.reduceEq, Int.reduceLT, Int.reduceLE, Int.reduceAdd]
    exact hQ _ _ H3 H3 [] nofun rfl (Low.refl _) ⟨rfl, w3.fin (by simp) (fun _ => by simp [tDf]) (by omega)⟩
theorem argsWC (fixed : Bool) (m : List Mem) (hw : wfMs m) (hm : 8 * bMs m ≤ Lim) : WC 157 [.bool fixed, .sl .no 6 (cMs m)] (2 + 6 * bMs m) 0 32 (fun dp => rightMs dp fixed m) (tArgs m) := by
  intro H w o l ok dp h h0 h1 hb
  have hml := bMs_len m
  have hcl := cMs_len m
  refine ACalls.go ir157 ck157 (Nat.le_refl _) fun KP Q hQ => ?_
  have w0 := WR.refl h
  by_cases hz : m.length = 0
  · have hz' : ((m.length : Int) = 0) = True := eq_true (by omega)
    simp (disch := first | omega | assumption) only [ir157, hcl, hz', steps, st2, pev, rev, oev, optr, ibin, sbin, ishf, bound, mmAll, mm2, mk, mkArgs, AV.cells, AV.boxable, AV.one, AV.strip1, fillA, fillS, Nat.reduceEqDiff, reduceCtorEq, ↓reduceIte, Nat.reduceAdd, Int.reduceNeg, Nat.reduceLeDiff, Int.reduceToNat, Int.reduceEq, Int.reduceLT, Int.reduceLE, Int.reduceAdd]
    have em := List.length_eq_zero_iff.1 hz
    subst em
    exact hQ _ _ H H [] nofun rfl (Low.refl _) ⟨rfl, w0.fin rfl (fun _ => rfl) (by omega)⟩
  · have hz' : ¬ ((m.length : Int) = 0) := by omega
    simp (disch := first | omega | assumption) only [ir157, hcl, hz', steps, st2, pev, rev, oev, optr, ibin, sbin, ishf, bound, mmAll, mm2, mk, mkArgs, AV.cells, AV.boxable, AV.one, AV.strip1, fillA, fillS, Nat.reduceEqDiff, reduceCtorEq, ↓reduceIte, Nat.reduceAdd, Int.reduceNeg, Nat.reduceLeDiff, Int.reduceToNat, Int.reduceEq, Int.reduceLT, Int.reduceLE, Int.reduceAdd]
    refine goK_W (markC [40] _) w0 (by omega) (by omega) (by omega) fun o2 l2 H2 w2 _ => ?_
    simp (disch := first | omega | assumption) only [hcl, steps, st2, pev, rev, oev, optr, ibin, sbin, ishf, bound, mmAll, mm2, mk, mkArgs, AV.cells, AV.boxable, AV.one, AV.strip1, fillA, fillS, Nat.reduceEqDiff, reduceCtorEq, ↓reduceIte, Nat.reduceAdd, Int.reduceNeg, Nat.reduceLeDiff, Int.reduceToNat, Int.reduceEq, Int.reduceLT, Int.reduceLE, Int.reduceAdd]
    refine goL_range m 16 (fun x : Own × List Tok => []) (fun done rest x H' => WR H o w l ok dp (1 + 6 * bMs done) (rightMs dp fixed done) (pk [40] :: tokMs done) H' x.1 x.2) (o2, l2) (by simp (disch := first | omega | assumption) only [steps, st2, pev, rev, oev, optr, ibin, sbin, ishf, bound, mmAll, mm2, mk, mkArgs, AV.cells, AV.boxable, AV.one, AV.strip1, fillA, fillS, Nat.reduceEqDiff, reduceCtorEq, ↓reduceIte, Nat.reduceAdd, Int.reduceNeg, Nat.reduceLeDiff, Int.reduceToNat, Int.reduceEq, Int.reduceLT, Int.reduceLE, Int.reduceAdd]) (w2.cast (by omega) rfl rfl) ?_ ?_
    · rintro ⟨o3, l3⟩ H3 J w3 hlt
      simp only at w3
      simp (disch := first | omega | assumption) only [hcl, hlt, steps, st2, pev, rev, oev, optr, ibin, sbin, ishf, bound, mmAll, mm2, mk, mkArgs, AV.cells, AV.boxable, AV.one, AV.strip1, fillA, fillS, Nat.reduceEqDiff, reduceCtorEq, ↓reduceIte, Nat.reduceAdd, Int.reduceNeg, Nat.reduceLeDiff, Int.reduceToNat, Int.reduceEq, Int.reduceLT, Int.reduceLE, Int.reduceAdd]
      refine goK_W (markC [41] _) w3 (by omega) (by omega) (by omega) fun o4 l4 H4 w4 _ => ?_
      simp (disch := first | omega | assumption) only [steps, st2, pev, rev, oev, optr, ibin, sbin, ishf, bound, mmAll, mm2, mk, mkArgs, AV.cells, AV.boxable, AV.one, AV.strip1, fillA, fillS, Nat.reduceEqDiff, reduceCtorEq, ↓reduceIte, Nat.reduceAdd, Int.reduceNeg, Nat.reduceLeDiff, Int.reduceToNat, Int.reduceEq, Int.reduceLT, Int.reduceLE, Int.reduceAdd]
      exact hQ _ _ H4 H4 [] nofun rfl (Low.refl _) ⟨rfl, w4.fin (by simp) (fun _ => by unfold tArgs; rw [if_neg hz]; rfl) (by omega)⟩
    · rintro done x rest ⟨o3, l3⟩ H3 J hd hlt hlt2 w3 hJ
      simp only at w3
      have hg := cMs_get hd
      have hbm := bMs_mid done x rest
      rw [← hd] at hbm
      have hmem : x ∈ m := by rw [hd]; simp
      obtain ⟨s, v⟩ := x
      have hwv := wfMs_mem hw s v hmem
      have hvp := bV_pos v
      simp only [bM] at hbm
      have hm' := hm
      simp only [Lim] at hm'
      have hbw : b0 w = b0 w := rfl
      simp (disch := first | omega | assumption) only [cV_len, cV_take, cV_splice, cM_len, cM_take, cM_splice, cM_mk, hcl, hlt, hg, steps, st2, pev, rev, oev, optr, ibin, sbin, ishf, bound, mmAll, mm2, mk, mkArgs, AV.cells, AV.boxable, AV.one, AV.strip1, fillA, fillS, Nat.reduceEqDiff, reduceCtorEq, ↓reduceIte, Nat.reduceAdd, Int.reduceNeg, Nat.reduceLeDiff, Int.reduceToNat, Int.reduceEq, Int.reduceLT, Int.reduceLE, Int.reduceAdd]
      refine goA_intro fun b hb => ?_
      have hbw : b ≠ w := fun e => by subst e; rw [w3.here.cell] at hb; cases hb
      have w4 := w3.alloc (x := .cells (.str s :: cV v)) hb
      have hbc : (H3.upd b (.cells (.str s :: cV v))) b = some (.cells (.str s :: cV v)) := upd_same ..
      simp (disch := first | omega | assumption) only [cV_len, cV_take, cV_splice, cM_len, cM_take, cM_splice, cM_mk, steps, st2, pev, rev, oev, optr, ibin, sbin, ishf, bound, mmAll, mm2, mk, mkArgs, AV.cells, AV.boxable, AV.one, AV.strip1, fillA, fillS, Nat.reduceEqDiff, reduceCtorEq, ↓reduceIte, Nat.reduceAdd, Int.reduceNeg, Nat.reduceLeDiff, Int.reduceToNat, Int.reduceEq, Int.reduceLT, Int.reduceLE, Int.reduceAdd]
      refine goK_W (nameWC s (by simp only [Lim]; omega)) w4 (by omega) (by omega) (by omega) fun o5 l5 H5 w5 s5 => ?_
      have hb5 := s5.box w4.here.own hbc hbw
      simp (disch := first | omega | assumption) only [cV_len, cV_take, cV_splice, cM_len, cM_take, cM_splice, cM_mk, hb5, steps, st2, pev, rev, oev, optr, ibin, sbin, ishf, bound, mmAll, mm2, mk, mkArgs, AV.cells, AV.boxable, AV.one, AV.strip1, fillA, fillS, Nat.reduceEqDiff, reduceCtorEq, ↓reduceIte, Nat.reduceAdd, Int.reduceNeg, Nat.reduceLeDiff, Int.reduceToNat, Int.reduceEq, Int.reduceLT, Int.reduceLE, Int.reduceAdd]
      refine goK_W (markC [58] _) w5 (by omega) (by omega) (by omega) fun o6 l6 H6 w6 s6 => ?_
      have hb6 := s6.box w5.here.own hb5 hbw
      simp (disch := first | omega | assumption) only [cV_len, cV_take, cV_splice, cM_len, cM_take, cM_splice, cM_mk, hb6, steps, st2, pev, rev, oev, optr, ibin, sbin, ishf, bound, mmAll, mm2, mk, mkArgs, AV.cells, AV.boxable, AV.one, AV.strip1, fillA, fillS, Nat.reduceEqDiff, reduceCtorEq, ↓reduceIte, Nat.reduceAdd, Int.reduceNeg, Nat.reduceLeDiff, Int.reduceToNat, Int.reduceEq, Int.reduceLT, Int.reduceLE, Int.reduceAdd]
      refine goK_W (valueWC v hwv (by simp only [Lim]; omega) fixed) w6 (by omega) (by omega) (by omega) fun o7 l7 H7 w7 s7 => ?_
      simp (disch := first | omega | assumption) only [wrap64, steps, st2, pev, rev, oev, optr, ibin, sbin, ishf, bound, mmAll, mm2, mk, mkArgs, AV.cells, AV.boxable, AV.one, AV.strip1, fillA, fillS, Nat.reduceEqDiff, reduceCtorEq, ↓reduceIte, Nat.reduceAdd, Int.reduceNeg, Nat.reduceLeDiff, Int.reduceToNat, Int.reduceEq, Int.reduceLT, Int.reduceLE, Int.reduceAdd]
      exact goJ (hJ (o7, l7) H7 (w7.cast (by rw [bMs_mid done (.mk s v) []]; simp only [bM, bMs]; omega) (by simp [rightMs, rightMe, Bool.and_assoc]) (by rw [tokMs_app]; simp [tokMs, tokM, wk, pk]))) (by simp (disch := first | omega | assumption) only [steps, st2, pev, rev, oev, optr, ibin, sbin, ishf, bound, mmAll, mm2, mk, mkArgs, AV.cells, AV.boxable, AV.one, AV.strip1, fillA, fillS, Nat.reduceEqDiff, reduceCtorEq, ↓reduceIte, Nat.reduceAdd, Int.reduceNeg, Nat.reduceLeDiff, Int.reduceToNat, Int.reduceEq, Int.reduceLT, Int.reduceLE, Int.reduceAdd])
end Go.Proofs.YticbbfbpeimkbaaGreatDoor
namespace Go.Proofs.YticbbfbpeimkbaaGreatDoor
open Go.Ab
end Go.Proofs.YticbbfbpeimkbaaGreatDoor
namespace Go.Proofs.YticbbfbpeimkbaaGreatDoor
open Go.Ab
abbrev pl (v : Val) : Prop := allV nameM v = true
inductive Shape : Val → Prop
  | null : Shape (.mk 0 0 [] [] [])
  | bool (n : Int) (h : n = 0 ∨ n = 1) : Shape (.mk 1 n [] [] [])
  | int (n : Int) : Shape (.mk 2 n [] [] [])
  | num (s : List UInt8) (h : numB s = true) : Shape (.mk 3 0 s [] [])
  | text (s : List UInt8) : Shape (.mk 4 0 s [] [])
  | word (s : List UInt8) (h : resB s = false) : Shape (.mk 5 0 s [] [])
  | var (s : List UInt8) : Shape (.mk 8 0 s [] [])
  | list (l : List Val) (h : allVs nameM l = true) : Shape (.mk 6 0 [] l [])
  | obj (m : List Mem) (h : allMs nameM m = true) : Shape (.mk 7 0 [] [] m)
theorem bareM_iff {n : Int} {s : List UInt8} {l : List Val} {m : List Mem} : bareM n s l m = true ↔ n = 0 ∧ s = [] ∧ l = [] ∧ m = [] := by
  simp [bareM]
theorem shape : ∀ v, pl v → Shape v
  | .mk k n s l m, h => by
    simp only [pl, allV] at h
    split at h
    · rename_i k6
      subst k6
      simp only [Bool.and_eq_true, bareM_iff] at h
      obtain ⟨h1, rfl, rfl, _, rfl⟩ := h
      exact .list l h1
    · split at h
      · rename_i k7
        subst k7
        simp only [Bool.and_eq_true, bareM_iff] at h
        obtain ⟨h1, rfl, rfl, rfl, _⟩ := h
        exact .obj m h1
      · simp only [singleM, Bool.and_eq_true, bareM_iff] at h
        obtain ⟨⟨_, _, rfl, rfl⟩, h⟩ := h
        split at h
        · rename_i k0
          subst k0
          simp only [Bool.and_eq_true, decide_eq_true_eq] at h
          obtain ⟨rfl, rfl⟩ := h
          exact .null
        split at h
        · rename_i k0
          subst k0
          simp only [Bool.and_eq_true, Bool.or_eq_true, decide_eq_true_eq] at h
          obtain ⟨h, rfl⟩ := h
          exact .bool n h
        split at h
        · rename_i k0
          subst k0
          simp only [decide_eq_true_eq] at h
          subst h
          exact .int n
        split at h
        · rename_i k0
          subst k0
          simp only [Bool.and_eq_true, decide_eq_true_eq] at h
          obtain ⟨rfl, h⟩ := h
          exact .num s h
        split at h
        · rename_i k0
          subst k0
          simp only [Bool.and_eq_true, decide_eq_true_eq] at h
          obtain ⟨rfl, h⟩ := h
          exact .text s
        split at h
        · rename_i k0
          subst k0
          simp only [Bool.and_eq_true, decide_eq_true_eq, Bool.not_eq_true'] at h
          obtain ⟨rfl, _, h⟩ := h
          exact .word s h
        split at h
        · rename_i k0
          subst k0
          simp only [Bool.and_eq_true, decide_eq_true_eq] at h
          obtain ⟨rfl, _⟩ := h
          exact .var s
        · cases h
end Go.Proofs.YticbbfbpeimkbaaGreatDoor
namespace Go.Proofs.YticbbfbpeimkbaaGreatDoor
open Go.Ab
end Go.Proofs.YticbbfbpeimkbaaGreatDoor
namespace Go.Proofs.YticbbfbpeimkbaaGreatDoor
open Go.Ab
theorem wfSs_mem : ∀ {l : List SelD}, wfSs l → ∀ v ∈ l, wfS v
  | _ :: _, h, v, hv => (List.mem_cons.1 hv).elim (fun e => e ▸ h.1) (wfSs_mem h.2 v)
end Go.Proofs.YticbbfbpeimkbaaGreatDoor
