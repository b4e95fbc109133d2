/- Texts joined: NumS Jr Put Jo Jaw Row RowV. -/
import Derived.Test.YtpjafglhdlfnbaaGreatDoorCards
import Derived.Test.YtpjafglhdlfnbaaGreatDoorTie
import Derived.Lib.LaidIn
import Derived.Lib.LaidU8T
import Derived.Lib.LaidTab
import Derived.Deep.DeepHandedRow
import Derived.Deep.DeepWitnessRowRef
import Derived.ProofKit
import Derived.SizedLaws
import Derived.OpenShut
import Derived.Test.YtpjafglhdlfnbaaGreatDoorM1
import Derived.Test.YtpjafglhdlfnbaaGreatDoorM2
import Derived.Test.YtpjafglhdlfnbaaGreatDoorM3
import Derived.Test.YtpjafglhdlfnbaaGreatDoorM4
set_option maxRecDepth 100000
set_option linter.unusedSimpArgs false
set_option linter.unusedVariables false
namespace Go.Proofs.YtpjafglhdlfnbaaGreatDoor
open Go.Ab
theorem NumberR (s : List UInt8) (hs : s.length ≤ Lim) : Pure Tryz.prog 83 [.str s] (.int .i64 (numK s)) := by
  refine Pure.go ir83 ck83 (Nat.le_refl _) fun KP Q hQ => ?_
  simp (disch := first | omega | assumption) only [ir83, go_sem, ↓reduceIte]
  refine goK_pure (numeralR s hs) ?_
  by_cases h : (numN s).1 = s.length
  · have h' : ((numN s).1 : Int) = s.length := by omega
    simp (disch := first | omega | assumption) only [h', go_sem, ↓reduceIte]
    exact hQ _ _ _ _ nofun rfl (by simp [tupOf, envOf, AV.strip, AV.strip1, numK, h])
  · have h' : ¬ ((numN s).1 : Int) = s.length := by omega
    simp (disch := first | omega | assumption) only [h', go_sem, ↓reduceIte]
    exact hQ _ _ _ _ nofun rfl (by simp [tupOf, envOf, AV.strip, AV.strip1, numK, h])
def dg (c : UInt8) : Int := IntKind.u8.wrap ((c.toNat : Int) - 48)
theorem dg_le (c : UInt8) : 0 ≤ dg c ∧ dg c ≤ 255 := by
  unfold dg IntKind.wrap
  simp [IntKind.signed, IntKind.bits]
  omega
theorem dg_digit {c : UInt8} (h : isD c = true) : dg c = (c.toNat : Int) - 48 := by
  simp only [isD, Bool.and_eq_true, decide_eq_true_eq] at h
  unfold dg IntKind.wrap
  simp [IntKind.signed, IntKind.bits]
  omega
def i64N : List UInt8 → Int → Option Int
  | [], a => some a
  | c :: r, a => if a < Int.tdiv (-9223372036854775808 + dg c) 10 then none else i64N r (10 * a - dg c)
theorem step_ok {a d : Int} (h0 : 0 ≤ d) (h1 : d ≤ 255) (ha : -9223372036854775808 ≤ a) (ha2 : a ≤ 0) (h : ¬ a < Int.tdiv (-9223372036854775808 + d) 10) : -9223372036854775808 ≤ 10 * a - d ∧ 10 * a - d ≤ 0 := by
  have e : Int.tdiv (-9223372036854775808 + d) 10 = -((9223372036854775808 - d) / 10) := by
    rw [show (-9223372036854775808 + d) = -(9223372036854775808 - d) by omega, Int.neg_tdiv, Int.tdiv_eq_ediv_of_nonneg (by omega)]
  rw [e] at h
  omega
def i64R (s : List UInt8) : Int × Bool :=
  if s.head? = some 45 then (match i64N s.tail 0 with | some a => (a, true) | none => (0, false))
  else (match i64N s 0 with | some a => if a = -9223372036854775808 then (0, false) else (-a, true) | none => (0, false))
theorem int64R (s : List UInt8) (hs : s.length ≤ Lim) : Pure Tryz.prog 84 [.str s] (.tup [.int .i64 (i64R s).1, .bool (i64R s).2]) := by
  refine Pure.go ir84 ck84 (Nat.le_refl _) fun KP Q hQ => ?_
  simp only [Lim] at hs
  simp (disch := first | omega | assumption) only [ir84, go_sem, ↓reduceIte]
  refine goU_cut (fun x : Nat × Bool => [(4, .int .i64 x.1), (5, .bool x.2)]) (fun x H => x = (if s.head? = some 45 then (1, true) else (0, false)) ∧ H = Heap.emp) (fun J hJ => ?_) ?_
  · cases s with
    | nil =>
      simp (disch := first | omega | assumption) only [go_sem, ↓reduceIte]
      exact goJ (hJ (0, false) _ ⟨rfl, rfl⟩) (by simp (disch := first | omega | assumption) only [go_sem, ↓reduceIte])
    | cons c t =>
      have hp : (0 : Int) < ((t.length + 1 : Nat) : Int) := by omega
      by_cases h : c = 45
      · have h' : (c.toNat : Int) = 45 := by rw [h]; rfl
        simp (disch := first | omega | assumption) only [hp, h', go_sem, ↓reduceIte]
        exact goJ (hJ (1, true) _ ⟨by rw [h]; rfl, rfl⟩) (by simp (disch := first | omega | assumption) only [go_sem, ↓reduceIte])
      · have h' : ¬ (c.toNat : Int) = 45 := u8_ne (n := 45) (by omega) h
        simp (disch := first | omega | assumption) only [hp, h', go_sem, ↓reduceIte]
        exact goJ (hJ (0, false) _ ⟨by simp [h], rfl⟩) (by simp (disch := first | omega | assumption) only [go_sem, ↓reduceIte])
  rintro ⟨n0, neg⟩ H ⟨hx, rfl⟩
  have hn0 : n0 ≤ s.length := by
    split at hx
    · rename_i h
      cases s with
      | nil => simp at h
      | cons c t => cases hx; simp
    · cases hx; omega
  have hR : i64R s = if neg then (match i64N (s.drop n0) 0 with | some a => (a, true) | none => (0, false)) else (match i64N (s.drop n0) 0 with | some a => if a = -9223372036854775808 then (0, false) else (-a, true) | none => (0, false)) := by
    unfold i64R
    split at hx
    · rename_i h
      cases hx
      rw [if_pos h]
      simp
    · rename_i h
      cases hx
      rw [if_neg h]
      simp
  simp (disch := first | omega | assumption) only [go_sem, ↓reduceIte]
  refine goL_st (fun x : Nat × Int => [(4, .int .i64 x.1), (6, .int .i64 x.2)]) (fun x H => i64N (s.drop x.1) x.2 = i64N (s.drop n0) 0 ∧ x.1 ≤ s.length ∧ (-9223372036854775808 ≤ x.2 ∧ x.2 ≤ 0)) (fun x => s.length - x.1) (n0, 0) (by simp (disch := first | omega | assumption) only [go_sem, ↓reduceIte]) ⟨rfl, hn0, by omega, by omega⟩ ?_
  rintro ⟨n, a⟩ H J ⟨hn, hle, ha1, ha2⟩ hJ
  simp only at hn hle ha1 ha2
  rcases drop_cases s n with ⟨e1, e2⟩ | ⟨e1, e2⟩
  · have hlt : ¬ (n : Int) < s.length := by omega
    rw [e1] at hn
    simp only [i64N] at hn
    rw [← hn] at hR
    cases neg with
    | true =>
      simp (disch := first | omega | assumption) only [hlt, go_sem, ↓reduceIte]
      exact hQ _ _ _ _ nofun rfl (by simp [tupOf, envOf, AV.strip, AV.strip1, hR])
    | false =>
      by_cases hm : a = -9223372036854775808
      · simp (disch := first | omega | assumption) only [hlt, hm, go_sem, ↓reduceIte]
        exact hQ _ _ _ _ nofun rfl (by simp [tupOf, envOf, AV.strip, AV.strip1, hR, hm])
      · simp (disch := first | omega | assumption) only [hlt, hm, wrap64, go_sem, ↓reduceIte]
        exact hQ _ _ _ _ nofun rfl (by simp [tupOf, envOf, AV.strip, AV.strip1, hR, hm])
  · have hlt : (n : Int) < s.length := by omega
    obtain ⟨c, hc⟩ : ∃ c, s.getD n 0 = c := ⟨_, rfl⟩
    rw [hc] at e2
    rw [e2] at hn
    simp only [i64N] at hn
    have hd := dg_le c
    have hdg : IntKind.u8.wrap ((c.toNat : Int) - 48) = dg c := rfl
    have he : Int.tdiv (-9223372036854775808 + dg c) 10 = -((9223372036854775808 - dg c) / 10) := by
      rw [show (-9223372036854775808 + dg c) = -(9223372036854775808 - dg c) by omega, Int.neg_tdiv, Int.tdiv_eq_ediv_of_nonneg (by omega)]
    by_cases hb : a < Int.tdiv (-9223372036854775808 + dg c) 10
    · rw [if_pos hb] at hn
      rw [← hn] at hR
      simp (disch := first | omega | assumption) only [hlt, hc, hdg, wrap64, hb, go_sem, ↓reduceIte]
      cases neg with
      | true => exact hQ _ _ _ _ nofun rfl (by simp [tupOf, envOf, AV.strip, AV.strip1, hR])
      | false => exact hQ _ _ _ _ nofun rfl (by simp [tupOf, envOf, AV.strip, AV.strip1, hR])
    · have hst := step_ok hd.1 hd.2 ha1 ha2 hb
      rw [if_neg hb] at hn
      simp (disch := first | omega | assumption) only [hlt, hc, hdg, wrap64, hb, go_sem, ↓reduceIte]
      exact goJ (hJ (n + 1, 10 * a - dg c) _ (by simp only; omega) ⟨hn, by simp only; omega, hst⟩) (by simp (disch := first | omega | assumption) only [Int.natCast_add, Int.natCast_one, go_sem, ↓reduceIte])
def decV (acc : Nat) (l : List UInt8) : Nat := l.foldl (fun a c => a * 10 + (c.toNat - 48)) acc
theorem decV_nil (acc : Nat) : decV acc [] = acc := by unfold decV; rw [List.foldl_nil]
theorem decV_cons (acc : Nat) (c : UInt8) (r : List UInt8) : decV acc (c :: r) = decV (acc * 10 + (c.toNat - 48)) r := by unfold decV; rw [List.foldl_cons]
theorem i64N_cons (c : UInt8) (r : List UInt8) (a : Int) : i64N (c :: r) a = if a < Int.tdiv (-9223372036854775808 + dg c) 10 then none else i64N r (10 * a - dg c) := by rw [i64N]
theorem decV_ge : ∀ (r : List UInt8) (acc : Nat), acc ≤ decV acc r
  | [], acc => by rw [decV_nil]; exact Nat.le_refl _
  | c :: r, acc => by have := decV_ge r (acc * 10 + (c.toNat - 48)); rw [decV_cons]; omega
theorem i64N_digits : ∀ (r : List UInt8) (acc : Nat), (∀ c ∈ r, isD c = true) → acc ≤ 9223372036854775808 → i64N r (-(acc : Int)) = if decV acc r ≤ 9223372036854775808 then some (-(decV acc r : Int)) else none
  | [], acc, _, h => by rw [decV_nil, if_pos h]; rfl
  | c :: r, acc, hd, h => by
    have hc := hd c (by simp)
    have hv := dg_digit hc
    simp only [isD, Bool.and_eq_true, decide_eq_true_eq] at hc
    have he : Int.tdiv (-9223372036854775808 + dg c) 10 = -((9223372036854775808 - dg c) / 10) := by
      rw [show (-9223372036854775808 + dg c) = -(9223372036854775808 - dg c) by omega, Int.neg_tdiv, Int.tdiv_eq_ediv_of_nonneg (by omega)]
    have hg := decV_ge r (acc * 10 + (c.toNat - 48))
    rw [i64N_cons, decV_cons]
    by_cases hb : -(acc : Int) < Int.tdiv (-9223372036854775808 + dg c) 10
    · rw [if_pos hb, if_neg (by omega)]
    · rw [if_neg hb]
      have e : 10 * -(acc : Int) - dg c = -((acc * 10 + (c.toNat - 48) : Nat) : Int) := by omega
      rw [e]
      exact i64N_digits r _ (fun x hx => hd x (by simp [hx])) (by omega)
theorem parse_digits : ∀ (r : List UInt8) (acc : Nat), (∀ c ∈ r, isD c = true) → acc < 18446744073709551616 → Lib.parseUint10 acc r = if decV acc r < 18446744073709551616 then .ok (decV acc r) else .range
  | [], acc, _, h => by rw [decV_nil, if_pos h]; rfl
  | c :: r, acc, hd, h => by
    have hc := hd c (by simp)
    simp only [isD, Bool.and_eq_true, decide_eq_true_eq] at hc
    have hg := decV_ge r (acc * 10 + (c.toNat - 48))
    rw [decV_cons]
    simp only [Lib.parseUint10]
    rw [if_pos hc]
    by_cases h1 : 1844674407370955162 ≤ acc
    · rw [if_pos h1, if_neg (by omega)]
    · rw [if_neg h1]
      by_cases h2 : 18446744073709551616 ≤ acc * 10 + (c.toNat - 48)
      · rw [if_pos h2, if_neg (by omega)]
      · rw [if_neg h2]
        exact parse_digits r _ (fun x hx => hd x (by simp [hx])) (by omega)
theorem run1_full : ∀ l : List UInt8, run1 l = l.length → ∀ c ∈ l, isD c = true
  | [], _, c, hc => by cases hc
  | x :: r, h, c, hc => by
    simp only [run1, List.length_cons] at h
    split at h
    · rename_i hx
      rcases List.mem_cons.1 hc with e | e
      · subst e; exact hx
      · exact run1_full r (by omega) c e
    · omega
theorem intN_full {l : List UInt8} (h : intN l = l.length) (h0 : run1 l ≠ 0) : ∀ c ∈ l, isD c = true := by
  unfold intN at h
  rw [if_neg h0] at h
  split at h
  · apply run1_full
    have := run1_le l
    omega
  · exact run1_full l h
theorem wholeN_neg (t : List UInt8) : wholeN (45 :: t) = if run1 t = 0 then 0 else 1 + intN t := by
  unfold wholeN; exact if_pos rfl
theorem wholeN_pos {s : List UInt8} (h : ¬ s.head? = some 45) : wholeN s = intN s := by
  unfold wholeN; exact if_neg h
theorem num3 {s : List UInt8} (h : numK s = 3) : (∃ t, s = 45 :: t ∧ t ≠ [] ∧ ∀ c ∈ t, isD c = true) ∨ (∃ c t, s = c :: t ∧ ∀ x ∈ s, isD x = true) := by
  unfold numK at h
  split at h
  · rename_i hl
    unfold numN at h hl
    split at h
    · simp at h
    · rename_i hw
      rw [if_neg hw] at hl
      simp only at h hl
      split at h
      · rename_i hfp
        rw [hfp.2, hfp.1] at hl
        simp only [Nat.add_zero] at hl
        by_cases h45 : s.head? = some 45
        · cases s with
          | nil => simp at h45
          | cons c t =>
            have hc : c = 45 := by simpa using h45
            subst hc
            rw [wholeN_neg] at hl hw
            by_cases h0 : run1 t = 0
            · rw [if_pos h0] at hw; omega
            · rw [if_neg h0] at hl
              refine .inl ⟨t, rfl, ?_, intN_full (by simp only [List.length_cons] at hl; omega) h0⟩
              intro e; subst e; exact h0 rfl
        · rw [wholeN_pos h45] at hl hw
          have h0 : run1 s ≠ 0 := fun e => hw (by simp [intN, e])
          cases s with
          | nil => exact absurd rfl h0
          | cons c t => exact .inr ⟨c, t, rfl, intN_full hl h0⟩
      · omega
  · omega
theorem i64R_neg (t : List UInt8) : i64R (45 :: t) = match i64N t 0 with | some a => (a, true) | none => (0, false) := by
  unfold i64R; exact if_pos rfl
theorem i64R_pos {c : UInt8} (t : List UInt8) (h : c ≠ 45) : i64R (c :: t) = match i64N (c :: t) 0 with | some a => if a = -9223372036854775808 then (0, false) else (-a, true) | none => (0, false) := by
  unfold i64R; exact if_neg (fun e => h (by simpa using e))
theorem i64_ok {s : List UInt8} (h : numK s = 3) : (i64R s).2 = okI (Lib.parseIntB 64 s) := by
  rw [Lib.parseIntB_64]
  rcases num3 h with ⟨t, rfl, hne, hd⟩ | ⟨c, t, rfl, hd⟩
  · have h1 := i64N_digits t 0 hd (by omega)
    have h2 := parse_digits t 0 hd (by omega)
    simp only [Int.natCast_zero, Int.neg_zero] at h1
    rw [Lib.atoiAll_minus, i64R_neg, h1]
    unfold Lib.parseMag
    rw [if_neg hne, h2]
    generalize decV 0 t = V
    by_cases a : V ≤ 9223372036854775808
    · rw [if_pos a, if_pos (by omega)]
      simp only [Lib.signed]
      rw [if_neg (by omega)]
      rfl
    · rw [if_neg a]
      by_cases b : V < 18446744073709551616
      · rw [if_pos b]
        simp only [Lib.signed]
        rw [if_pos (by omega)]
        rfl
      · rw [if_neg b]
        rfl
  · have h1 := i64N_digits (c :: t) 0 hd (by omega)
    have h2 := parse_digits (c :: t) 0 hd (by omega)
    have hc := hd c (by simp)
    simp only [isD, Bool.and_eq_true, decide_eq_true_eq] at hc
    have h45 : c ≠ 45 := fun e => by subst e; simp at hc
    simp only [Int.natCast_zero, Int.neg_zero] at h1
    rw [Lib.atoiAll_plain c t (by omega) (by omega), i64R_pos t h45, h1]
    unfold Lib.parseMag
    rw [if_neg (List.cons_ne_nil c t), h2]
    generalize decV 0 (c :: t) = V
    by_cases a : V ≤ 9223372036854775808
    · rw [if_pos a, if_pos (by omega)]
      simp only [Lib.signless]
      by_cases b : V = 9223372036854775808
      · rw [if_pos (by omega), if_pos (by omega)]; rfl
      · rw [if_neg (by omega), if_neg (by omega)]; rfl
    · rw [if_neg a]
      by_cases b : V < 18446744073709551616
      · rw [if_pos b]
        simp only [Lib.signless]
        rw [if_pos (by omega)]
        rfl
      · rw [if_neg b]
        rfl
end Go.Proofs.YtpjafglhdlfnbaaGreatDoor
namespace Go.Proofs.YtpjafglhdlfnbaaGreatDoor
open Go.Ab Go.Lib
structure SdOk (q : Sd) (acc : List UInt8) : Prop where
  ok : q.ok = true
  small : ∀ u ∈ q.u, u < 128
  eq : acc = q.b ++ q.u.map UInt8.ofNat
theorem join_small : ∀ u : List Nat, (∀ x ∈ u, x < 128) → joinM u = some (u.map UInt8.ofNat)
  | [], _ => rfl
  | u :: r, h => by
    have h1 := h u (.head _)
    have h2 := join_small r fun x hx => h x (.tail _ hx)
    have e : encM u = [UInt8.ofNat u] := by unfold encM; rw [if_pos (by omega)]
    cases r with
    | nil => simp only [joinM]; rw [if_neg (by omega), if_neg (by omega), e]; rfl
    | cons v r => rw [joinM, if_neg (by omega), if_neg (by omega), h2, e]; rfl
theorem SdOk.flush {q : Sd} {acc : List UInt8} (h : SdOk q acc) : flushM q = ⟨acc, [], true⟩ := by
  unfold flushM; rw [join_small _ h.small, h.ok, h.eq]; rfl
theorem SdOk.put {q : Sd} {acc : List UInt8} (h : SdOk q acc) (c : UInt8) : SdOk (q.put c) (acc ++ [c]) := by
  unfold Sd.put; rw [h.flush]; exact ⟨rfl, by simp, by simp⟩
theorem SdOk.unit {q : Sd} {acc : List UInt8} (h : SdOk q acc) {u : Nat} (hu : u < 128) : SdOk ⟨q.b, q.u ++ [u], q.ok⟩ (acc ++ [UInt8.ofNat u]) :=
  ⟨h.ok, fun x hx => by rcases List.mem_append.1 hx with e | e; exact h.small x e; simp at e; omega, by rw [h.eq]; simp⟩
theorem unit_low : ∀ x : Fin 32, ∀ t, unitM (48 :: 48 :: hexL.getD (x.val / 16) 0 :: hexL.getD (x.val % 16) 0 :: t) = some x.val := by
  intro x t
  have h0 : hexD 48 = some 0 := by decide
  have h1 : ∀ y : Fin 32, hexD (hexL.getD (y.val / 16) 0) = some (y.val / 16) := by decide
  have h2 : ∀ y : Fin 32, hexD (hexL.getD (y.val % 16) 0) = some (y.val % 16) := by decide
  unfold unitM
  simp only [unitG, h0, h1 x, h2 x]
  congr 1; omega
theorem esc_q {q : Sd} {acc : List UInt8} (h : SdOk q acc) (c : UInt8) (hc : c = 34 ∨ c = 92) (t : List UInt8) : escM q (c :: t) = some (q.put c, t) := by
  rcases hc with rfl | rfl
  · simp only [escM]; rw [if_neg (by decide), if_neg (by decide)]; rfl
  · simp only [escM]; rw [if_neg (by decide), if_neg (by decide)]; rfl
theorem esc_u (q : Sd) (c : UInt8) (hc : c.toNat < 32) (t : List UInt8) : escM q (117 :: 48 :: 48 :: hexL.getD (c.toNat / 16) 0 :: hexL.getD (c.toNat % 16) 0 :: t) = some (⟨q.b, q.u ++ [c.toNat], q.ok⟩, t) := by
  simp only [escM]
  rw [if_pos trivial]
  have := unit_low ⟨c.toNat, hc⟩ t
  simp only at this
  rw [this]; rfl
theorem quoG_q (may : UInt8 → Bool) (hm : ∀ c : UInt8, 32 ≤ c.toNat → may c = true) : ∀ (s : List UInt8) (n : Nat) (q : Sd) (acc t : List UInt8), SdOk q acc → (s.flatMap qB).length < n → ∃ q', quoG may n (s.flatMap qB ++ 34 :: t) q = some (q', t) ∧ q'.ok = true ∧ q'.b = acc ++ s
  | [], n + 1, q, acc, t, h, _ => ⟨flushM q, by simp [quoG], by rw [h.flush], by rw [h.flush]; simp⟩
  | [], 0, q, acc, t, h, hn => by simp at hn
  | c :: s, 0, q, acc, t, h, hn => by simp at hn
  | c :: s, n + 1, q, acc, t, h, hn => by
    rw [List.flatMap_cons] at hn ⊢
    rw [List.append_assoc]
    rw [List.length_append] at hn
    by_cases h1 : c = 34 ∨ c = 92
    · have e : qB c = [92, c] := by unfold qB; rw [if_pos h1]
      rw [e] at hn ⊢
      simp only [List.length_cons, List.length_nil] at hn
      simp only [List.cons_append, List.nil_append, quoG]
      rw [if_neg (by decide), if_pos trivial, esc_q h c h1]
      obtain ⟨q', h2, h3, h4⟩ := quoG_q may hm s n (q.put c) (acc ++ [c]) t (h.put c) (by omega)
      exact ⟨q', h2, h3, by rw [h4]; simp⟩
    · by_cases h2 : c.toNat < 32
      · have e : qB c = [92, 117, 48, 48, hexL.getD (c.toNat / 16) 0, hexL.getD (c.toNat % 16) 0] := by unfold qB; rw [if_neg h1, if_pos h2]
        rw [e] at hn ⊢
        simp only [List.length_cons, List.length_nil] at hn
        simp only [List.cons_append, List.nil_append, quoG]
        rw [if_neg (by decide), if_pos trivial, esc_u q c h2]
        obtain ⟨q', h2', h3, h4⟩ := quoG_q may hm s n _ (acc ++ [UInt8.ofNat c.toNat]) t (h.unit (by omega)) (by omega)
        exact ⟨q', h2', h3, by rw [h4]; simp⟩
      · have e : qB c = [c] := by unfold qB; rw [if_neg h1, if_neg h2]
        rw [e] at hn ⊢
        simp only [List.length_cons, List.length_nil] at hn
        simp only [List.cons_append, List.nil_append, quoG]
        rw [if_neg (fun e => h1 (.inl e)), if_neg (fun e => h1 (.inr e)), if_pos (hm c (by omega))]
        obtain ⟨q', h2', h3, h4⟩ := quoG_q may hm s n (q.put c) (acc ++ [c]) t (h.put c) (by omega)
        exact ⟨q', h2', h3, by rw [h4]; simp⟩
theorem quoM_q (s t : List UInt8) : quoM hiB (s.flatMap qB ++ 34 :: t) = some (s, t) := by
  unfold quoM
  obtain ⟨q', h1, h2, h3⟩ := quoG_q hiB (fun c h => by simp [hiB, h]) s ((s.flatMap qB ++ 34 :: t).length + 1) ⟨[], [], true⟩ [] t ⟨rfl, by simp, rfl⟩ (by simp only [List.length_append, List.length_cons]; omega)
  rw [h1]
  simp only [h2, if_true, h3, List.nil_append]
theorem bk34 : bk 34 = false := by decide
theorem skB_no {c : UInt8} {t : List UInt8} (h : bk c = false) : skB (c :: t) = c :: t := by rw [skB, h]; rfl
theorem textM_q (s t : List UInt8) : textM (quoteM s ++ t) = .ok (s, t) := by
  unfold textM quoteM
  rw [List.cons_append, skB_no bk34, List.append_assoc, if_pos (by simp [List.isPrefixOf])]
  simp only [List.tail_cons, List.cons_append, List.nil_append]
  rw [quoM_q]
theorem nch_D (c : UInt8) : isD c = true → nch c = true := u8_all (P := fun c => isD c = true → nch c = true) (by decide +kernel) c
theorem nch_E (c : UInt8) : isE c = true → nch c = true := u8_all (P := fun c => isE c = true → nch c = true) (by decide +kernel) c
theorem nst_D (c : UInt8) : isD c = true → nst c = true := u8_all (P := fun c => isD c = true → nst c = true) (by decide +kernel) c
theorem nst_other (c : UInt8) : nst c = true → bk c = false ∧ c ≠ 123 ∧ c ≠ 91 ∧ c ≠ 34 ∧ c ≠ 93 ∧ c ≠ 125 ∧ c.toNat < 128 := u8_all (P := fun c => nst c = true → bk c = false ∧ c ≠ 123 ∧ c ≠ 91 ∧ c ≠ 34 ∧ c ≠ 93 ∧ c ≠ 125 ∧ c.toNat < 128) (by decide +kernel) c
theorem nch_low (c : UInt8) : nch c = true → c.toNat < 128 := u8_all (P := fun c => nch c = true → c.toNat < 128) (by decide +kernel) c
theorem run1_take : ∀ (l : List UInt8) (c : UInt8), c ∈ l.take (run1 l) → isD c = true
  | [], c, h => by simp at h
  | x :: l, c, h => by
    rw [run1] at h
    split at h
    · rename_i hx
      rw [List.take_succ_cons] at h
      rcases List.mem_cons.1 h with e | e
      · rw [e]; exact hx
      · exact run1_take l c e
    · simp at h
theorem take_mono {l : List UInt8} {a b : Nat} (h : a ≤ b) {c : UInt8} (hc : c ∈ l.take a) : c ∈ l.take b :=
  (List.take_prefix_take_left h).subset hc
theorem intN_run (s : List UInt8) : intN s ≤ run1 s := by unfold intN; split <;> (try split) <;> omega
theorem intN_take {l : List UInt8} {c : UInt8} (h : c ∈ l.take (intN l)) : isD c = true := run1_take l c (take_mono (intN_run l) h)
theorem wholeN_take {s : List UInt8} {c : UInt8} (h : c ∈ s.take (wholeN s)) : nch c = true := by
  by_cases h45 : s.head? = some 45
  · cases s with
    | nil => simp at h
    | cons x t =>
      have hx : x = 45 := by simpa using h45
      subst hx
      rw [wholeN_neg] at h
      by_cases h0 : run1 t = 0
      · rw [if_pos h0] at h; simp at h
      · rw [if_neg h0, Nat.add_comm, List.take_succ_cons] at h
        rcases List.mem_cons.1 h with e | e
        · rw [e]; decide
        · exact nch_D c (intN_take e)
  · rw [wholeN_pos h45] at h
    exact nch_D c (intN_take h)
theorem fracN_take {s : List UInt8} {c : UInt8} (h : c ∈ s.take (fracN s)) : nch c = true := by
  unfold fracN at h
  split at h
  · rename_i h46
    cases s with
    | nil => simp at h
    | cons x t =>
      have hx : x = 46 := by simpa using h46.1
      subst hx
      simp only [List.tail_cons] at h
      rw [Nat.add_comm, List.take_succ_cons] at h
      rcases List.mem_cons.1 h with e | e
      · rw [e]; decide
      · exact nch_D c (run1_take _ c e)
  · simp at h
theorem whole_head {s : List UInt8} (h : wholeN s ≠ 0) : ∃ c t, s = c :: t ∧ nst c = true := by
  cases s with
  | nil => exact absurd (by decide) h
  | cons c t =>
    refine ⟨c, t, rfl, ?_⟩
    by_cases hc : c = 45
    · rw [hc]; decide
    · rw [wholeN_pos (by simpa using hc)] at h
      apply nst_D
      cases hd : isD c with
      | true => rfl
      | false => exact absurd (by simp [intN, run1, hd]) h
theorem sgN_take {r : List UInt8} {c : UInt8} (h : c ∈ r.take (sgN r)) : nch c = true := by
  unfold sgN at h
  split at h
  · rename_i hs
    cases r with
    | nil => simp at h
    | cons x t =>
      simp only [List.head?_cons, Option.some.injEq] at hs
      simp at h
      subst h
      rcases hs with rfl | rfl <;> decide
  · simp at h
theorem powN_take : ∀ (s : List UInt8) (c : UInt8), c ∈ s.take (powN s) → nch c = true
  | [], c, h => by simp at h
  | x :: r, c, h => by
    rw [powN] at h
    split at h
    · rename_i hx
      split at h
      · simp at h
      · rw [Nat.add_assoc, Nat.add_comm, List.take_succ_cons] at h
        rcases List.mem_cons.1 h with e | e
        · rw [e]; exact nch_E x hx
        · rw [List.take_add] at e
          rcases List.mem_append.1 e with e | e
          · exact sgN_take e
          · exact nch_D c (run1_take _ c e)
    · simp at h
theorem num_text {s : List UInt8} (h : numK s ≠ 0) : (∀ c ∈ s, nch c = true) ∧ ∃ c t, s = c :: t ∧ nst c = true := by
  unfold numK at h
  split at h
  · rename_i hl
    unfold numN at h hl
    split at h
    · exact absurd rfl h
    · rename_i hw
      rw [if_neg hw] at hl
      simp only at hl
      refine ⟨fun c hc => ?_, whole_head hw⟩
      have e : s = s.take (wholeN s + fracN (s.drop (wholeN s)) + powN (s.drop (wholeN s + fracN (s.drop (wholeN s))))) := by rw [hl, List.take_length]
      rw [e, List.take_add, List.take_add] at hc
      rcases List.mem_append.1 hc with hc | hc
      · rcases List.mem_append.1 hc with hc | hc
        · exact wholeN_take hc
        · exact fracN_take hc
      · exact powN_take _ _ hc
  · exact absurd rfl h
def NoN (r : List UInt8) : Prop := ∀ c, r.head? = some c → nch c = false
theorem takeN : ∀ (s r : List UInt8), (∀ c ∈ s, nch c = true) → NoN r → (s ++ r).takeWhile nch = s ∧ (s ++ r).dropWhile nch = r
  | [], [], _, _ => ⟨rfl, rfl⟩
  | [], c :: r, _, h => by
    have := h c rfl
    simp [this]
  | c :: s, r, h, hr => by
    have h1 := takeN s r (fun x hx => h x (.tail _ hx)) hr
    have h2 := h c (.head _)
    simp [h2, h1]
theorem numM_q {s r : List UInt8} (h : numK s ≠ 0) (hr : NoN r) : numM (s ++ r) = .ok (numV s, r) := by
  have h1 := takeN s r (num_text h).1 hr
  unfold numM
  rw [h1.1, h1.2, if_neg h]
theorem dec_isD {u : Nat} {c : UInt8} (h : c ∈ decDigits u) : isD c = true := by
  have := decDigits_mem u c h
  simp [isD, this]
theorem run1_all : ∀ l : List UInt8, (∀ c ∈ l, isD c = true) → run1 l = l.length
  | [], _ => rfl
  | c :: l, h => by
    rw [run1, if_pos (h c (.head _)), run1_all l fun x hx => h x (.tail _ hx)]; rfl
theorem dec_head (u : Nat) : ∃ c t, decDigits u = c :: t ∧ (c = 48 → t = []) := by
  induction u using Nat.strongRecOn with
  | _ u ih =>
    rw [decDigits]
    split
    · exact ⟨_, [], rfl, fun _ => rfl⟩
    · rename_i h
      obtain ⟨c, t, h1, h2⟩ := ih (u / 10) (by omega)
      refine ⟨c, t ++ [UInt8.ofNat (48 + u % 10)], by rw [h1]; rfl, fun e => ?_⟩
      have ht := h2 e
      subst e; subst ht
      rw [decDigits] at h1
      split at h1
      · rename_i h3
        have h4 := congrArg UInt8.toNat (List.cons.inj h1).1
        rw [u8_48 h3] at h4
        have : (48 : UInt8).toNat = 48 := rfl
        omega
      · have := congrArg List.length h1
        have h5 := decDigits_ne (u / 10 / 10)
        cases hd : decDigits (u / 10 / 10) with
        | nil => exact absurd hd h5
        | cons a b => rw [hd] at this; simp at this
theorem dec_intN (u : Nat) : intN (decDigits u) = (decDigits u).length ∧ run1 (decDigits u) ≠ 0 := by
  have h1 := run1_all (decDigits u) fun c hc => dec_isD hc
  obtain ⟨c, t, h2, h3⟩ := dec_head u
  have h4 : run1 (decDigits u) ≠ 0 := by rw [h1, h2]; simp
  refine ⟨?_, h4⟩
  unfold intN
  rw [if_neg h4]
  split
  · rename_i h5
    rw [h2] at h5 ⊢
    rw [h3 (by simpa using h5)]; rfl
  · exact h1
theorem itoa_numK (n : Int) : numK (itoa n) = 3 := by
  have key : ∀ s : List UInt8, wholeN s = s.length → s ≠ [] → numK s = 3 := fun s h h0 => by
    have hl : s.length ≠ 0 := fun e => h0 (List.length_eq_zero_iff.1 e)
    have e1 : fracN ([] : List UInt8) = 0 := by decide
    have hn : numN s = (s.length, 3) := by
      unfold numN
      rw [if_neg (by omega)]
      simp [h, e1, powN]
    unfold numK; rw [hn]; simp
  unfold itoa
  split
  · refine key _ ?_ (by simp)
    rw [wholeN_neg, if_neg (dec_intN _).2, (dec_intN _).1]; simp; omega
  · refine key _ ?_ (decDigits_ne _)
    obtain ⟨c, t, h2, h3⟩ := dec_head n.toNat
    have h5 : ¬ (decDigits n.toNat).head? = some 45 := by
      rw [h2]; simp
      intro e; subst e
      have := decDigits_mem n.toNat 45 (by rw [h2]; simp)
      have e : (45 : UInt8).toNat = 45 := rfl
      omega
    rw [wholeN_pos h5, (dec_intN _).1]
theorem bareM_iff' {n : Int} {s : List UInt8} {l : List Val} {m : List Mem} : bareM n s l m = true ↔ n = 0 ∧ s = [] ∧ l = [] ∧ m = [] := by
  simp [bareM]
inductive JS : Val → Prop
  | null : JS (.mk 0 0 [] [] [])
  | bool (n : Int) (h : n = 0 ∨ n = 1) : JS (.mk 1 n [] [] [])
  | int (n : Int) : JS (.mk 2 n [] [] [])
  | num (s : List UInt8) (h : numB s = true) : JS (.mk 3 0 s [] [])
  | text (s : List UInt8) (h : validD s = true) : JS (.mk 4 0 s [] [])
  | list (l : List Val) (h : allVs validD l = true) (h' : singVs l = true) : JS (.mk 6 0 [] l [])
  | obj (m : List Mem) (h : allMs validD m = true) (h' : singMs [] m = true) : JS (.mk 7 0 [] [] m)
theorem jshape : ∀ v, rightV v = true → JS v
  | .mk k n s l m, h => by
    simp only [rightV, goodV, allV, singV, Bool.and_eq_true, Bool.not_eq_true', Bool.or_eq_false_iff, decide_eq_false_iff_not] at h
    obtain ⟨h, ⟨h5, h8⟩, hl, hm⟩ := h
    split at h
    · rename_i k6
      subst k6
      simp only [Bool.and_eq_true, bareM_iff'] at h
      obtain ⟨h1, rfl, rfl, _, rfl⟩ := h
      exact .list l h1 hl
    · split at h
      · rename_i k7
        subst k7
        simp only [Bool.and_eq_true, bareM_iff'] at h
        obtain ⟨h1, rfl, rfl, rfl, _⟩ := h
        exact .obj m h1 hm
      · simp only [singleM, Bool.and_eq_true, bareM_iff'] at h
        obtain ⟨⟨_, _, rfl, rfl⟩, h⟩ := h
        split at h
        · rename_i k0
          subst k0
          simp only [Bool.and_eq_true, decide_eq_true_eq] at h
          obtain ⟨rfl, rfl⟩ := h
          exact .null
        split at h
        · rename_i k0
          subst k0
          simp only [Bool.and_eq_true, Bool.or_eq_true, decide_eq_true_eq] at h
          obtain ⟨h, rfl⟩ := h
          exact .bool n h
        split at h
        · rename_i k0
          subst k0
          simp only [decide_eq_true_eq] at h
          subst h
          exact .int n
        split at h
        · rename_i k0
          subst k0
          simp only [Bool.and_eq_true, decide_eq_true_eq] at h
          obtain ⟨rfl, h⟩ := h
          exact .num s h
        split at h
        · rename_i k0
          subst k0
          simp only [Bool.and_eq_true, decide_eq_true_eq] at h
          obtain ⟨rfl, h⟩ := h
          exact .text s h
        · cases h
theorem numB_ne {s : List UInt8} (h : numB s = true) : numK s ≠ 0 ∧ wholeB s = false := by
  simp only [numB, Bool.or_eq_true, decide_eq_true_eq, Bool.and_eq_true, Bool.not_eq_true'] at h
  rcases h with h | ⟨h, h2⟩
  · exact ⟨by omega, by simp [wholeB, h]⟩
  · exact ⟨by omega, h2⟩
theorem itoa_whole {n : Int} (h : inR n) : wholeB (itoa n) = true ∧ valI (itoa n) = n := by
  have h1 := parse_itoa n h.1 h.2
  exact ⟨by simp [wholeB, h1, okI, itoa_numK], by simp [valI, h1]⟩
theorem valM_hd {k : Nat} {c : UInt8} {t : List UInt8} (h0 : bk c = false) (h1 : c ≠ 123) (h2 : c ≠ 91) : ∃ p, valM k (c :: t) = headM (c :: t) p := by
  cases k with
  | zero => exact ⟨deepM, by simp only [valM, skB_no h0]; rw [if_neg (by simp [h1, h2])]⟩
  | succ n => exact ⟨valM n, by simp only [valM, skB_no h0]⟩
theorem put_head {v : Val} (h : rightV v = true) : ∃ c t, putV v = c :: t ∧ bk c = false ∧ c ≠ 93 ∧ c ≠ 125 ∧ c ≠ 44 := by
  cases jshape v h with
  | null => exact ⟨110, [117, 108, 108], by simp [putV], by decide, by decide, by decide, by decide⟩
  | bool n h1 =>
    rcases h1 with rfl | rfl
    · exact ⟨102, [97, 108, 115, 101], by simp [putV, boolT], by decide, by decide, by decide, by decide⟩
    · exact ⟨116, [114, 117, 101], by simp [putV, boolT], by decide, by decide, by decide, by decide⟩
  | int n =>
    obtain ⟨c, t, h1, h2⟩ := (num_text (s := itoa n) (by rw [itoa_numK]; decide)).2
    have h3 := nst_other c h2
    refine ⟨c, t, by simpa [putV] using h1, h3.1, h3.2.2.2.2.1, h3.2.2.2.2.2.1, fun e => ?_⟩
    subst e; revert h2; decide
  | num s hb =>
    obtain ⟨c, t, h1, h2⟩ := (num_text (numB_ne hb).1).2
    have h3 := nst_other c h2
    refine ⟨c, t, by simpa [putV] using h1, h3.1, h3.2.2.2.2.1, h3.2.2.2.2.2.1, fun e => ?_⟩
    subst e; revert h2; decide
  | text s hb => exact ⟨34, s.flatMap qB ++ [34], by simp [putV, quoteM], by decide, by decide, by decide, by decide⟩
  | list l h1 h2 => exact ⟨91, putVs true l ++ [93], by simp [putV], by decide, by decide, by decide, by decide⟩
  | obj m h1 h2 => exact ⟨123, putMs true m ++ [125], by simp [putV], by decide, by decide, by decide, by decide⟩
theorem mayM_no {x c : UInt8} {t : List UInt8} (h : bk c = false) (hx : x ≠ c) : mayM [x] (c :: t) = none := by
  unfold mayM; rw [skB_no h, if_neg (by simp [List.isPrefixOf, hx])]
theorem mayM_yes {c : UInt8} {t : List UInt8} (h : bk c = false) : mayM [c] (c :: t) = some t := by
  unfold mayM; rw [skB_no h, if_pos (by simp [List.isPrefixOf])]; rfl
theorem mustM_yes {c : UInt8} {t : List UInt8} (h : bk c = false) : mustM [c] (c :: t) = .ok ((), t) := by
  unfold mustM; rw [mayM_yes h]
theorem depthVs_iff (n : Int) : ∀ (l : List Val) (a : Int), (depthVs l a ≤ n ↔ a ≤ n ∧ ∀ v ∈ l, depthV v ≤ n)
  | [], a => by simp [depthVs]
  | v :: l, a => by
    rw [depthVs, depthVs_iff n l]
    have : mm2 true a (depthV v) ≤ n ↔ a ≤ n ∧ depthV v ≤ n := by simp only [mm2, if_true]; split <;> omega
    rw [this]; simp [and_assoc]
theorem depthMs_iff (n : Int) : ∀ (l : List Mem) (a : Int), (depthMs l a ≤ n ↔ a ≤ n ∧ ∀ v ∈ l, depthM v ≤ n)
  | [], a => by simp [depthMs]
  | v :: l, a => by
    rw [depthMs, depthMs_iff n l]
    have : mm2 true a (depthM v) ≤ n ↔ a ≤ n ∧ depthM v ≤ n := by simp only [mm2, if_true]; split <;> omega
    rw [this]; simp [and_assoc]
theorem NoN_cons {c : UInt8} {t : List UInt8} (h : nch c = false) : NoN (c :: t) := fun x hx => by
  cases hx; exact h
theorem hasN_iff (s : List UInt8) : ∀ l : List Mem, hasN s l = (l.map nmM).contains s
  | [] => rfl
  | .mk t v :: l => by
    rw [hasN, hasN_iff s l]
    by_cases h : t = s
    · simp [h, nmM]
    · simp [h, nmM, Ne.symm h]
def BackV (n : Nat) (v : Val) : Prop := ∀ r, NoN r → valM n (putV v ++ r) = if depthV v ≤ n then .ok (v, r) else .error 4
theorem items_back (n : Nat) : ∀ (l acc : List Val) (fuel : Nat) (r : List UInt8), (∀ v ∈ l, BackV n v) → (putVs false l).length < fuel →
    itemsM (valM n) fuel acc (putVs false l ++ 93 :: r) = if (∀ v ∈ l, depthV v ≤ n) then .ok (acc ++ l, r) else .error 4
  | _, _, 0, _, _, h => by omega
  | [], acc, fuel + 1, r, _, _ => by
    simp only [putVs, List.nil_append, itemsM, mayM_yes (show bk 93 = false by decide)]
    simp
  | v :: l, acc, fuel + 1, r, hv, hf => by
    have hf' : (putVs false l).length < fuel := by
      simp only [putVs, Bool.false_eq_true, if_false, List.length_append, List.length_cons, List.length_nil] at hf; omega
    have e : putVs false (v :: l) ++ 93 :: r = 44 :: (putV v ++ (putVs false l ++ 93 :: r)) := by simp [putVs]
    have hN : NoN (putVs false l ++ 93 :: r) := by
      cases l with
      | nil => exact NoN_cons (by decide)
      | cons w l => exact NoN_cons (by decide)
    rw [e, itemsM, mayM_no (show bk 44 = false by decide) (by decide)]
    simp only [mustM_yes (show bk 44 = false by decide), RR.bind, hv v (.head _) _ hN]
    by_cases hd : depthV v ≤ n
    · rw [if_pos hd]
      simp only
      rw [items_back n l (acc ++ [v]) fuel r (fun x hx => hv x (.tail _ hx)) hf']
      simp [hd]
    · rw [if_neg hd]
      rw [if_neg (fun h => hd (h v (.head _)))]
theorem list_back (n : Nat) (l : List Val) (r : List UInt8) (hv : ∀ v ∈ l, BackV n v) (hh : ∀ v ∈ l, rightV v = true) :
    listM (valM n) (putVs true l ++ 93 :: r) = if (∀ v ∈ l, depthV v ≤ n) then .ok (.mk 6 0 [] l [], r) else .error 4 := by
  cases l with
  | nil => simp only [putVs, List.nil_append, listM, mayM_yes (show bk 93 = false by decide)]; simp
  | cons v l =>
    have e : putVs true (v :: l) ++ 93 :: r = putV v ++ (putVs false l ++ 93 :: r) := by simp [putVs]
    have hN : NoN (putVs false l ++ 93 :: r) := by
      cases l with
      | nil => exact NoN_cons (by decide)
      | cons w l => exact NoN_cons (by decide)
    obtain ⟨c, t, h1, h2, h3, h4⟩ := put_head (hh v (.head _))
    have hm : mayM [93] (putV v ++ (putVs false l ++ 93 :: r)) = none := by rw [h1]; exact mayM_no h2 (Ne.symm h3)
    rw [e, listM, hm]
    simp only [RR.bind, hv v (.head _) _ hN]
    by_cases hd : depthV v ≤ n
    · rw [if_pos hd]
      simp only
      rw [items_back n l [v] _ r (fun x hx => hv x (.tail _ hx)) (by simp only [List.length_append, List.length_cons]; omega)]
      by_cases ha : ∀ v ∈ l, depthV v ≤ n
      · rw [if_pos ha, if_pos (fun x hx => by rcases List.mem_cons.1 hx with e | e; exact e ▸ hd; exact ha x e)]
        rfl
      · rw [if_neg ha, if_neg (fun h => ha fun x hx => h x (.tail _ hx))]
    · rw [if_neg hd]
      rw [if_neg (fun h => hd (h v (.head _)))]
theorem member_back {n : Nat} {s : List UInt8} {v : Val} {acc : List Mem} {r : List UInt8} (hv : BackV n v) (hr : NoN r) (hs : (acc.map nmM).contains s = false) :
    memberM (valM n) acc (putM (.mk s v) ++ r) = if depthV v ≤ n then .ok (acc ++ [.mk s v], r) else .error 4 := by
  have e : putM (.mk s v) ++ r = quoteM s ++ (58 :: (putV v ++ r)) := by simp [putM]
  rw [e, memberM, textM_q]
  simp only [RR.bind]
  rw [hasN_iff, hs]
  simp only [Bool.false_eq_true, if_false, mustM_yes (show bk 58 = false by decide), hv r hr]
  by_cases hd : depthV v ≤ n
  · rw [if_pos hd, if_pos hd]
  · rw [if_neg hd, if_neg hd]
theorem members_back (n : Nat) : ∀ (l acc : List Mem) (fuel : Nat) (r : List UInt8), (∀ s v, Mem.mk s v ∈ l → BackV n v) → singMs (acc.map nmM) l = true → (putMs false l).length < fuel →
    membersM (valM n) fuel acc (putMs false l ++ 125 :: r) = if (∀ x ∈ l, depthM x ≤ n) then .ok (acc ++ l, r) else .error 4
  | _, _, 0, _, _, _, h => by omega
  | [], acc, fuel + 1, r, _, _, _ => by
    simp only [putMs, List.nil_append, membersM, mayM_yes (show bk 125 = false by decide)]
    simp
  | .mk s v :: l, acc, fuel + 1, r, hv, hs, hf => by
    have hf' : (putMs false l).length < fuel := by
      simp only [putMs, Bool.false_eq_true, if_false, List.length_append, List.length_cons, List.length_nil] at hf; omega
    have e : putMs false (.mk s v :: l) ++ 125 :: r = 44 :: (putM (.mk s v) ++ (putMs false l ++ 125 :: r)) := by simp [putMs]
    have hN : NoN (putMs false l ++ 125 :: r) := by
      cases l with
      | nil => exact NoN_cons (by decide)
      | cons w l => exact NoN_cons (by decide)
    simp only [singMs, nmM, Bool.and_eq_true, Bool.not_eq_true'] at hs
    obtain ⟨hs1, _, hs2⟩ := hs
    rw [e, membersM, mayM_no (show bk 44 = false by decide) (by decide)]
    simp only [mustM_yes (show bk 44 = false by decide), RR.bind, member_back (hv s v (.head _)) hN hs1]
    by_cases hd : depthV v ≤ n
    · rw [if_pos hd]
      simp only
      rw [members_back n l (acc ++ [Mem.mk s v]) fuel r (fun s v hx => hv s v (.tail _ hx)) (by simpa [nmM] using hs2) hf']
      simp [hd, depthM]
    · rw [if_neg hd]
      rw [if_neg (fun h => hd (by have := h _ (.head _); simpa [depthM] using this))]
theorem map_back (n : Nat) (l : List Mem) (r : List UInt8) (hv : ∀ s v, Mem.mk s v ∈ l → BackV n v) (hs : singMs [] l = true) :
    mapM (valM n) (putMs true l ++ 125 :: r) = if (∀ x ∈ l, depthM x ≤ n) then .ok (.mk 7 0 [] [] l, r) else .error 4 := by
  cases l with
  | nil => simp only [putMs, List.nil_append, mapM, mayM_yes (show bk 125 = false by decide)]; simp
  | cons x l =>
    obtain ⟨s, v⟩ := x
    have e : putMs true (.mk s v :: l) ++ 125 :: r = putM (.mk s v) ++ (putMs false l ++ 125 :: r) := by simp [putMs]
    have hN : NoN (putMs false l ++ 125 :: r) := by
      cases l with
      | nil => exact NoN_cons (by decide)
      | cons w l => exact NoN_cons (by decide)
    simp only [singMs, nmM, Bool.and_eq_true, Bool.not_eq_true', List.nil_append] at hs
    obtain ⟨hs1, _, hs2⟩ := hs
    have hm : mayM [125] (putM (.mk s v) ++ (putMs false l ++ 125 :: r)) = none := mayM_no (c := 34) (by decide) (by decide)
    rw [e, mapM, hm]
    simp only [RR.bind, member_back (acc := []) (hv s v (.head _)) hN rfl]
    by_cases hd : depthV v ≤ n
    · rw [if_pos hd]
      simp only
      rw [members_back n l ([] ++ [Mem.mk s v]) _ r (fun s v hx => hv s v (.tail _ hx)) (by simpa [nmM] using hs2) (by simp only [List.length_append, List.length_cons]; omega)]
      by_cases ha : ∀ v ∈ l, depthM v ≤ n
      · rw [if_pos ha, if_pos (fun x hx => by rcases List.mem_cons.1 hx with e | e; rw [e]; exact hd; exact ha x e)]
        rfl
      · rw [if_neg ha, if_neg (fun h => ha fun x hx => h x (.tail _ hx))]
    · rw [if_neg hd]
      rw [if_neg (fun h => hd (by have := h _ (.head _); simpa [depthM] using this))]
theorem right_items : ∀ {l : List Val}, allVs validD l = true → singVs l = true → ∀ v ∈ l, rightV v = true
  | v :: l, h, h', x, hx => by
    simp only [allVs, singVs, Bool.and_eq_true] at h h'
    rcases List.mem_cons.1 hx with e | e
    · subst e; simp [rightV, goodV, h.1, h'.1]
    · exact right_items h.2 h'.2 x e
theorem right_mems : ∀ {l : List Mem} {ns : List (List UInt8)}, allMs validD l = true → singMs ns l = true → ∀ s v, Mem.mk s v ∈ l → validD s = true ∧ rightV v = true
  | .mk t w :: l, ns, h, h', s, v, hx => by
    simp only [allMs, allM, singMs, singM, nmM, Bool.and_eq_true] at h h'
    rcases List.mem_cons.1 hx with e | e
    · cases e; exact ⟨h.1.1, by simp [rightV, goodV, h.1.2, h'.2.1]⟩
    · exact right_mems h.2 h'.2.2 s v e
theorem word_null (r : List UInt8) (p) : headM (110 :: 117 :: 108 :: 108 :: r) p = .ok (nullV, r) := by
  simp only [headM]
  rw [if_neg (by decide), if_neg (by decide), if_neg (by decide), if_neg (by decide)]
  simp only [wordM, mayM, skB_no (show bk 110 = false by decide)]
  rw [if_pos (by simp [List.isPrefixOf])]; rfl
theorem word_bool (b : Bool) (r : List UInt8) (p) : headM (boolT b ++ r) p = .ok (.mk 1 (if b then 1 else 0) [] [] [], r) := by
  cases b
  · simp only [boolT, Bool.false_eq_true, if_false, List.cons_append, List.nil_append, headM]
    rw [if_neg (by decide), if_neg (by decide), if_neg (by decide), if_neg (by decide)]
    simp only [wordM, mustM, mayM, skB_no (show bk 102 = false by decide)]
    rw [if_neg (by simp [List.isPrefixOf]), if_neg (by simp [List.isPrefixOf]), if_pos (by simp [List.isPrefixOf])]; rfl
  · simp only [boolT, if_true, List.cons_append, List.nil_append, headM]
    rw [if_neg (by decide), if_neg (by decide), if_neg (by decide), if_neg (by decide)]
    simp only [wordM, mustM, mayM, skB_no (show bk 116 = false by decide)]
    rw [if_neg (by simp [List.isPrefixOf]), if_pos (by simp [List.isPrefixOf])]; rfl
theorem headM_num {c : UInt8} {t : List UInt8} (h : nst c = true) (p) : headM (c :: t) p = numM (c :: t) := by
  have h3 := nst_other c h
  simp only [headM]
  rw [if_neg h3.2.1, if_neg h3.2.2.1, if_neg h3.2.2.2.1, if_pos h]
theorem back : ∀ v, rightV v = true → wfV v → ∀ n, BackV n v := by
  refine Val.ind fun k n s l m ihl ihm h hwf q r hr => ?_
  obtain ⟨hn, hwl, hwm⟩ := hwf
  have flat : ∀ {v : Val}, depthV v = 0 → depthV v ≤ (q : Int) := fun e => by rw [e]; omega
  generalize hv : Val.mk k n s l m = v at h
  cases jshape v h with
  | null =>
    rw [if_pos (flat (by simp [depthV]))]
    have e : putV (.mk 0 0 [] [] []) ++ r = 110 :: 117 :: 108 :: 108 :: r := by simp [putV]
    rw [e]
    obtain ⟨p, hp⟩ := valM_hd (k := q) (c := 110) (t := 117 :: 108 :: 108 :: r) (by decide) (by decide) (by decide)
    rw [hp, word_null]; rfl
  | bool b hb =>
    rw [if_pos (flat (by simp [depthV]))]
    have e : putV (.mk 1 b [] [] []) ++ r = boolT (decide (b = 1)) ++ r := by simp [putV]
    rw [e]
    have h1 := word_bool (decide (b = 1)) r
    have e1 : (if decide (b = 1) = true then (1 : Int) else 0) = b := by rcases hb with rfl | rfl <;> decide
    rw [e1] at h1
    rcases hb with rfl | rfl
    · obtain ⟨p, hp⟩ := valM_hd (k := q) (c := 102) (t := 97 :: 108 :: 115 :: 101 :: r) (by decide) (by decide) (by decide)
      exact hp.trans (h1 p)
    · obtain ⟨p, hp⟩ := valM_hd (k := q) (c := 116) (t := 114 :: 117 :: 101 :: r) (by decide) (by decide) (by decide)
      exact hp.trans (h1 p)
  | int b =>
    rw [if_pos (flat (by simp [depthV]))]
    have e : putV (.mk 2 b [] [] []) ++ r = itoa b ++ r := by simp [putV]
    rw [e]
    have hb : inR b := by cases hv; exact hn
    have h0 : numK (itoa b) ≠ 0 := by rw [itoa_numK]; decide
    have h1 := numM_q h0 hr
    obtain ⟨c, t, h2, h3⟩ := (num_text h0).2
    have h4 := nst_other c h3
    rw [h2] at h1 ⊢
    obtain ⟨p, hp⟩ := valM_hd (k := q) (c := c) (t := t ++ r) h4.1 h4.2.1 h4.2.2.1
    rw [List.cons_append] at h1 ⊢
    rw [hp, headM_num h3, h1, ← h2]
    simp [numV, itoa_whole hb]
  | num s hs =>
    rw [if_pos (flat (by simp [depthV]))]
    have e : putV (.mk 3 0 s [] []) ++ r = s ++ r := by simp [putV]
    rw [e]
    have h0 := numB_ne hs
    have h1 := numM_q h0.1 hr
    obtain ⟨c, t, h2, h3⟩ := (num_text h0.1).2
    have h4 := nst_other c h3
    have e2 : numV s = .mk 3 0 s [] [] := by simp [numV, h0.2]
    rw [e2] at h1
    subst h2
    obtain ⟨p, hp⟩ := valM_hd (k := q) (c := c) (t := t ++ r) h4.1 h4.2.1 h4.2.2.1
    rw [List.cons_append] at h1 ⊢
    rw [hp, headM_num h3, h1]
  | text s hs =>
    rw [if_pos (flat (by simp [depthV]))]
    have e : putV (.mk 4 0 s [] []) ++ r = quoteM s ++ r := by simp [putV]
    rw [e]
    have h1 := textM_q s r
    have e2 : quoteM s ++ r = 34 :: (s.flatMap qB ++ [34] ++ r) := by simp [quoteM]
    rw [e2] at h1 ⊢
    obtain ⟨p, hp⟩ := valM_hd (k := q) (c := 34) (t := s.flatMap qB ++ [34] ++ r) (by decide) (by decide) (by decide)
    rw [hp]
    simp only [headM]
    rw [if_neg (by decide), if_neg (by decide), if_pos trivial, h1]; rfl
  | list l' h1 h2 =>
    cases hv
    have e : putV (.mk 6 0 [] l []) ++ r = 91 :: (putVs true l ++ 93 :: r) := by simp [putV]
    have ed : depthV (.mk 6 0 [] l []) = depthVs l 0 + 1 := by simp [depthV]
    rw [e, ed]
    have h3 := right_items h1 h2
    have h4 := (depthVs_iff 0 l 0)
    cases q with
    | zero =>
      have h5 : (0 : Int) ≤ depthVs l 0 := (depthVs_le l 0).1
      rw [if_neg (by simp; omega)]
      simp only [valM, skB_no (show bk 91 = false by decide)]
      rw [if_pos (by simp)]
    | succ q =>
      simp only [valM, skB_no (show bk 91 = false by decide), headM]
      rw [if_neg (by decide), if_pos trivial, list_back q l r (fun v hx => ihl v hx (h3 v hx) (wfVs_mem hwl v hx) q) h3]
      have h5 := depthVs_iff (q : Int) l 0
      by_cases ha : ∀ v ∈ l, depthV v ≤ (q : Int)
      · rw [if_pos ha, if_pos (by have := h5.2 ⟨by omega, ha⟩; simp; omega)]
      · rw [if_neg ha, if_neg (fun h6 => ha (h5.1 (by simp at h6; omega)).2)]
  | obj l' h1 h2 =>
    cases hv
    have e : putV (.mk 7 0 [] [] m) ++ r = 123 :: (putMs true m ++ 125 :: r) := by simp [putV]
    have ed : depthV (.mk 7 0 [] [] m) = depthMs m 0 + 1 := by simp [depthV]
    rw [e, ed]
    have h3 := right_mems h1 h2
    cases q with
    | zero =>
      have h5 : (0 : Int) ≤ depthMs m 0 := (depthMs_le m 0).1
      rw [if_neg (by simp; omega)]
      simp only [valM, skB_no (show bk 123 = false by decide)]
      rw [if_pos (by simp)]
    | succ q =>
      simp only [valM, skB_no (show bk 123 = false by decide), headM]
      rw [if_pos trivial, map_back q m r (fun s v hx => ihm s v hx (h3 s v hx).2 (wfMs_mem hwm s v hx) q) h2]
      have h5 := depthMs_iff (q : Int) m 0
      by_cases ha : ∀ v ∈ m, depthM v ≤ (q : Int)
      · rw [if_pos ha, if_pos (by have := h5.2 ⟨by omega, ha⟩; simp; omega)]
      · rw [if_neg ha, if_neg (fun h6 => ha (h5.1 (by simp at h6; omega)).2)]
end Go.Proofs.YtpjafglhdlfnbaaGreatDoor
namespace Go.Proofs.YtpjafglhdlfnbaaGreatDoor
open Go.Ab Go.Lib
end Go.Proofs.YtpjafglhdlfnbaaGreatDoor
namespace Go.Proofs.YtpjafglhdlfnbaaGreatDoor
open Go.Ab Go.Lib
theorem bk_low (c : UInt8) : bk c = true → c.toNat < 128 := u8_all (P := fun c => bk c = true → c.toNat < 128) (by decide +kernel) c
theorem hexD_low (c : UInt8) : hexD c ≠ none → c.toNat < 128 := u8_all (P := fun c => hexD c ≠ none → c.toNat < 128) (by decide +kernel) c
theorem esc_low (c : UInt8) : ¬ Lib.indexByte escL c < 0 → c.toNat < 128 ∧ (escV.getD (Lib.indexByte escL c).toNat 0).toNat < 128 :=
  u8_all (P := fun c => ¬ Lib.indexByte escL c < 0 → c.toNat < 128 ∧ (escV.getD (Lib.indexByte escL c).toNat 0).toNat < 128) (by decide +kernel) c
theorem skB_valid : ∀ t, validD t = true → validD (skB t) = true
  | [], h => h
  | c :: t, h => by
    rw [skB]; split
    · rename_i hb
      rw [validD_cons c t (bk_low c hb)] at h
      exact skB_valid t h
    · exact h
theorem mayM_valid {p t t' : List UInt8} (hp : validD p = true) (h : mayM p t = some t') (hv : validD t = true) : validD t' = true := by
  unfold mayM at h
  split at h
  · rename_i h1
    cases h
    obtain ⟨r, hr⟩ := List.isPrefixOf_iff_prefix.1 h1
    have h2 := skB_valid t hv
    rw [← hr, validA hp] at h2
    rw [← hr, List.drop_left]; exact h2
  · cases h
theorem mustM_valid {p t t' : List UInt8} {u : Unit} (hp : validD p = true) (h : mustM p t = .ok (u, t')) (hv : validD t = true) : validD t' = true := by
  unfold mustM at h
  split at h
  · rename_i hm; cases h; exact mayM_valid hp hm hv
  · cases h
theorem unitG_low : ∀ (n : Nat) (t : List UInt8) (u v : Nat), unitG n t u = some v → ∀ b ∈ t.take n, b.toNat < 128
  | 0, _, _, _, _, b, hb => by simp at hb
  | n + 1, [], _, _, h, _, _ => by cases h
  | n + 1, c :: t, u, v, h, b, hb => by
    simp only [unitG] at h
    split at h
    · cases h
    · rename_i k hk
      rw [List.take_succ_cons] at hb
      rcases List.mem_cons.1 hb with e | e
      · rw [e]; exact hexD_low c (by rw [hk]; simp)
      · exact unitG_low n t _ v h b e
structure SInv' (q : Sd) (t : List UInt8) : Prop where
  none : q.u = [] → validD (q.b ++ t) = true
  some : q.u ≠ [] → validD q.b = true ∧ validD t = true
theorem flush_b {q : Sd} (h : validD q.b = true) : validD (flushM q).b = true := by
  unfold flushM
  cases hj : joinM q.u with
  | none => simpa using h
  | some s => exact validA2 h (join_valid _ _ hj)
theorem flush_nil {q : Sd} (h : q.u = []) : (flushM q).b = q.b := by unfold flushM; rw [h]; simp [joinM]
theorem SInv'.low {q : Sd} {c : UInt8} {t : List UInt8} (h : SInv' q (c :: t)) (hc : c.toNat < 128) : validD q.b = true ∧ validD t = true := by
  by_cases hu : q.u = []
  · exact validS hc (h.none hu)
  · obtain ⟨h1, h2⟩ := h.some hu
    rw [validD_cons c t hc] at h2
    exact ⟨h1, h2⟩
theorem SInv'.put {q : Sd} {c : UInt8} {t : List UInt8} (h : SInv' q (c :: t)) : SInv' (q.put c) t := by
  refine ⟨fun _ => ?_, fun e => absurd rfl e⟩
  show validD (((flushM q).b ++ [c]) ++ t) = true
  rw [List.append_assoc]
  by_cases hu : q.u = []
  · rw [flush_nil hu]; exact h.none hu
  · obtain ⟨h1, h2⟩ := h.some hu
    exact validA2 (flush_b h1) h2
theorem esc_valid {q q' : Sd} {t t' : List UInt8} (h : escM q t = some (q', t')) (hb : validD q.b = true) (ht : validD t = true) : SInv' q' t' := by
  cases t with
  | nil => cases h
  | cons c t =>
    simp only [escM] at h
    split at h
    · rename_i hc
      cases hu : unitM t with
      | none => simp [hu] at h
      | some u =>
        simp only [hu, Option.map_some, Option.some.injEq, Prod.mk.injEq] at h
        obtain ⟨rfl, rfl⟩ := h
        rw [validD_cons c t (by rw [hc]; decide)] at ht
        have := validD_ascii 4 t (unitG_low 4 t 0 u hu)
        exact ⟨fun e => by simp at e, fun _ => ⟨hb, by rw [← this]; exact ht⟩⟩
    · split at h
      · cases h
      · rename_i hk
        simp only [Option.some.injEq, Prod.mk.injEq] at h
        obtain ⟨rfl, rfl⟩ := h
        have h1 := esc_low c hk
        rw [validD_cons c t h1.1] at ht
        refine ⟨fun _ => ?_, fun e => absurd rfl e⟩
        show validD (((flushM q).b ++ [_]) ++ t) = true
        rw [List.append_assoc]
        refine validA2 (flush_b hb) ?_
        rw [List.singleton_append, validD_cons _ _ h1.2]; exact ht
theorem quoG_valid {may : UInt8 → Bool} : ∀ (n : Nat) (t : List UInt8) (q q' : Sd) (t' : List UInt8), quoG may n t q = some (q', t') → SInv' q t → validD q'.b = true ∧ validD t' = true
  | 0, _, _, _, _, h, _ => by cases h
  | _ + 1, [], _, _, _, h, _ => by cases h
  | n + 1, c :: t, q, q', t', h, hi => by
    simp only [quoG] at h
    split at h
    · rename_i hc
      simp only [Option.some.injEq, Prod.mk.injEq] at h
      obtain ⟨rfl, rfl⟩ := h
      obtain ⟨h1, h2⟩ := hi.low (by rw [hc]; decide)
      exact ⟨flush_b h1, h2⟩
    · split at h
      · rename_i hc
        cases he : escM q t with
        | none => simp [he] at h
        | some x =>
          obtain ⟨q1, t1⟩ := x
          simp only [he] at h
          obtain ⟨h1, h2⟩ := hi.low (by rw [hc]; decide)
          exact quoG_valid n t1 q1 q' t' h (esc_valid he h1 h2)
      · split at h
        · exact quoG_valid n t _ q' t' h hi.put
        · cases h
theorem quoM_valid {may : UInt8 → Bool} {t t' b : List UInt8} (h : quoM may t = some (b, t')) (hv : validD t = true) : validD b = true ∧ validD t' = true := by
  unfold quoM at h
  split at h
  · rename_i q t1 hq
    split at h
    · cases h; exact quoG_valid _ _ _ _ _ hq ⟨fun _ => hv, fun e => absurd rfl e⟩
    · cases h
  · cases h
theorem textM_valid {t t' b : List UInt8} (h : textM t = .ok (b, t')) (hv : validD t = true) : validD b = true ∧ validD t' = true := by
  unfold textM at h
  split at h
  · rename_i hp
    split at h
    · rename_i x hx
      cases h
      have h1 := skB_valid t hv
      obtain ⟨r, hr⟩ := List.isPrefixOf_iff_prefix.1 hp
      rw [← hr] at h1 hx
      rw [List.singleton_append, validD_cons _ _ (by decide)] at h1
      exact quoM_valid hx h1
    · cases h
  · cases h
theorem drop_valid : ∀ t : List UInt8, validD t = true → validD (t.dropWhile nch) = true
  | [], h => h
  | c :: t, h => by
    rw [List.dropWhile_cons]; split
    · rename_i hc
      rw [validD_cons c t (nch_low c hc)] at h
      exact drop_valid t h
    · exact h
theorem numK_kinds (s : List UInt8) : numK s = 0 ∨ numK s = 3 ∨ numK s = 4 := by
  have h : (numN s).2 = 0 ∨ (numN s).2 = 3 ∨ (numN s).2 = 4 := by
    unfold numN
    split
    · exact .inl rfl
    · simp only
      split
      · exact .inr (.inl rfl)
      · exact .inr (.inr rfl)
  unfold numK
  split
  · exact h
  · exact .inl rfl
theorem numV_right {s : List UInt8} (h : numK s ≠ 0) : rightV (numV s) = true ∧ depthV (numV s) = 0 := by
  unfold numV
  split
  · exact ⟨by simp [rightV, goodV, allV, singleM, bareM, singV, singVs, singMs], by simp [depthV]⟩
  · rename_i hw
    have hb : numB s = true := by
      rcases numK_kinds s with e | e | e
      · exact absurd e h
      · simp [numB, e, hw]
      · simp [numB, e]
    exact ⟨by simp [rightV, goodV, allV, singleM, bareM, singV, singVs, singMs, hb], by simp [depthV]⟩
def RpR (p : List UInt8 → RR Val) (n : Int) : Prop := ∀ t v t', validD t = true → p t = .ok (v, t') → rightV v = true ∧ depthV v ≤ n ∧ validD t' = true
def LR (n : Int) (l : List Val) : Prop := ∀ v ∈ l, rightV v = true ∧ depthV v ≤ n
theorem LR.snoc {n : Int} {l : List Val} {v : Val} (h : LR n l) (h1 : rightV v = true) (h2 : depthV v ≤ n) : LR n (l ++ [v]) := fun x hx => by
  rcases List.mem_append.1 hx with e | e
  · exact h x e
  · rw [List.mem_singleton] at e; subst e; exact ⟨h1, h2⟩
theorem LR.all {n : Int} : ∀ {l : List Val}, LR n l → allVs validD l = true ∧ singVs l = true
  | [], _ => ⟨rfl, rfl⟩
  | v :: l, h => by
    have h1 := LR.all (l := l) fun x hx => h x (.tail _ hx)
    have h2 := (h v (.head _)).1
    simp only [rightV, goodV, Bool.and_eq_true] at h2
    simp [allVs, singVs, h1.1, h1.2, h2.1, h2.2]
def MR (n : Int) (l : List Mem) : Prop := allMs validD l = true ∧ singMs [] l = true ∧ ∀ x ∈ l, depthM x ≤ n
theorem allMs_snoc {may : List UInt8 → Bool} : ∀ {l : List Mem} {x : Mem}, allMs may l = true → allM may x = true → allMs may (l ++ [x]) = true
  | [], x, _, h => by simp [allMs, h]
  | y :: l, x, h, h' => by
    simp only [allMs, Bool.and_eq_true, List.cons_append] at h ⊢
    exact ⟨h.1, allMs_snoc h.2 h'⟩
theorem singMs_snoc : ∀ {l : List Mem} {x : Mem} {ns : List (List UInt8)}, singMs ns l = true → singM x = true → (ns ++ l.map nmM).contains (nmM x) = false → singMs ns (l ++ [x]) = true
  | [], x, ns, _, h, h' => by
    simp only [List.map_nil, List.append_nil] at h'
    simp [singMs, h]; simpa using h'
  | y :: l, x, ns, h, h', h2 => by
    simp only [singMs, Bool.and_eq_true, List.cons_append] at h ⊢
    exact ⟨h.1, h.2.1, singMs_snoc h.2.2 h' (by simpa using h2)⟩
theorem items_right {p : List UInt8 → RR Val} {q : Int} (hp : RpR p q) : ∀ (n : Nat) (l : List Val) (t : List UInt8) (l' : List Val) (t' : List UInt8), itemsM p n l t = .ok (l', t') → validD t = true → LR q l → LR q l' ∧ validD t' = true
  | 0, _, _, _, _, h, _, _ => by cases h
  | n + 1, l, t, l', t', h, hv, hl => by
    simp only [itemsM] at h
    split at h
    · rename_i t1 hm
      cases h
      exact ⟨hl, mayM_valid rfl hm hv⟩
    · obtain ⟨_, t1, h1, h⟩ := RR.bind_ok h
      obtain ⟨v, t2, h2, h⟩ := RR.bind_ok h
      obtain ⟨h3, h4, h5⟩ := hp _ _ _ (mustM_valid rfl h1 hv) h2
      exact items_right hp n _ t2 l' t' h h5 (hl.snoc h3 h4)
theorem list_right {p : List UInt8 → RR Val} {q : Int} (hq : 0 ≤ q) (hp : RpR p q) {t t' : List UInt8} {v : Val} (h : listM p t = .ok (v, t')) (hv : validD t = true) : rightV v = true ∧ depthV v ≤ q + 1 ∧ validD t' = true := by
  have fin : ∀ l, LR q l → rightV (.mk 6 0 [] l []) = true ∧ depthV (.mk 6 0 [] l []) ≤ q + 1 := fun l hl => by
    have h1 := hl.all
    refine ⟨by simp [rightV, goodV, allV, bareM, singV, singMs, h1.1, h1.2], ?_⟩
    have := (depthVs_iff q l 0).2 ⟨hq, fun v hv => (hl v hv).2⟩
    simp [depthV]; omega
  unfold listM at h
  split at h
  · rename_i t1 hm
    cases h
    have := fin [] fun _ h => by cases h
    exact ⟨this.1, this.2, mayM_valid rfl hm hv⟩
  · obtain ⟨v1, t1, h1, h⟩ := RR.bind_ok h
    obtain ⟨l, t2, h2, h⟩ := RR.bind_ok h
    cases h
    obtain ⟨h3, h4, h5⟩ := hp _ _ _ hv h1
    obtain ⟨h6, h7⟩ := items_right hp _ _ _ _ _ h2 h5 (LR.snoc (l := []) (fun _ h => by cases h) h3 h4)
    exact ⟨(fin l h6).1, (fin l h6).2, h7⟩
theorem member_right {p : List UInt8 → RR Val} {q : Int} (hp : RpR p q) {l l' : List Mem} {t t' : List UInt8} (h : memberM p l t = .ok (l', t')) (hv : validD t = true) (hl : MR q l) : MR q l' ∧ validD t' = true := by
  unfold memberM at h
  obtain ⟨s, t1, h1, h⟩ := RR.bind_ok h
  split at h
  · cases h
  · rename_i hn
    obtain ⟨_, t2, h2, h⟩ := RR.bind_ok h
    obtain ⟨v, t3, h3, h⟩ := RR.bind_ok h
    cases h
    obtain ⟨hs, hv1⟩ := textM_valid h1 hv
    obtain ⟨h4, h5, h6⟩ := hp _ _ _ (mustM_valid rfl h2 hv1) h3
    simp only [rightV, goodV, Bool.and_eq_true] at h4
    refine ⟨⟨allMs_snoc hl.1 (by simp [allM, hs, h4.1]), singMs_snoc hl.2.1 h4.2 ?_, fun x hx => ?_⟩, h6⟩
    · rw [hasN_iff] at hn
      simpa [nmM] using hn
    · rcases List.mem_append.1 hx with e | e
      · exact hl.2.2 x e
      · rw [List.mem_singleton] at e; subst e; exact h5
theorem members_right {p : List UInt8 → RR Val} {q : Int} (hp : RpR p q) : ∀ (n : Nat) (l : List Mem) (t : List UInt8) (l' : List Mem) (t' : List UInt8), membersM p n l t = .ok (l', t') → validD t = true → MR q l → MR q l' ∧ validD t' = true
  | 0, _, _, _, _, h, _, _ => by cases h
  | n + 1, l, t, l', t', h, hv, hl => by
    simp only [membersM] at h
    split at h
    · rename_i t1 hm
      cases h
      exact ⟨hl, mayM_valid rfl hm hv⟩
    · obtain ⟨_, t1, h1, h⟩ := RR.bind_ok h
      obtain ⟨l2, t2, h2, h⟩ := RR.bind_ok h
      obtain ⟨h3, h4⟩ := member_right hp h2 (mustM_valid rfl h1 hv) hl
      exact members_right hp n _ t2 l' t' h h4 h3
theorem map_right {p : List UInt8 → RR Val} {q : Int} (hq : 0 ≤ q) (hp : RpR p q) {t t' : List UInt8} {v : Val} (h : mapM p t = .ok (v, t')) (hv : validD t = true) : rightV v = true ∧ depthV v ≤ q + 1 ∧ validD t' = true := by
  have fin : ∀ l, MR q l → rightV (.mk 7 0 [] [] l) = true ∧ depthV (.mk 7 0 [] [] l) ≤ q + 1 := fun l hl => by
    refine ⟨by simp [rightV, goodV, allV, bareM, singV, singVs, hl.1, hl.2.1], ?_⟩
    have := (depthMs_iff q l 0).2 ⟨hq, hl.2.2⟩
    simp [depthV]; omega
  have nil : MR q [] := ⟨rfl, rfl, fun _ h => by cases h⟩
  unfold mapM at h
  split at h
  · rename_i t1 hm
    cases h
    exact ⟨(fin [] nil).1, (fin [] nil).2, mayM_valid rfl hm hv⟩
  · obtain ⟨l1, t1, h1, h⟩ := RR.bind_ok h
    obtain ⟨l, t2, h2, h⟩ := RR.bind_ok h
    cases h
    obtain ⟨h3, h4⟩ := member_right hp h1 hv nil
    obtain ⟨h5, h6⟩ := members_right hp _ _ _ _ _ h2 h4 h3
    exact ⟨(fin l h5).1, (fin l h5).2, h6⟩
theorem word_right {t t' : List UInt8} {v : Val} (h : wordM t = .ok (v, t')) (hv : validD t = true) : rightV v = true ∧ depthV v = 0 ∧ validD t' = true := by
  unfold wordM at h
  split at h
  · rename_i t1 hm
    cases h
    exact ⟨rfl, rfl, mayM_valid rfl hm hv⟩
  · split at h
    · rename_i t1 hm
      cases h
      exact ⟨by decide, rfl, mayM_valid rfl hm hv⟩
    · obtain ⟨_, t1, h1, h⟩ := RR.bind_ok h
      cases h
      exact ⟨by decide, rfl, mustM_valid rfl h1 hv⟩
theorem head_flat {c : UInt8} {r t' : List UInt8} {v : Val} {p : List UInt8 → RR Val} (c1 : c ≠ 123) (c2 : c ≠ 91) (h : headM (c :: r) p = .ok (v, t')) (hv : validD (c :: r) = true) : rightV v = true ∧ depthV v = 0 ∧ validD t' = true := by
  simp only [headM] at h
  rw [if_neg c1, if_neg c2] at h
  split at h
  · obtain ⟨s, t1, h1, h⟩ := RR.bind_ok h
    cases h
    obtain ⟨h2, h3⟩ := textM_valid h1 hv
    exact ⟨by simp [rightV, goodV, allV, singleM, bareM, singV, singVs, singMs, h2], by simp [depthV], h3⟩
  · split at h
    · unfold numM at h
      split at h
      · cases h
      · rename_i hk
        cases h
        exact ⟨(numV_right hk).1, (numV_right hk).2, drop_valid _ hv⟩
    · exact word_right h hv
theorem val_right : ∀ n : Nat, RpR (valM n) n
  | 0 => fun t v t' hv h => by
    simp only [valM] at h
    split at h
    · cases h
    · rename_i hb
      have h1 := skB_valid t hv
      cases hs : skB t with
      | nil =>
        rw [hs] at h
        obtain ⟨a, b, c⟩ := word_right (t := []) h rfl
        exact ⟨a, by omega, c⟩
      | cons c r =>
        rw [hs] at h hb h1
        obtain ⟨a, b, c⟩ := head_flat (fun e => hb (.inl (by rw [e]; rfl))) (fun e => hb (.inr (by rw [e]; rfl))) h h1
        exact ⟨a, by omega, c⟩
  | n + 1 => fun t v t' hv h => by
    simp only [valM] at h
    have h1 := skB_valid t hv
    cases hs : skB t with
    | nil =>
      rw [hs] at h
      obtain ⟨a, b, c⟩ := word_right (t := []) h rfl
      exact ⟨a, by omega, c⟩
    | cons c r =>
      rw [hs] at h h1
      by_cases c1 : c = 123
      · subst c1
        rw [validD_cons _ _ (by decide)] at h1
        simp only [headM] at h
        rw [if_pos trivial] at h
        obtain ⟨a, b, c⟩ := map_right (by omega) (val_right n) h h1
        exact ⟨a, by omega, c⟩
      · by_cases c2 : c = 91
        · subst c2
          rw [validD_cons _ _ (by decide)] at h1
          simp only [headM] at h
          rw [if_neg (by decide), if_pos trivial] at h
          obtain ⟨a, b, c⟩ := list_right (by omega) (val_right n) h h1
          exact ⟨a, by omega, c⟩
        · obtain ⟨a, b, c⟩ := head_flat c1 c2 h h1
          exact ⟨a, by omega, c⟩
theorem valM_sk' (n : Nat) (t : List UInt8) : valM n (skB t) = valM n t := by
  have e : ∀ t, skB (skB t) = skB t := fun t => by
    induction t with
    | nil => rfl
    | cons c t ih =>
      rw [skB]; split
      · exact ih
      · rename_i h; rw [skB, if_neg h]
  cases n <;> simp only [valM, e]
theorem readM_cases (s : List UInt8) : ((readM s).2 ≠ 0 ∧ (readM s).1 = nullV) ∨ ((readM s).2 = 0 ∧ rightV (readM s).1 = true ∧ depthV (readM s).1 ≤ 16 ∧ wfV (readM s).1) := by
  unfold readM
  split
  · left; simp
  · split
    · left; simp
    · rename_i h1 h2
      have hv : validD s = true := by simpa using h2
      split
      · rename_i e he
        by_cases h0 : e = 0
        · subst h0; right; exact ⟨rfl, by decide, by decide, by simp [nullV, wfV, wfVs, wfMs, inR]⟩
        · left; exact ⟨h0, rfl⟩
      · rename_i v t ht
        split
        · right
          have h3 := val_right 16 s v t hv ht
          exact ⟨rfl, h3.1, h3.2.1, (valM_fit 16 s v t ht).2⟩
        · left; simp
end Go.Proofs.YtpjafglhdlfnbaaGreatDoor
namespace Go.Proofs.YtpjafglhdlfnbaaGreatDoor
open Go.Ab Go.Lib
theorem readC (s : List UInt8) (hl : s.length ≤ LimS) : Pure Tryz.prog 13 [.str s] (.tup [.agg (cV (readM s).1), .int .i64 (readM s).2]) := by
  refine ACalls.strip ((readS s hl).mono fun e H' hq => ?_)
  cases e with
  | ret v => exact ⟨by rw [hq.1]; rfl, hq.2⟩
  | pan v => exact hq.elim
theorem readM_size (s : List UInt8) : bV (readM s).1 ≤ 2 * s.length + 1 := by
  unfold readM
  split
  · simp [nullV, bV, bVs, bMs]
  split
  · simp [nullV, bV, bVs, bMs]
  split
  · simp [nullV, bV, bVs, bMs]
  · rename_i v t ht
    split
    · have := (valM_fit 16 s v t ht).1.sz
      simp only; omega
    · simp [nullV, bV, bVs, bMs]
end Go.Proofs.YtpjafglhdlfnbaaGreatDoor
namespace Go.Proofs.YtpjafglhdlfnbaaGreatDoor
open Go.Ab Go.Lib
open Go.ChangeShapes Go.WideShapes Go.ChangeAt Go.RowKit Go.WideElems
mutual
theorem bulk_eq {H : Type} : ∀ d : DataW H, Rows.uptoBulk d = blk d
  | .lit (.string _) => rfl
  | .lit (.bool _) => rfl
  | .lit (.int _ _) => rfl
  | .lit (.float _ _) => rfl
  | .lit .nil => rfl
  | .nil => rfl
  | .ptr d => by simp only [Rows.uptoBulk, blk, bulk_eq d]
  | .slice e s => by simp only [Rows.uptoBulk, blk, bulkAll_eq e, bulkAll_eq s]
  | .agg e => by simp only [Rows.uptoBulk, blk, bulkAll_eq e]
  | .iface _ d => by simp only [Rows.uptoBulk, blk, bulk_eq d]
  | .map e => by simp only [Rows.uptoBulk, blk, bulkEs_eq e]
  | .held _ => rfl
theorem bulkAll_eq {H : Type} : ∀ d : List (DataW H), Rows.uptoBulkAll d = blkAll d
  | [] => rfl
  | d :: r => by simp only [Rows.uptoBulkAll, blkAll, bulk_eq d, bulkAll_eq r]
theorem bulkEs_eq {H : Type} : ∀ d : List (Lit × DataW H), Rows.uptoBulkEntries d = blkEs d
  | [] => rfl
  | x :: r => by simp only [Rows.uptoBulkEntries, blkEs, bulkE_eq x, bulkEs_eq r]
theorem bulkE_eq {H : Type} : ∀ d : Lit × DataW H, Rows.uptoBulkEntry d = blkE d
  | (.string _, d) => by simp only [Rows.uptoBulkEntry, blkE, bulk_eq d]
  | (.bool _, d) => by simp only [Rows.uptoBulkEntry, blkE, bulk_eq d]
  | (.int _ _, d) => by simp only [Rows.uptoBulkEntry, blkE, bulk_eq d]
  | (.float _ _, d) => by simp only [Rows.uptoBulkEntry, blkE, bulk_eq d]
  | (.nil, d) => by simp only [Rows.uptoBulkEntry, blkE, bulk_eq d]
end
def EntryOk (W : World) (g : Nat) (ps : List (Value → Prop)) : Prop :=
  (∃ (arr : Array Value) (E : TypeId) (fr : Nat × Nat), W.heap[g]? = some (.cells arr E fr) ∧ arr.size = ps.length) ∧ ∀ (j : Nat) (p : Value → Prop), ps[j]? = some p → ∃ v, CellIs immG W g j v ∧ p v
theorem entry_of_var {W : World} {n : String} {g : Nat} {cs : Array Value} {ps : List (Value → Prop)} (hg : Tryz.prog.globalNamed n = some g) (hv : W.var? Tryz.prog n = some cs) (hl : cs.size = ps.length)
    (h : ∀ (j : Nat) (p : Value → Prop) v, ps[j]? = some p → cs[j]? = some v → v.oneCell' = true ∧ p v) : EntryOk W g ps := by
  refine ⟨?_, fun j p hp => ?_⟩
  · have h1 := hv
    simp only [World.var?, hg, Option.bind_some] at h1
    split at h1
    · rename_i c t fr he
      cases h1
      exact ⟨_, _, _, he, hl⟩
    · cases h1
  · have hj : j < cs.size := by
      have := (List.getElem?_eq_some_iff.1 hp).1
      omega
    have h1 := h j p cs[j] hp (Array.getElem?_eq_getElem hj)
    refine ⟨cs[j], ⟨?_, trivial, h1.1⟩, h1.2⟩
    rw [World.var?_cell hg hv j, Array.getElem?_eq_getElem hj]
theorem entry_ints {W : World} {n : String} {g cnt : Nat} {t e : TypeId} {k : IntKind} {zs : List Nat} (hg : Tryz.prog.globalNamed n = some g) (hty : (Tryz.prog.globals[g]?).map (·.type) = some t) (ht : Tryz.prog.underlying t = some (.array cnt e)) (he : Tryz.prog.underlying e = some (.int k)) (hce : Tryz.prog.cellsOf e = 1) (hct : Tryz.prog.cellsOf t = cnt)
    (h : VarReads Tryz.prog W n (tabData k (zs.map fun (z : Nat) => (z : Int)))) : EntryOk W g (zs.map fun (z : Nat) (v : Value) => v = .int k z) := by
  obtain ⟨g', t', cs, fuel, p, hg', ht', hvar, hd⟩ := h
  obtain rfl := Option.some.inj (hg.symm.trans hg')
  obtain rfl := Option.some.inj (hty.symm.trans ht')
  have hcs := cells_of_tab ht he hce hct hd
  refine entry_of_var hg hvar (by rw [← Array.length_toList, hcs]; simp) fun j p v hp hj => ?_
  rw [← Array.getElem?_toList, hcs] at hj
  simp only [List.getElem?_map, Option.map_eq_some_iff] at hp hj
  obtain ⟨z, hz, rfl⟩ := hp
  obtain ⟨y, ⟨z', hz', rfl⟩, rfl⟩ := hj
  rw [hz] at hz'
  cases hz'
  exact ⟨rfl, rfl⟩
theorem u8x : U8Extra Tryz.prog Tryz.lays196_ren := ⟨by kernel_rfl, by kernel_rfl, by kernel_rfl, by kernel_rfl, by kernel_rfl, by kernel_rfl, by kernel_rfl⟩
theorem acc_at2 : ∀ c : Fin 32, accZ[c.val]? = some (if c.val % 2 = 0 then Lib.accLo (c.val / 2) else Lib.accHi (c.val / 2)) := by decide +kernel
theorem entry_accept {W : World} (h1 : VarReads Tryz.prog W "unicode/utf8.first" firstData) (h2 : VarReads Tryz.prog W "unicode/utf8.acceptRanges" acceptData) : EntryOk W 1 (accZ.map fun (n : Nat) (v : Value) => v = .int .u8 n) := by
  have ht := utf8Tabs_of_readsT (U8Types.of196 Tryz.lays196) u8x h1 h2
  obtain ⟨g', t', cs, fuel, p, hg', ht', hvar, hd⟩ := h2
  obtain rfl := Option.some.inj ((show Tryz.prog.globalNamed "unicode/utf8.acceptRanges" = some 1 by kernel_rfl).symm.trans hg')
  obtain rfl := Option.some.inj (u8x.y4.symm.trans ht')
  have hcs : cs.size = 32 := by
    have h3 : fuel ≠ 0 := fun e => by subst e; simp [DataW.trod] at hd
    obtain ⟨fuel, rfl⟩ := Nat.exists_eq_succ_of_ne_zero h3
    have h4 : cs.toList.length = Tryz.prog.cellsOf (Tryz.lays196_ren.t 139) := by
      have hu := (U8Types.of196 Tryz.lays196).t139
      simp only [DataW.trod, hu, u8x.c138] at hd
      split at hd
      · rename_i hl; simpa using hl
      · cases hd
    rw [← Array.length_toList, h4]; exact (show Tryz.prog.cellsOf (Tryz.lays196_ren.t 139) = 32 by kernel_rfl)
  refine entry_of_var hg' hvar (by rw [hcs]; rfl) fun j p v hp hj => ?_
  have hj32 : j < 32 := by rw [← hcs]; exact (Array.getElem?_eq_some_iff.1 hj).1
  simp only [List.getElem?_map, Option.map_eq_some_iff] at hp
  obtain ⟨z, hz, rfl⟩ := hp
  rw [acc_at2 ⟨j, hj32⟩] at hz
  cases hz
  have ⟨a1, a2⟩ := ht.2 (j / 2) (by omega)
  rcases Nat.mod_two_eq_zero_or_one j with e | e
  · have e2 : 2 * (j / 2) = j := by omega
    rw [e2] at a1
    have h5 := (World.var?_cell hg' hvar j).symm.trans a1
    rw [hj] at h5
    cases h5
    simp [e, Value.oneCell']
  · have e2 : 2 * (j / 2) + 1 = j := by omega
    rw [e2] at a2
    have h5 := (World.var?_cell hg' hvar j).symm.trans a2
    rw [hj] at h5
    cases h5
    simp [e, Value.oneCell']
theorem entry_err {W : World} {n : String} {g : Nat} {t : TypeId} {s : String} {d : DataW Unit} (hg : Tryz.prog.globalNamed n = some g) (hty : (Tryz.prog.globals[g]?).map (·.type) = some t) {ms : Array (String × TypeId)} (hu : Tryz.prog.underlying t = some (.interface ms)) (h : VarReads Tryz.prog W n (.iface s d)) : EntryOk W g [fun v => ∃ te pe, v = .iface te pe] := by
  obtain ⟨g', t', cs, fuel, p, hg', ht', hvar, hd⟩ := h
  obtain rfl := Option.some.inj (hg.symm.trans hg')
  obtain rfl := Option.some.inj (hty.symm.trans ht')
  have h1 : ∃ te pe, cs.toList = [.iface te pe] := by
    cases fuel with
    | zero => simp [DataW.trod] at hd
    | succ fuel =>
      simp only [DataW.trod, hu] at hd
      split at hd
      all_goals first
        | (cases hd; done)
        | skip
      all_goals simp_all
      done
  obtain ⟨te, pe, he⟩ := h1
  refine entry_of_var hg hvar (by rw [← Array.length_toList, he]; rfl) fun j p v hp hj => ?_
  rw [← Array.getElem?_toList, he] at hj
  match j, hp, hj with
  | 0, hp, hj => cases hp; cases hj; exact ⟨rfl, _, _, rfl⟩
  | j + 1, hp, hj => simp at hp
theorem entry_int {W : World} (hS : W.ShapedOpen Tryz.prog) {g : Nat} {z : Array Value} {t : TypeId} {k : IntKind} (hg : g < Tryz.prog.globals.size) (h0 : (((begin Tryz.prog (fun _ _ => 0) default).world.heap[g]?).bind Obj.row?) = some (z, t)) (hz : z.size = 1) (hb : Tryz.prog.buildable t = true)
    (hts : Tryz.prog.cellTypes Tryz.prog.depth t = some [t]) (ht : Tryz.prog.underlying t = some (.int k)) : EntryOk W g [fun v => ∃ m, v = .int k m] := by
  obtain ⟨cs, h1, h2, h3⟩ := hS.1 g z t hg h0
  have hsz : cs.size = 1 := by rw [h2, hz]
  obtain ⟨ts, hts', _, hall⟩ := h3 hb
  rw [hts] at hts'
  cases hts'
  have h4 : cs[0]? = some cs[0] := Array.getElem?_eq_getElem (by omega)
  obtain ⟨u, hu, hc⟩ := hall 0 cs[0] h4
  cases hu
  have h5 : ∃ m, cs[0] = .int k m := by
    unfold Cell.ok at hc
    rw [ht] at hc
    generalize cs[0] = v at hc
    cases v <;> first | exact hc.elim | (obtain ⟨rfl, _⟩ := hc; exact ⟨_, rfl⟩)
  obtain ⟨m, hm⟩ := h5
  refine ⟨⟨cs, t, _, h1, hsz⟩, fun j p hp => ?_⟩
  match j, hp with
  | 0, hp =>
    cases hp
    refine ⟨.int k m, ⟨?_, trivial, rfl⟩, m, rfl⟩
    unfold World.cell?
    simp only [h1, h4, hm]
    simp
  | j + 1, hp => simp at hp
abbrev T64 : List Nat := [1, 10, 100, 1000, 10000, 100000, 1000000, 10000000, 100000000, 1000000000, 10000000000, 100000000000, 1000000000000, 10000000000000, 100000000000000, 1000000000000000, 10000000000000000, 100000000000000000, 1000000000000000000, 10000000000000000000]
abbrev B32 : List Nat := [0, 1, 28, 2, 29, 14, 24, 3, 30, 22, 20, 15, 25, 17, 4, 8, 31, 27, 13, 23, 21, 19, 16, 7, 26, 12, 18, 6, 11, 5, 10, 9]
abbrev B64 : List Nat := [0, 1, 56, 2, 57, 49, 28, 3, 61, 58, 42, 50, 38, 29, 17, 4, 62, 47, 59, 36, 45, 43, 51, 22, 53, 39, 33, 30, 24, 18, 12, 5, 63, 55, 48, 27, 60, 41, 37, 16, 46, 35, 44, 21, 52, 32, 23, 11, 54, 26, 40, 15, 34, 20, 31, 10, 25, 14, 19, 9, 13, 8, 7, 6]
abbrev laidL : List (String × DataW Unit) := [("math/bits.deBruijn32tab", Rows.laid_math_bits_deBruijn32tab), ("math/bits.deBruijn64tab", Rows.laid_math_bits_deBruijn64tab), ("internal/strconv.uint64pow10", Rows.laid_internal_strconv_uint64pow10), ("unicode/utf8.acceptRanges", Rows.laid_unicode_utf8_acceptRanges), ("strconv.ErrRange", Rows.laid_strconv_ErrRange), ("strconv.ErrSyntax", Rows.laid_strconv_ErrSyntax), ("unicode/utf8.first", Rows.laid_unicode_utf8_first)]
theorem tabs_ok {W : World} (hL : laidMetH Tryz.prog laidL W) (hS : W.ShapedOpen Tryz.prog) : TabOk immG W := by
  have hL' : laidMet Tryz.prog laidL W := hL
  have m1 : VarReads Tryz.prog W "unicode/utf8.first" (tabData .u8 (Go.Pinned.utf8FirstZ.map fun (z : Nat) => (z : Int))) := laidMet.reads hL' (d := Rows.laid_unicode_utf8_first) (.tail _ (.tail _ (.tail _ (.tail _ (.tail _ (.tail _ (.head _)))))))
  have m2 : VarReads Tryz.prog W "unicode/utf8.acceptRanges" acceptData := laidMet.reads hL' (d := Rows.laid_unicode_utf8_acceptRanges) (.tail _ (.tail _ (.tail _ (.head _))))
  have m3 : VarReads Tryz.prog W "internal/strconv.uint64pow10" (tabData .u64 (T64.map fun (z : Nat) => (z : Int))) := laidMet.reads hL' (d := Rows.laid_internal_strconv_uint64pow10) (.tail _ (.tail _ (.head _)))
  have m4 : VarReads Tryz.prog W "math/bits.deBruijn32tab" (tabData .u8 (B32.map fun (z : Nat) => (z : Int))) := laidMet.reads hL' (d := Rows.laid_math_bits_deBruijn32tab) (.head _)
  have m5 : VarReads Tryz.prog W "math/bits.deBruijn64tab" (tabData .u8 (B64.map fun (z : Nat) => (z : Int))) := laidMet.reads hL' (d := Rows.laid_math_bits_deBruijn64tab) (.tail _ (.head _))
  have m6 : VarReads Tryz.prog W "strconv.ErrSyntax" Rows.laid_strconv_ErrSyntax := laidMet.reads hL' (.tail _ (.tail _ (.tail _ (.tail _ (.tail _ (.head _))))))
  have m7 : VarReads Tryz.prog W "strconv.ErrRange" Rows.laid_strconv_ErrRange := laidMet.reads hL' (.tail _ (.tail _ (.tail _ (.tail _ (.head _)))))
  have m8 : firstData = tabData .u8 (Go.Pinned.utf8FirstZ.map fun (z : Nat) => (z : Int)) := by kernel_rfl
  have e1 : EntryOk W 0 (Go.Pinned.utf8FirstZ.map fun (n : Nat) (v : Value) => v = .int .u8 n) :=
    entry_ints (t := Tryz.lays196_ren.t 119) u8x.n3 u8x.y3 (U8Types.of196 Tryz.lays196).t119 (U8Types.of196 Tryz.lays196).t5 u8x.c5 u8x.c119 m1
  have e2 : EntryOk W 1 (accZ.map fun (n : Nat) (v : Value) => v = .int .u8 n) := entry_accept (m8 ▸ m1) m2
  have e3 : EntryOk W 3 (T64.map fun (n : Nat) (v : Value) => v = .int .u64 n) :=
    entry_ints (t := 168) (e := 143) (cnt := 20) (by kernel_rfl) (by kernel_rfl) (by kernel_rfl) (by kernel_rfl) (by kernel_rfl) (by kernel_rfl) m3
  have e4 : EntryOk W 6 (B32.map fun (n : Nat) (v : Value) => v = .int .u8 n) :=
    entry_ints (t := 186) (e := 5) (cnt := 32) (by kernel_rfl) (by kernel_rfl) (by kernel_rfl) (by kernel_rfl) (by kernel_rfl) (by kernel_rfl) m4
  have e5 : EntryOk W 7 (B64.map fun (n : Nat) (v : Value) => v = .int .u8 n) :=
    entry_ints (t := 187) (e := 5) (cnt := 64) (by kernel_rfl) (by kernel_rfl) (by kernel_rfl) (by kernel_rfl) (by kernel_rfl) (by kernel_rfl) m5
  have e6 : EntryOk W 4 [fun v => ∃ te pe, v = .iface te pe] := entry_err (t := 111) (by kernel_rfl) (by kernel_rfl) Tryz.underlying111 m6
  have e7 : EntryOk W 5 [fun v => ∃ te pe, v = .iface te pe] := entry_err (t := 111) (by kernel_rfl) (by kernel_rfl) Tryz.underlying111 m7
  have e8 : EntryOk W 2 [fun v => ∃ m, v = .int .i64 m] := entry_int hS (z := #[.int .i64 0]) (t := 3) (of_decide_eq_true (by kernel_rfl)) (by kernel_rfl) rfl (by kernel_rfl) (by kernel_rfl) (by kernel_rfl)
  intro x hx
  unfold tabL at hx
  simp only [List.mem_cons, List.not_mem_nil, or_false] at hx
  rcases hx with rfl | rfl | rfl | rfl | rfl | rfl | rfl | rfl <;> first | exact e1 | exact e2 | exact e3 | exact e4 | exact e5 | exact e6 | exact e7 | exact e8
noncomputable abbrev N0 : Nat := (World.settled Tryz.prog default).heap.size
noncomputable def laidWorld (os : Os) : World :=
  let w0 := World.holding Tryz.prog os ⟨#[.cells #[.string ⟨#[105, 110, 118, 97, 108, 105, 100, 32, 115, 121, 110, 116, 97, 120]⟩] 190, .cells #[.string ⟨#[118, 97, 108, 117, 101, 32, 111, 117, 116, 32, 111, 102, 32, 114, 97, 110, 103, 101]⟩] 190], #[], []⟩
  let put (h : Array Obj) (g : Nat) (cs : Array Value) : Array Obj := h.modify g fun
    | .cells _ t frozen => .cells cs t frozen
    | o => o
  let h1 := put w0.heap 0 (Go.Pinned.utf8FirstZ.map fun (z : Nat) => Value.int .u8 z).toArray
  let h2 := put h1 1 (accZ.map fun (z : Nat) => Value.int .u8 z).toArray
  let h3 := put h2 3 (T64.map fun (z : Nat) => Value.int .u64 z).toArray
  let h4 := put h3 6 (B32.map fun (z : Nat) => Value.int .u8 z).toArray
  let h5 := put h4 7 (B64.map fun (z : Nat) => Value.int .u8 z).toArray
  let h6 := put h5 4 #[.iface 188 (.pointer (some ⟨(World.settled Tryz.prog os).heap.size, 0, none⟩))]
  let h7 := put h6 5 #[.iface 188 (.pointer (some ⟨(World.settled Tryz.prog os).heap.size + 1, 0, none⟩))]
  { w0 with heap := h7 }
theorem laid_met (os : Os) (args : Array Value) : laidMet Tryz.prog laidL ((laidWorld os).forCall (fun _ _ => 0) ⟨#[], args, []⟩).memory :=
  (LaidIn.of_run (l := laidL) [0, 1, 2, 3, 4, 5, 6, 7, N0, N0 + 1] 8 (by kernel_rfl) (by kernel_rfl) (by kernel_rfl) (by kernel_rfl)).met
end Go.Proofs.YtpjafglhdlfnbaaGreatDoor
namespace Go.Proofs.YtpjafglhdlfnbaaGreatDoor
open Go.Ab Go.Lib
open Go.ChangeShapes Go.WideShapes Go.ChangeAt Go.RowKit Go.WideElems
theorem own : ownKnob Tryz.prog.godebug = none := by kernel_rfl
theorem laidOut : laidOutB Tryz.prog = true := by kernel_rfl
theorem cond_bulk {H : Type} {s : ChangeSpec} {ds : List (DataW H)} (h : ∀ k, (Rows.OpenSpec.upto s).cond = some k → k H ds = true) : blkAll ds ≤ 1048576 := by
  have h1 : Rows.uptoSmall H ds = true := h _ rfl
  have h2 := of_decide_eq_true h1
  rwa [bulkAll_eq] at h2
end Go.Proofs.YtpjafglhdlfnbaaGreatDoor
