import Derived.Lib.ItoaLen
import Derived.Lib.ValidLaws
import Derived.Test.YtpjafglhdlfnbaaGreatDoorM1
import Derived.Test.YtpjafglhdlfnbaaGreatDoorM2
import Derived.Test.YtpjafglhdlfnbaaGreatDoorM3
import Derived.Test.YtpjafglhdlfnbaaGreatDoorM4
import Derived.Test.YtpjafglhdlfnbaaGreatDoorM5
set_option maxRecDepth 100000
set_option linter.unusedSimpArgs false
set_option linter.unusedVariables false
namespace Go.Proofs.YtpjafglhdlfnbaaGreatDoor
open Go.Ab
theorem wrap_u8 {x : Int} (h0 : 0 ≤ x) (h1 : x < 256) : IntKind.wrap .u8 x = x := by
  unfold IntKind.wrap
  simp [IntKind.signed, IntKind.bits]
  omega
theorem byts_one {d : Nat} (h : d < 10) : byts [[.int .u8 (IntKind.wrap .u8 (48 + (d : Int)))]] = some [UInt8.ofNat (48 + d)] := by
  rw [wrap_u8 (by omega) (by omega)]
  simp only [byts, Option.map_some]
  rw [if_pos (by omega)]
  congr 2
theorem itoa_abs (n : Int) : Lib.itoa n = if n < 0 then 45 :: Lib.decDigits n.natAbs else Lib.decDigits n.natAbs := by
  unfold Lib.itoa
  split
  · rfl
  · congr 1; omega
theorem dec_len {u : Nat} (h : u ≤ 9223372036854775808) : (Lib.decDigits u).length ≤ 21 := by
  have := Lib.itoa_length_le (-(u : Int)) (by omega) (by omega)
  rw [itoa_abs] at this
  by_cases h0 : u = 0
  · subst h0; rw [Lib.decDigits]; simp
  · rw [if_pos (by omega)] at this
    simp only [Int.natAbs_neg, Int.natAbs_natCast, List.length_cons] at this
    omega
theorem DecimalR (n : Int) (h0 : -9223372036854775808 ≤ n) (h1 : n ≤ 9223372036854775807) : Pure Tryz.prog 80 [.int .i64 n] (.str (Lib.itoa n)) := by
  refine Pure.go ir80 ck80 (Nat.le_refl _) fun KP Q hQ => ?_
  by_cases n0 : n = 0
  · simp (disch := first | omega | assumption) only [ir80, n0, go_sem, ↓reduceIte]
    have e : Lib.itoa n = [48] := by subst n0; unfold Lib.itoa; rw [if_neg (by omega)]; unfold Lib.decDigits; rfl
    exact hQ _ _ _ _ nofun rfl (by simp [tupOf, envOf, AV.strip, AV.strip1, e])
  have hlen := dec_len (u := n.natAbs) (by omega)
  rw [itoa_abs] at hQ
  generalize hD : Lib.decDigits n.natAbs = D at hlen hQ
  simp (disch := first | omega | assumption) only [ir80, n0, go_sem, ↓reduceIte]
  refine goL_st (fun x : Nat × List UInt8 => [(3, .str x.2), (4, .int .i64 (if n < 0 then -(x.1 : Int) else x.1))]) (fun x H => x.1 ≤ n.natAbs ∧ D = (if x.1 = 0 then x.2 else Lib.decDigits x.1 ++ x.2)) (fun x => x.1) (n.natAbs, [])
    (by have e : (if n < 0 then -(n.natAbs : Int) else n.natAbs) = n := by split <;> omega
        simp (disch := first | omega | assumption) only [e, go_sem, ↓reduceIte]) ⟨Nat.le_refl _, by rw [if_neg (by omega), List.append_nil, hD]⟩ ?_
  rintro ⟨u, t⟩ H J ⟨hu, ht⟩ hJ
  simp only at hu ht
  have htl : t.length ≤ 21 := by
    have : t.length ≤ D.length := by
      rw [ht]; split
      · exact Nat.le_refl _
      · simp
    omega
  by_cases u0 : u = 0
  · have e : (if n < 0 then -(u : Int) else u) = 0 := by split <;> omega
    rw [if_pos u0] at ht
    subst u0
    by_cases hn : n < 0
    · simp (disch := first | omega | assumption) only [hn, Int.neg_zero, go_sem, ↓reduceIte]
      rw [if_pos hn] at hQ
      exact hQ _ _ _ _ nofun rfl (by simp [tupOf, envOf, AV.strip, AV.strip1, ht])
    · simp (disch := first | omega | assumption) only [hn, Int.neg_zero, go_sem, ↓reduceIte]
      rw [if_neg hn] at hQ
      exact hQ _ _ _ _ nofun rfl (by simp [tupOf, envOf, AV.strip, AV.strip1, ht])
  · rw [if_neg u0] at ht
    have hm : u % 10 < 10 := Nat.mod_lt _ (by omega)
    have hstep : D = (if u / 10 = 0 then UInt8.ofNat (48 + u % 10) :: t else Lib.decDigits (u / 10) ++ UInt8.ofNat (48 + u % 10) :: t) := by
      rw [ht, Lib.decDigits]
      by_cases h10 : u < 10
      · have e1 : u / 10 = 0 := by omega
        have e2 : u % 10 = u := by omega
        rw [dif_pos h10, if_pos e1, e2]; rfl
      · have e1 : ¬ u / 10 = 0 := by omega
        rw [dif_neg h10, if_neg e1, List.append_assoc]; rfl
    have hby := byts_one hm
    by_cases hn : n < 0
    · have e : (if n < 0 then -(u : Int) else u) = -(u : Int) := if_pos hn
      have e' : (if n < 0 then -((u / 10 : Nat) : Int) else ((u / 10 : Nat) : Int)) = -((u / 10 : Nat) : Int) := if_pos hn
      have hne : ¬ (-(u : Int) = 0) := by omega
      have hmod : Int.tmod (-(u : Int)) 10 = -((u % 10 : Nat) : Int) := by rw [Int.neg_tmod, Int.tmod_eq_emod_of_nonneg (by omega)]; omega
      have hdiv : Int.tdiv (-(u : Int)) 10 = -((u / 10 : Nat) : Int) := by rw [Int.neg_tdiv, Int.tdiv_eq_ediv_of_nonneg (by omega)]; omega
      have hw1 : IntKind.wrap .i64 (48 + ((u % 10 : Nat) : Int)) = 48 + ((u % 10 : Nat) : Int) := wrap64 (by omega) (by omega)
      by_cases z : u % 10 = 0
      · have hz : -((u % 10 : Nat) : Int) = ((u % 10 : Nat) : Int) := by omega
        have hz2 : ¬ ((u % 10 : Nat) : Int) < 0 := by omega
        simp (disch := first | omega | assumption) only [e, hne, hmod, hdiv, hby, wrap64, hz, hz2, hw1, go_sem, ↓reduceIte]
        exact goJ (hJ (u / 10, UInt8.ofNat (48 + u % 10) :: t) _ (by simp only; omega) ⟨by simp only; omega, hstep⟩) (by simp (disch := first | omega | assumption) only [e', wrap64, go_sem, ↓reduceIte])
      · have hz2 : -((u % 10 : Nat) : Int) < 0 := by omega
        have hneg : 0 - -((u % 10 : Nat) : Int) = ((u % 10 : Nat) : Int) := by omega
        simp (disch := first | omega | assumption) only [e, hne, hmod, hdiv, hby, wrap64, hz2, hw1, hneg, go_sem, ↓reduceIte]
        exact goJ (hJ (u / 10, UInt8.ofNat (48 + u % 10) :: t) _ (by simp only; omega) ⟨by simp only; omega, hstep⟩) (by simp (disch := first | omega | assumption) only [e', wrap64, go_sem, ↓reduceIte])
    · have e : (if n < 0 then -(u : Int) else u) = (u : Int) := if_neg hn
      have e' : (if n < 0 then -((u / 10 : Nat) : Int) else ((u / 10 : Nat) : Int)) = ((u / 10 : Nat) : Int) := if_neg hn
      have hne : ¬ ((u : Int) = 0) := by omega
      have hmod : Int.tmod (u : Int) 10 = ((u % 10 : Nat) : Int) := by rw [Int.tmod_eq_emod_of_nonneg (by omega)]; omega
      have hdiv : Int.tdiv (u : Int) 10 = ((u / 10 : Nat) : Int) := by rw [Int.tdiv_eq_ediv_of_nonneg (by omega)]; omega
      have hw1 : IntKind.wrap .i64 (48 + ((u % 10 : Nat) : Int)) = 48 + ((u % 10 : Nat) : Int) := wrap64 (by omega) (by omega)
      have hz2 : ¬ ((u % 10 : Nat) : Int) < 0 := by omega
      simp (disch := first | omega | assumption) only [e, hne, hmod, hdiv, hby, wrap64, hz2, hw1, go_sem, ↓reduceIte]
      exact goJ (hJ (u / 10, UInt8.ofNat (48 + u % 10) :: t) _ (by simp only; omega) ⟨by simp only; omega, hstep⟩) (by simp (disch := first | omega | assumption) only [e', wrap64, go_sem, ↓reduceIte])
end Go.Proofs.YtpjafglhdlfnbaaGreatDoor
namespace Go.Proofs.YtpjafglhdlfnbaaGreatDoor
open Go.Ab
theorem ofNat_toNat64 {n : Nat} (h : n < 18446744073709551616) : (BitVec.ofInt 64 (n : Int)).toNat = n := by
  rw [BitVec.toNat_ofInt]; omega
theorem wrap_nat {n : Nat} (h : n < 9223372036854775808) : IntKind.wrap .i64 (n : Int) = n := wrap64 (by omega) (by omega)
theorem and_lo {n : Nat} (j : Nat) (h : n < 9223372036854775808) (hj : 2 ^ j - 1 < 9223372036854775808) : IntKind.wrap .i64 ((BitVec.ofInt IntKind.i64.bits (n : Int) &&& BitVec.ofInt IntKind.i64.bits ((2 ^ j - 1 : Nat) : Int)).toNat : Int) = ((n % 2 ^ j : Nat) : Int) := by
  have e : (BitVec.ofInt IntKind.i64.bits (n : Int) &&& BitVec.ofInt IntKind.i64.bits ((2 ^ j - 1 : Nat) : Int)).toNat = n % 2 ^ j := by
    rw [BitVec.toNat_and]
    show (BitVec.ofInt 64 (n : Int)).toNat &&& (BitVec.ofInt 64 ((2 ^ j - 1 : Nat) : Int)).toNat = _
    rw [ofNat_toNat64 (by omega), ofNat_toNat64 (by omega), Nat.and_two_pow_sub_one_eq_mod]
  rw [e]
  exact wrap_nat (Nat.lt_of_le_of_lt (Nat.mod_le _ _) h)
theorem and31 {n : Nat} (h : n < 9223372036854775808) : IntKind.wrap .i64 ((BitVec.ofInt IntKind.i64.bits (n : Int) &&& BitVec.ofInt IntKind.i64.bits 31).toNat : Int) = ((n % 32 : Nat) : Int) := and_lo 5 h (by decide)
theorem and15 {n : Nat} (h : n < 9223372036854775808) : IntKind.wrap .i64 ((BitVec.ofInt IntKind.i64.bits (n : Int) &&& BitVec.ofInt IntKind.i64.bits 15).toNat : Int) = ((n % 16 : Nat) : Int) := and_lo 4 h (by decide)
theorem and7 {n : Nat} (h : n < 9223372036854775808) : IntKind.wrap .i64 ((BitVec.ofInt IntKind.i64.bits (n : Int) &&& BitVec.ofInt IntKind.i64.bits 7).toNat : Int) = ((n % 8 : Nat) : Int) := and_lo 3 h (by decide)
theorem and63 {n : Nat} (h : n < 9223372036854775808) : IntKind.wrap .i64 ((BitVec.ofInt IntKind.i64.bits (n : Int) &&& BitVec.ofInt IntKind.i64.bits 63).toNat : Int) = ((n % 64 : Nat) : Int) := and_lo 6 h (by decide)
theorem or64 {a b : Nat} (ha : a < 16777216) (hb : b < 64) : IntKind.wrap .i64 ((BitVec.ofInt IntKind.i64.bits ((a * 64 : Nat) : Int) ||| BitVec.ofInt IntKind.i64.bits (b : Int)).toNat : Int) = ((a * 64 + b : Nat) : Int) := by
  have e : (BitVec.ofInt IntKind.i64.bits ((a * 64 : Nat) : Int) ||| BitVec.ofInt IntKind.i64.bits (b : Int)).toNat = a * 64 + b := by
    rw [BitVec.toNat_or]
    show (BitVec.ofInt 64 ((a * 64 : Nat) : Int)).toNat ||| (BitVec.ofInt 64 (b : Int)).toNat = _
    rw [ofNat_toNat64 (by omega), ofNat_toNat64 (by omega)]
    have := Nat.two_pow_add_eq_or_of_lt (i := 6) (b := b) (by omega) a
    rw [show (2 : Nat) ^ 6 = 64 by rfl] at this
    rw [Nat.mul_comm a 64, this]
  rw [e]
  exact wrap_nat (by omega)
def codeN (l : List UInt8) : Nat × Nat := if l = [] then (0, 0) else if Lib.decodeL l = (65533, 1) then (0, 0) else Lib.decodeL l
abbrev bt (s : List UInt8) (i k : Nat) : Nat := (s.getD (i + k) 0).toNat
theorem bt_lt (s : List UInt8) (i k : Nat) : bt s i k < 256 := (s.getD (i + k) 0).toNat_lt
theorem drop_getD (s : List UInt8) (i k : Nat) : (s.drop i).getD k 0 = s.getD (i + k) 0 := by simp [List.getElem?_drop]
theorem codeN_eq {s : List UInt8} {i : Nat} (h : i < s.length) : codeN (s.drop i) = if Lib.decodeN (s.length - i) (bt s i 0) (bt s i 1) (bt s i 2) (bt s i 3) = (65533, 1) then (0, 0) else Lib.decodeN (s.length - i) (bt s i 0) (bt s i 1) (bt s i 2) (bt s i 3) := by
  have hne : s.drop i ≠ [] := fun e => by have := congrArg List.length e; simp at this; omega
  unfold codeN
  rw [if_neg hne, Lib.decodeL_N, List.length_drop]
  simp only [drop_getD]
def cv (v0 : Nat) (b : Nat → Nat) : Nat → Nat
  | 0 => v0
  | j + 1 => cv v0 b j * 64 + b (j + 1) % 64
def Lead (b0 w lo v : Nat) : Prop := (194 ≤ b0 ∧ b0 < 224 ∧ w = 2 ∧ lo = 128 ∧ v = b0 % 32) ∨ (224 ≤ b0 ∧ b0 < 240 ∧ w = 3 ∧ lo = 2048 ∧ v = b0 % 16) ∨ (240 ≤ b0 ∧ b0 < 245 ∧ w = 4 ∧ lo = 65536 ∧ v = b0 % 8)
theorem dec_short {n b0 b1 b2 b3 w lo v : Nat} (h : Lead b0 w lo v) (hn : n < w) : Lib.decodeN n b0 b1 b2 b3 = (65533, 1) := by
  unfold Lib.decodeN
  rcases h with ⟨h1, h2, rfl, _, _⟩ | ⟨h1, h2, rfl, _, _⟩ | ⟨h1, h2, rfl, _, _⟩ <;> (repeat' split) <;> first | rfl | (exfalso; omega)
theorem dec_cont {n w lo v j : Nat} {b : Nat → Nat} (h : Lead (b 0) w lo v) (h1 : 1 ≤ j) (hj : j < w) (hc : b j < 128 ∨ 191 < b j) : Lib.decodeN n (b 0) (b 1) (b 2) (b 3) = (65533, 1) := by
  have hj4 : j = 1 ∨ j = 2 ∨ j = 3 := by rcases h with h | h | h <;> omega
  unfold Lib.decodeN
  rcases h with ⟨h2, h3, rfl, _, _⟩ | ⟨h2, h3, rfl, _, _⟩ | ⟨h2, h3, rfl, _, _⟩ <;> rcases hj4 with rfl | rfl | rfl <;> (repeat' split) <;> first | rfl | (exfalso; omega)
theorem dec_full {n w lo v : Nat} {b : Nat → Nat} (h : Lead (b 0) w lo v) (hn : w ≤ n) (hc : ∀ j, 1 ≤ j → j < w → 128 ≤ b j ∧ b j ≤ 191) :
    (if Lib.decodeN n (b 0) (b 1) (b 2) (b 3) = (65533, 1) then (0, 0) else Lib.decodeN n (b 0) (b 1) (b 2) (b 3)) = if cv v b (w - 1) < lo ∨ 1114111 < cv v b (w - 1) ∨ (55296 ≤ cv v b (w - 1) ∧ cv v b (w - 1) < 57344) then (0, 0) else (cv v b (w - 1), w) := by
  rcases h with ⟨h2, h3, rfl, rfl, rfl⟩ | ⟨h2, h3, rfl, rfl, rfl⟩ | ⟨h2, h3, rfl, rfl, rfl⟩
  · have c1 := hc 1 (by omega) (by omega)
    have e : Lib.decodeN n (b 0) (b 1) (b 2) (b 3) = (b 0 % 32 * 64 + b 1 % 64, 2) := by
      unfold Lib.decodeN
      rw [if_neg (by omega), if_pos (by omega), if_pos (by omega)]
    have e2 : cv (b 0 % 32) b (2 - 1) = b 0 % 32 * 64 + b 1 % 64 := rfl
    rw [e, e2, if_neg (by simp), if_neg (by omega)]
  · have c1 := hc 1 (by omega) (by omega)
    have c2 := hc 2 (by omega) (by omega)
    have e2 : cv (b 0 % 16) b (3 - 1) = b 0 % 16 * 4096 + b 1 % 64 * 64 + b 2 % 64 := by
      show (b 0 % 16 * 64 + b 1 % 64) * 64 + b 2 % 64 = _
      omega
    rw [e2]
    by_cases g : b 0 % 16 * 4096 + b 1 % 64 * 64 + b 2 % 64 ≥ 2048 ∧ (b 0 % 16 * 4096 + b 1 % 64 * 64 + b 2 % 64 < 55296 ∨ (57344 ≤ b 0 % 16 * 4096 + b 1 % 64 * 64 + b 2 % 64 ∧ b 0 % 16 * 4096 + b 1 % 64 * 64 + b 2 % 64 ≤ 1114111))
    · have e : Lib.decodeN n (b 0) (b 1) (b 2) (b 3) = (b 0 % 16 * 4096 + b 1 % 64 * 64 + b 2 % 64, 3) := by
        unfold Lib.decodeN
        rw [if_neg (by omega), if_neg (by omega), if_pos (by omega), if_pos g]
      rw [e, if_neg (by simp), if_neg (by omega)]
    · have e : Lib.decodeN n (b 0) (b 1) (b 2) (b 3) = (65533, 1) := by
        unfold Lib.decodeN
        rw [if_neg (by omega), if_neg (by omega), if_pos (by omega), if_neg g]
      rw [e, if_pos rfl, if_pos (by omega)]
  · have c1 := hc 1 (by omega) (by omega)
    have c2 := hc 2 (by omega) (by omega)
    have c3 := hc 3 (by omega) (by omega)
    have e2 : cv (b 0 % 8) b (4 - 1) = b 0 % 8 * 262144 + b 1 % 64 * 4096 + b 2 % 64 * 64 + b 3 % 64 := by
      show ((b 0 % 8 * 64 + b 1 % 64) * 64 + b 2 % 64) * 64 + b 3 % 64 = _
      omega
    rw [e2]
    by_cases g : b 0 % 8 * 262144 + b 1 % 64 * 4096 + b 2 % 64 * 64 + b 3 % 64 ≥ 65536 ∧ (b 0 % 8 * 262144 + b 1 % 64 * 4096 + b 2 % 64 * 64 + b 3 % 64 < 55296 ∨ (57344 ≤ b 0 % 8 * 262144 + b 1 % 64 * 4096 + b 2 % 64 * 64 + b 3 % 64 ∧ b 0 % 8 * 262144 + b 1 % 64 * 4096 + b 2 % 64 * 64 + b 3 % 64 ≤ 1114111))
    · have e : Lib.decodeN n (b 0) (b 1) (b 2) (b 3) = (b 0 % 8 * 262144 + b 1 % 64 * 4096 + b 2 % 64 * 64 + b 3 % 64, 4) := by
        unfold Lib.decodeN
        rw [if_neg (by omega), if_neg (by omega), if_neg (by omega), if_pos (by omega), if_pos g]
      rw [e, if_neg (by simp), if_neg (by omega)]
    · have e : Lib.decodeN n (b 0) (b 1) (b 2) (b 3) = (65533, 1) := by
        unfold Lib.decodeN
        rw [if_neg (by omega), if_neg (by omega), if_neg (by omega), if_pos (by omega), if_neg g]
      rw [e, if_pos rfl, if_pos (by omega)]
theorem CodeR (s : List UInt8) (i : Nat) (hi : i < s.length) (hs : s.length ≤ Lim) : Pure Tryz.prog 115 [.str s, .int .i64 i] (.tup [.int .i64 (codeN (s.drop i)).1, .int .i64 (codeN (s.drop i)).2]) := by
  refine Pure.go ir115 ck115 (Nat.le_refl _) fun KP Q hQ => ?_
  simp only [Lim] at hs
  have hlt : (i : Int) < s.length := by omega
  have h0 : ¬ (i : Int) < 0 := by omega
  have hge : ¬ (s.length : Int) ≤ i := by omega
  rw [codeN_eq hi] at hQ
  have hb0 := bt_lt s i 0
  obtain ⟨c, hc⟩ : ∃ c, s.getD i 0 = c := ⟨_, rfl⟩
  have hcb : c.toNat = bt s i 0 := by rw [← hc]; rfl
  have hcb' : (c.toNat : Int) = (bt s i 0 : Nat) := by rw [hcb]
  have hw0 : IntKind.wrap .i64 ((bt s i 0 : Nat) : Int) = (bt s i 0 : Nat) := wrap_nat (by omega)
  generalize hB : (fun k => bt s i k) = b at *
  have b0e : bt s i 0 = b 0 := by rw [← hB]
  have bk : ∀ k, bt s i k = b k := fun k => by rw [← hB]
  have hbl : ∀ k, b k < 256 := fun k => by rw [← bk]; exact bt_lt s i k
  simp only [bk] at hQ hb0 hcb hcb' hw0
  by_cases a : (b 0 : Int) < 128
  · simp (disch := first | omega | assumption) only [ir115, h0, hlt, hge, hc, hcb', hw0, a, steps, st2, pev, rev, oev, optr, ibin, sbin, ishf, bound, mmAll, mm2, mk, mkArgs, AV.cells, AV.boxable, AV.one, AV.strip1, fillA, fillS, Nat.reduceEqDiff, reduceCtorEq, ↓reduceIte, Nat.reduceAdd, Int.reduceNeg, Nat.reduceLeDiff, Int.reduceToNat, Int.reduceEq, Int.reduceLT, Int.reduceLE, Int.reduceAdd]
    have e : Lib.decodeN (s.length - i) (b 0) (b 1) (b 2) (b 3) = (b 0, 1) := by unfold Lib.decodeN; rw [if_pos (by omega)]
    rw [e, if_neg (by simp; omega)] at hQ
    exact hQ _ _ _ _ nofun rfl (by simp [tupOf, envOf, AV.strip, AV.strip1])
  simp (disch := first | omega | assumption) only [ir115, h0, hlt, hge, hc, hcb', hw0, a, steps, st2, pev, rev, oev, optr, ibin, sbin, ishf, bound, mmAll, mm2, mk, mkArgs, AV.cells, AV.boxable, AV.one, AV.strip1, fillA, fillS, Nat.reduceEqDiff, reduceCtorEq, ↓reduceIte, Nat.reduceAdd, Int.reduceNeg, Nat.reduceLeDiff, Int.reduceToNat, Int.reduceEq, Int.reduceLT, Int.reduceLE, Int.reduceAdd]
  refine goU_cut (fun x : Nat × Nat × Nat => [(6, .int .i64 x.2.2), (7, .int .i64 x.1), (8, .int .i64 x.2.1)]) (fun x H => Lead (b 0) x.1 x.2.1 x.2.2 ∧ H = Heap.emp) (fun J hJ => ?_) ?_
  · simp (disch := first | omega | assumption) only [steps, st2, pev, rev, oev, optr, ibin, sbin, ishf, bound, mmAll, mm2, mk, mkArgs, AV.cells, AV.boxable, AV.one, AV.strip1, fillA, fillS, Nat.reduceEqDiff, reduceCtorEq, ↓reduceIte, Nat.reduceAdd, Int.reduceNeg, Nat.reduceLeDiff, Int.reduceToNat, Int.reduceEq, Int.reduceLT, Int.reduceLE, Int.reduceAdd]
    by_cases a1 : (194 : Int) ≤ b 0
    · by_cases a2 : (b 0 : Int) < 224
      · have e := and31 (n := b 0) (by omega)
        simp (disch := first | omega | assumption) only [a1, a2, e, steps, st2, pev, rev, oev, optr, ibin, sbin, ishf, bound, mmAll, mm2, mk, mkArgs, AV.cells, AV.boxable, AV.one, AV.strip1, fillA, fillS, Nat.reduceEqDiff, reduceCtorEq, ↓reduceIte, Nat.reduceAdd, Int.reduceNeg, Nat.reduceLeDiff, Int.reduceToNat, Int.reduceEq, Int.reduceLT, Int.reduceLE, Int.reduceAdd]
        exact goJ (hJ (2, 128, b 0 % 32) _ ⟨.inl ⟨by omega, by omega, rfl, rfl, rfl⟩, rfl⟩) (by simp (disch := first | omega | assumption) only [steps, st2, pev, rev, oev, optr, ibin, sbin, ishf, bound, mmAll, mm2, mk, mkArgs, AV.cells, AV.boxable, AV.one, AV.strip1, fillA, fillS, Nat.reduceEqDiff, reduceCtorEq, ↓reduceIte, Nat.reduceAdd, Int.reduceNeg, Nat.reduceLeDiff, Int.reduceToNat, Int.reduceEq, Int.reduceLT, Int.reduceLE, Int.reduceAdd])
      · by_cases a3 : (b 0 : Int) < 240
        · have a4 : (224 : Int) ≤ b 0 := by omega
          have e := and15 (n := b 0) (by omega)
          simp (disch := first | omega | assumption) only [a1, a2, a3, a4, e, steps, st2, pev, rev, oev, optr, ibin, sbin, ishf, bound, mmAll, mm2, mk, mkArgs, AV.cells, AV.boxable, AV.one, AV.strip1, fillA, fillS, Nat.reduceEqDiff, reduceCtorEq, ↓reduceIte, Nat.reduceAdd, Int.reduceNeg, Nat.reduceLeDiff, Int.reduceToNat, Int.reduceEq, Int.reduceLT, Int.reduceLE, Int.reduceAdd]
          exact goJ (hJ (3, 2048, b 0 % 16) _ ⟨.inr (.inl ⟨by omega, by omega, rfl, rfl, rfl⟩), rfl⟩) (by simp (disch := first | omega | assumption) only [steps, st2, pev, rev, oev, optr, ibin, sbin, ishf, bound, mmAll, mm2, mk, mkArgs, AV.cells, AV.boxable, AV.one, AV.strip1, fillA, fillS, Nat.reduceEqDiff, reduceCtorEq, ↓reduceIte, Nat.reduceAdd, Int.reduceNeg, Nat.reduceLeDiff, Int.reduceToNat, Int.reduceEq, Int.reduceLT, Int.reduceLE, Int.reduceAdd])
        · have a4 : (224 : Int) ≤ b 0 := by omega
          have a5 : (240 : Int) ≤ b 0 := by omega
          by_cases a6 : (b 0 : Int) < 245
          · have e := and7 (n := b 0) (by omega)
            simp (disch := first | omega | assumption) only [a1, a2, a3, a4, a5, a6, e, steps, st2, pev, rev, oev, optr, ibin, sbin, ishf, bound, mmAll, mm2, mk, mkArgs, AV.cells, AV.boxable, AV.one, AV.strip1, fillA, fillS, Nat.reduceEqDiff, reduceCtorEq, ↓reduceIte, Nat.reduceAdd, Int.reduceNeg, Nat.reduceLeDiff, Int.reduceToNat, Int.reduceEq, Int.reduceLT, Int.reduceLE, Int.reduceAdd]
            exact goJ (hJ (4, 65536, b 0 % 8) _ ⟨.inr (.inr ⟨by omega, by omega, rfl, rfl, rfl⟩), rfl⟩) (by simp (disch := first | omega | assumption) only [steps, st2, pev, rev, oev, optr, ibin, sbin, ishf, bound, mmAll, mm2, mk, mkArgs, AV.cells, AV.boxable, AV.one, AV.strip1, fillA, fillS, Nat.reduceEqDiff, reduceCtorEq, ↓reduceIte, Nat.reduceAdd, Int.reduceNeg, Nat.reduceLeDiff, Int.reduceToNat, Int.reduceEq, Int.reduceLT, Int.reduceLE, Int.reduceAdd])
          · rw [Lib.decodeN_bad _ _ _ _ _ (.inr ⟨by omega, hbl 0⟩), if_pos rfl] at hQ
            simp (disch := first | omega | assumption) only [a1, a2, a3, a4, a5, a6, steps, st2, pev, rev, oev, optr, ibin, sbin, ishf, bound, mmAll, mm2, mk, mkArgs, AV.cells, AV.boxable, AV.one, AV.strip1, fillA, fillS, Nat.reduceEqDiff, reduceCtorEq, ↓reduceIte, Nat.reduceAdd, Int.reduceNeg, Nat.reduceLeDiff, Int.reduceToNat, Int.reduceEq, Int.reduceLT, Int.reduceLE, Int.reduceAdd]
            exact hQ _ _ _ _ nofun rfl (by simp [tupOf, envOf, AV.strip, AV.strip1])
    · have a2 : ¬ (224 : Int) ≤ b 0 := by omega
      have a3 : ¬ (240 : Int) ≤ b 0 := by omega
      rw [Lib.decodeN_bad _ _ _ _ _ (.inl ⟨by omega, by omega⟩), if_pos rfl] at hQ
      simp (disch := first | omega | assumption) only [a1, a2, a3, steps, st2, pev, rev, oev, optr, ibin, sbin, ishf, bound, mmAll, mm2, mk, mkArgs, AV.cells, AV.boxable, AV.one, AV.strip1, fillA, fillS, Nat.reduceEqDiff, reduceCtorEq, ↓reduceIte, Nat.reduceAdd, Int.reduceNeg, Nat.reduceLeDiff, Int.reduceToNat, Int.reduceEq, Int.reduceLT, Int.reduceLE, Int.reduceAdd]
      exact hQ _ _ _ _ nofun rfl (by simp [tupOf, envOf, AV.strip, AV.strip1])
  rintro ⟨w, lo, v⟩ H ⟨hL, rfl⟩
  simp only at hL
  have hv : v < 32 ∧ 2 ≤ w ∧ w ≤ 4 ∧ lo ≤ 65536 := by rcases hL with h | h | h <;> omega
  by_cases g : w ≤ s.length - i
  case neg =>
    have g' : (s.length : Int) - i < w := by omega
    rw [dec_short hL (by omega), if_pos rfl] at hQ
    simp (disch := first | omega | assumption) only [wrap64, g', steps, st2, pev, rev, oev, optr, ibin, sbin, ishf, bound, mmAll, mm2, mk, mkArgs, AV.cells, AV.boxable, AV.one, AV.strip1, fillA, fillS, Nat.reduceEqDiff, reduceCtorEq, ↓reduceIte, Nat.reduceAdd, Int.reduceNeg, Nat.reduceLeDiff, Int.reduceToNat, Int.reduceEq, Int.reduceLT, Int.reduceLE, Int.reduceAdd]
    exact hQ _ _ _ _ nofun rfl (by simp [tupOf, envOf, AV.strip, AV.strip1])
  have g' : ¬ (s.length : Int) - i < w := by omega
  simp (disch := first | omega | assumption) only [wrap64, g', steps, st2, pev, rev, oev, optr, ibin, sbin, ishf, bound, mmAll, mm2, mk, mkArgs, AV.cells, AV.boxable, AV.one, AV.strip1, fillA, fillS, Nat.reduceEqDiff, reduceCtorEq, ↓reduceIte, Nat.reduceAdd, Int.reduceNeg, Nat.reduceLeDiff, Int.reduceToNat, Int.reduceEq, Int.reduceLT, Int.reduceLE, Int.reduceAdd]
  refine goL_st (fun j : Nat => [(6, .int .i64 (cv v b j)), (9, .int .i64 (j + 1 : Nat))]) (fun j H => j + 1 ≤ w ∧ (∀ k, 1 ≤ k → k < j + 1 → 128 ≤ b k ∧ b k ≤ 191) ∧ cv v b j < 32 * 64 ^ j) (fun j => w - j) 0 (by simp (disch := first | omega | assumption) only [cv, steps, st2, pev, rev, oev, optr, ibin, sbin, ishf, bound, mmAll, mm2, mk, mkArgs, AV.cells, AV.boxable, AV.one, AV.strip1, fillA, fillS, Nat.reduceEqDiff, reduceCtorEq, ↓reduceIte, Nat.reduceAdd, Int.reduceNeg, Nat.reduceLeDiff, Int.reduceToNat, Int.reduceEq, Int.reduceLT, Int.reduceLE, Int.reduceAdd]) ⟨by omega, fun k h1 h2 => by omega, by simp [cv]; omega⟩ ?_
  rintro j H J ⟨hj, hcont, hcv⟩ hJ
  have hcv2 : cv v b j < 8388608 := by
    have : j = 0 ∨ j = 1 ∨ j = 2 ∨ j = 3 := by omega
    rcases this with rfl | rfl | rfl | rfl <;> omega
  by_cases hjw : j + 1 < w
  · have hjw' : ((j + 1 : Nat) : Int) < w := by omega
    have hto : ((i : Int) + ((j + 1 : Nat) : Int)).toNat = i + (j + 1) := by omega
    have hi1 : (0 : Int) ≤ (i : Int) + ((j + 1 : Nat) : Int) := by omega
    have hi2 : (i : Int) + ((j + 1 : Nat) : Int) < s.length := by omega
    obtain ⟨d, hd⟩ : ∃ d, s.getD (i + (j + 1)) 0 = d := ⟨_, rfl⟩
    have hdb : (d.toNat : Int) = (b (j + 1) : Nat) := by rw [← hd, ← bk]
    have hb1 := hbl (j + 1)
    have hw1 : IntKind.wrap .i64 ((b (j + 1) : Nat) : Int) = (b (j + 1) : Nat) := wrap_nat (by omega)
    simp (disch := first | omega | assumption) only [hjw', wrap64, hto, hi1, hi2, hd, hdb, hw1, steps, st2, pev, rev, oev, optr, ibin, sbin, ishf, bound, mmAll, mm2, mk, mkArgs, AV.cells, AV.boxable, AV.one, AV.strip1, fillA, fillS, Nat.reduceEqDiff, reduceCtorEq, ↓reduceIte, Nat.reduceAdd, Int.reduceNeg, Nat.reduceLeDiff, Int.reduceToNat, Int.reduceEq, Int.reduceLT, Int.reduceLE, Int.reduceAdd]
    by_cases a1 : ((b (j + 1) : Nat) : Int) < 128
    · rw [dec_cont hL (by omega) hjw (.inl (by omega)), if_pos rfl] at hQ
      simp (disch := first | omega | assumption) only [a1, steps, st2, pev, rev, oev, optr, ibin, sbin, ishf, bound, mmAll, mm2, mk, mkArgs, AV.cells, AV.boxable, AV.one, AV.strip1, fillA, fillS, Nat.reduceEqDiff, reduceCtorEq, ↓reduceIte, Nat.reduceAdd, Int.reduceNeg, Nat.reduceLeDiff, Int.reduceToNat, Int.reduceEq, Int.reduceLT, Int.reduceLE, Int.reduceAdd]
      exact hQ _ _ _ _ nofun rfl (by simp [tupOf, envOf, AV.strip, AV.strip1])
    by_cases a2 : (191 : Int) < ((b (j + 1) : Nat) : Int)
    · rw [dec_cont hL (by omega) hjw (.inr (by omega)), if_pos rfl] at hQ
      simp (disch := first | omega | assumption) only [a1, a2, steps, st2, pev, rev, oev, optr, ibin, sbin, ishf, bound, mmAll, mm2, mk, mkArgs, AV.cells, AV.boxable, AV.one, AV.strip1, fillA, fillS, Nat.reduceEqDiff, reduceCtorEq, ↓reduceIte, Nat.reduceAdd, Int.reduceNeg, Nat.reduceLeDiff, Int.reduceToNat, Int.reduceEq, Int.reduceLT, Int.reduceLE, Int.reduceAdd]
      exact hQ _ _ _ _ nofun rfl (by simp [tupOf, envOf, AV.strip, AV.strip1])
    have e1 := and63 (n := b (j + 1)) (by omega)
    have e2 : IntKind.wrap .i64 ((cv v b j : Int) * 2 ^ (min 6 IntKind.i64.bits)) = ((cv v b j * 64 : Nat) : Int) := by
      have e3 : (2 : Int) ^ (min 6 IntKind.i64.bits) = 64 := by decide
      rw [e3, wrap64 (by omega) (by omega)]; omega
    have e4 := or64 (a := cv v b j) (b := b (j + 1) % 64) (by omega) (Nat.mod_lt _ (by omega))
    simp (disch := first | omega | assumption) only [a1, a2, e1, e2, e4, steps, st2, pev, rev, oev, optr, ibin, sbin, ishf, bound, mmAll, mm2, mk, mkArgs, AV.cells, AV.boxable, AV.one, AV.strip1, fillA, fillS, Nat.reduceEqDiff, reduceCtorEq, ↓reduceIte, Nat.reduceAdd, Int.reduceNeg, Nat.reduceLeDiff, Int.reduceToNat, Int.reduceEq, Int.reduceLT, Int.reduceLE, Int.reduceAdd]
    have hpow : 32 * 64 ^ (j + 1) = 64 * (32 * 64 ^ j) := by rw [Nat.pow_succ]; omega
    exact goJ (hJ (j + 1) _ (by omega) ⟨by omega, fun k h1 h2 => by
      rcases Nat.lt_or_ge k (j + 1) with h3 | h3
      · exact hcont k h1 h3
      · have : k = j + 1 := by omega
        subst this
        omega, by simp only [cv]; omega⟩) (by simp (disch := first | omega | assumption) only [wrap64, cv, Int.natCast_add, Int.natCast_one, steps, st2, pev, rev, oev, optr, ibin, sbin, ishf, bound, mmAll, mm2, mk, mkArgs, AV.cells, AV.boxable, AV.one, AV.strip1, fillA, fillS, Nat.reduceEqDiff, reduceCtorEq, ↓reduceIte, Nat.reduceAdd, Int.reduceNeg, Nat.reduceLeDiff, Int.reduceToNat, Int.reduceEq, Int.reduceLT, Int.reduceLE, Int.reduceAdd])
  · have hjw' : ¬ ((j + 1 : Nat) : Int) < w := by omega
    have hjw2 : j = w - 1 := by omega
    subst hjw2
    rw [dec_full hL g (fun k h1 h2 => hcont k h1 (by omega))] at hQ
    have hcvB : (IntKind.wrap .i64 ((cv v b (w - 1) : Nat) : Int)) = (cv v b (w - 1) : Nat) := wrap_nat (by omega)
    by_cases x1 : ((cv v b (w - 1) : Nat) : Int) < lo
    · rw [if_pos (.inl (by omega))] at hQ
      simp (disch := first | omega | assumption) only [hjw', x1, steps, st2, pev, rev, oev, optr, ibin, sbin, ishf, bound, mmAll, mm2, mk, mkArgs, AV.cells, AV.boxable, AV.one, AV.strip1, fillA, fillS, Nat.reduceEqDiff, reduceCtorEq, ↓reduceIte, Nat.reduceAdd, Int.reduceNeg, Nat.reduceLeDiff, Int.reduceToNat, Int.reduceEq, Int.reduceLT, Int.reduceLE, Int.reduceAdd]
      exact hQ _ _ _ _ nofun rfl (by simp [tupOf, envOf, AV.strip, AV.strip1])
    by_cases x2 : (1114111 : Int) < ((cv v b (w - 1) : Nat) : Int)
    · rw [if_pos (.inr (.inl (by omega)))] at hQ
      simp (disch := first | omega | assumption) only [hjw', x1, x2, steps, st2, pev, rev, oev, optr, ibin, sbin, ishf, bound, mmAll, mm2, mk, mkArgs, AV.cells, AV.boxable, AV.one, AV.strip1, fillA, fillS, Nat.reduceEqDiff, reduceCtorEq, ↓reduceIte, Nat.reduceAdd, Int.reduceNeg, Nat.reduceLeDiff, Int.reduceToNat, Int.reduceEq, Int.reduceLT, Int.reduceLE, Int.reduceAdd]
      exact hQ _ _ _ _ nofun rfl (by simp [tupOf, envOf, AV.strip, AV.strip1])
    by_cases x3 : (55296 : Int) ≤ ((cv v b (w - 1) : Nat) : Int)
    · by_cases x4 : ((cv v b (w - 1) : Nat) : Int) < 57344
      · rw [if_pos (.inr (.inr ⟨by omega, by omega⟩))] at hQ
        simp (disch := first | omega | assumption) only [hjw', x1, x2, x3, x4, steps, st2, pev, rev, oev, optr, ibin, sbin, ishf, bound, mmAll, mm2, mk, mkArgs, AV.cells, AV.boxable, AV.one, AV.strip1, fillA, fillS, Nat.reduceEqDiff, reduceCtorEq, ↓reduceIte, Nat.reduceAdd, Int.reduceNeg, Nat.reduceLeDiff, Int.reduceToNat, Int.reduceEq, Int.reduceLT, Int.reduceLE, Int.reduceAdd]
        exact hQ _ _ _ _ nofun rfl (by simp [tupOf, envOf, AV.strip, AV.strip1])
      · rw [if_neg (by omega)] at hQ
        simp (disch := first | omega | assumption) only [hjw', x1, x2, x3, x4, steps, st2, pev, rev, oev, optr, ibin, sbin, ishf, bound, mmAll, mm2, mk, mkArgs, AV.cells, AV.boxable, AV.one, AV.strip1, fillA, fillS, Nat.reduceEqDiff, reduceCtorEq, ↓reduceIte, Nat.reduceAdd, Int.reduceNeg, Nat.reduceLeDiff, Int.reduceToNat, Int.reduceEq, Int.reduceLT, Int.reduceLE, Int.reduceAdd]
        exact hQ _ _ _ _ nofun rfl (by simp [tupOf, envOf, AV.strip, AV.strip1])
    · rw [if_neg (by omega)] at hQ
      simp (disch := first | omega | assumption) only [hjw', x1, x2, x3, steps, st2, pev, rev, oev, optr, ibin, sbin, ishf, bound, mmAll, mm2, mk, mkArgs, AV.cells, AV.boxable, AV.one, AV.strip1, fillA, fillS, Nat.reduceEqDiff, reduceCtorEq, ↓reduceIte, Nat.reduceAdd, Int.reduceNeg, Nat.reduceLeDiff, Int.reduceToNat, Int.reduceEq, Int.reduceLT, Int.reduceLE, Int.reduceAdd]
      exact hQ _ _ _ _ nofun rfl (by simp [tupOf, envOf, AV.strip, AV.strip1])
end Go.Proofs.YtpjafglhdlfnbaaGreatDoor
namespace Go.Proofs.YtpjafglhdlfnbaaGreatDoor
open Go.Ab
def cZ (l : List Int) : List (List AV) := l.map fun n => [.int .i64 n]
theorem cZ_len (l : List Int) : (cZ l).length = l.length := by simp [cZ]
def codesG : Nat → List UInt8 → List Int
  | 0, _ => []
  | k + 1, l => if l = [] then [] else ((codeN l).1 : Int) :: codesG k (l.drop (codeN l).2)
theorem codesG_nil (k : Nat) : codesG k [] = [] := by cases k <;> simp [codesG]
def codesM (s : List UInt8) : List Int := if Lib.validD s then codesG s.length s else []
theorem codeN_bad {l : List UInt8} (hne : l ≠ []) (h : (codeN l).2 = 0) : Lib.validD l = false := by
  have hw := Lib.decodeL_width l
  unfold codeN at h
  rw [if_neg hne] at h
  split at h
  · rename_i e
    rw [Lib.validD_step l hne, e]; simp
  · omega
theorem codeN_good {l : List UInt8} (hne : l ≠ []) (h : (codeN l).2 ≠ 0) : Lib.validD l = Lib.validD (l.drop (codeN l).2) ∧ (codeN l).2 ≤ l.length := by
  unfold codeN at h ⊢
  rw [if_neg hne] at h ⊢
  split at h
  · simp at h
  · rename_i e
    rw [if_neg e]
    refine ⟨?_, Lib.decodeL_le l hne⟩
    rw [Lib.validD_step l hne, if_neg]
    rintro ⟨a, b⟩
    exact e (Prod.ext a b)
theorem CodesR (s : List UInt8) (hs : s.length ≤ Lim) : Pure Tryz.prog 69 [.str s] (.tup [.sl .no 1 (cZ (codesM s)), .bool (Lib.validD s)]) := by
  refine Pure.go ir69 ck69 (Nat.le_refl _) fun KP Q hQ => ?_
  have hs' := hs
  simp only [Lim] at hs
  simp (disch := first | omega | assumption) only [ir69, go_sem, ↓reduceIte]
  refine goL_st (fun x : Own × List Int × Nat => [(4, .sl x.1 1 (cZ x.2.1)), (5, .int .i64 x.2.2)])
    (fun x H => x.2.2 ≤ s.length ∧ x.2.1.length ≤ x.2.2 ∧ codesG s.length s = x.2.1 ++ codesG (s.length - x.2.1.length) (s.drop x.2.2) ∧ Lib.validD s = Lib.validD (s.drop x.2.2) ∧ OwnS Heap.emp .nil H x.1 x.2.1.length 1) (fun x => s.length - x.2.2) (.nil, [], 0) (by simp (disch := first | omega | assumption) only [cZ, go_sem, ↓reduceIte]) ⟨by simp, by simp, by simp, by simp, OwnS.refl rfl⟩ ?_
  rintro ⟨o, acc, i⟩ H J ⟨hi, hai, hc, hv, hs1⟩ hJ
  simp only at hi hai hc hv hs1
  by_cases hlt : i < s.length
  case neg =>
    have hlt' : ¬ (i : Int) < s.length := by omega
    rw [List.drop_of_length_le (by omega)] at hc hv
    rw [codesG_nil, List.append_nil] at hc
    rw [Lib.validD_nil] at hv
    simp (disch := first | omega | assumption) only [hlt', go_sem, ↓reduceIte]
    exact hQ _ _ _ _ nofun rfl (by simp [tupOf, envOf, AV.strip, AV.strip1, codesM, hv, hc])
  have hlt' : (i : Int) < s.length := by omega
  have hne : s.drop i ≠ [] := fun e => by have := congrArg List.length e; simp at this; omega
  have hcl := cZ_len acc
  simp (disch := first | omega | assumption) only [hlt', go_sem, ↓reduceIte]
  refine goK_pure (Pure.low (CodeR s i hlt hs')) ?_
  by_cases h0 : (codeN (s.drop i)).2 = 0
  · rw [codeN_bad hne h0] at hv
    have h0' : ((codeN (s.drop i)).2 : Int) = 0 := by omega
    simp (disch := first | omega | assumption) only [h0', go_sem, ↓reduceIte]
    exact hQ _ _ _ _ nofun rfl (by simp [tupOf, envOf, AV.strip, AV.strip1, codesM, hv, cZ])
  · obtain ⟨g1, g2⟩ := codeN_good hne h0
    rw [List.length_drop] at g2
    rw [List.drop_drop] at g1
    have h0' : ¬ ((codeN (s.drop i)).2 : Int) = 0 := by omega
    simp (disch := first | omega | assumption) only [h0', go_sem, ↓reduceIte]
    refine goP_ownS (by rw [hcl]; exact hs1.own) ?_ ?_ fun o' H' hs2 => ?_
    · simp only [hcl, List.length_cons, List.length_nil]; omega
    · simp only [hcl, List.length_cons, List.length_nil, maxLen]; omega
    simp (disch := first | omega | assumption) only [wrap64, go_sem, ↓reduceIte]
    refine goJ (hJ (o', acc ++ [((codeN (s.drop i)).1 : Int)], i + (codeN (s.drop i)).2) H' (by simp only; omega) ⟨by simp only; omega, by simp only [List.length_append, List.length_cons, List.length_nil]; omega, ?_, by rw [hv, g1], hs1.trans (by simpa [hcl] using hs2)⟩) (by simp (disch := first | omega | assumption) only [cZ, List.map_append, Int.natCast_add, go_sem, ↓reduceIte])
    rw [hc]
    obtain ⟨k, hk⟩ : ∃ k, s.length - acc.length = k + 1 := ⟨s.length - acc.length - 1, by omega⟩
    have hk2 : s.length - (acc ++ [((codeN (s.drop i)).1 : Int)]).length = k := by simp only [List.length_append, List.length_cons, List.length_nil]; omega
    simp only [hk, hk2, codesG]
    rw [if_neg hne, List.drop_drop]
    simp
theorem GoodR (s : List UInt8) (hs : s.length ≤ Lim) : Pure Tryz.prog 36 [.str s] (.bool (Lib.validD s)) := by
  refine Pure.go ir36 ck36 (Nat.le_refl _) fun KP Q hQ => ?_
  simp (disch := first | omega | assumption) only [ir36, go_sem, ↓reduceIte]
  refine goK_pure (CodesR s hs) ?_
  simp (disch := first | omega | assumption) only [go_sem, ↓reduceIte]
  exact hQ _ _ _ _ nofun rfl (by simp [tupOf, envOf, AV.strip, AV.strip1])
end Go.Proofs.YtpjafglhdlfnbaaGreatDoor
namespace Go.Proofs.YtpjafglhdlfnbaaGreatDoor
open Go.Ab
theorem goodValueR : ∀ v, bV v ≤ Lim → Pure Tryz.prog 45 [.agg (cV v)] (.bool (goodV v)) := by
  refine Val.ind fun k n s l m ihl ihm hb => ?_
  have hb' : 1 + s.length + bVs l + bMs m ≤ Lim := hb
  have hll := bVs_len l
  have hml := bMs_len m
  have h1 := cVs_len l
  have h2 := cMs_len m
  have hsl : s.length ≤ Lim := by omega
  simp only [Lim] at hb'
  refine Pure.go ir45 ck45 (Nat.le_refl _) fun KP Q hQ => ?_
  by_cases k0 : k = 0
  · subst k0
    by_cases n0 : n = 0
    case neg =>
      simp (disch := first | omega | assumption) only [ir45, cV_mk, h1, h2, n0, go_sem, ↓reduceIte]
      exact hQ _ _ _ _ nofun rfl (by simp [tupOf, envOf, AV.strip, AV.strip1, goodV, allV, singleM, bareM, n0])
    subst n0
    by_cases hl : (0 : Int) < l.length
    · have hl2 : ¬ l.length = 0 := by omega
      have hl3 : l ≠ [] := fun e => by subst e; simp at hl2
      simp (disch := first | omega | assumption) only [ir45, cV_mk, h1, h2, hl, go_sem, ↓reduceIte]
      exact hQ _ _ _ _ nofun rfl (by simp [tupOf, envOf, AV.strip, AV.strip1, goodV, allV, singleM, bareM, hl2, hl3])
    have hl2 : l = [] := List.eq_nil_of_length_eq_zero (by omega)
    by_cases hm : (0 : Int) < m.length
    · have hm2 : ¬ m.length = 0 := by omega
      have hm3 : m ≠ [] := fun e => by subst e; simp at hm2
      simp (disch := first | omega | assumption) only [ir45, cV_mk, h1, h2, hl, hm, go_sem, ↓reduceIte]
      exact hQ _ _ _ _ nofun rfl (by simp [tupOf, envOf, AV.strip, AV.strip1, goodV, allV, singleM, bareM, hl2, hm2, hm3])
    have hm2 : m = [] := List.eq_nil_of_length_eq_zero (by omega)
    by_cases s0 : s = []
    case neg =>
      simp (disch := first | omega | assumption) only [ir45, cV_mk, h1, h2, hl, hm, s0, go_sem, ↓reduceIte]
      exact hQ _ _ _ _ nofun rfl (by simp [tupOf, envOf, AV.strip, AV.strip1, goodV, allV, singleM, bareM, hl2, hm2, s0])
    subst s0
    simp (disch := first | omega | assumption) only [ir45, cV_mk, h1, h2, hl, hm, go_sem, ↓reduceIte]
    exact hQ _ _ _ _ nofun rfl (by simp [tupOf, envOf, AV.strip, AV.strip1, goodV, allV, singleM, bareM, hl2, hm2])
  by_cases k1 : k = 1
  · subst k1
    by_cases hl : (0 : Int) < l.length
    · have hl2 : ¬ l.length = 0 := by omega
      have hl3 : l ≠ [] := fun e => by subst e; simp at hl2
      simp (disch := first | omega | assumption) only [ir45, cV_mk, h1, h2, hl, go_sem, ↓reduceIte]
      exact hQ _ _ _ _ nofun rfl (by simp [tupOf, envOf, AV.strip, AV.strip1, goodV, allV, singleM, bareM, hl2, hl3])
    have hl2 : l = [] := List.eq_nil_of_length_eq_zero (by omega)
    by_cases hm : (0 : Int) < m.length
    · have hm2 : ¬ m.length = 0 := by omega
      have hm3 : m ≠ [] := fun e => by subst e; simp at hm2
      simp (disch := first | omega | assumption) only [ir45, cV_mk, h1, h2, hl, hm, go_sem, ↓reduceIte]
      exact hQ _ _ _ _ nofun rfl (by simp [tupOf, envOf, AV.strip, AV.strip1, goodV, allV, singleM, bareM, hl2, hm2, hm3])
    have hm2 : m = [] := List.eq_nil_of_length_eq_zero (by omega)
    by_cases s0 : s = []
    case neg =>
      simp (disch := first | omega | assumption) only [ir45, cV_mk, h1, h2, hl, hm, s0, go_sem, ↓reduceIte]
      exact hQ _ _ _ _ nofun rfl (by simp [tupOf, envOf, AV.strip, AV.strip1, goodV, allV, singleM, bareM, hl2, hm2, s0])
    subst s0
    by_cases n0 : n = 0
    · subst n0
      simp (disch := first | omega | assumption) only [ir45, cV_mk, h1, h2, hl, hm, go_sem, ↓reduceIte]
      exact hQ _ _ _ _ nofun rfl (by simp [tupOf, envOf, AV.strip, AV.strip1, goodV, allV, singleM, bareM, hl2, hm2])
    by_cases n1 : n = 1
    · subst n1
      simp (disch := first | omega | assumption) only [ir45, cV_mk, h1, h2, hl, hm, go_sem, ↓reduceIte]
      exact hQ _ _ _ _ nofun rfl (by simp [tupOf, envOf, AV.strip, AV.strip1, goodV, allV, singleM, bareM, hl2, hm2])
    simp (disch := first | omega | assumption) only [ir45, cV_mk, h1, h2, hl, hm, n0, n1, go_sem, ↓reduceIte]
    exact hQ _ _ _ _ nofun rfl (by simp [tupOf, envOf, AV.strip, AV.strip1, goodV, allV, singleM, bareM, hl2, hm2, n0, n1])
  by_cases k2 : k = 2
  · subst k2
    by_cases hl : (0 : Int) < l.length
    · have hl2 : ¬ l.length = 0 := by omega
      have hl3 : l ≠ [] := fun e => by subst e; simp at hl2
      simp (disch := first | omega | assumption) only [ir45, cV_mk, h1, h2, hl, go_sem, ↓reduceIte]
      exact hQ _ _ _ _ nofun rfl (by simp [tupOf, envOf, AV.strip, AV.strip1, goodV, allV, singleM, bareM, hl2, hl3])
    have hl2 : l = [] := List.eq_nil_of_length_eq_zero (by omega)
    by_cases hm : (0 : Int) < m.length
    · have hm2 : ¬ m.length = 0 := by omega
      have hm3 : m ≠ [] := fun e => by subst e; simp at hm2
      simp (disch := first | omega | assumption) only [ir45, cV_mk, h1, h2, hl, hm, go_sem, ↓reduceIte]
      exact hQ _ _ _ _ nofun rfl (by simp [tupOf, envOf, AV.strip, AV.strip1, goodV, allV, singleM, bareM, hl2, hm2, hm3])
    have hm2 : m = [] := List.eq_nil_of_length_eq_zero (by omega)
    by_cases s0 : s = []
    case neg =>
      simp (disch := first | omega | assumption) only [ir45, cV_mk, h1, h2, hl, hm, s0, go_sem, ↓reduceIte]
      exact hQ _ _ _ _ nofun rfl (by simp [tupOf, envOf, AV.strip, AV.strip1, goodV, allV, singleM, bareM, hl2, hm2, s0])
    subst s0
    simp (disch := first | omega | assumption) only [ir45, cV_mk, h1, h2, hl, hm, go_sem, ↓reduceIte]
    exact hQ _ _ _ _ nofun rfl (by simp [tupOf, envOf, AV.strip, AV.strip1, goodV, allV, singleM, bareM, hl2, hm2])
  by_cases k3 : k = 3
  · subst k3
    by_cases n0 : n = 0
    case neg =>
      simp (disch := first | omega | assumption) only [ir45, cV_mk, h1, h2, n0, go_sem, ↓reduceIte]
      exact hQ _ _ _ _ nofun rfl (by simp [tupOf, envOf, AV.strip, AV.strip1, goodV, allV, singleM, bareM, n0])
    subst n0
    by_cases hl : (0 : Int) < l.length
    · have hl2 : ¬ l.length = 0 := by omega
      have hl3 : l ≠ [] := fun e => by subst e; simp at hl2
      simp (disch := first | omega | assumption) only [ir45, cV_mk, h1, h2, hl, go_sem, ↓reduceIte]
      exact hQ _ _ _ _ nofun rfl (by simp [tupOf, envOf, AV.strip, AV.strip1, goodV, allV, singleM, bareM, hl2, hl3])
    have hl2 : l = [] := List.eq_nil_of_length_eq_zero (by omega)
    by_cases hm : (0 : Int) < m.length
    · have hm2 : ¬ m.length = 0 := by omega
      have hm3 : m ≠ [] := fun e => by subst e; simp at hm2
      simp (disch := first | omega | assumption) only [ir45, cV_mk, h1, h2, hl, hm, go_sem, ↓reduceIte]
      exact hQ _ _ _ _ nofun rfl (by simp [tupOf, envOf, AV.strip, AV.strip1, goodV, allV, singleM, bareM, hl2, hm2, hm3])
    have hm2 : m = [] := List.eq_nil_of_length_eq_zero (by omega)
    simp (disch := first | omega | assumption) only [ir45, cV_mk, h1, h2, hl, hm, go_sem, ↓reduceIte]
    have hcl := num_clause s
    refine goK_pure (NumberR s hsl) ?_
    by_cases s0 : s = []
    · simp (disch := first | omega | assumption) only [s0, go_sem, ↓reduceIte]
      simp only [s0, ne_eq, not_true_eq_false, decide_false, Bool.false_and] at hcl
      exact hQ _ _ _ _ nofun rfl (by simp [tupOf, envOf, AV.strip, AV.strip1, goodV, allV, singleM, bareM, hl2, hm2, s0, ← hcl])
    by_cases z : numK s = 0
    · simp (disch := first | omega | assumption) only [s0, z, go_sem, ↓reduceIte]
      simp only [z, ne_eq, not_true_eq_false, decide_false, Bool.false_and, Bool.and_false] at hcl
      exact hQ _ _ _ _ nofun rfl (by simp [tupOf, envOf, AV.strip, AV.strip1, goodV, allV, singleM, bareM, hl2, hm2, ← hcl])
    simp (disch := first | omega | assumption) only [s0, z, go_sem, ↓reduceIte]
    refine goK_pure (int64R s hsl) ?_
    have e1 : decide (s ≠ []) = true := by simpa using s0
    have e2 : decide (numK s ≠ 0) = true := by simpa using z
    rw [e1, e2, Bool.true_and, Bool.true_and] at hcl
    by_cases f : numK s = 4
    · simp (disch := first | omega | assumption) only [f, go_sem, ↓reduceIte]
      rw [decide_eq_true f, Bool.true_or] at hcl
      exact hQ _ _ _ _ nofun rfl (by simp [tupOf, envOf, AV.strip, AV.strip1, goodV, allV, singleM, bareM, hl2, hm2, ← hcl])
    · simp (disch := first | omega | assumption) only [f, go_sem, ↓reduceIte]
      rw [decide_eq_false f, Bool.false_or] at hcl
      exact hQ _ _ _ _ nofun rfl (by simp [tupOf, envOf, AV.strip, AV.strip1, goodV, allV, singleM, bareM, hl2, hm2, ← hcl])
  by_cases k4 : k = 4
  · subst k4
    by_cases n0 : n = 0
    case neg =>
      simp (disch := first | omega | assumption) only [ir45, cV_mk, h1, h2, n0, go_sem, ↓reduceIte]
      exact hQ _ _ _ _ nofun rfl (by simp [tupOf, envOf, AV.strip, AV.strip1, goodV, allV, singleM, bareM, n0])
    subst n0
    by_cases hl : (0 : Int) < l.length
    · have hl2 : ¬ l.length = 0 := by omega
      have hl3 : l ≠ [] := fun e => by subst e; simp at hl2
      simp (disch := first | omega | assumption) only [ir45, cV_mk, h1, h2, hl, go_sem, ↓reduceIte]
      exact hQ _ _ _ _ nofun rfl (by simp [tupOf, envOf, AV.strip, AV.strip1, goodV, allV, singleM, bareM, hl2, hl3])
    have hl2 : l = [] := List.eq_nil_of_length_eq_zero (by omega)
    by_cases hm : (0 : Int) < m.length
    · have hm2 : ¬ m.length = 0 := by omega
      have hm3 : m ≠ [] := fun e => by subst e; simp at hm2
      simp (disch := first | omega | assumption) only [ir45, cV_mk, h1, h2, hl, hm, go_sem, ↓reduceIte]
      exact hQ _ _ _ _ nofun rfl (by simp [tupOf, envOf, AV.strip, AV.strip1, goodV, allV, singleM, bareM, hl2, hm2, hm3])
    have hm2 : m = [] := List.eq_nil_of_length_eq_zero (by omega)
    simp (disch := first | omega | assumption) only [ir45, cV_mk, h1, h2, hl, hm, go_sem, ↓reduceIte]
    refine goK_pure (GoodR s hsl) ?_
    simp (disch := first | omega | assumption) only [go_sem, ↓reduceIte]
    exact hQ _ _ _ _ nofun rfl (by simp [tupOf, envOf, AV.strip, AV.strip1, goodV, allV, singleM, bareM, hl2, hm2])
  by_cases k5 : k = 5
  · subst k5
    by_cases n0 : n = 0
    case neg =>
      simp (disch := first | omega | assumption) only [ir45, cV_mk, h1, h2, n0, go_sem, ↓reduceIte]
      exact hQ _ _ _ _ nofun rfl (by simp [tupOf, envOf, AV.strip, AV.strip1, goodV, allV, singleM, bareM, n0])
    subst n0
    by_cases hl : (0 : Int) < l.length
    · have hl2 : ¬ l.length = 0 := by omega
      have hl3 : l ≠ [] := fun e => by subst e; simp at hl2
      simp (disch := first | omega | assumption) only [ir45, cV_mk, h1, h2, hl, go_sem, ↓reduceIte]
      exact hQ _ _ _ _ nofun rfl (by simp [tupOf, envOf, AV.strip, AV.strip1, goodV, allV, singleM, bareM, hl2, hl3])
    have hl2 : l = [] := List.eq_nil_of_length_eq_zero (by omega)
    by_cases hm : (0 : Int) < m.length
    · have hm2 : ¬ m.length = 0 := by omega
      have hm3 : m ≠ [] := fun e => by subst e; simp at hm2
      simp (disch := first | omega | assumption) only [ir45, cV_mk, h1, h2, hl, hm, go_sem, ↓reduceIte]
      exact hQ _ _ _ _ nofun rfl (by simp [tupOf, envOf, AV.strip, AV.strip1, goodV, allV, singleM, bareM, hl2, hm2, hm3])
    have hm2 : m = [] := List.eq_nil_of_length_eq_zero (by omega)
    simp (disch := first | omega | assumption) only [ir45, cV_mk, h1, h2, hl, hm, go_sem, ↓reduceIte]
    refine goK_pure (nameR s hsl) ?_
    cases hn : nameM s with
    | false =>
      simp (disch := first | omega | assumption) only [hn, go_sem, ↓reduceIte]
      exact hQ _ _ _ _ nofun rfl (by simp [tupOf, envOf, AV.strip, AV.strip1, goodV, allV, singleM, bareM, hl2, hm2, hn])
    | true =>
      by_cases r1 : s = [116, 114, 117, 101]
      · simp (disch := first | omega | assumption) only [hn, r1, go_sem, ↓reduceIte]
        exact hQ _ _ _ _ nofun rfl (by simp [tupOf, envOf, AV.strip, AV.strip1, goodV, allV, singleM, bareM, hl2, hm2, hn, resB, r1])
      by_cases r2 : s = [102, 97, 108, 115, 101]
      · have q : ¬ ([102, 97, 108, 115, 101] : List UInt8) = [116, 114, 117, 101] := by decide
        simp (disch := first | omega | assumption) only [hn, r2, q, go_sem, ↓reduceIte]
        exact hQ _ _ _ _ nofun rfl (by simp [tupOf, envOf, AV.strip, AV.strip1, goodV, allV, singleM, bareM, hl2, hm2, hn, resB, r2])
      by_cases r3 : s = [110, 117, 108, 108]
      · have q : ¬ ([110, 117, 108, 108] : List UInt8) = [116, 114, 117, 101] := by decide
        have q2 : ¬ ([110, 117, 108, 108] : List UInt8) = [102, 97, 108, 115, 101] := by decide
        simp (disch := first | omega | assumption) only [hn, r3, q, q2, go_sem, ↓reduceIte]
        exact hQ _ _ _ _ nofun rfl (by simp [tupOf, envOf, AV.strip, AV.strip1, goodV, allV, singleM, bareM, hl2, hm2, hn, resB, r3])
      simp (disch := first | omega | assumption) only [hn, r1, r2, r3, go_sem, ↓reduceIte]
      exact hQ _ _ _ _ nofun rfl (by simp [tupOf, envOf, AV.strip, AV.strip1, goodV, allV, singleM, bareM, hl2, hm2, hn, resB, r1, r2, r3])
  by_cases k8 : k = 8
  · subst k8
    by_cases n0 : n = 0
    case neg =>
      simp (disch := first | omega | assumption) only [ir45, cV_mk, h1, h2, n0, go_sem, ↓reduceIte]
      exact hQ _ _ _ _ nofun rfl (by simp [tupOf, envOf, AV.strip, AV.strip1, goodV, allV, singleM, bareM, n0])
    subst n0
    by_cases hl : (0 : Int) < l.length
    · have hl2 : ¬ l.length = 0 := by omega
      have hl3 : l ≠ [] := fun e => by subst e; simp at hl2
      simp (disch := first | omega | assumption) only [ir45, cV_mk, h1, h2, hl, go_sem, ↓reduceIte]
      exact hQ _ _ _ _ nofun rfl (by simp [tupOf, envOf, AV.strip, AV.strip1, goodV, allV, singleM, bareM, hl2, hl3])
    have hl2 : l = [] := List.eq_nil_of_length_eq_zero (by omega)
    by_cases hm : (0 : Int) < m.length
    · have hm2 : ¬ m.length = 0 := by omega
      have hm3 : m ≠ [] := fun e => by subst e; simp at hm2
      simp (disch := first | omega | assumption) only [ir45, cV_mk, h1, h2, hl, hm, go_sem, ↓reduceIte]
      exact hQ _ _ _ _ nofun rfl (by simp [tupOf, envOf, AV.strip, AV.strip1, goodV, allV, singleM, bareM, hl2, hm2, hm3])
    have hm2 : m = [] := List.eq_nil_of_length_eq_zero (by omega)
    simp (disch := first | omega | assumption) only [ir45, cV_mk, h1, h2, hl, hm, go_sem, ↓reduceIte]
    refine goK_pure (nameR s hsl) ?_
    simp (disch := first | omega | assumption) only [go_sem, ↓reduceIte]
    exact hQ _ _ _ _ nofun rfl (by simp [tupOf, envOf, AV.strip, AV.strip1, goodV, allV, singleM, bareM, hl2, hm2])
  by_cases k6 : k = 6
  · subst k6
    by_cases n0 : n = 0
    case neg =>
      simp (disch := first | omega | assumption) only [ir45, cV_mk, h1, h2, n0, go_sem, ↓reduceIte]
      exact hQ _ _ _ _ nofun rfl (by simp [tupOf, envOf, AV.strip, AV.strip1, goodV, allV, singleM, bareM, n0])
    subst n0
    by_cases hm : (0 : Int) < m.length
    · have hm2 : ¬ m.length = 0 := by omega
      have hm3 : m ≠ [] := fun e => by subst e; simp at hm2
      simp (disch := first | omega | assumption) only [ir45, cV_mk, h1, h2, hm, go_sem, ↓reduceIte]
      exact hQ _ _ _ _ nofun rfl (by simp [tupOf, envOf, AV.strip, AV.strip1, goodV, allV, singleM, bareM, hm2, hm3])
    have hm2 : m = [] := List.eq_nil_of_length_eq_zero (by omega)
    by_cases s0 : s = []
    case neg =>
      simp (disch := first | omega | assumption) only [ir45, cV_mk, h1, h2, hm, s0, go_sem, ↓reduceIte]
      exact hQ _ _ _ _ nofun rfl (by simp [tupOf, envOf, AV.strip, AV.strip1, goodV, allV, singleM, bareM, hm2, s0])
    subst s0
    simp (disch := first | omega | assumption) only [ir45, cV_mk, h1, h2, hm, go_sem, ↓reduceIte]
    refine goL_range l 6 (fun _ : Unit => []) (fun done rest _ H => allVs Lib.validD rest = allVs Lib.validD l) () (by simp (disch := first | omega | assumption) only [go_sem, ↓reduceIte]) rfl ?_ ?_
    · rintro _ H J hn hlt
      simp only [allVs] at hn
      simp (disch := first | omega | assumption) only [h1, hlt, go_sem, ↓reduceIte]
      exact hQ _ _ _ _ nofun rfl (by simp [tupOf, envOf, AV.strip, AV.strip1, goodV, allV, singleM, bareM, hm2, ← hn])
    · rintro done x rest _ H J hd hlt _ hn hJ
      have hg := cVs_get hd
      have hbm := bVs_mid done x rest
      rw [← hd] at hbm
      simp only [allVs] at hn
      simp (disch := first | omega | assumption) only [cV_len, cV_take, cV_splice, cM_len, cM_take, cM_splice, cM_mk, h1, hlt, hg, go_sem, ↓reduceIte]
      refine goK_pure (ihl x (by rw [hd]; simp) (by simp only [Lim]; omega)) ?_
      have eg : goodV x = allV Lib.validD x := rfl
      rw [eg]
      cases hx : allV Lib.validD x with
      | true =>
        simp only [hx, Bool.true_and] at hn
        simp (disch := first | omega | assumption) only [hx, go_sem, ↓reduceIte]
        exact goJ (hJ () _ hn) (by simp (disch := first | omega | assumption) only [wrap64, go_sem, ↓reduceIte])
      | false =>
        simp only [hx, Bool.false_and] at hn
        simp (disch := first | omega | assumption) only [hx, go_sem, ↓reduceIte]
        exact hQ _ _ _ _ nofun rfl (by simp [tupOf, envOf, AV.strip, AV.strip1, goodV, allV, singleM, bareM, hm2, ← hn])
  by_cases k7 : k = 7
  · subst k7
    by_cases n0 : n = 0
    case neg =>
      simp (disch := first | omega | assumption) only [ir45, cV_mk, h1, h2, n0, go_sem, ↓reduceIte]
      exact hQ _ _ _ _ nofun rfl (by simp [tupOf, envOf, AV.strip, AV.strip1, goodV, allV, singleM, bareM, n0])
    subst n0
    by_cases hl : (0 : Int) < l.length
    · have hl2 : ¬ l.length = 0 := by omega
      have hl3 : l ≠ [] := fun e => by subst e; simp at hl2
      simp (disch := first | omega | assumption) only [ir45, cV_mk, h1, h2, hl, go_sem, ↓reduceIte]
      exact hQ _ _ _ _ nofun rfl (by simp [tupOf, envOf, AV.strip, AV.strip1, goodV, allV, singleM, bareM, hl2, hl3])
    have hl2 : l = [] := List.eq_nil_of_length_eq_zero (by omega)
    by_cases s0 : s = []
    case neg =>
      simp (disch := first | omega | assumption) only [ir45, cV_mk, h1, h2, hl, s0, go_sem, ↓reduceIte]
      exact hQ _ _ _ _ nofun rfl (by simp [tupOf, envOf, AV.strip, AV.strip1, goodV, allV, singleM, bareM, hl2, s0])
    subst s0
    simp (disch := first | omega | assumption) only [ir45, cV_mk, h1, h2, hl, go_sem, ↓reduceIte]
    refine goL_range m 7 (fun _ : Unit => []) (fun done rest _ H => allMs Lib.validD rest = allMs Lib.validD m) () (by simp (disch := first | omega | assumption) only [go_sem, ↓reduceIte]) rfl ?_ ?_
    · rintro _ H J hn hlt
      simp only [allMs] at hn
      simp (disch := first | omega | assumption) only [h2, hlt, go_sem, ↓reduceIte]
      exact hQ _ _ _ _ nofun rfl (by simp [tupOf, envOf, AV.strip, AV.strip1, goodV, allV, singleM, bareM, hl2, ← hn])
    · rintro done x rest _ H J hd hlt _ hn hJ
      have hg := cMs_get hd
      have hbm := bMs_mid done x rest
      rw [← hd] at hbm
      have hmem : x ∈ m := by rw [hd]; simp
      obtain ⟨t, v⟩ := x
      simp only [allMs, allM, bM] at hn hbm
      simp (disch := first | omega | assumption) only [cV_len, cV_take, cV_splice, cM_len, cM_take, cM_splice, cM_mk, h2, hlt, hg, go_sem, ↓reduceIte]
      refine goK_pure (GoodR t (by simp only [Lim]; omega)) ?_
      cases ht : Lib.validD t with
      | false =>
        simp only [ht, Bool.false_and] at hn
        simp (disch := first | omega | assumption) only [cV_len, cV_take, cV_splice, cM_len, cM_take, cM_splice, cM_mk, ht, go_sem, ↓reduceIte]
        exact hQ _ _ _ _ nofun rfl (by simp [tupOf, envOf, AV.strip, AV.strip1, goodV, allV, singleM, bareM, hl2, ← hn])
      | true =>
        simp (disch := first | omega | assumption) only [cV_len, cV_take, cV_splice, cM_len, cM_take, cM_splice, cM_mk, ht, h2, hlt, hg, go_sem, ↓reduceIte]
        refine goK_pure (ihm t v hmem (by simp only [Lim]; omega)) ?_
        have eg : goodV v = allV Lib.validD v := rfl
        rw [eg]
        cases hx : allV Lib.validD v with
        | true =>
          simp only [ht, hx, Bool.true_and] at hn
          simp (disch := first | omega | assumption) only [hx, go_sem, ↓reduceIte]
          exact goJ (hJ () _ hn) (by simp (disch := first | omega | assumption) only [wrap64, go_sem, ↓reduceIte])
        | false =>
          simp only [ht, hx, Bool.true_and, Bool.false_and] at hn
          simp (disch := first | omega | assumption) only [hx, go_sem, ↓reduceIte]
          exact hQ _ _ _ _ nofun rfl (by simp [tupOf, envOf, AV.strip, AV.strip1, goodV, allV, singleM, bareM, hl2, ← hn])
  · skip
    by_cases n0 : n = 0
    case neg =>
      simp (disch := first | omega | assumption) only [ir45, cV_mk, h1, h2, k0, k1, k2, k3, k4, k5, k8, k6, k7, n0, go_sem, ↓reduceIte]
      exact hQ _ _ _ _ nofun rfl (by simp [tupOf, envOf, AV.strip, AV.strip1, goodV, allV, singleM, bareM, k0, k1, k2, k3, k4, k5, k8, k6, k7, n0])
    subst n0
    by_cases hl : (0 : Int) < l.length
    · have hl2 : ¬ l.length = 0 := by omega
      have hl3 : l ≠ [] := fun e => by subst e; simp at hl2
      simp (disch := first | omega | assumption) only [ir45, cV_mk, h1, h2, k0, k1, k2, k3, k4, k5, k8, k6, k7, hl, go_sem, ↓reduceIte]
      exact hQ _ _ _ _ nofun rfl (by simp [tupOf, envOf, AV.strip, AV.strip1, goodV, allV, singleM, bareM, k0, k1, k2, k3, k4, k5, k8, k6, k7, hl2, hl3])
    have hl2 : l = [] := List.eq_nil_of_length_eq_zero (by omega)
    by_cases hm : (0 : Int) < m.length
    · have hm2 : ¬ m.length = 0 := by omega
      have hm3 : m ≠ [] := fun e => by subst e; simp at hm2
      simp (disch := first | omega | assumption) only [ir45, cV_mk, h1, h2, k0, k1, k2, k3, k4, k5, k8, k6, k7, hl, hm, go_sem, ↓reduceIte]
      exact hQ _ _ _ _ nofun rfl (by simp [tupOf, envOf, AV.strip, AV.strip1, goodV, allV, singleM, bareM, k0, k1, k2, k3, k4, k5, k8, k6, k7, hl2, hm2, hm3])
    have hm2 : m = [] := List.eq_nil_of_length_eq_zero (by omega)
    simp (disch := first | omega | assumption) only [ir45, cV_mk, h1, h2, k0, k1, k2, k3, k4, k5, k8, k6, k7, hl, hm, go_sem, ↓reduceIte]
    exact hQ _ _ _ _ nofun rfl (by simp [tupOf, envOf, AV.strip, AV.strip1, goodV, allV, singleM, bareM, k0, k1, k2, k3, k4, k5, k8, k6, k7, hl2, hm2])
end Go.Proofs.YtpjafglhdlfnbaaGreatDoor
namespace Go.Proofs.YtpjafglhdlfnbaaGreatDoor
open Go.Ab Go.Lib
theorem sub_one {s done rest : List UInt8} {c : UInt8} (h : s = done ++ c :: rest) : (s.take (done.length + 1)).drop done.length = [c] := by
  subst h; simp [List.take_append, List.drop_append]
theorem quo16 (c : UInt8) : IntKind.wrap .u8 ((c.toNat : Int).tdiv 16) = ((c.toNat / 16 : Nat) : Int) := by
  have h : (c.toNat : Int).tdiv 16 = ((c.toNat / 16 : Nat) : Int) := by rw [Int.tdiv_eq_ediv_of_nonneg (by omega)]; omega
  rw [h, wr8]; have := c.toNat_lt; omega
theorem rem16 (c : UInt8) : (c.toNat : Int).tmod 16 = ((c.toNat % 16 : Nat) : Int) := by
  rw [Int.tmod_eq_emod_of_nonneg (by omega)]; omega
theorem quoteR (s : List UInt8) (hs : s.length ≤ Lim) : Pure Tryz.prog 81 [.str s] (.str (quoteM s)) := by
  refine Pure.go ir81 ck81 (Nat.le_refl _) fun KP Q hQ => ?_
  simp only [Lim] at hs
  simp (disch := first | omega | assumption) only [ir81, go_sem, ↓reduceIte]
  refine goL_range s 4 (fun x : List UInt8 => [(3, .str x)]) (fun done rest x H' => x ++ rest.flatMap qB = s.flatMap qB ∧ x.length + 6 * rest.length ≤ 6 * s.length) [] (by simp (disch := first | omega | assumption) only [go_sem, ↓reduceIte]) ⟨rfl, by simp⟩ ?_ ?_
  · rintro a H2 J ⟨hn, hle⟩ hlt
    simp only [List.flatMap_nil, List.append_nil, List.length_nil] at hn hle
    simp (disch := first | omega | assumption) only [hlt, List.length_append, go_sem, ↓reduceIte]
    exact hQ _ _ _ _ nofun rfl (by simp [tupOf, envOf, AV.strip, AV.strip1, quoteM, ← hn])
  · rintro done c rest a H2 J hd hlt hlt2 ⟨hn, hle⟩ hJ
    have hg := str_get hd
    have h7 := sub_one hd
    have h5 : (done.length : Int) ≤ (done.length : Int) + 1 := by omega
    have h4 : ((done.length : Int) + 1 ≤ s.length) = True := eq_true (by omega)
    have h6 : ((done.length : Int) + 1).toNat = done.length + 1 := by omega
    simp only [List.flatMap_cons, List.length_cons] at hn hle
    have hw : IntKind.wrap .i64 ((done.length : Int) + 1) = (done.length : Int) + 1 := wrap64 (by omega) (by omega)
    by_cases c1 : c = 34 ∨ c = 92
    · have eq : qB c = [92, c] := by unfold qB; rw [if_pos c1]
      have nx := hJ (a ++ [92] ++ [c]) H2 ⟨by rw [← hn, eq]; simp, by simp; omega⟩
      by_cases c3 : c = 34
      · have g1 : ((c.toNat : Int) = 34) = True := eq_true (by rw [c3]; rfl)
        simp (disch := first | omega | assumption) only [hlt, hg, g1, h4, h5, h6, h7, hw, List.length_append, go_sem, ↓reduceIte]
        exact goJ nx (by simp (disch := first | omega | assumption) only [go_sem, ↓reduceIte])
      · have g0 : ¬ ((c.toNat : Int) = 34) := fun e => c3 (UInt8.toNat_inj.1 (by have : (34 : UInt8).toNat = 34 := rfl; omega))
        have g1 : ((c.toNat : Int) = 92) = True := eq_true (by rw [c1.resolve_left c3]; rfl)
        simp (disch := first | omega | assumption) only [hlt, hg, g0, g1, h4, h5, h6, h7, hw, List.length_append, go_sem, ↓reduceIte]
        exact goJ nx (by simp (disch := first | omega | assumption) only [go_sem, ↓reduceIte])
    · have g1 : ¬ ((c.toNat : Int) = 34) := fun e => c1 (.inl (UInt8.toNat_inj.1 (by have : (34 : UInt8).toNat = 34 := rfl; omega)))
      have g2 : ¬ ((c.toNat : Int) = 92) := fun e => c1 (.inr (UInt8.toNat_inj.1 (by have : (92 : UInt8).toNat = 92 := rfl; omega)))
      by_cases c2 : c.toNat < 32
      · have g3 : ((c.toNat : Int) < 32) = True := eq_true (by omega)
        have eq : qB c = [92, 117, 48, 48, hexL.getD (c.toNat / 16) 0, hexL.getD (c.toNat % 16) 0] := by unfold qB; rw [if_neg c1, if_pos c2]
        have g6 : (((c.toNat / 16 : Nat) : Int) < 16) = True := eq_true (by omega)
        have g7 : (((c.toNat % 16 : Nat) : Int) < 16) = True := eq_true (by omega)
        have e1 : byts [[.int .u8 (([48, 49, 50, 51, 52, 53, 54, 55, 56, 57, 97, 98, 99, 100, 101, 102] : List UInt8).getD (c.toNat / 16) 0).toNat], [.int .u8 (([48, 49, 50, 51, 52, 53, 54, 55, 56, 57, 97, 98, 99, 100, 101, 102] : List UInt8).getD (c.toNat % 16) 0).toNat]] = some [hexL.getD (c.toNat / 16) 0, hexL.getD (c.toNat % 16) 0] := byts_of [_, _]
        have nx := hJ (a ++ [92, 117, 48, 48] ++ [hexL.getD (c.toNat / 16) 0, hexL.getD (c.toNat % 16) 0]) H2 ⟨by rw [← hn, eq]; simp, by simp; omega⟩
        simp (disch := first | omega | assumption) only [hlt, hg, g1, g2, g3, quo16, rem16, g6, g7, e1, hw, List.length_append, go_sem, ↓reduceIte]
        exact goJ nx (by simp (disch := first | omega | assumption) only [go_sem, ↓reduceIte])
      · have g3 : ¬ ((c.toNat : Int) < 32) := by omega
        have eq : qB c = [c] := by unfold qB; rw [if_neg c1, if_neg c2]
        have nx := hJ (a ++ [c]) H2 ⟨by rw [← hn, eq]; simp, by simp; omega⟩
        simp (disch := first | omega | assumption) only [hlt, hg, g1, g2, g3, h4, h5, h6, h7, hw, List.length_append, go_sem, ↓reduceIte]
        exact goJ nx (by simp (disch := first | omega | assumption) only [go_sem, ↓reduceIte])
theorem writeR : ∀ v, rightV v = true → wfV v → 25 * bV v ≤ Lim → Pure Tryz.prog 42 [.agg (cV v)] (.str (putV v)) := by
  refine Val.ind fun k n s l m ihl ihm h hwf hb => ?_
  have hp := put_le _ hwf
  obtain ⟨hn, hwl, hwm⟩ := hwf
  generalize hv : Val.mk k n s l m = v at h hp hb
  refine Pure.go ir42 ck42 (Nat.le_refl _) fun KP Q hQ => ?_
  simp only [Lim] at hb
  cases jshape v h with
  | null =>
    simp (disch := first | omega | assumption) only [ir42, cV_mk, go_sem, ↓reduceIte]
    exact hQ _ _ _ _ nofun rfl (by simp [tupOf, envOf, AV.strip, AV.strip1, putV])
  | bool b hb1 =>
    rcases hb1 with rfl | rfl
    · simp (disch := first | omega | assumption) only [ir42, cV_mk, go_sem, ↓reduceIte]
      exact hQ _ _ _ _ nofun rfl (by simp [tupOf, envOf, AV.strip, AV.strip1, putV, boolT])
    · simp (disch := first | omega | assumption) only [ir42, cV_mk, go_sem, ↓reduceIte]
      exact hQ _ _ _ _ nofun rfl (by simp [tupOf, envOf, AV.strip, AV.strip1, putV, boolT])
  | int b =>
    cases hv
    simp (disch := first | omega | assumption) only [ir42, cV_mk, go_sem, ↓reduceIte]
    refine goK_pure (DecimalR _ hn.1 hn.2) ?_
    simp (disch := first | omega | assumption) only [go_sem, ↓reduceIte]
    exact hQ _ _ _ _ nofun rfl (by simp [tupOf, envOf, AV.strip, AV.strip1, putV])
  | num t h1 =>
    simp (disch := first | omega | assumption) only [ir42, cV_mk, go_sem, ↓reduceIte]
    exact hQ _ _ _ _ nofun rfl (by simp [tupOf, envOf, AV.strip, AV.strip1, putV])
  | text t h1 =>
    cases hv
    simp only [bV] at hb
    simp (disch := first | omega | assumption) only [ir42, cV_mk, go_sem, ↓reduceIte]
    refine goK_pure (quoteR s (by simp only [Lim]; omega)) ?_
    simp (disch := first | omega | assumption) only [go_sem, ↓reduceIte]
    exact hQ _ _ _ _ nofun rfl (by simp [tupOf, envOf, AV.strip, AV.strip1, putV])
  | list l' h1 h2 =>
    cases hv
    have h3 := right_items h1 h2
    have h4 := cVs_len l
    have hll := bVs_len l
    have hpl := putVs_le l true hwl
    simp only [bV, bMs, List.length_nil] at hb
    simp (disch := first | omega | assumption) only [ir42, cV_mk, go_sem, ↓reduceIte]
    refine goL_range l 4 (fun x : List UInt8 => [(3, .str x)]) (fun done rest x H' => x ++ putVs (decide (done = [])) rest = 91 :: putVs true l ∧ x.length + 25 * bVs rest ≤ 1 + 25 * bVs l) [91] (by simp (disch := first | omega | assumption) only [go_sem, ↓reduceIte]) ⟨by simp, by simp⟩ ?_ ?_
    · rintro a H2 J ⟨hn, hle⟩ hlt
      simp only [putVs, List.append_nil, bVs] at hn hle
      simp (disch := first | omega | assumption) only [h4, hlt, List.length_append, go_sem, ↓reduceIte]
      exact hQ _ _ _ _ nofun rfl (by simp [tupOf, envOf, AV.strip, AV.strip1, putV, hn])
    · rintro done x rest a H2 J hd hlt _ ⟨hn, hle⟩ hJ
      have hg := cVs_get hd
      have hmem : x ∈ l := by rw [hd]; simp
      have hwx := wfVs_mem hwl x hmem
      have hx := put_le x hwx
      have hpos := bV_pos x
      simp only [putVs, bVs] at hn hle
      have hw : IntKind.wrap .i64 ((done.length : Int) + 1) = (done.length : Int) + 1 := wrap64 (by omega) (by omega)
      have ih := ihl x hmem (h3 x hmem) hwx (by simp only [Lim]; omega)
      by_cases h0 : done = []
      · have h0' : ((0 : Int) < done.length) = False := eq_false (by rw [h0]; simp)
        have nx := hJ (a ++ putV x) H2 ⟨by rw [← hn]; simp [h0], by simp only [List.length_append]; omega⟩
        simp (disch := first | omega | assumption) only [cV_len, cV_take, cV_splice, cM_len, cM_take, cM_splice, cM_mk, h4, hlt, h0', hg, go_sem, ↓reduceIte]
        refine goK_pure ih ?_
        simp (disch := first | omega | assumption) only [hw, List.length_append, go_sem, ↓reduceIte]
        exact goJ nx (by simp (disch := first | omega | assumption) only [go_sem, ↓reduceIte])
      · have h0' : ((0 : Int) < done.length) = True := eq_true (by have := List.length_pos_iff.2 h0; omega)
        have nx := hJ (a ++ [44] ++ putV x) H2 ⟨by rw [← hn]; simp [h0], by simp only [List.length_append, List.length_cons, List.length_nil]; omega⟩
        simp (disch := first | omega | assumption) only [cV_len, cV_take, cV_splice, cM_len, cM_take, cM_splice, cM_mk, h4, hlt, h0', hg, List.length_append, go_sem, ↓reduceIte]
        refine goK_pure ih ?_
        simp (disch := first | omega | assumption) only [hw, List.length_append, go_sem, ↓reduceIte]
        exact goJ nx (by simp (disch := first | omega | assumption) only [go_sem, ↓reduceIte])
  | obj m' h1 h2 =>
    cases hv
    have h3 := right_mems h1 h2
    have h4 := cMs_len m
    have hml := bMs_len m
    have hpl := putMs_le m true hwm
    simp only [bV, bVs, List.length_nil] at hb
    simp (disch := first | omega | assumption) only [ir42, cV_mk, go_sem, ↓reduceIte]
    refine goL_range m 6 (fun x : List UInt8 => [(5, .str x)]) (fun done rest x H' => x ++ putMs (decide (done = [])) rest = 123 :: putMs true m ∧ x.length + 25 * bMs rest ≤ 1 + 25 * bMs m) [123] (by simp (disch := first | omega | assumption) only [go_sem, ↓reduceIte]) ⟨by simp, by simp⟩ ?_ ?_
    · rintro a H2 J ⟨hn, hle⟩ hlt
      simp only [putMs, List.append_nil, bMs] at hn hle
      simp (disch := first | omega | assumption) only [h4, hlt, List.length_append, go_sem, ↓reduceIte]
      exact hQ _ _ _ _ nofun rfl (by simp [tupOf, envOf, AV.strip, AV.strip1, putV, hn])
    · rintro done x rest a H2 J hd hlt _ ⟨hn, hle⟩ hJ
      have hg := cMs_get hd
      have hmem : x ∈ m := by rw [hd]; simp
      obtain ⟨t, v⟩ := x
      have hwx := wfMs_mem hwm t v hmem
      have hx := put_le v hwx
      have hqt := quote_len t
      simp only [putMs, putM, bMs, bM] at hn hle
      have hw : IntKind.wrap .i64 ((done.length : Int) + 1) = (done.length : Int) + 1 := wrap64 (by omega) (by omega)
      have ih := ihm t v hmem (h3 t v hmem).2 hwx (by simp only [Lim]; omega)
      have hq := quoteR t (by simp only [Lim]; omega)
      by_cases h0 : done = []
      · have h0' : ((0 : Int) < done.length) = False := eq_false (by rw [h0]; simp)
        have nx := hJ (a ++ quoteM t ++ [58] ++ putV v) H2 ⟨by rw [← hn]; simp [h0], by simp only [List.length_append, List.length_cons, List.length_nil]; omega⟩
        simp (disch := first | omega | assumption) only [cV_len, cV_take, cV_splice, cM_len, cM_take, cM_splice, cM_mk, h4, hlt, h0', hg, go_sem, ↓reduceIte]
        refine goK_pure hq ?_
        simp (disch := first | omega | assumption) only [cV_len, cV_take, cV_splice, cM_len, cM_take, cM_splice, cM_mk, h4, hlt, hg, List.length_append, go_sem, ↓reduceIte]
        refine goK_pure ih ?_
        simp (disch := first | omega | assumption) only [hw, List.length_append, go_sem, ↓reduceIte]
        exact goJ nx (by simp (disch := first | omega | assumption) only [go_sem, ↓reduceIte])
      · have h0' : ((0 : Int) < done.length) = True := eq_true (by have := List.length_pos_iff.2 h0; omega)
        have nx := hJ (a ++ [44] ++ quoteM t ++ [58] ++ putV v) H2 ⟨by rw [← hn]; simp [h0], by simp only [List.length_append, List.length_cons, List.length_nil]; omega⟩
        simp (disch := first | omega | assumption) only [cV_len, cV_take, cV_splice, cM_len, cM_take, cM_splice, cM_mk, h4, hlt, h0', hg, List.length_append, go_sem, ↓reduceIte]
        refine goK_pure hq ?_
        simp (disch := first | omega | assumption) only [cV_len, cV_take, cV_splice, cM_len, cM_take, cM_splice, cM_mk, h4, hlt, hg, List.length_append, go_sem, ↓reduceIte]
        refine goK_pure ih ?_
        simp (disch := first | omega | assumption) only [hw, List.length_append, go_sem, ↓reduceIte]
        exact goJ nx (by simp (disch := first | omega | assumption) only [go_sem, ↓reduceIte])
theorem mget_no (t : List UInt8) : ∀ (l : List Mem), (getV t l).2 = (l.map nmM).contains t
  | [] => rfl
  | .mk s v :: r => by
    simp only [getV, List.map_cons, List.contains_cons, nmM]
    by_cases h : s = t
    · simp [h]
    · have h' : (t == s) = false := by simpa using fun e : t = s => h e.symm
      simp only [h, if_false, h', Bool.false_or]; exact mget_no t r
theorem plainJR : ∀ v, bV v ≤ Lim → Pure Tryz.prog 46 [.agg (cV v)] (.bool (singV v)) := by
  refine Val.ind fun k n s l m ihl ihm hb => ?_
  have hb' : 1 + s.length + bVs l + bMs m ≤ Lim := hb
  have hll := bVs_len l
  have hml := bMs_len m
  have h1 := cVs_len l
  have h2 := cMs_len m
  simp only [Lim] at hb'
  refine Pure.go ir46 ck46 (Nat.le_refl _) fun KP Q hQ => ?_
  by_cases k5 : k = 5
  · subst k5
    simp (disch := first | omega | assumption) only [ir46, cV_mk, go_sem, ↓reduceIte]
    exact hQ _ _ _ _ nofun rfl (by simp [tupOf, envOf, AV.strip, AV.strip1, singV])
  by_cases k8 : k = 8
  · subst k8
    simp (disch := first | omega | assumption) only [ir46, cV_mk, go_sem, ↓reduceIte]
    exact hQ _ _ _ _ nofun rfl (by simp [tupOf, envOf, AV.strip, AV.strip1, singV])
  simp (disch := first | omega | assumption) only [ir46, cV_mk, k5, k8, h1, go_sem, ↓reduceIte]
  refine goL_range l 3 (fun _ : Unit => []) (fun done rest _ H => singVs rest = singVs l) () (by simp (disch := first | omega | assumption) only [go_sem, ↓reduceIte]) rfl ?_ ?_
  · rintro _ H J hn hlt
    simp only [singVs] at hn
    simp (disch := first | omega | assumption) only [h1, h2, hlt, go_sem, ↓reduceIte]
    refine goL_range m 4 (fun _ : Unit => []) (fun done rest _ H' => singMs (done.map nmM) rest = singMs [] m) () (by simp (disch := first | omega | assumption) only [go_sem, ↓reduceIte]) rfl ?_ ?_
    · rintro _ H' J' hm hlt2
      simp only [singMs] at hm
      simp (disch := first | omega | assumption) only [h1, h2, hlt2, go_sem, ↓reduceIte]
      exact hQ _ _ _ _ nofun rfl (by simp [tupOf, envOf, AV.strip, AV.strip1, singV, k5, k8, ← hn, ← hm])
    · rintro done x rest _ H' J' hd hlt2 hlt3 hm hJ
      have hg := cMs_get hd
      have hmem : x ∈ m := by rw [hd]; simp
      obtain ⟨t, v⟩ := x
      have hbm := bMs_mid done (.mk t v) rest
      rw [← hd] at hbm
      simp only [bM] at hbm
      have hbv : bV v ≤ Lim := by simp only [Lim]; omega
      have hdl := bMs_len done
      have ht : (cMs m).take done.length = cMs done := by rw [hd, cMs_map, cMs_map]; simp
      have hle : ((done.length : Int) ≤ m.length) = True := eq_true (by omega)
      have hg0 := mget_no t done
      simp only [singMs, nmM, singM] at hm
      simp (disch := first | omega | assumption) only [cV_len, cV_take, cV_splice, cM_len, cM_take, cM_splice, cM_mk, h1, h2, hlt2, hg, ht, hle, go_sem, ↓reduceIte]
      refine goK_pure (Pure.low (getR t done (by simp only [Lim]; omega))) ?_
      rw [hg0]
      simp (disch := first | omega | assumption) only [cV_len, cV_take, cV_splice, cM_len, cM_take, cM_splice, cM_mk, go_sem, ↓reduceIte]
      refine goA_intro fun b hb => ?_
      cases hc : (done.map nmM).contains t
      · rw [hc] at hm
        simp only [Bool.not_false, Bool.true_and] at hm
        simp (disch := first | omega | assumption) only [cV_len, cV_take, cV_splice, cM_len, cM_take, cM_splice, cM_mk, h1, h2, hlt2, hg, go_sem, ↓reduceIte]
        refine goK_pure (ihm t v hmem hbv) ?_
        cases hx : singV v
        · rw [hx] at hm
          simp (disch := first | omega | assumption) only [cV_len, cV_take, cV_splice, cM_len, cM_take, cM_splice, cM_mk, go_sem, ↓reduceIte]
          exact hQ _ _ _ _ nofun rfl (by simp [tupOf, envOf, AV.strip, AV.strip1, singV, k5, k8, ← hn, ← hm])
        · rw [hx, Bool.true_and] at hm
          simp (disch := first | omega | assumption) only [cV_len, cV_take, cV_splice, cM_len, cM_take, cM_splice, cM_mk, wrap64, go_sem, ↓reduceIte]
          exact goJ (hJ () _ (by simpa [nmM] using hm)) (by simp (disch := first | omega | assumption) only [go_sem, ↓reduceIte])
      · rw [hc] at hm
        simp (disch := first | omega | assumption) only [cV_len, cV_take, cV_splice, cM_len, cM_take, cM_splice, cM_mk, go_sem, ↓reduceIte]
        exact hQ _ _ _ _ nofun rfl (by simp [tupOf, envOf, AV.strip, AV.strip1, singV, k5, k8, ← hn, ← hm])
  · rintro done x rest _ H J hd hlt _ hn hJ
    have hg := cVs_get hd
    have hmem : x ∈ l := by rw [hd]; simp
    have hbv : bV x ≤ Lim := by
      have := bVs_mid done x rest
      rw [← hd] at this
      simp only [Lim]; omega
    simp only [singVs] at hn
    simp (disch := first | omega | assumption) only [cV_len, cV_take, cV_splice, cM_len, cM_take, cM_splice, cM_mk, h1, hlt, hg, go_sem, ↓reduceIte]
    refine goK_pure (ihl x hmem hbv) ?_
    cases hx : singV x
    · rw [hx] at hn
      simp (disch := first | omega | assumption) only [cV_len, cV_take, cV_splice, cM_len, cM_take, cM_splice, cM_mk, go_sem, ↓reduceIte]
      exact hQ _ _ _ _ nofun rfl (by simp [tupOf, envOf, AV.strip, AV.strip1, singV, k5, k8, ← hn])
    · rw [hx, Bool.true_and] at hn
      simp (disch := first | omega | assumption) only [cV_len, cV_take, cV_splice, cM_len, cM_take, cM_splice, cM_mk, wrap64, go_sem, ↓reduceIte]
      exact goJ (hJ () _ hn) (by simp (disch := first | omega | assumption) only [go_sem, ↓reduceIte])
theorem RightJR (v : Val) (hb : bV v ≤ Lim) : Pure Tryz.prog 21 [.agg (cV v)] (.bool (rightV v)) := by
  refine Pure.go ir21 ck21 (Nat.le_refl _) fun KP Q hQ => ?_
  simp (disch := first | omega | assumption) only [cV_len, cV_take, cV_splice, cM_len, cM_take, cM_splice, cM_mk, ir21, go_sem, ↓reduceIte]
  refine goK_pure (goodValueR v hb) ?_
  cases h : goodV v
  · simp (disch := first | omega | assumption) only [cV_len, cV_take, cV_splice, cM_len, cM_take, cM_splice, cM_mk, go_sem, ↓reduceIte]
    exact hQ _ _ _ _ nofun rfl (by simp [tupOf, envOf, AV.strip, AV.strip1, rightV, h])
  · simp (disch := first | omega | assumption) only [cV_len, cV_take, cV_splice, cM_len, cM_take, cM_splice, cM_mk, go_sem, ↓reduceIte]
    refine goK_pure (plainJR v hb) ?_
    simp (disch := first | omega | assumption) only [go_sem, ↓reduceIte]
    exact hQ _ _ _ _ nofun rfl (by simp [tupOf, envOf, AV.strip, AV.strip1, rightV, h])
theorem PrintJR (v : Val) (hw : wfV v) (hb : 25 * bV v ≤ Lim) : Pure Tryz.prog 19 [.agg (cV v)] (.tup [.str (printM v).1, .bool (printM v).2]) := by
  refine Pure.go ir19 ck19 (Nat.le_refl _) fun KP Q hQ => ?_
  simp (disch := first | omega | assumption) only [cV_len, cV_take, cV_splice, cM_len, cM_take, cM_splice, cM_mk, ir19, go_sem, ↓reduceIte]
  refine goK_pure (RightJR v (by omega)) ?_
  cases h : rightV v
  · simp (disch := first | omega | assumption) only [cV_len, cV_take, cV_splice, cM_len, cM_take, cM_splice, cM_mk, go_sem, ↓reduceIte]
    exact hQ _ _ _ _ nofun rfl (by simp [tupOf, envOf, AV.strip, AV.strip1, printM, h])
  · simp (disch := first | omega | assumption) only [cV_len, cV_take, cV_splice, cM_len, cM_take, cM_splice, cM_mk, go_sem, ↓reduceIte]
    refine goK_pure (writeR v h hw hb) ?_
    simp (disch := first | omega | assumption) only [go_sem, ↓reduceIte]
    exact hQ _ _ _ _ nofun rfl (by simp [tupOf, envOf, AV.strip, AV.strip1, printM, h])
end Go.Proofs.YtpjafglhdlfnbaaGreatDoor
namespace Go.Proofs.YtpjafglhdlfnbaaGreatDoor
open Go.Ab Go.Lib
theorem jsonPrints (v : Val) (hw : wfV v) (hb : bV v ≤ Lim) : Pure Tryz.prog 5 [.agg (cV v)] (.bool true) := by
  refine Pure.go ir5 ck5 (Nat.le_refl _) fun KP Q hQ => ?_
  simp (disch := first | omega | assumption) only [cV_len, cV_take, cV_splice, cM_len, cM_take, cM_splice, cM_mk, ir5, go_sem, ↓reduceIte]
  refine goK_pure (sizeC v hb) ?_
  by_cases c1 : (3000 : Int) < bV v
  · simp (disch := first | omega | assumption) only [cV_len, cV_take, cV_splice, cM_len, cM_take, cM_splice, cM_mk, c1, go_sem, ↓reduceIte]
    refine goK_pure awakeJ ?_
    simp (disch := first | omega | assumption) only [go_sem, ↓reduceIte]
    exact hQ _ _ _ _ nofun rfl (by simp [tupOf, envOf, AV.strip, AV.strip1])
  have hb' : 25 * bV v ≤ Lim := by simp only [Lim]; omega
  simp (disch := first | omega | assumption) only [cV_len, cV_take, cV_splice, cM_len, cM_take, cM_splice, cM_mk, c1, go_sem, ↓reduceIte]
  refine goK_pure (copyV v hb) ?_
  simp (disch := first | omega | assumption) only [cV_len, cV_take, cV_splice, cM_len, cM_take, cM_splice, cM_mk, go_sem, ↓reduceIte]
  refine goA_intro fun b1 hb1 => ?_
  simp (disch := first | omega | assumption) only [cV_len, cV_take, cV_splice, cM_len, cM_take, cM_splice, cM_mk, go_sem, ↓reduceIte]
  refine goK_pure (PrintC v hw hb') ?_
  simp (disch := first | omega | assumption) only [cV_len, cV_take, cV_splice, cM_len, cM_take, cM_splice, cM_mk, go_sem, ↓reduceIte]
  refine goK_pure (PrintJR v hw hb') ?_
  have e1 : (printM v).1 = (printM v).1 := rfl
  generalize (printM v).1 = s1
  generalize (printM v).2 = o1
  have eo : (o1 == o1) = true := by simp
  simp (disch := first | omega | assumption) only [cV_len, cV_take, cV_splice, cM_len, cM_take, cM_splice, cM_mk, eo, go_sem, ↓reduceIte]
  refine goK_pure (RightC v hb) ?_
  simp (disch := first | omega | assumption) only [cV_len, cV_take, cV_splice, cM_len, cM_take, cM_splice, cM_mk, go_sem, ↓reduceIte]
  refine goK_pure (RightJR v hb) ?_
  generalize rightV v = o2
  have eo2 : (o2 == o2) = true := by simp
  simp (disch := first | omega | assumption) only [cV_len, cV_take, cV_splice, cM_len, cM_take, cM_splice, cM_mk, eo2, go_sem, ↓reduceIte]
  refine goK_pure (sameR v hb v) ?_
  rw [eqd_true rfl]
  simp (disch := first | omega | assumption) only [go_sem, ↓reduceIte]
  refine goK_pure awakeJ ?_
  simp (disch := first | omega | assumption) only [go_sem, ↓reduceIte]
  exact hQ _ _ _ _ nofun rfl (by simp [tupOf, envOf, AV.strip, AV.strip1])
end Go.Proofs.YtpjafglhdlfnbaaGreatDoor
namespace Go.Proofs.YtpjafglhdlfnbaaGreatDoor
open Go.Ab Go.Lib
open Go.ChangeShapes Go.WideShapes Go.ChangeAt Go.RowKit Go.WideElems
theorem JsonPrints_contract (H : Type) (enc : TypeId × Value → H) (W : World) (base : Nat) (args : Array Value) (ds gs : List (DataW H)) (before : List MemPlace)
    (hval : ∀ (j : Nat) t v, Tryz.f5.params[j]? = some t → args[j]? = some v → Value.okWide Tryz.prog W .any base t v)
    (hW : DataW.Whole enc Tryz.prog Tryz.f5.params.toList Rows.jsonPrintsSpec.vars false W args.toList ds gs before) (hc : blkAll (ds ++ gs) ≤ 1048576)
    (hz : (DataW.weightsEach Tryz.prog (Tryz.f5.params.toList ++ (Rows.OpenSpec.upto Rows.jsonPrintsSpec).bare.plain.varTypes Tryz.prog) (ds ++ gs)).all (· ≤ reachBytes) = true)
    (hL : laidMetH Tryz.prog laidL W) (hS : W.ShapedOpen Tryz.prog) :
    Calls Tryz.prog 5 args W fun e W' => ∃ v, e = .returned v ∧ Rows.jsonPrintsSpec.post enc Tryz.prog Tryz.f5 false true false false W args v W' := by
  have hW' := hW
  obtain ⟨p, q, hA0, hV, rfl, hfz, hnd⟩ := hW
  have hA : DataW.TrodAll enc Tryz.prog W 0 (fun _ => true) true Tryz.f5.params.toList args.toList ds p := hA0
  obtain ⟨rfl, rfl⟩ := trodVars_none hV
  rw [Tryz.params5] at hA hval hz
  obtain ⟨v0, vs0, d0, ds0, p0, q0, hargs, rfl, rfl, h0, hA⟩ := trodAll_cons hA
  obtain ⟨rfl, rfl, rfl⟩ := trodAll_nil hA
  obtain rfl : args = #[v0] := by cases args; simp_all
  obtain ⟨c0, rfl⟩ := agg_of Tryz.underlying33 (hval 0 33 v0 rfl rfl)
  obtain ⟨a0, ok0, b0, g0⟩ := DecB.argS (P := Tryz.prog) (f := cV) (decVA) h0 (sized hz (j := 0) rfl rfl)
  simp only [List.append_nil, blkAll] at hc
  refine law_contract (P := Tryz.prog) (fn := Tryz.f5) (tb := 4) laidOut rfl ?_ (by kernel_rfl) Tryz.underlying4 hW' rfl (tabs_ok hL hS) (RepAll.cons g0 RepAll.nil) (jsonPrints a0 ok0 (by simp only [Lim]; omega))
  rw [Tryz.params5]
  intro t ht
  simp only [List.mem_cons, List.not_mem_nil, or_false] at ht
  rcases ht with rfl <;> exact ⟨by kernel_rfl, by decide +kernel⟩
theorem JsonPrints_reads (os : Os) {H : Type} (enc : TypeId × Value → H) : ∃ places, DataW.whole enc Tryz.prog ((laidWorld os).forCall (fun _ _ => 0) ⟨#[], #[.agg #[.int .i64 0, .int .i64 0, .string ⟨#[]⟩, .slice none 0 0, .slice none 0 0]], []⟩).memory Tryz.f5.params.toList Rows.jsonPrintsSpec.vars false #[.agg #[.int .i64 0, .int .i64 0, .string ⟨#[]⟩, .slice none 0 0, .slice none 0 0]].toList 8 = some ([.agg [.lit (.int .i64 0), .lit (.int .i64 0), .lit (.string []), .nil, .nil]], [], places) :=
  ⟨[], by kernel_rfl⟩
theorem JsonPrints_lifted (os : Os) (started : os.Started) (H : Type) (enc : TypeId × Value → H) (F : Stop.Interp) :
    ReturnsInHanded {} Tryz.checked os 5 .any ((Rows.OpenSpec.upto Rows.jsonPrintsSpec).preRow enc Tryz.prog Tryz.f5 Rows.jsonPrintsUptoRow.domain false Rows.jsonPrintsUptoRow.laid) (((Rows.OpenSpec.upto Rows.jsonPrintsSpec).at F).post enc Tryz.prog Tryz.f5 false true false false) := by
  obtain ⟨places, hx⟩ := JsonPrints_reads os enc
  refine returnsInHanded_of_row (C := Tryz.checked) (s := Rows.OpenSpec.upto Rows.jsonPrintsSpec) own started (by kernel_rfl) Tryz.func5
    (witness_row_atRef (enc := enc) (C := Tryz.checked) false (laidWorld os) #[.agg #[.int .i64 0, .int .i64 0, .string ⟨#[]⟩, .slice none 0 0, .slice none 0 0]] rfl (by kernel_rfl) (by kernel_rfl) (by kernel_rfl)
      (OpenSpec.preRow_of_cond 8 hx (by kernel_rfl) (fun k hk => by cases hk; kernel_rfl) (by kernel_rfl) (laid_met os _))) ?_
  intro W base args ds gs before hval hW _ hcond hz hL hS _
  exact JsonPrints_contract H enc W base args ds gs before hval hW (cond_bulk hcond) hz hL hS
theorem JsonPrints_said : Rows.JsonPrintsUptoSaid :=
  OpenClaim.holds_of_cond 5 Tryz.f5 rfl rfl rfl rfl rfl rfl rfl ⟨rfl, rfl, rfl, rfl, rfl⟩ rfl rfl rfl rfl rfl (by kernel_rfl) Tryz.func5 (by kernel_rfl)
    (of_decide_eq_true (by kernel_rfl)) (by unfold Func.isWrapper; first | (rw [if_pos (by decide +kernel)]; kernel_rfl) | (rw [if_neg (by decide +kernel)]; exact ⟨rfl, rfl⟩))
    (fun os started H enc _ F => by rw [OpenClaim.pre_eq_preRow]; exact JsonPrints_lifted os started H enc F)
theorem JsonPrints_plain (f : FuncId) (fn : Func) (hf : Tryz.pinned.checked.prog.funcNamed "seine/seinelaw21.JsonPrints" = some f) (hfn : Tryz.pinned.checked.prog.funcs[f]? = some fn) :
    true = Tryz.pinned.checked.prog.looks [] ∧ ∀ (j : Nat) t, fn.params[j]? = some t → Tryz.pinned.checked.prog.wantsStandIn t = false := by
  obtain rfl : f = 5 := Option.some.inj ((show Tryz.prog.funcNamed "seine/seinelaw21.JsonPrints" = some 5 by kernel_rfl).symm.trans hf) |>.symm
  obtain rfl : fn = Tryz.f5 := (Option.some.inj (Tryz.func5.symm.trans hfn)).symm
  refine ⟨by kernel_rfl, fun j t ht => ?_⟩
  rw [Tryz.params5] at ht
  have hm := Array.mem_of_getElem? ht
  simp only [List.mem_toArray, List.mem_cons, List.not_mem_nil, or_false] at hm
  rcases hm with rfl <;> exact (show Tryz.prog.wantsStandIn _ = false by kernel_rfl)
theorem JsonPrints_card : Rows.JsonPrintsUptoCardSaid :=
  Claim7.holds_tied_plain_at .later [] _ _ _ _ JsonPrints_said (fun _ h => by cases h) (by kernel_rfl) (fun _ h => by cases h) jsonPrintsUpto_row_tie rfl ⟨rfl, rfl⟩ (by kernel_rfl) rfl JsonPrints_plain (by kernel_rfl)
end Go.Proofs.YtpjafglhdlfnbaaGreatDoor
