/- Code points: the document's answer on good text. -/
import Derived.Test.YtpjafglhdlfnbaaDoorNumS
import Derived.Lib.ValidLaws
set_option maxRecDepth 100000
set_option linter.unusedSimpArgs false
set_option linter.unusedVariables false
namespace Go.Proofs.YtpjafglhdlfnbaaDoor
open Go.Ab

theorem ofNat_toNat64 {n : Nat} (h : n < 18446744073709551616) : (BitVec.ofInt 64 (n : Int)).toNat = n := by
  rw [BitVec.toNat_ofInt]; omega
theorem wrap_nat {n : Nat} (h : n < 9223372036854775808) : IntKind.wrap .i64 (n : Int) = n := wrap64 (by omega) (by omega)
theorem and_lo {n : Nat} (j : Nat) (h : n < 9223372036854775808) (hj : 2 ^ j - 1 < 9223372036854775808) : IntKind.wrap .i64 ((BitVec.ofInt IntKind.i64.bits (n : Int) &&& BitVec.ofInt IntKind.i64.bits ((2 ^ j - 1 : Nat) : Int)).toNat : Int) = ((n % 2 ^ j : Nat) : Int) := by
  have e : (BitVec.ofInt IntKind.i64.bits (n : Int) &&& BitVec.ofInt IntKind.i64.bits ((2 ^ j - 1 : Nat) : Int)).toNat = n % 2 ^ j := by
    rw [BitVec.toNat_and]
    show (BitVec.ofInt 64 (n : Int)).toNat &&& (BitVec.ofInt 64 ((2 ^ j - 1 : Nat) : Int)).toNat = _
    rw [ofNat_toNat64 (by omega), ofNat_toNat64 (by omega), Nat.and_two_pow_sub_one_eq_mod]
  rw [e]
  exact wrap_nat (Nat.lt_of_le_of_lt (Nat.mod_le _ _) h)
theorem and31 {n : Nat} (h : n < 9223372036854775808) : IntKind.wrap .i64 ((BitVec.ofInt IntKind.i64.bits (n : Int) &&& BitVec.ofInt IntKind.i64.bits 31).toNat : Int) = ((n % 32 : Nat) : Int) := and_lo 5 h (by decide)
theorem and15 {n : Nat} (h : n < 9223372036854775808) : IntKind.wrap .i64 ((BitVec.ofInt IntKind.i64.bits (n : Int) &&& BitVec.ofInt IntKind.i64.bits 15).toNat : Int) = ((n % 16 : Nat) : Int) := and_lo 4 h (by decide)
theorem and7 {n : Nat} (h : n < 9223372036854775808) : IntKind.wrap .i64 ((BitVec.ofInt IntKind.i64.bits (n : Int) &&& BitVec.ofInt IntKind.i64.bits 7).toNat : Int) = ((n % 8 : Nat) : Int) := and_lo 3 h (by decide)
theorem and63 {n : Nat} (h : n < 9223372036854775808) : IntKind.wrap .i64 ((BitVec.ofInt IntKind.i64.bits (n : Int) &&& BitVec.ofInt IntKind.i64.bits 63).toNat : Int) = ((n % 64 : Nat) : Int) := and_lo 6 h (by decide)
theorem or64 {a b : Nat} (ha : a < 16777216) (hb : b < 64) : IntKind.wrap .i64 ((BitVec.ofInt IntKind.i64.bits ((a * 64 : Nat) : Int) ||| BitVec.ofInt IntKind.i64.bits (b : Int)).toNat : Int) = ((a * 64 + b : Nat) : Int) := by
  have e : (BitVec.ofInt IntKind.i64.bits ((a * 64 : Nat) : Int) ||| BitVec.ofInt IntKind.i64.bits (b : Int)).toNat = a * 64 + b := by
    rw [BitVec.toNat_or]
    show (BitVec.ofInt 64 ((a * 64 : Nat) : Int)).toNat ||| (BitVec.ofInt 64 (b : Int)).toNat = _
    rw [ofNat_toNat64 (by omega), ofNat_toNat64 (by omega)]
    have := Nat.two_pow_add_eq_or_of_lt (i := 6) (b := b) (by omega) a
    rw [show (2 : Nat) ^ 6 = 64 by rfl] at this
    rw [Nat.mul_comm a 64, this]
  rw [e]
  exact wrap_nat (by omega)

def codeN (l : List UInt8) : Nat × Nat := if l = [] then (0, 0) else if Lib.decodeL l = (65533, 1) then (0, 0) else Lib.decodeL l

/-- bytes from a place on -/
abbrev bt (s : List UInt8) (i k : Nat) : Nat := (s.getD (i + k) 0).toNat
theorem bt_lt (s : List UInt8) (i k : Nat) : bt s i k < 256 := (s.getD (i + k) 0).toNat_lt
theorem drop_getD (s : List UInt8) (i k : Nat) : (s.drop i).getD k 0 = s.getD (i + k) 0 := by simp [List.getElem?_drop]
theorem codeN_eq {s : List UInt8} {i : Nat} (h : i < s.length) : codeN (s.drop i) = if Lib.decodeN (s.length - i) (bt s i 0) (bt s i 1) (bt s i 2) (bt s i 3) = (65533, 1) then (0, 0) else Lib.decodeN (s.length - i) (bt s i 0) (bt s i 1) (bt s i 2) (bt s i 3) := by
  have hne : s.drop i ≠ [] := fun e => by have := congrArg List.length e; simp at this; omega
  unfold codeN
  rw [if_neg hne, Lib.decodeL_N, List.length_drop]
  simp only [drop_getD]

/-- what the bytes behind the first add up to -/
def cv (v0 : Nat) (b : Nat → Nat) : Nat → Nat
  | 0 => v0
  | j + 1 => cv v0 b j * 64 + b (j + 1) % 64
def Lead (b0 w lo v : Nat) : Prop := (194 ≤ b0 ∧ b0 < 224 ∧ w = 2 ∧ lo = 128 ∧ v = b0 % 32) ∨ (224 ≤ b0 ∧ b0 < 240 ∧ w = 3 ∧ lo = 2048 ∧ v = b0 % 16) ∨ (240 ≤ b0 ∧ b0 < 245 ∧ w = 4 ∧ lo = 65536 ∧ v = b0 % 8)

theorem dec_short {n b0 b1 b2 b3 w lo v : Nat} (h : Lead b0 w lo v) (hn : n < w) : Lib.decodeN n b0 b1 b2 b3 = (65533, 1) := by
  unfold Lib.decodeN
  rcases h with ⟨h1, h2, rfl, _, _⟩ | ⟨h1, h2, rfl, _, _⟩ | ⟨h1, h2, rfl, _, _⟩ <;> (repeat' split) <;> first | rfl | (exfalso; omega)
theorem dec_cont {n w lo v j : Nat} {b : Nat → Nat} (h : Lead (b 0) w lo v) (h1 : 1 ≤ j) (hj : j < w) (hc : b j < 128 ∨ 191 < b j) : Lib.decodeN n (b 0) (b 1) (b 2) (b 3) = (65533, 1) := by
  have hj4 : j = 1 ∨ j = 2 ∨ j = 3 := by rcases h with h | h | h <;> omega
  unfold Lib.decodeN
  rcases h with ⟨h2, h3, rfl, _, _⟩ | ⟨h2, h3, rfl, _, _⟩ | ⟨h2, h3, rfl, _, _⟩ <;> rcases hj4 with rfl | rfl | rfl <;> (repeat' split) <;> first | rfl | (exfalso; omega)
theorem dec_full {n w lo v : Nat} {b : Nat → Nat} (h : Lead (b 0) w lo v) (hn : w ≤ n) (hc : ∀ j, 1 ≤ j → j < w → 128 ≤ b j ∧ b j ≤ 191) :
    (if Lib.decodeN n (b 0) (b 1) (b 2) (b 3) = (65533, 1) then (0, 0) else Lib.decodeN n (b 0) (b 1) (b 2) (b 3)) = if cv v b (w - 1) < lo ∨ 1114111 < cv v b (w - 1) ∨ (55296 ≤ cv v b (w - 1) ∧ cv v b (w - 1) < 57344) then (0, 0) else (cv v b (w - 1), w) := by
  rcases h with ⟨h2, h3, rfl, rfl, rfl⟩ | ⟨h2, h3, rfl, rfl, rfl⟩ | ⟨h2, h3, rfl, rfl, rfl⟩
  · have c1 := hc 1 (by omega) (by omega)
    have e : Lib.decodeN n (b 0) (b 1) (b 2) (b 3) = (b 0 % 32 * 64 + b 1 % 64, 2) := by
      unfold Lib.decodeN
      rw [if_neg (by omega), if_pos (by omega), if_pos (by omega)]
    have e2 : cv (b 0 % 32) b (2 - 1) = b 0 % 32 * 64 + b 1 % 64 := rfl
    rw [e, e2, if_neg (by simp), if_neg (by omega)]
  · have c1 := hc 1 (by omega) (by omega)
    have c2 := hc 2 (by omega) (by omega)
    have e2 : cv (b 0 % 16) b (3 - 1) = b 0 % 16 * 4096 + b 1 % 64 * 64 + b 2 % 64 := by
      show (b 0 % 16 * 64 + b 1 % 64) * 64 + b 2 % 64 = _
      omega
    rw [e2]
    by_cases g : b 0 % 16 * 4096 + b 1 % 64 * 64 + b 2 % 64 ≥ 2048 ∧ (b 0 % 16 * 4096 + b 1 % 64 * 64 + b 2 % 64 < 55296 ∨ (57344 ≤ b 0 % 16 * 4096 + b 1 % 64 * 64 + b 2 % 64 ∧ b 0 % 16 * 4096 + b 1 % 64 * 64 + b 2 % 64 ≤ 1114111))
    · have e : Lib.decodeN n (b 0) (b 1) (b 2) (b 3) = (b 0 % 16 * 4096 + b 1 % 64 * 64 + b 2 % 64, 3) := by
        unfold Lib.decodeN
        rw [if_neg (by omega), if_neg (by omega), if_pos (by omega), if_pos g]
      rw [e, if_neg (by simp), if_neg (by omega)]
    · have e : Lib.decodeN n (b 0) (b 1) (b 2) (b 3) = (65533, 1) := by
        unfold Lib.decodeN
        rw [if_neg (by omega), if_neg (by omega), if_pos (by omega), if_neg g]
      rw [e, if_pos rfl, if_pos (by omega)]
  · have c1 := hc 1 (by omega) (by omega)
    have c2 := hc 2 (by omega) (by omega)
    have c3 := hc 3 (by omega) (by omega)
    have e2 : cv (b 0 % 8) b (4 - 1) = b 0 % 8 * 262144 + b 1 % 64 * 4096 + b 2 % 64 * 64 + b 3 % 64 := by
      show ((b 0 % 8 * 64 + b 1 % 64) * 64 + b 2 % 64) * 64 + b 3 % 64 = _
      omega
    rw [e2]
    by_cases g : b 0 % 8 * 262144 + b 1 % 64 * 4096 + b 2 % 64 * 64 + b 3 % 64 ≥ 65536 ∧ (b 0 % 8 * 262144 + b 1 % 64 * 4096 + b 2 % 64 * 64 + b 3 % 64 < 55296 ∨ (57344 ≤ b 0 % 8 * 262144 + b 1 % 64 * 4096 + b 2 % 64 * 64 + b 3 % 64 ∧ b 0 % 8 * 262144 + b 1 % 64 * 4096 + b 2 % 64 * 64 + b 3 % 64 ≤ 1114111))
    · have e : Lib.decodeN n (b 0) (b 1) (b 2) (b 3) = (b 0 % 8 * 262144 + b 1 % 64 * 4096 + b 2 % 64 * 64 + b 3 % 64, 4) := by
        unfold Lib.decodeN
        rw [if_neg (by omega), if_neg (by omega), if_neg (by omega), if_pos (by omega), if_pos g]
      rw [e, if_neg (by simp), if_neg (by omega)]
    · have e : Lib.decodeN n (b 0) (b 1) (b 2) (b 3) = (65533, 1) := by
        unfold Lib.decodeN
        rw [if_neg (by omega), if_neg (by omega), if_neg (by omega), if_pos (by omega), if_neg g]
      rw [e, if_pos rfl, if_pos (by omega)]

theorem CodeR (s : List UInt8) (i : Nat) (hi : i < s.length) (hs : s.length ≤ Lim) : Pure Tryd.prog 116 [.str s, .int .i64 i] (.tup [.int .i64 (codeN (s.drop i)).1, .int .i64 (codeN (s.drop i)).2]) := by
  refine Pure.go ir116 ck116 (Nat.le_refl _) fun KP Q hQ => ?_
  simp only [Lim] at hs
  have hlt : (i : Int) < s.length := by omega
  have h0 : ¬ (i : Int) < 0 := by omega
  have hge : ¬ (s.length : Int) ≤ i := by omega
  rw [codeN_eq hi] at hQ
  have hb0 := bt_lt s i 0
  obtain ⟨c, hc⟩ : ∃ c, s.getD i 0 = c := ⟨_, rfl⟩
  have hcb : c.toNat = bt s i 0 := by rw [← hc]; rfl
  have hcb' : (c.toNat : Int) = (bt s i 0 : Nat) := by rw [hcb]
  have hw0 : IntKind.wrap .i64 ((bt s i 0 : Nat) : Int) = (bt s i 0 : Nat) := wrap_nat (by omega)
  generalize hB : (fun k => bt s i k) = b at *
  have b0e : bt s i 0 = b 0 := by rw [← hB]
  have bk : ∀ k, bt s i k = b k := fun k => by rw [← hB]
  have hbl : ∀ k, b k < 256 := fun k => by rw [← bk]; exact bt_lt s i k
  simp only [bk] at hQ hb0 hcb hcb' hw0
  by_cases a : (b 0 : Int) < 128
  · simp (disch := first | omega | assumption) only [ir116, h0, hlt, hge, hc, hcb', hw0, a, steps, st2, pev, rev, oev, optr, ibin, sbin, ishf, bound, mmAll, mm2, mk, mkArgs, AV.cells, AV.boxable, AV.one, AV.strip1, fillA, fillS, Nat.reduceEqDiff, reduceCtorEq, ↓reduceIte, Nat.reduceAdd, Int.reduceNeg, Nat.reduceLeDiff, Int.reduceToNat, Int.reduceEq, Int.reduceLT, Int.reduceLE, Int.reduceAdd]
    have e : Lib.decodeN (s.length - i) (b 0) (b 1) (b 2) (b 3) = (b 0, 1) := by unfold Lib.decodeN; rw [if_pos (by omega)]
    rw [e, if_neg (by simp; omega)] at hQ
    exact hQ _ _ _ _ nofun rfl (by simp [tupOf, envOf, AV.strip, AV.strip1])
  simp (disch := first | omega | assumption) only [ir116, h0, hlt, hge, hc, hcb', hw0, a, steps, st2, pev, rev, oev, optr, ibin, sbin, ishf, bound, mmAll, mm2, mk, mkArgs, AV.cells, AV.boxable, AV.one, AV.strip1, fillA, fillS, Nat.reduceEqDiff, reduceCtorEq, ↓reduceIte, Nat.reduceAdd, Int.reduceNeg, Nat.reduceLeDiff, Int.reduceToNat, Int.reduceEq, Int.reduceLT, Int.reduceLE, Int.reduceAdd]
  refine goU_cut (fun x : Nat × Nat × Nat => [(6, .int .i64 x.2.2), (7, .int .i64 x.1), (8, .int .i64 x.2.1)]) (fun x H => Lead (b 0) x.1 x.2.1 x.2.2 ∧ H = Heap.emp) (fun J hJ => ?_) ?_
  · simp (disch := first | omega | assumption) only [steps, st2, pev, rev, oev, optr, ibin, sbin, ishf, bound, mmAll, mm2, mk, mkArgs, AV.cells, AV.boxable, AV.one, AV.strip1, fillA, fillS, Nat.reduceEqDiff, reduceCtorEq, ↓reduceIte, Nat.reduceAdd, Int.reduceNeg, Nat.reduceLeDiff, Int.reduceToNat, Int.reduceEq, Int.reduceLT, Int.reduceLE, Int.reduceAdd]
    by_cases a1 : (194 : Int) ≤ b 0
    · by_cases a2 : (b 0 : Int) < 224
      · have e := and31 (n := b 0) (by omega)
        simp (disch := first | omega | assumption) only [a1, a2, e, steps, st2, pev, rev, oev, optr, ibin, sbin, ishf, bound, mmAll, mm2, mk, mkArgs, AV.cells, AV.boxable, AV.one, AV.strip1, fillA, fillS, Nat.reduceEqDiff, reduceCtorEq, ↓reduceIte, Nat.reduceAdd, Int.reduceNeg, Nat.reduceLeDiff, Int.reduceToNat, Int.reduceEq, Int.reduceLT, Int.reduceLE, Int.reduceAdd]
        exact goJ (hJ (2, 128, b 0 % 32) _ ⟨.inl ⟨by omega, by omega, rfl, rfl, rfl⟩, rfl⟩) (by simp (disch := first | omega | assumption) only [steps, st2, pev, rev, oev, optr, ibin, sbin, ishf, bound, mmAll, mm2, mk, mkArgs, AV.cells, AV.boxable, AV.one, AV.strip1, fillA, fillS, Nat.reduceEqDiff, reduceCtorEq, ↓reduceIte, Nat.reduceAdd, Int.reduceNeg, Nat.reduceLeDiff, Int.reduceToNat, Int.reduceEq, Int.reduceLT, Int.reduceLE, Int.reduceAdd])
      · by_cases a3 : (b 0 : Int) < 240
        · have a4 : (224 : Int) ≤ b 0 := by omega
          have e := and15 (n := b 0) (by omega)
          simp (disch := first | omega | assumption) only [a1, a2, a3, a4, e, steps, st2, pev, rev, oev, optr, ibin, sbin, ishf, bound, mmAll, mm2, mk, mkArgs, AV.cells, AV.boxable, AV.one, AV.strip1, fillA, fillS, Nat.reduceEqDiff, reduceCtorEq, ↓reduceIte, Nat.reduceAdd, Int.reduceNeg, Nat.reduceLeDiff, Int.reduceToNat, Int.reduceEq, Int.reduceLT, Int.reduceLE, Int.reduceAdd]
          exact goJ (hJ (3, 2048, b 0 % 16) _ ⟨.inr (.inl ⟨by omega, by omega, rfl, rfl, rfl⟩), rfl⟩) (by simp (disch := first | omega | assumption) only [steps, st2, pev, rev, oev, optr, ibin, sbin, ishf, bound, mmAll, mm2, mk, mkArgs, AV.cells, AV.boxable, AV.one, AV.strip1, fillA, fillS, Nat.reduceEqDiff, reduceCtorEq, ↓reduceIte, Nat.reduceAdd, Int.reduceNeg, Nat.reduceLeDiff, Int.reduceToNat, Int.reduceEq, Int.reduceLT, Int.reduceLE, Int.reduceAdd])
        · have a4 : (224 : Int) ≤ b 0 := by omega
          have a5 : (240 : Int) ≤ b 0 := by omega
          by_cases a6 : (b 0 : Int) < 245
          · have e := and7 (n := b 0) (by omega)
            simp (disch := first | omega | assumption) only [a1, a2, a3, a4, a5, a6, e, steps, st2, pev, rev, oev, optr, ibin, sbin, ishf, bound, mmAll, mm2, mk, mkArgs, AV.cells, AV.boxable, AV.one, AV.strip1, fillA, fillS, Nat.reduceEqDiff, reduceCtorEq, ↓reduceIte, Nat.reduceAdd, Int.reduceNeg, Nat.reduceLeDiff, Int.reduceToNat, Int.reduceEq, Int.reduceLT, Int.reduceLE, Int.reduceAdd]
            exact goJ (hJ (4, 65536, b 0 % 8) _ ⟨.inr (.inr ⟨by omega, by omega, rfl, rfl, rfl⟩), rfl⟩) (by simp (disch := first | omega | assumption) only [steps, st2, pev, rev, oev, optr, ibin, sbin, ishf, bound, mmAll, mm2, mk, mkArgs, AV.cells, AV.boxable, AV.one, AV.strip1, fillA, fillS, Nat.reduceEqDiff, reduceCtorEq, ↓reduceIte, Nat.reduceAdd, Int.reduceNeg, Nat.reduceLeDiff, Int.reduceToNat, Int.reduceEq, Int.reduceLT, Int.reduceLE, Int.reduceAdd])
          · rw [Lib.decodeN_bad _ _ _ _ _ (.inr ⟨by omega, hbl 0⟩), if_pos rfl] at hQ
            simp (disch := first | omega | assumption) only [a1, a2, a3, a4, a5, a6, steps, st2, pev, rev, oev, optr, ibin, sbin, ishf, bound, mmAll, mm2, mk, mkArgs, AV.cells, AV.boxable, AV.one, AV.strip1, fillA, fillS, Nat.reduceEqDiff, reduceCtorEq, ↓reduceIte, Nat.reduceAdd, Int.reduceNeg, Nat.reduceLeDiff, Int.reduceToNat, Int.reduceEq, Int.reduceLT, Int.reduceLE, Int.reduceAdd]
            exact hQ _ _ _ _ nofun rfl (by simp [tupOf, envOf, AV.strip, AV.strip1])
    · have a2 : ¬ (224 : Int) ≤ b 0 := by omega
      have a3 : ¬ (240 : Int) ≤ b 0 := by omega
      rw [Lib.decodeN_bad _ _ _ _ _ (.inl ⟨by omega, by omega⟩), if_pos rfl] at hQ
      simp (disch := first | omega | assumption) only [a1, a2, a3, steps, st2, pev, rev, oev, optr, ibin, sbin, ishf, bound, mmAll, mm2, mk, mkArgs, AV.cells, AV.boxable, AV.one, AV.strip1, fillA, fillS, Nat.reduceEqDiff, reduceCtorEq, ↓reduceIte, Nat.reduceAdd, Int.reduceNeg, Nat.reduceLeDiff, Int.reduceToNat, Int.reduceEq, Int.reduceLT, Int.reduceLE, Int.reduceAdd]
      exact hQ _ _ _ _ nofun rfl (by simp [tupOf, envOf, AV.strip, AV.strip1])
  rintro ⟨w, lo, v⟩ H ⟨hL, rfl⟩
  simp only at hL
  have hv : v < 32 ∧ 2 ≤ w ∧ w ≤ 4 ∧ lo ≤ 65536 := by rcases hL with h | h | h <;> omega
  by_cases g : w ≤ s.length - i
  case neg =>
    have g' : (s.length : Int) - i < w := by omega
    rw [dec_short hL (by omega), if_pos rfl] at hQ
    simp (disch := first | omega | assumption) only [wrap64, g', steps, st2, pev, rev, oev, optr, ibin, sbin, ishf, bound, mmAll, mm2, mk, mkArgs, AV.cells, AV.boxable, AV.one, AV.strip1, fillA, fillS, Nat.reduceEqDiff, reduceCtorEq, ↓reduceIte, Nat.reduceAdd, Int.reduceNeg, Nat.reduceLeDiff, Int.reduceToNat, Int.reduceEq, Int.reduceLT, Int.reduceLE, Int.reduceAdd]
    exact hQ _ _ _ _ nofun rfl (by simp [tupOf, envOf, AV.strip, AV.strip1])
  have g' : ¬ (s.length : Int) - i < w := by omega
  simp (disch := first | omega | assumption) only [wrap64, g', steps, st2, pev, rev, oev, optr, ibin, sbin, ishf, bound, mmAll, mm2, mk, mkArgs, AV.cells, AV.boxable, AV.one, AV.strip1, fillA, fillS, Nat.reduceEqDiff, reduceCtorEq, ↓reduceIte, Nat.reduceAdd, Int.reduceNeg, Nat.reduceLeDiff, Int.reduceToNat, Int.reduceEq, Int.reduceLT, Int.reduceLE, Int.reduceAdd]
  refine goL_st (fun j : Nat => [(6, .int .i64 (cv v b j)), (9, .int .i64 (j + 1 : Nat))]) (fun j H => j + 1 ≤ w ∧ (∀ k, 1 ≤ k → k < j + 1 → 128 ≤ b k ∧ b k ≤ 191) ∧ cv v b j < 32 * 64 ^ j) (fun j => w - j) 0 (by simp (disch := first | omega | assumption) only [cv, steps, st2, pev, rev, oev, optr, ibin, sbin, ishf, bound, mmAll, mm2, mk, mkArgs, AV.cells, AV.boxable, AV.one, AV.strip1, fillA, fillS, Nat.reduceEqDiff, reduceCtorEq, ↓reduceIte, Nat.reduceAdd, Int.reduceNeg, Nat.reduceLeDiff, Int.reduceToNat, Int.reduceEq, Int.reduceLT, Int.reduceLE, Int.reduceAdd]) ⟨by omega, fun k h1 h2 => by omega, by simp [cv]; omega⟩ ?_
  rintro j H J ⟨hj, hcont, hcv⟩ hJ
  have hcv2 : cv v b j < 8388608 := by
    have : j = 0 ∨ j = 1 ∨ j = 2 ∨ j = 3 := by omega
    rcases this with rfl | rfl | rfl | rfl <;> omega
  by_cases hjw : j + 1 < w
  · have hjw' : ((j + 1 : Nat) : Int) < w := by omega
    have hto : ((i : Int) + ((j + 1 : Nat) : Int)).toNat = i + (j + 1) := by omega
    have hi1 : (0 : Int) ≤ (i : Int) + ((j + 1 : Nat) : Int) := by omega
    have hi2 : (i : Int) + ((j + 1 : Nat) : Int) < s.length := by omega
    obtain ⟨d, hd⟩ : ∃ d, s.getD (i + (j + 1)) 0 = d := ⟨_, rfl⟩
    have hdb : (d.toNat : Int) = (b (j + 1) : Nat) := by rw [← hd, ← bk]
    have hb1 := hbl (j + 1)
    have hw1 : IntKind.wrap .i64 ((b (j + 1) : Nat) : Int) = (b (j + 1) : Nat) := wrap_nat (by omega)
    simp (disch := first | omega | assumption) only [hjw', wrap64, hto, hi1, hi2, hd, hdb, hw1, steps, st2, pev, rev, oev, optr, ibin, sbin, ishf, bound, mmAll, mm2, mk, mkArgs, AV.cells, AV.boxable, AV.one, AV.strip1, fillA, fillS, Nat.reduceEqDiff, reduceCtorEq, ↓reduceIte, Nat.reduceAdd, Int.reduceNeg, Nat.reduceLeDiff, Int.reduceToNat, Int.reduceEq, Int.reduceLT, Int.reduceLE, Int.reduceAdd]
    by_cases a1 : ((b (j + 1) : Nat) : Int) < 128
    · rw [dec_cont hL (by omega) hjw (.inl (by omega)), if_pos rfl] at hQ
      simp (disch := first | omega | assumption) only [a1, steps, st2, pev, rev, oev, optr, ibin, sbin, ishf, bound, mmAll, mm2, mk, mkArgs, AV.cells, AV.boxable, AV.one, AV.strip1, fillA, fillS, Nat.reduceEqDiff, reduceCtorEq, ↓reduceIte, Nat.reduceAdd, Int.reduceNeg, Nat.reduceLeDiff, Int.reduceToNat, Int.reduceEq, Int.reduceLT, Int.reduceLE, Int.reduceAdd]
      exact hQ _ _ _ _ nofun rfl (by simp [tupOf, envOf, AV.strip, AV.strip1])
    by_cases a2 : (191 : Int) < ((b (j + 1) : Nat) : Int)
    · rw [dec_cont hL (by omega) hjw (.inr (by omega)), if_pos rfl] at hQ
      simp (disch := first | omega | assumption) only [a1, a2, steps, st2, pev, rev, oev, optr, ibin, sbin, ishf, bound, mmAll, mm2, mk, mkArgs, AV.cells, AV.boxable, AV.one, AV.strip1, fillA, fillS, Nat.reduceEqDiff, reduceCtorEq, ↓reduceIte, Nat.reduceAdd, Int.reduceNeg, Nat.reduceLeDiff, Int.reduceToNat, Int.reduceEq, Int.reduceLT, Int.reduceLE, Int.reduceAdd]
      exact hQ _ _ _ _ nofun rfl (by simp [tupOf, envOf, AV.strip, AV.strip1])
    have e1 := and63 (n := b (j + 1)) (by omega)
    have e2 : IntKind.wrap .i64 ((cv v b j : Int) * 2 ^ (min 6 IntKind.i64.bits)) = ((cv v b j * 64 : Nat) : Int) := by
      have e3 : (2 : Int) ^ (min 6 IntKind.i64.bits) = 64 := by decide
      rw [e3, wrap64 (by omega) (by omega)]; omega
    have e4 := or64 (a := cv v b j) (b := b (j + 1) % 64) (by omega) (Nat.mod_lt _ (by omega))
    simp (disch := first | omega | assumption) only [a1, a2, e1, e2, e4, steps, st2, pev, rev, oev, optr, ibin, sbin, ishf, bound, mmAll, mm2, mk, mkArgs, AV.cells, AV.boxable, AV.one, AV.strip1, fillA, fillS, Nat.reduceEqDiff, reduceCtorEq, ↓reduceIte, Nat.reduceAdd, Int.reduceNeg, Nat.reduceLeDiff, Int.reduceToNat, Int.reduceEq, Int.reduceLT, Int.reduceLE, Int.reduceAdd]
    have hpow : 32 * 64 ^ (j + 1) = 64 * (32 * 64 ^ j) := by rw [Nat.pow_succ]; omega
    exact goJ (hJ (j + 1) _ (by omega) ⟨by omega, fun k h1 h2 => by
      rcases Nat.lt_or_ge k (j + 1) with h3 | h3
      · exact hcont k h1 h3
      · have : k = j + 1 := by omega
        subst this
        omega, by simp only [cv]; omega⟩) (by simp (disch := first | omega | assumption) only [wrap64, cv, Int.natCast_add, Int.natCast_one, steps, st2, pev, rev, oev, optr, ibin, sbin, ishf, bound, mmAll, mm2, mk, mkArgs, AV.cells, AV.boxable, AV.one, AV.strip1, fillA, fillS, Nat.reduceEqDiff, reduceCtorEq, ↓reduceIte, Nat.reduceAdd, Int.reduceNeg, Nat.reduceLeDiff, Int.reduceToNat, Int.reduceEq, Int.reduceLT, Int.reduceLE, Int.reduceAdd])
  · have hjw' : ¬ ((j + 1 : Nat) : Int) < w := by omega
    have hjw2 : j = w - 1 := by omega
    subst hjw2
    rw [dec_full hL g (fun k h1 h2 => hcont k h1 (by omega))] at hQ
    have hcvB : (IntKind.wrap .i64 ((cv v b (w - 1) : Nat) : Int)) = (cv v b (w - 1) : Nat) := wrap_nat (by omega)
    by_cases x1 : ((cv v b (w - 1) : Nat) : Int) < lo
    · rw [if_pos (.inl (by omega))] at hQ
      simp (disch := first | omega | assumption) only [hjw', x1, steps, st2, pev, rev, oev, optr, ibin, sbin, ishf, bound, mmAll, mm2, mk, mkArgs, AV.cells, AV.boxable, AV.one, AV.strip1, fillA, fillS, Nat.reduceEqDiff, reduceCtorEq, ↓reduceIte, Nat.reduceAdd, Int.reduceNeg, Nat.reduceLeDiff, Int.reduceToNat, Int.reduceEq, Int.reduceLT, Int.reduceLE, Int.reduceAdd]
      exact hQ _ _ _ _ nofun rfl (by simp [tupOf, envOf, AV.strip, AV.strip1])
    by_cases x2 : (1114111 : Int) < ((cv v b (w - 1) : Nat) : Int)
    · rw [if_pos (.inr (.inl (by omega)))] at hQ
      simp (disch := first | omega | assumption) only [hjw', x1, x2, steps, st2, pev, rev, oev, optr, ibin, sbin, ishf, bound, mmAll, mm2, mk, mkArgs, AV.cells, AV.boxable, AV.one, AV.strip1, fillA, fillS, Nat.reduceEqDiff, reduceCtorEq, ↓reduceIte, Nat.reduceAdd, Int.reduceNeg, Nat.reduceLeDiff, Int.reduceToNat, Int.reduceEq, Int.reduceLT, Int.reduceLE, Int.reduceAdd]
      exact hQ _ _ _ _ nofun rfl (by simp [tupOf, envOf, AV.strip, AV.strip1])
    by_cases x3 : (55296 : Int) ≤ ((cv v b (w - 1) : Nat) : Int)
    · by_cases x4 : ((cv v b (w - 1) : Nat) : Int) < 57344
      · rw [if_pos (.inr (.inr ⟨by omega, by omega⟩))] at hQ
        simp (disch := first | omega | assumption) only [hjw', x1, x2, x3, x4, steps, st2, pev, rev, oev, optr, ibin, sbin, ishf, bound, mmAll, mm2, mk, mkArgs, AV.cells, AV.boxable, AV.one, AV.strip1, fillA, fillS, Nat.reduceEqDiff, reduceCtorEq, ↓reduceIte, Nat.reduceAdd, Int.reduceNeg, Nat.reduceLeDiff, Int.reduceToNat, Int.reduceEq, Int.reduceLT, Int.reduceLE, Int.reduceAdd]
        exact hQ _ _ _ _ nofun rfl (by simp [tupOf, envOf, AV.strip, AV.strip1])
      · rw [if_neg (by omega)] at hQ
        simp (disch := first | omega | assumption) only [hjw', x1, x2, x3, x4, steps, st2, pev, rev, oev, optr, ibin, sbin, ishf, bound, mmAll, mm2, mk, mkArgs, AV.cells, AV.boxable, AV.one, AV.strip1, fillA, fillS, Nat.reduceEqDiff, reduceCtorEq, ↓reduceIte, Nat.reduceAdd, Int.reduceNeg, Nat.reduceLeDiff, Int.reduceToNat, Int.reduceEq, Int.reduceLT, Int.reduceLE, Int.reduceAdd]
        exact hQ _ _ _ _ nofun rfl (by simp [tupOf, envOf, AV.strip, AV.strip1])
    · rw [if_neg (by omega)] at hQ
      simp (disch := first | omega | assumption) only [hjw', x1, x2, x3, steps, st2, pev, rev, oev, optr, ibin, sbin, ishf, bound, mmAll, mm2, mk, mkArgs, AV.cells, AV.boxable, AV.one, AV.strip1, fillA, fillS, Nat.reduceEqDiff, reduceCtorEq, ↓reduceIte, Nat.reduceAdd, Int.reduceNeg, Nat.reduceLeDiff, Int.reduceToNat, Int.reduceEq, Int.reduceLT, Int.reduceLE, Int.reduceAdd]
      exact hQ _ _ _ _ nofun rfl (by simp [tupOf, envOf, AV.strip, AV.strip1])
end Go.Proofs.YtpjafglhdlfnbaaDoor
