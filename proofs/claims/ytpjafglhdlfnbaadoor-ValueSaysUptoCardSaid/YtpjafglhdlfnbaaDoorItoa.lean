/- The decimal text of a number, read back. No program in this text. -/
import Derived.Lib.ItoaMem
import Derived.Lib.ParseIntBTie
set_option linter.unusedSimpArgs false
set_option linter.unusedVariables false
namespace Go.Proofs.YtpjafglhdlfnbaaDoor
open Go.Lib

theorem u8_48 {d : Nat} (h : d < 10) : (UInt8.ofNat (48 + d)).toNat = 48 + d := by
  rw [UInt8.toNat_ofNat']; omega

theorem parse_dec (u : Nat) (hu : u < 18446744073709551616) (r : List UInt8) : parseUint10 0 (decDigits u ++ r) = parseUint10 u r := by
  induction u using Nat.strongRecOn generalizing r with
  | _ u ih =>
    rw [decDigits]
    split
    · rename_i h
      simp only [List.cons_append, List.nil_append, parseUint10, u8_48 h]
      rw [if_pos (by omega), if_neg (by omega), if_neg (by omega)]
      congr 1
      omega
    · rename_i h
      have hd : u % 10 < 10 := Nat.mod_lt _ (by omega)
      rw [List.append_assoc, ih (u / 10) (by omega) (by omega)]
      simp only [List.cons_append, List.nil_append, parseUint10, u8_48 hd]
      rw [if_pos (by omega), if_neg (by omega), if_neg (by omega)]
      congr 1
      omega

theorem decDigits_ne (u : Nat) : decDigits u ≠ [] := by
  rw [decDigits]; split <;> simp
theorem decDigits_mem (u : Nat) : ∀ c ∈ decDigits u, 48 ≤ c.toNat ∧ c.toNat ≤ 57 := by
  induction u using Nat.strongRecOn with
  | _ u ih =>
    intro c hc
    rw [decDigits] at hc
    split at hc
    · rename_i h
      rw [List.mem_singleton] at hc
      subst hc
      rw [u8_48 h]; omega
    · rename_i h
      rcases List.mem_append.1 hc with e | e
      · exact ih (u / 10) (by omega) c e
      · rw [List.mem_singleton] at e
        subst e
        rw [u8_48 (Nat.mod_lt _ (by omega))]; omega
theorem parse_mag (u : Nat) (hu : u < 18446744073709551616) : parseMag (decDigits u) = .ok u := by
  unfold parseMag
  rw [if_neg (decDigits_ne u)]
  have := parse_dec u hu []
  rw [List.append_nil] at this
  rw [this]; rfl

theorem parse_itoa (n : Int) (h1 : -9223372036854775808 ≤ n) (h2 : n ≤ 9223372036854775807) : parseIntB 64 (itoa n) = .ok n := by
  rw [parseIntB_64]
  unfold itoa
  split
  · rename_i h
    rw [atoiAll_minus, parse_mag _ (by omega)]
    simp only [signed]
    rw [if_neg (by omega)]
    congr 1
    omega
  · rename_i h
    cases hd : decDigits n.toNat with
    | nil => exact absurd hd (decDigits_ne _)
    | cons c r =>
      have hc := decDigits_mem n.toNat c (by rw [hd]; simp)
      rw [atoiAll_plain c r (by omega) (by omega), ← hd, parse_mag _ (by omega)]
      simp only [signless]
      rw [if_neg (by omega)]
      congr 1
      omega

theorem itoa_inj {n m : Int} (h1 : -9223372036854775808 ≤ n) (h2 : n ≤ 9223372036854775807) (h3 : -9223372036854775808 ≤ m) (h4 : m ≤ 9223372036854775807) (h : itoa n = itoa m) : n = m := by
  have a := parse_itoa n h1 h2
  rw [h, parse_itoa m h3 h4] at a
  injection a with a
  exact a.symm
end Go.Proofs.YtpjafglhdlfnbaaDoor
