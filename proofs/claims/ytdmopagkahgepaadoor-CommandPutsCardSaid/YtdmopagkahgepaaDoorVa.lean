/- What is printed is parsed as it was: plain Lean. -/
import Derived.Lib.ParseIntB
import Derived.Lib.ParseIntBCases
import Derived.Lib.ParseIntBTie
import Derived.Lib.ItoaMem
import Derived.Lib.ItoaLen
import Derived.RowKit
namespace Go.Proofs.YtdmopagkahgepaaDoor
open Go.Lib

theorem digit_nat {d : Nat} (h : d < 10) : (UInt8.ofNat (48 + d)).toNat = 48 + d := by
  rw [UInt8.toNat_ofNat']
  omega
theorem parse_dec (M : Nat) (hM : M ≤ 18446744073709551615) : ∀ (u : Nat) (r : List UInt8), u ≤ M → parseUintM M 0 (decDigits u ++ r) = parseUintM M u r := by
  intro u
  induction u using Nat.strongRecOn with
  | _ u ih =>
    intro r hu
    by_cases h : u < 10
    · rw [decDigits_one h]
      show parseUintM M 0 (UInt8.ofNat (48 + u) :: r) = _
      rw [parseUintM, digit_nat h, if_pos (by omega), if_neg (by omega), if_neg (by omega)]
      congr 1
      omega
    · rw [decDigits, dif_neg h, List.append_assoc, ih (u / 10) (by omega) _ (by omega)]
      show parseUintM M (u / 10) (UInt8.ofNat (48 + u % 10) :: r) = _
      rw [parseUintM, digit_nat (Nat.mod_lt _ (by omega)), if_pos (by omega), if_neg (by omega), if_neg (by omega)]
      congr 1
      omega
theorem dec_head (u : Nat) : ∃ c r, decDigits u = c :: r ∧ 48 ≤ c.toNat ∧ c.toNat ≤ 57 := by
  induction u using Nat.strongRecOn with
  | _ u ih =>
    by_cases h : u < 10
    · exact ⟨_, [], decDigits_one h, by rw [digit_nat h]; omega, by rw [digit_nat h]; omega⟩
    · obtain ⟨c, r, e, h1, h2⟩ := ih (u / 10) (by omega)
      exact ⟨c, r ++ [UInt8.ofNat (48 + u % 10)], by rw [decDigits, dif_neg h, e]; rfl, h1, h2⟩
theorem parse_dec_all (u : Nat) (h : u ≤ 18446744073709551615) : parseUintB 64 (decDigits u) = .ok u := by
  obtain ⟨c, r, e, _⟩ := dec_head u
  unfold parseUintB
  rw [if_neg (by rw [e]; simp)]
  have := parse_dec (2 ^ 64 - 1) (by decide) u [] (by simpa using h)
  rw [List.append_nil] at this
  rw [this]
  rfl
/-- A number that is printed is parsed as it was. -/
theorem parse_itoa (v : Int) (h0 : -9223372036854775808 ≤ v) (h1 : v ≤ 9223372036854775807) : parseIntB 64 (itoa v) = .ok v := by
  by_cases hv : v < 0
  · have e : itoa v = 45 :: decDigits v.natAbs := by unfold itoa; rw [if_pos hv]
    rw [e]
    have hp := parse_dec_all v.natAbs (by omega)
    have h45 : (45 : UInt8).toNat = 45 := rfl
    unfold parseIntB
    simp only [h45, or_true, if_true, hp]
    rw [if_neg (by simp), if_neg (by omega)]
    congr 1
    omega
  · have e : itoa v = decDigits v.toNat := by unfold itoa; rw [if_neg hv]
    obtain ⟨c, r, ec, hc1, hc2⟩ := dec_head v.toNat
    have hp := parse_dec_all v.toNat (by omega)
    rw [e]
    rw [ec] at hp ⊢
    rw [parseIntB_plain 64 c r (by omega) (by omega), hp]
    unfold signlessC
    simp only
    rw [if_neg (by omega)]
    congr 1
    omega

/-- One digit more of a number that is told below 0 (as an int64 goes round). -/
def stepN (n : Int) (c : UInt8) : Int := RowKit.wrap64 (RowKit.wrap64 (n * 10) - ((c.toNat : Int) - 48))
theorem fold_dec (u : Nat) (h : u ≤ 9223372036854775808) : (decDigits u).foldl stepN 0 = -(u : Int) := by
  induction u using Nat.strongRecOn with
  | _ u ih =>
    by_cases h10 : u < 10
    · rw [decDigits_one h10]
      show stepN 0 _ = _
      unfold stepN RowKit.wrap64
      rw [digit_nat h10]
      omega
    · rw [decDigits, dif_neg h10, List.foldl_append, ih (u / 10) (by omega) (by omega)]
      show stepN _ _ = _
      unfold stepN RowKit.wrap64
      rw [digit_nat (Nat.mod_lt _ (by omega))]
      omega
/-- Which strings tell a number, as it is told. -/
theorem told_iff (l : List UInt8) : (∃ v, parseIntB 64 l = .ok v ∧ itoa v = l) ↔ ∃ v : Int, -9223372036854775808 ≤ v ∧ v ≤ 9223372036854775807 ∧ itoa v = l := by
  constructor
  · rintro ⟨v, h, e⟩
    by_cases hb : -9223372036854775808 ≤ v ∧ v ≤ 9223372036854775807
    · exact ⟨v, hb.1, hb.2, e⟩
    · exfalso
      have := parseIntB_bounds h
      omega
  · rintro ⟨v, h0, h1, e⟩
    exact ⟨v, by rw [← e]; exact parse_itoa v h0 h1, e⟩
end Go.Proofs.YtdmopagkahgepaaDoor
