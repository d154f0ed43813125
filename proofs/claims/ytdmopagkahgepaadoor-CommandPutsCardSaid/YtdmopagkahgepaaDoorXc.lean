/- Which strings the reference's number takes: plain Lean. -/
import Derived.Test.YtdmopagkahgepaaDoorVc
namespace Go.Proofs.YtdmopagkahgepaaDoor
open Go.Lib

/-- What stands behind a sign, of the first k bytes. -/
def bodyL (l : List UInt8) (k : Nat) : List UInt8 := if l.head? = some 45 then (l.take k).drop 1 else l.take k
/-- The number so far, told below 0. -/
def downL (l : List UInt8) (k : Nat) : Int := (bodyL l k).foldl stepN 0
theorem downL_zero (l : List UInt8) : downL l 0 = 0 := by
  unfold downL bodyL
  split <;> simp
theorem stepN_in (n : Int) (c : UInt8) : In64 (stepN n c) := by
  unfold stepN RowKit.wrap64 In64
  omega
theorem fold_in (l : List UInt8) : ∀ n, In64 n → In64 (l.foldl stepN n) := by
  induction l with
  | nil => exact fun n h => h
  | cons c l ih => exact fun n _ => ih _ (stepN_in n c)
theorem downL_in (l : List UInt8) (k : Nat) : In64 (downL l k) := fold_in _ 0 (by unfold In64; omega)
/-- A sign ahead is passed over. -/
theorem downL_sign {l : List UInt8} (h : l[0]?.getD 0 = 45) (h0 : 0 < l.length) : downL l 1 = 0 := by
  cases l with
  | nil => cases h0
  | cons c l =>
    simp at h
    subst h
    simp [downL, bodyL]
/-- A digit more. -/
theorem downL_next {l : List UInt8} {k : Nat} (h : k < l.length) (hne : ¬ (k = 0 ∧ l[k]?.getD 0 = 45)) : downL l (k + 1) = stepN (downL l k) (l[k]?.getD 0) := by
  unfold downL bodyL
  have ht : l.take (k + 1) = l.take k ++ [l[k]?.getD 0] := by
    rw [List.take_succ_eq_append_getElem h, List.getElem?_eq_getElem h]
    rfl
  rw [ht]
  split
  · rename_i h45
    have hk : k ≠ 0 := by
      rintro rfl
      apply hne
      refine ⟨rfl, ?_⟩
      cases l with
      | nil => cases h
      | cons c l => simpa using h45
    rw [List.drop_append_of_le_length (by rw [List.length_take]; omega), List.foldl_append]
    rfl
  · rw [List.foldl_append]
    rfl
theorem itoa_len21 {v : Int} (h : In64 v) : (itoa v).length ≤ 21 := by
  have := itoa_length_le v h.1 h.2
  omega
/-- A byte that is no digit, and no sign ahead, or stands too far behind: it is no number. -/
theorem numL_stop {l : List UInt8} {k : Nat} (h : k < l.length) (hne : ¬ (k = 0 ∧ l[k]?.getD 0 = 45)) (hbad : (l[k]?.getD 0).toNat < 48 ∨ 57 < (l[k]?.getD 0).toNat ∨ 20 < k) : numL l = none := by
  cases hn : numL l with
  | none => rfl
  | some v =>
    exfalso
    obtain ⟨e, h0, h1⟩ := numL_some hn
    have hl := itoa_len21 (v := v) ⟨h0, h1⟩
    rw [e] at hl
    rw [List.getElem?_eq_getElem h] at hne hbad
    simp only [Option.getD_some] at hne hbad
    have hm : l[k] ∈ itoa v := by rw [e]; exact List.getElem_mem h
    rcases itoa_chars v _ hm with h45 | hd
    · by_cases hk : k = 0
      · exact hne ⟨hk, h45⟩
      · by_cases hv : v < 0
        · have e' : itoa v = 45 :: decDigits v.natAbs := by unfold itoa; rw [if_pos hv]
          rw [e'] at e
          subst e
          obtain ⟨j, rfl⟩ : ∃ j, k = j + 1 := ⟨k - 1, by omega⟩
          rw [List.getElem_cons_succ] at h45
          have := dec_digits v.natAbs _ (List.getElem_mem (by simpa using h) : (decDigits v.natAbs)[j]'(by simpa using h) ∈ _)
          rw [h45] at this
          exact absurd this.1 (by decide)
        · have e' : itoa v = decDigits v.toNat := by unfold itoa; rw [if_neg hv]
          rw [e'] at hm
          have := dec_digits v.toNat _ hm
          rw [h45] at this
          exact absurd this.1 (by decide)
    · omega
/-- The number that was told. -/
def toldL (l : List UInt8) : Int := if 0 < l.length ∧ l[0]?.getD 0 ≠ 45 then RowKit.wrap64 (-(downL l l.length)) else downL l l.length
theorem toldL_in (l : List UInt8) : In64 (toldL l) := by
  unfold toldL
  split
  · unfold RowKit.wrap64 In64
    omega
  · exact downL_in _ _
theorem toldL_itoa {v : Int} (h : In64 v) : toldL (itoa v) = v := by
  unfold toldL downL bodyL
  obtain ⟨h0, h1⟩ := h
  by_cases hv : v < 0
  · have e : itoa v = 45 :: decDigits v.natAbs := by unfold itoa; rw [if_pos hv]
    rw [e]
    simp only [List.head?_cons, List.take_length, if_true, List.drop_succ_cons, List.drop_zero]
    rw [if_neg (by simp), fold_dec _ (by omega)]
    omega
  · have e : itoa v = decDigits v.toNat := by unfold itoa; rw [if_neg hv]
    obtain ⟨c, r, ec, hc, _⟩ := dec_head v.toNat
    have hne : c ≠ 45 := by rintro rfl; exact absurd hc (by decide)
    have hf := fold_dec v.toNat (by omega)
    rw [e]
    rw [List.take_length]
    rw [if_pos ⟨by rw [ec]; simp, by rw [ec]; simpa using hne⟩, if_neg (by rw [ec]; simpa using hne), hf]
    unfold RowKit.wrap64
    omega
theorem numL_no {l : List UInt8} (h : ∀ v : Int, itoa v = l → In64 v → False) : numL l = none := by
  cases e : numL l with
  | none => rfl
  | some v =>
    have := numL_some e
    exact (h v this.1 ⟨this.2.1, this.2.2⟩).elim
theorem numL_told (l : List UInt8) : numL l = if itoa (toldL l) = l then some (toldL l) else none := by
  split
  · rename_i h
    have hi := toldL_in l
    have := numL_itoa (toldL l) hi.1 hi.2
    rw [h] at this
    exact this
  · rename_i h
    refine numL_no ?_
    intro v hv h64
    apply h
    rw [← hv, toldL_itoa h64]
end Go.Proofs.YtdmopagkahgepaaDoor
