/- The document's examples, and lines that are none: plain Lean. -/
import Derived.Test.YtdmopagkahgepaaDoorVc
namespace Go.Proofs.YtdmopagkahgepaaDoor
open Go.Lib

theorem parse_bad {w : List UInt8} {r : List (List UInt8)} (hw : (32 : UInt8) ∉ w) (hr : ∀ x ∈ r, (32 : UInt8) ∉ x) (h : kindL w ≤ 0 ∨ ∃ x ∈ r, numL x = none) : parseL (lineOf w r) = none := by
  rw [parse_line w r hw hr]
  unfold parseW
  split
  · rfl
  · rcases h with h | ⟨x, hx, h⟩
    · omega
    · rw [numsL_bad hx h]

/-- open 7 1 1000 500 605 -/
def openCmd : Cmd := ⟨1, 7, 1, 1, 0, 1000, [500, 605], 0, 0, false, 0⟩
def openLine : List UInt8 := [111, 112, 101, 110, 32, 55, 32, 49, 32, 49, 48, 48, 48, 32, 53, 48, 48, 32, 54, 48, 53]
theorem itoa_7 : itoa 7 = [55] := by simp [itoa, decDigits]
theorem itoa_1 : itoa 1 = [49] := by simp [itoa, decDigits]
theorem itoa_3 : itoa 3 = [51] := by simp [itoa, decDigits]
theorem itoa_1000 : itoa 1000 = [49, 48, 48, 48] := by simp [itoa, decDigits]
theorem itoa_500 : itoa 500 = [53, 48, 48] := by simp [itoa, decDigits]
theorem itoa_605 : itoa 605 = [54, 48, 53] := by simp [itoa, decDigits]
theorem openCmd_fine : openCmd.Fine := by
  refine ⟨?_, ?_, ?_, ?_, ?_, ?_, ?_, ?_⟩
  all_goals simp [openCmd, In64]
theorem put_open : putL openCmd = some openLine := by
  have hn : numsOf openCmd = [7, 1, 1000, 500, 605] := by decide +kernel
  have hk : openCmd.kind = 1 := rfl
  unfold putL
  rw [hn, hk, if_pos ⟨by omega, by omega, by decide +kernel, by decide +kernel⟩]
  simp only [List.map_cons, List.map_nil, itoa_7, itoa_1, itoa_1000, itoa_500, itoa_605]
  decide +kernel
theorem parse_open : parseL openLine = some openCmd := parse_put openCmd_fine put_open
/-- close 07 -/
def closeLine : List UInt8 := [99, 108, 111, 115, 101, 32, 48, 55]
theorem parse_close : parseL closeLine = none := by
  have e : closeLine = lineOf [99, 108, 111, 115, 101] [[48, 55]] := by decide +kernel
  rw [e]
  refine parse_bad (by decide) (by decide) (.inr ⟨[48, 55], by simp, numL_none fun v h => ?_⟩)
  have := itoa_zero h
  simp at this
/-- report 3 -/
def reportCmd : Cmd := ⟨13, 0, 0, 0, 0, 0, [], 0, 0, false, 3⟩
def reportLine : List UInt8 := [114, 101, 112, 111, 114, 116, 32, 51]
theorem put_report : putL reportCmd = some reportLine := by
  have hn : numsOf reportCmd = [3] := by decide +kernel
  have hk : reportCmd.kind = 13 := rfl
  unfold putL
  rw [hn, hk, if_pos ⟨by omega, by omega, by decide +kernel, by decide +kernel⟩]
  simp only [List.map_cons, List.map_nil, itoa_3]
  decide +kernel

/-- A word's kind when it is none of the words. -/
theorem kind_none {w : List UInt8} (h : ∀ k : Nat, 1 ≤ k → k < 15 → (wordL.getD k ByteArray.empty).data.toList ≠ w) : kindL w ≤ 0 := by
  by_cases hk : 0 < kindL w
  · obtain ⟨h1, h2⟩ := kind_some hk
    exact absurd h2 (h _ (by omega) (by omega))
  · omega
/-- What a line is with something more in its first word, or behind its last. -/
theorem words_head : ∀ k : Nat, k < 15 → ((wordL.getD k ByteArray.empty).data.toList).head? ≠ some 120 := by decide +kernel
theorem kind_x (w : List UInt8) : kindL (120 :: w) ≤ 0 := kind_none fun k _ h2 e => words_head k h2 (by rw [e]; rfl)
theorem words_last : ∀ k : Nat, k < 15 → (10 : UInt8) ∉ (wordL.getD k ByteArray.empty).data.toList := by decide +kernel
theorem kind_nl (w : List UInt8) : kindL (w ++ [10]) ≤ 0 := kind_none fun k _ h2 e => words_last k h2 (by rw [e]; simp)
theorem kind_nil : kindL [] ≤ 0 := kind_none fun k h1 h2 e => by
  have : ∀ k : Nat, k < 15 → 1 ≤ k → (wordL.getD k ByteArray.empty).data.toList ≠ [] := by decide +kernel
  exact this k h2 h1 e
/-- A letter's great form. -/
def upB (c : UInt8) : UInt8 := if 97 ≤ c ∧ c ≤ 122 then c - 32 else c
theorem words_small : ∀ k : Nat, 1 ≤ k → k < 15 → ∃ c, ((wordL.getD k ByteArray.empty).data.toList).head? = some c ∧ 97 ≤ c ∧ c ≤ 122 := by
  intro k h1 h2
  have : ∀ k : Nat, k < 15 → 1 ≤ k → (match ((wordL.getD k ByteArray.empty).data.toList).head? with | none => false | some c => decide (97 ≤ c ∧ c ≤ 122)) = true := by decide +kernel
  have := this k h2 h1
  split at this
  · cases this
  · rename_i c e
    exact ⟨c, e, by simpa using this⟩
theorem upB_small (c : UInt8) : ¬ (97 ≤ upB c ∧ upB c ≤ 122) := by
  unfold upB
  split
  · rename_i h
    simp only [UInt8.le_iff_toNat_le, UInt8.toNat_sub] at h ⊢
    have := c.toNat_lt
    simp at h ⊢
    omega
  · rename_i h
    exact h
theorem kind_up (w : List UInt8) : kindL (w.map upB) ≤ 0 := kind_none fun k h1 h2 e => by
  obtain ⟨c, hc, h⟩ := words_small k h1 h2
  rw [e, List.head?_map] at hc
  obtain ⟨d, _, rfl⟩ := Option.map_eq_some_iff.1 hc
  exact upB_small d h

theorem numL_nil : numL [] = none := numL_none fun v h => itoa_ne v h
theorem numL_char {l : List UInt8} {c : UInt8} (hc : c ∈ l) (h1 : c ≠ 45) (h2 : c.toNat < 48 ∨ 57 < c.toNat) : numL l = none := numL_none fun _ h => itoa_no h1 h2 (by rw [h]; exact hc)
theorem numL_zero {l : List UInt8} (h : l ≠ []) : numL (48 :: l) = none := numL_none fun _ e => h (itoa_zero e)
theorem numL_plus (l : List UInt8) : numL (43 :: l) = none := numL_char (c := 43) (by simp) (by decide) (by decide)
theorem lineOf_snoc (w : List UInt8) (r : List (List UInt8)) (x : List UInt8) : lineOf w (r ++ [x]) = lineOf w r ++ 32 :: x := by simp [lineOf]
end Go.Proofs.YtdmopagkahgepaaDoor
