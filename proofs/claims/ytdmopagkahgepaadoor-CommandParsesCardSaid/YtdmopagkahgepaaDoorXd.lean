/- How the reference cuts a line, and finds a word's kind: plain Lean. -/
import Derived.Test.YtdmopagkahgepaaDoorUh
namespace Go.Proofs.YtdmopagkahgepaaDoor
open Go.Lib

theorem segs_one : ∀ x : List UInt8, (32 : UInt8) ∉ x → segs x = [x]
  | [], _ => rfl
  | b :: x, h => by
    have hb : b ≠ 32 := fun e => h (by simp [e])
    have ih := segs_one x (fun m => h (by simp [m]))
    rw [segs, if_neg hb, ih]
theorem segs_cut : ∀ (x r : List UInt8), (32 : UInt8) ∉ x → segs (x ++ 32 :: r) = x :: segs r
  | [], r, _ => by simp [segs]
  | b :: x, r, h => by
    have hb : b ≠ 32 := fun e => h (by simp [e])
    have ih := segs_cut x r (fun m => h (by simp [m]))
    rw [List.cons_append, segs, if_neg hb, ih]
/-- Where the cut of a line stands: the words so far, and what is read of the next one. -/
structure CutAt (L : List UInt8) (ws : List (List UInt8)) (from_ i : Nat) : Prop where
  le : from_ ≤ i
  top : i ≤ L.length
  all : segs L = ws ++ segs (L.drop from_)
  free : (32 : UInt8) ∉ (L.drop from_).take (i - from_)
theorem CutAt.start (L : List UInt8) : CutAt L [] 0 0 := ⟨Nat.le_refl _, Nat.zero_le _, by simp, by simp⟩
theorem take_grow (L : List UInt8) (f i : Nat) (h : i < L.length) (hf : f ≤ i) : (L.drop f).take (i + 1 - f) = (L.drop f).take (i - f) ++ [L[i]] := by
  have e : i + 1 - f = (i - f) + 1 := by omega
  have hlt : i - f < (L.drop f).length := by rw [List.length_drop]; omega
  rw [e, List.take_succ_eq_append_getElem hlt, List.getElem_drop]
  congr 3
  omega
/-- A byte that is no blank. -/
theorem CutAt.step {L : List UInt8} {ws : List (List UInt8)} {f i : Nat} (h : CutAt L ws f i) (hi : i < L.length) (hb : L[i] ≠ 32) : CutAt L ws f (i + 1) := by
  refine ⟨by have := h.le; omega, by omega, h.all, ?_⟩
  rw [take_grow L f i hi h.le]
  intro hm
  rcases List.mem_append.1 hm with hm | hm
  · exact h.free hm
  · exact hb (List.mem_singleton.1 hm).symm
/-- A blank: the word is whole. -/
theorem CutAt.blank {L : List UInt8} {ws : List (List UInt8)} {f i : Nat} (h : CutAt L ws f i) (hi : i < L.length) (hb : L[i] = 32) : CutAt L (ws ++ [(L.drop f).take (i - f)]) (i + 1) (i + 1) := by
  refine ⟨Nat.le_refl _, by omega, ?_, by simp⟩
  have e : L.drop f = (L.drop f).take (i - f) ++ 32 :: L.drop (i + 1) := by
    have h1 : L.drop f = (L.drop f).take (i - f) ++ (L.drop f).drop (i - f) := (List.take_append_drop _ _).symm
    have h2 : (L.drop f).drop (i - f) = L.drop i := by
      rw [List.drop_drop]
      congr 1
      have := h.le
      omega
    rw [h2, List.drop_eq_getElem_cons hi, hb] at h1
    exact h1
  rw [h.all, List.append_assoc]
  congr 1
  conv => lhs; rw [e]
  rw [segs_cut _ _ h.free]
  rfl
/-- The line's end. -/
theorem CutAt.fin {L : List UInt8} {ws : List (List UInt8)} {f : Nat} (h : CutAt L ws f L.length) : segs L = ws ++ [(L.drop f).take (L.length - f)] := by
  have e : (L.drop f).take (L.length - f) = L.drop f := List.take_of_length_le (by rw [List.length_drop]; omega)
  have hf := h.free
  rw [e] at hf ⊢
  rw [h.all, segs_one _ hf]

/-- The 15 words are told apart. -/
theorem word_idx : ∀ i : Nat, i < 15 → Lib.idxOfS (wordL.take 15) (wordL.getD i ByteArray.empty) = (i : Int) := by decide +kernel
theorem idx_word {x : ByteArray} {i : Nat} (hi : i < 15) : (wordL.getD i ByteArray.empty = x) ↔ Lib.idxOfS (wordL.take 15) x = (i : Int) := by
  constructor
  · rintro rfl
    exact word_idx i hi
  · intro h
    have ht : wordL.take 15 = wordL := rfl
    rw [ht] at h
    unfold Lib.idxOfS at h
    rcases idxFrom_cases x wordL 0 with e | ⟨j, hj, hx, e⟩
    · omega
    · have : j = i := by omega
      subst this
      exact hx
/-- The kind that is found among the words ahead of j. -/
def kindTo (x : ByteArray) (j : Nat) : Int := if 0 < Lib.idxOfS (wordL.take 15) x ∧ Lib.idxOfS (wordL.take 15) x < j then Lib.idxOfS (wordL.take 15) x else 0
theorem kindTo_zero (x : ByteArray) : kindTo x 0 = 0 := by
  unfold kindTo
  rw [if_neg (by omega)]
theorem kindTo_yes {x : ByteArray} {j : Nat} (h0 : 0 < j) (hj : j < 15) (h : wordL.getD j ByteArray.empty = x) : kindTo x (j + 1) = (j : Int) := by
  have := (idx_word hj).1 h
  unfold kindTo
  rw [this, if_pos (by omega)]
theorem kindTo_no {x : ByteArray} {j : Nat} (hj : j < 15) (h : j = 0 ∨ wordL.getD j ByteArray.empty ≠ x) : kindTo x (j + 1) = kindTo x j := by
  unfold kindTo
  have h1 : ¬ (0 < Lib.idxOfS (wordL.take 15) x ∧ Lib.idxOfS (wordL.take 15) x = (j : Int)) := by
    rintro ⟨h0, e⟩
    rcases h with rfl | h
    · omega
    · exact h ((idx_word hj).2 e)
  by_cases h2 : 0 < Lib.idxOfS (wordL.take 15) x ∧ Lib.idxOfS (wordL.take 15) x < (j : Int)
  · rw [if_pos (by omega), if_pos h2]
  · rw [if_neg (by omega), if_neg h2]
theorem kindTo_all (x : ByteArray) : kindTo x 15 = if Lib.idxOfS (wordL.take 15) x ≤ 0 then 0 else Lib.idxOfS (wordL.take 15) x := by
  have hle : Lib.idxOfS (wordL.take 15) x ≤ 14 := by
    by_cases h : 0 < Lib.idxOfS (wordL.take 15) x
    · have h' : 0 < kindL x.data.toList := by rw [kindL_bytes]; exact h
      have := (kind_some h').1
      rw [kindL_bytes] at this
      exact this
    · omega
  unfold kindTo
  by_cases h : Lib.idxOfS (wordL.take 15) x ≤ 0
  · rw [if_neg (by omega), if_pos h]
  · rw [if_pos (by omega), if_neg h]
end Go.Proofs.YtdmopagkahgepaaDoor
