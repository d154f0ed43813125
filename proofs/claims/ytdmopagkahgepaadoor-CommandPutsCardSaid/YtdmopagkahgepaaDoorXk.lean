/- lombardref24.command, of any kind: as the program's of. -/
import Derived.Test.YtdmopagkahgepaaDoorXj
namespace Go.Proofs.YtdmopagkahgepaaDoor
open Go.RowKit Go.Maps Go.ChangeMaps Go.ChangeShapes

theorem NumsAt.here {w : World} {v : Value} {xs : List Int} (h : NumsAt w v xs) (h0 : 0 < xs.length) : ∃ g c, v = .slice (some ⟨g, 0, none⟩) xs.length c ∧ g < w.heap.size ∧ ∀ i, i < xs.length → w.cell? ⟨g, i, none⟩ = some (.int .i64 (xs[i]?.getD 0)) := by
  obtain ⟨A, c, rfl, h⟩ := h
  obtain ⟨g, rfl, hg, _⟩ := h 0 h0
  refine ⟨g, c, rfl, hg, fun i hi => ?_⟩
  obtain ⟨g', e, _, c0⟩ := h i hi
  cases e
  exact c0
theorem ofOk_few {k : Int} {l : List Int} (h : l.length < (fieldsOf k).1.length) : ofOk k l = false := by simp [ofOk, h]
theorem ofOk_more {k : Int} {l : List Int} (h : (fieldsOf k).1.length < l.length) (hf : (fieldsOf k).2 = false) : ofOk k l = false := by
  unfold ofOk
  rw [hf]
  simp [h]
theorem ofOk_far {k : Int} {l : List Int} (h : (fieldsOf k).1.length + 600 < l.length) : ofOk k l = false := by
  have h1 : 600 < l.length - (fieldsOf k).1.length := by omega
  simp [ofOk, h1]
/-- What command comes to, as it is asked. -/
abbrev CmdSaid (k : Int) : Prop := ∀ (lv : Value) (l : List Int) (w : World), NumsAt w lv l → l.length ≤ 30000 → (lv = .slice none 0 0 ∨ ∃ g c, lv = .slice (some ⟨g, 0, none⟩) l.length c ∧ l.length ≤ c) →
    Calls Tryd.prog 44 #[.int .i64 k, lv] w fun e w' => Below w.heap.size w w' ∧ OfEnd k l w.heap.size e w'
theorem nil_own (w : World) (B : Nat) : NumsOwn w B (.slice none 0 0) [] := World.ownsRow_nil _ _ _ _
theorem list_1 (l : List Int) (h : ¬ l.length < 1) : ∃ a r, l = a :: r := by
  match l, h with
  | [], h => exact absurd (by simp) h
  | a :: r, _ => exact ⟨a, r, rfl⟩
theorem list_2 (l : List Int) (h : ¬ l.length < 2) : ∃ a b r, l = a :: b :: r := by
  match l, h with
  | [], h => exact absurd (by simp) h
  | [_], h => exact absurd (by simp) h
  | a :: b :: r, _ => exact ⟨a, b, r, rfl⟩
theorem list_3 (l : List Int) (h : ¬ l.length < 3) : ∃ a b c r, l = a :: b :: c :: r := by
  match l, h with
  | [], h => exact absurd (by simp) h
  | [_], h => exact absurd (by simp) h
  | [_, _], h => exact absurd (by simp) h
  | a :: b :: c :: r, _ => exact ⟨a, b, c, r, rfl⟩
theorem list_4 (l : List Int) (h : ¬ l.length < 4) : ∃ a b c d r, l = a :: b :: c :: d :: r := by
  match l, h with
  | [], h => exact absurd (by simp) h
  | [_], h => exact absurd (by simp) h
  | [_, _], h => exact absurd (by simp) h
  | [_, _, _], h => exact absurd (by simp) h
  | a :: b :: c :: d :: r, _ => exact ⟨a, b, c, d, r, rfl⟩
theorem list_5 (l : List Int) (h : ¬ l.length < 5) : ∃ a b c d e r, l = a :: b :: c :: d :: e :: r := by
  match l, h with
  | [], h => exact absurd (by simp) h
  | [_], h => exact absurd (by simp) h
  | [_, _], h => exact absurd (by simp) h
  | [_, _, _], h => exact absurd (by simp) h
  | [_, _, _, _], h => exact absurd (by simp) h
  | a :: b :: c :: d :: e :: r, _ => exact ⟨a, b, c, d, e, r, rfl⟩
theorem cmd_said_1 : CmdSaid 1 := by
  intro lv l w hl hn hform
  by_cases h : l.length < 3
  · obtain ⟨A, c, rfl, _⟩ := hl
    refine (few_1 A c l.length w hn h).mono ?_
    rintro e w' ⟨rfl, hb⟩
    exact ⟨hb, .inl ⟨ofOk_few h, rfl⟩⟩
  by_cases h2 : 3 + 600 < l.length
  · obtain ⟨A, c, rfl, _⟩ := hl
    refine (more_1 A c l.length w hn h2).mono ?_
    rintro e w' ⟨rfl, hb⟩
    exact ⟨hb, .inl ⟨ofOk_far h2, rfl⟩⟩
  obtain ⟨a, b, c, r, rfl⟩ := list_3 l h
  have hrl : r.length ≤ 600 := by simp only [List.length_cons] at h2; omega
  obtain ⟨g, c', rfl, hg, hc⟩ := hl.here (by simp)
  have hcap : r.length + 3 ≤ c' := by
    rcases hform with e | ⟨g2, c2, e, h3⟩
    · cases e
    · cases e
      simpa using h3
  have hr : ∀ i, i < r.length → w.cell? ⟨g, 3 + i, none⟩ = some (.int .i64 (r[i]?.getD 0)) := by
    intro i hi
    have := hc (3 + i) (by simp only [List.length_cons]; omega)
    rw [this]
    congr 2
    rw [show 3 + i = i + 3 by omega]
    simp
  refine (cmd_1 g c' a b c r w hg (hc 0 (by simp)) (hc 1 (by simp)) (hc 2 (by simp)) hr hrl hcap).mono ?_
  rintro e w' ⟨A', c2, rfl, hN, hb⟩
  refine ⟨hb, .inr ⟨ofCmd 1 (a :: b :: c :: r), A', c2, ?_, rfl, rfl, hN⟩⟩
  simp [ofOk, fieldsOf, okAll, okOf]
  omega
theorem cmd_said_2 : CmdSaid 2 := by
  intro lv l w hl hn hform
  by_cases h : l.length < 3
  · obtain ⟨A, c, rfl, _⟩ := hl
    refine (few_2 A c l.length w hn h).mono ?_
    rintro e w' ⟨rfl, hb⟩
    exact ⟨hb, .inl ⟨ofOk_few h, rfl⟩⟩
  by_cases h2 : 3 < l.length
  · obtain ⟨A, c, rfl, _⟩ := hl
    refine (more_2 A c l.length w hn h2).mono ?_
    rintro e w' ⟨rfl, hb⟩
    exact ⟨hb, .inl ⟨ofOk_more h2 rfl, rfl⟩⟩
  obtain ⟨a, b, c, r, rfl⟩ := list_3 l h
  obtain rfl : r = [] := List.length_eq_zero_iff.1 (by simp only [List.length_cons] at h2; omega)
  obtain ⟨g, c', rfl, hg, hc⟩ := hl.here (by simp)
  refine (cmd_2 g c' a b c w hg (hc 0 (by simp)) (hc 1 (by simp)) (hc 2 (by simp))).mono ?_
  rintro e w' ⟨rfl, hb⟩
  exact ⟨hb, .inr ⟨ofCmd 2 [a, b, c], none, 0, rfl, rfl, rfl, nil_own _ _⟩⟩
theorem cmd_said_3 : CmdSaid 3 := by
  intro lv l w hl hn hform
  by_cases h : l.length < 3
  · obtain ⟨A, c, rfl, _⟩ := hl
    refine (few_3 A c l.length w hn h).mono ?_
    rintro e w' ⟨rfl, hb⟩
    exact ⟨hb, .inl ⟨ofOk_few h, rfl⟩⟩
  by_cases h2 : 3 < l.length
  · obtain ⟨A, c, rfl, _⟩ := hl
    refine (more_3 A c l.length w hn h2).mono ?_
    rintro e w' ⟨rfl, hb⟩
    exact ⟨hb, .inl ⟨ofOk_more h2 rfl, rfl⟩⟩
  obtain ⟨a, b, c, r, rfl⟩ := list_3 l h
  obtain rfl : r = [] := List.length_eq_zero_iff.1 (by simp only [List.length_cons] at h2; omega)
  obtain ⟨g, c', rfl, hg, hc⟩ := hl.here (by simp)
  refine (cmd_3 g c' a b c w hg (hc 0 (by simp)) (hc 1 (by simp)) (hc 2 (by simp))).mono ?_
  rintro e w' ⟨rfl, hb⟩
  exact ⟨hb, .inr ⟨ofCmd 3 [a, b, c], none, 0, rfl, rfl, rfl, nil_own _ _⟩⟩
theorem cmd_said_4 : CmdSaid 4 := by
  intro lv l w hl hn hform
  by_cases h : l.length < 3
  · obtain ⟨A, c, rfl, _⟩ := hl
    refine (few_4 A c l.length w hn h).mono ?_
    rintro e w' ⟨rfl, hb⟩
    exact ⟨hb, .inl ⟨ofOk_few h, rfl⟩⟩
  by_cases h2 : 3 < l.length
  · obtain ⟨A, c, rfl, _⟩ := hl
    refine (more_4 A c l.length w hn h2).mono ?_
    rintro e w' ⟨rfl, hb⟩
    exact ⟨hb, .inl ⟨ofOk_more h2 rfl, rfl⟩⟩
  obtain ⟨a, b, c, r, rfl⟩ := list_3 l h
  obtain rfl : r = [] := List.length_eq_zero_iff.1 (by simp only [List.length_cons] at h2; omega)
  obtain ⟨g, c', rfl, hg, hc⟩ := hl.here (by simp)
  refine (cmd_4 g c' a b c w hg (hc 0 (by simp)) (hc 1 (by simp)) (hc 2 (by simp))).mono ?_
  rintro e w' ⟨rfl, hb⟩
  exact ⟨hb, .inr ⟨ofCmd 4 [a, b, c], none, 0, rfl, rfl, rfl, nil_own _ _⟩⟩
theorem cmd_said_5 : CmdSaid 5 := by
  intro lv l w hl hn hform
  by_cases h : l.length < 3
  · obtain ⟨A, c, rfl, _⟩ := hl
    refine (few_5 A c l.length w hn h).mono ?_
    rintro e w' ⟨rfl, hb⟩
    exact ⟨hb, .inl ⟨ofOk_few h, rfl⟩⟩
  by_cases h2 : 3 < l.length
  · obtain ⟨A, c, rfl, _⟩ := hl
    refine (more_5 A c l.length w hn h2).mono ?_
    rintro e w' ⟨rfl, hb⟩
    exact ⟨hb, .inl ⟨ofOk_more h2 rfl, rfl⟩⟩
  obtain ⟨a, b, c, r, rfl⟩ := list_3 l h
  obtain rfl : r = [] := List.length_eq_zero_iff.1 (by simp only [List.length_cons] at h2; omega)
  obtain ⟨g, c', rfl, hg, hc⟩ := hl.here (by simp)
  refine (cmd_5 g c' a b c w hg (hc 0 (by simp)) (hc 1 (by simp)) (hc 2 (by simp))).mono ?_
  rintro e w' ⟨rfl, hb⟩
  exact ⟨hb, .inr ⟨ofCmd 5 [a, b, c], none, 0, rfl, rfl, rfl, nil_own _ _⟩⟩
theorem cmd_said_6 : CmdSaid 6 := by
  intro lv l w hl hn hform
  by_cases h : l.length < 2
  · obtain ⟨A, c, rfl, _⟩ := hl
    refine (few_6 A c l.length w hn h).mono ?_
    rintro e w' ⟨rfl, hb⟩
    exact ⟨hb, .inl ⟨ofOk_few h, rfl⟩⟩
  by_cases h2 : 2 + 600 < l.length
  · obtain ⟨A, c, rfl, _⟩ := hl
    refine (more_6 A c l.length w hn h2).mono ?_
    rintro e w' ⟨rfl, hb⟩
    exact ⟨hb, .inl ⟨ofOk_far h2, rfl⟩⟩
  obtain ⟨a, b, r, rfl⟩ := list_2 l h
  have hrl : r.length ≤ 600 := by simp only [List.length_cons] at h2; omega
  obtain ⟨g, c', rfl, hg, hc⟩ := hl.here (by simp)
  have hcap : r.length + 2 ≤ c' := by
    rcases hform with e | ⟨g2, c2, e, h3⟩
    · cases e
    · cases e
      simpa using h3
  have hr : ∀ i, i < r.length → w.cell? ⟨g, 2 + i, none⟩ = some (.int .i64 (r[i]?.getD 0)) := by
    intro i hi
    have := hc (2 + i) (by simp only [List.length_cons]; omega)
    rw [this]
    congr 2
    rw [show 2 + i = i + 2 by omega]
    simp
  refine (cmd_6 g c' a b r w hg (hc 0 (by simp)) (hc 1 (by simp)) hr hrl hcap).mono ?_
  rintro e w' ⟨A', c2, rfl, hN, hb⟩
  refine ⟨hb, .inr ⟨ofCmd 6 (a :: b :: r), A', c2, ?_, rfl, rfl, hN⟩⟩
  simp [ofOk, fieldsOf, okAll, okOf]
  omega
theorem cmd_said_7 : CmdSaid 7 := by
  intro lv l w hl hn hform
  by_cases h : l.length < 4
  · obtain ⟨A, c, rfl, _⟩ := hl
    refine (few_7 A c l.length w hn h).mono ?_
    rintro e w' ⟨rfl, hb⟩
    exact ⟨hb, .inl ⟨ofOk_few h, rfl⟩⟩
  by_cases h2 : 4 + 600 < l.length
  · obtain ⟨A, c, rfl, _⟩ := hl
    refine (more_7 A c l.length w hn h2).mono ?_
    rintro e w' ⟨rfl, hb⟩
    exact ⟨hb, .inl ⟨ofOk_far h2, rfl⟩⟩
  obtain ⟨a, b, c, d, r, rfl⟩ := list_4 l h
  have hrl : r.length ≤ 600 := by simp only [List.length_cons] at h2; omega
  obtain ⟨g, c', rfl, hg, hc⟩ := hl.here (by simp)
  have hcap : r.length + 4 ≤ c' := by
    rcases hform with e | ⟨g2, c2, e, h3⟩
    · cases e
    · cases e
      simpa using h3
  have hr : ∀ i, i < r.length → w.cell? ⟨g, 4 + i, none⟩ = some (.int .i64 (r[i]?.getD 0)) := by
    intro i hi
    have := hc (4 + i) (by simp only [List.length_cons]; omega)
    rw [this]
    congr 2
    rw [show 4 + i = i + 4 by omega]
    simp
  refine (cmd_7 g c' a b c d r w hg (hc 0 (by simp)) (hc 1 (by simp)) (hc 2 (by simp)) (hc 3 (by simp)) hr hrl hcap).mono ?_
  rintro e w' ⟨A', c2, rfl, hN, hb⟩
  refine ⟨hb, .inr ⟨ofCmd 7 (a :: b :: c :: d :: r), A', c2, ?_, rfl, rfl, hN⟩⟩
  simp [ofOk, fieldsOf, okAll, okOf]
  omega
theorem cmd_said_8 : CmdSaid 8 := by
  intro lv l w hl hn hform
  by_cases h : l.length < 5
  · obtain ⟨A, c, rfl, _⟩ := hl
    refine (few_8 A c l.length w hn h).mono ?_
    rintro e w' ⟨rfl, hb⟩
    exact ⟨hb, .inl ⟨ofOk_few h, rfl⟩⟩
  by_cases h2 : 5 < l.length
  · obtain ⟨A, c, rfl, _⟩ := hl
    refine (more_8 A c l.length w hn h2).mono ?_
    rintro e w' ⟨rfl, hb⟩
    exact ⟨hb, .inl ⟨ofOk_more h2 rfl, rfl⟩⟩
  obtain ⟨a, b, c, d, e, r, rfl⟩ := list_5 l h
  obtain rfl : r = [] := List.length_eq_zero_iff.1 (by simp only [List.length_cons] at h2; omega)
  obtain ⟨g, c', rfl, hg, hc⟩ := hl.here (by simp)
  by_cases h0 : e = 0
  · subst h0
    refine (cmd_8 g c' a b c d 0 false w hg (hc 0 (by simp)) (hc 1 (by simp)) (hc 2 (by simp)) (hc 3 (by simp)) (hc 4 (by simp)) (.inl ⟨rfl, rfl⟩)).mono ?_
    rintro e w' ⟨rfl, hb⟩
    exact ⟨hb, .inr ⟨ofCmd 8 [a, b, c, d, 0], none, 0, rfl, rfl, rfl, nil_own _ _⟩⟩
  by_cases h1 : e = 1
  · subst h1
    refine (cmd_8 g c' a b c d 1 true w hg (hc 0 (by simp)) (hc 1 (by simp)) (hc 2 (by simp)) (hc 3 (by simp)) (hc 4 (by simp)) (.inr ⟨rfl, rfl⟩)).mono ?_
    rintro e w' ⟨rfl, hb⟩
    exact ⟨hb, .inr ⟨ofCmd 8 [a, b, c, d, 1], none, 0, rfl, rfl, rfl, nil_own _ _⟩⟩
  refine (cmd_8_bad g c' a b c d e w hg (hc 0 (by simp)) (hc 1 (by simp)) (hc 2 (by simp)) (hc 3 (by simp)) (hc 4 (by simp)) h0 h1).mono ?_
  rintro e2 w' ⟨rfl, hb⟩
  refine ⟨hb, .inl ⟨?_, rfl⟩⟩
  simp [ofOk, fieldsOf, okAll, okOf, h0, h1]
theorem cmd_said_9 : CmdSaid 9 := by
  intro lv l w hl hn hform
  by_cases h : l.length < 3
  · obtain ⟨A, c, rfl, _⟩ := hl
    refine (few_9 A c l.length w hn h).mono ?_
    rintro e w' ⟨rfl, hb⟩
    exact ⟨hb, .inl ⟨ofOk_few h, rfl⟩⟩
  by_cases h2 : 3 < l.length
  · obtain ⟨A, c, rfl, _⟩ := hl
    refine (more_9 A c l.length w hn h2).mono ?_
    rintro e w' ⟨rfl, hb⟩
    exact ⟨hb, .inl ⟨ofOk_more h2 rfl, rfl⟩⟩
  obtain ⟨a, b, c, r, rfl⟩ := list_3 l h
  obtain rfl : r = [] := List.length_eq_zero_iff.1 (by simp only [List.length_cons] at h2; omega)
  obtain ⟨g, c', rfl, hg, hc⟩ := hl.here (by simp)
  refine (cmd_9 g c' a b c w hg (hc 0 (by simp)) (hc 1 (by simp)) (hc 2 (by simp))).mono ?_
  rintro e w' ⟨rfl, hb⟩
  exact ⟨hb, .inr ⟨ofCmd 9 [a, b, c], none, 0, rfl, rfl, rfl, nil_own _ _⟩⟩
theorem cmd_said_10 : CmdSaid 10 := by
  intro lv l w hl hn hform
  by_cases h : l.length < 1
  · obtain ⟨A, c, rfl, _⟩ := hl
    refine (few_10 A c l.length w hn h).mono ?_
    rintro e w' ⟨rfl, hb⟩
    exact ⟨hb, .inl ⟨ofOk_few h, rfl⟩⟩
  by_cases h2 : 1 < l.length
  · obtain ⟨A, c, rfl, _⟩ := hl
    refine (more_10 A c l.length w hn h2).mono ?_
    rintro e w' ⟨rfl, hb⟩
    exact ⟨hb, .inl ⟨ofOk_more h2 rfl, rfl⟩⟩
  obtain ⟨a, r, rfl⟩ := list_1 l h
  obtain rfl : r = [] := List.length_eq_zero_iff.1 (by simp only [List.length_cons] at h2; omega)
  obtain ⟨g, c', rfl, hg, hc⟩ := hl.here (by simp)
  refine (cmd_10 g c' a w hg (hc 0 (by simp))).mono ?_
  rintro e w' ⟨rfl, hb⟩
  exact ⟨hb, .inr ⟨ofCmd 10 [a], none, 0, rfl, rfl, rfl, nil_own _ _⟩⟩
theorem cmd_said_11 : CmdSaid 11 := by
  intro lv l w hl hn hform
  by_cases h2 : 0 < l.length
  · obtain ⟨A, c, rfl, _⟩ := hl
    refine (more_11 A c l.length w hn h2).mono ?_
    rintro e w' ⟨rfl, hb⟩
    exact ⟨hb, .inl ⟨ofOk_more h2 rfl, rfl⟩⟩
  obtain rfl : l = [] := List.length_eq_zero_iff.1 (by omega)
  obtain ⟨A, c', rfl, _⟩ := hl
  refine (cmd_11 A c' w).mono ?_
  rintro e w' ⟨rfl, hb⟩
  exact ⟨hb, .inr ⟨ofCmd 11 [], none, 0, rfl, rfl, rfl, nil_own _ _⟩⟩
theorem cmd_said_12 : CmdSaid 12 := by
  intro lv l w hl hn hform
  by_cases h2 : 0 < l.length
  · obtain ⟨A, c, rfl, _⟩ := hl
    refine (more_12 A c l.length w hn h2).mono ?_
    rintro e w' ⟨rfl, hb⟩
    exact ⟨hb, .inl ⟨ofOk_more h2 rfl, rfl⟩⟩
  obtain rfl : l = [] := List.length_eq_zero_iff.1 (by omega)
  obtain ⟨A, c', rfl, _⟩ := hl
  refine (cmd_12 A c' w).mono ?_
  rintro e w' ⟨rfl, hb⟩
  exact ⟨hb, .inr ⟨ofCmd 12 [], none, 0, rfl, rfl, rfl, nil_own _ _⟩⟩
theorem cmd_said_13 : CmdSaid 13 := by
  intro lv l w hl hn hform
  by_cases h : l.length < 1
  · obtain ⟨A, c, rfl, _⟩ := hl
    refine (few_13 A c l.length w hn h).mono ?_
    rintro e w' ⟨rfl, hb⟩
    exact ⟨hb, .inl ⟨ofOk_few h, rfl⟩⟩
  by_cases h2 : 1 < l.length
  · obtain ⟨A, c, rfl, _⟩ := hl
    refine (more_13 A c l.length w hn h2).mono ?_
    rintro e w' ⟨rfl, hb⟩
    exact ⟨hb, .inl ⟨ofOk_more h2 rfl, rfl⟩⟩
  obtain ⟨a, r, rfl⟩ := list_1 l h
  obtain rfl : r = [] := List.length_eq_zero_iff.1 (by simp only [List.length_cons] at h2; omega)
  obtain ⟨g, c', rfl, hg, hc⟩ := hl.here (by simp)
  refine (cmd_13 g c' a w hg (hc 0 (by simp))).mono ?_
  rintro e w' ⟨rfl, hb⟩
  exact ⟨hb, .inr ⟨ofCmd 13 [a], none, 0, rfl, rfl, rfl, nil_own _ _⟩⟩
theorem cmd_said_14 : CmdSaid 14 := by
  intro lv l w hl hn hform
  by_cases h : l.length < 1
  · obtain ⟨A, c, rfl, _⟩ := hl
    refine (few_14 A c l.length w hn h).mono ?_
    rintro e w' ⟨rfl, hb⟩
    exact ⟨hb, .inl ⟨ofOk_few h, rfl⟩⟩
  by_cases h2 : 1 < l.length
  · obtain ⟨A, c, rfl, _⟩ := hl
    refine (more_14 A c l.length w hn h2).mono ?_
    rintro e w' ⟨rfl, hb⟩
    exact ⟨hb, .inl ⟨ofOk_more h2 rfl, rfl⟩⟩
  obtain ⟨a, r, rfl⟩ := list_1 l h
  obtain rfl : r = [] := List.length_eq_zero_iff.1 (by simp only [List.length_cons] at h2; omega)
  obtain ⟨g, c', rfl, hg, hc⟩ := hl.here (by simp)
  refine (cmd_14 g c' a w hg (hc 0 (by simp))).mono ?_
  rintro e w' ⟨rfl, hb⟩
  exact ⟨hb, .inr ⟨ofCmd 14 [a], none, 0, rfl, rfl, rfl, nil_own _ _⟩⟩
theorem cmd24_any (k : Int) (hk : 1 ≤ k ∧ k ≤ 14) : CmdSaid k := by
  obtain rfl | rfl | rfl | rfl | rfl | rfl | rfl | rfl | rfl | rfl | rfl | rfl | rfl | rfl := kinds_of hk
  · exact cmd_said_1
  · exact cmd_said_2
  · exact cmd_said_3
  · exact cmd_said_4
  · exact cmd_said_5
  · exact cmd_said_6
  · exact cmd_said_7
  · exact cmd_said_8
  · exact cmd_said_9
  · exact cmd_said_10
  · exact cmd_said_11
  · exact cmd_said_12
  · exact cmd_said_13
  · exact cmd_said_14
end Go.Proofs.YtdmopagkahgepaaDoor
