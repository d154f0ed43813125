/- Lines that are none, out of one that is: plain Lean. -/
import Derived.Test.YtdmopagkahgepaaDoorUs
import Derived.Test.YtdmopagkahgepaaDoorUt
namespace Go.Proofs.YtdmopagkahgepaaDoor
open Go.Lib

theorem put_form {c : Cmd} {t : List UInt8} (h : putL c = some t) : (1 ≤ c.kind ∧ c.kind ≤ 14) ∧ t = lineOf (wordOf c.kind) ((numsOf c).map itoa) := by
  unfold putL at h
  split at h
  · rename_i hh
    cases h
    exact ⟨⟨hh.1, hh.2.1⟩, rfl⟩
  · cases h
theorem word_low {k : Int} (h : 1 ≤ k ∧ k ≤ 14) : ∃ c r, wordOf k = c :: r ∧ lowB c = true := by
  obtain ⟨c, hc, h1, h2⟩ := words_small k.toNat (by omega) (by omega)
  unfold wordOf
  cases e : (wordL.getD k.toNat ByteArray.empty).data.toList with
  | nil => rw [e] at hc; cases hc
  | cons a r =>
    rw [e] at hc
    cases hc
    refine ⟨c, r, rfl, ?_⟩
    unfold lowB
    simp only [UInt8.le_iff_toNat_le] at h1 h2
    simpa using ⟨h1, h2⟩
theorem words_ascii : ∀ k : Nat, k < 15 → ∀ c ∈ (wordL.getD k ByteArray.empty).data.toList, c.toNat < 128 := by decide +kernel
theorem itoas_ascii (l : List Int) : ∀ c ∈ (l.map itoa).flatMap (32 :: ·), c.toNat < 128 := by
  intro c hc
  obtain ⟨x, hx, hc⟩ := List.mem_flatMap.1 hc
  obtain ⟨v, _, rfl⟩ := List.mem_map.1 hx
  rcases List.mem_cons.1 hc with rfl | hc
  · decide
  · rcases itoa_chars v c hc with rfl | h
    · decide
    · omega
theorem line_ascii {k : Int} (h : 1 ≤ k ∧ k ≤ 14) (l : List Int) : ∀ c ∈ lineOf (wordOf k) (l.map itoa), c.toNat < 128 := by
  intro c hc
  rcases List.mem_append.1 hc with hc | hc
  · exact words_ascii k.toNat (by omega) c hc
  · exact itoas_ascii l c hc
theorem line_low {k : Int} (h : 1 ≤ k ∧ k ≤ 14) (l : List Int) : (lineOf (wordOf k) (l.map itoa)).any lowB = true := by
  obtain ⟨c, r, e, hc⟩ := word_low h
  unfold lineOf
  rw [e]
  simp [hc]
theorem itoa_up (v : Int) : (itoa v).map upB = itoa v := by
  have : ∀ c ∈ itoa v, upB c = c := by
    intro c hc
    refine upB_no ?_
    unfold lowB
    rcases itoa_chars v c hc with rfl | h
    · decide
    · simp
      omega
  exact (List.map_congr_left this).trans (List.map_id' _)
theorem line_up (w : List UInt8) (l : List Int) : (lineOf w (l.map itoa)).map upB = lineOf (w.map upB) (l.map itoa) := by
  unfold lineOf
  rw [List.map_append]
  congr 1
  induction l with
  | nil => rfl
  | cons v l ih =>
    simp only [List.map_cons, List.flatMap_cons, List.map_append, itoa_up] at ih ⊢
    rw [ih]
    rfl
theorem up_blank {w : List UInt8} (h : (32 : UInt8) ∉ w) : (32 : UInt8) ∉ w.map upB := by
  intro hm
  obtain ⟨c, hc, e⟩ := List.mem_map.1 hm
  by_cases hl : lowB c = true
  · have := upB_yes hl
    rw [e] at this
    unfold lowB at hl
    simp only [Bool.and_eq_true, decide_eq_true_eq] at hl
    have h32 : (32 : UInt8).toNat = 32 := rfl
    rw [h32] at this
    omega
  · rw [upB_no (by simpa using hl)] at e
    subst e
    exact h hc

section
variable {k : Int} {l : List Int}
theorem bad_blank (h : 1 ≤ k ∧ k ≤ 14) : parseL (lineOf (wordOf k) (l.map itoa) ++ [32]) = none := by
  have e : lineOf (wordOf k) (l.map itoa) ++ [32] = lineOf (wordOf k) (l.map itoa ++ [[]]) := by rw [lineOf_snoc]
  rw [e]
  refine parse_bad (word_blank h) (fun x hx => ?_) (.inr ⟨[], by simp, numL_nil⟩)
  rcases List.mem_append.1 hx with hx | hx
  · exact itoas_blank l x hx
  · rw [List.mem_singleton.1 hx]; simp
theorem bad_word (h : 1 ≤ k ∧ k ≤ 14) {y : List UInt8} (hy : (32 : UInt8) ∉ y) (hn : numL y = none) : parseL (lineOf (wordOf k) (l.map itoa) ++ 32 :: y) = none := by
  rw [← lineOf_snoc]
  refine parse_bad (word_blank h) (fun x hx => ?_) (.inr ⟨y, by simp, hn⟩)
  rcases List.mem_append.1 hx with hx | hx
  · exact itoas_blank l x hx
  · rw [List.mem_singleton.1 hx]; exact hy
theorem bad_ahead (h : 1 ≤ k ∧ k ≤ 14) : parseL (32 :: lineOf (wordOf k) (l.map itoa)) = none := by
  have e : 32 :: lineOf (wordOf k) (l.map itoa) = lineOf [] (wordOf k :: l.map itoa) := by simp [lineOf]
  rw [e]
  refine parse_bad (by simp) (fun x hx => ?_) (.inl kind_nil)
  rcases List.mem_cons.1 hx with rfl | hx
  · exact word_blank h
  · exact itoas_blank l x hx
theorem bad_x (h : 1 ≤ k ∧ k ≤ 14) : parseL (120 :: lineOf (wordOf k) (l.map itoa)) = none := by
  rw [← lineOf_cons]
  refine parse_bad (fun hm => ?_) (itoas_blank l) (.inl (kind_x _))
  rcases List.mem_cons.1 hm with e | hm
  · cases e
  · exact word_blank h hm
theorem bad_up (h : 1 ≤ k ∧ k ≤ 14) : parseL ((lineOf (wordOf k) (l.map itoa)).map upB) = none := by
  rw [line_up]
  exact parse_bad (up_blank (word_blank h)) (itoas_blank l) (.inl (kind_up _))
theorem bad_nl (h : 1 ≤ k ∧ k ≤ 14) : parseL (lineOf (wordOf k) (l.map itoa) ++ [10]) = none := by
  rcases List.eq_nil_or_concat l with rfl | ⟨m, v, rfl⟩
  · have e : lineOf (wordOf k) (([] : List Int).map itoa) ++ [10] = lineOf (wordOf k ++ [10]) [] := by simp [lineOf]
    rw [e]
    refine parse_bad (fun hm => ?_) (by simp) (.inl (kind_nl _))
    rcases List.mem_append.1 hm with hm | hm
    · exact word_blank h hm
    · simp at hm
  · have e : lineOf (wordOf k) ((m.concat v).map itoa) ++ [10] = lineOf (wordOf k) (m.map itoa ++ [itoa v ++ [10]]) := by
      rw [List.concat_eq_append, List.map_append, lineOf_snoc, List.map_cons, List.map_nil, lineOf_snoc]
      simp
    rw [e]
    refine parse_bad (word_blank h) (fun x hx => ?_) (.inr ⟨itoa v ++ [10], by simp, numL_char (c := 10) (by simp) (by decide) (by decide)⟩)
    rcases List.mem_append.1 hx with hx | hx
    · exact itoas_blank m x hx
    · rw [List.mem_singleton.1 hx]
      intro hm
      rcases List.mem_append.1 hm with hm | hm
      · exact itoa_blank v hm
      · simp at hm
end

theorem joined_line (ws : List ByteArray) (m : Nat) (h : ws.length = m + 1) : joined ws m = lineOf (ws.getD 0 ByteArray.empty).data.toList ((ws.drop 1).map (·.data.toList)) := by
  unfold joined lineOf
  rw [List.take_of_length_le (by rw [List.length_drop]; omega), List.flatMap_map]
/-- A line with one word turned to no number. -/
theorem bad_set {ws : List ByteArray} {t : List UInt8} (hseg : ws.map (·.data.toList) = segs t) {m k : Nat} (hl : ws.length = m + 1) (hk : 1 ≤ k ∧ k ≤ m) (x : ByteArray) (hx : numL x.data.toList = none) (hb : (32 : UInt8) ∉ x.data.toList) :
    parseL (joined (ws.set k x) m) = none := by
  rw [joined_line _ m (by rw [List.length_set, hl])]
  have hall : ∀ y ∈ ws.set k x, (32 : UInt8) ∉ y.data.toList := by
    intro y hy
    rcases List.mem_or_eq_of_mem_set hy with hy | rfl
    · obtain ⟨w, r, e, _, hw, hr⟩ := segs_line t
      have hm : y.data.toList ∈ segs t := by
        rw [← hseg]
        exact List.mem_map.2 ⟨y, hy, rfl⟩
      rw [e] at hm
      rcases List.mem_cons.1 hm with e2 | hm
      · rw [e2]; exact hw
      · exact hr _ hm
    · exact hb
  refine parse_bad ?_ ?_ (.inr ⟨x.data.toList, ?_, hx⟩)
  · rw [List.getD_eq_getElem?_getD, List.getElem?_eq_getElem (by rw [List.length_set]; omega)]
    exact hall _ (List.getElem_mem _)
  · intro y hy
    obtain ⟨z, hz, rfl⟩ := List.mem_map.1 hy
    exact hall z (List.mem_of_mem_drop hz)
  · refine List.mem_map.2 ⟨x, ?_, rfl⟩
    rw [List.mem_drop_iff_getElem]
    refine ⟨k - 1, by rw [List.length_set]; omega, ?_⟩
    have e : 1 + (k - 1) = k := by omega
    simp [e]
end Go.Proofs.YtdmopagkahgepaaDoor
