/- A line's words: plain Lean. -/
import Derived.Lib.SplitLaws
import Derived.Test.YtdmopagkahgepaaDoorVa
namespace Go.Proofs.YtdmopagkahgepaaDoor
open Go.Lib

/-- A line cut at each blank. -/
def segs : List UInt8 → List (List UInt8)
  | [] => [[]]
  | b :: l => if b = 32 then [] :: segs l else match segs l with
    | [] => [[b]]
    | x :: r => (b :: x) :: r
/-- Words with a blank between each two. -/
def lineOf (w : List UInt8) (r : List (List UInt8)) : List UInt8 := w ++ r.flatMap (32 :: ·)
theorem lineOf_cons (b : UInt8) (w : List UInt8) (r : List (List UInt8)) : lineOf (b :: w) r = b :: lineOf w r := rfl
theorem segs_ne (l : List UInt8) : segs l ≠ [] := by
  cases l with
  | nil => simp [segs]
  | cons b l =>
    unfold segs
    split
    · simp
    · split <;> simp
theorem segs_line : ∀ l : List UInt8, ∃ w r, segs l = w :: r ∧ l = lineOf w r ∧ (32 : UInt8) ∉ w ∧ ∀ x ∈ r, (32 : UInt8) ∉ x
  | [] => ⟨[], [], rfl, rfl, by simp, by simp⟩
  | b :: l => by
    obtain ⟨w, r, e, hl, hw, hr⟩ := segs_line l
    by_cases h : b = 32
    · subst h
      refine ⟨[], w :: r, by simp [segs, e], ?_, by simp, ?_⟩
      · rw [hl]
        simp [lineOf]
      · intro x hx
        rcases List.mem_cons.1 hx with rfl | hx
        · exact hw
        · exact hr x hx
    · refine ⟨b :: w, r, by simp [segs, e, h], by rw [lineOf_cons, ← hl], ?_, hr⟩
      intro hm
      rcases List.mem_cons.1 hm with e | hm
      · exact h e.symm
      · exact hw hm
theorem segs_lineOf : ∀ (r : List (List UInt8)) (w : List UInt8), (32 : UInt8) ∉ w → (∀ x ∈ r, (32 : UInt8) ∉ x) → segs (lineOf w r) = w :: r
  | [], [], _, _ => rfl
  | x :: r, [], _, hr => by
    have h := segs_lineOf r x (hr x (by simp)) (fun y hy => hr y (by simp [hy]))
    have e : lineOf [] (x :: r) = 32 :: lineOf x r := by simp [lineOf]
    rw [e, segs, if_pos rfl, h]
  | r, b :: w, hw, hr => by
    have h := segs_lineOf r w (fun hm => hw (by simp [hm])) hr
    rw [lineOf_cons, segs, if_neg (fun e => hw (by simp [e])), h]
termination_by r w => (r.length, w.length)

theorem splitK_segs : ∀ l : List UInt8, splitK [32] 0 (count l [32]) l = segs l
  | [] => by
    rw [count_miss (by simp [index])]
    rfl
  | b :: l => by
    have ih := splitK_segs l
    by_cases h : b = 32
    · subst h
      have hix : index ((32 : UInt8) :: l) [32] = 0 := by rw [index]; simp [List.isPrefixOf]
      rw [count_cons_eq, Nat.add_comm, splitK, hix, if_neg (by simp), segs, if_pos rfl]
      simpa using ih
    · have hp : ([32] : List UInt8).isPrefixOf (b :: l) = false := by simp [List.isPrefixOf]; exact fun e => h e.symm
      have hix : index (b :: l) [32] = if index l [32] == -1 then -1 else index l [32] + 1 := by rw [index, hp]; simp
      rw [count_cons_ne b 32 l h, segs, if_neg h, ← ih]
      generalize count l [32] = k
      cases k with
      | zero => rfl
      | succ k =>
        by_cases hm : index l [32] = -1
        · rw [splitK, splitK, hix, hm]
          rfl
        · have hge := index_ge l [32]
          obtain ⟨j, hj⟩ : ∃ j : Nat, index l [32] = j := ⟨(index l [32]).toNat, by omega⟩
          rw [splitK, splitK, hix, hj, if_neg (show ¬ (((j : Int) == -1) = true) by simp), if_neg (by simp; omega), if_neg (by simp)]
          rw [show ((j : Int) + 1).toNat = j + 1 by omega, Int.toNat_natCast]
          simp
/-- What strings.Split gives at a blank: the line's words. -/
theorem split_segs (s : ByteArray) : (splitB ⟨#[32]⟩ 0 (countB s ⟨#[32]⟩) s).map (·.data.toList) = segs s.data.toList := by
  rw [splitB_data]
  exact splitK_segs _

/-- The number that a word tells, as it is told. -/
def numL (l : List UInt8) : Option Int :=
  match parseIntB 64 l with
  | .ok v => if itoa v = l then some v else none
  | _ => none
theorem numL_some {l : List UInt8} {v : Int} (h : numL l = some v) : itoa v = l ∧ -9223372036854775808 ≤ v ∧ v ≤ 9223372036854775807 := by
  unfold numL at h
  split at h
  · rename_i u hu
    split at h
    · rename_i e
      cases h
      have := parseIntB_bounds hu
      exact ⟨e, by omega, by omega⟩
    · cases h
  · cases h
theorem numL_itoa (v : Int) (h0 : -9223372036854775808 ≤ v) (h1 : v ≤ 9223372036854775807) : numL (itoa v) = some v := by
  unfold numL
  rw [parse_itoa v h0 h1]
  simp
theorem numL_none {l : List UInt8} (h : ∀ v : Int, itoa v ≠ l) : numL l = none := by
  cases e : numL l with
  | none => rfl
  | some v => exact absurd (numL_some e).1 (h v)
/-- All numbers of words. -/
def numsL : List (List UInt8) → Option (List Int)
  | [] => some []
  | w :: r => match numL w, numsL r with
    | some v, some l => some (v :: l)
    | _, _ => none
theorem numsL_some : ∀ {r : List (List UInt8)} {l : List Int}, numsL r = some l → r = l.map itoa ∧ ∀ v ∈ l, -9223372036854775808 ≤ v ∧ v ≤ 9223372036854775807
  | [], l, h => by
    cases h
    exact ⟨rfl, by simp⟩
  | w :: r, l, h => by
    rw [numsL] at h
    cases h1 : numL w with
    | none => rw [h1] at h; cases h
    | some v =>
      cases h2 : numsL r with
      | none => rw [h1, h2] at h; cases h
      | some m =>
        rw [h1, h2] at h
        cases h
        obtain ⟨e, hb⟩ := numsL_some h2
        obtain ⟨e1, hb1⟩ := numL_some h1
        refine ⟨by rw [List.map_cons, e1, e], fun u hu => ?_⟩
        rcases List.mem_cons.1 hu with rfl | hu
        · exact hb1
        · exact hb u hu
theorem numsL_itoa : ∀ l : List Int, (∀ v ∈ l, -9223372036854775808 ≤ v ∧ v ≤ 9223372036854775807) → numsL (l.map itoa) = some l
  | [], _ => rfl
  | v :: l, h => by
    have h1 := h v (by simp)
    rw [List.map_cons, numsL, numL_itoa v h1.1 h1.2, numsL_itoa l (fun u hu => h u (by simp [hu]))]
theorem numsL_bad : ∀ {r : List (List UInt8)} {x : List UInt8}, x ∈ r → numL x = none → numsL r = none
  | w :: r, x, hx, h => by
    rw [numsL]
    rcases List.mem_cons.1 hx with rfl | hx
    · rw [h]
    · rw [numsL_bad hx h]
      cases numL w <;> rfl
theorem numsL_snoc {r : List (List UInt8)} {x : List UInt8} {l : List Int} {v : Int} (h : numsL r = some l) (hx : numL x = some v) : numsL (r ++ [x]) = some (l ++ [v]) := by
  induction r generalizing l with
  | nil =>
    cases h
    show numsL [x] = _
    rw [numsL, hx]
    rfl
  | cons w r ih =>
    rw [numsL] at h
    rw [List.cons_append, numsL]
    cases h1 : numL w with
    | none => rw [h1] at h; cases h
    | some u =>
      cases h2 : numsL r with
      | none => rw [h1, h2] at h; cases h
      | some m =>
        rw [h1, h2] at h
        cases h
        rw [ih h2]
        rfl
theorem numsL_len {r : List (List UInt8)} {l : List Int} (h : numsL r = some l) : l.length = r.length := by
  rw [(numsL_some h).1, List.length_map]

theorem dec_digits (u : Nat) : ∀ c ∈ decDigits u, 48 ≤ c.toNat ∧ c.toNat ≤ 57 := by
  induction u using Nat.strongRecOn with
  | _ u ih =>
    by_cases h : u < 10
    · rw [decDigits_one h]
      intro c hc
      rw [List.mem_singleton.1 hc, digit_nat h]
      omega
    · rw [decDigits, dif_neg h]
      intro c hc
      rcases List.mem_append.1 hc with hc | hc
      · exact ih (u / 10) (by omega) c hc
      · rw [List.mem_singleton.1 hc, digit_nat (Nat.mod_lt _ (by omega))]
        omega
theorem itoa_chars (v : Int) : ∀ c ∈ itoa v, c = 45 ∨ (48 ≤ c.toNat ∧ c.toNat ≤ 57) := by
  intro c hc
  unfold itoa at hc
  split at hc
  · rcases List.mem_cons.1 hc with e | hc
    · exact .inl e
    · exact .inr (dec_digits _ c hc)
  · exact .inr (dec_digits _ c hc)
theorem itoa_no {v : Int} {c : UInt8} (h1 : c ≠ 45) (h2 : c.toNat < 48 ∨ 57 < c.toNat) : c ∉ itoa v := by
  intro hc
  rcases itoa_chars v c hc with e | h
  · exact h1 e
  · omega
theorem itoa_blank (v : Int) : (32 : UInt8) ∉ itoa v := itoa_no (by decide) (by decide)
theorem itoa_ne (v : Int) : itoa v ≠ [] := by
  unfold itoa
  split
  · simp
  · obtain ⟨c, r, e, _⟩ := dec_head v.toNat
    rw [e]
    simp
/-- No number is told with a 0 ahead of another. -/
theorem dec_zero {u : Nat} {x : List UInt8} (h : decDigits u = 48 :: x) : x = [] := by
  by_cases h10 : u < 10
  · rw [decDigits_one h10] at h
    exact (List.cons.inj h).2.symm
  · exfalso
    have key : ∀ n : Nat, 1 ≤ n → ∃ c r, decDigits n = c :: r ∧ 49 ≤ c.toNat := by
      intro n
      induction n using Nat.strongRecOn with
      | _ n ih =>
        intro hn
        by_cases hn10 : n < 10
        · exact ⟨_, [], decDigits_one hn10, by rw [digit_nat hn10]; omega⟩
        · obtain ⟨c, r, e, hc⟩ := ih (n / 10) (by omega) (by omega)
          exact ⟨c, r ++ [UInt8.ofNat (48 + n % 10)], by rw [decDigits, dif_neg hn10, e]; rfl, hc⟩
    obtain ⟨c, r, e, hc⟩ := key u (by omega)
    rw [e] at h
    cases h
    exact absurd hc (by decide)
theorem itoa_zero {v : Int} {x : List UInt8} (h : itoa v = 48 :: x) : x = [] := by
  unfold itoa at h
  split at h
  · cases h
  · exact dec_zero h
end Go.Proofs.YtdmopagkahgepaaDoor
