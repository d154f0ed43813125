/- counter.all as the sum over the seven accounts; Trial.Add. -/
import Derived.Test.YtdmopagkahgepaaDoorTc
namespace Go.Proofs.YtdmopagkahgepaaDoor
open Go.RowKit Go.Maps

/-- All seven accounts' numbers together. -/
def tot (f : Int → Int) : Int := f 1 + f 2 + f 3 + f 4 + f 5 + f 6 + f 7

theorem sum_pick (f : Int → Int) (a : Int) : ∀ ks : List Int, ks.Nodup → (ks.map (fun k => if k = a then f a else 0)).sum = if a ∈ ks then f a else 0
  | [], _ => by simp
  | k :: ks, h => by
    obtain ⟨h1, h2⟩ := List.nodup_cons.1 h
    rw [List.map_cons, List.sum_cons, sum_pick f a ks h2]
    by_cases e : k = a
    · subst e
      simp [h1]
    · have : a ≠ k := fun h => e h.symm
      simp [e, this]

theorem sum_add (g h : Int → Int) : ∀ ks : List Int, (ks.map (fun k => g k + h k)).sum = (ks.map g).sum + (ks.map h).sum
  | [] => rfl
  | k :: ks => by simp only [List.map_cons, List.sum_cons, sum_add g h ks]; omega

theorem sum_same (g h : Int → Int) : ∀ ks : List Int, (∀ k ∈ ks, g k = h k) → (ks.map g).sum = (ks.map h).sum
  | [], _ => rfl
  | k :: ks, e => by rw [List.map_cons, List.map_cons, List.sum_cons, List.sum_cons, e k (by simp), sum_same g h ks (fun x hx => e x (by simp [hx]))]

theorem sum_seven (f : Int → Int) (ks : List Int) (hn : ks.Nodup) (h7 : ∀ k ∈ ks, 1 ≤ k ∧ k ≤ 7) (h0 : ∀ k, k ∉ ks → f k = 0) : (ks.map f).sum = tot f := by
  have e : (ks.map f).sum = (ks.map (fun k => (if k = 1 then f 1 else 0) + ((if k = 2 then f 2 else 0) + ((if k = 3 then f 3 else 0) + ((if k = 4 then f 4 else 0) + ((if k = 5 then f 5 else 0) + ((if k = 6 then f 6 else 0) + (if k = 7 then f 7 else 0)))))))).sum := by
    refine sum_same _ _ ks fun k hk => ?_
    have := h7 k hk
    by_cases e1 : k = 1
    · subst e1; simp
    by_cases e2 : k = 2
    · subst e2; simp
    by_cases e3 : k = 3
    · subst e3; simp
    by_cases e4 : k = 4
    · subst e4; simp
    by_cases e5 : k = 5
    · subst e5; simp
    by_cases e6 : k = 6
    · subst e6; simp
    by_cases e7 : k = 7
    · subst e7; simp
    omega
  rw [e]
  simp only [sum_add]
  rw [sum_pick f 1 ks hn, sum_pick f 2 ks hn, sum_pick f 3 ks hn, sum_pick f 4 ks hn, sum_pick f 5 ks hn, sum_pick f 6 ks hn, sum_pick f 7 ks hn]
  have q : ∀ a, (if a ∈ ks then f a else 0) = f a := fun a => by
    by_cases h : a ∈ ks
    · rw [if_pos h]
    · rw [if_neg h, h0 a h]
  rw [q, q, q, q, q, q, q]
  unfold tot
  omega

theorem wrap_small {x : Int} (h0 : -9223372036854775808 ≤ x) (h1 : x ≤ 9223372036854775807) : wrap64 x = x := by
  unfold wrap64
  omega

theorem fold_small : ∀ (xs : List Int) (s : Int), 0 ≤ s → (∀ x ∈ xs, 0 ≤ x) → s + xs.sum ≤ 9223372036854775807 → xs.foldl (fun s x => wrap64 (s + x)) s = s + xs.sum
  | [], s, _, _, _ => by simp
  | x :: xs, s, h0, hx, hs => by
    have h1 := hx x (by simp)
    have h2 : 0 ≤ xs.sum := by
      clear hs
      have hx' : ∀ y ∈ xs, 0 ≤ y := fun y hy => hx y (by simp [hy])
      clear hx
      induction xs with
      | nil => simp
      | cons y ys ih =>
        have a := hx' y (by simp)
        have b := ih (fun z hz => hx' z (by simp [hz]))
        simp only [List.sum_cons]
        omega
    simp only [List.sum_cons] at hs
    rw [List.foldl_cons, wrap_small (by omega) (by omega), fold_small xs (s + x) (by omega) (fun y hy => hx y (by simp [hy])) (by omega)]
    simp only [List.sum_cons]
    omega

/-- Counters of the seven accounts alone, none below 0, all together no more than fits. -/
def Seven (h : Int → Bool) (f : Int → Int) : Prop := (∀ k, h k = true → 1 ≤ k ∧ k ≤ 7) ∧ (∀ k, h k = false → f k = 0) ∧ (∀ k, 0 ≤ f k) ∧ tot f ≤ 4611686018427387904

theorem all_any (b n : Nat) (h : Int → Bool) (f : Int → Int) (w : World) (H : Counts w b n h f) (h7 : Seven h f) :
    Calls Tryd.prog 30 #[.map (some b)] w fun e w' => e = .returned (.int .i64 (tot f)) ∧ Below w.heap.size w w' := by
  obtain ⟨D, hown, hh, hf⟩ := H
  refine (all_raw b n D w hown).mono ?_
  rintro e w' ⟨xs, ⟨ps, hn, hk, hp, rfl⟩, rfl, hb⟩
  have e2 : ps.map (·.2) = (ps.map (·.1)).map f := by
    rw [List.map_map]
    refine List.map_congr_left fun p hpm => ?_
    have := hp p hpm (.lit (.int .i64 0))
    rw [hf] at this
    simp at this
    exact this.symm
  have es : (ps.map (·.2)).sum = tot f := by
    rw [e2]
    exact sum_seven f _ hn (fun k hkm => h7.1 k (by rw [← hh]; exact (hk k).1 hkm)) (fun k hkm => h7.2.1 k (by
      rw [← hh]
      cases hx : has D (.int .i64 k)
      · rfl
      · exact absurd ((hk k).2 hx) hkm))
  have h4 := h7.2.2.2
  have : sumW (ps.map (·.2)) = tot f := by
    unfold sumW
    rw [fold_small _ 0 (by omega) (fun x hx => by
      rw [e2] at hx
      obtain ⟨k, _, rfl⟩ := List.mem_map.1 hx
      exact h7.2.2.1 k) (by rw [es]; omega), es]
    omega
  exact ⟨by rw [this], hb⟩
end Go.Proofs.YtdmopagkahgepaaDoor
