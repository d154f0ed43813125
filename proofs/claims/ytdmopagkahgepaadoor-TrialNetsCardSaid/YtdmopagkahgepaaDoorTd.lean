/- chart.Check. -/
import Derived.Test.YtdmopagkahgepaaDoorTb
namespace Go.Proofs.YtdmopagkahgepaaDoor
open Go.RowKit Go.Maps

/-- A slice of lines (each an account, an amount) that reads as xs, at the head of a block. -/
def LinesAt (w : World) (A : Option Addr) (n : Nat) (xs : List (Int × Int)) : Prop :=
  xs.length = n ∧ ∀ i, i < n → ∃ g, A = some ⟨g, 0, none⟩ ∧ g < w.heap.size ∧ w.cell? ⟨g, i * 2, none⟩ = some (.int .i64 (xs[i]?.getD (0, 0)).1) ∧ w.cell? ⟨g, i * 2 + 1, none⟩ = some (.int .i64 (xs[i]?.getD (0, 0)).2)
theorem LinesAt.kept {w w' : World} {A : Option Addr} {n : Nat} {xs : List (Int × Int)} (h : LinesAt w A n xs) (hs : w.heap.size ≤ w'.heap.size) (hk : ∀ g, A = some ⟨g, 0, none⟩ → ∀ o, w'.cell? ⟨g, o, none⟩ = w.cell? ⟨g, o, none⟩) : LinesAt w' A n xs :=
  ⟨h.1, fun i hi => by
    obtain ⟨g, e, hg, c0, c1⟩ := h.2 i hi
    exact ⟨g, e, by omega, (hk g e _).trans c0, (hk g e _).trans c1⟩⟩
theorem LinesAt.below {w w' : World} {A : Option Addr} {n : Nat} {xs : List (Int × Int)} (h : LinesAt w A n xs) (hb : Below w.heap.size w w') : LinesAt w' A n xs :=
  ⟨h.1, fun i hi => by
    obtain ⟨g, e, hg, c0, c1⟩ := h.2 i hi
    exact ⟨g, e, Nat.lt_of_lt_of_le hg hb.size, (hb.cell (p := ⟨g, _, none⟩) hg).trans c0, (hb.cell (p := ⟨g, _, none⟩) hg).trans c1⟩⟩
theorem LinesAt.grown {w w' : World} {row : Option Nat} {A : Option Addr} {n : Nat} {xs : List (Int × Int)} (h : LinesAt w A n xs) (hb : w.grownBy w' row) (hr : ∀ g, A = some ⟨g, 0, none⟩ → some g ≠ row) : LinesAt w' A n xs :=
  ⟨h.1, fun i hi => by
    obtain ⟨g, e, hg, c0, c1⟩ := h.2 i hi
    have := fun o => World.cell?_of_block (w := w) (a := ⟨g, o, none⟩) (hb.block g hg (hr g e))
    exact ⟨g, e, Nat.lt_of_lt_of_le hg hb.size, (this _).trans c0, (this _).trans c1⟩⟩

def nameNo (k : Int) : Bool := (nameOf k).toList.isEmpty
theorem nameNo_1 : nameNo 1 = !decide ((1 : Int) ≤ 1 ∧ (1 : Int) ≤ 7) := by kernel_rfl
theorem nameNo_2 : nameNo 2 = !decide ((1 : Int) ≤ 2 ∧ (2 : Int) ≤ 7) := by kernel_rfl
theorem nameNo_3 : nameNo 3 = !decide ((1 : Int) ≤ 3 ∧ (3 : Int) ≤ 7) := by kernel_rfl
theorem nameNo_4 : nameNo 4 = !decide ((1 : Int) ≤ 4 ∧ (4 : Int) ≤ 7) := by kernel_rfl
theorem nameNo_5 : nameNo 5 = !decide ((1 : Int) ≤ 5 ∧ (5 : Int) ≤ 7) := by kernel_rfl
theorem nameNo_6 : nameNo 6 = !decide ((1 : Int) ≤ 6 ∧ (6 : Int) ≤ 7) := by kernel_rfl
theorem nameNo_7 : nameNo 7 = !decide ((1 : Int) ≤ 7 ∧ (7 : Int) ≤ 7) := by kernel_rfl
theorem nameNo_iff (k : Int) : nameNo k = !decide (1 ≤ k ∧ k ≤ 7) := by
  by_cases h1 : k = 1
  · subst h1; exact nameNo_1
  by_cases h2 : k = 2
  · subst h2; exact nameNo_2
  by_cases h3 : k = 3
  · subst h3; exact nameNo_3
  by_cases h4 : k = 4
  · subst h4; exact nameNo_4
  by_cases h5 : k = 5
  · subst h5; exact nameNo_5
  by_cases h6 : k = 6
  · subst h6; exact nameNo_6
  by_cases h7 : k = 7
  · subst h7; exact nameNo_7
  unfold nameNo nameOf
  rw [if_neg h1, if_neg h2, if_neg h3, if_neg h4, if_neg h5, if_neg h6, if_neg h7, decide_eq_false (by omega)]
  kernel_rfl

/-- What a line must be. -/
def lineOk (x : Int × Int) : Bool := !nameNo x.1 && !(x.2 == 0) && !decide (x.2 < -1125899906842624) && !decide (1125899906842624 < x.2)
def sumL (xs : List (Int × Int)) : Int := (xs.map (·.2)).sum
/-- chart.Check's answer. -/
def checkErr (xs : List (Int × Int)) : Int := if 64 < xs.length then 10 else if xs.length = 0 then 2 else if xs.all lineOk && sumL xs == 0 then 0 else 2

theorem lineOk_bd {x : Int × Int} (h : lineOk x = true) : 1 ≤ x.1 ∧ x.1 ≤ 7 ∧ x.2 ≠ 0 ∧ -1125899906842624 ≤ x.2 ∧ x.2 ≤ 1125899906842624 := by
  unfold lineOk at h
  rw [nameNo_iff] at h
  simp at h
  omega

theorem sumL_snoc (xs : List (Int × Int)) (x : Int × Int) : sumL (xs ++ [x]) = sumL xs + x.2 := by simp [sumL]
theorem sumL_bd (xs : List (Int × Int)) (h : xs.all lineOk = true) : -1125899906842624 * xs.length ≤ sumL xs ∧ sumL xs ≤ 1125899906842624 * xs.length := by
  induction xs with
  | nil => simp [sumL]
  | cons x xs ih =>
    simp only [List.all_cons, Bool.and_eq_true] at h
    have := lineOk_bd h.1
    have := ih h.2
    simp only [sumL, List.map_cons, List.sum_cons, List.length_cons] at *
    omega

theorem take_next {α : Type} (xs : List α) (n : Nat) (h : n < xs.length) (d : α) : xs.take (n + 1) = xs.take n ++ [xs[n]?.getD d] := by
  rw [List.take_succ_eq_append_getElem h, List.getElem?_eq_getElem h]
  rfl

theorem check_short (A : Option Addr) (n c : Nat) (w : World) (h : 64 < n) : Calls Tryd.prog 29 #[.slice A n c] w fun e w' => e = .returned (.int .i64 10) ∧ w = w' := by
  go_enter Tryd.func29, Tryd.ntmps29
  go_wp2_with fail
  go_ret
  exact ⟨rfl, rfl⟩

theorem check_bad {xs : List (Int × Int)} {n k : Nat} {x : Int × Int} (hl : Hid (xs.length = n)) (hn : Hid (xs.take (k + 1) = xs.take k ++ [x])) (hk : k < n) (h64 : n ≤ 64) (hb : lineOk x = false) : checkErr xs = 2 := by
  have hl := hl.out
  have h : xs.all lineOk = false := by
    rw [← List.take_append_drop (k + 1) xs, hn.out]
    simp [hb]
  unfold checkErr
  rw [if_neg (by omega), if_neg (by omega), h]
  rfl
theorem ret_int {k : IntKind} {a b : Int} (h : a = b) : Ending.returned (.int k a) = .returned (.int k b) := by rw [h]
theorem check_below {w wr w1 : World} {cs : Array Value} (h : Hid (Below w.heap.size w wr)) (k : Hid (Below (wr.alloc (.cells cs 35)).heap.size (wr.alloc (.cells cs 35)) w1)) : Below w.heap.size w w1 :=
  (h.out.alloc h.out.size _).trans (k.out.mono (by have := h.out.size; simp; omega))

set_option maxHeartbeats 1000000 in
theorem check_any (A : Option Addr) (n c : Nat) (xs : List (Int × Int)) (w : World) (hx : LinesAt w A n xs) (h0 : 0 < n) (h64 : n ≤ 64) :
    Calls Tryd.prog 29 #[.slice A n c] w fun e w' => e = .returned (.int .i64 (checkErr xs)) ∧ Below w.heap.size w w' := by
  have hl := hx.1
  have t0 : ((n : Int) == 0) = false := by simp; omega
  have HL := Lib.hid hl
  clear hl
  go_enter Tryd.func29, Tryd.ntmps29
  go_wp2_with fail
  go_loopw [3, 16] (fun s i wr => ∃ k : Nat, k ≤ n ∧ i = .int .i64 k ∧ s = .int .i64 (sumL (xs.take k)) ∧ (xs.take k).all lineOk = true ∧ Below w.heap.size w wr) (fun _ i _ => n - (intOf i).toNat)
  case atStart => exact ⟨0, by omega, rfl, rfl, by simp, Below.refl _ _⟩
  case round =>
    obtain ⟨k, hk, rfl, rfl, hall, hB⟩ := hrel
    by_cases hlt : k < n
    · obtain ⟨g, rfl, hg, c0, c1⟩ := hx.2 k hlt
      rw [← hB.cell (p := ⟨g, _, none⟩) hg] at c0 c1
      have hn := take_next xs k (by rw [HL.out]; exact hlt) (0, 0)
      generalize xs[k]?.getD (0, 0) = x at c0 c1 hn
      have HN := Lib.hid hn
      have HA := Lib.hid hall
      have HB := Lib.hid hB
      have hlen : (xs.take k).length ≤ 64 := by rw [List.length_take]; omega
      have hsb := sumL_bd _ hall
      clear hn hall hB hx
      cases b1 : nameNo x.1
      · have B1 := Lib.hid b1
        unfold nameNo at b1
        cases b2 : (x.2 == 0)
        · by_cases b3 : x.2 < -1125899906842624
          · go_wp2_with (go_at_call 32; refine (name_any _ _).mono ?_; rintro e w' ⟨rfl, hb⟩; obtain ⟨hc, hf⟩ := cells_below hb; have HB2 := Lib.hid hb; clear hb)
            go_ret
            exact ⟨ret_int (check_bad HL HN hlt h64 (by unfold lineOk; simp [b3])).symm, check_below HB HB2⟩
          · by_cases b4 : 1125899906842624 < x.2
            · go_wp2_with (go_at_call 32; refine (name_any _ _).mono ?_; rintro e w' ⟨rfl, hb⟩; obtain ⟨hc, hf⟩ := cells_below hb; have HB2 := Lib.hid hb; clear hb)
              go_ret
              exact ⟨ret_int (check_bad HL HN hlt h64 (by unfold lineOk; simp [b4])).symm, check_below HB HB2⟩
            · go_wp2_with (go_at_call 32; refine (name_any _ _).mono ?_; rintro e w' ⟨rfl, hb⟩; obtain ⟨hc, hf⟩ := cells_below hb; have HB2 := Lib.hid hb; clear hb)
              have hok : lineOk x = true := by unfold lineOk; simp [B1.out, b2, b3, b4]
              refine ⟨⟨k + 1, by omega, by go_num, by rw [HN.out, sumL_snoc], by rw [HN.out]; simp [HA.out, hok], check_below HB HB2⟩, by simp [intOf]; omega⟩
        · go_wp2_with (go_at_call 32; refine (name_any _ _).mono ?_; rintro e w' ⟨rfl, hb⟩; obtain ⟨hc, hf⟩ := cells_below hb; have HB2 := Lib.hid hb; clear hb)
          go_ret
          exact ⟨ret_int (check_bad HL HN hlt h64 (by unfold lineOk; simp [b2])).symm, check_below HB HB2⟩
      · have B1 := Lib.hid b1
        unfold nameNo at b1
        go_wp2_with (go_at_call 32; refine (name_any _ _).mono ?_; rintro e w' ⟨rfl, hb⟩; obtain ⟨hc, hf⟩ := cells_below hb; have HB2 := Lib.hid hb; clear hb)
        go_ret
        exact ⟨ret_int (check_bad HL HN hlt h64 (by unfold lineOk; simp [B1.out])).symm, check_below HB HB2⟩
    · obtain rfl : k = n := by omega
      have HA := Lib.hid hall
      have HB := Lib.hid hB
      clear hall hB hx
      go_wp2_with fail
      all_goals
        go_ret
        refine ⟨ret_int (b := checkErr xs) ?_, HB.out⟩
        have hl := HL.out
        have ha := HA.out
        rename_i hs
        rw [List.take_of_length_le (by omega)] at ha hs
        unfold checkErr
        rw [if_neg (by omega), if_neg (by omega), ha]
        simp only [bne_iff_ne, ne_eq, bne_eq_false_iff_eq] at hs
        simp [hs]
end Go.Proofs.YtdmopagkahgepaaDoor
