/- lombardref21.Print: a number's digits, whole. -/
import Derived.Test.YtdmopagkahgepaaDoorXb
namespace Go.Proofs.YtdmopagkahgepaaDoor
open Go.RowKit Go.Maps Go.ChangeMaps Go.ChangeShapes
attribute [local go_sem ↓] Go.wp_at_zero Go.wp_at_succ

theorem cat_less (n : Int) (h9 : n < -9) (S : ByteArray) (hS : (⟨(Lib.itoa (n.tdiv 10)).toArray⟩ : ByteArray) = S) : S ++ strOfNums [IntKind.u8.wrap (IntKind.i64.wrap (48 - n.tmod 10))] = ⟨(Lib.itoa n).toArray⟩ := by
  have hb : n.tmod 10 = -((-n) % 10) := by
    have h := Int.neg_tmod (-n) 10
    rw [Int.neg_neg] at h
    rw [h, Int.tmod_eq_emod_of_nonneg (by omega)]
  have e2 : IntKind.u8.wrap (IntKind.i64.wrap (48 - n.tmod 10)) = 48 + (((-(n.tmod 10)).toNat : Nat) : Int) := by
    have hd : 48 - n.tmod 10 = 48 + (((-(n.tmod 10)).toNat : Nat) : Int) := by omega
    rw [hd]
    exact byte_wrap _ (by omega)
  rw [e2, ← hS, itoa_less n h9]
  have h1 := str_one (-(n.tmod 10)).toNat (by omega)
  apply ByteArray.ext
  apply Array.toList_inj.mp
  rw [ByteArray.data_append, Array.toList_append, h1]

set_option maxRecDepth 100000 in
set_option maxHeartbeats 1000000 in
theorem print_less (n : Int) (w : World) (h9 : n < -9) (h64 : In64 n) (ih : ∀ w : World, Calls Tryd.prog 51 #[.int .i64 (IntKind.i64.wrap (n.tdiv 10))] w fun e w' => e = .returned (.string ⟨(Lib.itoa (n.tdiv 10)).toArray⟩) ∧ Below w.heap.size w w') : Calls Tryd.prog 51 #[.int .i64 n] w fun e w' => e = .returned (.string ⟨(Lib.itoa n).toArray⟩) ∧ Below w.heap.size w w' := by
  have hfit := cat_fits n h64
  generalize hS : (⟨(Lib.itoa (n.tdiv 10)).toArray⟩ : ByteArray) = S at ih hfit
  have HSS := Lib.hid hS
  clear hS
  obtain ⟨hl0, hl1⟩ := h64
  have hn1 : n < 0 := by omega
  have hfit := hfit (IntKind.u8.wrap (IntKind.i64.wrap (48 - n.tmod 10)))
  have hcv : ∀ (w : World) (B : Nat), w.cell? ⟨B, 0, none⟩ = some (.int .u8 (IntKind.u8.wrap (IntKind.i64.wrap (48 - n.tmod 10)))) → (convert 116 9 (.slice (some ⟨B, 0, none⟩) 1 1)).run Tryd.prog w = .ok (.string (strOfNums [IntKind.u8.wrap (IntKind.i64.wrap (48 - n.tmod 10))])) w := fun w B h => conv_one w B _ h
  go_enter Tryd.func51, Tryd.ntmps51
  go_wp2_with fail
  go_region_with (first
    | (go_at_call 51; refine (ih _).mono ?_; rintro e w' ⟨rfl, hb⟩; try (have hcl := cell_made hb)))
  all_goals go_wp2_with fail
  all_goals go_simp
  all_goals
    have hq : S ++ strOfNums [IntKind.u8.wrap (IntKind.i64.wrap (48 - n.tmod 10))] = ⟨(Lib.itoa n).toArray⟩ := cat_less n h9 S HSS.out
    rw [← hq]
    clear hq
  · refine bodyPost_ret (v := .string (S ++ strOfNums [IntKind.u8.wrap (IntKind.i64.wrap (48 - n.tmod 10))])) (by simp [results, Tryd.results51, go_sem]) rfl ⟨rfl, ?_⟩
    exact (below_undrew hb).alloc hb.size _
  all_goals
    refine bodyPost_ret (v := .string (S ++ strOfNums [IntKind.u8.wrap (IntKind.i64.wrap (48 - n.tmod 10))])) (by simp [results, Tryd.results51, go_sem]) rfl ⟨rfl, ?_⟩
    exact below_on ((Below.refl w.heap.size w).alloc (Nat.le_refl _) _) (by simp) (below_undrew hb)

theorem one_str (d : Nat) (h : d < 10) : strOfNums [48 + (d : Int)] = ⟨#[UInt8.ofNat (48 + d)]⟩ := by
  apply ByteArray.ext
  apply Array.toList_inj.mp
  rw [str_one d h]
theorem conv_digit (d : Nat) (h : d < 10) (w : World) (B : Nat) (hc : w.cell? ⟨B, 0, none⟩ = some (.int .u8 (48 + (d : Int)))) : (convert 116 9 (.slice (some ⟨B, 0, none⟩) 1 1)).run Tryd.prog w = .ok (.string ⟨#[UInt8.ofNat (48 + d)]⟩) w := by
  rw [← one_str d h]
  exact conv_one w B _ hc

set_option maxRecDepth 100000 in
set_option maxHeartbeats 1000000 in
theorem print_digit (n : Int) (w : World) (h0 : 0 ≤ n) (h9 : n ≤ 9) : Calls Tryd.prog 51 #[.int .i64 n] w fun e w' => e = .returned (.string ⟨(Lib.itoa n).toArray⟩) ∧ Below w.heap.size w w' := by
  obtain ⟨d, rfl⟩ : ∃ d : Nat, n = (d : Int) := ⟨n.toNat, by omega⟩
  have hd : d < 10 := by omega
  have hcv := conv_digit d hd
  have hit : (⟨#[UInt8.ofNat (48 + d)]⟩ : ByteArray) = ⟨(Lib.itoa (d : Int)).toArray⟩ := by
    rw [itoa_small (d : Int) h0 h9, Int.toNat_natCast]
  generalize (⟨#[UInt8.ofNat (48 + d)]⟩ : ByteArray) = D at hcv hit
  have HIT := Lib.hid hit
  clear hit
  have hn1 : ¬ (d : Int) < 0 := by omega
  have hn2 : ¬ (9 : Int) < (d : Int) := by omega
  go_enter Tryd.func51, Tryd.ntmps51
  go_wp2_with fail
  go_simp
  go_ret
  exact ⟨ret_str HIT.out, (Below.refl w.heap.size w).alloc (Nat.le_refl _) _⟩

set_option maxRecDepth 100000 in
set_option maxHeartbeats 1000000 in
theorem print_minus (n : Int) (w : World) (h0 : n < 0) (h9 : -9 ≤ n) : Calls Tryd.prog 51 #[.int .i64 n] w fun e w' => e = .returned (.string ⟨(Lib.itoa n).toArray⟩) ∧ Below w.heap.size w w' := by
  obtain ⟨d, rfl⟩ : ∃ d : Nat, n = -(d : Int) := ⟨(-n).toNat, by omega⟩
  have hd : d < 10 := by omega
  have hcv := conv_digit d hd
  have hit : (⟨#[45]⟩ : ByteArray) ++ (⟨#[UInt8.ofNat (48 + d)]⟩ : ByteArray) = ⟨(Lib.itoa (-(d : Int))).toArray⟩ := by
    rw [itoa_minus (-(d : Int)) h0 h9]
    apply ByteArray.ext
    rw [ByteArray.data_append]
    simp
  have hsz : (⟨#[UInt8.ofNat (48 + d)]⟩ : ByteArray).size = 1 := rfl
  generalize (⟨#[UInt8.ofNat (48 + d)]⟩ : ByteArray) = D at hcv hit hsz
  have HIT := Lib.hid hit
  clear hit
  have hn2 : ¬ -(d : Int) < -9 := by omega
  go_enter Tryd.func51, Tryd.ntmps51
  go_wp2_with fail
  go_simp
  go_ret
  exact ⟨ret_str HIT.out, (Below.refl w.heap.size w).alloc (Nat.le_refl _) _⟩

theorem wrap_in {n : Int} (h0 : -9223372036854775808 ≤ n) (h1 : n ≤ 9223372036854775807) : IntKind.i64.wrap n = n := by
  simp [IntKind.wrap, IntKind.bits, IntKind.signed]
  omega
/-- Print is what FormatInt is. -/
theorem print_any : ∀ (m : Nat) (n : Int), n.natAbs ≤ m → In64 n → ∀ w : World, Calls Tryd.prog 51 #[.int .i64 n] w fun e w' => e = .returned (.string ⟨(Lib.itoa n).toArray⟩) ∧ Below w.heap.size w w' := by
  intro m
  induction m with
  | zero =>
    intro n hm _ w
    exact print_digit n w (by omega) (by omega)
  | succ m ih =>
    intro n hm h64 w
    by_cases h9 : 9 < n ∨ n < -9
    · have ht : (n.tdiv 10).natAbs = n.natAbs / 10 := Int.natAbs_tdiv n 10
      have hin : In64 (n.tdiv 10) := by
        unfold In64 at h64 ⊢
        omega
      have hw : IntKind.i64.wrap (n.tdiv 10) = n.tdiv 10 := by
        obtain ⟨h0, h1⟩ := hin
        exact wrap_in h0 h1
      have hih : ∀ w : World, Calls Tryd.prog 51 #[.int .i64 (IntKind.i64.wrap (n.tdiv 10))] w fun e w' => e = .returned (.string ⟨(Lib.itoa (n.tdiv 10)).toArray⟩) ∧ Below w.heap.size w w' := by
        rw [hw]
        exact ih (n.tdiv 10) (by omega) hin
      rcases h9 with h9 | h9
      · exact print_great n w h9 h64 hih
      · exact print_less n w h9 h64 hih
    · by_cases h0 : 0 ≤ n
      · exact print_digit n w h0 (by omega)
      · exact print_minus n w (by omega) (by omega)
theorem print_all (n : Int) (h : In64 n) (w : World) : Calls Tryd.prog 51 #[.int .i64 n] w fun e w' => e = .returned (.string ⟨(Lib.itoa n).toArray⟩) ∧ Below w.heap.size w w' := print_any n.natAbs n (Nat.le_refl _) h w
end Go.Proofs.YtdmopagkahgepaaDoor
