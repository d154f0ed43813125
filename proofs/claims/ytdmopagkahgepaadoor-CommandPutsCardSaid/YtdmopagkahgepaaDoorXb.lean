/- lombardref21.Print. -/
import Derived.Test.YtdmopagkahgepaaDoorUj
import Derived.Laws.BytesArg
import Derived.Deep.RegionWith
import Derived.Deep.DrawnRows
namespace Go.Proofs.YtdmopagkahgepaaDoor
open Go.RowKit Go.Maps Go.ChangeMaps Go.ChangeShapes
attribute [local go_sem ↓] Go.wp_at_zero Go.wp_at_succ

theorem conv_one (w : World) (B : Nat) (d : Int) (h : w.cell? ⟨B, 0, none⟩ = some (.int .u8 d)) : (convert 116 9 (.slice (some ⟨B, 0, none⟩) 1 1)).run Tryd.prog w = .ok (.string (strOfNums [d])) w :=
  run_convert_bytes_arg w 116 5 Tryd.underlying116 Tryd.underlying5 B 0 1 1 [d] rfl (fun i hi => by
    obtain rfl : i = 0 := by omega
    exact h) 9 Tryd.underlying9
theorem str_one (d : Nat) (h : d < 10) : (strOfNums [48 + (d : Int)]).data.toList = [UInt8.ofNat (48 + d)] := by
  have : ∀ d : Nat, d < 10 → (strOfNums [48 + (d : Int)]).data.toList = [UInt8.ofNat (48 + d)] := by decide +kernel
  exact this d h
theorem itoa_great (n : Int) (h : 9 < n) : Lib.itoa n = Lib.itoa (n / 10) ++ [UInt8.ofNat (48 + (n % 10).toNat)] := by
  unfold Lib.itoa
  rw [if_neg (by omega), if_neg (by omega), Lib.decDigits, dif_neg (by omega)]
  congr 2
  · congr 1
    omega
  · congr 2
    omega
theorem itoa_small (n : Int) (h0 : 0 ≤ n) (h : n ≤ 9) : Lib.itoa n = [UInt8.ofNat (48 + n.toNat)] := by
  unfold Lib.itoa
  rw [if_neg (by omega), Lib.decDigits_one (by omega)]
theorem itoa_less (n : Int) (h : n < -9) : Lib.itoa n = Lib.itoa (n.tdiv 10) ++ [UInt8.ofNat (48 + (-(n.tmod 10)).toNat)] := by
  obtain ⟨m, rfl⟩ : ∃ m : Nat, n = -(m : Int) := ⟨n.natAbs, by omega⟩
  have e1 : (-(m : Int)).tdiv 10 = -((m / 10 : Nat) : Int) := by rw [Int.neg_tdiv, Int.tdiv_eq_ediv_of_nonneg (by omega)]; omega
  have e2 : (-(m : Int)).tmod 10 = -((m % 10 : Nat) : Int) := by rw [Int.neg_tmod, Int.tmod_eq_emod_of_nonneg (by omega)]; omega
  rw [e1, e2]
  unfold Lib.itoa
  rw [if_pos (by omega), if_pos (by omega), Lib.decDigits, dif_neg (by omega)]
  have a1 : (-(m : Int)).natAbs = m := by omega
  have a2 : (-((m / 10 : Nat) : Int)).natAbs = m / 10 := by omega
  have a3 : (-(-((m % 10 : Nat) : Int))).toNat = m % 10 := by omega
  rw [a1, a2, a3]
  rfl
theorem itoa_minus (n : Int) (h0 : n < 0) (h : -9 ≤ n) : Lib.itoa n = [45, UInt8.ofNat (48 + (-n).toNat)] := by
  unfold Lib.itoa
  rw [if_pos h0, Lib.decDigits_one (by omega)]
  congr 3
  omega

theorem itoa_tdiv_len (n : Int) (h64 : In64 n) : (Lib.itoa (n.tdiv 10)).length ≤ 21 := by
  obtain ⟨hl0, hl1⟩ := h64
  have h : (n.tdiv 10).natAbs = n.natAbs / 10 := Int.natAbs_tdiv n 10
  exact Lib.itoa_length_le (n.tdiv 10) (by omega) (by omega)
theorem cat_fits (n : Int) (h64 : In64 n) (d : Int) : ¬ (9223372036854775807 < (⟨(Lib.itoa (n.tdiv 10)).toArray⟩ : ByteArray).size + (strOfNums [d]).size) := by
  have := itoa_tdiv_len n h64
  rw [strOfNums_size]
  simp [ByteArray.size]
  omega

theorem byte_wrap (d : Nat) (h : d < 10) : IntKind.u8.wrap (IntKind.i64.wrap (48 + (d : Int))) = 48 + (d : Int) := by
  have : ∀ d : Nat, d < 10 → IntKind.u8.wrap (IntKind.i64.wrap (48 + (d : Int))) = 48 + (d : Int) := by decide +kernel
  exact this d h
theorem cat_great (n : Int) (h9 : 9 < n) (S : ByteArray) (hS : (⟨(Lib.itoa (n.tdiv 10)).toArray⟩ : ByteArray) = S) : S ++ strOfNums [IntKind.u8.wrap (IntKind.i64.wrap (48 + n.tmod 10))] = ⟨(Lib.itoa n).toArray⟩ := by
  have e0 : n.tmod 10 = n % 10 := Int.tmod_eq_emod_of_nonneg (by omega)
  have e1 : n.tdiv 10 = n / 10 := Int.tdiv_eq_ediv_of_nonneg (by omega)
  have e2 : IntKind.u8.wrap (IntKind.i64.wrap (48 + n.tmod 10)) = 48 + (((n % 10).toNat : Nat) : Int) := by
    have hd : n % 10 = (((n % 10).toNat : Nat) : Int) := by omega
    rw [e0, hd]
    exact byte_wrap _ (by omega)
  rw [e2, ← hS, e1, itoa_great n h9]
  have h1 := str_one (n % 10).toNat (by omega)
  apply ByteArray.ext
  apply Array.toList_inj.mp
  rw [ByteArray.data_append, Array.toList_append, h1]

theorem cell_made {w w' : World} {b : TypeId} {v : Value} (h : Below (w.alloc (.cells #[v] b)).drew.heap.size (w.alloc (.cells #[v] b)).drew w') : w'.cell? ⟨w.heap.size, 0, none⟩ = some v := by
  rw [h.cell (by show w.heap.size < _; simp)]
  go_simp

set_option maxRecDepth 100000 in
set_option maxHeartbeats 1000000 in
theorem print_great (n : Int) (w : World) (h9 : 9 < n) (h64 : In64 n) (ih : ∀ w : World, Calls Tryd.prog 51 #[.int .i64 (IntKind.i64.wrap (n.tdiv 10))] w fun e w' => e = .returned (.string ⟨(Lib.itoa (n.tdiv 10)).toArray⟩) ∧ Below w.heap.size w w') : Calls Tryd.prog 51 #[.int .i64 n] w fun e w' => e = .returned (.string ⟨(Lib.itoa n).toArray⟩) ∧ Below w.heap.size w w' := by
  have hfit := cat_fits n h64
  generalize hS : (⟨(Lib.itoa (n.tdiv 10)).toArray⟩ : ByteArray) = S at ih hfit
  have HSS := Lib.hid hS
  clear hS
  obtain ⟨hl0, hl1⟩ := h64
  have hgt := itoa_great n h9
  have HGT := Lib.hid hgt
  clear hgt
  have hn0 : 0 ≤ n := by omega
  have hn1 : ¬ n < 0 := by omega
  have hfit := hfit (IntKind.u8.wrap (IntKind.i64.wrap (48 + n.tmod 10)))
  have hcv : ∀ (w : World) (B : Nat), w.cell? ⟨B, 0, none⟩ = some (.int .u8 (IntKind.u8.wrap (IntKind.i64.wrap (48 + n.tmod 10)))) → (convert 116 9 (.slice (some ⟨B, 0, none⟩) 1 1)).run Tryd.prog w = .ok (.string (strOfNums [IntKind.u8.wrap (IntKind.i64.wrap (48 + n.tmod 10))])) w := fun w B h => conv_one w B _ h
  go_enter Tryd.func51, Tryd.ntmps51
  go_wp2_with fail
  go_region_with (first
    | (go_at_call 51; refine (ih _).mono ?_; rintro e w' ⟨rfl, hb⟩; try (have hcl := cell_made hb)))
  all_goals go_wp2_with fail
  all_goals go_simp
  all_goals
    have hq : S ++ strOfNums [IntKind.u8.wrap (IntKind.i64.wrap (48 + n.tmod 10))] = ⟨(Lib.itoa n).toArray⟩ := cat_great n h9 S HSS.out
    rw [← hq]
    clear hq
  · refine bodyPost_ret (v := .string (S ++ strOfNums [IntKind.u8.wrap (IntKind.i64.wrap (48 + n.tmod 10))])) (by simp [results, Tryd.results51, go_sem]) rfl ⟨rfl, ?_⟩
    exact (below_undrew hb).alloc hb.size _
  all_goals
    refine bodyPost_ret (v := .string (S ++ strOfNums [IntKind.u8.wrap (IntKind.i64.wrap (48 + n.tmod 10))])) (by simp [results, Tryd.results51, go_sem]) rfl ⟨rfl, ?_⟩
    exact below_on ((Below.refl w.heap.size w).alloc (Nat.le_refl _) _) (by simp) (below_undrew hb)
end Go.Proofs.YtdmopagkahgepaaDoor
