/- lombardref24.words: an array of 15 strings. -/
import Derived.Test.YtdmopagkahgepaaDoorXf
namespace Go.Proofs.YtdmopagkahgepaaDoor
open Go.RowKit Go.Maps Go.ChangeMaps Go.ChangeShapes

theorem word_string : ∀ j : Nat, j < 15 → ∀ w : World, (Instr.index 102 (.agg wordCells) (.int .i64 (j : Int))).run Tryd.prog w = .ok (.string (wordL.getD j ByteArray.empty)) w
  | 0, _, _ => by kernel_rfl
  | 1, _, _ => by kernel_rfl
  | 2, _, _ => by kernel_rfl
  | 3, _, _ => by kernel_rfl
  | 4, _, _ => by kernel_rfl
  | 5, _, _ => by kernel_rfl
  | 6, _, _ => by kernel_rfl
  | 7, _, _ => by kernel_rfl
  | 8, _, _ => by kernel_rfl
  | 9, _, _ => by kernel_rfl
  | 10, _, _ => by kernel_rfl
  | 11, _, _ => by kernel_rfl
  | 12, _, _ => by kernel_rfl
  | 13, _, _ => by kernel_rfl
  | 14, _, _ => by kernel_rfl
  | n + 15, h, _ => by omega

set_option maxRecDepth 100000 in
set_option maxHeartbeats 2000000 in
theorem words24_any (w : World) : Calls Tryd.prog 42 #[] w fun e w' => e = .returned (.agg wordCells) ∧ Below w.heap.size w w' := by
  go_enter Tryd.func42, Tryd.ntmps42
  go_wp2_with fail
  refine bodyPost_ret (v := .agg wordCells) (by simp [results, Tryd.results42, go_sem]; rfl) rfl ⟨rfl, (Below.refl w.heap.size w).alloc (Nat.le_refl _) _⟩
end Go.Proofs.YtdmopagkahgepaaDoor
