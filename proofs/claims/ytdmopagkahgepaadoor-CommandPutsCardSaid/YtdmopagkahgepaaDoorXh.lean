/- lombardref24.command: of a kind and numbers. -/
import Derived.Test.YtdmopagkahgepaaDoorUn
namespace Go.Proofs.YtdmopagkahgepaaDoor
open Go.RowKit Go.Maps Go.ChangeMaps Go.ChangeShapes

/-- How many numbers a kind wants at least. -/
def leastN (k : Int) : Int := match k with
  | 6 => 2
  | 7 => 4
  | 8 => 5
  | 10 => 1
  | 11 => 0
  | 12 => 0
  | 13 => 1
  | 14 => 1
  | _ => 3
@[go_sem] theorem least1 (w : World) : (Instr.index 150 (.agg #[.int .i64 0, .int .i64 3, .int .i64 3, .int .i64 3, .int .i64 3, .int .i64 3, .int .i64 2, .int .i64 4, .int .i64 5, .int .i64 3, .int .i64 1, .int .i64 0, .int .i64 0, .int .i64 1, .int .i64 1]) (.int .i64 1)).run Tryd.prog w = .ok (.int .i64 3) w := by kernel_rfl
@[go_sem] theorem least2 (w : World) : (Instr.index 150 (.agg #[.int .i64 0, .int .i64 3, .int .i64 3, .int .i64 3, .int .i64 3, .int .i64 3, .int .i64 2, .int .i64 4, .int .i64 5, .int .i64 3, .int .i64 1, .int .i64 0, .int .i64 0, .int .i64 1, .int .i64 1]) (.int .i64 2)).run Tryd.prog w = .ok (.int .i64 3) w := by kernel_rfl
@[go_sem] theorem least3 (w : World) : (Instr.index 150 (.agg #[.int .i64 0, .int .i64 3, .int .i64 3, .int .i64 3, .int .i64 3, .int .i64 3, .int .i64 2, .int .i64 4, .int .i64 5, .int .i64 3, .int .i64 1, .int .i64 0, .int .i64 0, .int .i64 1, .int .i64 1]) (.int .i64 3)).run Tryd.prog w = .ok (.int .i64 3) w := by kernel_rfl
@[go_sem] theorem least4 (w : World) : (Instr.index 150 (.agg #[.int .i64 0, .int .i64 3, .int .i64 3, .int .i64 3, .int .i64 3, .int .i64 3, .int .i64 2, .int .i64 4, .int .i64 5, .int .i64 3, .int .i64 1, .int .i64 0, .int .i64 0, .int .i64 1, .int .i64 1]) (.int .i64 4)).run Tryd.prog w = .ok (.int .i64 3) w := by kernel_rfl
@[go_sem] theorem least5 (w : World) : (Instr.index 150 (.agg #[.int .i64 0, .int .i64 3, .int .i64 3, .int .i64 3, .int .i64 3, .int .i64 3, .int .i64 2, .int .i64 4, .int .i64 5, .int .i64 3, .int .i64 1, .int .i64 0, .int .i64 0, .int .i64 1, .int .i64 1]) (.int .i64 5)).run Tryd.prog w = .ok (.int .i64 3) w := by kernel_rfl
@[go_sem] theorem least6 (w : World) : (Instr.index 150 (.agg #[.int .i64 0, .int .i64 3, .int .i64 3, .int .i64 3, .int .i64 3, .int .i64 3, .int .i64 2, .int .i64 4, .int .i64 5, .int .i64 3, .int .i64 1, .int .i64 0, .int .i64 0, .int .i64 1, .int .i64 1]) (.int .i64 6)).run Tryd.prog w = .ok (.int .i64 2) w := by kernel_rfl
@[go_sem] theorem least7 (w : World) : (Instr.index 150 (.agg #[.int .i64 0, .int .i64 3, .int .i64 3, .int .i64 3, .int .i64 3, .int .i64 3, .int .i64 2, .int .i64 4, .int .i64 5, .int .i64 3, .int .i64 1, .int .i64 0, .int .i64 0, .int .i64 1, .int .i64 1]) (.int .i64 7)).run Tryd.prog w = .ok (.int .i64 4) w := by kernel_rfl
@[go_sem] theorem least8 (w : World) : (Instr.index 150 (.agg #[.int .i64 0, .int .i64 3, .int .i64 3, .int .i64 3, .int .i64 3, .int .i64 3, .int .i64 2, .int .i64 4, .int .i64 5, .int .i64 3, .int .i64 1, .int .i64 0, .int .i64 0, .int .i64 1, .int .i64 1]) (.int .i64 8)).run Tryd.prog w = .ok (.int .i64 5) w := by kernel_rfl
@[go_sem] theorem least9 (w : World) : (Instr.index 150 (.agg #[.int .i64 0, .int .i64 3, .int .i64 3, .int .i64 3, .int .i64 3, .int .i64 3, .int .i64 2, .int .i64 4, .int .i64 5, .int .i64 3, .int .i64 1, .int .i64 0, .int .i64 0, .int .i64 1, .int .i64 1]) (.int .i64 9)).run Tryd.prog w = .ok (.int .i64 3) w := by kernel_rfl
@[go_sem] theorem least10 (w : World) : (Instr.index 150 (.agg #[.int .i64 0, .int .i64 3, .int .i64 3, .int .i64 3, .int .i64 3, .int .i64 3, .int .i64 2, .int .i64 4, .int .i64 5, .int .i64 3, .int .i64 1, .int .i64 0, .int .i64 0, .int .i64 1, .int .i64 1]) (.int .i64 10)).run Tryd.prog w = .ok (.int .i64 1) w := by kernel_rfl
@[go_sem] theorem least11 (w : World) : (Instr.index 150 (.agg #[.int .i64 0, .int .i64 3, .int .i64 3, .int .i64 3, .int .i64 3, .int .i64 3, .int .i64 2, .int .i64 4, .int .i64 5, .int .i64 3, .int .i64 1, .int .i64 0, .int .i64 0, .int .i64 1, .int .i64 1]) (.int .i64 11)).run Tryd.prog w = .ok (.int .i64 0) w := by kernel_rfl
@[go_sem] theorem least12 (w : World) : (Instr.index 150 (.agg #[.int .i64 0, .int .i64 3, .int .i64 3, .int .i64 3, .int .i64 3, .int .i64 3, .int .i64 2, .int .i64 4, .int .i64 5, .int .i64 3, .int .i64 1, .int .i64 0, .int .i64 0, .int .i64 1, .int .i64 1]) (.int .i64 12)).run Tryd.prog w = .ok (.int .i64 0) w := by kernel_rfl
@[go_sem] theorem least13 (w : World) : (Instr.index 150 (.agg #[.int .i64 0, .int .i64 3, .int .i64 3, .int .i64 3, .int .i64 3, .int .i64 3, .int .i64 2, .int .i64 4, .int .i64 5, .int .i64 3, .int .i64 1, .int .i64 0, .int .i64 0, .int .i64 1, .int .i64 1]) (.int .i64 13)).run Tryd.prog w = .ok (.int .i64 1) w := by kernel_rfl
@[go_sem] theorem least14 (w : World) : (Instr.index 150 (.agg #[.int .i64 0, .int .i64 3, .int .i64 3, .int .i64 3, .int .i64 3, .int .i64 3, .int .i64 2, .int .i64 4, .int .i64 5, .int .i64 3, .int .i64 1, .int .i64 0, .int .i64 0, .int .i64 1, .int .i64 1]) (.int .i64 14)).run Tryd.prog w = .ok (.int .i64 1) w := by kernel_rfl
set_option maxRecDepth 100000 in
set_option maxHeartbeats 4000000 in
theorem cmd_2 (g cap : Nat) (a b c : Int) (w : World) (hg : g < w.heap.size) (c0 : w.cell? ⟨g, 0, none⟩ = some (.int .i64 a)) (c1 : w.cell? ⟨g, 1, none⟩ = some (.int .i64 b)) (c2 : w.cell? ⟨g, 2, none⟩ = some (.int .i64 c)) :
    Calls Tryd.prog 44 #[.int .i64 2, .slice (some ⟨g, 0, none⟩) 3 cap] w fun e w' => e = .returned (.tuple #[.agg #[.int .i64 2, .int .i64 a, .int .i64 2, .int .i64 b, .int .i64 0, .int .i64 c, .slice none 0 0, .int .i64 0, .int .i64 0, .bool false, .int .i64 0], .bool true]) ∧ Below w.heap.size w w' := by
  have n1 : g ≠ w.heap.size := by omega
  have n2 : g ≠ w.heap.size + 1 := by omega
  go_enter Tryd.func44, Tryd.ntmps44
  go_wp2_with fail
  refine bodyPost_ret (v := .tuple #[.agg #[.int .i64 2, .int .i64 a, .int .i64 2, .int .i64 b, .int .i64 0, .int .i64 c, .slice none 0 0, .int .i64 0, .int .i64 0, .bool false, .int .i64 0], .bool true]) (by simp [results, Tryd.results44, go_sem]) rfl ⟨rfl, ((Below.refl _ w).alloc (Nat.le_refl _) _).alloc (by simp) _⟩

set_option maxRecDepth 100000 in
set_option maxHeartbeats 4000000 in
theorem cmd_3 (g cap : Nat) (a b c : Int) (w : World) (hg : g < w.heap.size) (c0 : w.cell? ⟨g, 0, none⟩ = some (.int .i64 a)) (c1 : w.cell? ⟨g, 1, none⟩ = some (.int .i64 b)) (c2 : w.cell? ⟨g, 2, none⟩ = some (.int .i64 c)) :
    Calls Tryd.prog 44 #[.int .i64 3, .slice (some ⟨g, 0, none⟩) 3 cap] w fun e w' => e = .returned (.tuple #[.agg #[.int .i64 3, .int .i64 a, .int .i64 3, .int .i64 b, .int .i64 0, .int .i64 c, .slice none 0 0, .int .i64 0, .int .i64 0, .bool false, .int .i64 0], .bool true]) ∧ Below w.heap.size w w' := by
  have n1 : g ≠ w.heap.size := by omega
  have n2 : g ≠ w.heap.size + 1 := by omega
  go_enter Tryd.func44, Tryd.ntmps44
  go_wp2_with fail
  refine bodyPost_ret (v := .tuple #[.agg #[.int .i64 3, .int .i64 a, .int .i64 3, .int .i64 b, .int .i64 0, .int .i64 c, .slice none 0 0, .int .i64 0, .int .i64 0, .bool false, .int .i64 0], .bool true]) (by simp [results, Tryd.results44, go_sem]) rfl ⟨rfl, ((Below.refl _ w).alloc (Nat.le_refl _) _).alloc (by simp) _⟩

set_option maxRecDepth 100000 in
set_option maxHeartbeats 4000000 in
theorem cmd_4 (g cap : Nat) (a b c : Int) (w : World) (hg : g < w.heap.size) (c0 : w.cell? ⟨g, 0, none⟩ = some (.int .i64 a)) (c1 : w.cell? ⟨g, 1, none⟩ = some (.int .i64 b)) (c2 : w.cell? ⟨g, 2, none⟩ = some (.int .i64 c)) :
    Calls Tryd.prog 44 #[.int .i64 4, .slice (some ⟨g, 0, none⟩) 3 cap] w fun e w' => e = .returned (.tuple #[.agg #[.int .i64 4, .int .i64 a, .int .i64 4, .int .i64 b, .int .i64 0, .int .i64 c, .slice none 0 0, .int .i64 0, .int .i64 0, .bool false, .int .i64 0], .bool true]) ∧ Below w.heap.size w w' := by
  have n1 : g ≠ w.heap.size := by omega
  have n2 : g ≠ w.heap.size + 1 := by omega
  go_enter Tryd.func44, Tryd.ntmps44
  go_wp2_with fail
  refine bodyPost_ret (v := .tuple #[.agg #[.int .i64 4, .int .i64 a, .int .i64 4, .int .i64 b, .int .i64 0, .int .i64 c, .slice none 0 0, .int .i64 0, .int .i64 0, .bool false, .int .i64 0], .bool true]) (by simp [results, Tryd.results44, go_sem]) rfl ⟨rfl, ((Below.refl _ w).alloc (Nat.le_refl _) _).alloc (by simp) _⟩

set_option maxRecDepth 100000 in
set_option maxHeartbeats 4000000 in
theorem cmd_5 (g cap : Nat) (a b c : Int) (w : World) (hg : g < w.heap.size) (c0 : w.cell? ⟨g, 0, none⟩ = some (.int .i64 a)) (c1 : w.cell? ⟨g, 1, none⟩ = some (.int .i64 b)) (c2 : w.cell? ⟨g, 2, none⟩ = some (.int .i64 c)) :
    Calls Tryd.prog 44 #[.int .i64 5, .slice (some ⟨g, 0, none⟩) 3 cap] w fun e w' => e = .returned (.tuple #[.agg #[.int .i64 5, .int .i64 a, .int .i64 5, .int .i64 b, .int .i64 0, .int .i64 c, .slice none 0 0, .int .i64 0, .int .i64 0, .bool false, .int .i64 0], .bool true]) ∧ Below w.heap.size w w' := by
  have n1 : g ≠ w.heap.size := by omega
  have n2 : g ≠ w.heap.size + 1 := by omega
  go_enter Tryd.func44, Tryd.ntmps44
  go_wp2_with fail
  refine bodyPost_ret (v := .tuple #[.agg #[.int .i64 5, .int .i64 a, .int .i64 5, .int .i64 b, .int .i64 0, .int .i64 c, .slice none 0 0, .int .i64 0, .int .i64 0, .bool false, .int .i64 0], .bool true]) (by simp [results, Tryd.results44, go_sem]) rfl ⟨rfl, ((Below.refl _ w).alloc (Nat.le_refl _) _).alloc (by simp) _⟩

set_option maxRecDepth 100000 in
set_option maxHeartbeats 4000000 in
theorem cmd_9 (g cap : Nat) (a b c : Int) (w : World) (hg : g < w.heap.size) (c0 : w.cell? ⟨g, 0, none⟩ = some (.int .i64 a)) (c1 : w.cell? ⟨g, 1, none⟩ = some (.int .i64 b)) (c2 : w.cell? ⟨g, 2, none⟩ = some (.int .i64 c)) :
    Calls Tryd.prog 44 #[.int .i64 9, .slice (some ⟨g, 0, none⟩) 3 cap] w fun e w' => e = .returned (.tuple #[.agg #[.int .i64 9, .int .i64 a, .int .i64 9, .int .i64 b, .int .i64 0, .int .i64 c, .slice none 0 0, .int .i64 0, .int .i64 0, .bool false, .int .i64 0], .bool true]) ∧ Below w.heap.size w w' := by
  have n1 : g ≠ w.heap.size := by omega
  have n2 : g ≠ w.heap.size + 1 := by omega
  go_enter Tryd.func44, Tryd.ntmps44
  go_wp2_with fail
  refine bodyPost_ret (v := .tuple #[.agg #[.int .i64 9, .int .i64 a, .int .i64 9, .int .i64 b, .int .i64 0, .int .i64 c, .slice none 0 0, .int .i64 0, .int .i64 0, .bool false, .int .i64 0], .bool true]) (by simp [results, Tryd.results44, go_sem]) rfl ⟨rfl, ((Below.refl _ w).alloc (Nat.le_refl _) _).alloc (by simp) _⟩

set_option maxRecDepth 100000 in
set_option maxHeartbeats 4000000 in
theorem cmd_10 (g cap : Nat) (a : Int) (w : World) (hg : g < w.heap.size) (c0 : w.cell? ⟨g, 0, none⟩ = some (.int .i64 a)) :
    Calls Tryd.prog 44 #[.int .i64 10, .slice (some ⟨g, 0, none⟩) 1 cap] w fun e w' => e = .returned (.tuple #[.agg #[.int .i64 10, .int .i64 a, .int .i64 10, .int .i64 0, .int .i64 0, .int .i64 0, .slice none 0 0, .int .i64 0, .int .i64 0, .bool false, .int .i64 0], .bool true]) ∧ Below w.heap.size w w' := by
  have n1 : g ≠ w.heap.size := by omega
  have n2 : g ≠ w.heap.size + 1 := by omega
  go_enter Tryd.func44, Tryd.ntmps44
  go_wp2_with fail
  refine bodyPost_ret (v := .tuple #[.agg #[.int .i64 10, .int .i64 a, .int .i64 10, .int .i64 0, .int .i64 0, .int .i64 0, .slice none 0 0, .int .i64 0, .int .i64 0, .bool false, .int .i64 0], .bool true]) (by simp [results, Tryd.results44, go_sem]) rfl ⟨rfl, ((Below.refl _ w).alloc (Nat.le_refl _) _).alloc (by simp) _⟩

set_option maxRecDepth 100000 in
set_option maxHeartbeats 4000000 in
theorem cmd_11 (A : Option Addr) (cap : Nat) (w : World) :
    Calls Tryd.prog 44 #[.int .i64 11, .slice A 0 cap] w fun e w' => e = .returned (.tuple #[.agg #[.int .i64 11, .int .i64 0, .int .i64 0, .int .i64 0, .int .i64 0, .int .i64 0, .slice none 0 0, .int .i64 0, .int .i64 0, .bool false, .int .i64 0], .bool true]) ∧ Below w.heap.size w w' := by
  go_enter Tryd.func44, Tryd.ntmps44
  go_wp2_with fail
  refine bodyPost_ret (v := .tuple #[.agg #[.int .i64 11, .int .i64 0, .int .i64 0, .int .i64 0, .int .i64 0, .int .i64 0, .slice none 0 0, .int .i64 0, .int .i64 0, .bool false, .int .i64 0], .bool true]) (by simp [results, Tryd.results44, go_sem]) rfl ⟨rfl, ((Below.refl _ w).alloc (Nat.le_refl _) _).alloc (by simp) _⟩

set_option maxRecDepth 100000 in
set_option maxHeartbeats 4000000 in
theorem cmd_12 (A : Option Addr) (cap : Nat) (w : World) :
    Calls Tryd.prog 44 #[.int .i64 12, .slice A 0 cap] w fun e w' => e = .returned (.tuple #[.agg #[.int .i64 12, .int .i64 0, .int .i64 0, .int .i64 0, .int .i64 0, .int .i64 0, .slice none 0 0, .int .i64 0, .int .i64 0, .bool false, .int .i64 0], .bool true]) ∧ Below w.heap.size w w' := by
  go_enter Tryd.func44, Tryd.ntmps44
  go_wp2_with fail
  refine bodyPost_ret (v := .tuple #[.agg #[.int .i64 12, .int .i64 0, .int .i64 0, .int .i64 0, .int .i64 0, .int .i64 0, .slice none 0 0, .int .i64 0, .int .i64 0, .bool false, .int .i64 0], .bool true]) (by simp [results, Tryd.results44, go_sem]) rfl ⟨rfl, ((Below.refl _ w).alloc (Nat.le_refl _) _).alloc (by simp) _⟩

set_option maxRecDepth 100000 in
set_option maxHeartbeats 4000000 in
theorem cmd_13 (g cap : Nat) (a : Int) (w : World) (hg : g < w.heap.size) (c0 : w.cell? ⟨g, 0, none⟩ = some (.int .i64 a)) :
    Calls Tryd.prog 44 #[.int .i64 13, .slice (some ⟨g, 0, none⟩) 1 cap] w fun e w' => e = .returned (.tuple #[.agg #[.int .i64 13, .int .i64 0, .int .i64 0, .int .i64 0, .int .i64 0, .int .i64 0, .slice none 0 0, .int .i64 0, .int .i64 0, .bool false, .int .i64 a], .bool true]) ∧ Below w.heap.size w w' := by
  have n1 : g ≠ w.heap.size := by omega
  have n2 : g ≠ w.heap.size + 1 := by omega
  go_enter Tryd.func44, Tryd.ntmps44
  go_wp2_with fail
  refine bodyPost_ret (v := .tuple #[.agg #[.int .i64 13, .int .i64 0, .int .i64 0, .int .i64 0, .int .i64 0, .int .i64 0, .slice none 0 0, .int .i64 0, .int .i64 0, .bool false, .int .i64 a], .bool true]) (by simp [results, Tryd.results44, go_sem]) rfl ⟨rfl, ((Below.refl _ w).alloc (Nat.le_refl _) _).alloc (by simp) _⟩

set_option maxRecDepth 100000 in
set_option maxHeartbeats 4000000 in
theorem cmd_14 (g cap : Nat) (a : Int) (w : World) (hg : g < w.heap.size) (c0 : w.cell? ⟨g, 0, none⟩ = some (.int .i64 a)) :
    Calls Tryd.prog 44 #[.int .i64 14, .slice (some ⟨g, 0, none⟩) 1 cap] w fun e w' => e = .returned (.tuple #[.agg #[.int .i64 14, .int .i64 0, .int .i64 0, .int .i64 0, .int .i64 0, .int .i64 0, .slice none 0 0, .int .i64 0, .int .i64 0, .bool false, .int .i64 a], .bool true]) ∧ Below w.heap.size w w' := by
  have n1 : g ≠ w.heap.size := by omega
  have n2 : g ≠ w.heap.size + 1 := by omega
  go_enter Tryd.func44, Tryd.ntmps44
  go_wp2_with fail
  refine bodyPost_ret (v := .tuple #[.agg #[.int .i64 14, .int .i64 0, .int .i64 0, .int .i64 0, .int .i64 0, .int .i64 0, .slice none 0 0, .int .i64 0, .int .i64 0, .bool false, .int .i64 a], .bool true]) (by simp [results, Tryd.results44, go_sem]) rfl ⟨rfl, ((Below.refl _ w).alloc (Nat.le_refl _) _).alloc (by simp) _⟩

set_option maxRecDepth 100000 in
set_option maxHeartbeats 4000000 in
theorem few_1 (A : Option Addr) (cap n : Nat) (w : World) (hn : n ≤ 30000) (h : n < 3) :
    Calls Tryd.prog 44 #[.int .i64 1, .slice A n cap] w fun e w' => e = .returned (.tuple #[.agg #[.int .i64 0, .int .i64 0, .int .i64 0, .int .i64 0, .int .i64 0, .int .i64 0, .slice none 0 0, .int .i64 0, .int .i64 0, .bool false, .int .i64 0], .bool false]) ∧ Below w.heap.size w w' := by
  have h1 : (n : Int) < 3 := by omega
  go_enter Tryd.func44, Tryd.ntmps44
  go_wp2_with fail
  refine bodyPost_ret (v := .tuple #[.agg #[.int .i64 0, .int .i64 0, .int .i64 0, .int .i64 0, .int .i64 0, .int .i64 0, .slice none 0 0, .int .i64 0, .int .i64 0, .bool false, .int .i64 0], .bool false]) (by simp [results, Tryd.results44, go_sem]) rfl ⟨rfl, ((Below.refl _ w).alloc (Nat.le_refl _) _).alloc (by simp) _⟩

set_option maxRecDepth 100000 in
set_option maxHeartbeats 4000000 in
theorem more_1 (A : Option Addr) (cap n : Nat) (w : World) (hn : n ≤ 30000) (h : 3 + 600 < n) :
    Calls Tryd.prog 44 #[.int .i64 1, .slice A n cap] w fun e w' => e = .returned (.tuple #[.agg #[.int .i64 0, .int .i64 0, .int .i64 0, .int .i64 0, .int .i64 0, .int .i64 0, .slice none 0 0, .int .i64 0, .int .i64 0, .bool false, .int .i64 0], .bool false]) ∧ Below w.heap.size w w' := by
  have h1 : ¬ (n : Int) < 3 := by omega
  have h2 : (3 : Int) < (n : Int) := by omega
  have h3 : (600 : Int) < (n : Int) - 3 := by omega
  go_enter Tryd.func44, Tryd.ntmps44
  go_wp2_with fail
  refine bodyPost_ret (v := .tuple #[.agg #[.int .i64 0, .int .i64 0, .int .i64 0, .int .i64 0, .int .i64 0, .int .i64 0, .slice none 0 0, .int .i64 0, .int .i64 0, .bool false, .int .i64 0], .bool false]) (by simp [results, Tryd.results44, go_sem]) rfl ⟨rfl, ((Below.refl _ w).alloc (Nat.le_refl _) _).alloc (by simp) _⟩

set_option maxRecDepth 100000 in
set_option maxHeartbeats 4000000 in
theorem few_2 (A : Option Addr) (cap n : Nat) (w : World) (hn : n ≤ 30000) (h : n < 3) :
    Calls Tryd.prog 44 #[.int .i64 2, .slice A n cap] w fun e w' => e = .returned (.tuple #[.agg #[.int .i64 0, .int .i64 0, .int .i64 0, .int .i64 0, .int .i64 0, .int .i64 0, .slice none 0 0, .int .i64 0, .int .i64 0, .bool false, .int .i64 0], .bool false]) ∧ Below w.heap.size w w' := by
  have h1 : (n : Int) < 3 := by omega
  go_enter Tryd.func44, Tryd.ntmps44
  go_wp2_with fail
  refine bodyPost_ret (v := .tuple #[.agg #[.int .i64 0, .int .i64 0, .int .i64 0, .int .i64 0, .int .i64 0, .int .i64 0, .slice none 0 0, .int .i64 0, .int .i64 0, .bool false, .int .i64 0], .bool false]) (by simp [results, Tryd.results44, go_sem]) rfl ⟨rfl, ((Below.refl _ w).alloc (Nat.le_refl _) _).alloc (by simp) _⟩

set_option maxRecDepth 100000 in
set_option maxHeartbeats 4000000 in
theorem more_2 (A : Option Addr) (cap n : Nat) (w : World) (hn : n ≤ 30000) (h : 3 < n) :
    Calls Tryd.prog 44 #[.int .i64 2, .slice A n cap] w fun e w' => e = .returned (.tuple #[.agg #[.int .i64 0, .int .i64 0, .int .i64 0, .int .i64 0, .int .i64 0, .int .i64 0, .slice none 0 0, .int .i64 0, .int .i64 0, .bool false, .int .i64 0], .bool false]) ∧ Below w.heap.size w w' := by
  have h1 : ¬ (n : Int) < 3 := by omega
  have h2 : (3 : Int) < (n : Int) := by omega
  go_enter Tryd.func44, Tryd.ntmps44
  go_wp2_with fail
  refine bodyPost_ret (v := .tuple #[.agg #[.int .i64 0, .int .i64 0, .int .i64 0, .int .i64 0, .int .i64 0, .int .i64 0, .slice none 0 0, .int .i64 0, .int .i64 0, .bool false, .int .i64 0], .bool false]) (by simp [results, Tryd.results44, go_sem]) rfl ⟨rfl, ((Below.refl _ w).alloc (Nat.le_refl _) _).alloc (by simp) _⟩

set_option maxRecDepth 100000 in
set_option maxHeartbeats 4000000 in
theorem few_3 (A : Option Addr) (cap n : Nat) (w : World) (hn : n ≤ 30000) (h : n < 3) :
    Calls Tryd.prog 44 #[.int .i64 3, .slice A n cap] w fun e w' => e = .returned (.tuple #[.agg #[.int .i64 0, .int .i64 0, .int .i64 0, .int .i64 0, .int .i64 0, .int .i64 0, .slice none 0 0, .int .i64 0, .int .i64 0, .bool false, .int .i64 0], .bool false]) ∧ Below w.heap.size w w' := by
  have h1 : (n : Int) < 3 := by omega
  go_enter Tryd.func44, Tryd.ntmps44
  go_wp2_with fail
  refine bodyPost_ret (v := .tuple #[.agg #[.int .i64 0, .int .i64 0, .int .i64 0, .int .i64 0, .int .i64 0, .int .i64 0, .slice none 0 0, .int .i64 0, .int .i64 0, .bool false, .int .i64 0], .bool false]) (by simp [results, Tryd.results44, go_sem]) rfl ⟨rfl, ((Below.refl _ w).alloc (Nat.le_refl _) _).alloc (by simp) _⟩

set_option maxRecDepth 100000 in
set_option maxHeartbeats 4000000 in
theorem more_3 (A : Option Addr) (cap n : Nat) (w : World) (hn : n ≤ 30000) (h : 3 < n) :
    Calls Tryd.prog 44 #[.int .i64 3, .slice A n cap] w fun e w' => e = .returned (.tuple #[.agg #[.int .i64 0, .int .i64 0, .int .i64 0, .int .i64 0, .int .i64 0, .int .i64 0, .slice none 0 0, .int .i64 0, .int .i64 0, .bool false, .int .i64 0], .bool false]) ∧ Below w.heap.size w w' := by
  have h1 : ¬ (n : Int) < 3 := by omega
  have h2 : (3 : Int) < (n : Int) := by omega
  go_enter Tryd.func44, Tryd.ntmps44
  go_wp2_with fail
  refine bodyPost_ret (v := .tuple #[.agg #[.int .i64 0, .int .i64 0, .int .i64 0, .int .i64 0, .int .i64 0, .int .i64 0, .slice none 0 0, .int .i64 0, .int .i64 0, .bool false, .int .i64 0], .bool false]) (by simp [results, Tryd.results44, go_sem]) rfl ⟨rfl, ((Below.refl _ w).alloc (Nat.le_refl _) _).alloc (by simp) _⟩

set_option maxRecDepth 100000 in
set_option maxHeartbeats 4000000 in
theorem few_4 (A : Option Addr) (cap n : Nat) (w : World) (hn : n ≤ 30000) (h : n < 3) :
    Calls Tryd.prog 44 #[.int .i64 4, .slice A n cap] w fun e w' => e = .returned (.tuple #[.agg #[.int .i64 0, .int .i64 0, .int .i64 0, .int .i64 0, .int .i64 0, .int .i64 0, .slice none 0 0, .int .i64 0, .int .i64 0, .bool false, .int .i64 0], .bool false]) ∧ Below w.heap.size w w' := by
  have h1 : (n : Int) < 3 := by omega
  go_enter Tryd.func44, Tryd.ntmps44
  go_wp2_with fail
  refine bodyPost_ret (v := .tuple #[.agg #[.int .i64 0, .int .i64 0, .int .i64 0, .int .i64 0, .int .i64 0, .int .i64 0, .slice none 0 0, .int .i64 0, .int .i64 0, .bool false, .int .i64 0], .bool false]) (by simp [results, Tryd.results44, go_sem]) rfl ⟨rfl, ((Below.refl _ w).alloc (Nat.le_refl _) _).alloc (by simp) _⟩

set_option maxRecDepth 100000 in
set_option maxHeartbeats 4000000 in
theorem more_4 (A : Option Addr) (cap n : Nat) (w : World) (hn : n ≤ 30000) (h : 3 < n) :
    Calls Tryd.prog 44 #[.int .i64 4, .slice A n cap] w fun e w' => e = .returned (.tuple #[.agg #[.int .i64 0, .int .i64 0, .int .i64 0, .int .i64 0, .int .i64 0, .int .i64 0, .slice none 0 0, .int .i64 0, .int .i64 0, .bool false, .int .i64 0], .bool false]) ∧ Below w.heap.size w w' := by
  have h1 : ¬ (n : Int) < 3 := by omega
  have h2 : (3 : Int) < (n : Int) := by omega
  go_enter Tryd.func44, Tryd.ntmps44
  go_wp2_with fail
  refine bodyPost_ret (v := .tuple #[.agg #[.int .i64 0, .int .i64 0, .int .i64 0, .int .i64 0, .int .i64 0, .int .i64 0, .slice none 0 0, .int .i64 0, .int .i64 0, .bool false, .int .i64 0], .bool false]) (by simp [results, Tryd.results44, go_sem]) rfl ⟨rfl, ((Below.refl _ w).alloc (Nat.le_refl _) _).alloc (by simp) _⟩

set_option maxRecDepth 100000 in
set_option maxHeartbeats 4000000 in
theorem few_5 (A : Option Addr) (cap n : Nat) (w : World) (hn : n ≤ 30000) (h : n < 3) :
    Calls Tryd.prog 44 #[.int .i64 5, .slice A n cap] w fun e w' => e = .returned (.tuple #[.agg #[.int .i64 0, .int .i64 0, .int .i64 0, .int .i64 0, .int .i64 0, .int .i64 0, .slice none 0 0, .int .i64 0, .int .i64 0, .bool false, .int .i64 0], .bool false]) ∧ Below w.heap.size w w' := by
  have h1 : (n : Int) < 3 := by omega
  go_enter Tryd.func44, Tryd.ntmps44
  go_wp2_with fail
  refine bodyPost_ret (v := .tuple #[.agg #[.int .i64 0, .int .i64 0, .int .i64 0, .int .i64 0, .int .i64 0, .int .i64 0, .slice none 0 0, .int .i64 0, .int .i64 0, .bool false, .int .i64 0], .bool false]) (by simp [results, Tryd.results44, go_sem]) rfl ⟨rfl, ((Below.refl _ w).alloc (Nat.le_refl _) _).alloc (by simp) _⟩

set_option maxRecDepth 100000 in
set_option maxHeartbeats 4000000 in
theorem more_5 (A : Option Addr) (cap n : Nat) (w : World) (hn : n ≤ 30000) (h : 3 < n) :
    Calls Tryd.prog 44 #[.int .i64 5, .slice A n cap] w fun e w' => e = .returned (.tuple #[.agg #[.int .i64 0, .int .i64 0, .int .i64 0, .int .i64 0, .int .i64 0, .int .i64 0, .slice none 0 0, .int .i64 0, .int .i64 0, .bool false, .int .i64 0], .bool false]) ∧ Below w.heap.size w w' := by
  have h1 : ¬ (n : Int) < 3 := by omega
  have h2 : (3 : Int) < (n : Int) := by omega
  go_enter Tryd.func44, Tryd.ntmps44
  go_wp2_with fail
  refine bodyPost_ret (v := .tuple #[.agg #[.int .i64 0, .int .i64 0, .int .i64 0, .int .i64 0, .int .i64 0, .int .i64 0, .slice none 0 0, .int .i64 0, .int .i64 0, .bool false, .int .i64 0], .bool false]) (by simp [results, Tryd.results44, go_sem]) rfl ⟨rfl, ((Below.refl _ w).alloc (Nat.le_refl _) _).alloc (by simp) _⟩

set_option maxRecDepth 100000 in
set_option maxHeartbeats 4000000 in
theorem few_6 (A : Option Addr) (cap n : Nat) (w : World) (hn : n ≤ 30000) (h : n < 2) :
    Calls Tryd.prog 44 #[.int .i64 6, .slice A n cap] w fun e w' => e = .returned (.tuple #[.agg #[.int .i64 0, .int .i64 0, .int .i64 0, .int .i64 0, .int .i64 0, .int .i64 0, .slice none 0 0, .int .i64 0, .int .i64 0, .bool false, .int .i64 0], .bool false]) ∧ Below w.heap.size w w' := by
  have h1 : (n : Int) < 2 := by omega
  go_enter Tryd.func44, Tryd.ntmps44
  go_wp2_with fail
  refine bodyPost_ret (v := .tuple #[.agg #[.int .i64 0, .int .i64 0, .int .i64 0, .int .i64 0, .int .i64 0, .int .i64 0, .slice none 0 0, .int .i64 0, .int .i64 0, .bool false, .int .i64 0], .bool false]) (by simp [results, Tryd.results44, go_sem]) rfl ⟨rfl, ((Below.refl _ w).alloc (Nat.le_refl _) _).alloc (by simp) _⟩

set_option maxRecDepth 100000 in
set_option maxHeartbeats 4000000 in
theorem more_6 (A : Option Addr) (cap n : Nat) (w : World) (hn : n ≤ 30000) (h : 2 + 600 < n) :
    Calls Tryd.prog 44 #[.int .i64 6, .slice A n cap] w fun e w' => e = .returned (.tuple #[.agg #[.int .i64 0, .int .i64 0, .int .i64 0, .int .i64 0, .int .i64 0, .int .i64 0, .slice none 0 0, .int .i64 0, .int .i64 0, .bool false, .int .i64 0], .bool false]) ∧ Below w.heap.size w w' := by
  have h1 : ¬ (n : Int) < 2 := by omega
  have h2 : (2 : Int) < (n : Int) := by omega
  have h3 : (600 : Int) < (n : Int) - 2 := by omega
  go_enter Tryd.func44, Tryd.ntmps44
  go_wp2_with fail
  refine bodyPost_ret (v := .tuple #[.agg #[.int .i64 0, .int .i64 0, .int .i64 0, .int .i64 0, .int .i64 0, .int .i64 0, .slice none 0 0, .int .i64 0, .int .i64 0, .bool false, .int .i64 0], .bool false]) (by simp [results, Tryd.results44, go_sem]) rfl ⟨rfl, ((Below.refl _ w).alloc (Nat.le_refl _) _).alloc (by simp) _⟩

set_option maxRecDepth 100000 in
set_option maxHeartbeats 4000000 in
theorem few_7 (A : Option Addr) (cap n : Nat) (w : World) (hn : n ≤ 30000) (h : n < 4) :
    Calls Tryd.prog 44 #[.int .i64 7, .slice A n cap] w fun e w' => e = .returned (.tuple #[.agg #[.int .i64 0, .int .i64 0, .int .i64 0, .int .i64 0, .int .i64 0, .int .i64 0, .slice none 0 0, .int .i64 0, .int .i64 0, .bool false, .int .i64 0], .bool false]) ∧ Below w.heap.size w w' := by
  have h1 : (n : Int) < 4 := by omega
  go_enter Tryd.func44, Tryd.ntmps44
  go_wp2_with fail
  refine bodyPost_ret (v := .tuple #[.agg #[.int .i64 0, .int .i64 0, .int .i64 0, .int .i64 0, .int .i64 0, .int .i64 0, .slice none 0 0, .int .i64 0, .int .i64 0, .bool false, .int .i64 0], .bool false]) (by simp [results, Tryd.results44, go_sem]) rfl ⟨rfl, ((Below.refl _ w).alloc (Nat.le_refl _) _).alloc (by simp) _⟩

set_option maxRecDepth 100000 in
set_option maxHeartbeats 4000000 in
theorem more_7 (A : Option Addr) (cap n : Nat) (w : World) (hn : n ≤ 30000) (h : 4 + 600 < n) :
    Calls Tryd.prog 44 #[.int .i64 7, .slice A n cap] w fun e w' => e = .returned (.tuple #[.agg #[.int .i64 0, .int .i64 0, .int .i64 0, .int .i64 0, .int .i64 0, .int .i64 0, .slice none 0 0, .int .i64 0, .int .i64 0, .bool false, .int .i64 0], .bool false]) ∧ Below w.heap.size w w' := by
  have h1 : ¬ (n : Int) < 4 := by omega
  have h2 : (4 : Int) < (n : Int) := by omega
  have h3 : (600 : Int) < (n : Int) - 4 := by omega
  go_enter Tryd.func44, Tryd.ntmps44
  go_wp2_with fail
  refine bodyPost_ret (v := .tuple #[.agg #[.int .i64 0, .int .i64 0, .int .i64 0, .int .i64 0, .int .i64 0, .int .i64 0, .slice none 0 0, .int .i64 0, .int .i64 0, .bool false, .int .i64 0], .bool false]) (by simp [results, Tryd.results44, go_sem]) rfl ⟨rfl, ((Below.refl _ w).alloc (Nat.le_refl _) _).alloc (by simp) _⟩

set_option maxRecDepth 100000 in
set_option maxHeartbeats 4000000 in
theorem few_8 (A : Option Addr) (cap n : Nat) (w : World) (hn : n ≤ 30000) (h : n < 5) :
    Calls Tryd.prog 44 #[.int .i64 8, .slice A n cap] w fun e w' => e = .returned (.tuple #[.agg #[.int .i64 0, .int .i64 0, .int .i64 0, .int .i64 0, .int .i64 0, .int .i64 0, .slice none 0 0, .int .i64 0, .int .i64 0, .bool false, .int .i64 0], .bool false]) ∧ Below w.heap.size w w' := by
  have h1 : (n : Int) < 5 := by omega
  go_enter Tryd.func44, Tryd.ntmps44
  go_wp2_with fail
  refine bodyPost_ret (v := .tuple #[.agg #[.int .i64 0, .int .i64 0, .int .i64 0, .int .i64 0, .int .i64 0, .int .i64 0, .slice none 0 0, .int .i64 0, .int .i64 0, .bool false, .int .i64 0], .bool false]) (by simp [results, Tryd.results44, go_sem]) rfl ⟨rfl, ((Below.refl _ w).alloc (Nat.le_refl _) _).alloc (by simp) _⟩

set_option maxRecDepth 100000 in
set_option maxHeartbeats 4000000 in
theorem more_8 (A : Option Addr) (cap n : Nat) (w : World) (hn : n ≤ 30000) (h : 5 < n) :
    Calls Tryd.prog 44 #[.int .i64 8, .slice A n cap] w fun e w' => e = .returned (.tuple #[.agg #[.int .i64 0, .int .i64 0, .int .i64 0, .int .i64 0, .int .i64 0, .int .i64 0, .slice none 0 0, .int .i64 0, .int .i64 0, .bool false, .int .i64 0], .bool false]) ∧ Below w.heap.size w w' := by
  have h1 : ¬ (n : Int) < 5 := by omega
  have h2 : (5 : Int) < (n : Int) := by omega
  go_enter Tryd.func44, Tryd.ntmps44
  go_wp2_with fail
  refine bodyPost_ret (v := .tuple #[.agg #[.int .i64 0, .int .i64 0, .int .i64 0, .int .i64 0, .int .i64 0, .int .i64 0, .slice none 0 0, .int .i64 0, .int .i64 0, .bool false, .int .i64 0], .bool false]) (by simp [results, Tryd.results44, go_sem]) rfl ⟨rfl, ((Below.refl _ w).alloc (Nat.le_refl _) _).alloc (by simp) _⟩

set_option maxRecDepth 100000 in
set_option maxHeartbeats 4000000 in
theorem few_9 (A : Option Addr) (cap n : Nat) (w : World) (hn : n ≤ 30000) (h : n < 3) :
    Calls Tryd.prog 44 #[.int .i64 9, .slice A n cap] w fun e w' => e = .returned (.tuple #[.agg #[.int .i64 0, .int .i64 0, .int .i64 0, .int .i64 0, .int .i64 0, .int .i64 0, .slice none 0 0, .int .i64 0, .int .i64 0, .bool false, .int .i64 0], .bool false]) ∧ Below w.heap.size w w' := by
  have h1 : (n : Int) < 3 := by omega
  go_enter Tryd.func44, Tryd.ntmps44
  go_wp2_with fail
  refine bodyPost_ret (v := .tuple #[.agg #[.int .i64 0, .int .i64 0, .int .i64 0, .int .i64 0, .int .i64 0, .int .i64 0, .slice none 0 0, .int .i64 0, .int .i64 0, .bool false, .int .i64 0], .bool false]) (by simp [results, Tryd.results44, go_sem]) rfl ⟨rfl, ((Below.refl _ w).alloc (Nat.le_refl _) _).alloc (by simp) _⟩

set_option maxRecDepth 100000 in
set_option maxHeartbeats 4000000 in
theorem more_9 (A : Option Addr) (cap n : Nat) (w : World) (hn : n ≤ 30000) (h : 3 < n) :
    Calls Tryd.prog 44 #[.int .i64 9, .slice A n cap] w fun e w' => e = .returned (.tuple #[.agg #[.int .i64 0, .int .i64 0, .int .i64 0, .int .i64 0, .int .i64 0, .int .i64 0, .slice none 0 0, .int .i64 0, .int .i64 0, .bool false, .int .i64 0], .bool false]) ∧ Below w.heap.size w w' := by
  have h1 : ¬ (n : Int) < 3 := by omega
  have h2 : (3 : Int) < (n : Int) := by omega
  go_enter Tryd.func44, Tryd.ntmps44
  go_wp2_with fail
  refine bodyPost_ret (v := .tuple #[.agg #[.int .i64 0, .int .i64 0, .int .i64 0, .int .i64 0, .int .i64 0, .int .i64 0, .slice none 0 0, .int .i64 0, .int .i64 0, .bool false, .int .i64 0], .bool false]) (by simp [results, Tryd.results44, go_sem]) rfl ⟨rfl, ((Below.refl _ w).alloc (Nat.le_refl _) _).alloc (by simp) _⟩

set_option maxRecDepth 100000 in
set_option maxHeartbeats 4000000 in
theorem few_10 (A : Option Addr) (cap n : Nat) (w : World) (hn : n ≤ 30000) (h : n < 1) :
    Calls Tryd.prog 44 #[.int .i64 10, .slice A n cap] w fun e w' => e = .returned (.tuple #[.agg #[.int .i64 0, .int .i64 0, .int .i64 0, .int .i64 0, .int .i64 0, .int .i64 0, .slice none 0 0, .int .i64 0, .int .i64 0, .bool false, .int .i64 0], .bool false]) ∧ Below w.heap.size w w' := by
  have h1 : (n : Int) < 1 := by omega
  go_enter Tryd.func44, Tryd.ntmps44
  go_wp2_with fail
  refine bodyPost_ret (v := .tuple #[.agg #[.int .i64 0, .int .i64 0, .int .i64 0, .int .i64 0, .int .i64 0, .int .i64 0, .slice none 0 0, .int .i64 0, .int .i64 0, .bool false, .int .i64 0], .bool false]) (by simp [results, Tryd.results44, go_sem]) rfl ⟨rfl, ((Below.refl _ w).alloc (Nat.le_refl _) _).alloc (by simp) _⟩

set_option maxRecDepth 100000 in
set_option maxHeartbeats 4000000 in
theorem more_10 (A : Option Addr) (cap n : Nat) (w : World) (hn : n ≤ 30000) (h : 1 < n) :
    Calls Tryd.prog 44 #[.int .i64 10, .slice A n cap] w fun e w' => e = .returned (.tuple #[.agg #[.int .i64 0, .int .i64 0, .int .i64 0, .int .i64 0, .int .i64 0, .int .i64 0, .slice none 0 0, .int .i64 0, .int .i64 0, .bool false, .int .i64 0], .bool false]) ∧ Below w.heap.size w w' := by
  have h1 : ¬ (n : Int) < 1 := by omega
  have h2 : (1 : Int) < (n : Int) := by omega
  go_enter Tryd.func44, Tryd.ntmps44
  go_wp2_with fail
  refine bodyPost_ret (v := .tuple #[.agg #[.int .i64 0, .int .i64 0, .int .i64 0, .int .i64 0, .int .i64 0, .int .i64 0, .slice none 0 0, .int .i64 0, .int .i64 0, .bool false, .int .i64 0], .bool false]) (by simp [results, Tryd.results44, go_sem]) rfl ⟨rfl, ((Below.refl _ w).alloc (Nat.le_refl _) _).alloc (by simp) _⟩

set_option maxRecDepth 100000 in
set_option maxHeartbeats 4000000 in
theorem more_11 (A : Option Addr) (cap n : Nat) (w : World) (hn : n ≤ 30000) (h : 0 < n) :
    Calls Tryd.prog 44 #[.int .i64 11, .slice A n cap] w fun e w' => e = .returned (.tuple #[.agg #[.int .i64 0, .int .i64 0, .int .i64 0, .int .i64 0, .int .i64 0, .int .i64 0, .slice none 0 0, .int .i64 0, .int .i64 0, .bool false, .int .i64 0], .bool false]) ∧ Below w.heap.size w w' := by
  have h1 : ¬ (n : Int) < 0 := by omega
  have h2 : (0 : Int) < (n : Int) := by omega
  go_enter Tryd.func44, Tryd.ntmps44
  go_wp2_with fail
  refine bodyPost_ret (v := .tuple #[.agg #[.int .i64 0, .int .i64 0, .int .i64 0, .int .i64 0, .int .i64 0, .int .i64 0, .slice none 0 0, .int .i64 0, .int .i64 0, .bool false, .int .i64 0], .bool false]) (by simp [results, Tryd.results44, go_sem]) rfl ⟨rfl, ((Below.refl _ w).alloc (Nat.le_refl _) _).alloc (by simp) _⟩

set_option maxRecDepth 100000 in
set_option maxHeartbeats 4000000 in
theorem more_12 (A : Option Addr) (cap n : Nat) (w : World) (hn : n ≤ 30000) (h : 0 < n) :
    Calls Tryd.prog 44 #[.int .i64 12, .slice A n cap] w fun e w' => e = .returned (.tuple #[.agg #[.int .i64 0, .int .i64 0, .int .i64 0, .int .i64 0, .int .i64 0, .int .i64 0, .slice none 0 0, .int .i64 0, .int .i64 0, .bool false, .int .i64 0], .bool false]) ∧ Below w.heap.size w w' := by
  have h1 : ¬ (n : Int) < 0 := by omega
  have h2 : (0 : Int) < (n : Int) := by omega
  go_enter Tryd.func44, Tryd.ntmps44
  go_wp2_with fail
  refine bodyPost_ret (v := .tuple #[.agg #[.int .i64 0, .int .i64 0, .int .i64 0, .int .i64 0, .int .i64 0, .int .i64 0, .slice none 0 0, .int .i64 0, .int .i64 0, .bool false, .int .i64 0], .bool false]) (by simp [results, Tryd.results44, go_sem]) rfl ⟨rfl, ((Below.refl _ w).alloc (Nat.le_refl _) _).alloc (by simp) _⟩

set_option maxRecDepth 100000 in
set_option maxHeartbeats 4000000 in
theorem few_13 (A : Option Addr) (cap n : Nat) (w : World) (hn : n ≤ 30000) (h : n < 1) :
    Calls Tryd.prog 44 #[.int .i64 13, .slice A n cap] w fun e w' => e = .returned (.tuple #[.agg #[.int .i64 0, .int .i64 0, .int .i64 0, .int .i64 0, .int .i64 0, .int .i64 0, .slice none 0 0, .int .i64 0, .int .i64 0, .bool false, .int .i64 0], .bool false]) ∧ Below w.heap.size w w' := by
  have h1 : (n : Int) < 1 := by omega
  go_enter Tryd.func44, Tryd.ntmps44
  go_wp2_with fail
  refine bodyPost_ret (v := .tuple #[.agg #[.int .i64 0, .int .i64 0, .int .i64 0, .int .i64 0, .int .i64 0, .int .i64 0, .slice none 0 0, .int .i64 0, .int .i64 0, .bool false, .int .i64 0], .bool false]) (by simp [results, Tryd.results44, go_sem]) rfl ⟨rfl, ((Below.refl _ w).alloc (Nat.le_refl _) _).alloc (by simp) _⟩

set_option maxRecDepth 100000 in
set_option maxHeartbeats 4000000 in
theorem more_13 (A : Option Addr) (cap n : Nat) (w : World) (hn : n ≤ 30000) (h : 1 < n) :
    Calls Tryd.prog 44 #[.int .i64 13, .slice A n cap] w fun e w' => e = .returned (.tuple #[.agg #[.int .i64 0, .int .i64 0, .int .i64 0, .int .i64 0, .int .i64 0, .int .i64 0, .slice none 0 0, .int .i64 0, .int .i64 0, .bool false, .int .i64 0], .bool false]) ∧ Below w.heap.size w w' := by
  have h1 : ¬ (n : Int) < 1 := by omega
  have h2 : (1 : Int) < (n : Int) := by omega
  go_enter Tryd.func44, Tryd.ntmps44
  go_wp2_with fail
  refine bodyPost_ret (v := .tuple #[.agg #[.int .i64 0, .int .i64 0, .int .i64 0, .int .i64 0, .int .i64 0, .int .i64 0, .slice none 0 0, .int .i64 0, .int .i64 0, .bool false, .int .i64 0], .bool false]) (by simp [results, Tryd.results44, go_sem]) rfl ⟨rfl, ((Below.refl _ w).alloc (Nat.le_refl _) _).alloc (by simp) _⟩

set_option maxRecDepth 100000 in
set_option maxHeartbeats 4000000 in
theorem few_14 (A : Option Addr) (cap n : Nat) (w : World) (hn : n ≤ 30000) (h : n < 1) :
    Calls Tryd.prog 44 #[.int .i64 14, .slice A n cap] w fun e w' => e = .returned (.tuple #[.agg #[.int .i64 0, .int .i64 0, .int .i64 0, .int .i64 0, .int .i64 0, .int .i64 0, .slice none 0 0, .int .i64 0, .int .i64 0, .bool false, .int .i64 0], .bool false]) ∧ Below w.heap.size w w' := by
  have h1 : (n : Int) < 1 := by omega
  go_enter Tryd.func44, Tryd.ntmps44
  go_wp2_with fail
  refine bodyPost_ret (v := .tuple #[.agg #[.int .i64 0, .int .i64 0, .int .i64 0, .int .i64 0, .int .i64 0, .int .i64 0, .slice none 0 0, .int .i64 0, .int .i64 0, .bool false, .int .i64 0], .bool false]) (by simp [results, Tryd.results44, go_sem]) rfl ⟨rfl, ((Below.refl _ w).alloc (Nat.le_refl _) _).alloc (by simp) _⟩

set_option maxRecDepth 100000 in
set_option maxHeartbeats 4000000 in
theorem more_14 (A : Option Addr) (cap n : Nat) (w : World) (hn : n ≤ 30000) (h : 1 < n) :
    Calls Tryd.prog 44 #[.int .i64 14, .slice A n cap] w fun e w' => e = .returned (.tuple #[.agg #[.int .i64 0, .int .i64 0, .int .i64 0, .int .i64 0, .int .i64 0, .int .i64 0, .slice none 0 0, .int .i64 0, .int .i64 0, .bool false, .int .i64 0], .bool false]) ∧ Below w.heap.size w w' := by
  have h1 : ¬ (n : Int) < 1 := by omega
  have h2 : (1 : Int) < (n : Int) := by omega
  go_enter Tryd.func44, Tryd.ntmps44
  go_wp2_with fail
  refine bodyPost_ret (v := .tuple #[.agg #[.int .i64 0, .int .i64 0, .int .i64 0, .int .i64 0, .int .i64 0, .int .i64 0, .slice none 0 0, .int .i64 0, .int .i64 0, .bool false, .int .i64 0], .bool false]) (by simp [results, Tryd.results44, go_sem]) rfl ⟨rfl, ((Below.refl _ w).alloc (Nat.le_refl _) _).alloc (by simp) _⟩

end Go.Proofs.YtdmopagkahgepaaDoor
