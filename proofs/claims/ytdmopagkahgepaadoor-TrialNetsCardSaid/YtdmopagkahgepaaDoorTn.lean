/- lombardlaw21.alive. -/
import Derived.Test.YtdmopagkahgepaaDoorTm
namespace Go.Proofs.YtdmopagkahgepaaDoor
open Go.RowKit Go.Maps Go.ChangeMaps Go.ChangeShapes

def T0 : Tri := ⟨fun _ => false, fun _ => 0, fun _ => 0⟩
theorem T0_fine : Fine T0 := { keys := fun _ (h : false = true) => (nomatch h), none := fun _ _ => ⟨rfl, rfl⟩, pos := fun _ => ⟨Int.le_refl _, Int.le_refl _⟩ }
theorem T0_tot : tot T0.deb ≤ 2305843009213693952 ∧ tot T0.cre = tot T0.deb := by
  constructor
  · decide
  · rfl
def lines0 : List (Int × Int) := [(2, 100), (1, -100)]
def T1 : Tri := bookL T0 lines0
theorem T1_keys : keysOf T1.has = [1, 2] := by kernel_rfl
theorem T1_err : addErr T0 lines0 = 0 := by kernel_rfl
theorem T1_res : addRes T0 lines0 = T1 := by
  unfold addRes
  rw [if_pos T1_err]
  rfl
theorem T1_text : (⟨(textOf T1 [1, 2]).toArray⟩ : ByteArray) = ⟨#[99, 97, 115, 104, 32, 48, 32, 49, 48, 48, 32, 45, 49, 48, 48, 10, 108, 111, 97, 110, 115, 32, 49, 48, 48, 32, 48, 32, 49, 48, 48, 10]⟩ := by kernel_rfl
theorem T1_net : wrap64 (T1.deb 2 - T1.cre 2) = 100 := by kernel_rfl
theorem new_trial (w : World) : TrialFrom (((w.alloc (.map #[] 0)).alloc (.map #[] 0)).alloc (.cells #[.map (some w.heap.size), .map (some (w.heap.size + 1))] 76)) w.heap.size (w.heap.size + 2) 0 T0 := by
  refine ⟨w.heap.size, w.heap.size + 1, ⟨by omega, by omega, by omega, by omega⟩, ?_, ?_, ?_⟩
  · have := Whole.new ((w.alloc (.map #[] 0)).alloc (.map #[] 0)) 76 #[.map (some w.heap.size), .map (some (w.heap.size + 1))]
    simpa using this
  · exact ((Counts.made w).alloc _).alloc _
  · have := (Counts.made (w.alloc (.map #[] 0))).alloc (.cells #[.map (some w.heap.size), .map (some (w.heap.size + 1))] 76)
    show Counts _ _ 0 (fun _ => false) (fun _ => 0)
    simpa using this

set_option maxRecDepth 100000 in
set_option maxHeartbeats 2000000 in
theorem alive_any (w : World) (hP : Pow w) : Calls Tryd.prog 8 #[] w fun e w' => e = .returned (.bool true) ∧ Below w.heap.size w w' := by
  go_enter Tryd.func8, Tryd.ntmps8
  go_wp2_with fail
  refine (new_any w).mono ?_
  rintro e w1 ⟨rfl, rfl⟩
  have hT := new_trial w
  have hB : Below w.heap.size w (((w.alloc (.map #[] 0)).alloc (.map #[] 0)).alloc (.cells #[.map (some w.heap.size), .map (some (w.heap.size + 1))] 76)) :=
    (((Below.refl _ w).alloc (Nat.le_refl _) _).alloc (by simp) _).alloc (by simp; omega) _
  generalize ((w.alloc (.map #[] 0)).alloc (.map #[] 0)).alloc (.cells #[.map (some w.heap.size), .map (some (w.heap.size + 1))] 76) = w1 at hT hB ⊢
  go_wp2_with fail
  refine (post_any w1).mono ?_
  rintro e w2 ⟨A, c, rfl, hL, hb⟩
  have hT2 := hT.below hb
  have hB2 := hB.trans (hb.mono hB.size)
  clear hT hB hb
  go_wp2_with fail
  refine (add_any w.heap.size (w.heap.size + 2) 0 T0 A 2 c lines0 w2 hB2.size hT2 T0_fine T0_tot (by omega) hL).mono ?_
  rw [T1_err, T1_res]
  rintro e w3 ⟨rfl, hT3, hB3, hK3⟩
  have hF := addRes_fine T0_fine T0_tot lines0
  rw [T1_res] at hF
  have hB3 := hB2.trans hB3
  have hL3 := hL.keeps hK3
  clear hT2 hB2 hK3 hL
  go_wp2_with fail
  refine (rows_any w.heap.size (w.heap.size + 2) 64 T1 w3 hB3.size hT3 hF.1 hF.2 (by omega)).mono ?_
  rw [T1_keys]
  rintro e w4 ⟨A4, c4, rfl, _, hb4⟩
  have hT4 := hT3.below hb4
  have hB4 := hB3.trans (hb4.mono hB3.size)
  clear hT3 hB3 hb4
  go_wp2_with fail
  refine (text_any w.heap.size (w.heap.size + 2) 64 T1 w4 hB4.size hT4 hF.1 hF.2 (by omega) (hP.below hB4 (Nat.le_refl _))).mono ?_
  rw [T1_keys, T1_text]
  rintro e w5 ⟨rfl, hb5⟩
  have hT5 := hT4.below hb5
  have hB5 := hB4.trans (hb5.mono hB4.size)
  clear hT4 hB4 hb5
  go_wp2_with fail
  refine (net_any (w.heap.size + 2) 64 T1 2 w5 hT5.at_ (by unfold Fits; omega)).mono ?_
  rw [T1_net]
  rintro e w6 ⟨rfl, m, rfl⟩
  go_wp2_with fail
  refine (add_nil _ _ _ _).mono ?_
  rintro e w7 ⟨rfl, rfl⟩
  go_wp2_with fail
  go_ret
  exact ⟨rfl, ⟨hB5.os, hB5.tape, hB5.output, hB5.size, hB5.block⟩⟩

end Go.Proofs.YtdmopagkahgepaaDoor
