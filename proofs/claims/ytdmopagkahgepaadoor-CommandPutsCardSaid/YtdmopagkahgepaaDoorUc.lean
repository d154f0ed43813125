/- (*command.Command).fields: the walk. -/
import Derived.Test.YtdmopagkahgepaaDoorUb
namespace Go.Proofs.YtdmopagkahgepaaDoor
open Go.RowKit Go.Maps Go.ChangeMaps Go.ChangeShapes

set_option maxRecDepth 100000 in
set_option maxHeartbeats 4000000 in
theorem fields_any (z : Nat) (kind : Int) (w : World) (hz : z < w.heap.size) (hk : w.cell? ⟨z, 0, none⟩ = some (.int .i64 kind)) :
    Calls Tryd.prog 45 #[.pointer (some ⟨z, 0, none⟩)] w fun e w' => ∃ v fs, e = .returned (.tuple #[v, .bool (fieldsOf kind).2]) ∧ Flds w' w.heap.size z v fs ∧ fs.map (fun f => (f.k, f.o)) = (fieldsOf kind).1 ∧ Below w.heap.size w w' := by
  obtain ⟨i0, hi, hz0, hz1, hz2⟩ := info_parts info113
  go_enter Tryd.func45, Tryd.ntmps45
  go_wp2_with fail
  go_region_held3 (fun w' => True) (trivial)
    (first
      | (go_at_call 70; refine (bound_int ⟨z, 1, none⟩ w.drew).mono ?_; rintro e w1 ⟨rfl, hW1, hb1⟩; simp only [fieldV, FK.getFn, FK.setFn])
      | (go_at_call 70; refine (bound_int ⟨z, 3, none⟩ w1).mono ?_; rintro e w2 ⟨rfl, hW2, hb2⟩; simp only [fieldV, FK.getFn, FK.setFn]))
  have hF := Flds.made w2 w.heap.size z [⟨.int, w.heap.size, 1⟩, ⟨.int, w1.heap.size, 3⟩] (Nat.le_trans hb1.size hb2.size) (by simp) #[.func (.func 97) #[] #[.pointer (some ⟨w.heap.size, 0, none⟩)], .func (.func 98) #[] #[.pointer (some ⟨w.heap.size, 0, none⟩)], .func (.func 97) #[] #[.pointer (some ⟨w1.heap.size, 0, none⟩)], .func (.func 98) #[] #[.pointer (some ⟨w1.heap.size, 0, none⟩)]] rfl
    (fun f hf => by
      simp only [List.mem_cons, List.not_mem_nil, or_false] at hf
      rcases hf with rfl | rfl
      · exact ⟨Nat.le_refl _, hW1.below hb2 hW1.lt⟩
      · exact ⟨hb1.size, hW2⟩)
  have hB : Below w.heap.size w (w2.alloc (.cells #[.func (.func 97) #[] #[.pointer (some ⟨w.heap.size, 0, none⟩)], .func (.func 98) #[] #[.pointer (some ⟨w.heap.size, 0, none⟩)], .func (.func 97) #[] #[.pointer (some ⟨w1.heap.size, 0, none⟩)], .func (.func 98) #[] #[.pointer (some ⟨w1.heap.size, 0, none⟩)]] 113)) := by
    have h1 : Below w.heap.size w w1 := ⟨hb1.os, hb1.tape, hb1.output, hb1.size, hb1.block⟩
    exact (h1.trans (hb2.mono hb1.size)).alloc (Nat.le_trans hb1.size hb2.size) _
  generalize w2.alloc (.cells #[.func (.func 97) #[] #[.pointer (some ⟨w.heap.size, 0, none⟩)], .func (.func 98) #[] #[.pointer (some ⟨w.heap.size, 0, none⟩)], .func (.func 97) #[] #[.pointer (some ⟨w1.heap.size, 0, none⟩)], .func (.func 98) #[] #[.pointer (some ⟨w1.heap.size, 0, none⟩)]] 113) = w3 at hF hB ⊢
  generalize w2.heap.size = g at hF ⊢
  have hk3 : w3.cell? ⟨z, 0, none⟩ = some (.int .i64 kind) := (hB.cell (p := ⟨z, 0, none⟩) hz).trans hk
  generalize w1.heap.size = b2 at hF ⊢
  clear hW1 hW2 hb1 hb2 hk
  have hBs := hB.size
  by_cases h5 : kind = 1 ∨ kind = 2 ∨ kind = 3 ∨ kind = 4 ∨ kind = 5 ∨ kind = 9
  · rcases h5 with rfl | rfl | rfl | rfl | rfl | rfl
    all_goals
      go_wp2_with fail
      refine (bound_i64 ⟨z, 5, none⟩ w3).mono ?_
      rintro e w4 ⟨rfl, hW4, hb4⟩
      simp only [fieldV, FK.getFn, FK.setFn]
      have hF4 := hF.below hb4
      have hB4 : Below w.heap.size w w4 := hB.trans (hb4.mono hBs)
      have hBs4 := hB4.size
      have hO := Lib.hid (hF4.1.alloc (.cells #[.func (.func 99) #[] #[.pointer (some ⟨w3.heap.size, 0, none⟩)], .func (.func 100) #[] #[.pointer (some ⟨w3.heap.size, 0, none⟩)]] 113))
      have hone := fcells_one [(FK.i64, w3.heap.size)]
      have hF4h := Lib.hid hF4
      clear hF hF4 hb4
      go_wp2_with (at_builtin; refine wpList_append_own_at _ rfl _ _ 108 rfl w.heap.size 113 i0 (.agg #[.nilFunc, .nilFunc]) 2 16 Tryd.underlying108 hi hz0 hz1 hz2 rfl (by decide) _ _ _ rfl hO.out ⟨w4.heap.size, 0, none⟩ 1 1 (fcells [(FK.i64, w3.heap.size)]) rfl rfl (cells_new w4 #[.func (.func 99) #[] #[.pointer (some ⟨w3.heap.size, 0, none⟩)], .func (.func 100) #[] #[.pointer (some ⟨w3.heap.size, 0, none⟩)]] 113) hone (show 2 + 1 ≤ maxLen by decide) (show (2 + 1) * 16 ≤ 140737488355328 by decide) (by simp; omega) ?_; intro v' w5 hown' hgrow _ _)
      have hgr : (w4.alloc (.cells #[.func (.func 99) #[] #[.pointer (some ⟨w3.heap.size, 0, none⟩)], .func (.func 100) #[] #[.pointer (some ⟨w3.heap.size, 0, none⟩)]] 113)).grownBy w5 (some g) := hgrow
      have hBl := (Below.refl _ w4).alloc (Nat.le_refl _) (.cells #[.func (.func 99) #[] #[.pointer (some ⟨w3.heap.size, 0, none⟩)], .func (.func 100) #[] #[.pointer (some ⟨w3.heap.size, 0, none⟩)]] 113)
      have hF5 := (hF4h.out.below hBl).app (new := [⟨.i64, w3.heap.size, 5⟩]) (fun f hf => by
        rw [List.mem_singleton.1 hf]
        exact ⟨hBs, hW4.alloc _⟩) hgr hown'
      have hB5 := (hB4.alloc hBs4 (.cells #[.func (.func 99) #[] #[.pointer (some ⟨w3.heap.size, 0, none⟩)], .func (.func 100) #[] #[.pointer (some ⟨w3.heap.size, 0, none⟩)]] 113)).grown hgr (by simp; omega) (fun j e => (hO.out.lt j e).1)
      refine bodyPost_ret (v := .tuple #[v', .bool _]) (by simp [results, Tryd.results45, go_sem]; rfl) rfl ⟨v', _, rfl, hF5, rfl, hB5⟩
  by_cases h6 : kind = 6
  · subst h6
    go_wp2_with fail
    exact bodyPost_ret (v := .tuple #[.slice (some ⟨g, 0, none⟩) 2 2, .bool true]) (by simp [results, Tryd.results45, go_sem]) rfl ⟨_, _, rfl, hF, rfl, hB⟩
  by_cases h7 : kind = 7
  · subst h7
    go_wp2_with fail
    go_region_held3 (fun w' => True) (trivial)
      (first
        | (go_at_call 70; refine (bound_int ⟨z, 4, none⟩ w3.drew).mono ?_; rintro e w4 ⟨rfl, hW4, hb4⟩; simp only [fieldV, FK.getFn, FK.setFn])
        | (go_at_call 71; refine (bound_i64 ⟨z, 5, none⟩ w4).mono ?_; rintro e w5 ⟨rfl, hW5, hb5⟩; simp only [fieldV, FK.getFn, FK.setFn]
           have hFl := (hF.below (below_undrew hb4)).below hb5
           have hBl := Nat.le_trans (Nat.le_trans (Nat.le_trans hBs hb4.size) hb5.size) (World.alloc_le w5 (.cells #[.func (.func 97) #[] #[.pointer (some ⟨w3.heap.size, 0, none⟩)], .func (.func 98) #[] #[.pointer (some ⟨w3.heap.size, 0, none⟩)], .func (.func 99) #[] #[.pointer (some ⟨w4.heap.size, 0, none⟩)], .func (.func 100) #[] #[.pointer (some ⟨w4.heap.size, 0, none⟩)]] 113)))
        | (refine step_append_lies _ rfl _ _ 108 rfl w.heap.size 113 i0 (.agg #[.nilFunc, .nilFunc]) 2 16 Tryd.underlying108 hi hz0 hz1 hz2 rfl (by decide) _ _ _ rfl (hFl.1.alloc _) ⟨w5.heap.size, 0, none⟩ 2 2 (fcells [(FK.int, w3.heap.size), (FK.i64, w4.heap.size)]) rfl rfl (cells_new w5 #[.func (.func 97) #[] #[.pointer (some ⟨w3.heap.size, 0, none⟩)], .func (.func 98) #[] #[.pointer (some ⟨w3.heap.size, 0, none⟩)], .func (.func 99) #[] #[.pointer (some ⟨w4.heap.size, 0, none⟩)], .func (.func 100) #[] #[.pointer (some ⟨w4.heap.size, 0, none⟩)]] 113) (fcells_one _) (by decide) (show 4 ≤ maxLen by decide) (show (4) * 16 ≤ 140737488355328 by decide) hBl _ rfl ?_; intro g2 cap vv hown' hgrow hat3 hlt3))
    have hgr : (w5.alloc (.cells #[.func (.func 97) #[] #[.pointer (some ⟨w3.heap.size, 0, none⟩)], .func (.func 98) #[] #[.pointer (some ⟨w3.heap.size, 0, none⟩)], .func (.func 99) #[] #[.pointer (some ⟨w4.heap.size, 0, none⟩)], .func (.func 100) #[] #[.pointer (some ⟨w4.heap.size, 0, none⟩)]] 113)).grownBy vv (some g) := hgrow
    have hBa := (Below.refl _ w5).alloc (Nat.le_refl _) (.cells #[.func (.func 97) #[] #[.pointer (some ⟨w3.heap.size, 0, none⟩)], .func (.func 98) #[] #[.pointer (some ⟨w3.heap.size, 0, none⟩)], .func (.func 99) #[] #[.pointer (some ⟨w4.heap.size, 0, none⟩)], .func (.func 100) #[] #[.pointer (some ⟨w4.heap.size, 0, none⟩)]] 113)
    have hb45 := (below_undrew hb4).trans (hb5.mono hb4.size)
    have hB5 : Below w.heap.size w w5 := hB.trans (hb45.mono hBs)
    have hFa := (hFl.below hBa).app (new := [⟨.int, w3.heap.size, 4⟩, ⟨.i64, w4.heap.size, 5⟩]) (fun f hf => by
      simp only [List.mem_cons, List.not_mem_nil, or_false] at hf
      rcases hf with rfl | rfl
      · exact ⟨hBs, (hW4.below hb5 hW4.lt).alloc _⟩
      · exact ⟨Nat.le_trans hBs hb4.size, hW5.alloc _⟩) hgr hown'
    have hBv := (hB5.alloc hB5.size (.cells #[.func (.func 97) #[] #[.pointer (some ⟨w3.heap.size, 0, none⟩)], .func (.func 98) #[] #[.pointer (some ⟨w3.heap.size, 0, none⟩)], .func (.func 99) #[] #[.pointer (some ⟨w4.heap.size, 0, none⟩)], .func (.func 100) #[] #[.pointer (some ⟨w4.heap.size, 0, none⟩)]] 113)).grown hgr (by have := hB5.size; simp; omega) (fun j e => (hFl.1.lt j e).1)
    go_wp2_with fail
    exact bodyPost_ret (v := .tuple #[.slice (some ⟨g2, 0, none⟩) 4 cap, .bool true]) (by simp [results, Tryd.results45, go_sem]) rfl ⟨_, _, rfl, hFa, rfl, hBv⟩
  by_cases h8 : kind = 8
  · subst h8
    go_wp2_with fail
    go_region_held3 (fun w' => True) (trivial)
      (first
        | (go_at_call 70; refine (bound_int ⟨z, 7, none⟩ w3.drew).mono ?_; rintro e w4 ⟨rfl, hW4, hb4⟩; simp only [fieldV, FK.getFn, FK.setFn])
        | (go_at_call 70; refine (bound_int ⟨z, 8, none⟩ w4).mono ?_; rintro e w5 ⟨rfl, hW5, hb5⟩; simp only [fieldV, FK.getFn, FK.setFn])
        | (go_at_call 72; refine (yes_any ⟨z, 9, none⟩ w5).mono ?_; rintro e w6 ⟨rfl, hW6, hb6⟩; simp only [fieldV, FK.getFn, FK.setFn]
           have hFl := ((hF.below (below_undrew hb4)).below hb5).below hb6
           have hBl := Nat.le_trans (Nat.le_trans (Nat.le_trans (Nat.le_trans hBs hb4.size) hb5.size) hb6.size) (World.alloc_le w6 (.cells #[.func (.func 97) #[] #[.pointer (some ⟨w3.heap.size, 0, none⟩)], .func (.func 98) #[] #[.pointer (some ⟨w3.heap.size, 0, none⟩)], .func (.func 97) #[] #[.pointer (some ⟨w4.heap.size, 0, none⟩)], .func (.func 98) #[] #[.pointer (some ⟨w4.heap.size, 0, none⟩)], .func (.func 101) #[] #[.pointer (some ⟨w5.heap.size, 0, none⟩)], .func (.func 102) #[] #[.pointer (some ⟨w5.heap.size, 0, none⟩)]] 113)))
        | (refine step_append_lies _ rfl _ _ 108 rfl w.heap.size 113 i0 (.agg #[.nilFunc, .nilFunc]) 2 16 Tryd.underlying108 hi hz0 hz1 hz2 rfl (by decide) _ _ _ rfl (hFl.1.alloc _) ⟨w6.heap.size, 0, none⟩ 3 3 (fcells [(FK.int, w3.heap.size), (FK.int, w4.heap.size), (FK.yes, w5.heap.size)]) rfl rfl (cells_new w6 #[.func (.func 97) #[] #[.pointer (some ⟨w3.heap.size, 0, none⟩)], .func (.func 98) #[] #[.pointer (some ⟨w3.heap.size, 0, none⟩)], .func (.func 97) #[] #[.pointer (some ⟨w4.heap.size, 0, none⟩)], .func (.func 98) #[] #[.pointer (some ⟨w4.heap.size, 0, none⟩)], .func (.func 101) #[] #[.pointer (some ⟨w5.heap.size, 0, none⟩)], .func (.func 102) #[] #[.pointer (some ⟨w5.heap.size, 0, none⟩)]] 113) (fcells_one _) (by decide) (show 5 ≤ maxLen by decide) (show (5) * 16 ≤ 140737488355328 by decide) hBl _ rfl ?_; intro g2 cap vv hown' hgrow hat3 hlt3))
    have hgr : (w6.alloc (.cells #[.func (.func 97) #[] #[.pointer (some ⟨w3.heap.size, 0, none⟩)], .func (.func 98) #[] #[.pointer (some ⟨w3.heap.size, 0, none⟩)], .func (.func 97) #[] #[.pointer (some ⟨w4.heap.size, 0, none⟩)], .func (.func 98) #[] #[.pointer (some ⟨w4.heap.size, 0, none⟩)], .func (.func 101) #[] #[.pointer (some ⟨w5.heap.size, 0, none⟩)], .func (.func 102) #[] #[.pointer (some ⟨w5.heap.size, 0, none⟩)]] 113)).grownBy vv (some g) := hgrow
    have hBa := (Below.refl _ w6).alloc (Nat.le_refl _) (.cells #[.func (.func 97) #[] #[.pointer (some ⟨w3.heap.size, 0, none⟩)], .func (.func 98) #[] #[.pointer (some ⟨w3.heap.size, 0, none⟩)], .func (.func 97) #[] #[.pointer (some ⟨w4.heap.size, 0, none⟩)], .func (.func 98) #[] #[.pointer (some ⟨w4.heap.size, 0, none⟩)], .func (.func 101) #[] #[.pointer (some ⟨w5.heap.size, 0, none⟩)], .func (.func 102) #[] #[.pointer (some ⟨w5.heap.size, 0, none⟩)]] 113)
    have hb45 := (below_undrew hb4).trans (hb5.mono hb4.size)
    have hb46 := hb45.trans (hb6.mono hb45.size)
    have hB6 : Below w.heap.size w w6 := hB.trans (hb46.mono hBs)
    have hFa := (hFl.below hBa).app (new := [⟨.int, w3.heap.size, 7⟩, ⟨.int, w4.heap.size, 8⟩, ⟨.yes, w5.heap.size, 9⟩]) (fun f hf => by
      simp only [List.mem_cons, List.not_mem_nil, or_false] at hf
      rcases hf with rfl | rfl | rfl
      · have h5 := hW4.below hb5 hW4.lt
        exact ⟨hBs, (h5.below hb6 h5.lt).alloc _⟩
      · exact ⟨Nat.le_trans hBs hb4.size, (hW5.below hb6 hW5.lt).alloc _⟩
      · exact ⟨Nat.le_trans (Nat.le_trans hBs hb4.size) hb5.size, hW6.alloc _⟩) hgr hown'
    have hBv := (hB6.alloc hB6.size (.cells #[.func (.func 97) #[] #[.pointer (some ⟨w3.heap.size, 0, none⟩)], .func (.func 98) #[] #[.pointer (some ⟨w3.heap.size, 0, none⟩)], .func (.func 97) #[] #[.pointer (some ⟨w4.heap.size, 0, none⟩)], .func (.func 98) #[] #[.pointer (some ⟨w4.heap.size, 0, none⟩)], .func (.func 101) #[] #[.pointer (some ⟨w5.heap.size, 0, none⟩)], .func (.func 102) #[] #[.pointer (some ⟨w5.heap.size, 0, none⟩)]] 113)).grown hgr (by have := hB6.size; simp; omega) (fun j e => (hFl.1.lt j e).1)
    go_wp2_with fail
    exact bodyPost_ret (v := .tuple #[.slice (some ⟨g2, 0, none⟩) 5 cap, .bool false]) (by simp [results, Tryd.results45, go_sem]) rfl ⟨_, _, rfl, hFa, rfl, hBv⟩
  by_cases h10 : kind = 10
  · subst h10
    go_wp2_with fail
    exact bodyPost_ret (v := .tuple #[.slice (some ⟨g, 0, none⟩) 1 2, .bool false]) (by simp [results, Tryd.results45, go_sem]) rfl ⟨_, [⟨.int, w.heap.size, 1⟩], rfl, hF.first, rfl, hB⟩
  by_cases h13 : kind = 13 ∨ kind = 14
  · rcases h13 with rfl | rfl
    all_goals
      go_wp2_with fail
      refine (bound_i64 ⟨z, 10, none⟩ w3).mono ?_
      rintro e w4 ⟨rfl, hW4, hb4⟩
      simp only [fieldV, FK.getFn, FK.setFn]
      have hB4 : Below w.heap.size w w4 := hB.trans (hb4.mono hBs)
      have hM := Flds.made w4 w.heap.size z [⟨.i64, w3.heap.size, 10⟩] hB4.size (by simp) #[.func (.func 99) #[] #[.pointer (some ⟨w3.heap.size, 0, none⟩)], .func (.func 100) #[] #[.pointer (some ⟨w3.heap.size, 0, none⟩)]] rfl (fun f hf => by
        rw [List.mem_singleton.1 hf]
        exact ⟨hBs, hW4⟩)
      go_wp2_with fail
      exact bodyPost_ret (v := .tuple #[.slice (some ⟨w4.heap.size, 0, none⟩) 1 1, .bool false]) (by simp [results, Tryd.results45, go_sem]) rfl ⟨_, _, rfl, hM, rfl, hB4.alloc hB4.size _⟩
  · have n1 : (kind == 1) = false := by simp; omega
    have n2 : (kind == 2) = false := by simp; omega
    have n3 : (kind == 3) = false := by simp; omega
    have n4 : (kind == 4) = false := by simp; omega
    have n5 : (kind == 5) = false := by simp; omega
    have n6 : (kind == 6) = false := by simp; omega
    have n7 : (kind == 7) = false := by simp; omega
    have n8 : (kind == 8) = false := by simp; omega
    have n9 : (kind == 9) = false := by simp; omega
    have n10 : (kind == 10) = false := by simp; omega
    have n13 : (kind == 13) = false := by simp; omega
    have n14 : (kind == 14) = false := by simp; omega
    have hfo : fieldsOf kind = ([], false) := by
      unfold fieldsOf
      rw [if_neg (by omega), if_neg (by omega), if_neg (by omega), if_neg (by omega), if_neg (by omega), if_neg (by omega), if_neg (by omega)]
    go_wp2_with fail
    rw [hfo]
    exact bodyPost_ret (v := .tuple #[.slice none 0 0, .bool false]) (by simp [results, Tryd.results45, go_sem]) rfl ⟨_, [], rfl, ⟨World.ownsRow_nil _ _ _ _, fun _ h => by cases h⟩, rfl, hB⟩
end Go.Proofs.YtdmopagkahgepaaDoor
