/- slices.Equal on int64. -/
import Derived.Test.YtdmopagkahgepaaDoorUd
import Derived.Deep.RegionHeld3
namespace Go.Proofs.YtdmopagkahgepaaDoor
open Go.RowKit Go.Maps Go.ChangeMaps Go.ChangeShapes

/-- A slice of int64 that reads as xs, anywhere in a block. -/
def NumSrc (w : World) (v : Value) (xs : List Int) : Prop :=
  ∃ A c, v = .slice A xs.length c ∧ ∀ i, i < xs.length → ∃ g o, A = some ⟨g, o, none⟩ ∧ g < w.heap.size ∧ w.cell? ⟨g, o + i, none⟩ = some (.int .i64 (xs[i]?.getD 0))
theorem NumSrc.of_at {w : World} {v : Value} {xs : List Int} (h : NumsAt w v xs) : NumSrc w v xs := by
  obtain ⟨A, c, e, h⟩ := h
  refine ⟨A, c, e, fun i hi => ?_⟩
  obtain ⟨g, eg, hg, c0⟩ := h i hi
  exact ⟨g, 0, eg, hg, by rw [Nat.zero_add]; exact c0⟩
theorem NumSrc.below {w w' : World} {v : Value} {xs : List Int} (h : NumSrc w v xs) (hb : Below w.heap.size w w') : NumSrc w' v xs := by
  obtain ⟨A, c, e, h⟩ := h
  refine ⟨A, c, e, fun i hi => ?_⟩
  obtain ⟨g, o, eg, hg, c0⟩ := h i hi
  exact ⟨g, o, eg, Nat.lt_of_lt_of_le hg hb.size, (hb.cell (p := ⟨g, _, none⟩) hg).trans c0⟩

set_option maxRecDepth 100000 in
theorem equal_any (u v : Value) (xs ys : List Int) (w : World) (hu : NumSrc w u xs) (hv : NumSrc w v ys) (hn : xs.length ≤ 9000) (_hm : ys.length ≤ 9000) :
    Calls Tryd.prog 73 #[u, v] w fun e w' => e = .returned (.bool (xs == ys)) ∧ Below w.heap.size w w' := by
  obtain ⟨A, c, rfl, hx⟩ := hu
  obtain ⟨B, d, rfl, hy⟩ := hv
  by_cases hl : xs.length = ys.length
  · go_enter Tryd.func73, Tryd.ntmps73
    have hl' : ((xs.length : Int) == (ys.length : Int)) = true := by simp [hl]
    go_wp2_with fail
    go_loopw [13] (fun i wr => ∃ j : Nat, j ≤ xs.length ∧ i = .int .i64 j ∧ Below w.heap.size w wr ∧ xs.take j = ys.take j) (fun i _ => xs.length - (RowKit.intOf i).toNat)
    case atStart => exact ⟨0, Nat.zero_le _, rfl, Below.refl _ _, rfl⟩
    case round =>
      obtain ⟨j, hj, rfl, hB, he⟩ := hrel
      by_cases hlt : j < xs.length
      · obtain ⟨g, o, rfl, hg, c0⟩ := hx j hlt
        obtain ⟨g2, o2, rfl, hg2, d0⟩ := hy j (by omega)
        rw [← hB.cell (p := ⟨g, _, none⟩) hg] at c0
        rw [← hB.cell (p := ⟨g2, _, none⟩) hg2] at d0
        have hnx := take_next xs j hlt 0
        have hny := take_next ys j (by omega) 0
        generalize xs[j]?.getD 0 = x at c0 hnx
        generalize ys[j]?.getD 0 = y at d0 hny
        have hj0 : (0 : Int) ≤ (j : Int) := by omega
        have hjl : (j : Int) < (xs.length : Int) := by omega
        have hjm : (j : Int) < (ys.length : Int) := by omega
        have HX := Lib.hid hnx
        have HY := Lib.hid hny
        have HE := Lib.hid he
        have hBd : Below w.heap.size w wr.drew := hB.drew
        clear hnx hny he hx hy
        go_wp2_with fail
        go_region_held3 (fun w' => w'.cell? ⟨g, o + j, none⟩ = some (.int .i64 x) ∧ w'.cell? ⟨g2, o2 + j, none⟩ = some (.int .i64 y)) (exact ⟨c0, d0⟩) (fail)
        by_cases hxy : x = y
        · have hb : (x != y) = false := by simp [hxy]
          go_wp2_with fail
          exact ⟨⟨j + 1, by omega, by go_num, hBd, by rw [HX.out, HY.out, HE.out, hxy]⟩, by simp [RowKit.intOf]; omega⟩
        · have hb : (x != y) = true := by simp [hxy]
          go_wp2_with fail
          go_ret
          have hne : (xs == ys) = false := by
            rw [beq_eq_false_iff_ne]
            intro e
            have h1 := HX.out
            rw [e, HY.out] at h1
            have h2 := List.append_inj_right' h1 rfl
            simp only [List.cons.injEq, and_true] at h2
            exact hxy h2.symm
          exact ⟨by rw [hne]; rfl, hBd⟩
      · obtain rfl : j = xs.length := by omega
        have hne : (xs == ys) = true := by
          rw [beq_iff_eq]
          rw [List.take_of_length_le (Nat.le_refl _), List.take_of_length_le (by omega)] at he
          exact he
        have HNE := Lib.hid hne
        clear hne he hx hy
        go_wp2_with fail
        go_ret
        exact ⟨by rw [HNE.out]; rfl, hB⟩
  · have hne : (xs == ys) = false := by
      rw [beq_eq_false_iff_ne]
      exact fun e => hl (by rw [e])
    have hl' : ((xs.length : Int) == (ys.length : Int)) = false := by simp; omega
    have HNE := Lib.hid hne
    clear hne hx hy
    go_enter Tryd.func73, Tryd.ntmps73
    go_wp2_with fail
    go_ret
    exact ⟨by rw [HNE.out]; rfl, Below.refl _ _⟩
end Go.Proofs.YtdmopagkahgepaaDoor
