/- lombardlaw17.To. -/
import Derived.Test.YtdmopagkahgepaaDoorTh
namespace Go.Proofs.YtdmopagkahgepaaDoor
open Go.RowKit Go.Maps Go.ChangeMaps Go.ChangeShapes

/-- A slice of lines that reads as xs, anywhere in a block. -/
def SrcAt (w : World) (A : Option Addr) (n : Nat) (xs : List (Int × Int)) : Prop :=
  xs.length = n ∧ ∀ i, i < n → ∃ g o, A = some ⟨g, o, none⟩ ∧ g < w.heap.size ∧ w.cell? ⟨g, o + i * 2, none⟩ = some (.int .i64 (xs[i]?.getD (0, 0)).1) ∧ w.cell? ⟨g, o + i * 2 + 1, none⟩ = some (.int .i64 (xs[i]?.getD (0, 0)).2)
theorem SrcAt.below {w w' : World} {A : Option Addr} {n : Nat} {xs : List (Int × Int)} (h : SrcAt w A n xs) (hb : Below w.heap.size w w') : SrcAt w' A n xs :=
  ⟨h.1, fun i hi => by
    obtain ⟨g, o, e, hg, c0, c1⟩ := h.2 i hi
    exact ⟨g, o, e, Nat.lt_of_lt_of_le hg hb.size, (hb.cell (p := ⟨g, _, none⟩) hg).trans c0, (hb.cell (p := ⟨g, _, none⟩) hg).trans c1⟩⟩
theorem SrcAt.keeps {w w' : World} {A : Option Addr} {n : Nat} {xs : List (Int × Int)} (h : SrcAt w A n xs) (hk : KeepsCells w w') : SrcAt w' A n xs :=
  ⟨h.1, fun i hi => by
    obtain ⟨g, o, e, hg, c0, c1⟩ := h.2 i hi
    exact ⟨g, o, e, Nat.lt_of_lt_of_le hg hk.size, hk.cell c0, hk.cell c1⟩⟩

set_option maxRecDepth 100000 in
theorem To_any (A : Option Addr) (n c : Nat) (xs : List (Int × Int)) (w : World) (hx : SrcAt w A n xs) (hn : n ≤ 1000) :
    Calls Tryd.prog 12 #[.slice A n c] w fun e w' => ∃ A' c', e = .returned (.slice A' n c') ∧ LinesAt w' A' n xs ∧ Below w.heap.size w w' := by
  obtain ⟨i5, hi5, hy0, hy1, hy2⟩ := info_parts info35'
  have HL := Lib.hid hx.1
  go_enter Tryd.func12, Tryd.ntmps12
  go_wp2_with fail
  go_loopw [3, 8] (fun o i wr => ∃ j : Nat, j ≤ n ∧ i = .int .i64 j ∧ Below w.heap.size w wr ∧ wr.ownsRow w.heap.size 35 2 o (xs.take j).length (flatL (xs.take j))) (fun _ i _ => n - (RowKit.intOf i).toNat)
  case atStart => exact ⟨0, Nat.zero_le _, rfl, Below.refl _ _, World.ownsRow_nil _ _ _ _⟩
  case round =>
    obtain ⟨j, hj, rfl, hB, hO⟩ := hrel
    by_cases hlt : j < n
    · obtain ⟨g, o, rfl, hg, c0, c1⟩ := hx.2 j hlt
      rw [← hB.cell (p := ⟨g, _, none⟩) hg] at c0 c1
      have hnx := take_next xs j (by rw [HL.out]; exact hlt) (0, 0)
      generalize xs[j]?.getD (0, 0) = x at c0 c1 hnx
      have HX := Lib.hid hnx
      have hlen : (xs.take j).length = j := by rw [List.length_take, HL.out]; omega
      have HLE := Lib.hid hlen
      clear hnx hx hlen
      have hBs := hB.size
      have hOa := hO.alloc (.cells #[.int .i64 x.1, .int .i64 x.2] 79)
      have hBa := hB.alloc hBs (.cells #[.int .i64 x.1, .int .i64 x.2] 79)
      have hlen : (xs.take j).length ≤ 1000 := by rw [HLE.out]; omega
      have hOb := hOa.alloc (.cells #[.int .i64 x.1, .int .i64 x.2] 35)
      have hBb := hBa.alloc hBa.size (.cells #[.int .i64 x.1, .int .i64 x.2] 35)
      have HBB := Lib.hid hBb
      have HOB := Lib.hid hOb
      clear hBb hBa hOa hOb
      go_wp2_with (at_builtin; refine wpList_append_own_at _ rfl _ _ 27 rfl w.heap.size 35 i5 (.agg #[.int .i64 0, .int .i64 0]) 2 16 Tryd.underlying27 hi5 hy0 hy1 hy2 rfl (by decide) _ _ _ rfl HOB.out ⟨wr.heap.size + 1, 0, none⟩ 1 1 [.int .i64 x.1, .int .i64 x.2] rfl rfl (by have h := cells_new (wr.alloc (.cells #[.int .i64 x.1, .int .i64 x.2] 79)) #[.int .i64 x.1, .int .i64 x.2] 35; simp only [World.size_alloc] at h; exact h) (ints_oneCell .i64 [x.1, x.2]) (by unfold maxLen; omega) (by omega) (by simp; omega) ?_; intro v' w1 hown' hgrow hnil hloc)
      refine ⟨⟨j + 1, by omega, by go_num, HBB.out.grown hgrow (by simp; omega) (fun i e => (hO.lt i e).1), ?_⟩, by simp [RowKit.intOf]; omega⟩
      rw [HX.out, flatL_snoc, List.length_append]
      exact hown'
    · obtain rfl : n = j := by omega
      have htk : xs.take n = xs := List.take_of_length_le (by rw [HL.out]; omega)
      rw [htk] at hO
      have HTK := Lib.hid htk
      clear htk hx
      go_wp2_with fail
      obtain ⟨A', c', rfl, hL⟩ := LinesAt.of_owns hO
      go_ret
      rw [HL.out] at hL ⊢
      exact ⟨A', c', rfl, hL, hB⟩
end Go.Proofs.YtdmopagkahgepaaDoor
