/- lombardlaw21.great. -/
import Derived.Test.YtdmopagkahgepaaDoorTn
namespace Go.Proofs.YtdmopagkahgepaaDoor
open Go.RowKit Go.Maps Go.ChangeMaps Go.ChangeShapes

/-- A slice of slices of lines that reads as xss, anywhere. -/
def Src2 (w : World) (A : Option Addr) (n : Nat) (xss : List (List (Int × Int))) : Prop :=
  xss.length = n ∧ ∀ i, i < n → ∃ g o Ai c, A = some ⟨g, o, none⟩ ∧ g < w.heap.size ∧ w.cell? ⟨g, o + i, none⟩ = some (.slice Ai (xss[i]?.getD []).length c) ∧ SrcAt w Ai (xss[i]?.getD []).length (xss[i]?.getD [])
theorem Src2.below {w w' : World} {A : Option Addr} {n : Nat} {xss : List (List (Int × Int))} (h : Src2 w A n xss) (hb : Below w.heap.size w w') : Src2 w' A n xss :=
  ⟨h.1, fun i hi => by
    obtain ⟨g, o, Ai, c, e, hg, c0, hs⟩ := h.2 i hi
    exact ⟨g, o, Ai, c, e, Nat.lt_of_lt_of_le hg hb.size, (hb.cell (p := ⟨g, _, none⟩) hg).trans c0, hs.below hb⟩⟩

def greatB (xss : List (List (Int × Int))) : Bool := xss.any (fun x => decide (100 < x.length)) || decide (60 < xss.length)

set_option maxRecDepth 100000 in
theorem great_any (A : Option Addr) (n c : Nat) (xss : List (List (Int × Int))) (w : World) (h : Src2 w A n xss) (hn : n ≤ 9223372036854775807) :
    Calls Tryd.prog 9 #[.slice A n c] w fun e w' => e = .returned (.bool (greatB xss)) ∧ w' = w := by
  have HL := Lib.hid h.1
  go_enter Tryd.func9, Tryd.ntmps9
  go_wp2_with fail
  go_loopw [7] (fun i wr => ∃ j : Nat, j ≤ n ∧ i = .int .i64 j ∧ wr = w ∧ (xss.take j).any (fun x => decide (100 < x.length)) = false) (fun i _ => n - (RowKit.intOf i).toNat)
  case atStart => exact ⟨0, Nat.zero_le _, rfl, rfl, rfl⟩
  case round =>
    obtain ⟨j, hj, rfl, rfl, hno⟩ := hrel
    have HNO := Lib.hid hno
    clear hno
    by_cases hlt : j < n
    · obtain ⟨g, o, Ai, ci, rfl, hg, c0, hs⟩ := h.2 j hlt
      have hnx := take_next xss j (by rw [HL.out]; exact hlt) []
      generalize xss[j]?.getD [] = x at c0 hs hnx
      have HX := Lib.hid hnx
      clear hnx h hs
      by_cases hgt : 100 < x.length
      · have hgt' : (100 : Int) < (x.length : Int) := by omega
        go_wp2_with fail
        go_ret
        have hj1 : (xss.take (j + 1)).any (fun x => decide (100 < x.length)) = true := by rw [HX.out, List.any_append]; simp [hgt]
        have : greatB xss = true := by
          unfold greatB
          rw [Bool.or_eq_true]
          left
          rw [List.any_eq_true] at hj1 ⊢
          obtain ⟨y, hy, hp⟩ := hj1
          exact ⟨y, List.mem_of_mem_take hy, hp⟩
        exact ⟨by rw [this]; rfl, rfl⟩
      · have hgt' : ¬ (100 : Int) < (x.length : Int) := by omega
        go_wp2_with fail
        refine ⟨⟨j + 1, by omega, by go_num, trivial, by rw [HX.out, List.any_append, HNO.out]; simp [hgt]⟩, by simp [RowKit.intOf]; omega⟩
    · obtain rfl : j = n := by omega
      clear h
      go_wp2_with fail
      go_ret
      have hno := HNO.out
      rw [List.take_of_length_le (by rw [HL.out]; omega)] at hno
      have : greatB xss = decide ((60 : Int) < (j : Int)) := by
        unfold greatB
        rw [hno, Bool.false_or, HL.out]
        simp only [decide_eq_decide]
        omega
      exact ⟨by rw [this]; rfl, rfl⟩
end Go.Proofs.YtdmopagkahgepaaDoor
