/- strings.Join, of two words or more, with a blank between each two. -/
import Derived.Test.YtdmopagkahgepaaDoorUr
import Derived.Test.YtdmopagkahgepaaDoorVb
namespace Go.Proofs.YtdmopagkahgepaaDoor
open Go.RowKit Go.Maps Go.ChangeMaps Go.ChangeShapes

/-- All bytes of strings. -/
def sizeAll (ws : List ByteArray) : Nat := (ws.map (·.size)).sum
theorem sizeAll_take (ws : List ByteArray) (k : Nat) (h : k < ws.length) : sizeAll (ws.take (k + 1)) = sizeAll (ws.take k) + (ws.getD k ByteArray.empty).size := by
  rw [take_next ws k h ByteArray.empty]
  simp [sizeAll]
theorem sizeAll_le : ∀ (ws : List ByteArray) (k : Nat), sizeAll (ws.take k) ≤ sizeAll ws
  | [], k => by simp [sizeAll]
  | w :: ws, 0 => by simp [sizeAll]
  | w :: ws, k + 1 => by
    have := sizeAll_le ws k
    simp only [sizeAll, List.take_succ_cons, List.map_cons, List.sum_cons] at this ⊢
    omega
/-- What has been written of words: the first, then each behind a blank. -/
def joined (ws : List ByteArray) (k : Nat) : List UInt8 := (ws.getD 0 ByteArray.empty).data.toList ++ ((ws.drop 1).take k).flatMap fun x => 32 :: x.data.toList
theorem joined_next (ws : List ByteArray) (k : Nat) (h : k + 1 < ws.length) : joined ws (k + 1) = joined ws k ++ [32] ++ (ws.getD (1 + k) ByteArray.empty).data.toList := by
  unfold joined
  rw [take_next (ws.drop 1) k (by rw [List.length_drop]; omega) ByteArray.empty, List.getElem?_drop]
  simp
theorem joined_size : ∀ (ws : List ByteArray) (k : Nat), (joined ws k).length ≤ sizeAll ws + k
  | [], k => by simp [joined]
  | w :: ws, k => by
    unfold joined
    have h : ∀ (xs : List ByteArray) (k : Nat), ((xs.take k).flatMap fun x => 32 :: x.data.toList).length ≤ sizeAll xs + k := by
      intro xs
      induction xs with
      | nil => intro k; simp
      | cons x xs ih =>
        intro k
        cases k with
        | zero => simp
        | succ k =>
          have := ih k
          simp only [List.take_succ_cons, List.flatMap_cons, List.length_append, List.length_cons, sizeAll, List.map_cons, List.sum_cons, Array.length_toList, ByteArray.size_data] at this ⊢
          omega
    have := h ws k
    simp only [List.drop_succ_cons, List.drop_zero, List.length_append, sizeAll, List.map_cons, List.sum_cons, List.getD_cons_zero, Array.length_toList, ByteArray.size_data] at this ⊢
    omega
/-- Strings in a block, from its head on. -/
def StrsAt (w : World) (g : Nat) (ws : List ByteArray) : Prop := g < w.heap.size ∧ ∀ i, i < ws.length → w.cell? ⟨g, i, none⟩ = some (.string (ws.getD i ByteArray.empty))
theorem StrsAt.below {w w' : World} {g : Nat} {ws : List ByteArray} {B : Nat} (h : StrsAt w g ws) (hb : Below B w w') (hg : g < B) : StrsAt w' g ws :=
  ⟨Nat.lt_of_lt_of_le h.1 hb.size, fun i hi => (hb.cell (p := ⟨g, i, none⟩) hg).trans (h.2 i hi)⟩

set_option maxRecDepth 100000 in
set_option maxHeartbeats 2000000 in
theorem join_any (g cap m : Nat) (ws : List ByteArray) (w : World) (h : StrsAt w g ws) (hm : ws.length = m + 1) (h2 : 1 ≤ m) (hn : m ≤ 20000) (hcap : m + 1 ≤ cap) (hs : sizeAll ws ≤ 10000000) (_h1 : 0 < m + sizeAll ws) :
    Calls Tryd.prog 26 #[.slice (some ⟨g, 0, none⟩) (m + 1) cap, .string ⟨#[32]⟩] w fun e w' => e = .returned (.string ⟨(joined ws m).toArray⟩) ∧ Below w.heap.size w w' := by
  have n0 : (((m + 1 : Nat) : Int) == 0) = false := beq_eq_false_iff_ne.2 (by omega)
  have n1 : (((m + 1 : Nat) : Int) == 1) = false := beq_eq_false_iff_ne.2 (by omega)
  have n0' : ((m : Int) + 1 == 0) = false := beq_eq_false_iff_ne.2 (by omega)
  have n1' : ((m : Int) + 1 == 1) = false := beq_eq_false_iff_ne.2 (by omega)
  have n2' : ((m : Int) == 0) = false := beq_eq_false_iff_ne.2 (by omega)
  have hi1 : (1 : Int) ≤ (m : Int) := by omega
  have hq : (1 : Int) < 9223372036854775807 / (m : Int) := by
    have := (Int.le_ediv_iff_mul_le (a := 2) (b := 9223372036854775807) (c := (m : Int)) (by omega)).2 (by omega)
    omega
  have hsl : ∀ w' : World, (Instr.slice 66 (.slice (some ⟨g, 0, none⟩) (m + 1) cap) (some (.int .i64 1)) none none).run Tryd.prog w' = .ok (.slice (some ⟨g, 1, none⟩) m (cap - 1)) w' := by
    intro w'
    simp [Instr.slice, Instr.sliceBounds, Instr.sliceBound, asIntOf, go_sem]
    rw [if_pos (by omega), if_neg (by omega)]
  have HS := Lib.hid h.2
  have HM := Lib.hid hm
  have hg := h.1
  clear h hm
  go_enter Tryd.func26, Tryd.ntmps26
  go_wp2_with fail
  clear hq
  go_loop [5, 41] (fun n i => ∃ k : Nat, k ≤ m + 1 ∧ i = .int .i64 k ∧ n = .int .i64 ((m : Int) + (sizeAll (ws.take k) : Nat))) (fun _ i => m + 1 - (RowKit.intOf i).toNat)
  case atStart =>
    exact ⟨0, Nat.zero_le _, rfl, by simp [sizeAll]⟩
  case round =>
    obtain ⟨k, hk, rfl, rfl⟩ := hrel
    have hle := sizeAll_le ws k
    by_cases hlt : k < m + 1
    · have c0 := HS.out k (by rw [HM.out]; exact hlt)
      have hnx := sizeAll_take ws k (by rw [HM.out]; exact hlt)
      have hle2 := sizeAll_le ws (k + 1)
      have HNX := Lib.hid hnx
      have hk0 : (0 : Int) ≤ (k : Int) := by omega
      have hkl : (k : Int) < ((m + 1 : Nat) : Int) := by omega
      rw [hnx] at hle2
      clear hnx
      generalize ws.getD k ByteArray.empty = x at c0 HNX hle2
      generalize sizeAll (ws.take k) = a at hle hle2 HNX ⊢
      go_wp2_with fail
      go_round
      case rel => exact ⟨k + 1, by omega, by go_num, by rw [HNX.out]; congr 1; omega⟩
      case measure => simp [RowKit.intOf]; omega
    · obtain rfl : k = m + 1 := by omega
      rw [List.take_of_length_le (by rw [HM.out]; exact Nat.le_refl _)]
      clear hle hlt
      generalize hsa : sizeAll ws = a at hs _h1 ⊢
      have HSA := Lib.hid hsa
      clear hsa
      have hcast : ((m : Int) + (a : Int)) = ((m + a : Nat) : Int) := by omega
      rw [hcast]
      have hd := Whole.new w 118 #[.pointer none, .slice none 0 0]
      have hB1 := (Below.refl _ w).alloc (Nat.le_refl _) (.cells #[.pointer none, .slice none 0 0] 118)
      have HD := Lib.hid hd
      have HB1 := Lib.hid hB1
      clear hd hB1 hcast
      go_wp2_with fail
      generalize w.alloc (.cells #[.pointer none, .slice none 0 0] 118) = w1 at HD HB1 ⊢
      refine (grow_new w.heap.size w.heap.size (m + a) w1 (Nat.le_refl _) HD.out HB1.out.size (by omega) (by omega)).mono ?_
      rintro e w2 ⟨rfl, hbl, hb2⟩
      have hlow2 := HB1.out.trans hb2
      have hS2 : StrsAt w2 g ws := (show StrsAt w g ws from ⟨hg, HS.out⟩).below hlow2 hg
      have c0 := hS2.2 0 (by rw [HM.out]; omega)
      have hj := joined_size ws 0
      rw [HSA.out] at hj
      have hz0 : (ws.getD 0 ByteArray.empty).size ≤ a := by
        have h1 : (joined ws 0).length = (ws.getD 0 ByteArray.empty).size := by simp [joined, ByteArray.size_data]
        omega
      have HS2 := Lib.hid hS2
      have HBL := Lib.hid hbl
      have HL2 := Lib.hid hlow2
      have HJ0 := Lib.hid (show joined ws 0 = (ws.getD 0 ByteArray.empty).data.toList by simp [joined])
      clear hS2 hbl hlow2 hb2 HD HB1 hj
      generalize ws.getD 0 ByteArray.empty = x0 at c0 hz0 HJ0
      go_wp2_with fail
      refine (put_str w.heap.size w.heap.size [] x0 w2 HBL.out (by simp; omega) HL2.out.size).mono ?_
      rintro e w3 ⟨rfl, hW⟩
      have hl3 := HL2.out.trans hW.2.1
      have hbl3 : Lib.IsBuilder 118 5 w.heap.size w.heap.size (Lib.byteCells (joined ws 0)) w3 := by
        rw [HJ0.out]
        exact .inr hW.1
      have HL3 := Lib.hid hl3
      have HBL3 := Lib.hid hbl3
      clear hW hl3 hbl3 c0
      go_wp2_with fail
      go_loopw [65] (fun i wr => ∃ k : Nat, k ≤ m ∧ i = .int .i64 k ∧ Below w.heap.size w wr ∧ Lib.IsBuilder 118 5 w.heap.size w.heap.size (Lib.byteCells (joined ws k)) wr) (fun i _ => m - (RowKit.intOf i).toNat)
      case atStart => exact ⟨0, Nat.zero_le _, rfl, HL3.out, HBL3.out⟩
      case round =>
        obtain ⟨k, hk, rfl, hBr, hbr⟩ := hrel
        have hjs := joined_size ws k
        rw [HSA.out] at hjs
        by_cases hlt : k < m
        · have hSr := (show StrsAt w g ws from ⟨hg, HS.out⟩).below hBr hg
          have c1 : wr.cell? ⟨g, 1 + k, none⟩ = some (.string (ws.getD (1 + k) ByteArray.empty)) := hSr.2 (1 + k) (by rw [HM.out]; omega)
          have hnx := joined_next ws k (by rw [HM.out]; omega)
          have hjs2 := joined_size ws (k + 1)
          rw [HSA.out, hnx] at hjs2
          simp only [List.length_append, List.length_cons, List.length_nil, Array.length_toList, ByteArray.size_data] at hjs2
          generalize ws.getD (1 + k) ByteArray.empty = x at c1 hnx hjs2
          have hk0 : (0 : Int) ≤ (k : Int) := by omega
          have hkl : (k : Int) < (m : Int) := by omega
          have HNX := Lib.hid hnx
          have HBR := Lib.hid hBr
          have HBL := Lib.hid hbr
          clear hnx hBr hbr
          generalize joined ws k = pr at HBL HNX hjs hjs2
          go_wp2_with fail
          refine (put_str w.heap.size w.heap.size _ ⟨#[32]⟩ wr HBL.out (by rw [Lib.byteCells_length]; show _ + 1 ≤ _; omega) HBR.out.size).mono ?_
          rintro e w4 ⟨rfl, hW⟩
          have hl4 := HBR.out.trans hW.2.1
          have hb4 : Lib.IsBuilder 118 5 w.heap.size w.heap.size (Lib.byteCells (pr ++ [32])) w4 := by
            have e : Lib.byteCells pr ++ Lib.strCells ⟨#[32]⟩ = Lib.byteCells (pr ++ [32]) := by
              show Lib.byteCells pr ++ Lib.byteCells [32] = _
              simp [Lib.byteCells]
            rw [← e]
            exact .inr hW.1
          have HL4 := Lib.hid hl4
          have HB4 := Lib.hid hb4
          clear hW hl4 hb4 c1
          go_wp2_with fail
          refine (put_str w.heap.size w.heap.size _ x w4 HB4.out (by rw [Lib.byteCells_length, List.length_append]; show _ + 1 + _ ≤ _; omega) HL4.out.size).mono ?_
          rintro e w5 ⟨rfl, hW⟩
          have hb5 : Lib.IsBuilder 118 5 w.heap.size w.heap.size (Lib.byteCells (joined ws (k + 1))) w5 := by
            rw [HNX.out]
            have e : Lib.byteCells (pr ++ [32]) ++ Lib.strCells x = Lib.byteCells (pr ++ [32] ++ x.data.toList) := by
              show Lib.byteCells (pr ++ [32]) ++ Lib.byteCells x.data.toList = _
              simp [Lib.byteCells]
            rw [← e]
            exact .inr hW.1
          have HL5 := Lib.hid (HL4.out.trans hW.2.1)
          have HB5 := Lib.hid hb5
          clear hW hb5
          go_wp2_with fail
          exact ⟨⟨k + 1, by omega, by go_num, HL5.out, HB5.out⟩, by simp [RowKit.intOf]; omega⟩
        · obtain rfl : k = m := by omega
          have HBR := Lib.hid hBr
          have HBL := Lib.hid hbr
          clear hBr hbr hlt
          go_wp2_with fail
          refine (Tryd.Builder_String_any w.heap.size w.heap.size _ wr HBL.out HBR.out.size).mono ?_
          rintro e w6 ⟨rfl, hb6⟩
          go_wp2_with fail
          go_ret
          exact ⟨rfl, HBR.out.trans hb6⟩
end Go.Proofs.YtdmopagkahgepaaDoor
