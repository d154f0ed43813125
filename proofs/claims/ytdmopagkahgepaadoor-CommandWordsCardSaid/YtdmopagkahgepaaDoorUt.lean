/- strings.ToUpper, of ASCII with a small letter in it. -/
import Derived.Test.YtdmopagkahgepaaDoorUr
import Derived.Test.YtdmopagkahgepaaDoorVd
namespace Go.Proofs.YtdmopagkahgepaaDoor
open Go.RowKit Go.Maps Go.ChangeMaps Go.ChangeShapes

/-- Is a byte a small letter? -/
def lowB (c : UInt8) : Bool := decide (97 ≤ c.toNat) && decide (c.toNat ≤ 122)
theorem upB_no {c : UInt8} (h : lowB c = false) : upB c = c := by
  unfold upB
  rw [if_neg]
  intro hc
  simp only [UInt8.le_iff_toNat_le] at hc
  unfold lowB at h
  have h1 : (97 : UInt8).toNat = 97 := rfl
  have h2 : (122 : UInt8).toNat = 122 := rfl
  rw [h1, h2] at hc
  simp [hc.1, hc.2] at h
theorem upB_yes {c : UInt8} (h : lowB c = true) : ((upB c).toNat : Int) = (c.toNat : Int) - 32 := by
  unfold lowB at h
  simp only [Bool.and_eq_true, decide_eq_true_eq] at h
  unfold upB
  rw [if_pos (by simp only [UInt8.le_iff_toNat_le]; exact h), UInt8.toNat_sub]
  have h3 : (32 : UInt8).toNat = 32 := rfl
  rw [h3]
  omega
theorem byte_take (s : ByteArray) (k : Nat) (h : k < s.size) : s.data.toList.take (k + 1) = s.data.toList.take k ++ [s[k]] := by
  rw [List.take_succ_eq_append_getElem (by simpa using h)]
  rfl
theorem any_next (s : ByteArray) (k : Nat) (h : k < s.size) : (s.data.toList.take (k + 1)).any lowB = ((s.data.toList.take k).any lowB || lowB s[k]) := by
  rw [byte_take s k h]
  simp
/-- A piece of a string: its bytes. -/
def seg (l : List UInt8) (p k : Nat) : List UInt8 := (l.drop p).take (k - p)
theorem seg_next (s : ByteArray) (p k : Nat) (hp : p ≤ k) (h : k < s.size) : seg s.data.toList p (k + 1) = seg s.data.toList p k ++ [s[k]] := by
  unfold seg
  rw [show k + 1 - p = k - p + 1 by omega]
  have hl : k - p < (s.data.toList.drop p).length := by
    rw [List.length_drop]
    have : s.data.toList.length = s.size := by simp [ByteArray.size_data]
    omega
  rw [List.take_succ_eq_append_getElem hl, List.getElem_drop]
  congr 2
  have e : p + (k - p) = k := by omega
  simp [e]
  rfl
theorem seg_join (l : List UInt8) (p k : Nat) (hp : p ≤ k) : l.take p ++ seg l p k = l.take k := by
  unfold seg
  rw [show k = p + (k - p) by omega, List.take_add, show p + (k - p) - p = k - p by omega]

set_option maxRecDepth 100000 in
set_option maxHeartbeats 2000000 in
theorem upper_any (s : ByteArray) (w : World) (hs : s.size ≤ 100000) (ha : ∀ c ∈ s.data.toList, c.toNat < 128) (hlow : s.data.toList.any lowB = true) :
    Calls Tryd.prog 25 #[.string s] w fun e w' => e = .returned (.string ⟨(s.data.toList.map upB).toArray⟩) ∧ Below w.heap.size w w' := by
  have HA := Lib.hid ha
  have HLOW := Lib.hid hlow
  have hlen : s.data.toList.length = s.size := by simp [ByteArray.size_data]
  have HLEN := Lib.hid hlen
  have hpos : 0 < s.size := by
    rcases Nat.eq_zero_or_pos s.size with h | h
    · have : s.data.toList = [] := List.length_eq_zero_iff.1 (hlen.trans h)
      rw [this] at hlow
      cases hlow
    · exact h
  clear ha hlow hlen
  go_enter Tryd.func25, Tryd.ntmps25
  go_wp2_with fail
  go_loop [3, 4, 5] (fun a b i => ∃ k : Nat, k ≤ s.size ∧ i = .int .i64 k ∧ a = .bool true ∧ b = .bool ((s.data.toList.take k).any lowB)) (fun _ _ i => s.size - (RowKit.intOf i).toNat)
  case atStart => exact ⟨0, Nat.zero_le _, rfl, rfl, by simp⟩
  case round =>
    obtain ⟨k, hk, rfl, rfl, rfl⟩ := hrel
    by_cases hlt : k < s.size
    · have hsn := any_next s k hlt
      have hc : s[k].toNat < 128 := HA.out _ (by
        have h1 : k < s.data.toList.length := by rw [HLEN.out]; exact hlt
        have h2 : s[k] = s.data.toList[k] := rfl
        rw [h2]
        exact List.getElem_mem h1)
      have hc' : ((s[k].toNat : Nat) : Int) < 128 := by omega
      have HSN := Lib.hid hsn
      clear hsn
      cases hb : (s.data.toList.take k).any lowB
      · have HB := Lib.hid hb
        clear hb
        by_cases h97 : 97 ≤ s[k].toNat
        · have g97 : (97 : Int) ≤ ((s[k].toNat : Nat) : Int) := by omega
          by_cases h122 : s[k].toNat ≤ 122
          · have g122 : ((s[k].toNat : Nat) : Int) ≤ 122 := by omega
            have hl : lowB s[k] = true := by unfold lowB; simp [h97, h122]
            have HL := Lib.hid hl
            clear hl
            go_wp2_with fail
            go_round
            case rel => exact ⟨k + 1, by omega, by go_num, rfl, by rw [HSN.out, HB.out, HL.out]; rfl⟩
            case measure => simp [RowKit.intOf]; omega
          · have g122 : ¬ ((s[k].toNat : Nat) : Int) ≤ 122 := by omega
            have hl : lowB s[k] = false := by unfold lowB; simp [h122]
            have HL := Lib.hid hl
            clear hl
            go_wp2_with fail
            go_round
            case rel => exact ⟨k + 1, by omega, by go_num, rfl, by rw [HSN.out, HB.out, HL.out]; rfl⟩
            case measure => simp [RowKit.intOf]; omega
        · have g97 : ¬ (97 : Int) ≤ ((s[k].toNat : Nat) : Int) := by omega
          have hl : lowB s[k] = false := by unfold lowB; simp [h97]
          have HL := Lib.hid hl
          clear hl
          go_wp2_with fail
          go_round
          case rel => exact ⟨k + 1, by omega, by go_num, rfl, by rw [HSN.out, HB.out, HL.out]; rfl⟩
          case measure => simp [RowKit.intOf]; omega
      · have HB := Lib.hid hb
        clear hb
        go_wp2_with fail
        go_round
        case rel => exact ⟨k + 1, by omega, by go_num, rfl, by rw [HSN.out, HB.out]; rfl⟩
        case measure => simp [RowKit.intOf]; omega
    · obtain rfl : k = s.size := by omega
      rw [List.take_of_length_le (by rw [HLEN.out]; exact Nat.le_refl _), HLOW.out]
      have hd := Whole.new w 118 #[.pointer none, .slice none 0 0]
      have hB1 := (Below.refl _ w).alloc (Nat.le_refl _) (.cells #[.pointer none, .slice none 0 0] 118)
      have HD := Lib.hid hd
      have HB1 := Lib.hid hB1
      clear hd hB1 hlt
      go_wp2_with fail
      generalize w.alloc (.cells #[.pointer none, .slice none 0 0] 118) = w1 at HD HB1 ⊢
      refine (grow_new w.heap.size w.heap.size s.size w1 (Nat.le_refl _) HD.out HB1.out.size hpos (by omega)).mono ?_
      rintro e w2 ⟨rfl, hbl, hb2⟩
      have HL2 := Lib.hid (HB1.out.trans hb2)
      have HBL := Lib.hid hbl
      clear hb2 hbl HD HB1
      go_wp2_with fail
      go_loopw [8, 9] (fun pv i wr => ∃ p k : Nat, k ≤ s.size ∧ p ≤ k ∧ i = .int .i64 k ∧ pv = .int .i64 p ∧ Below w.heap.size w wr ∧ Lib.IsBuilder 118 5 w.heap.size w.heap.size (Lib.byteCells ((s.data.toList.take p).map upB)) wr ∧ (seg s.data.toList p k).map upB = seg s.data.toList p k) (fun _ i _ => s.size - (RowKit.intOf i).toNat)
      case atStart => exact ⟨0, 0, Nat.zero_le _, Nat.le_refl _, rfl, rfl, HL2.out, by simpa [Lib.byteCells] using HBL.out, by simp [seg]⟩
      case round =>
        obtain ⟨p, k, hk, hp, rfl, rfl, hBr, hbr, hseg⟩ := hrel
        have hml : ((s.data.toList.take p).map upB).length ≤ s.size := by
          rw [List.length_map, List.length_take, HLEN.out]
          omega
        by_cases hlt : k < s.size
        · have hc : s[k].toNat < 128 := HA.out _ (by
            have h1 : k < s.data.toList.length := by rw [HLEN.out]; exact hlt
            have h2 : s[k] = s.data.toList[k] := rfl
            rw [h2]
            exact List.getElem_mem h1)
          have hc' : ((s[k].toNat : Nat) : Int) < 128 := by omega
          have hsn := seg_next s p k hp hlt
          have hbt := byte_take s k hlt
          have hsj := seg_join s.data.toList p k hp
          have HSN := Lib.hid hsn
          have HBT := Lib.hid hbt
          have HSJ := Lib.hid hsj
          have HSEG := Lib.hid hseg
          have HBR := Lib.hid hBr
          have HBL := Lib.hid hbr
          clear hsn hbt hsj hseg hBr hbr
          by_cases hlow : lowB s[k] = true
          · have hup := upB_yes hlow
            have h97 : 97 ≤ s[k].toNat ∧ s[k].toNat ≤ 122 := by
              unfold lowB at hlow
              simpa using hlow
            have g97 : (97 : Int) ≤ ((s[k].toNat : Nat) : Int) := by omega
            have g122 : ((s[k].toNat : Nat) : Int) ≤ 122 := by omega
            have HUP := Lib.hid hup
            clear hup hlow h97
            by_cases hpk : p < k
            · have hpk' : (p : Int) < (k : Int) := by omega
              have hp0 : (0 : Int) ≤ (p : Int) := by omega
              have hk0 : (0 : Int) ≤ (k : Int) := by omega
              have hkl : (k : Int) ≤ (s.size : Int) := by omega
              have hpl : (p : Int) ≤ (k : Int) := by omega
              have hes : (s.extract p k).size ≤ s.size := by rw [ByteArray.size_extract]; omega
              have hex : (s.extract p k).data.toList = seg s.data.toList p k := Lib.extract_data s p k
              have HEX := Lib.hid hex
              clear hex
              go_wp2_with fail
              refine (put_str w.heap.size w.heap.size _ (s.extract p k) wr HBL.out (by rw [Lib.byteCells_length]; omega) HBR.out.size).mono ?_
              rintro e w4 ⟨rfl, hW⟩
              have hb4 : Lib.IsBuilder 118 5 w.heap.size w.heap.size (Lib.byteCells ((s.data.toList.take k).map upB)) w4 := by
                have e : Lib.byteCells ((s.data.toList.take p).map upB) ++ Lib.strCells (s.extract p k) = Lib.byteCells ((s.data.toList.take k).map upB) := by
                  show Lib.byteCells _ ++ Lib.byteCells (s.extract p k).data.toList = _
                  rw [HEX.out, ← HSEG.out, ← HSJ.out, List.map_append]
                  simp [Lib.byteCells]
                rw [← e]
                exact .inr hW.1
              have HB4 := Lib.hid hb4
              have HL4 := Lib.hid (HBR.out.trans hW.2.1)
              clear hW hb4
              go_wp2_with fail
              refine (put_byte w.heap.size w.heap.size _ _ w4 HB4.out (by rw [Lib.byteCells_length, List.length_map, List.length_take]; omega) HL4.out.size).mono ?_
              rintro e w5 ⟨rfl, hW⟩
              have HL5 := Lib.hid (HL4.out.trans hW.2.1)
              have hb5 : Lib.IsBuilder 118 5 w.heap.size w.heap.size (Lib.byteCells ((s.data.toList.take (k + 1)).map upB)) w5 := by
                rw [HBT.out, List.map_append, show Lib.byteCells ((s.data.toList.take k).map upB ++ [s[k]].map upB) = Lib.byteCells ((s.data.toList.take k).map upB) ++ [.int .u8 ((upB s[k]).toNat : Int)] by simp [Lib.byteCells], HUP.out]
                exact .inr hW.1
              have HB5 := Lib.hid hb5
              clear hW hb5
              go_wp2_with fail
              refine ⟨⟨k + 1, k + 1, by omega, Nat.le_refl _, by go_num, by go_num, HL5.out, HB5.out, by simp [seg]⟩, by simp [RowKit.intOf]; omega⟩
            · obtain rfl : p = k := by omega
              go_wp2_with fail
              refine (put_byte w.heap.size w.heap.size _ _ wr HBL.out (by rw [Lib.byteCells_length]; omega) HBR.out.size).mono ?_
              rintro e w5 ⟨rfl, hW⟩
              have HL5 := Lib.hid (HBR.out.trans hW.2.1)
              have hb5 : Lib.IsBuilder 118 5 w.heap.size w.heap.size (Lib.byteCells ((s.data.toList.take (p + 1)).map upB)) w5 := by
                rw [HBT.out, List.map_append, show Lib.byteCells ((s.data.toList.take p).map upB ++ [s[p]].map upB) = Lib.byteCells ((s.data.toList.take p).map upB) ++ [.int .u8 ((upB s[p]).toNat : Int)] by simp [Lib.byteCells], HUP.out]
                exact .inr hW.1
              have HB5 := Lib.hid hb5
              clear hW hb5
              go_wp2_with fail
              refine ⟨⟨p + 1, p + 1, by omega, Nat.le_refl _, by go_num, by go_num, HL5.out, HB5.out, by simp [seg]⟩, by simp [RowKit.intOf]; omega⟩
          · have hno : lowB s[k] = false := by simpa using hlow
            have hseg2 : (seg s.data.toList p (k + 1)).map upB = seg s.data.toList p (k + 1) := by
              rw [HSN.out, List.map_append, HSEG.out]
              simp [upB_no hno]
            have HS2 := Lib.hid hseg2
            have h97 : ¬ (97 ≤ s[k].toNat) ∨ ¬ (s[k].toNat ≤ 122) := by
              unfold lowB at hno
              simp only [Bool.and_eq_false_iff, decide_eq_false_iff_not] at hno
              exact hno
            clear hlow hno hseg2
            by_cases g0 : 97 ≤ s[k].toNat
            · have g97 : (97 : Int) ≤ ((s[k].toNat : Nat) : Int) := by omega
              have g122 : ¬ ((s[k].toNat : Nat) : Int) ≤ 122 := by omega
              go_wp2_with fail
              exact ⟨⟨p, k + 1, by omega, by omega, by go_num, rfl, HBR.out, HBL.out, HS2.out⟩, by simp [RowKit.intOf]; omega⟩
            · have g97 : ¬ (97 : Int) ≤ ((s[k].toNat : Nat) : Int) := by omega
              go_wp2_with fail
              exact ⟨⟨p, k + 1, by omega, by omega, by go_num, rfl, HBR.out, HBL.out, HS2.out⟩, by simp [RowKit.intOf]; omega⟩
        · obtain rfl : k = s.size := by omega
          have hsj := seg_join s.data.toList p s.size hp
          have hfull : s.data.toList.take s.size = s.data.toList := List.take_of_length_le (by rw [HLEN.out]; exact Nat.le_refl _)
          rw [hfull] at hsj
          clear hfull
          have HSJ := Lib.hid hsj
          have HSEG := Lib.hid hseg
          have HBR := Lib.hid hBr
          have HBL := Lib.hid hbr
          clear hsj hseg hBr hbr hlt
          by_cases hpk : p < s.size
          · have hpk' : (p : Int) < (s.size : Int) := by omega
            have hp0 : (0 : Int) ≤ (p : Int) := by omega
            have hpl : (p : Int) ≤ (s.size : Int) := by omega
            have hes : (s.extract p s.size).size ≤ s.size := by rw [ByteArray.size_extract]; omega
            have hex : (s.extract p s.size).data.toList = seg s.data.toList p s.size := Lib.extract_data s p s.size
            have HEX := Lib.hid hex
            clear hex
            go_wp2_with fail
            refine (put_str w.heap.size w.heap.size _ (s.extract p s.size) wr HBL.out (by rw [Lib.byteCells_length]; omega) HBR.out.size).mono ?_
            rintro e w4 ⟨rfl, hW⟩
            have hb4 : Lib.IsBuilder 118 5 w.heap.size w.heap.size (Lib.byteCells (s.data.toList.map upB)) w4 := by
              have e : Lib.byteCells ((s.data.toList.take p).map upB) ++ Lib.strCells (s.extract p s.size) = Lib.byteCells (s.data.toList.map upB) := by
                show Lib.byteCells _ ++ Lib.byteCells (s.extract p s.size).data.toList = _
                rw [HEX.out, ← HSEG.out]
                conv => rhs; rw [← HSJ.out, List.map_append]
                simp [Lib.byteCells]
              rw [← e]
              exact .inr hW.1
            have HB4 := Lib.hid hb4
            have HL4 := Lib.hid (HBR.out.trans hW.2.1)
            clear hW hb4
            go_wp2_with fail
            refine (Tryd.Builder_String_any w.heap.size w.heap.size _ w4 HB4.out HL4.out.size).mono ?_
            rintro e w6 ⟨rfl, hb6⟩
            go_wp2_with fail
            go_ret
            exact ⟨rfl, HL4.out.trans hb6⟩
          · obtain rfl : p = s.size := by omega
            have hall : s.data.toList.take s.size = s.data.toList := List.take_of_length_le (by rw [HLEN.out]; exact Nat.le_refl _)
            have hb4 := HBL.out
            rw [hall] at hb4
            have HB4 := Lib.hid hb4
            clear hb4 hall
            go_wp2_with fail
            refine (Tryd.Builder_String_any w.heap.size w.heap.size _ wr HB4.out HBR.out.size).mono ?_
            rintro e w6 ⟨rfl, hb6⟩
            go_wp2_with fail
            go_ret
            exact ⟨rfl, HBR.out.trans hb6⟩
end Go.Proofs.YtdmopagkahgepaaDoor
