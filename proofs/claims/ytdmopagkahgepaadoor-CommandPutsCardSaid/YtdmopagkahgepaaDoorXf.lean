/- lombardref24.number: which strings it takes. -/
import Derived.Test.YtdmopagkahgepaaDoorXe
import Derived.Test.YtdmopagkahgepaaDoorXc
namespace Go.Proofs.YtdmopagkahgepaaDoor
open Go.RowKit Go.Maps Go.ChangeMaps Go.ChangeShapes
attribute [local go_sem ↓] Go.wp_at_zero Go.wp_at_succ

/-- number: a number, and whether the string is how it is told. -/
def NumEnd (s : ByteArray) (e : Ending) : Prop :=
  (∃ n, numL s.data.toList = none ∧ e = .returned (.tuple #[.int .i64 n, .bool false])) ∨ ∃ n, numL s.data.toList = some n ∧ e = .returned (.tuple #[.int .i64 n, .bool true])

/-- The byte at an index, as the model reads it. -/
theorem byte_at (s : ByteArray) (k : Nat) (h : k < s.size) (w : World) : (Instr.index 9 (.string s) (.int .i64 (k : Int))).run Tryd.prog w = .ok (.int .u8 ((s.data.toList[k]?.getD 0).toNat : Int)) w := by
  rw [run_index_string w 9 s .i64 (k : Int) Tryd.underlying9, dif_pos ⟨by omega, by omega⟩]
  have hk : k < s.data.toList.length := by simpa [ByteArray.size_data] using h
  rw [List.getElem?_eq_getElem hk]
  rfl
theorem length_data (s : ByteArray) : s.data.toList.length = s.size := by simp [ByteArray.size_data]

set_option maxRecDepth 100000 in
set_option maxHeartbeats 2000000 in
theorem number_any (s : ByteArray) (w : World) (hs : s.size ≤ 1000000) : Calls Tryd.prog 43 #[.string s] w fun e w' => NumEnd s e ∧ Below w.heap.size w w' := by
  go_enter Tryd.func43, Tryd.ntmps43
  go_wp2_with fail
  go_loopw [4, 5] (fun n i wr => wr = w ∧ ∃ k : Nat, k ≤ s.size ∧ i = .int .i64 k ∧ n = .int .i64 (downL s.data.toList k)) (fun _ i _ => s.size - (RowKit.intOf i).toNat)
  case atStart => exact ⟨rfl, 0, Nat.zero_le _, rfl, by rw [downL_zero]⟩
  case round =>
    obtain ⟨rfl, k, hk, rfl, rfl⟩ := hrel
    by_cases hlt : k < s.size
    · have hix := byte_at s k hlt
      have hll : k < s.data.toList.length := by rw [length_data]; exact hlt
      have hnx := downL_next hll
      have hst := numL_stop hll
      have hsg : k = 0 → s.data.toList[k]?.getD 0 = 45 → downL s.data.toList (k + 1) = downL s.data.toList k := by
        rintro rfl h
        rw [downL_sign h hll, downL_zero]
      have hin := downL_in s.data.toList k
      have hin2 := downL_in s.data.toList (k + 1)
      have h255 : (s.data.toList[k]?.getD 0).toNat ≤ 255 := by have := (s.data.toList[k]?.getD 0).toNat_lt; omega
      have hkl : (k : Int) < (s.size : Int) := by omega
      generalize s.data.toList[k]?.getD 0 = c at hix hnx hst hsg h255
      generalize hD : downL s.data.toList k = D at hnx hsg hin
      generalize hD2 : downL s.data.toList (k + 1) = D2 at hnx hsg hin2
      have HD := Lib.hid hD
      have HD2 := Lib.hid hD2
      have HNX := Lib.hid hnx
      have HST := Lib.hid hst
      have HSG := Lib.hid hsg
      clear hD hD2 hnx hst hsg hll
      by_cases h45 : c = 45
      · subst h45
        by_cases hk0 : k = 0
        · subst hk0
          have e := HSG.out rfl rfl
          subst e
          have hix0 : ∀ w : World, (Instr.index 9 (.string s) (.int .i64 0)).run Tryd.prog w = .ok (.int .u8 45) w := hix
          have hs0 : (0 : Int) < (s.size : Int) := by omega
          clear hix hkl
          go_wp2_with fail
          exact ⟨⟨trivial, 1, by omega, by go_num, by rw [HD2.out]⟩, by simp [RowKit.intOf]; omega⟩
        · have hk0' : ((k : Int) == 0) = false := by simp; omega
          have hbad := HST.out (fun h => hk0 h.1) (.inl (by decide))
          have HB := Lib.hid hbad
          clear hbad
          go_wp2_with fail
          refine bodyPost_ret (v := .tuple #[.int .i64 0, .bool false]) (by simp [results, Tryd.results43, go_sem]) rfl ?_
          exact ⟨.inl ⟨_, HB.out, rfl⟩, Below.refl _ _⟩
      · have h45' : ((c.toNat : Int) == 45) = false := by
          rw [beq_eq_false_iff_ne]
          intro e
          apply h45
          apply UInt8.toNat_inj.1
          show c.toNat = 45
          omega
        by_cases h48 : c.toNat < 48
        · have h48' : (c.toNat : Int) < 48 := by omega
          have HB := Lib.hid (HST.out (fun h => h45 h.2) (.inl h48))
          go_wp2_with fail
          refine bodyPost_ret (v := .tuple #[.int .i64 0, .bool false]) (by simp [results, Tryd.results43, go_sem]) rfl ?_
          exact ⟨.inl ⟨_, HB.out, rfl⟩, Below.refl _ _⟩
        · have h48' : ¬ (c.toNat : Int) < 48 := by omega
          by_cases h57 : 57 < c.toNat
          · have h57' : (57 : Int) < (c.toNat : Int) := by omega
            have HB := Lib.hid (HST.out (fun h => h45 h.2) (.inr (.inl h57)))
            go_wp2_with fail
            refine bodyPost_ret (v := .tuple #[.int .i64 0, .bool false]) (by simp [results, Tryd.results43, go_sem]) rfl ?_
            exact ⟨.inl ⟨_, HB.out, rfl⟩, Below.refl _ _⟩
          · have h57' : ¬ (57 : Int) < (c.toNat : Int) := by omega
            by_cases h20 : 20 < k
            · have h20' : (20 : Int) < (k : Int) := by omega
              have HB := Lib.hid (HST.out (fun h => h45 h.2) (.inr (.inr h20)))
              go_wp2_with fail
              refine bodyPost_ret (v := .tuple #[.int .i64 0, .bool false]) (by simp [results, Tryd.results43, go_sem]) rfl ?_
              exact ⟨.inl ⟨_, HB.out, rfl⟩, Below.refl _ _⟩
            · have h20' : ¬ (20 : Int) < (k : Int) := by omega
              have HN := Lib.hid (HNX.out (fun h => h45 h.2))
              go_wp2_with fail
              refine ⟨⟨trivial, k + 1, by omega, by go_num, ?_⟩, by simp [RowKit.intOf]; omega⟩
              rw [HD2.out, HN.out]
              rfl
    · obtain rfl : k = s.size := by omega
      have htold := toldL_in s.data.toList
      have HNL := Lib.hid (numL_told s.data.toList)
      have hT : toldL s.data.toList = if 0 < s.size ∧ s.data.toList[0]?.getD 0 ≠ 45 then RowKit.wrap64 (-(downL s.data.toList s.size)) else downL s.data.toList s.size := by
        unfold toldL
        rw [length_data]
      have fin : ∀ (N : Int), toldL s.data.toList = N → ∀ w' : World, Below wr.heap.size wr w' → (NumEnd s (.returned (.tuple #[.int .i64 N, .bool (Lib.itoa N == s.toList)])) ∧ Below wr.heap.size wr w') := by
        rintro N rfl w' hb
        refine ⟨?_, hb⟩
        by_cases h : Lib.itoa (toldL s.data.toList) = s.data.toList
        · refine .inr ⟨_, ?_, by rw [told_yes h]⟩
          rw [HNL.out, if_pos h]
        · refine .inl ⟨_, ?_, by rw [told_no h]⟩
          rw [HNL.out, if_neg h]
      have FIN := Lib.hid fin
      clear fin
      by_cases hs0 : 0 < s.size
      · have hix := byte_at s 0 hs0
        have hix0 : ∀ w : World, (Instr.index 9 (.string s) (.int .i64 0)).run Tryd.prog w = .ok (.int .u8 ((s.data.toList[0]?.getD 0).toNat : Int)) w := hix
        have hs0' : (0 : Int) < (s.size : Int) := by omega
        generalize s.data.toList[0]?.getD 0 = c at hix0 hT
        generalize downL s.data.toList s.size = D at hT
        clear hix
        by_cases h45 : c = 45
        · subst h45
          rw [if_neg (by simp)] at hT
          replace hix0 : ∀ w : World, (Instr.index 9 (.string s) (.int .i64 0)).run Tryd.prog w = .ok (.int .u8 45) w := hix0
          have hPD := print_all D (by rw [← hT]; exact htold)
          have HF := Lib.hid (FIN.out D hT)
          clear hT htold hk hlt
          go_wp2_with (go_at_call 51; refine (hPD _).mono ?_; rintro e w' ⟨rfl, hb⟩)
          refine bodyPost_ret (v := .tuple #[.int .i64 D, .bool (Lib.itoa D == s.toList)]) (by simp [results, Tryd.results43, go_sem]) rfl ?_
          exact HF.out _ hb
        · have h45' : ((c.toNat : Int) == 45) = false := by
            rw [beq_eq_false_iff_ne]
            intro e
            apply h45
            apply UInt8.toNat_inj.1
            show c.toNat = 45
            omega
          rw [if_pos ⟨hs0, h45⟩] at hT
          have hPD := print_all (RowKit.wrap64 (-D)) (by rw [← hT]; exact htold)
          have HF := Lib.hid (FIN.out _ hT)
          clear hT htold hk hlt
          go_wp2_with (go_at_call 51; refine (hPD _).mono ?_; rintro e w' ⟨rfl, hb⟩)
          refine bodyPost_ret (v := .tuple #[.int .i64 (RowKit.wrap64 (-D)), .bool (Lib.itoa (RowKit.wrap64 (-D)) == s.toList)]) (by simp [results, Tryd.results43, go_sem]) rfl ?_
          exact HF.out _ hb
      · have hs0' : ¬ (0 : Int) < (s.size : Int) := by omega
        generalize downL s.data.toList s.size = D at hT
        rw [if_neg (fun h => hs0 h.1)] at hT
        have hPD := print_all D (by rw [← hT]; exact htold)
        have HF := Lib.hid (FIN.out D hT)
        clear hT htold hk hlt
        go_wp2_with (go_at_call 51; refine (hPD _).mono ?_; rintro e w' ⟨rfl, hb⟩)
        refine bodyPost_ret (v := .tuple #[.int .i64 D, .bool (Lib.itoa D == s.toList)]) (by simp [results, Tryd.results43, go_sem]) rfl ?_
        exact HF.out _ hb
end Go.Proofs.YtdmopagkahgepaaDoor
