/- lombardref24.Parse: a line's command. -/
import Derived.Test.YtdmopagkahgepaaDoorXk
import Derived.Test.YtdmopagkahgepaaDoorXg
import Derived.Test.YtdmopagkahgepaaDoorXd
import Derived.Test.YtdmopagkahgepaaDoorUs
namespace Go.Proofs.YtdmopagkahgepaaDoor
open Go.RowKit Go.Maps Go.ChangeMaps Go.ChangeShapes

theorem extract_data (s : ByteArray) (f i : Nat) : (s.extract f i).data.toList = (s.data.toList.drop f).take (i - f) := by
  rw [ByteArray.data_extract, Array.toList_extract, List.extract_eq_take_drop]
theorem info9' : (Tryd.prog.info? 9).map (fun i => (i.zero, i.size, i.bytes)) = some (some (.string ⟨#[]⟩), 1, 16) := by kernel_rfl
theorem strs_oneCell (zs : List ByteArray) : ∀ u ∈ zs.map Value.string, u.oneCell' = true := by
  intro u hu
  obtain ⟨_, _, rfl⟩ := List.mem_map.1 hu
  rfl
/-- Where the cut of the line stands. -/
structure CutRel (s : ByteArray) (W : World) (ws : List ByteArray) (v : Value) (f i : Nat) (wr : World) : Prop where
  low : Below W.heap.size W wr
  own : wr.ownsRow W.heap.size 9 1 v ws.length (ws.map Value.string)
  at_ : (i ≤ s.size ∧ CutAt s.data.toList (ws.map (·.data.toList)) f i) ∨ (i = s.size + 1 ∧ ws.map (·.data.toList) = segs s.data.toList)
  le : f ≤ i
  top : i ≤ s.size + 1
  few : ws.length ≤ i

theorem slice_str (s : ByteArray) (f i : Nat) (hf : f ≤ i) (hi : i ≤ s.size) (w : World) : (Instr.slice 9 (.string s) (some (.int .i64 (f : Int))) (some (.int .i64 (i : Int))) none).run Tryd.prog w = .ok (.string (s.extract f i)) w := by
  have h1 : (0 : Int) ≤ (i : Int) ∧ (i : Int) ≤ (s.size : Int) := by omega
  have h2 : (0 : Int) ≤ (f : Int) ∧ (f : Int) ≤ (i : Int) := by omega
  simp [Instr.slice, Instr.sliceBounds, Instr.sliceBound, asIntOf, go_sem, h1, h2]
  rw [if_pos hi, if_pos hf]

set_option maxRecDepth 100000 in
set_option maxHeartbeats 8000000 in
theorem parse24_any (s : ByteArray) (w : World) (hs : s.size ≤ 20000) :
    Calls Tryd.prog 18 #[.string s] w fun e w' => Below w.heap.size w w' ∧ ParseEnd s w.heap.size e w' := by
  have hR0 := Whole.new w 54 #[.int .i64 0, .int .i64 0, .int .i64 0, .int .i64 0, .int .i64 0, .int .i64 0, .slice none 0 0, .int .i64 0, .int .i64 0, .bool false, .int .i64 0]
  have hB0 := (Below.refl w.heap.size w).alloc (Nat.le_refl _) (.cells #[.int .i64 0, .int .i64 0, .int .i64 0, .int .i64 0, .int .i64 0, .int .i64 0, .slice none 0 0, .int .i64 0, .int .i64 0, .bool false, .int .i64 0] 54)
  have hz0 : (w.alloc (.cells #[.int .i64 0, .int .i64 0, .int .i64 0, .int .i64 0, .int .i64 0, .int .i64 0, .slice none 0 0, .int .i64 0, .int .i64 0, .bool false, .int .i64 0] 54)).heap.size = w.heap.size + 1 := World.size_alloc _ _
  have HR0 := Lib.hid hR0
  have HB0 := Lib.hid hB0
  clear hR0 hB0
  go_enter Tryd.func18, Tryd.ntmps18
  go_wp2_with fail
  generalize (w.alloc (.cells #[.int .i64 0, .int .i64 0, .int .i64 0, .int .i64 0, .int .i64 0, .int .i64 0, .slice none 0 0, .int .i64 0, .int .i64 0, .bool false, .int .i64 0] 54)) = W at HR0 HB0 hz0 ⊢
  have hC0 : CutRel s W [] (.slice none 0 0) 0 0 W := ⟨Below.refl _ _, World.ownsRow_nil _ _ _ _, .inl ⟨Nat.zero_le _, CutAt.start _⟩, Nat.le_refl _, by omega, Nat.le_refl _⟩
  have HC0 := Lib.hid hC0
  clear hC0
  go_loopw [4, 5, 6] (fun v fv iv wr => ∃ (ws : List ByteArray) (f i : Nat), fv = .int .i64 f ∧ iv = .int .i64 i ∧ CutRel s W ws v f i wr) (fun _ _ iv _ => s.size + 1 - (RowKit.intOf iv).toNat)
  case atStart => exact ⟨[], 0, 0, rfl, rfl, HC0.out⟩
  case round =>
    obtain ⟨ws, f, i, rfl, rfl, hR⟩ := hrel
    rcases hR.at_ with ⟨hi, hc⟩ | ⟨hi, hseg⟩
    · have hil : (i : Int) ≤ (s.size : Int) := by omega
      have hfi := hR.le
      have hfew := hR.few
      have hsl := slice_str s f i hfi hi
      have hxd := extract_data s f i
      have hO := hR.own.alloc (.cells #[.string (s.extract f i)] 9)
      have hlow := hR.low.alloc hR.low.size (.cells #[.string (s.extract f i)] 9)
      have hz6 := hlow.size
      have HR := Lib.hid hR
      have HC := Lib.hid hc
      have HO := Lib.hid hO
      have HL := Lib.hid hlow
      have HX := Lib.hid hxd
      clear hR hc hO hlow hxd
      by_cases he : i = s.size
      · subst he
        have hq : ((s.size : Int) == (s.size : Int)) = true := by simp
        have hseg := HC.out
        rw [← length_data] at hseg
        have hfin := hseg.fin
        rw [length_data, ← HX.out] at hfin
        have HSEG := Lib.hid hfin
        clear hseg hfin
        obtain ⟨i9, hi9, hz9, hs9, hy9⟩ := info_parts info9'
        go_wp2_with (at_builtin; refine wpList_append_own_at _ rfl _ _ 66 rfl W.heap.size 9 i9 (.string ⟨#[]⟩) 1 16 Tryd.underlying66 hi9 hz9 hs9 hy9 rfl (by decide) _ ws.length (ws.map Value.string) rfl HO.out ⟨wr.heap.size, 0, none⟩ 1 1 [.string (s.extract f s.size)] rfl rfl (cells_new wr #[.string (s.extract f s.size)] 9) (strs_oneCell [s.extract f s.size]) (by unfold maxLen; omega) (by omega) hz6 ?_; intro v' w6 hown' hgrow _ _)
        refine ⟨⟨ws ++ [s.extract f s.size], s.size + 1, s.size + 1, by go_num, by go_num, ⟨HL.out.grown hgrow hz6 (fun q e => (HO.out.lt q e).1), ?_, .inr ⟨rfl, by rw [List.map_append]; exact HSEG.out.symm⟩, Nat.le_refl _, by omega, by rw [List.length_append]; show _ + 1 ≤ _; omega⟩⟩, by simp [RowKit.intOf] <;> omega⟩
        rw [List.length_append, List.map_append]
        exact hown'
      · have hq : ((i : Int) == (s.size : Int)) = false := by simp; omega
        have hlt : i < s.size := by omega
        have hix := byte_at s i hlt
        have hll : i < s.data.toList.length := by rw [length_data]; exact hlt
        have hstep := HC.out.step hll
        have hblank := HC.out.blank hll
        rw [← HX.out] at hblank
        rw [List.getElem?_eq_getElem hll] at hix
        simp only [Option.getD_some] at hix
        generalize s.data.toList[i] = c at hix hstep hblank
        have HST := Lib.hid hstep
        have HBL := Lib.hid hblank
        clear hstep hblank hll
        by_cases h32 : c = 32
        · subst h32
          replace hix : ∀ w : World, (Instr.index 9 (.string s) (.int .i64 (i : Int))).run Tryd.prog w = .ok (.int .u8 32) w := hix
          obtain ⟨i9, hi9, hz9, hs9, hy9⟩ := info_parts info9'
          go_wp2_with (at_builtin; refine wpList_append_own_at _ rfl _ _ 66 rfl W.heap.size 9 i9 (.string ⟨#[]⟩) 1 16 Tryd.underlying66 hi9 hz9 hs9 hy9 rfl (by decide) _ ws.length (ws.map Value.string) rfl HO.out ⟨wr.heap.size, 0, none⟩ 1 1 [.string (s.extract f i)] rfl rfl (cells_new wr #[.string (s.extract f i)] 9) (strs_oneCell [s.extract f i]) (by unfold maxLen; omega) (by omega) hz6 ?_; intro v' w6 hown' hgrow _ _)
          refine ⟨⟨ws ++ [s.extract f i], i + 1, i + 1, by go_num, by go_num, ⟨HL.out.grown hgrow hz6 (fun q e => (HO.out.lt q e).1), ?_, .inl ⟨by omega, by rw [List.map_append]; exact HBL.out rfl⟩, Nat.le_refl _, by omega, by rw [List.length_append]; show _ + 1 ≤ _; omega⟩⟩, by simp [RowKit.intOf]; omega⟩
          rw [List.length_append, List.map_append]
          exact hown'
        · have hb : ((c.toNat : Int) == 32) = false := by
            rw [beq_eq_false_iff_ne]
            intro e
            apply h32
            apply UInt8.toNat_inj.1
            show c.toNat = 32
            omega
          go_wp2_with fail
          exact ⟨⟨ws, f, i + 1, rfl, by go_num, ⟨HR.out.low, HR.out.own, .inl ⟨by omega, HST.out h32⟩, by omega, by omega, by omega⟩⟩, by simp [RowKit.intOf]; omega⟩
    · have hil : ¬ (i : Int) ≤ (s.size : Int) := by omega
      have hlow := hR.low
      have hB1 := HB0.out.trans (hlow.mono HB0.out.size)
      have hR1 := HR0.out.below hlow (by omega)
      have hne : ws ≠ [] := by
        rintro rfl
        exact segs_ne _ hseg.symm
      have h1 : 0 < ws.length := List.length_pos_iff.2 hne
      obtain ⟨g, cap, rfl, hca⟩ : ∃ g cap, u4 = .slice (some ⟨g, 0, none⟩) ws.length cap ∧ ws.length ≤ cap := by
        rcases owns_form hR.own with rfl | h
        · rcases Go.Joins.ownsRow_forms hR.own with ⟨_, h0⟩ | ⟨g, cap, e⟩
          · omega
          · cases e
        · exact h
      have hcl : ∀ j, j < ws.length → wr.cell? ⟨g, j, none⟩ = some (.string (ws.getD j ByteArray.empty)) := by
        intro j hj
        rw [hR.own.cellAt j (by simpa using hj)]
        simp [List.getElem?_eq_getElem hj]
      have hgz : g < wr.heap.size := World.block_lt_of_cell? wr ⟨g, 0, none⟩ (hcl 0 h1)
      have hn2 : ws.length ≤ 20001 := by have := hR.few; omega
      have HSEG := Lib.hid hseg
      have HB1 := Lib.hid hB1
      have HR1 := Lib.hid hR1
      have HCL := Lib.hid hcl
      clear hR hseg hlow hB1 hR1 hcl hne HB0 HR0 HC0
      go_wp2_with fail
      refine (words24_any wr).mono ?_
      rintro e w2 ⟨rfl, hb2⟩
      have hg2 : g < w2.heap.size := Nat.lt_of_lt_of_le hgz hb2.size
      have HCL2 := Lib.hid (show ∀ j, j < ws.length → w2.cell? ⟨g, j, none⟩ = some (.string (ws.getD j ByteArray.empty)) from fun j hj => (hb2.cell (p := ⟨g, j, none⟩) hgz).trans (HCL.out j hj))
      have HB2 := Lib.hid (HB1.out.trans (hb2.mono HB1.out.size))
      have HR2 := Lib.hid (HR1.out.below hb2 HR1.out.lt)
      clear hb2 HCL HB1 HR1 hgz
      have hx0 := HCL2.out 0 h1
      generalize hX : ws.getD 0 ByteArray.empty = x0 at hx0
      have HX0 := Lib.hid hX
      clear hX
      go_wp2_with fail
      go_loopw [7, 43] (fun kv jv wr => wr = w2 ∧ ∃ j : Nat, j ≤ 15 ∧ jv = .int .i64 j ∧ kv = .int .i64 (kindTo x0 j)) (fun _ jv _ => 15 - (RowKit.intOf jv).toNat)
      case atStart => exact ⟨rfl, 0, Nat.zero_le _, rfl, by rw [kindTo_zero]⟩
      case round =>
        obtain ⟨rfl, j, hj, rfl, rfl⟩ := hrel
        by_cases hlt : j < 15
        · have hws := word_string j hlt
          have hjl : (j : Int) < 15 := by omega
          have hcap0 : (0 : Int) < (ws.length : Int) := by omega
          have hyes : 0 < j → wordL.getD j ByteArray.empty = x0 → kindTo x0 (j + 1) = (j : Int) := fun h0 h => kindTo_yes h0 hlt h
          have hno : j = 0 ∨ wordL.getD j ByteArray.empty ≠ x0 → kindTo x0 (j + 1) = kindTo x0 j := fun h => kindTo_no hlt h
          generalize wordL.getD j ByteArray.empty = y at hws hyes hno
          have HY := Lib.hid hyes
          have HN := Lib.hid hno
          clear hyes hno
          by_cases hj0 : j = 0
          · subst hj0
            have hws0 : ∀ w : World, (Instr.index 102 (.agg wordCells) (.int .i64 0)).run Tryd.prog w = .ok (.string y) w := hws
            clear hws hjl
            go_wp2_with fail
            exact ⟨⟨trivial, 1, by omega, by go_num, by rw [HN.out (.inl rfl)]⟩, by simp [RowKit.intOf]⟩
          · have hj1 : (0 : Int) < (j : Int) := by omega
            by_cases hxy : y = x0
            · have hb : (y.toList == x0.toList) = true := by rw [hxy]; simp
              go_wp2_with fail
              exact ⟨⟨trivial, j + 1, by omega, by go_num, by rw [HY.out (by omega) hxy]⟩, by simp [RowKit.intOf]; omega⟩
            · have hb : (y.toList == x0.toList) = false := by
                rw [beq_eq_false_iff_ne]
                intro e
                rw [ByteArray.toList_eq, ByteArray.toList_eq] at e
                exact hxy (ByteArray.ext (Array.toList_inj.mp e))
              go_wp2_with fail
              exact ⟨⟨trivial, j + 1, by omega, by go_num, by rw [HN.out (.inr hxy)]⟩, by simp [RowKit.intOf]; omega⟩
        · obtain rfl : j = 15 := by omega
          rw [kindTo_all, show ((15 : Nat) : Int) = 15 from rfl]
          have hk14 : Lib.idxOfS (wordL.take 15) x0 ≤ 14 := by
            by_cases h : 0 < Lib.idxOfS (wordL.take 15) x0
            · have h' : 0 < kindL x0.data.toList := by rw [kindL_bytes]; exact h
              have := (kind_some h').1
              rw [kindL_bytes] at this
              exact this
            · omega
          generalize hkd : Lib.idxOfS (wordL.take 15) x0 = kd at hk14 ⊢
          have HKD := Lib.hid hkd
          clear hkd hlt
          by_cases hk : kd ≤ 0
          · rw [if_pos hk]
            have hbad := Lib.hid (parse_kind_bad HSEG.out (by rw [HX0.out, HKD.out]; exact hk))
            have hr4 := HR2.out.lt
            obtain ⟨z0, z1, z2, z3, z4, z5, z6, z7, z8, z9, z10⟩ := elev HR2.out
            have zf := fun i => (HR2.out).frozen i
            go_wp2_with fail
            obtain ⟨hWe, hBe, _⟩ := put11t (x0 := .int .i64 0) (x1 := .int .i64 0) (x2 := .int .i64 0) (x3 := .int .i64 0) (x4 := .int .i64 0) (x5 := .int .i64 0) (x6 := .slice none 0 0) (x7 := .int .i64 0) (x8 := .int .i64 0) (x9 := .bool false) (x10 := .int .i64 0) HR2.out HB2.out (Nat.le_refl _)
            obtain ⟨q0, q1, q2, q3, q4, q5, q6, q7, q8, q9, q10⟩ := elev hWe
            clear z0 z1 z2 z3 z4 z5 z6 z7 z8 z9 z10 zf
            refine bodyPost_ret (v := .tuple #[.agg #[.int .i64 0, .int .i64 0, .int .i64 0, .int .i64 0, .int .i64 0, .int .i64 0, .slice none 0 0, .int .i64 0, .int .i64 0, .bool false, .int .i64 0], .int .i64 6]) ?_ rfl ⟨hBe, .inl ⟨hbad.out, rfl⟩⟩
            simp [results, Tryd.results18, go_sem, q0, q1, q2, q3, q4, q5, q6, q7, q8, q9, q10]
          · rw [if_neg hk]
            have hkp : 0 < kd := by omega
            have hk0 : (kd == 0) = false := beq_eq_false_iff_ne.2 (by omega)
            clear hk
            obtain ⟨W2, rfl⟩ : ∃ x : World, x = wr := ⟨_, rfl⟩
            obtain ⟨m, hwl⟩ : ∃ m, ws.length = m + 1 := ⟨ws.length - 1, by omega⟩
            rw [hwl] at hca hn2 h1 ⊢
            have HWL := Lib.hid hwl
            clear hwl
            have hsl : ∃ o, (∀ w' : World, (Instr.slice 66 (.slice (some ⟨g, 0, none⟩) (m + 1) cap) (some (.int .i64 1)) none none).run Tryd.prog w' = .ok (.slice (some ⟨g, o, none⟩) m (cap - 1)) w') ∧ ∀ j, j < m → o + j = 1 + j := by
              have h1 : (1 : Int) ≤ ((m + 1 : Nat) : Int) := by omega
              by_cases hc : cap = 1
              · refine ⟨0, fun w' => ?_, fun j h => by omega⟩
                simp [Instr.slice, Instr.sliceBounds, Instr.sliceBound, asIntOf, go_sem]
                rw [if_pos (by omega), if_pos (by omega)]
              · refine ⟨1, fun w' => ?_, fun j h => rfl⟩
                simp [Instr.slice, Instr.sliceBounds, Instr.sliceBound, asIntOf, go_sem]
                rw [if_pos (by omega), if_neg (by omega)]
            obtain ⟨o, hsl, ho⟩ := hsl
            have HO := Lib.hid ho
            clear ho hx0 hj
            go_wp2_with fail
            have hm0 : ParseRel ws W2 0 [] (.slice none 0 0) W2 := ⟨Below.refl _ _, World.ownsRow_nil _ _ _ _, rfl⟩
            have HM0 := Lib.hid hm0
            clear hm0
            go_loopw [10, 64] (fun v iv w3 => ∃ (j : Nat) (l : List Int), j ≤ m ∧ iv = .int .i64 j ∧ ParseRel ws W2 j l v w3) (fun _ iv _ => m - (RowKit.intOf iv).toNat)
            case atStart => exact ⟨0, [], Nat.zero_le _, rfl, HM0.out⟩
            case round =>
              obtain ⟨j, l, hj, rfl, hR⟩ := hrel
              by_cases hlt : j < m
              · have c0 : wr.cell? ⟨g, o + j, none⟩ = some (.string (ws.getD (1 + j) ByteArray.empty)) := by
                  rw [HO.out j hlt]
                  exact (hR.low.cell (p := ⟨g, 1 + j, none⟩) hg2).trans (HCL2.out (1 + j) (by rw [HWL.out]; omega))
                have hsz : (ws.getD (1 + j) ByteArray.empty).size ≤ 1000000 := Nat.le_trans (word_size HSEG.out (by rw [HWL.out]; omega)) (by omega)
                have hbadw : numL (ws.getD (1 + j) ByteArray.empty).data.toList = none → parseL s.data.toList = none := fun h => parse_word_bad HSEG.out (by rw [HWL.out]; omega) h
                have hnext : (((ws.drop 1).take (j + 1)).map (·.data.toList)) = (((ws.drop 1).take j).map (·.data.toList)) ++ [(ws.getD (1 + j) ByteArray.empty).data.toList] := by
                  have h1 : j < (ws.drop 1).length := by rw [List.length_drop, HWL.out]; omega
                  rw [List.take_succ_eq_append_getElem h1, List.map_append, List.getElem_drop]
                  have h2 : 1 + j < ws.length := by rw [HWL.out]; omega
                  rw [List.getD_eq_getElem?_getD, List.getElem?_eq_getElem h2]
                  rfl
                have HBAD := Lib.hid hbadw
                have HNX := Lib.hid hnext
                clear hbadw hnext
                generalize ws.getD (1 + j) ByteArray.empty = x at c0 hsz HBAD HNX
                have hgr : g < wr.heap.size := Nat.lt_of_lt_of_le hg2 hR.low.size
                have hj0 : (0 : Int) ≤ (j : Int) := by omega
                have hjl : (j : Int) < (m : Int) := by omega
                have hll := hR.len
                have HRR := Lib.hid hR
                clear hR
                go_wp2_with fail
                refine (number_any x wr hsz).mono ?_
                rintro e w4 ⟨⟨n, hn, rfl⟩ | ⟨n, hn, rfl⟩, hb4⟩
                · have hlow4 := HRR.out.low.trans (hb4.mono HRR.out.low.size)
                  have hR4 := HR2.out.below hlow4 HR2.out.lt
                  have hB4 := HB2.out.trans (hlow4.mono HB2.out.size)
                  have hbad := Lib.hid (HBAD.out hn)
                  clear hb4 hlow4 hn c0
                  have hr4 := hR4.lt
                  obtain ⟨z0, z1, z2, z3, z4, z5, z6, z7, z8, z9, z10⟩ := elev hR4
                  have zf := fun i => (hR4).frozen i
                  go_wp2_with fail
                  obtain ⟨hWe, hBe, _⟩ := put11t (x0 := .int .i64 0) (x1 := .int .i64 0) (x2 := .int .i64 0) (x3 := .int .i64 0) (x4 := .int .i64 0) (x5 := .int .i64 0) (x6 := .slice none 0 0) (x7 := .int .i64 0) (x8 := .int .i64 0) (x9 := .bool false) (x10 := .int .i64 0) hR4 hB4 (Nat.le_refl _)
                  obtain ⟨q0, q1, q2, q3, q4, q5, q6, q7, q8, q9, q10⟩ := elev hWe
                  clear z0 z1 z2 z3 z4 z5 z6 z7 z8 z9 z10 zf
                  refine bodyPost_ret (v := .tuple #[.agg #[.int .i64 0, .int .i64 0, .int .i64 0, .int .i64 0, .int .i64 0, .int .i64 0, .slice none 0 0, .int .i64 0, .int .i64 0, .bool false, .int .i64 0], .int .i64 6]) ?_ rfl ⟨hBe, .inl ⟨hbad.out, rfl⟩⟩
                  simp [results, Tryd.results18, go_sem, q0, q1, q2, q3, q4, q5, q6, q7, q8, q9, q10]
                · have hlow5 := HRR.out.low.trans (hb4.mono HRR.out.low.size)
                  have hns := numsL_snoc HRR.out.nums hn
                  rw [← HNX.out] at hns
                  have HNS := Lib.hid hns
                  have hO5 := (owns_low HRR.out.own hb4).alloc (.cells #[.int .i64 n] 2)
                  have hlow6 := hlow5.alloc hlow5.size (.cells #[.int .i64 n] 2)
                  have hz6 := hlow6.size
                  have HO5 := Lib.hid hO5
                  have HL6 := Lib.hid hlow6
                  clear hns hlow5 hO5 hlow6 hn hb4 c0
                  obtain ⟨i2, hi2, hz2, hs2, hy2⟩ := info_parts info2'
                  go_wp2_with (at_builtin; refine wpList_append_own_at _ rfl _ _ 41 rfl W2.heap.size 2 i2 (.int .i64 0) 1 8 Tryd.underlying41 hi2 hz2 hs2 hy2 rfl (by decide) _ l.length (l.map (Value.int .i64)) rfl HO5.out ⟨w4.heap.size, 0, none⟩ 1 1 [.int .i64 n] rfl rfl (cells_new w4 #[.int .i64 n] 2) (ints_oneCell .i64 [n]) (by unfold maxLen; omega) (by omega) hz6 ?_; intro v' w6 hown' hgrow _ _)
                  refine ⟨⟨j + 1, l ++ [n], by omega, by go_num, ⟨HL6.out.grown hgrow hz6 (fun i e => (HO5.out.lt i e).1), ?_, HNS.out⟩⟩, by simp [RowKit.intOf]; omega⟩
                  rw [List.length_append, List.map_append]
                  exact hown'
              · obtain rfl : j = m := by omega
                have hnums := hR.nums
                rw [List.take_of_length_le (by rw [List.length_drop, HWL.out]; omega)] at hnums
                have hpa := parse_all HSEG.out (by rw [HX0.out, HKD.out]; exact hkp) hnums
                rw [HX0.out, HKD.out] at hpa
                have HPA := Lib.hid hpa
                have hll := hR.len
                have hO := hR.own
                have hN := NumsAt.of_owns hO
                have hform := owns_form hO
                have HLOW := Lib.hid (HB2.out.trans (hR.low.mono HB2.out.size))
                have HRR := Lib.hid (HR2.out.below hR.low HR2.out.lt)
                obtain ⟨Al, cl, rfl, _⟩ := id hN
                have HN := Lib.hid hN
                have HF := Lib.hid hform
                clear hR hnums hpa hO hN hform hlt HM0
                go_wp2_with fail
                refine (cmd24_any kd ⟨by omega, hk14⟩ _ l wr HN.out (by omega) HF.out).mono ?_
                rintro e w5 ⟨hb5, ⟨h0, rfl⟩ | ⟨x, A, cp, hok, hx, rfl, hN5⟩⟩
                · have HR5 := HRR.out.below hb5 HRR.out.lt
                  have HB := HLOW.out.trans (hb5.mono HLOW.out.size)
                  have hrl := HR5.lt
                  have HH0 := Lib.hid h0
                  clear h0 hb5
                  obtain ⟨z0, z1, z2, z3, z4, z5, z6, z7, z8, z9, z10⟩ := elev HR5
                  have zf := fun i => HR5.frozen i
                  go_wp2_with fail
                  obtain ⟨hWe0, hBe0, _⟩ := put11t (x0 := .int .i64 0) (x1 := .int .i64 0) (x2 := .int .i64 0) (x3 := .int .i64 0) (x4 := .int .i64 0) (x5 := .int .i64 0) (x6 := .slice none 0 0) (x7 := .int .i64 0) (x8 := .int .i64 0) (x9 := .bool false) (x10 := .int .i64 0) HR5 HB (Nat.le_refl _)
                  have hWe := hWe0.alloc (.cells #[.int .i64 0, .int .i64 0, .int .i64 0, .int .i64 0, .int .i64 0, .int .i64 0, .slice none 0 0, .int .i64 0, .int .i64 0, .bool false, .int .i64 0] 54)
                  have hBe := hBe0.alloc hBe0.size (.cells #[.int .i64 0, .int .i64 0, .int .i64 0, .int .i64 0, .int .i64 0, .int .i64 0, .slice none 0 0, .int .i64 0, .int .i64 0, .bool false, .int .i64 0] 54)
                  clear z0 z1 z2 z3 z4 z5 z6 z7 z8 z9 z10 zf hWe0 hBe0
                  obtain ⟨q0, q1, q2, q3, q4, q5, q6, q7, q8, q9, q10⟩ := elev hWe
                  refine bodyPost_ret (v := .tuple #[.agg #[.int .i64 0, .int .i64 0, .int .i64 0, .int .i64 0, .int .i64 0, .int .i64 0, .slice none 0 0, .int .i64 0, .int .i64 0, .bool false, .int .i64 0], .int .i64 6]) ?_ rfl ⟨hBe, .inl ⟨by rw [HPA.out, HH0.out]; rfl, rfl⟩⟩
                  simp [results, Tryd.results18, go_sem, q0, q1, q2, q3, q4, q5, q6, q7, q8, q9, q10]
                · have HR5 := HRR.out.below hb5 HRR.out.lt
                  have HB := HLOW.out.trans (hb5.mono HLOW.out.size)
                  have hrl := HR5.lt
                  have HOK := Lib.hid hok
                  have HX := Lib.hid hx
                  have HN5 := Lib.hid hN5
                  have hrw := HRR.out.lt
                  have HRW := Lib.hid hrw
                  clear hok hx hb5 hN5 hrw
                  obtain ⟨z0, z1, z2, z3, z4, z5, z6, z7, z8, z9, z10⟩ := elev HR5
                  have zf := fun i => HR5.frozen i
                  go_wp2_with fail
                  obtain ⟨hWe0, hBe0, hGe⟩ := put11t (x0 := .int .i64 x.kind) (x1 := .int .i64 x.id) (x2 := .int .i64 x.ek) (x3 := .int .i64 x.loan) (x4 := .int .i64 x.other) (x5 := .int .i64 x.amount) (x6 := .slice A x.flows.length cp) (x7 := .int .i64 x.past) (x8 := .int .i64 x.down) (x9 := .bool x.bad) (x10 := .int .i64 x.n) HR5 HB (Nat.le_refl _)
                  have hWe := hWe0.alloc (.cells #[.int .i64 x.kind, .int .i64 x.id, .int .i64 x.ek, .int .i64 x.loan, .int .i64 x.other, .int .i64 x.amount, .slice A x.flows.length cp, .int .i64 x.past, .int .i64 x.down, .bool x.bad, .int .i64 x.n] 54)
                  have hBe := hBe0.alloc hBe0.size (.cells #[.int .i64 x.kind, .int .i64 x.id, .int .i64 x.ek, .int .i64 x.loan, .int .i64 x.other, .int .i64 x.amount, .slice A x.flows.length cp, .int .i64 x.past, .int .i64 x.down, .bool x.bad, .int .i64 x.n] 54)
                  have hNe := ((HN5.out.grown hGe HRW.out).below ((Below.refl _ _).alloc (Nat.le_refl _) (.cells #[.int .i64 x.kind, .int .i64 x.id, .int .i64 x.ek, .int .i64 x.loan, .int .i64 x.other, .int .i64 x.amount, .slice A x.flows.length cp, .int .i64 x.past, .int .i64 x.down, .bool x.bad, .int .i64 x.n] 54))).lower HLOW.out.size
                  clear z0 z1 z2 z3 z4 z5 z6 z7 z8 z9 z10 zf hWe0 hBe0
                  obtain ⟨q0, q1, q2, q3, q4, q5, q6, q7, q8, q9, q10⟩ := elev hWe
                  refine bodyPost_ret (v := .tuple #[.agg #[.int .i64 x.kind, .int .i64 x.id, .int .i64 x.ek, .int .i64 x.loan, .int .i64 x.other, .int .i64 x.amount, .slice A x.flows.length cp, .int .i64 x.past, .int .i64 x.down, .bool x.bad, .int .i64 x.n], .int .i64 0]) ?_ rfl ⟨hBe, .inr ⟨x, A, cp, ?_, rfl, ?_⟩⟩
                  · simp [results, Tryd.results18, go_sem, q0, q1, q2, q3, q4, q5, q6, q7, q8, q9, q10]
                  · rw [HPA.out, HOK.out, HX.out]
                    rfl
                  · exact hNe
end Go.Proofs.YtdmopagkahgepaaDoor
