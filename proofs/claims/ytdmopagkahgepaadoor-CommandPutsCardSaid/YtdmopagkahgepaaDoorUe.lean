/- command.of: the walk, at an event's kind. -/
import Derived.Test.YtdmopagkahgepaaDoorUw
namespace Go.Proofs.YtdmopagkahgepaaDoor
open Go.RowKit Go.Maps Go.ChangeMaps Go.ChangeShapes

set_option maxRecDepth 100000 in
set_option maxHeartbeats 20000000 in
theorem of_le (kind : Int) (h10 : kind ≤ 10) (lv : Value) (l : List Int) (w : World) (hl : NumsAt w lv l) (hn : l.length ≤ 30000) (hform : lv = .slice none 0 0 ∨ ∃ g c, lv = .slice (some ⟨g, 0, none⟩) l.length c ∧ l.length ≤ c) :
    Calls Tryd.prog 41 #[.int .i64 kind, lv] w fun e w' => Below w.heap.size w w' ∧
      ((ofOk kind l = false ∧ e = .returned (.tuple #[.agg zeroCmd, .bool false])) ∨
       (ofOk kind l = true ∧ ∃ fv, e = .returned (.tuple #[.agg ((ofCells kind l).setIfInBounds 6 fv), .bool true]) ∧ w'.ownsRow w.heap.size 2 1 fv (l.drop (fieldsOf kind).1.length).length ((l.drop (fieldsOf kind).1.length).map (Value.int .i64)))) := by
  obtain ⟨A, c, rfl, _⟩ := id hl
  have HFORM := Lib.hid hform
  clear hform
  obtain ⟨hz, hr, hB⟩ := start_of kind kind (by simp [h10]) w
  go_enter Tryd.func41, Tryd.ntmps41
  go_wp2_with fail
  generalize (w.alloc (.cells #[.int .i64 0, .int .i64 0, .int .i64 0, .int .i64 0, .int .i64 0, .int .i64 0, .slice none 0 0, .int .i64 0, .int .i64 0, .bool false, .int .i64 0] 47)).alloc (.cells #[.int .i64 kind, .int .i64 0, .int .i64 kind, .int .i64 0, .int .i64 0, .int .i64 0, .slice none 0 0, .int .i64 0, .int .i64 0, .bool false, .int .i64 0] 47) = W at hz hr hB ⊢
  refine (fields_any (w.heap.size + 1) kind W hz.lt (hz.cell 0)).mono ?_
  rintro e W3 ⟨v, fs, rfl, hF, hfs, hb3⟩
  have hlen : fs.length = (fieldsOf kind).1.length := by rw [← hfs, List.length_map]
  obtain ⟨A1, n1, c1, rfl⟩ := slice_form hF.1
  have hR : OfRel w (w.heap.size + 1) w.heap.size W.heap.size (.slice A1 n1 c1) fs (.slice A l.length c) l (kindCmd kind) W3 := ⟨hz.below hb3 hz.lt, hr.below hb3 hr.lt, hF, kindCmd_typed kind, (hl.below hB).below hb3, hB.trans (hb3.mono hB.size)⟩
  have hB1 := hB.size
  obtain rfl : n1 = fs.length := by
    rcases Go.Joins.ownsRow_forms hF.1 with ⟨e, h0⟩ | ⟨g, cap, e⟩
    · cases e; exact h0.symm
    · cases e; rfl
  clear hz hr hB hb3 hF
  have h5 : (fieldsOf kind).1.length ≤ 5 := fieldsOf_len kind
  rw [← hlen] at h5
  have HLEN := Lib.hid hlen
  have hok : ofOk kind l = (!decide (l.length < fs.length) && !decide (600 < l.length - fs.length) && (!decide (fs.length < l.length) || (fieldsOf kind).2) && okAll ((fieldsOf kind).1.zip l)) := by
    unfold ofOk
    rw [hlen]
  have HOK := Lib.hid hok
  clear hlen hok
  generalize hfw : (fieldsOf kind).2 = fw at HOK ⊢
  have r0 : W3.cell? ⟨w.heap.size, 0, none⟩ = some (.int .i64 0) := hR.res.cell 0
  have r1 : W3.cell? ⟨w.heap.size, 1, none⟩ = some (.int .i64 0) := hR.res.cell 1
  have r2 : W3.cell? ⟨w.heap.size, 2, none⟩ = some (.int .i64 0) := hR.res.cell 2
  have r3 : W3.cell? ⟨w.heap.size, 3, none⟩ = some (.int .i64 0) := hR.res.cell 3
  have r4 : W3.cell? ⟨w.heap.size, 4, none⟩ = some (.int .i64 0) := hR.res.cell 4
  have r5 : W3.cell? ⟨w.heap.size, 5, none⟩ = some (.int .i64 0) := hR.res.cell 5
  have r6 : W3.cell? ⟨w.heap.size, 6, none⟩ = some (.slice none 0 0) := hR.res.cell 6
  have r7 : W3.cell? ⟨w.heap.size, 7, none⟩ = some (.int .i64 0) := hR.res.cell 7
  have r8 : W3.cell? ⟨w.heap.size, 8, none⟩ = some (.int .i64 0) := hR.res.cell 8
  have r9 : W3.cell? ⟨w.heap.size, 9, none⟩ = some (.bool false) := hR.res.cell 9
  have r10 : W3.cell? ⟨w.heap.size, 10, none⟩ = some (.int .i64 0) := hR.res.cell 10
  have rf := fun i => hR.res.frozen i
  by_cases hc1 : l.length < fs.length
  · have x1 : (l.length : Int) - (fs.length : Int) < 0 := by omega
    go_wp2_with fail
    obtain ⟨hWe, hBe, _⟩ := put11' _ _ _ _ _ _ _ _ _ _ _ (.int .i64 0) (.int .i64 0) (.int .i64 0) (.int .i64 0) (.int .i64 0) (.int .i64 0) (.slice none 0 0) (.int .i64 0) (.int .i64 0) (.bool false) (.int .i64 0) hR.res hR.low (Nat.le_refl _)
    clear r0 r1 r2 r3 r4 r5 r6 r7 r8 r9 r10 rf
    have q0 := hWe.cell 0
    have q1 := hWe.cell 1
    have q2 := hWe.cell 2
    have q3 := hWe.cell 3
    have q4 := hWe.cell 4
    have q5 := hWe.cell 5
    have q6 := hWe.cell 6
    have q7 := hWe.cell 7
    have q8 := hWe.cell 8
    have q9 := hWe.cell 9
    have q10 := hWe.cell 10
    simp only [List.getElem?_toArray, List.getElem?_cons_zero, List.getElem?_cons_succ] at q0 q1 q2 q3 q4 q5 q6 q7 q8 q9 q10
    refine bodyPost_ret (v := .tuple #[.agg zeroCmd, .bool false]) ?_ rfl ⟨hBe, .inl ⟨?_, rfl⟩⟩
    · simp [results, Tryd.results41, go_sem, q0, q1, q2, q3, q4, q5, q6, q7, q8, q9, q10, zeroCmd]
    · rw [HOK.out]
      simp [hc1]
  by_cases hc2 : 600 < l.length - fs.length
  · have x1 : ¬ (l.length : Int) - (fs.length : Int) < 0 := by omega
    have x2 : (600 : Int) < (l.length : Int) - (fs.length : Int) := by omega
    go_wp2_with fail
    obtain ⟨hWe, hBe, _⟩ := put11' _ _ _ _ _ _ _ _ _ _ _ (.int .i64 0) (.int .i64 0) (.int .i64 0) (.int .i64 0) (.int .i64 0) (.int .i64 0) (.slice none 0 0) (.int .i64 0) (.int .i64 0) (.bool false) (.int .i64 0) hR.res hR.low (Nat.le_refl _)
    clear r0 r1 r2 r3 r4 r5 r6 r7 r8 r9 r10 rf
    have q0 := hWe.cell 0
    have q1 := hWe.cell 1
    have q2 := hWe.cell 2
    have q3 := hWe.cell 3
    have q4 := hWe.cell 4
    have q5 := hWe.cell 5
    have q6 := hWe.cell 6
    have q7 := hWe.cell 7
    have q8 := hWe.cell 8
    have q9 := hWe.cell 9
    have q10 := hWe.cell 10
    simp only [List.getElem?_toArray, List.getElem?_cons_zero, List.getElem?_cons_succ] at q0 q1 q2 q3 q4 q5 q6 q7 q8 q9 q10
    refine bodyPost_ret (v := .tuple #[.agg zeroCmd, .bool false]) ?_ rfl ⟨hBe, .inl ⟨?_, rfl⟩⟩
    · simp [results, Tryd.results41, go_sem, q0, q1, q2, q3, q4, q5, q6, q7, q8, q9, q10, zeroCmd]
    · rw [HOK.out]
      simp [hc2]
  by_cases hc3 : fs.length < l.length ∧ fw = false
  · have x1 : ¬ (l.length : Int) - (fs.length : Int) < 0 := by omega
    have x2 : ¬ (600 : Int) < (l.length : Int) - (fs.length : Int) := by omega
    have x3 : (0 : Int) < (l.length : Int) - (fs.length : Int) := by omega
    obtain ⟨hc3, rfl⟩ := hc3
    go_wp2_with fail
    obtain ⟨hWe, hBe, _⟩ := put11' _ _ _ _ _ _ _ _ _ _ _ (.int .i64 0) (.int .i64 0) (.int .i64 0) (.int .i64 0) (.int .i64 0) (.int .i64 0) (.slice none 0 0) (.int .i64 0) (.int .i64 0) (.bool false) (.int .i64 0) hR.res hR.low (Nat.le_refl _)
    clear r0 r1 r2 r3 r4 r5 r6 r7 r8 r9 r10 rf
    have q0 := hWe.cell 0
    have q1 := hWe.cell 1
    have q2 := hWe.cell 2
    have q3 := hWe.cell 3
    have q4 := hWe.cell 4
    have q5 := hWe.cell 5
    have q6 := hWe.cell 6
    have q7 := hWe.cell 7
    have q8 := hWe.cell 8
    have q9 := hWe.cell 9
    have q10 := hWe.cell 10
    simp only [List.getElem?_toArray, List.getElem?_cons_zero, List.getElem?_cons_succ] at q0 q1 q2 q3 q4 q5 q6 q7 q8 q9 q10
    refine bodyPost_ret (v := .tuple #[.agg zeroCmd, .bool false]) ?_ rfl ⟨hBe, .inl ⟨?_, rfl⟩⟩
    · simp [results, Tryd.results41, go_sem, q0, q1, q2, q3, q4, q5, q6, q7, q8, q9, q10, zeroCmd]
    · rw [HOK.out]
      simp [hc3]
  --OK--
  have x1 : ¬ (l.length : Int) - (fs.length : Int) < 0 := by omega
  have x2 : ¬ (600 : Int) < (l.length : Int) - (fs.length : Int) := by omega
  have hor : (fw = true ∧ (0 : Int) < (l.length : Int) - (fs.length : Int)) ∨ (fw = true ∧ ¬ (0 : Int) < (l.length : Int) - (fs.length : Int)) ∨ (fw = false ∧ ¬ (0 : Int) < (l.length : Int) - (fs.length : Int)) := by
    cases fw
    · exact .inr (.inr ⟨rfl, fun h => hc3 ⟨by omega, rfl⟩⟩)
    · by_cases x3 : (0 : Int) < (l.length : Int) - (fs.length : Int)
      · exact .inl ⟨rfl, x3⟩
      · exact .inr (.inl ⟨rfl, x3⟩)
  have hzip : ((fieldsOf kind).1.zip l).length = fs.length := by rw [List.length_zip, ← HLEN.out]; omega
  have HZIP := Lib.hid hzip
  have HFS := Lib.hid hfs
  have HL := Lib.hid hl
  have hLN : fs.length ≤ l.length := by omega
  clear r0 r1 r2 r3 r4 r5 r6 r7 r8 r9 r10 rf hzip hfs hl hc1 hc2 hc3
  have hR0 : OfRel w (w.heap.size + 1) w.heap.size W.heap.size (.slice A1 fs.length c1) fs (.slice A l.length c) l (setAll (kindCmd kind) (((fieldsOf kind).1.zip l).take 0)) W3 := hR
  clear hR
  rcases hor with ⟨rfl, x3⟩ | ⟨rfl, x3⟩ | ⟨rfl, x3⟩
  all_goals
    go_wp2_with fail
    go_loopw [45] (fun i wr => ∃ j : Nat, j ≤ fs.length ∧ i = .int .i64 j ∧ okAll (((fieldsOf kind).1.zip l).take j) = true ∧ OfRel w (w.heap.size + 1) w.heap.size W.heap.size (.slice A1 fs.length c1) fs (.slice A l.length c) l (setAll (kindCmd kind) (((fieldsOf kind).1.zip l).take j)) wr) (fun i _ => fs.length - (RowKit.intOf i).toNat)
    case atStart => exact ⟨0, Nat.zero_le _, rfl, rfl, hR0⟩
    case round =>
      obtain ⟨j, hj, rfl, hall, hR⟩ := hrel
      clear hR0
      by_cases hlt : j < fs.length
      · obtain ⟨y, f, hfj, rfl, hfl, hy, cg, cs, hbox⟩ := hR.fl.at_ j hlt
        obtain ⟨A9, c9, e9, hl9⟩ := id hR.nums
        cases e9
        obtain ⟨x, rfl, hx, cx⟩ := hl9 j (by omega)
        clear hl9
        have hj0 : (0 : Int) ≤ (j : Int) := by omega
        have hjl : (j : Int) < (l.length : Int) := by omega
        have hxw : x < w.heap.size := by
          obtain ⟨A8, c8, e8, h8⟩ := HL.out
          cases e8
          obtain ⟨g8, eg, hg8, _⟩ := h8 j (by omega)
          cases eg
          exact hg8
        obtain ⟨k, b, o⟩ := f
        have hko : ((fieldsOf kind).1.zip l)[j]? = some ((k, o), l[j]?.getD 0) := by
          have e1 : (fieldsOf kind).1[j]? = some (k, o) := by rw [← HFS.out, List.getElem?_map, hfj]; rfl
          have e2 : l[j]? = some (l[j]?.getD 0) := by rw [List.getElem?_eq_getElem (by omega)]; rfl
          rw [List.getElem?_zip_eq_some]
          exact ⟨e1, e2⟩
        have hokf : okF (k, o) = true := by
          have := List.all_eq_true.1 (fieldsOf_ok kind) (k, o) (by
            have e1 : (fieldsOf kind).1[j]? = some (k, o) := by rw [← HFS.out, List.getElem?_map, hfj]; rfl
            exact List.mem_of_getElem? e1)
          exact this
        have hsn : ((fieldsOf kind).1.zip l).take (j + 1) = ((fieldsOf kind).1.zip l).take j ++ [((k, o), l[j]?.getD 0)] := by rw [List.take_add_one, hko]; rfl
        generalize l[j]?.getD 0 = n at cx hsn
        have HSN := Lib.hid hsn
        have HALL := Lib.hid hall
        generalize hcs0 : setAll (kindCmd kind) (((fieldsOf kind).1.zip l).take j) = cs0 at hR
        have HCS := Lib.hid hcs0
        clear hcs0
        clear hsn hko hfj hall
        cases k
        · simp only [getV, setV, FK.getFn, FK.setFn] at cg cs
          obtain ⟨o1, o2, o3⟩ := okF_int (by decide) hokf
          obtain ⟨m, hm⟩ := hR.ty.2.1 o o1 o2 o3
          have hBl := (Below.refl _ wr).alloc (Nat.le_refl _) (.cells #[.func (.func 97) #[] #[.pointer (some ⟨b, 0, none⟩)], .func (.func 98) #[] #[.pointer (some ⟨b, 0, none⟩)]] 113)
          have hRa := hR.below hBl
          have hWy := Whole.new wr 113 #[.func (.func 97) #[] #[.pointer (some ⟨b, 0, none⟩)], .func (.func 98) #[] #[.pointer (some ⟨b, 0, none⟩)]]
          have ca : (wr.alloc (.cells #[.func (.func 97) #[] #[.pointer (some ⟨b, 0, none⟩)], .func (.func 98) #[] #[.pointer (some ⟨b, 0, none⟩)]] 113)).cell? ⟨x, j, none⟩ = some (.int .i64 n) := (hBl.cell (p := ⟨x, j, none⟩) hx).trans cx
          have hba := hbox.alloc (.cells #[.func (.func 97) #[] #[.pointer (some ⟨b, 0, none⟩)], .func (.func 98) #[] #[.pointer (some ⟨b, 0, none⟩)]] 113)
          have HYZ := Lib.hid (show wr.heap.size ≠ w.heap.size + 1 by have := hR.cmd.lt; omega)
          have HRA := Lib.hid hRa
          have HWY := Lib.hid hWy
          have HCA := Lib.hid ca
          have HBA := Lib.hid hba
          clear hR hBl hRa hWy ca hba hbox
          go_wp2_with fail
          have hRa := HRA.out
          have hWy := HWY.out
          have ca := HCA.out
          have hba := HBA.out
          have hyz : wr.heap.size ≠ w.heap.size + 1 := HYZ.out
          clear HRA HWY HCA HBA HYZ cg cs cx hy hx
          generalize wr.alloc (.cells #[.func (.func 97) #[] #[.pointer (some ⟨b, 0, none⟩)], .func (.func 98) #[] #[.pointer (some ⟨b, 0, none⟩)]] 113) = wa at hRa hWy ca hba ⊢
          generalize wr.heap.size = y2 at hWy hyz ⊢
          have hcz := (hRa.cmd.drew.cell o).trans hm
          have hfz := hRa.cmd.drew.frozen o
          have s1 : wa.drew.cell? ⟨y2, 1, none⟩ = some (.func (.func 98) #[] #[.pointer (some ⟨b, 0, none⟩)]) := hWy.drew.cell 1
          have t1 : (wa.drew.setCell ⟨w.heap.size + 1, o, none⟩ (.int .i64 n)).cell? ⟨y2, 1, none⟩ = some (.func (.func 98) #[] #[.pointer (some ⟨b, 0, none⟩)]) := (hWy.drew.other hyz _).cell 1
          have s2 : wa.drew.cell? ⟨x, j, none⟩ = some (.int .i64 n) := ca
          have t2 : (wa.drew.setCell ⟨w.heap.size + 1, o, none⟩ (.int .i64 n)).cell? ⟨x, j, none⟩ = some (.int .i64 n) := (World.cell?_setCell_other wa.drew ⟨w.heap.size + 1, o, none⟩ ⟨x, j, none⟩ _ (by intro e; cases e; omega)).trans s2
          have hRs := hRa.set .int o n hokf HL.out (by omega) (by omega)
          go_region_held3 (fun w' => w'.cell? ⟨y2, 1, none⟩ = some (.func (.func 98) #[] #[.pointer (some ⟨b, 0, none⟩)]) ∧ w'.cell? ⟨x, j, none⟩ = some (.int .i64 n)) (first | exact ⟨t1, t2⟩ | exact ⟨s1, s2⟩)
            (first
              | (go_at_call 98; refine (set_int b ⟨w.heap.size + 1, o, none⟩ n m wa.drew hba.drew hcz hfz).mono ?_; rintro e w' ⟨rfl, rfl⟩))
          clear s1 s2 t1 t2 hRa hWy ca hba
          go_wp2_with fail
          refine ⟨⟨j + 1, by omega, by go_num, ?_, ?_⟩, by simp [RowKit.intOf]; omega⟩
          · rw [HSN.out]
            unfold okAll
            rw [List.all_append]
            have := HALL.out
            unfold okAll at this
            rw [this]
            simp [okOf]
          · rw [HSN.out, setAll_snoc, HCS.out]
            exact hRs
        · simp only [getV, setV, FK.getFn, FK.setFn] at cg cs
          obtain ⟨o1, o2, o3⟩ := okF_int (by decide) hokf
          obtain ⟨m, hm⟩ := hR.ty.2.1 o o1 o2 o3
          have hBl := (Below.refl _ wr).alloc (Nat.le_refl _) (.cells #[.func (.func 99) #[] #[.pointer (some ⟨b, 0, none⟩)], .func (.func 100) #[] #[.pointer (some ⟨b, 0, none⟩)]] 113)
          have hRa := hR.below hBl
          have hWy := Whole.new wr 113 #[.func (.func 99) #[] #[.pointer (some ⟨b, 0, none⟩)], .func (.func 100) #[] #[.pointer (some ⟨b, 0, none⟩)]]
          have ca : (wr.alloc (.cells #[.func (.func 99) #[] #[.pointer (some ⟨b, 0, none⟩)], .func (.func 100) #[] #[.pointer (some ⟨b, 0, none⟩)]] 113)).cell? ⟨x, j, none⟩ = some (.int .i64 n) := (hBl.cell (p := ⟨x, j, none⟩) hx).trans cx
          have hba := hbox.alloc (.cells #[.func (.func 99) #[] #[.pointer (some ⟨b, 0, none⟩)], .func (.func 100) #[] #[.pointer (some ⟨b, 0, none⟩)]] 113)
          have HYZ := Lib.hid (show wr.heap.size ≠ w.heap.size + 1 by have := hR.cmd.lt; omega)
          have HRA := Lib.hid hRa
          have HWY := Lib.hid hWy
          have HCA := Lib.hid ca
          have HBA := Lib.hid hba
          clear hR hBl hRa hWy ca hba hbox
          go_wp2_with fail
          have hRa := HRA.out
          have hWy := HWY.out
          have ca := HCA.out
          have hba := HBA.out
          have hyz : wr.heap.size ≠ w.heap.size + 1 := HYZ.out
          clear HRA HWY HCA HBA HYZ cg cs cx hy hx
          generalize wr.alloc (.cells #[.func (.func 99) #[] #[.pointer (some ⟨b, 0, none⟩)], .func (.func 100) #[] #[.pointer (some ⟨b, 0, none⟩)]] 113) = wa at hRa hWy ca hba ⊢
          generalize wr.heap.size = y2 at hWy hyz ⊢
          have hcz := (hRa.cmd.drew.cell o).trans hm
          have hfz := hRa.cmd.drew.frozen o
          have s1 : wa.drew.cell? ⟨y2, 1, none⟩ = some (.func (.func 100) #[] #[.pointer (some ⟨b, 0, none⟩)]) := hWy.drew.cell 1
          have t1 : (wa.drew.setCell ⟨w.heap.size + 1, o, none⟩ (.int .i64 n)).cell? ⟨y2, 1, none⟩ = some (.func (.func 100) #[] #[.pointer (some ⟨b, 0, none⟩)]) := (hWy.drew.other hyz _).cell 1
          have s2 : wa.drew.cell? ⟨x, j, none⟩ = some (.int .i64 n) := ca
          have t2 : (wa.drew.setCell ⟨w.heap.size + 1, o, none⟩ (.int .i64 n)).cell? ⟨x, j, none⟩ = some (.int .i64 n) := (World.cell?_setCell_other wa.drew ⟨w.heap.size + 1, o, none⟩ ⟨x, j, none⟩ _ (by intro e; cases e; omega)).trans s2
          have hRs := hRa.set .i64 o n hokf HL.out (by omega) (by omega)
          go_region_held3 (fun w' => w'.cell? ⟨y2, 1, none⟩ = some (.func (.func 100) #[] #[.pointer (some ⟨b, 0, none⟩)]) ∧ w'.cell? ⟨x, j, none⟩ = some (.int .i64 n)) (first | exact ⟨t1, t2⟩ | exact ⟨s1, s2⟩)
            (first
              | (go_at_call 100; refine (set_i64 b ⟨w.heap.size + 1, o, none⟩ n m wa.drew hba.drew hcz hfz).mono ?_; rintro e w' ⟨rfl, rfl⟩))
          clear s1 s2 t1 t2 hRa hWy ca hba
          go_wp2_with fail
          refine ⟨⟨j + 1, by omega, by go_num, ?_, ?_⟩, by simp [RowKit.intOf]; omega⟩
          · rw [HSN.out]
            unfold okAll
            rw [List.all_append]
            have := HALL.out
            unfold okAll at this
            rw [this]
            simp [okOf]
          · rw [HSN.out, setAll_snoc, HCS.out]
            exact hRs
        · simp only [getV, setV, FK.getFn, FK.setFn] at cg cs
          obtain rfl := okF_yes hokf
          obtain ⟨m, hm⟩ := hR.ty.2.2.1
          have hBl := (Below.refl _ wr).alloc (Nat.le_refl _) (.cells #[.func (.func 101) #[] #[.pointer (some ⟨b, 0, none⟩)], .func (.func 102) #[] #[.pointer (some ⟨b, 0, none⟩)]] 113)
          have hRa := hR.below hBl
          have hWy := Whole.new wr 113 #[.func (.func 101) #[] #[.pointer (some ⟨b, 0, none⟩)], .func (.func 102) #[] #[.pointer (some ⟨b, 0, none⟩)]]
          have ca : (wr.alloc (.cells #[.func (.func 101) #[] #[.pointer (some ⟨b, 0, none⟩)], .func (.func 102) #[] #[.pointer (some ⟨b, 0, none⟩)]] 113)).cell? ⟨x, j, none⟩ = some (.int .i64 n) := (hBl.cell (p := ⟨x, j, none⟩) hx).trans cx
          have hba := hbox.alloc (.cells #[.func (.func 101) #[] #[.pointer (some ⟨b, 0, none⟩)], .func (.func 102) #[] #[.pointer (some ⟨b, 0, none⟩)]] 113)
          have HYZ := Lib.hid (show wr.heap.size ≠ w.heap.size + 1 by have := hR.cmd.lt; omega)
          have HRA := Lib.hid hRa
          have HWY := Lib.hid hWy
          have HCA := Lib.hid ca
          have HBA := Lib.hid hba
          clear hR hBl hRa hWy ca hba hbox
          go_wp2_with fail
          have hRa := HRA.out
          have hWy := HWY.out
          have ca := HCA.out
          have hba := HBA.out
          have hyz : wr.heap.size ≠ w.heap.size + 1 := HYZ.out
          clear HRA HWY HCA HBA HYZ cg cs cx hy hx
          generalize wr.alloc (.cells #[.func (.func 101) #[] #[.pointer (some ⟨b, 0, none⟩)], .func (.func 102) #[] #[.pointer (some ⟨b, 0, none⟩)]] 113) = wa at hRa hWy ca hba ⊢
          generalize wr.heap.size = y2 at hWy hyz ⊢
          have hcz := (hRa.cmd.drew.cell 9).trans hm
          have hfz := hRa.cmd.drew.frozen 9
          obtain ⟨v1, hv1⟩ : ∃ v1, (n == 1) = v1 := ⟨_, rfl⟩
          have HV := Lib.hid hv1
          clear hv1
          have s1 : wa.drew.cell? ⟨y2, 1, none⟩ = some (.func (.func 102) #[] #[.pointer (some ⟨b, 0, none⟩)]) := hWy.drew.cell 1
          have t1 : (wa.drew.setCell ⟨w.heap.size + 1, 9, none⟩ (.bool v1)).cell? ⟨y2, 1, none⟩ = some (.func (.func 102) #[] #[.pointer (some ⟨b, 0, none⟩)]) := (hWy.drew.other hyz _).cell 1
          have s2 : wa.drew.cell? ⟨x, j, none⟩ = some (.int .i64 n) := ca
          have t2 : (wa.drew.setCell ⟨w.heap.size + 1, 9, none⟩ (.bool v1)).cell? ⟨x, j, none⟩ = some (.int .i64 n) := (World.cell?_setCell_other wa.drew ⟨w.heap.size + 1, 9, none⟩ ⟨x, j, none⟩ _ (by intro e; cases e; omega)).trans s2
          have hRs := hRa.set .yes 9 n hokf HL.out (by omega) (by omega)
          simp only [valOf, HV.out] at hRs
          cases hb01 : (n == 0 || n == 1)
          · have HB := Lib.hid hb01
            clear hb01
            go_region_held3 (fun w' => w'.cell? ⟨y2, 1, none⟩ = some (.func (.func 102) #[] #[.pointer (some ⟨b, 0, none⟩)]) ∧ w'.cell? ⟨x, j, none⟩ = some (.int .i64 n)) (first | exact ⟨t1, t2⟩ | exact ⟨s1, s2⟩)
              (first
                | (go_at_call 102; refine (set_yes' b ⟨w.heap.size + 1, 9, none⟩ n m false v1 wa.drew hba.drew hcz hfz HB.out HV.out).mono ?_; rintro e w' ⟨rfl, rfl⟩))
            clear s1 s2 t1 t2 hRa hWy ca hba
            have hRs : OfRel w (w.heap.size + 1) w.heap.size W.heap.size (.slice (some ⟨y, 0, none⟩) fs.length c1) fs (.slice (some ⟨x, 0, none⟩) l.length c) l (cs0.setIfInBounds 9 (.bool v1)) (wa.setCell ⟨w.heap.size + 1, 9, none⟩ (.bool v1)).drew := hRs
            generalize (wa.setCell ⟨w.heap.size + 1, 9, none⟩ (.bool v1)).drew = WE at hRs ⊢
            have r0 : WE.cell? ⟨w.heap.size, 0, none⟩ = some (.int .i64 0) := hRs.res.cell 0
            have r1 : WE.cell? ⟨w.heap.size, 1, none⟩ = some (.int .i64 0) := hRs.res.cell 1
            have r2 : WE.cell? ⟨w.heap.size, 2, none⟩ = some (.int .i64 0) := hRs.res.cell 2
            have r3 : WE.cell? ⟨w.heap.size, 3, none⟩ = some (.int .i64 0) := hRs.res.cell 3
            have r4 : WE.cell? ⟨w.heap.size, 4, none⟩ = some (.int .i64 0) := hRs.res.cell 4
            have r5 : WE.cell? ⟨w.heap.size, 5, none⟩ = some (.int .i64 0) := hRs.res.cell 5
            have r6 : WE.cell? ⟨w.heap.size, 6, none⟩ = some (.slice none 0 0) := hRs.res.cell 6
            have r7 : WE.cell? ⟨w.heap.size, 7, none⟩ = some (.int .i64 0) := hRs.res.cell 7
            have r8 : WE.cell? ⟨w.heap.size, 8, none⟩ = some (.int .i64 0) := hRs.res.cell 8
            have r9 : WE.cell? ⟨w.heap.size, 9, none⟩ = some (.bool false) := hRs.res.cell 9
            have r10 : WE.cell? ⟨w.heap.size, 10, none⟩ = some (.int .i64 0) := hRs.res.cell 10
            have rf : ∀ i, WE.frozen? ⟨w.heap.size, i, none⟩ = false := fun i => hRs.res.frozen i
            go_wp2_with fail
            obtain ⟨hWe, hBe, _⟩ := put11' _ _ _ _ _ _ _ _ _ _ _ (.int .i64 0) (.int .i64 0) (.int .i64 0) (.int .i64 0) (.int .i64 0) (.int .i64 0) (.slice none 0 0) (.int .i64 0) (.int .i64 0) (.bool false) (.int .i64 0) hRs.res hRs.low (Nat.le_refl _)
            clear r0 r1 r2 r3 r4 r5 r6 r7 r8 r9 r10 rf
            have q0 := hWe.cell 0
            have q1 := hWe.cell 1
            have q2 := hWe.cell 2
            have q3 := hWe.cell 3
            have q4 := hWe.cell 4
            have q5 := hWe.cell 5
            have q6 := hWe.cell 6
            have q7 := hWe.cell 7
            have q8 := hWe.cell 8
            have q9 := hWe.cell 9
            have q10 := hWe.cell 10
            simp only [List.getElem?_toArray, List.getElem?_cons_zero, List.getElem?_cons_succ] at q0 q1 q2 q3 q4 q5 q6 q7 q8 q9 q10
            refine bodyPost_ret (v := .tuple #[.agg zeroCmd, .bool false]) ?_ rfl ⟨hBe, .inl ⟨?_, rfl⟩⟩
            · simp [results, Tryd.results41, go_sem, q0, q1, q2, q3, q4, q5, q6, q7, q8, q9, q10, zeroCmd]
            · rw [HOK.out]
              have : okAll ((fieldsOf kind).1.zip l) = false := by
                rw [← List.take_append_drop (j + 1) ((fieldsOf kind).1.zip l), HSN.out]
                unfold okAll
                rw [List.all_append, List.all_append]
                simp [okOf, HB.out]
              rw [this, Bool.and_false]
          · have HB := Lib.hid hb01
            clear hb01
            go_region_held3 (fun w' => w'.cell? ⟨y2, 1, none⟩ = some (.func (.func 102) #[] #[.pointer (some ⟨b, 0, none⟩)]) ∧ w'.cell? ⟨x, j, none⟩ = some (.int .i64 n)) (first | exact ⟨t1, t2⟩ | exact ⟨s1, s2⟩)
              (first
                | (go_at_call 102; refine (set_yes' b ⟨w.heap.size + 1, 9, none⟩ n m true v1 wa.drew hba.drew hcz hfz HB.out HV.out).mono ?_; rintro e w' ⟨rfl, rfl⟩))
            clear s1 s2 t1 t2 hRa hWy ca hba
            have hRs : OfRel w (w.heap.size + 1) w.heap.size W.heap.size (.slice (some ⟨y, 0, none⟩) fs.length c1) fs (.slice (some ⟨x, 0, none⟩) l.length c) l (cs0.setIfInBounds 9 (.bool v1)) (wa.setCell ⟨w.heap.size + 1, 9, none⟩ (.bool v1)).drew := hRs
            generalize (wa.setCell ⟨w.heap.size + 1, 9, none⟩ (.bool v1)).drew = WE at hRs ⊢
            go_wp2_with fail
            refine ⟨⟨j + 1, by omega, by go_num, ?_, ?_⟩, by simp [RowKit.intOf]; omega⟩
            · rw [HSN.out]
              unfold okAll
              rw [List.all_append]
              have := HALL.out
              unfold okAll at this
              rw [this]
              simp [okOf, HB.out]
            · rw [HSN.out, setAll_snoc, HCS.out]
              show OfRel _ _ _ _ _ _ _ _ (cs0.setIfInBounds 9 (.bool (n == 1))) _
              rw [HV.out]
              exact hRs
      · obtain rfl : j = fs.length := by omega
        rw [List.take_of_length_le (by rw [HZIP.out]; exact Nat.le_refl _)] at hR hall
        have HALL := Lib.hid hall
        clear hall
        have hres : ofOk kind l = true := by
          rw [HOK.out, HALL.out]
          simp
          omega
        obtain ⟨a0, a1, a2, a3, a4, a5, a7, a8, a9, a10, hcs⟩ := hR.ty.named
        have HCS := Lib.hid hcs
        have hzr := hR.cmd
        rw [hcs] at hzr
        have hrr := hR.res
        have hlr := hR.low
        clear hR hcs
        rcases HFORM.out with e | ⟨g9, c9, e, hcap⟩
        · simp only [Value.slice.injEq] at e
          obtain ⟨rfl, e1, rfl⟩ := e
          have hn0 : fs.length = 0 := by omega
          first
            | (exfalso; omega)
            | (go_wp2_with fail
               refine (Tryd.slices_Clone_nil _ _ wr).mono ?_
               rintro e wc ⟨rfl, rfl⟩
               have hzc := hzr
               have hrc := hrr
               have hlc := hlr
               have hzl := hzc.lt
               have hrl := hrc.lt
               have z0 : wc.cell? ⟨w.heap.size + 1, 0, none⟩ = some (.int .i64 a0) := hzc.cell 0
               have z1 : wc.cell? ⟨w.heap.size + 1, 1, none⟩ = some (.int .i64 a1) := hzc.cell 1
               have z2 : wc.cell? ⟨w.heap.size + 1, 2, none⟩ = some (.int .i64 a2) := hzc.cell 2
               have z3 : wc.cell? ⟨w.heap.size + 1, 3, none⟩ = some (.int .i64 a3) := hzc.cell 3
               have z4 : wc.cell? ⟨w.heap.size + 1, 4, none⟩ = some (.int .i64 a4) := hzc.cell 4
               have z5 : wc.cell? ⟨w.heap.size + 1, 5, none⟩ = some (.int .i64 a5) := hzc.cell 5
               have z6 : wc.cell? ⟨w.heap.size + 1, 6, none⟩ = some (.slice none 0 0) := hzc.cell 6
               have z7 : wc.cell? ⟨w.heap.size + 1, 7, none⟩ = some (.int .i64 a7) := hzc.cell 7
               have z8 : wc.cell? ⟨w.heap.size + 1, 8, none⟩ = some (.int .i64 a8) := hzc.cell 8
               have z9 : wc.cell? ⟨w.heap.size + 1, 9, none⟩ = some (.bool a9) := hzc.cell 9
               have z10 : wc.cell? ⟨w.heap.size + 1, 10, none⟩ = some (.int .i64 a10) := hzc.cell 10
               have r0 : wc.cell? ⟨w.heap.size, 0, none⟩ = some (.int .i64 0) := hrc.cell 0
               have r1 : wc.cell? ⟨w.heap.size, 1, none⟩ = some (.int .i64 0) := hrc.cell 1
               have r2 : wc.cell? ⟨w.heap.size, 2, none⟩ = some (.int .i64 0) := hrc.cell 2
               have r3 : wc.cell? ⟨w.heap.size, 3, none⟩ = some (.int .i64 0) := hrc.cell 3
               have r4 : wc.cell? ⟨w.heap.size, 4, none⟩ = some (.int .i64 0) := hrc.cell 4
               have r5 : wc.cell? ⟨w.heap.size, 5, none⟩ = some (.int .i64 0) := hrc.cell 5
               have r6 : wc.cell? ⟨w.heap.size, 6, none⟩ = some (.slice none 0 0) := hrc.cell 6
               have r7 : wc.cell? ⟨w.heap.size, 7, none⟩ = some (.int .i64 0) := hrc.cell 7
               have r8 : wc.cell? ⟨w.heap.size, 8, none⟩ = some (.int .i64 0) := hrc.cell 8
               have r9 : wc.cell? ⟨w.heap.size, 9, none⟩ = some (.bool false) := hrc.cell 9
               have r10 : wc.cell? ⟨w.heap.size, 10, none⟩ = some (.int .i64 0) := hrc.cell 10
               have zf : ∀ i, wc.frozen? ⟨w.heap.size + 1, i, none⟩ = false := fun i => hzc.frozen i
               have rf : ∀ i, wc.frozen? ⟨w.heap.size, i, none⟩ = false := fun i => hrc.frozen i
               go_wp2_with fail
               obtain ⟨hWe, hBe, hGe⟩ := put11' _ _ _ _ _ _ _ _ _ _ _ (.int .i64 a0) (.int .i64 a1) (.int .i64 a2) (.int .i64 a3) (.int .i64 a4) (.int .i64 a5) (.slice none 0 0) (.int .i64 a7) (.int .i64 a8) (.bool a9) (.int .i64 a10) (hrc.other (p := ⟨w.heap.size + 1, 6, none⟩) (by simp) (.slice none 0 0)) (hlc.setCell (p := ⟨w.heap.size + 1, 6, none⟩) (by simp) (.slice none 0 0)) (Nat.le_refl _)
               clear z0 z1 z2 z3 z4 z5 z6 z7 z8 z9 z10 r0 r1 r2 r3 r4 r5 r6 r7 r8 r9 r10 rf zf
               have q0 := hWe.cell 0
               have q1 := hWe.cell 1
               have q2 := hWe.cell 2
               have q3 := hWe.cell 3
               have q4 := hWe.cell 4
               have q5 := hWe.cell 5
               have q6 := hWe.cell 6
               have q7 := hWe.cell 7
               have q8 := hWe.cell 8
               have q9 := hWe.cell 9
               have q10 := hWe.cell 10
               simp only [List.getElem?_toArray, List.getElem?_cons_zero, List.getElem?_cons_succ] at q0 q1 q2 q3 q4 q5 q6 q7 q8 q9 q10
               refine bodyPost_ret (v := .tuple #[.agg #[(.int .i64 a0), (.int .i64 a1), (.int .i64 a2), (.int .i64 a3), (.int .i64 a4), (.int .i64 a5), (.slice none 0 0), (.int .i64 a7), (.int .i64 a8), (.bool a9), (.int .i64 a10)], .bool true]) ?_ rfl ⟨hBe, .inr ⟨hres, (.slice none 0 0), ?_, ?_⟩⟩
               · simp [results, Tryd.results41, go_sem, q0, q1, q2, q3, q4, q5, q6, q7, q8, q9, q10]
               · unfold ofCells
                 rw [HCS.out]
                 rfl
               · have : l = [] := List.length_eq_zero_iff.1 e1
                 rw [this, List.drop_nil]
                 exact World.ownsRow_nil _ _ _ _)
        · simp only [Value.slice.injEq, true_and] at e
          obtain ⟨rfl, rfl⟩ := e
          by_cases hcf : c = fs.length
          · skip
            first
              | (exfalso; omega)
              | (have hnums := HL.out.below hlr
                 obtain ⟨A8, c8, e8, h8⟩ := hnums
                 cases e8
                 have hcl : ∀ j u, ((l.drop fs.length).map (Value.int .i64))[j]? = some u → wr.cell? ⟨g9, 0 + j, none⟩ = some u := fun j u hu => by
                   have hnil : l.drop fs.length = [] := List.drop_eq_nil_of_le (by omega)
                   rw [hnil] at hu
                   cases hu
                 have hll : ((l.drop fs.length).map (Value.int .i64)).length = (l.length - fs.length) * 1 := by rw [List.length_map, List.length_drop, Nat.mul_one]
                 have HCL := Lib.hid hcl
                 clear h8 hcl
                 obtain ⟨i2, hi2, hz2, hs2, hy2⟩ := info_parts info2'
                 go_wp2_with fail
                 refine (Tryd.slices_Clone i2 (.int .i64 0) 1 8 hi2 hz2 hs2 hy2 rfl (by decide) (fun _ => by kernel_rfl) g9 0 (l.length - fs.length) 0 ((l.drop fs.length).map (Value.int .i64)) wr hll (by unfold maxLen; omega) (by omega) HCL.out (ints_oneCell .i64 (l.drop fs.length))).mono ?_
                 rintro e wc ⟨fv, rfl, hO, _, hbc⟩
                 have hzc := hzr.below hbc hzr.lt
                 have hrc := hrr.below hbc hrr.lt
                 have hlc : Below w.heap.size w wc := hlr.trans (hbc.mono hlr.size)
                 have hzl := hzc.lt
                 have hrl := hrc.lt
                 have hzw := hzr.lt
                 obtain ⟨Af, nf, cf, rfl⟩ := slice_form hO
                 have HO := Lib.hid hO
                 clear hO hbc hzr hrr hlr hll
                 have z0 : wc.cell? ⟨w.heap.size + 1, 0, none⟩ = some (.int .i64 a0) := hzc.cell 0
                 have z1 : wc.cell? ⟨w.heap.size + 1, 1, none⟩ = some (.int .i64 a1) := hzc.cell 1
                 have z2 : wc.cell? ⟨w.heap.size + 1, 2, none⟩ = some (.int .i64 a2) := hzc.cell 2
                 have z3 : wc.cell? ⟨w.heap.size + 1, 3, none⟩ = some (.int .i64 a3) := hzc.cell 3
                 have z4 : wc.cell? ⟨w.heap.size + 1, 4, none⟩ = some (.int .i64 a4) := hzc.cell 4
                 have z5 : wc.cell? ⟨w.heap.size + 1, 5, none⟩ = some (.int .i64 a5) := hzc.cell 5
                 have z6 : wc.cell? ⟨w.heap.size + 1, 6, none⟩ = some (.slice none 0 0) := hzc.cell 6
                 have z7 : wc.cell? ⟨w.heap.size + 1, 7, none⟩ = some (.int .i64 a7) := hzc.cell 7
                 have z8 : wc.cell? ⟨w.heap.size + 1, 8, none⟩ = some (.int .i64 a8) := hzc.cell 8
                 have z9 : wc.cell? ⟨w.heap.size + 1, 9, none⟩ = some (.bool a9) := hzc.cell 9
                 have z10 : wc.cell? ⟨w.heap.size + 1, 10, none⟩ = some (.int .i64 a10) := hzc.cell 10
                 have r0 : wc.cell? ⟨w.heap.size, 0, none⟩ = some (.int .i64 0) := hrc.cell 0
                 have r1 : wc.cell? ⟨w.heap.size, 1, none⟩ = some (.int .i64 0) := hrc.cell 1
                 have r2 : wc.cell? ⟨w.heap.size, 2, none⟩ = some (.int .i64 0) := hrc.cell 2
                 have r3 : wc.cell? ⟨w.heap.size, 3, none⟩ = some (.int .i64 0) := hrc.cell 3
                 have r4 : wc.cell? ⟨w.heap.size, 4, none⟩ = some (.int .i64 0) := hrc.cell 4
                 have r5 : wc.cell? ⟨w.heap.size, 5, none⟩ = some (.int .i64 0) := hrc.cell 5
                 have r6 : wc.cell? ⟨w.heap.size, 6, none⟩ = some (.slice none 0 0) := hrc.cell 6
                 have r7 : wc.cell? ⟨w.heap.size, 7, none⟩ = some (.int .i64 0) := hrc.cell 7
                 have r8 : wc.cell? ⟨w.heap.size, 8, none⟩ = some (.int .i64 0) := hrc.cell 8
                 have r9 : wc.cell? ⟨w.heap.size, 9, none⟩ = some (.bool false) := hrc.cell 9
                 have r10 : wc.cell? ⟨w.heap.size, 10, none⟩ = some (.int .i64 0) := hrc.cell 10
                 have zf : ∀ i, wc.frozen? ⟨w.heap.size + 1, i, none⟩ = false := fun i => hzc.frozen i
                 have rf : ∀ i, wc.frozen? ⟨w.heap.size, i, none⟩ = false := fun i => hrc.frozen i
                 go_wp2_with fail
                 obtain ⟨hWe, hBe, hGe⟩ := put11' _ _ _ _ _ _ _ _ _ _ _ (.int .i64 a0) (.int .i64 a1) (.int .i64 a2) (.int .i64 a3) (.int .i64 a4) (.int .i64 a5) (.slice Af nf cf) (.int .i64 a7) (.int .i64 a8) (.bool a9) (.int .i64 a10) (hrc.other (p := ⟨w.heap.size + 1, 6, none⟩) (by simp) (.slice Af nf cf)) (hlc.setCell (p := ⟨w.heap.size + 1, 6, none⟩) (by simp) (.slice Af nf cf)) (Nat.le_refl _)
                 clear z0 z1 z2 z3 z4 z5 z6 z7 z8 z9 z10 r0 r1 r2 r3 r4 r5 r6 r7 r8 r9 r10 rf zf
                 have q0 := hWe.cell 0
                 have q1 := hWe.cell 1
                 have q2 := hWe.cell 2
                 have q3 := hWe.cell 3
                 have q4 := hWe.cell 4
                 have q5 := hWe.cell 5
                 have q6 := hWe.cell 6
                 have q7 := hWe.cell 7
                 have q8 := hWe.cell 8
                 have q9 := hWe.cell 9
                 have q10 := hWe.cell 10
                 simp only [List.getElem?_toArray, List.getElem?_cons_zero, List.getElem?_cons_succ] at q0 q1 q2 q3 q4 q5 q6 q7 q8 q9 q10
                 refine bodyPost_ret (v := .tuple #[.agg #[(.int .i64 a0), (.int .i64 a1), (.int .i64 a2), (.int .i64 a3), (.int .i64 a4), (.int .i64 a5), (.slice Af nf cf), (.int .i64 a7), (.int .i64 a8), (.bool a9), (.int .i64 a10)], .bool true]) ?_ rfl ⟨hBe, .inr ⟨hres, (.slice Af nf cf), ?_, ?_⟩⟩
                 · simp [results, Tryd.results41, go_sem, q0, q1, q2, q3, q4, q5, q6, q7, q8, q9, q10]
                 · unfold ofCells
                   rw [HCS.out]
                   rfl
                 · have hg1 : wc.grownBy (wc.setCell ⟨w.heap.size + 1, 6, none⟩ (.slice Af nf cf)) (some (w.heap.size + 1)) := grown_set ⟨rfl, rfl, rfl, Nat.le_refl _, fun _ _ _ => rfl⟩ 6 _
                   have hne : ∀ q, q ≤ w.heap.size + 1 → (Value.slice Af nf cf).ownBlock = none ∨ (Value.slice Af nf cf).ownBlock ≠ some q := fun q hq => by
                     cases hv : (Value.slice Af nf cf).ownBlock with
                     | none => exact .inl rfl
                     | some g6 =>
                       have := (HO.out.lt g6 hv).1
                       exact .inr (fun e => by cases e; omega)
                   have hO2 := (HO.out.kept hg1 (hne _ (Nat.le_refl _))).kept hGe (hne _ (by omega))
                   rw [← HLEN.out]
                   have hdl : (l.drop fs.length).length = l.length - fs.length := List.length_drop
                   rw [← hdl] at hO2
                   exact owns_lower hO2 (by omega))
          · skip
            have hnums := HL.out.below hlr
            obtain ⟨A8, c8, e8, h8⟩ := hnums
            cases e8
            have hcl : ∀ j u, ((l.drop fs.length).map (Value.int .i64))[j]? = some u → wr.cell? ⟨g9, fs.length + j, none⟩ = some u := fun j u hu => by
              rw [List.getElem?_map, List.getElem?_drop] at hu
              cases hlj : l[fs.length + j]? with
              | none => rw [hlj] at hu; cases hu
              | some y =>
                rw [hlj] at hu
                simp only [Option.map_some, Option.some.injEq] at hu
                obtain ⟨g7, e7, _, c7⟩ := h8 (fs.length + j) (by
                  rcases Nat.lt_or_ge (fs.length + j) l.length with h | h
                  · exact h
                  · rw [List.getElem?_eq_none h] at hlj; cases hlj)
                cases e7
                rw [c7, hlj, ← hu]
                rfl
            have hll : ((l.drop fs.length).map (Value.int .i64)).length = (l.length - fs.length) * 1 := by rw [List.length_map, List.length_drop, Nat.mul_one]
            have HCL := Lib.hid hcl
            clear h8 hcl
            obtain ⟨i2, hi2, hz2, hs2, hy2⟩ := info_parts info2'
            go_wp2_with fail
            refine (Tryd.slices_Clone i2 (.int .i64 0) 1 8 hi2 hz2 hs2 hy2 rfl (by decide) (fun _ => by kernel_rfl) g9 fs.length (l.length - fs.length) (c - fs.length) ((l.drop fs.length).map (Value.int .i64)) wr hll (by unfold maxLen; omega) (by omega) HCL.out (ints_oneCell .i64 (l.drop fs.length))).mono ?_
            rintro e wc ⟨fv, rfl, hO, _, hbc⟩
            have hzc := hzr.below hbc hzr.lt
            have hrc := hrr.below hbc hrr.lt
            have hlc : Below w.heap.size w wc := hlr.trans (hbc.mono hlr.size)
            have hzl := hzc.lt
            have hrl := hrc.lt
            have hzw := hzr.lt
            obtain ⟨Af, nf, cf, rfl⟩ := slice_form hO
            have HO := Lib.hid hO
            clear hO hbc hzr hrr hlr hll
            have z0 : wc.cell? ⟨w.heap.size + 1, 0, none⟩ = some (.int .i64 a0) := hzc.cell 0
            have z1 : wc.cell? ⟨w.heap.size + 1, 1, none⟩ = some (.int .i64 a1) := hzc.cell 1
            have z2 : wc.cell? ⟨w.heap.size + 1, 2, none⟩ = some (.int .i64 a2) := hzc.cell 2
            have z3 : wc.cell? ⟨w.heap.size + 1, 3, none⟩ = some (.int .i64 a3) := hzc.cell 3
            have z4 : wc.cell? ⟨w.heap.size + 1, 4, none⟩ = some (.int .i64 a4) := hzc.cell 4
            have z5 : wc.cell? ⟨w.heap.size + 1, 5, none⟩ = some (.int .i64 a5) := hzc.cell 5
            have z6 : wc.cell? ⟨w.heap.size + 1, 6, none⟩ = some (.slice none 0 0) := hzc.cell 6
            have z7 : wc.cell? ⟨w.heap.size + 1, 7, none⟩ = some (.int .i64 a7) := hzc.cell 7
            have z8 : wc.cell? ⟨w.heap.size + 1, 8, none⟩ = some (.int .i64 a8) := hzc.cell 8
            have z9 : wc.cell? ⟨w.heap.size + 1, 9, none⟩ = some (.bool a9) := hzc.cell 9
            have z10 : wc.cell? ⟨w.heap.size + 1, 10, none⟩ = some (.int .i64 a10) := hzc.cell 10
            have r0 : wc.cell? ⟨w.heap.size, 0, none⟩ = some (.int .i64 0) := hrc.cell 0
            have r1 : wc.cell? ⟨w.heap.size, 1, none⟩ = some (.int .i64 0) := hrc.cell 1
            have r2 : wc.cell? ⟨w.heap.size, 2, none⟩ = some (.int .i64 0) := hrc.cell 2
            have r3 : wc.cell? ⟨w.heap.size, 3, none⟩ = some (.int .i64 0) := hrc.cell 3
            have r4 : wc.cell? ⟨w.heap.size, 4, none⟩ = some (.int .i64 0) := hrc.cell 4
            have r5 : wc.cell? ⟨w.heap.size, 5, none⟩ = some (.int .i64 0) := hrc.cell 5
            have r6 : wc.cell? ⟨w.heap.size, 6, none⟩ = some (.slice none 0 0) := hrc.cell 6
            have r7 : wc.cell? ⟨w.heap.size, 7, none⟩ = some (.int .i64 0) := hrc.cell 7
            have r8 : wc.cell? ⟨w.heap.size, 8, none⟩ = some (.int .i64 0) := hrc.cell 8
            have r9 : wc.cell? ⟨w.heap.size, 9, none⟩ = some (.bool false) := hrc.cell 9
            have r10 : wc.cell? ⟨w.heap.size, 10, none⟩ = some (.int .i64 0) := hrc.cell 10
            have zf : ∀ i, wc.frozen? ⟨w.heap.size + 1, i, none⟩ = false := fun i => hzc.frozen i
            have rf : ∀ i, wc.frozen? ⟨w.heap.size, i, none⟩ = false := fun i => hrc.frozen i
            go_wp2_with fail
            obtain ⟨hWe, hBe, hGe⟩ := put11' _ _ _ _ _ _ _ _ _ _ _ (.int .i64 a0) (.int .i64 a1) (.int .i64 a2) (.int .i64 a3) (.int .i64 a4) (.int .i64 a5) (.slice Af nf cf) (.int .i64 a7) (.int .i64 a8) (.bool a9) (.int .i64 a10) (hrc.other (p := ⟨w.heap.size + 1, 6, none⟩) (by simp) (.slice Af nf cf)) (hlc.setCell (p := ⟨w.heap.size + 1, 6, none⟩) (by simp) (.slice Af nf cf)) (Nat.le_refl _)
            clear z0 z1 z2 z3 z4 z5 z6 z7 z8 z9 z10 r0 r1 r2 r3 r4 r5 r6 r7 r8 r9 r10 rf zf
            have q0 := hWe.cell 0
            have q1 := hWe.cell 1
            have q2 := hWe.cell 2
            have q3 := hWe.cell 3
            have q4 := hWe.cell 4
            have q5 := hWe.cell 5
            have q6 := hWe.cell 6
            have q7 := hWe.cell 7
            have q8 := hWe.cell 8
            have q9 := hWe.cell 9
            have q10 := hWe.cell 10
            simp only [List.getElem?_toArray, List.getElem?_cons_zero, List.getElem?_cons_succ] at q0 q1 q2 q3 q4 q5 q6 q7 q8 q9 q10
            refine bodyPost_ret (v := .tuple #[.agg #[(.int .i64 a0), (.int .i64 a1), (.int .i64 a2), (.int .i64 a3), (.int .i64 a4), (.int .i64 a5), (.slice Af nf cf), (.int .i64 a7), (.int .i64 a8), (.bool a9), (.int .i64 a10)], .bool true]) ?_ rfl ⟨hBe, .inr ⟨hres, (.slice Af nf cf), ?_, ?_⟩⟩
            · simp [results, Tryd.results41, go_sem, q0, q1, q2, q3, q4, q5, q6, q7, q8, q9, q10]
            · unfold ofCells
              rw [HCS.out]
              rfl
            · have hg1 : wc.grownBy (wc.setCell ⟨w.heap.size + 1, 6, none⟩ (.slice Af nf cf)) (some (w.heap.size + 1)) := grown_set ⟨rfl, rfl, rfl, Nat.le_refl _, fun _ _ _ => rfl⟩ 6 _
              have hne : ∀ q, q ≤ w.heap.size + 1 → (Value.slice Af nf cf).ownBlock = none ∨ (Value.slice Af nf cf).ownBlock ≠ some q := fun q hq => by
                cases hv : (Value.slice Af nf cf).ownBlock with
                | none => exact .inl rfl
                | some g6 =>
                  have := (HO.out.lt g6 hv).1
                  exact .inr (fun e => by cases e; omega)
              have hO2 := (HO.out.kept hg1 (hne _ (Nat.le_refl _))).kept hGe (hne _ (by omega))
              rw [← HLEN.out]
              have hdl : (l.drop fs.length).length = l.length - fs.length := List.length_drop
              rw [← hdl] at hO2
              exact owns_lower hO2 (by omega)
end Go.Proofs.YtdmopagkahgepaaDoor
