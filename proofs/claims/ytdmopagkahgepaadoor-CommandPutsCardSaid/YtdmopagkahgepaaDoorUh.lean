/- command.Parse. -/
import Derived.Test.YtdmopagkahgepaaDoorUy
namespace Go.Proofs.YtdmopagkahgepaaDoor
open Go.RowKit Go.Maps Go.ChangeMaps Go.ChangeShapes

/-- The two sentinels of strconv, as a call begins. -/
def Sent (w : World) : Prop := (∃ tp p, w.var? Tryd.prog "strconv.ErrSyntax" = some #[.iface tp p]) ∧ ∃ tp p, w.var? Tryd.prog "strconv.ErrRange" = some #[.iface tp p]
theorem Sent.below {w w' : World} {B : Nat} (h : Sent w) (hb : Below B w w') (hB : w.heap.size ≤ B) : Sent w' := by
  obtain ⟨⟨t, p, h1⟩, t2, p2, h2⟩ := h
  exact ⟨⟨t, p, var_below h1 hb hB⟩, t2, p2, var_below h2 hb hB⟩

/-- strconv.ParseInt, as Parse uses it. -/
theorem parseInt_any (s : ByteArray) (w : World) (hs : s.size ≤ 100000) (hS : Sent w) :
    Calls Tryd.prog 39 #[.string s, .int .i64 10, .int .i64 64] w fun e w' => Below w.heap.size w w' ∧
      ((∃ v, Lib.parseIntB 64 s.data.toList = .ok v ∧ e = .returned (.tuple #[.int .i64 v, .nilIface])) ∨
       ((∀ v, Lib.parseIntB 64 s.data.toList ≠ .ok v) ∧ ∃ n N, e = .returned (.tuple #[.int .i64 n, .iface 175 (.pointer (some ⟨N, 0, none⟩))]))) := by
  obtain ⟨⟨t1, p1, h1⟩, t2, p2, h2⟩ := hS
  by_cases h0 : ∃ v, Lib.parseIntB 64 s.data.toList = .ok v
  · obtain ⟨v, hp⟩ := h0
    refine (Tryd.strconv_ParseInt_10_at64_ok s (by omega) v hp w).mono ?_
    rintro e w' ⟨rfl, hw⟩
    refine ⟨?_, .inl ⟨v, hp, rfl⟩⟩
    rcases hw with rfl | ⟨t, rfl⟩
    · exact Below.refl _ _
    · exact Go.Joins.below_bytesWorld _ w 5 t (Nat.le_refl _)
  · have hno : ∀ v, Lib.parseIntB 64 s.data.toList ≠ .ok v := fun v e => h0 ⟨v, e⟩
    by_cases hr : Lib.parseIntB 64 s.data.toList = .range
    · refine (Tryd.strconv_ParseInt_10_at64_range_var s (by omega) hr t2 p2 w h2).mono ?_
      rintro e w' ⟨N, rfl, _, _, hb⟩
      exact ⟨hb, .inr ⟨hno, _, N, rfl⟩⟩
    · refine (Tryd.strconv_ParseInt_10_at64_bad_var s (by omega) hno hr t1 p1 w h1).mono ?_
      rintro e w' ⟨N, rfl, _, _, hb⟩
      exact ⟨hb, .inr ⟨hno, _, N, rfl⟩⟩

/-- strconv.FormatInt, of anything. -/
theorem fmt_any (n : Int) (w : World) (hn : Fits n) (hP : Pow w) : Calls Tryd.prog 40 #[.int .i64 n, .int .i64 10] w fun e w' => e = .returned (.string ⟨(Lib.itoa n).toArray⟩) ∧ Below w.heap.size w w' := by
  refine (Tryd.strconv_FormatInt_10 n hn.1 hn.2 w hP).mono ?_
  rintro e w' ⟨rfl, k, os, rfl⟩
  exact ⟨rfl, Lib.below_grow _ w (Nat.le_refl _) k os⟩

/-- What Parse comes to. -/
def ParseEnd (s : ByteArray) (B : Nat) (e : Ending) (w' : World) : Prop :=
  (parseL s.data.toList = none ∧ e = .returned (.tuple #[.agg #[.int .i64 0, .int .i64 0, .int .i64 0, .int .i64 0, .int .i64 0, .int .i64 0, .slice none 0 0, .int .i64 0, .int .i64 0, .bool false, .int .i64 0], .int .i64 6])) ∨
  ∃ x A c, parseL s.data.toList = some x ∧ e = .returned (.tuple #[.agg #[.int .i64 x.kind, .int .i64 x.id, .int .i64 x.ek, .int .i64 x.loan, .int .i64 x.other, .int .i64 x.amount, .slice A x.flows.length c, .int .i64 x.past, .int .i64 x.down, .bool x.bad, .int .i64 x.n], .int .i64 0]) ∧ NumsOwn w' B (.slice A x.flows.length c) x.flows
theorem parse_ws {t : List UInt8} {ws : List ByteArray} (h : ws.map (·.data.toList) = segs t) : parseL t = parseW (ws.getD 0 ByteArray.empty).data.toList ((ws.drop 1).map (·.data.toList)) := by
  unfold parseL
  cases ws with
  | nil => exact absurd h.symm (segs_ne t)
  | cons w r =>
    rw [← h]
    rfl
theorem kindL_bytes (x : ByteArray) : kindL x.data.toList = Lib.idxOfS (wordL.take 15) x := by
  unfold kindL
  rw [Lib.mk_data]
theorem parse_kind_bad {t : List UInt8} {ws : List ByteArray} (h : ws.map (·.data.toList) = segs t) (hk : Lib.idxOfS (wordL.take 15) (ws.getD 0 ByteArray.empty) ≤ 0) : parseL t = none := by
  rw [parse_ws h]
  unfold parseW
  rw [kindL_bytes, if_pos hk]
theorem parse_word_bad {t : List UInt8} {ws : List ByteArray} (h : ws.map (·.data.toList) = segs t) {j : Nat} (hj : j + 1 < ws.length) (hx : numL (ws.getD (1 + j) ByteArray.empty).data.toList = none) : parseL t = none := by
  rw [parse_ws h]
  unfold parseW
  split
  · rfl
  · have hm : (ws.getD (1 + j) ByteArray.empty).data.toList ∈ (ws.drop 1).map (·.data.toList) := by
      refine List.mem_map.2 ⟨_, ?_, rfl⟩
      rw [Nat.add_comm, List.getD_eq_getElem?_getD, List.getElem?_eq_getElem hj]
      show ws[j + 1] ∈ ws.drop 1
      rw [List.mem_drop_iff_getElem]
      exact ⟨j, by omega, by simp [Nat.add_comm]⟩
    rw [numsL_bad hm hx]
theorem parse_all {t : List UInt8} {ws : List ByteArray} {l : List Int} (h : ws.map (·.data.toList) = segs t) (hk : 0 < Lib.idxOfS (wordL.take 15) (ws.getD 0 ByteArray.empty)) (hl : numsL ((ws.drop 1).map (·.data.toList)) = some l) :
    parseL t = if ofOk (Lib.idxOfS (wordL.take 15) (ws.getD 0 ByteArray.empty)) l then some (ofCmd (Lib.idxOfS (wordL.take 15) (ws.getD 0 ByteArray.empty)) l) else none := by
  rw [parse_ws h]
  unfold parseW
  rw [kindL_bytes, if_neg (by omega), hl]
theorem numL_of {x : ByteArray} {v : Int} (h : Lib.parseIntB 64 x.data.toList = .ok v) : numL x.data.toList = if Lib.itoa v = x.data.toList then some v else none := by
  unfold numL
  rw [h]
theorem numL_bad {x : ByteArray} (h : ∀ v, Lib.parseIntB 64 x.data.toList ≠ .ok v) : numL x.data.toList = none := by
  unfold numL
  split
  · rename_i v hv
    exact absurd hv (h v)
  · rfl
theorem segs_len : ∀ (l : List UInt8), ∀ x ∈ segs l, x.length ≤ l.length
  | [], x, hx => by
    rw [segs, List.mem_singleton] at hx
    simp [hx]
  | b :: l, x, hx => by
    have ih := segs_len l
    unfold segs at hx
    split at hx
    · rcases List.mem_cons.1 hx with rfl | hx
      · simp
      · have := ih x hx
        simp only [List.length_cons]
        omega
    · split at hx
      · simp only [List.mem_singleton] at hx
        simp [hx]
      · rename_i y r e
        rw [e] at ih
        rcases List.mem_cons.1 hx with rfl | hx
        · have := ih y (by simp)
          simp only [List.length_cons]
          omega
        · have := ih x (by simp [hx])
          simp only [List.length_cons]
          omega
theorem word_size {s : ByteArray} {ws : List ByteArray} (h : ws.map (·.data.toList) = segs s.data.toList) {i : Nat} (hi : i < ws.length) : (ws.getD i ByteArray.empty).size ≤ s.size := by
  rw [List.getD_eq_getElem?_getD, List.getElem?_eq_getElem hi]
  have hm : (ws[i]).data.toList ∈ segs s.data.toList := by
    rw [← h]
    exact List.mem_map.2 ⟨_, List.getElem_mem hi, rfl⟩
  have := segs_len _ _ hm
  simp only [Array.length_toList, ByteArray.size_data] at this
  exact this
theorem owns_low {w w' : World} {B : Nat} {e : TypeId} {k : Nat} {v : Value} {n : Nat} {xs : List Value} (h : w.ownsRow B e k v n xs) (hb : Below w.heap.size w w') : w'.ownsRow B e k v n xs :=
  h.kept (row := none) ⟨hb.os, hb.tape, hb.output, hb.size, fun j hj _ => hb.block j hj⟩ (by cases v.ownBlock <;> simp)
theorem told_yes {l : List UInt8} {x : ByteArray} (h : l = x.data.toList) : (l == x.toList) = true := by rw [ByteArray.toList_eq, h]; simp
theorem told_no {l : List UInt8} {x : ByteArray} (h : l ≠ x.data.toList) : (l == x.toList) = false := by rw [ByteArray.toList_eq]; simpa using h
/-- Where the loop over a line's words stands. -/
structure ParseRel (ws : List ByteArray) (W : World) (j : Nat) (l : List Int) (v : Value) (wr : World) : Prop where
  low : Below W.heap.size W wr
  own : wr.ownsRow W.heap.size 2 1 v l.length (l.map (Value.int .i64))
  nums : numsL (((ws.drop 1).take j).map (·.data.toList)) = some l
theorem ParseRel.len {ws : List ByteArray} {W : World} {j : Nat} {l : List Int} {v : Value} {wr : World} (h : ParseRel ws W j l v wr) : l.length ≤ j := by
  rw [numsL_len h.nums, List.length_map, List.length_take]
  omega
theorem owns_form {w : World} {B : Nat} {e : TypeId} {v : Value} {n : Nat} {xs : List Value} (h : w.ownsRow B e 1 v n xs) : v = .slice none 0 0 ∨ ∃ g c, v = .slice (some ⟨g, 0, none⟩) n c ∧ n ≤ c := by
  rcases h.2 with ⟨e, _⟩ | ⟨g, cap, _, e, _, _, hc, _⟩
  · exact .inl e
  · exact .inr ⟨g, cap, e, hc⟩
set_option maxRecDepth 100000 in
set_option maxHeartbeats 4000000 in
theorem parse_any (s : ByteArray) (w : World) (hs : s.size ≤ 20000) (hP : Pow w) (hS : Sent w) (hsh : ∀ w', Below w.heap.size w w' → w'.ShapedOpen Tryd.prog) :
    Calls Tryd.prog 17 #[.string s] w fun e w' => Below w.heap.size w w' ∧ ParseEnd s w.heap.size e w' := by
  go_enter Tryd.func17, Tryd.ntmps17
  go_wp2_with fail
  have hB1 := (Below.refl w.heap.size w).alloc (Nat.le_refl _) (.cells zeroCmd 47)
  refine (Tryd.strings_Split_shaped s ⟨#[32]⟩ _ (hsh _ hB1) (by omega) (by decide)).mono ?_
  rintro e w1 ⟨rfl, rfl⟩
  go_wp2_with fail
  have hlen : (Lib.splitB ⟨#[32]⟩ 0 (Lib.countB s ⟨#[32]⟩) s).length = Lib.countB s ⟨#[32]⟩ + 1 := Lib.splitB_all _ (by decide) 0 _ s rfl
  have hcnt : Lib.countB s ⟨#[32]⟩ ≤ 20001 := Nat.le_trans (Lib.countB_le ⟨#[32]⟩ (by decide) s.size s (Nat.le_refl _)) (by omega)
  have hR0 : Whole (w.alloc (Obj.cells zeroCmd 47)) w.heap.size 47 zeroCmd := Whole.new w 47 zeroCmd
  generalize hW : (w.alloc (Obj.cells zeroCmd 47)) = wa at hB1 hR0 ⊢
  have hsz : wa.heap.size = w.heap.size + 1 := by rw [← hW]; exact World.size_alloc _ _
  have HSEG := Lib.hid (split_segs s)
  have hcells : ∀ j, j < Lib.countB s ⟨#[32]⟩ + 1 → (wa.alloc (Obj.cells (List.map Value.string (Lib.splitB ⟨#[32]⟩ 0 (Lib.countB s ⟨#[32]⟩) s)).toArray 9)).cell? ⟨w.heap.size + 1, j, none⟩ = some (.string ((Lib.splitB ⟨#[32]⟩ 0 (Lib.countB s ⟨#[32]⟩) s).getD j ByteArray.empty)) := by
    intro j hj
    have h := cells_new wa (List.map Value.string (Lib.splitB ⟨#[32]⟩ 0 (Lib.countB s ⟨#[32]⟩) s)).toArray 9 j (.string ((Lib.splitB ⟨#[32]⟩ 0 (Lib.countB s ⟨#[32]⟩) s).getD j ByteArray.empty)) (by
      simp [List.getElem?_eq_getElem (show j < (Lib.splitB ⟨#[32]⟩ 0 (Lib.countB s ⟨#[32]⟩) s).length by omega)])
    rw [add_zero_eq, hsz] at h
    exact h
  have h0 := hcells 0 (by omega)
  generalize hws : Lib.splitB ⟨#[32]⟩ 0 (Lib.countB s ⟨#[32]⟩) s = ws at *
  generalize hb : wa.alloc (Obj.cells (List.map Value.string ws).toArray 9) = wb at *
  have hn1 : (0 : Int) < ((Lib.countB s ⟨#[32]⟩ + 1 : Nat) : Int) := by omega
  have hn3 : 0 < Lib.countB s ⟨#[32]⟩ + 1 := by omega
  have hn4 : (0 : Int) ≤ ((Lib.countB s ⟨#[32]⟩ + 1 : Nat) : Int) := by omega
  have hn2 : Lib.countB s ⟨#[32]⟩ + 1 ≤ 20002 := by omega
  generalize Lib.countB s ⟨#[32]⟩ + 1 = nw at *
  have hdz : wb.drew.heap.size = wb.heap.size := rfl
  have hzb : wb.heap.size = w.heap.size + 2 := by rw [← hb]; simp [hsz]
  have hcells2 : ∀ w2, wb.drew.alloc (Obj.cells wordCells 9) = w2 → ∀ j, j < nw → w2.cell? ⟨w.heap.size + 1, j, none⟩ = some (.string (ws.getD j ByteArray.empty)) := by
    rintro w2 rfl j hj
    have h : wb.drew.cell? ⟨w.heap.size + 1, j, none⟩ = some (.string (ws.getD j ByteArray.empty)) := hcells j hj
    have hb1 := (Below.refl wb.drew.heap.size wb.drew).alloc (Nat.le_refl _) (.cells wordCells 9)
    exact cell_later hb1 h
  have hwc : ∀ w2, wb.drew.alloc (Obj.cells wordCells 9) = w2 → ∀ j, j < wordL.length → w2.cell? ⟨w.heap.size + 2, 0 + j, none⟩ = some (.string (wordL.getD j ByteArray.empty)) := by
    rintro w2 rfl j hj
    have h := cells_new wb.drew wordCells 9 j (.string (wordL.getD j ByteArray.empty)) (by
      simp [wordCells, List.getElem?_eq_getElem hj])
    rw [add_zero_eq, show wb.drew.heap.size = w.heap.size + 2 from hzb] at h
    rw [Nat.zero_add]
    exact h
  have hl15 : 15 ≤ wordL.length := Nat.le_refl 15
  have hbw : ∀ w2, wb.drew.alloc (Obj.cells wordCells 9) = w2 → Below w.heap.size w w2 := by
    rintro w2 rfl
    rw [← hb]
    have hB2 := hB1.alloc (Nat.le_trans (Nat.le_succ _) (Nat.le_of_eq hsz.symm)) (Obj.cells (List.map Value.string ws).toArray 9)
    have hB3 : Below w.heap.size w (wa.alloc (Obj.cells (List.map Value.string ws).toArray 9)).drew := hB2.drew
    exact hB3.alloc hB3.size (.cells wordCells 9)
  have h0 : wb.drew.cell? ⟨w.heap.size + 1, 0, none⟩ = some (.string (ws.getD 0 ByteArray.empty)) := h0
  have hrw : ∀ w2, wb.drew.alloc (Obj.cells wordCells 9) = w2 → Whole w2 w.heap.size 47 zeroCmd := by
    rintro w2 rfl
    rw [← hb]
    have h1 : Whole (wa.alloc (Obj.cells (List.map Value.string ws).toArray 9)).drew w.heap.size 47 zeroCmd := hR0.alloc _
    exact h1.alloc _
  have hc0 : ∀ w2, wb.drew.alloc (Obj.cells wordCells 9) = w2 → w2.cell? ⟨w.heap.size + 1, 0, none⟩ = some (.string (ws.getD 0 ByteArray.empty)) := fun w2 h => hcells2 w2 h 0 hn3
  generalize hx0 : ws.getD 0 ByteArray.empty = x0 at h0 hc0
  go_region_held3 (fun w' => w'.cell? ⟨w.heap.size + 1, 0, none⟩ = some (.string x0)) (first | exact H1 | exact h0)
    (first
      | (go_at_call 38; refine (words_any _).mono ?_; rintro e w2 ⟨rfl, hw2⟩; have H1 := hc0 w2 hw2; have HWC := hwc w2 hw2; have HBW := hbw w2 hw2; have HRW := hrw w2 hw2; have HALLC := hcells2 w2 hw2)
      | (go_at_call 37; refine (Tryd.slices_Index_string (w.heap.size + 2) 0 15 15 wordL x0 w2 hl15 (by decide) HWC).mono ?_; rintro e w3 ⟨he, rfl⟩; generalize hkd : Lib.idxOfS (wordL.take 15) x0 = kd at he; subst he))
  have r0 : w3.cell? ⟨w.heap.size, 0, none⟩ = some (.int .i64 0) := HRW.cell 0
  have r1 : w3.cell? ⟨w.heap.size, 1, none⟩ = some (.int .i64 0) := HRW.cell 1
  have r2 : w3.cell? ⟨w.heap.size, 2, none⟩ = some (.int .i64 0) := HRW.cell 2
  have r3 : w3.cell? ⟨w.heap.size, 3, none⟩ = some (.int .i64 0) := HRW.cell 3
  have r4 : w3.cell? ⟨w.heap.size, 4, none⟩ = some (.int .i64 0) := HRW.cell 4
  have r5 : w3.cell? ⟨w.heap.size, 5, none⟩ = some (.int .i64 0) := HRW.cell 5
  have r6 : w3.cell? ⟨w.heap.size, 6, none⟩ = some (.slice none 0 0) := HRW.cell 6
  have r7 : w3.cell? ⟨w.heap.size, 7, none⟩ = some (.int .i64 0) := HRW.cell 7
  have r8 : w3.cell? ⟨w.heap.size, 8, none⟩ = some (.int .i64 0) := HRW.cell 8
  have r9 : w3.cell? ⟨w.heap.size, 9, none⟩ = some (.bool false) := HRW.cell 9
  have r10 : w3.cell? ⟨w.heap.size, 10, none⟩ = some (.int .i64 0) := HRW.cell 10
  have rf := fun i => HRW.frozen i
  have HX0 := Lib.hid hx0
  have HKD := Lib.hid hkd
  clear hx0 hkd
  by_cases hk : kd ≤ 0
  · go_wp2_with fail
    obtain ⟨hWe, hBe, _⟩ := put11' _ _ _ _ _ _ _ _ _ _ _ (.int .i64 0) (.int .i64 0) (.int .i64 0) (.int .i64 0) (.int .i64 0) (.int .i64 0) (.slice none 0 0) (.int .i64 0) (.int .i64 0) (.bool false) (.int .i64 0) HRW HBW (Nat.le_refl _)
    clear r0 r1 r2 r3 r4 r5 r6 r7 r8 r9 r10 rf
    have q0 := hWe.cell 0
    have q1 := hWe.cell 1
    have q2 := hWe.cell 2
    have q3 := hWe.cell 3
    have q4 := hWe.cell 4
    have q5 := hWe.cell 5
    have q6 := hWe.cell 6
    have q7 := hWe.cell 7
    have q8 := hWe.cell 8
    have q9 := hWe.cell 9
    have q10 := hWe.cell 10
    simp only [List.getElem?_toArray, List.getElem?_cons_zero, List.getElem?_cons_succ] at q0 q1 q2 q3 q4 q5 q6 q7 q8 q9 q10
    refine bodyPost_ret (v := .tuple #[.agg #[.int .i64 0, .int .i64 0, .int .i64 0, .int .i64 0, .int .i64 0, .int .i64 0, .slice none 0 0, .int .i64 0, .int .i64 0, .bool false, .int .i64 0], .int .i64 6]) ?_ rfl ⟨hBe, .inl ⟨parse_kind_bad HSEG.out (by rw [HX0.out, HKD.out]; exact hk), rfl⟩⟩
    simp [results, Tryd.results17, go_sem, q0, q1, q2, q3, q4, q5, q6, q7, q8, q9, q10]
  have hkp : 0 < kd := by omega
  have hk14 : kd ≤ 14 := by
    have h := kind_some (w := x0.data.toList) (by rw [kindL_bytes, HKD.out]; exact hkp)
    rw [kindL_bytes, HKD.out] at h
    exact h.1
  obtain ⟨m, rfl⟩ : ∃ m, nw = m + 1 := ⟨nw - 1, by omega⟩
  have hwl : ws.length = m + 1 := hlen
  have HWL := Lib.hid hwl
  have HB3 := Lib.hid HBW
  have HR3 := Lib.hid HRW
  have HAL := Lib.hid HALLC
  have hgz : w.heap.size + 1 < w3.heap.size := World.block_lt_of_cell? w3 ⟨w.heap.size + 1, 0, none⟩ H1
  clear r0 r1 r2 r3 r4 r5 r6 r7 r8 r9 r10 rf hwl hlen hcells hcells2 hwc hbw hrw hc0 h0 HBW HRW HALLC HWC H1 hB1 hR0 hk
  have hsl : ∃ o, (∀ w' : World, (Instr.slice 66 (.slice (some ⟨w.heap.size + 1, 0, none⟩) (m + 1) (m + 1)) (some (.int .i64 1)) none none).run Tryd.prog w' = .ok (.slice (some ⟨w.heap.size + 1, o, none⟩) m m) w') ∧ ∀ j, j < m → o + j = 1 + j := by
    rcases Nat.eq_zero_or_pos m with rfl | hm
    · exact ⟨0, fun w' => by kernel_rfl, fun j h => by omega⟩
    · have h1 : (1 : Int) ≤ ((m + 1 : Nat) : Int) := by omega
      have hne : ¬ (m + 1 = 1) := by omega
      refine ⟨1, fun w' => ?_, fun j h => rfl⟩
      simp [Instr.slice, Instr.sliceBounds, Instr.sliceBound, asIntOf, go_sem]
      rw [if_pos (by omega), if_neg (by omega)]
  obtain ⟨o, hsl, ho⟩ := hsl
  have HO := Lib.hid ho
  clear ho hws hb hW hw2 h0 hdz hzb hl15 hcnt hsz
  go_wp2_with fail
  have hm0 : ParseRel ws w3 0 [] (.slice none 0 0) w3 := ⟨Below.refl _ _, World.ownsRow_nil _ _ _ _, rfl⟩
  go_loopw [6, 26] (fun v i wr => ∃ (j : Nat) (l : List Int), j ≤ m ∧ i = .int .i64 j ∧ ParseRel ws w3 j l v wr) (fun _ i _ => m - (RowKit.intOf i).toNat)
  case atStart => exact ⟨0, [], Nat.zero_le _, rfl, hm0⟩
  case round =>
    obtain ⟨j, l, hj, rfl, hR⟩ := hrel
    clear hm0
    by_cases hlt : j < m
    · have c0 : wr.cell? ⟨w.heap.size + 1, o + j, none⟩ = some (.string (ws.getD (1 + j) ByteArray.empty)) := by
        rw [HO.out j hlt]
        exact (hR.low.cell (p := ⟨w.heap.size + 1, _, none⟩) hgz).trans (HAL.out (1 + j) (by omega))
      have hsz : (ws.getD (1 + j) ByteArray.empty).size ≤ 100000 := Nat.le_trans (word_size HSEG.out (by rw [HWL.out]; omega)) (by omega)
      have hbadw : numL (ws.getD (1 + j) ByteArray.empty).data.toList = none → parseL s.data.toList = none := fun h => parse_word_bad HSEG.out (by rw [HWL.out]; omega) h
      have hnext : (((ws.drop 1).take (j + 1)).map (·.data.toList)) = (((ws.drop 1).take j).map (·.data.toList)) ++ [(ws.getD (1 + j) ByteArray.empty).data.toList] := by
        have h1 : j < (ws.drop 1).length := by rw [List.length_drop, HWL.out]; omega
        rw [List.take_succ_eq_append_getElem h1, List.map_append, List.getElem_drop]
        have h2 : 1 + j < ws.length := by rw [HWL.out]; omega
        rw [List.getD_eq_getElem?_getD, List.getElem?_eq_getElem h2]
        rfl
      have HBAD := Lib.hid hbadw
      have HNX := Lib.hid hnext
      clear hbadw hnext
      generalize ws.getD (1 + j) ByteArray.empty = x at c0 hsz HBAD HNX
      have hSr : Sent wr := hS.below (HB3.out.trans (hR.low.mono HB3.out.size)) (Nat.le_refl _)
      have hPr : Pow wr := hP.below (HB3.out.trans (hR.low.mono HB3.out.size)) (Nat.le_refl _)
      have hgr : w.heap.size + 1 < wr.heap.size := Nat.lt_of_lt_of_le hgz hR.low.size
      have hj0 : (0 : Int) ≤ (j : Int) := by omega
      have hjl : (j : Int) < (m : Int) := by omega
      have hll := hR.len
      have HRR := Lib.hid hR
      clear hR
      go_wp2_with fail
      refine (parseInt_any x wr hsz hSr).mono ?_
      rintro e w4 ⟨hb4, ⟨v, hv, rfl⟩ | ⟨hv, n, N, rfl⟩⟩
      · have hlow4 : Below w3.heap.size w3 w4 := HRR.out.low.trans (hb4.mono HRR.out.low.size)
        have hbd := Lib.parseIntB_bounds hv
        have hfit : Fits v := by unfold Fits; omega
        have hP4 : Pow w4 := hPr.below hb4 (Nat.le_refl _)
        have HV := Lib.hid hv
        have HL4 := Lib.hid hlow4
        have HB4 := Lib.hid hb4
        clear hv hlow4 hbd hb4 c0 hgr
        go_wp2_with fail
        refine (fmt_any v w4 hfit hP4).mono ?_
        rintro e w5 ⟨rfl, hb5⟩
        have HB5 := Lib.hid hb5
        clear hb5
        by_cases hi : Lib.itoa v = x.data.toList
        · have hnum := numL_of HV.out
          rw [if_pos hi] at hnum
          have hns := numsL_snoc HRR.out.nums hnum
          rw [← HNX.out] at hns
          have HNS := Lib.hid hns
          have hbb := told_yes hi
          have hlow5 : Below w3.heap.size w3 w5 := HL4.out.trans (HB5.out.mono HL4.out.size)
          have hO5 := (owns_low (owns_low HRR.out.own HB4.out) HB5.out).alloc (.cells #[.int .i64 v] 2)
          have hlow6 := hlow5.alloc hlow5.size (.cells #[.int .i64 v] 2)
          have hz6 := hlow6.size
          have HO5 := Lib.hid hO5
          have HL6 := Lib.hid hlow6
          clear hi hnum hns hlow5 hO5 hlow6
          obtain ⟨i2, hi2, hz2, hs2, hy2⟩ := info_parts info2'
          go_wp2_with (at_builtin; refine wpList_append_own_at _ rfl _ _ 41 rfl w3.heap.size 2 i2 (.int .i64 0) 1 8 Tryd.underlying41 hi2 hz2 hs2 hy2 rfl (by decide) _ l.length (l.map (Value.int .i64)) rfl HO5.out ⟨w5.heap.size, 0, none⟩ 1 1 [.int .i64 v] rfl rfl (cells_new w5 #[.int .i64 v] 2) (ints_oneCell .i64 [v]) (by unfold maxLen; omega) (by omega) hz6 ?_; intro v' w6 hown' hgrow _ _)
          refine ⟨⟨j + 1, l ++ [v], by omega, by go_num, ⟨HL6.out.grown hgrow hz6 (fun i e => (HO5.out.lt i e).1), ?_, HNS.out⟩⟩, by simp [RowKit.intOf]; omega⟩
          rw [List.length_append, List.map_append]
          exact hown'
        · have hnum := numL_of HV.out
          rw [if_neg hi] at hnum
          have hbb := told_no hi
          have hbd := HBAD.out hnum
          have HBD := Lib.hid hbd
          have hlow5 : Below w3.heap.size w3 w5 := HL4.out.trans (HB5.out.mono HL4.out.size)
          have HR5 := HR3.out.below hlow5 HR3.out.lt
          have HB := HB3.out.trans (hlow5.mono HB3.out.size)
          clear hi hnum hbd hlow5
          have r0 : w5.cell? ⟨w.heap.size, 0, none⟩ = some (.int .i64 0) := HR5.cell 0
          have r1 : w5.cell? ⟨w.heap.size, 1, none⟩ = some (.int .i64 0) := HR5.cell 1
          have r2 : w5.cell? ⟨w.heap.size, 2, none⟩ = some (.int .i64 0) := HR5.cell 2
          have r3 : w5.cell? ⟨w.heap.size, 3, none⟩ = some (.int .i64 0) := HR5.cell 3
          have r4 : w5.cell? ⟨w.heap.size, 4, none⟩ = some (.int .i64 0) := HR5.cell 4
          have r5 : w5.cell? ⟨w.heap.size, 5, none⟩ = some (.int .i64 0) := HR5.cell 5
          have r6 : w5.cell? ⟨w.heap.size, 6, none⟩ = some (.slice none 0 0) := HR5.cell 6
          have r7 : w5.cell? ⟨w.heap.size, 7, none⟩ = some (.int .i64 0) := HR5.cell 7
          have r8 : w5.cell? ⟨w.heap.size, 8, none⟩ = some (.int .i64 0) := HR5.cell 8
          have r9 : w5.cell? ⟨w.heap.size, 9, none⟩ = some (.bool false) := HR5.cell 9
          have r10 : w5.cell? ⟨w.heap.size, 10, none⟩ = some (.int .i64 0) := HR5.cell 10
          have rf := fun i => HR5.frozen i
          go_wp2_with fail
          obtain ⟨hWe, hBe, _⟩ := put11' _ _ _ _ _ _ _ _ _ _ _ (.int .i64 0) (.int .i64 0) (.int .i64 0) (.int .i64 0) (.int .i64 0) (.int .i64 0) (.slice none 0 0) (.int .i64 0) (.int .i64 0) (.bool false) (.int .i64 0) HR5 HB (Nat.le_refl _)
          clear r0 r1 r2 r3 r4 r5 r6 r7 r8 r9 r10 rf
          have q0 := hWe.cell 0
          have q1 := hWe.cell 1
          have q2 := hWe.cell 2
          have q3 := hWe.cell 3
          have q4 := hWe.cell 4
          have q5 := hWe.cell 5
          have q6 := hWe.cell 6
          have q7 := hWe.cell 7
          have q8 := hWe.cell 8
          have q9 := hWe.cell 9
          have q10 := hWe.cell 10
          simp only [List.getElem?_toArray, List.getElem?_cons_zero, List.getElem?_cons_succ] at q0 q1 q2 q3 q4 q5 q6 q7 q8 q9 q10
          refine bodyPost_ret (v := .tuple #[.agg #[.int .i64 0, .int .i64 0, .int .i64 0, .int .i64 0, .int .i64 0, .int .i64 0, .slice none 0 0, .int .i64 0, .int .i64 0, .bool false, .int .i64 0], .int .i64 6]) ?_ rfl ⟨hBe, .inl ⟨HBD.out, rfl⟩⟩
          simp [results, Tryd.results17, go_sem, q0, q1, q2, q3, q4, q5, q6, q7, q8, q9, q10]
      · have HV := Lib.hid hv
        clear hv
        have hlow4 : Below w3.heap.size w3 w4 := HRR.out.low.trans (hb4.mono HRR.out.low.size)
        have HR4 := HR3.out.below hlow4 HR3.out.lt
        have HB := HB3.out.trans (hlow4.mono HB3.out.size)
        have r0 : w4.cell? ⟨w.heap.size, 0, none⟩ = some (.int .i64 0) := HR4.cell 0
        have r1 : w4.cell? ⟨w.heap.size, 1, none⟩ = some (.int .i64 0) := HR4.cell 1
        have r2 : w4.cell? ⟨w.heap.size, 2, none⟩ = some (.int .i64 0) := HR4.cell 2
        have r3 : w4.cell? ⟨w.heap.size, 3, none⟩ = some (.int .i64 0) := HR4.cell 3
        have r4 : w4.cell? ⟨w.heap.size, 4, none⟩ = some (.int .i64 0) := HR4.cell 4
        have r5 : w4.cell? ⟨w.heap.size, 5, none⟩ = some (.int .i64 0) := HR4.cell 5
        have r6 : w4.cell? ⟨w.heap.size, 6, none⟩ = some (.slice none 0 0) := HR4.cell 6
        have r7 : w4.cell? ⟨w.heap.size, 7, none⟩ = some (.int .i64 0) := HR4.cell 7
        have r8 : w4.cell? ⟨w.heap.size, 8, none⟩ = some (.int .i64 0) := HR4.cell 8
        have r9 : w4.cell? ⟨w.heap.size, 9, none⟩ = some (.bool false) := HR4.cell 9
        have r10 : w4.cell? ⟨w.heap.size, 10, none⟩ = some (.int .i64 0) := HR4.cell 10
        have rf := fun i => HR4.frozen i
        go_wp2_with fail
        obtain ⟨hWe, hBe, _⟩ := put11' _ _ _ _ _ _ _ _ _ _ _ (.int .i64 0) (.int .i64 0) (.int .i64 0) (.int .i64 0) (.int .i64 0) (.int .i64 0) (.slice none 0 0) (.int .i64 0) (.int .i64 0) (.bool false) (.int .i64 0) HR4 HB (Nat.le_refl _)
        clear r0 r1 r2 r3 r4 r5 r6 r7 r8 r9 r10 rf
        have q0 := hWe.cell 0
        have q1 := hWe.cell 1
        have q2 := hWe.cell 2
        have q3 := hWe.cell 3
        have q4 := hWe.cell 4
        have q5 := hWe.cell 5
        have q6 := hWe.cell 6
        have q7 := hWe.cell 7
        have q8 := hWe.cell 8
        have q9 := hWe.cell 9
        have q10 := hWe.cell 10
        simp only [List.getElem?_toArray, List.getElem?_cons_zero, List.getElem?_cons_succ] at q0 q1 q2 q3 q4 q5 q6 q7 q8 q9 q10
        refine bodyPost_ret (v := .tuple #[.agg #[.int .i64 0, .int .i64 0, .int .i64 0, .int .i64 0, .int .i64 0, .int .i64 0, .slice none 0 0, .int .i64 0, .int .i64 0, .bool false, .int .i64 0], .int .i64 6]) ?_ rfl ⟨hBe, .inl ⟨HBAD.out (numL_bad HV.out), rfl⟩⟩
        simp [results, Tryd.results17, go_sem, q0, q1, q2, q3, q4, q5, q6, q7, q8, q9, q10]
    · obtain rfl : j = m := by omega
      have hnums := hR.nums
      rw [List.take_of_length_le (by rw [List.length_drop, HWL.out]; omega)] at hnums
      have hpa := parse_all HSEG.out (by rw [HX0.out, HKD.out]; exact hkp) hnums
      rw [HX0.out, HKD.out] at hpa
      have HPA := Lib.hid hpa
      have hll := hR.len
      have hO := hR.own
      have hN := NumsAt.of_owns hO
      have hform := owns_form hO
      have hlow := HB3.out.trans (hR.low.mono HB3.out.size)
      have HRr := HR3.out.below hR.low HR3.out.lt
      have HLOW := Lib.hid hlow
      have HRR := Lib.hid HRr
      obtain ⟨Al, cl, rfl, _⟩ := id hN
      have HN := Lib.hid hN
      have HF := Lib.hid hform
      clear hR hnums hpa hO hN hform hlow HRr hlt
      go_wp2_with fail
      refine (of_cmd kd _ l wr ⟨by omega, hk14⟩ HN.out (by omega) HF.out).mono ?_
      rintro e w5 ⟨hb5, ⟨h0, rfl⟩ | ⟨x, A, cp, hok, hx, rfl, hN5⟩⟩
      · have HR5 := (HRR.out.below hb5 HRR.out.lt)
        have HB := HLOW.out.trans (hb5.mono HLOW.out.size)
        have hrl := HR5.lt
        have HH0 := Lib.hid h0
        have HB5 := Lib.hid hb5
        clear h0 hb5
        have r0 : w5.cell? ⟨w.heap.size, 0, none⟩ = some (.int .i64 0) := HR5.cell 0
        have r1 : w5.cell? ⟨w.heap.size, 1, none⟩ = some (.int .i64 0) := HR5.cell 1
        have r2 : w5.cell? ⟨w.heap.size, 2, none⟩ = some (.int .i64 0) := HR5.cell 2
        have r3 : w5.cell? ⟨w.heap.size, 3, none⟩ = some (.int .i64 0) := HR5.cell 3
        have r4 : w5.cell? ⟨w.heap.size, 4, none⟩ = some (.int .i64 0) := HR5.cell 4
        have r5 : w5.cell? ⟨w.heap.size, 5, none⟩ = some (.int .i64 0) := HR5.cell 5
        have r6 : w5.cell? ⟨w.heap.size, 6, none⟩ = some (.slice none 0 0) := HR5.cell 6
        have r7 : w5.cell? ⟨w.heap.size, 7, none⟩ = some (.int .i64 0) := HR5.cell 7
        have r8 : w5.cell? ⟨w.heap.size, 8, none⟩ = some (.int .i64 0) := HR5.cell 8
        have r9 : w5.cell? ⟨w.heap.size, 9, none⟩ = some (.bool false) := HR5.cell 9
        have r10 : w5.cell? ⟨w.heap.size, 10, none⟩ = some (.int .i64 0) := HR5.cell 10
        have rf := fun i => HR5.frozen i
        go_wp2_with fail
        obtain ⟨hWe0, hBe0, _⟩ := put11' _ _ _ _ _ _ _ _ _ _ _ (.int .i64 0) (.int .i64 0) (.int .i64 0) (.int .i64 0) (.int .i64 0) (.int .i64 0) (.slice none 0 0) (.int .i64 0) (.int .i64 0) (.bool false) (.int .i64 0) HR5 HB (Nat.le_refl _)
        have hWe := hWe0.alloc (.cells #[.int .i64 0, .int .i64 0, .int .i64 0, .int .i64 0, .int .i64 0, .int .i64 0, .slice none 0 0, .int .i64 0, .int .i64 0, .bool false, .int .i64 0] 47)
        have hBe := hBe0.alloc hBe0.size (.cells #[.int .i64 0, .int .i64 0, .int .i64 0, .int .i64 0, .int .i64 0, .int .i64 0, .slice none 0 0, .int .i64 0, .int .i64 0, .bool false, .int .i64 0] 47)
        clear r0 r1 r2 r3 r4 r5 r6 r7 r8 r9 r10 rf hWe0 hBe0
        have q0 := hWe.cell 0
        have q1 := hWe.cell 1
        have q2 := hWe.cell 2
        have q3 := hWe.cell 3
        have q4 := hWe.cell 4
        have q5 := hWe.cell 5
        have q6 := hWe.cell 6
        have q7 := hWe.cell 7
        have q8 := hWe.cell 8
        have q9 := hWe.cell 9
        have q10 := hWe.cell 10
        simp only [List.getElem?_toArray, List.getElem?_cons_zero, List.getElem?_cons_succ] at q0 q1 q2 q3 q4 q5 q6 q7 q8 q9 q10
        refine bodyPost_ret (v := .tuple #[.agg #[.int .i64 0, .int .i64 0, .int .i64 0, .int .i64 0, .int .i64 0, .int .i64 0, .slice none 0 0, .int .i64 0, .int .i64 0, .bool false, .int .i64 0], .int .i64 6]) ?_ rfl ⟨hBe, .inl ⟨by rw [HPA.out, HH0.out]; rfl, rfl⟩⟩
        simp [results, Tryd.results17, go_sem, q0, q1, q2, q3, q4, q5, q6, q7, q8, q9, q10]
      · have HR5 := (HRR.out.below hb5 HRR.out.lt)
        have HB := HLOW.out.trans (hb5.mono HLOW.out.size)
        have hrl := HR5.lt
        have HOK := Lib.hid hok
        have HX := Lib.hid hx
        have HB5 := Lib.hid hb5
        have HN5 := Lib.hid hN5
        have hrw := HRR.out.lt
        have HRW := Lib.hid hrw
        clear hok hx hb5 hN5 hrw
        have r0 : w5.cell? ⟨w.heap.size, 0, none⟩ = some (.int .i64 0) := HR5.cell 0
        have r1 : w5.cell? ⟨w.heap.size, 1, none⟩ = some (.int .i64 0) := HR5.cell 1
        have r2 : w5.cell? ⟨w.heap.size, 2, none⟩ = some (.int .i64 0) := HR5.cell 2
        have r3 : w5.cell? ⟨w.heap.size, 3, none⟩ = some (.int .i64 0) := HR5.cell 3
        have r4 : w5.cell? ⟨w.heap.size, 4, none⟩ = some (.int .i64 0) := HR5.cell 4
        have r5 : w5.cell? ⟨w.heap.size, 5, none⟩ = some (.int .i64 0) := HR5.cell 5
        have r6 : w5.cell? ⟨w.heap.size, 6, none⟩ = some (.slice none 0 0) := HR5.cell 6
        have r7 : w5.cell? ⟨w.heap.size, 7, none⟩ = some (.int .i64 0) := HR5.cell 7
        have r8 : w5.cell? ⟨w.heap.size, 8, none⟩ = some (.int .i64 0) := HR5.cell 8
        have r9 : w5.cell? ⟨w.heap.size, 9, none⟩ = some (.bool false) := HR5.cell 9
        have r10 : w5.cell? ⟨w.heap.size, 10, none⟩ = some (.int .i64 0) := HR5.cell 10
        have rf := fun i => HR5.frozen i
        go_wp2_with fail
        obtain ⟨hWe0, hBe0, hGe⟩ := put11' _ _ _ _ _ _ _ _ _ _ _ (.int .i64 x.kind) (.int .i64 x.id) (.int .i64 x.ek) (.int .i64 x.loan) (.int .i64 x.other) (.int .i64 x.amount) (.slice A x.flows.length cp) (.int .i64 x.past) (.int .i64 x.down) (.bool x.bad) (.int .i64 x.n) HR5 HB (Nat.le_refl _)
        have hWe := hWe0.alloc (.cells #[.int .i64 x.kind, .int .i64 x.id, .int .i64 x.ek, .int .i64 x.loan, .int .i64 x.other, .int .i64 x.amount, .slice A x.flows.length cp, .int .i64 x.past, .int .i64 x.down, .bool x.bad, .int .i64 x.n] 47)
        have hBe := hBe0.alloc hBe0.size (.cells #[.int .i64 x.kind, .int .i64 x.id, .int .i64 x.ek, .int .i64 x.loan, .int .i64 x.other, .int .i64 x.amount, .slice A x.flows.length cp, .int .i64 x.past, .int .i64 x.down, .bool x.bad, .int .i64 x.n] 47)
        have hNe := ((HN5.out.grown hGe HRW.out).below ((Below.refl _ _).alloc (Nat.le_refl _) (.cells #[.int .i64 x.kind, .int .i64 x.id, .int .i64 x.ek, .int .i64 x.loan, .int .i64 x.other, .int .i64 x.amount, .slice A x.flows.length cp, .int .i64 x.past, .int .i64 x.down, .bool x.bad, .int .i64 x.n] 47))).lower HLOW.out.size
        clear r0 r1 r2 r3 r4 r5 r6 r7 r8 r9 r10 rf hWe0 hBe0
        have q0 := hWe.cell 0
        have q1 := hWe.cell 1
        have q2 := hWe.cell 2
        have q3 := hWe.cell 3
        have q4 := hWe.cell 4
        have q5 := hWe.cell 5
        have q6 := hWe.cell 6
        have q7 := hWe.cell 7
        have q8 := hWe.cell 8
        have q9 := hWe.cell 9
        have q10 := hWe.cell 10
        simp only [List.getElem?_toArray, List.getElem?_cons_zero, List.getElem?_cons_succ] at q0 q1 q2 q3 q4 q5 q6 q7 q8 q9 q10
        refine bodyPost_ret (v := .tuple #[.agg #[.int .i64 x.kind, .int .i64 x.id, .int .i64 x.ek, .int .i64 x.loan, .int .i64 x.other, .int .i64 x.amount, .slice A x.flows.length cp, .int .i64 x.past, .int .i64 x.down, .bool x.bad, .int .i64 x.n], .int .i64 0]) ?_ rfl ⟨hBe, .inr ⟨x, A, cp, ?_, rfl, ?_⟩⟩
        · simp [results, Tryd.results17, go_sem, q0, q1, q2, q3, q4, q5, q6, q7, q8, q9, q10]
        · rw [HPA.out, HOK.out, HX.out]
          rfl
        · exact hNe
end Go.Proofs.YtdmopagkahgepaaDoor
