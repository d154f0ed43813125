/- lombardref24.command: what bears flows. -/
import Derived.Test.YtdmopagkahgepaaDoorXi
namespace Go.Proofs.YtdmopagkahgepaaDoor
open Go.RowKit Go.Maps Go.ChangeMaps Go.ChangeShapes
/-- append([]int64{}, flows...), in a list of operations. -/
theorem wpList_copy_flows {w : World} {ops : Array Oper} {rest : List Oper} {o : Oper} {a : Act} {Q : Exit → Act → World → Prop} (hgd : o.guard = none) (s x : Operand)
    (ho : o.op = .call { callee := .builtin .append, args := #[s, x], argTypes := #[41, 41] })
    (base : Nat) (v : Value) (hs : a.eval s = v) (hown : NumsOwn w base v []) (A : Option Addr) (cap : Nat) (xs : List Int) (hx : a.eval x = .slice A xs.length cap) (hf : FlowsIn w A cap xs) (hl : xs.length ≤ 90000) (hb : base ≤ w.heap.size)
    (h : ∀ A' c' w', NumsOwn w' base (.slice A' xs.length c') xs → w.grownBy w' v.ownBlock → wpList Tryd.prog ops Q rest (a.put o.dst (.slice A' xs.length c')) w') : wpList Tryd.prog ops Q (o :: rest) a w :=
  wpList_append_flows hgd s x ho base v [] hs hown A cap xs hx hf (by simp; omega) hb h
theorem below2 (w : World) (z i j : Nat) (x y : Value) : Below z w ((w.setCell ⟨z, i, none⟩ x).setCell ⟨z, j, none⟩ y).drew :=
  (((Below.refl z w).setCell (p := ⟨z, i, none⟩) (Nat.le_refl _) x).setCell (p := ⟨z, j, none⟩) (Nat.le_refl _) y).drew
theorem below1 (w : World) (z i : Nat) (x : Value) : Below z w (w.setCell ⟨z, i, none⟩ x).drew := ((Below.refl z w).setCell (p := ⟨z, i, none⟩) (Nat.le_refl _) x).drew
theorem kept2 {w : World} {g z i1 i2 : Nat} {v1 v2 : Value} (h1 : w.cell? ⟨g, i1, none⟩ = some v1) (h2 : w.cell? ⟨g, i2, none⟩ = some v2) (hg : g < z) (i j : Nat) (x y : Value) :
    ((w.setCell ⟨z, i, none⟩ x).setCell ⟨z, j, none⟩ y).drew.cell? ⟨g, i1, none⟩ = some v1 ∧ ((w.setCell ⟨z, i, none⟩ x).setCell ⟨z, j, none⟩ y).drew.cell? ⟨g, i2, none⟩ = some v2 :=
  ⟨ncell h1 hg (below2 w z i j x y), ncell h2 hg (below2 w z i j x y)⟩
theorem kept1 {w : World} {g z i1 i2 : Nat} {v1 v2 : Value} (h1 : w.cell? ⟨g, i1, none⟩ = some v1) (h2 : w.cell? ⟨g, i2, none⟩ = some v2) (hg : g < z) (i : Nat) (x : Value) :
    (w.setCell ⟨z, i, none⟩ x).drew.cell? ⟨g, i1, none⟩ = some v1 ∧ (w.setCell ⟨z, i, none⟩ x).drew.cell? ⟨g, i2, none⟩ = some v2 :=
  ⟨ncell h1 hg (below1 w z i x), ncell h2 hg (below1 w z i x)⟩

set_option maxRecDepth 100000 in
set_option maxHeartbeats 8000000 in
theorem cmd_8_bad (g cap : Nat) (a b c d e : Int) (w : World) (hg : g < w.heap.size) (c0 : w.cell? ⟨g, 0, none⟩ = some (.int .i64 a)) (c1 : w.cell? ⟨g, 1, none⟩ = some (.int .i64 b)) (_c2 : w.cell? ⟨g, 2, none⟩ = some (.int .i64 c)) (_c3 : w.cell? ⟨g, 3, none⟩ = some (.int .i64 d)) (c4 : w.cell? ⟨g, 4, none⟩ = some (.int .i64 e)) (h0 : e ≠ 0) (h1 : e ≠ 1) :
    Calls Tryd.prog 44 #[.int .i64 8, .slice (some ⟨g, 0, none⟩) 5 cap] w fun e w' => e = .returned (.tuple #[.agg #[.int .i64 0, .int .i64 0, .int .i64 0, .int .i64 0, .int .i64 0, .int .i64 0, .slice none 0 0, .int .i64 0, .int .i64 0, .bool false, .int .i64 0], .bool false]) ∧ Below w.heap.size w w' := by
  have n1 : g ≠ w.heap.size := by omega
  have n2 : g ≠ w.heap.size + 1 := by omega
  have b0 : (e != 0) = true := by simpa using h0
  have b1 : (e != 1) = true := by simpa using h1
  go_enter Tryd.func44, Tryd.ntmps44
  go_wp2_with fail
  refine bodyPost_ret (v := .tuple #[.agg #[.int .i64 0, .int .i64 0, .int .i64 0, .int .i64 0, .int .i64 0, .int .i64 0, .slice none 0 0, .int .i64 0, .int .i64 0, .bool false, .int .i64 0], .bool false]) (by simp [results, Tryd.results44, go_sem]) rfl ⟨rfl, ((Below.refl _ w).alloc (Nat.le_refl _) _).alloc (by simp) _⟩

set_option maxRecDepth 100000 in
set_option maxHeartbeats 8000000 in
theorem cmd_1 (g cap : Nat) (a b c : Int) (r : List Int) (w : World) (hg : g < w.heap.size) (c0 : w.cell? ⟨g, 0, none⟩ = some (.int .i64 a)) (c1 : w.cell? ⟨g, 1, none⟩ = some (.int .i64 b)) (c2 : w.cell? ⟨g, 2, none⟩ = some (.int .i64 c)) (hr : ∀ i, i < r.length → w.cell? ⟨g, 3 + i, none⟩ = some (.int .i64 (r[i]?.getD 0))) (hn : r.length ≤ 600) (hcap : r.length + 3 ≤ cap) :
    Calls Tryd.prog 44 #[.int .i64 1, .slice (some ⟨g, 0, none⟩) (r.length + 3) cap] w fun e w' => ∃ A' c', e = .returned (.tuple #[.agg #[.int .i64 1, .int .i64 a, .int .i64 1, .int .i64 b, .int .i64 0, .int .i64 c, .slice A' r.length c', .int .i64 0, .int .i64 0, .bool false, .int .i64 0], .bool true]) ∧ NumsOwn w' w.heap.size (.slice A' r.length c') r ∧ Below w.heap.size w w' := by
  have n1 : g ≠ w.heap.size := by omega
  have n2 : g ≠ w.heap.size + 1 := by omega
  obtain ⟨ad, hsl, hF⟩ : ∃ ad, (∀ w' : World, (Instr.slice 41 (.slice (some ⟨g, 0, none⟩) (r.length + 3) cap) (some (.int .i64 3)) none none).run Tryd.prog w' = .ok (.slice (some ad) r.length (cap - 3)) w') ∧ FlowsIn w (some ad) (cap - 3) r := by
    by_cases hc : cap = 3
    · refine ⟨⟨g, 0, none⟩, fun w' => ?_, ⟨⟨_, _, rfl, fun i hi => by omega⟩, fun h => by cases h⟩⟩
      simp [Instr.slice, Instr.sliceBounds, Instr.sliceBound, asIntOf, go_sem]
      rw [if_pos (by omega), if_pos (by omega)]
    · refine ⟨⟨g, 3, none⟩, fun w' => ?_, ⟨⟨_, _, rfl, fun i hi => ⟨g, 3, rfl, hg, hr i hi⟩⟩, fun h => by cases h⟩⟩
      simp [Instr.slice, Instr.sliceBounds, Instr.sliceBound, asIntOf, go_sem]
      rw [if_pos (by omega), if_neg (by omega)]
  have HF := Lib.hid (hF.below (newB (.cells #[.int .i64 0, .int .i64 0, .int .i64 0, .int .i64 0, .int .i64 0, .int .i64 0, .slice none 0 0, .int .i64 0, .int .i64 0, .bool false, .int .i64 0] 54) (.cells #[.int .i64 1, .int .i64 a, .int .i64 1, .int .i64 b, .int .i64 0, .int .i64 c, .slice none 0 0, .int .i64 0, .int .i64 0, .bool false, .int .i64 0] 54) w))
  have HFw := Lib.hid hF
  clear hF hr
  have h1 : ¬ ((r.length + 3 : Nat) : Int) < 3 := by omega
  have h3 : ¬ (600 : Int) < ((r.length + 3 : Nat) : Int) - 3 := by omega
  have HR := Lib.hid (newR #[.int .i64 0, .int .i64 0, .int .i64 0, .int .i64 0, .int .i64 0, .int .i64 0, .slice none 0 0, .int .i64 0, .int .i64 0, .bool false, .int .i64 0] (.cells #[.int .i64 1, .int .i64 a, .int .i64 1, .int .i64 b, .int .i64 0, .int .i64 c, .slice none 0 0, .int .i64 0, .int .i64 0, .bool false, .int .i64 0] 54) w)
  have HC := Lib.hid (newC #[.int .i64 1, .int .i64 a, .int .i64 1, .int .i64 b, .int .i64 0, .int .i64 c, .slice none 0 0, .int .i64 0, .int .i64 0, .bool false, .int .i64 0] (.cells #[.int .i64 0, .int .i64 0, .int .i64 0, .int .i64 0, .int .i64 0, .int .i64 0, .slice none 0 0, .int .i64 0, .int .i64 0, .bool false, .int .i64 0] 54) w)
  have HB := Lib.hid (newB (.cells #[.int .i64 0, .int .i64 0, .int .i64 0, .int .i64 0, .int .i64 0, .int .i64 0, .slice none 0 0, .int .i64 0, .int .i64 0, .bool false, .int .i64 0] 54) (.cells #[.int .i64 1, .int .i64 a, .int .i64 1, .int .i64 b, .int .i64 0, .int .i64 c, .slice none 0 0, .int .i64 0, .int .i64 0, .bool false, .int .i64 0] 54) w)
  rcases Nat.eq_zero_or_pos r.length with hz | hz
  · have h2 : ¬ (3 : Int) < ((r.length + 3 : Nat) : Int) := by omega
    clear hz
    go_enter Tryd.func44, Tryd.ntmps44
    go_upto_region 24 with fail
    generalize ((w.alloc (.cells #[.int .i64 0, .int .i64 0, .int .i64 0, .int .i64 0, .int .i64 0, .int .i64 0, .slice none 0 0, .int .i64 0, .int .i64 0, .bool false, .int .i64 0] 54)).alloc (.cells #[.int .i64 1, .int .i64 a, .int .i64 1, .int .i64 b, .int .i64 0, .int .i64 c, .slice none 0 0, .int .i64 0, .int .i64 0, .bool false, .int .i64 0] 54)) = W at HR HC HB HF ⊢
    have hzl := HC.out.lt
    have hrl := HR.out.lt
    have hgl : g < W.heap.size := by omega
    clear c0 c1 c2
    have HE := Lib.hid (NumsOwn.empty W W.heap.size (Nat.le_refl _))
    have HFd := Lib.hid (HF.out.below ((Below.refl _ W).alloc (Nat.le_refl _) (.cells #[] 2)))
    have HCa := Lib.hid (HC.out.alloc (.cells #[] 2))
    have HRa := Lib.hid (HR.out.alloc (.cells #[] 2))
    have HBa := Lib.hid (HB.out.alloc HB.out.size (.cells #[] 2))
    have hWs := HB.out.size
    have HBZ := Lib.hid (World.alloc_le W (.cells #[] 2))
    have HNE := Lib.hid (show ∀ q, q < W.heap.size → some q ≠ (Value.slice (some ⟨W.heap.size, 0, none⟩) 0 0).ownBlock from fun q hq e => by
      have e' : q = W.heap.size := Option.some.inj e
      omega)
    clear HC HR HB HF
    go_wp2_with (at_builtin; refine wpList_copy_flows rfl _ _ rfl W.heap.size _ rfl HE.out (some ad) (cap - 3) r rfl HFd.out (by omega) HBZ.out ?_; intro A' c' w3 hN3 hg3; have HC3 := Lib.hid (HCa.out.grown hg3 (HNE.out _ hzl)); have HR3 := Lib.hid (HRa.out.grown hg3 (HNE.out _ hrl)); have HN3 := Lib.hid hN3; have HG3 := Lib.hid hg3; clear hN3 hg3; obtain ⟨e0, e1, e2, e3, e4, e5, e6, e7, e8, e9, e10⟩ := elev HC3.out; obtain ⟨z0, z1, z2, z3, z4, z5, z6, z7, z8, z9, z10⟩ := elev HR3.out; have rf := fun i => HC3.out.frozen i; have zf := fun i => HR3.out.frozen i; have hzl3 := HC3.out.lt; have hrl3 := HR3.out.lt)
    obtain ⟨hWe, hBe, hGe⟩ := put11t (x0 := .int .i64 1) (x1 := .int .i64 a) (x2 := .int .i64 1) (x3 := .int .i64 b) (x4 := .int .i64 0) (x5 := .int .i64 c) (x6 := .slice A' r.length c') (x7 := .int .i64 0) (x8 := .int .i64 0) (x9 := .bool false) (x10 := .int .i64 0) (HR3.out.other (p := ⟨w.heap.size + 1, 6, none⟩) (by show w.heap.size ≠ w.heap.size + 1; omega) (.slice A' r.length c')) ((HBa.out.grown HG3.out (Nat.le_trans hWs HBZ.out) (fun i e => by cases e; exact hWs)).setCell (p := ⟨w.heap.size + 1, 6, none⟩) (Nat.le_succ _) (.slice A' r.length c')) (Nat.le_refl _)
    have hNe := ((HN3.out.grown (grown_set (w := w3) (w' := w3) (r := w.heap.size + 1) ⟨rfl, rfl, rfl, Nat.le_refl _, fun _ _ _ => rfl⟩ 6 (.slice A' r.length c')) hzl).grown hGe hrl).lower hWs
    obtain ⟨q0, q1, q2, q3, q4, q5, q6, q7, q8, q9, q10⟩ := elev hWe
    refine bodyPost_ret (v := .tuple #[.agg #[.int .i64 1, .int .i64 a, .int .i64 1, .int .i64 b, .int .i64 0, .int .i64 c, .slice A' r.length c', .int .i64 0, .int .i64 0, .bool false, .int .i64 0], .bool true]) ?_ rfl ⟨A', c', rfl, hNe, hBe⟩
    clear e0 e1 e2 e3 e4 e5 e6 e7 e8 e9 e10 z0 z1 z2 z3 z4 z5 z6 z7 z8 z9 z10 rf zf
    simp [results, Tryd.results44, go_sem, q0, q1, q2, q3, q4, q5, q6, q7, q8, q9, q10]
  · have h2 : (3 : Int) < ((r.length + 3 : Nat) : Int) := by omega
    clear hz
    go_enter Tryd.func44, Tryd.ntmps44
    go_upto_region 24 with fail
    generalize ((w.alloc (.cells #[.int .i64 0, .int .i64 0, .int .i64 0, .int .i64 0, .int .i64 0, .int .i64 0, .slice none 0 0, .int .i64 0, .int .i64 0, .bool false, .int .i64 0] 54)).alloc (.cells #[.int .i64 1, .int .i64 a, .int .i64 1, .int .i64 b, .int .i64 0, .int .i64 c, .slice none 0 0, .int .i64 0, .int .i64 0, .bool false, .int .i64 0] 54)) = W at HR HC HB HF ⊢
    have hzl := HC.out.lt
    have hrl := HR.out.lt
    have hgl : g < W.heap.size := by omega
    clear c0 c1 c2
    have HE := Lib.hid (NumsOwn.empty W W.heap.size (Nat.le_refl _))
    have HFd := Lib.hid (HF.out.below ((Below.refl _ W).alloc (Nat.le_refl _) (.cells #[] 2)))
    have HCa := Lib.hid (HC.out.alloc (.cells #[] 2))
    have HRa := Lib.hid (HR.out.alloc (.cells #[] 2))
    have HBa := Lib.hid (HB.out.alloc HB.out.size (.cells #[] 2))
    have hWs := HB.out.size
    have HBZ := Lib.hid (World.alloc_le W (.cells #[] 2))
    have HNE := Lib.hid (show ∀ q, q < W.heap.size → some q ≠ (Value.slice (some ⟨W.heap.size, 0, none⟩) 0 0).ownBlock from fun q hq e => by
      have e' : q = W.heap.size := Option.some.inj e
      omega)
    clear HC HR HB HF
    go_wp2_with (at_builtin; refine wpList_copy_flows rfl _ _ rfl W.heap.size _ rfl HE.out (some ad) (cap - 3) r rfl HFd.out (by omega) HBZ.out ?_; intro A' c' w3 hN3 hg3; have HC3 := Lib.hid (HCa.out.grown hg3 (HNE.out _ hzl)); have HR3 := Lib.hid (HRa.out.grown hg3 (HNE.out _ hrl)); have HN3 := Lib.hid hN3; have HG3 := Lib.hid hg3; clear hN3 hg3; obtain ⟨e0, e1, e2, e3, e4, e5, e6, e7, e8, e9, e10⟩ := elev HC3.out; obtain ⟨z0, z1, z2, z3, z4, z5, z6, z7, z8, z9, z10⟩ := elev HR3.out; have rf := fun i => HC3.out.frozen i; have zf := fun i => HR3.out.frozen i; have hzl3 := HC3.out.lt; have hrl3 := HR3.out.lt)
    obtain ⟨hWe, hBe, hGe⟩ := put11t (x0 := .int .i64 1) (x1 := .int .i64 a) (x2 := .int .i64 1) (x3 := .int .i64 b) (x4 := .int .i64 0) (x5 := .int .i64 c) (x6 := .slice A' r.length c') (x7 := .int .i64 0) (x8 := .int .i64 0) (x9 := .bool false) (x10 := .int .i64 0) (HR3.out.other (p := ⟨w.heap.size + 1, 6, none⟩) (by show w.heap.size ≠ w.heap.size + 1; omega) (.slice A' r.length c')) ((HBa.out.grown HG3.out (Nat.le_trans hWs HBZ.out) (fun i e => by cases e; exact hWs)).setCell (p := ⟨w.heap.size + 1, 6, none⟩) (Nat.le_succ _) (.slice A' r.length c')) (Nat.le_refl _)
    have hNe := ((HN3.out.grown (grown_set (w := w3) (w' := w3) (r := w.heap.size + 1) ⟨rfl, rfl, rfl, Nat.le_refl _, fun _ _ _ => rfl⟩ 6 (.slice A' r.length c')) hzl).grown hGe hrl).lower hWs
    obtain ⟨q0, q1, q2, q3, q4, q5, q6, q7, q8, q9, q10⟩ := elev hWe
    refine bodyPost_ret (v := .tuple #[.agg #[.int .i64 1, .int .i64 a, .int .i64 1, .int .i64 b, .int .i64 0, .int .i64 c, .slice A' r.length c', .int .i64 0, .int .i64 0, .bool false, .int .i64 0], .bool true]) ?_ rfl ⟨A', c', rfl, hNe, hBe⟩
    clear e0 e1 e2 e3 e4 e5 e6 e7 e8 e9 e10 z0 z1 z2 z3 z4 z5 z6 z7 z8 z9 z10 rf zf
    simp [results, Tryd.results44, go_sem, q0, q1, q2, q3, q4, q5, q6, q7, q8, q9, q10]
set_option maxRecDepth 100000 in
set_option maxHeartbeats 8000000 in
theorem cmd_6 (g cap : Nat) (a b : Int) (r : List Int) (w : World) (hg : g < w.heap.size) (c0 : w.cell? ⟨g, 0, none⟩ = some (.int .i64 a)) (c1 : w.cell? ⟨g, 1, none⟩ = some (.int .i64 b)) (hr : ∀ i, i < r.length → w.cell? ⟨g, 2 + i, none⟩ = some (.int .i64 (r[i]?.getD 0))) (hn : r.length ≤ 600) (hcap : r.length + 2 ≤ cap) :
    Calls Tryd.prog 44 #[.int .i64 6, .slice (some ⟨g, 0, none⟩) (r.length + 2) cap] w fun e w' => ∃ A' c', e = .returned (.tuple #[.agg #[.int .i64 6, .int .i64 a, .int .i64 6, .int .i64 b, .int .i64 0, .int .i64 0, .slice A' r.length c', .int .i64 0, .int .i64 0, .bool false, .int .i64 0], .bool true]) ∧ NumsOwn w' w.heap.size (.slice A' r.length c') r ∧ Below w.heap.size w w' := by
  have n1 : g ≠ w.heap.size := by omega
  have n2 : g ≠ w.heap.size + 1 := by omega
  obtain ⟨ad, hsl, hF⟩ : ∃ ad, (∀ w' : World, (Instr.slice 41 (.slice (some ⟨g, 0, none⟩) (r.length + 2) cap) (some (.int .i64 2)) none none).run Tryd.prog w' = .ok (.slice (some ad) r.length (cap - 2)) w') ∧ FlowsIn w (some ad) (cap - 2) r := by
    by_cases hc : cap = 2
    · refine ⟨⟨g, 0, none⟩, fun w' => ?_, ⟨⟨_, _, rfl, fun i hi => by omega⟩, fun h => by cases h⟩⟩
      simp [Instr.slice, Instr.sliceBounds, Instr.sliceBound, asIntOf, go_sem]
      rw [if_pos (by omega), if_pos (by omega)]
    · refine ⟨⟨g, 2, none⟩, fun w' => ?_, ⟨⟨_, _, rfl, fun i hi => ⟨g, 2, rfl, hg, hr i hi⟩⟩, fun h => by cases h⟩⟩
      simp [Instr.slice, Instr.sliceBounds, Instr.sliceBound, asIntOf, go_sem]
      rw [if_pos (by omega), if_neg (by omega)]
  have HF := Lib.hid (hF.below (newB (.cells #[.int .i64 0, .int .i64 0, .int .i64 0, .int .i64 0, .int .i64 0, .int .i64 0, .slice none 0 0, .int .i64 0, .int .i64 0, .bool false, .int .i64 0] 54) (.cells #[.int .i64 6, .int .i64 a, .int .i64 6, .int .i64 b, .int .i64 0, .int .i64 0, .slice none 0 0, .int .i64 0, .int .i64 0, .bool false, .int .i64 0] 54) w))
  have HFw := Lib.hid hF
  clear hF hr
  have h1 : ¬ ((r.length + 2 : Nat) : Int) < 2 := by omega
  have h3 : ¬ (600 : Int) < ((r.length + 2 : Nat) : Int) - 2 := by omega
  have HR := Lib.hid (newR #[.int .i64 0, .int .i64 0, .int .i64 0, .int .i64 0, .int .i64 0, .int .i64 0, .slice none 0 0, .int .i64 0, .int .i64 0, .bool false, .int .i64 0] (.cells #[.int .i64 6, .int .i64 a, .int .i64 6, .int .i64 b, .int .i64 0, .int .i64 0, .slice none 0 0, .int .i64 0, .int .i64 0, .bool false, .int .i64 0] 54) w)
  have HC := Lib.hid (newC #[.int .i64 6, .int .i64 a, .int .i64 6, .int .i64 b, .int .i64 0, .int .i64 0, .slice none 0 0, .int .i64 0, .int .i64 0, .bool false, .int .i64 0] (.cells #[.int .i64 0, .int .i64 0, .int .i64 0, .int .i64 0, .int .i64 0, .int .i64 0, .slice none 0 0, .int .i64 0, .int .i64 0, .bool false, .int .i64 0] 54) w)
  have HB := Lib.hid (newB (.cells #[.int .i64 0, .int .i64 0, .int .i64 0, .int .i64 0, .int .i64 0, .int .i64 0, .slice none 0 0, .int .i64 0, .int .i64 0, .bool false, .int .i64 0] 54) (.cells #[.int .i64 6, .int .i64 a, .int .i64 6, .int .i64 b, .int .i64 0, .int .i64 0, .slice none 0 0, .int .i64 0, .int .i64 0, .bool false, .int .i64 0] 54) w)
  rcases Nat.eq_zero_or_pos r.length with hz | hz
  · have h2 : ¬ (2 : Int) < ((r.length + 2 : Nat) : Int) := by omega
    clear hz
    go_enter Tryd.func44, Tryd.ntmps44
    go_upto_region 24 with fail
    generalize ((w.alloc (.cells #[.int .i64 0, .int .i64 0, .int .i64 0, .int .i64 0, .int .i64 0, .int .i64 0, .slice none 0 0, .int .i64 0, .int .i64 0, .bool false, .int .i64 0] 54)).alloc (.cells #[.int .i64 6, .int .i64 a, .int .i64 6, .int .i64 b, .int .i64 0, .int .i64 0, .slice none 0 0, .int .i64 0, .int .i64 0, .bool false, .int .i64 0] 54)) = W at HR HC HB HF ⊢
    have hzl := HC.out.lt
    have hrl := HR.out.lt
    have hgl : g < W.heap.size := by omega
    clear c0 c1
    have HE := Lib.hid (NumsOwn.empty W W.heap.size (Nat.le_refl _))
    have HFd := Lib.hid (HF.out.below ((Below.refl _ W).alloc (Nat.le_refl _) (.cells #[] 2)))
    have HCa := Lib.hid (HC.out.alloc (.cells #[] 2))
    have HRa := Lib.hid (HR.out.alloc (.cells #[] 2))
    have HBa := Lib.hid (HB.out.alloc HB.out.size (.cells #[] 2))
    have hWs := HB.out.size
    have HBZ := Lib.hid (World.alloc_le W (.cells #[] 2))
    have HNE := Lib.hid (show ∀ q, q < W.heap.size → some q ≠ (Value.slice (some ⟨W.heap.size, 0, none⟩) 0 0).ownBlock from fun q hq e => by
      have e' : q = W.heap.size := Option.some.inj e
      omega)
    clear HC HR HB HF
    go_wp2_with (at_builtin; refine wpList_copy_flows rfl _ _ rfl W.heap.size _ rfl HE.out (some ad) (cap - 2) r rfl HFd.out (by omega) HBZ.out ?_; intro A' c' w3 hN3 hg3; have HC3 := Lib.hid (HCa.out.grown hg3 (HNE.out _ hzl)); have HR3 := Lib.hid (HRa.out.grown hg3 (HNE.out _ hrl)); have HN3 := Lib.hid hN3; have HG3 := Lib.hid hg3; clear hN3 hg3; obtain ⟨e0, e1, e2, e3, e4, e5, e6, e7, e8, e9, e10⟩ := elev HC3.out; obtain ⟨z0, z1, z2, z3, z4, z5, z6, z7, z8, z9, z10⟩ := elev HR3.out; have rf := fun i => HC3.out.frozen i; have zf := fun i => HR3.out.frozen i; have hzl3 := HC3.out.lt; have hrl3 := HR3.out.lt)
    obtain ⟨hWe, hBe, hGe⟩ := put11t (x0 := .int .i64 6) (x1 := .int .i64 a) (x2 := .int .i64 6) (x3 := .int .i64 b) (x4 := .int .i64 0) (x5 := .int .i64 0) (x6 := .slice A' r.length c') (x7 := .int .i64 0) (x8 := .int .i64 0) (x9 := .bool false) (x10 := .int .i64 0) (HR3.out.other (p := ⟨w.heap.size + 1, 6, none⟩) (by show w.heap.size ≠ w.heap.size + 1; omega) (.slice A' r.length c')) ((HBa.out.grown HG3.out (Nat.le_trans hWs HBZ.out) (fun i e => by cases e; exact hWs)).setCell (p := ⟨w.heap.size + 1, 6, none⟩) (Nat.le_succ _) (.slice A' r.length c')) (Nat.le_refl _)
    have hNe := ((HN3.out.grown (grown_set (w := w3) (w' := w3) (r := w.heap.size + 1) ⟨rfl, rfl, rfl, Nat.le_refl _, fun _ _ _ => rfl⟩ 6 (.slice A' r.length c')) hzl).grown hGe hrl).lower hWs
    obtain ⟨q0, q1, q2, q3, q4, q5, q6, q7, q8, q9, q10⟩ := elev hWe
    refine bodyPost_ret (v := .tuple #[.agg #[.int .i64 6, .int .i64 a, .int .i64 6, .int .i64 b, .int .i64 0, .int .i64 0, .slice A' r.length c', .int .i64 0, .int .i64 0, .bool false, .int .i64 0], .bool true]) ?_ rfl ⟨A', c', rfl, hNe, hBe⟩
    clear e0 e1 e2 e3 e4 e5 e6 e7 e8 e9 e10 z0 z1 z2 z3 z4 z5 z6 z7 z8 z9 z10 rf zf
    simp [results, Tryd.results44, go_sem, q0, q1, q2, q3, q4, q5, q6, q7, q8, q9, q10]
  · have h2 : (2 : Int) < ((r.length + 2 : Nat) : Int) := by omega
    clear hz
    go_enter Tryd.func44, Tryd.ntmps44
    go_upto_region 24 with fail
    generalize ((w.alloc (.cells #[.int .i64 0, .int .i64 0, .int .i64 0, .int .i64 0, .int .i64 0, .int .i64 0, .slice none 0 0, .int .i64 0, .int .i64 0, .bool false, .int .i64 0] 54)).alloc (.cells #[.int .i64 6, .int .i64 a, .int .i64 6, .int .i64 b, .int .i64 0, .int .i64 0, .slice none 0 0, .int .i64 0, .int .i64 0, .bool false, .int .i64 0] 54)) = W at HR HC HB HF ⊢
    have hzl := HC.out.lt
    have hrl := HR.out.lt
    have hgl : g < W.heap.size := by omega
    clear c0 c1
    have HE := Lib.hid (NumsOwn.empty W W.heap.size (Nat.le_refl _))
    have HFd := Lib.hid (HF.out.below ((Below.refl _ W).alloc (Nat.le_refl _) (.cells #[] 2)))
    have HCa := Lib.hid (HC.out.alloc (.cells #[] 2))
    have HRa := Lib.hid (HR.out.alloc (.cells #[] 2))
    have HBa := Lib.hid (HB.out.alloc HB.out.size (.cells #[] 2))
    have hWs := HB.out.size
    have HBZ := Lib.hid (World.alloc_le W (.cells #[] 2))
    have HNE := Lib.hid (show ∀ q, q < W.heap.size → some q ≠ (Value.slice (some ⟨W.heap.size, 0, none⟩) 0 0).ownBlock from fun q hq e => by
      have e' : q = W.heap.size := Option.some.inj e
      omega)
    clear HC HR HB HF
    go_wp2_with (at_builtin; refine wpList_copy_flows rfl _ _ rfl W.heap.size _ rfl HE.out (some ad) (cap - 2) r rfl HFd.out (by omega) HBZ.out ?_; intro A' c' w3 hN3 hg3; have HC3 := Lib.hid (HCa.out.grown hg3 (HNE.out _ hzl)); have HR3 := Lib.hid (HRa.out.grown hg3 (HNE.out _ hrl)); have HN3 := Lib.hid hN3; have HG3 := Lib.hid hg3; clear hN3 hg3; obtain ⟨e0, e1, e2, e3, e4, e5, e6, e7, e8, e9, e10⟩ := elev HC3.out; obtain ⟨z0, z1, z2, z3, z4, z5, z6, z7, z8, z9, z10⟩ := elev HR3.out; have rf := fun i => HC3.out.frozen i; have zf := fun i => HR3.out.frozen i; have hzl3 := HC3.out.lt; have hrl3 := HR3.out.lt)
    obtain ⟨hWe, hBe, hGe⟩ := put11t (x0 := .int .i64 6) (x1 := .int .i64 a) (x2 := .int .i64 6) (x3 := .int .i64 b) (x4 := .int .i64 0) (x5 := .int .i64 0) (x6 := .slice A' r.length c') (x7 := .int .i64 0) (x8 := .int .i64 0) (x9 := .bool false) (x10 := .int .i64 0) (HR3.out.other (p := ⟨w.heap.size + 1, 6, none⟩) (by show w.heap.size ≠ w.heap.size + 1; omega) (.slice A' r.length c')) ((HBa.out.grown HG3.out (Nat.le_trans hWs HBZ.out) (fun i e => by cases e; exact hWs)).setCell (p := ⟨w.heap.size + 1, 6, none⟩) (Nat.le_succ _) (.slice A' r.length c')) (Nat.le_refl _)
    have hNe := ((HN3.out.grown (grown_set (w := w3) (w' := w3) (r := w.heap.size + 1) ⟨rfl, rfl, rfl, Nat.le_refl _, fun _ _ _ => rfl⟩ 6 (.slice A' r.length c')) hzl).grown hGe hrl).lower hWs
    obtain ⟨q0, q1, q2, q3, q4, q5, q6, q7, q8, q9, q10⟩ := elev hWe
    refine bodyPost_ret (v := .tuple #[.agg #[.int .i64 6, .int .i64 a, .int .i64 6, .int .i64 b, .int .i64 0, .int .i64 0, .slice A' r.length c', .int .i64 0, .int .i64 0, .bool false, .int .i64 0], .bool true]) ?_ rfl ⟨A', c', rfl, hNe, hBe⟩
    clear e0 e1 e2 e3 e4 e5 e6 e7 e8 e9 e10 z0 z1 z2 z3 z4 z5 z6 z7 z8 z9 z10 rf zf
    simp [results, Tryd.results44, go_sem, q0, q1, q2, q3, q4, q5, q6, q7, q8, q9, q10]
set_option maxRecDepth 100000 in
set_option maxHeartbeats 8000000 in
theorem cmd_7 (g cap : Nat) (a b c d : Int) (r : List Int) (w : World) (hg : g < w.heap.size) (c0 : w.cell? ⟨g, 0, none⟩ = some (.int .i64 a)) (c1 : w.cell? ⟨g, 1, none⟩ = some (.int .i64 b)) (c2 : w.cell? ⟨g, 2, none⟩ = some (.int .i64 c)) (c3 : w.cell? ⟨g, 3, none⟩ = some (.int .i64 d)) (hr : ∀ i, i < r.length → w.cell? ⟨g, 4 + i, none⟩ = some (.int .i64 (r[i]?.getD 0))) (hn : r.length ≤ 600) (hcap : r.length + 4 ≤ cap) :
    Calls Tryd.prog 44 #[.int .i64 7, .slice (some ⟨g, 0, none⟩) (r.length + 4) cap] w fun e w' => ∃ A' c', e = .returned (.tuple #[.agg #[.int .i64 7, .int .i64 a, .int .i64 7, .int .i64 b, .int .i64 c, .int .i64 d, .slice A' r.length c', .int .i64 0, .int .i64 0, .bool false, .int .i64 0], .bool true]) ∧ NumsOwn w' w.heap.size (.slice A' r.length c') r ∧ Below w.heap.size w w' := by
  have n1 : g ≠ w.heap.size := by omega
  have n2 : g ≠ w.heap.size + 1 := by omega
  obtain ⟨ad, hsl, hF⟩ : ∃ ad, (∀ w' : World, (Instr.slice 41 (.slice (some ⟨g, 0, none⟩) (r.length + 4) cap) (some (.int .i64 4)) none none).run Tryd.prog w' = .ok (.slice (some ad) r.length (cap - 4)) w') ∧ FlowsIn w (some ad) (cap - 4) r := by
    by_cases hc : cap = 4
    · refine ⟨⟨g, 0, none⟩, fun w' => ?_, ⟨⟨_, _, rfl, fun i hi => by omega⟩, fun h => by cases h⟩⟩
      simp [Instr.slice, Instr.sliceBounds, Instr.sliceBound, asIntOf, go_sem]
      rw [if_pos (by omega), if_pos (by omega)]
    · refine ⟨⟨g, 4, none⟩, fun w' => ?_, ⟨⟨_, _, rfl, fun i hi => ⟨g, 4, rfl, hg, hr i hi⟩⟩, fun h => by cases h⟩⟩
      simp [Instr.slice, Instr.sliceBounds, Instr.sliceBound, asIntOf, go_sem]
      rw [if_pos (by omega), if_neg (by omega)]
  have HF := Lib.hid (hF.below (newB (.cells #[.int .i64 0, .int .i64 0, .int .i64 0, .int .i64 0, .int .i64 0, .int .i64 0, .slice none 0 0, .int .i64 0, .int .i64 0, .bool false, .int .i64 0] 54) (.cells #[.int .i64 7, .int .i64 a, .int .i64 7, .int .i64 b, .int .i64 0, .int .i64 0, .slice none 0 0, .int .i64 0, .int .i64 0, .bool false, .int .i64 0] 54) w))
  have HFw := Lib.hid hF
  clear hF hr
  have h1 : ¬ ((r.length + 4 : Nat) : Int) < 4 := by omega
  have h3 : ¬ (600 : Int) < ((r.length + 4 : Nat) : Int) - 4 := by omega
  have HR := Lib.hid (newR #[.int .i64 0, .int .i64 0, .int .i64 0, .int .i64 0, .int .i64 0, .int .i64 0, .slice none 0 0, .int .i64 0, .int .i64 0, .bool false, .int .i64 0] (.cells #[.int .i64 7, .int .i64 a, .int .i64 7, .int .i64 b, .int .i64 0, .int .i64 0, .slice none 0 0, .int .i64 0, .int .i64 0, .bool false, .int .i64 0] 54) w)
  have HC := Lib.hid (newC #[.int .i64 7, .int .i64 a, .int .i64 7, .int .i64 b, .int .i64 0, .int .i64 0, .slice none 0 0, .int .i64 0, .int .i64 0, .bool false, .int .i64 0] (.cells #[.int .i64 0, .int .i64 0, .int .i64 0, .int .i64 0, .int .i64 0, .int .i64 0, .slice none 0 0, .int .i64 0, .int .i64 0, .bool false, .int .i64 0] 54) w)
  have HB := Lib.hid (newB (.cells #[.int .i64 0, .int .i64 0, .int .i64 0, .int .i64 0, .int .i64 0, .int .i64 0, .slice none 0 0, .int .i64 0, .int .i64 0, .bool false, .int .i64 0] 54) (.cells #[.int .i64 7, .int .i64 a, .int .i64 7, .int .i64 b, .int .i64 0, .int .i64 0, .slice none 0 0, .int .i64 0, .int .i64 0, .bool false, .int .i64 0] 54) w)
  have HD := Lib.hid (show _ ∧ _ from ⟨ncell c2 hg HB.out, ncell c3 hg HB.out⟩)
  rcases Nat.eq_zero_or_pos r.length with hz | hz
  · have h2 : ¬ (4 : Int) < ((r.length + 4 : Nat) : Int) := by omega
    clear hz
    go_enter Tryd.func44, Tryd.ntmps44
    go_upto_region 18 with fail
    generalize ((w.alloc (.cells #[.int .i64 0, .int .i64 0, .int .i64 0, .int .i64 0, .int .i64 0, .int .i64 0, .slice none 0 0, .int .i64 0, .int .i64 0, .bool false, .int .i64 0] 54)).alloc (.cells #[.int .i64 7, .int .i64 a, .int .i64 7, .int .i64 b, .int .i64 0, .int .i64 0, .slice none 0 0, .int .i64 0, .int .i64 0, .bool false, .int .i64 0] 54)) = W at HR HC HB HF HD ⊢
    have hzl := HC.out.lt
    have hrl := HR.out.lt
    have hgl : g < W.heap.size := by omega
    clear c0 c1 c2 c3
    have i2 : (2 : Int) < (r.length : Int) + 4 := by omega
    have i3 : (3 : Int) < (r.length : Int) + 4 := by omega
    have hgz : g < w.heap.size + 1 := by omega
    obtain ⟨d2, d3⟩ := HD.out
    obtain ⟨e0, e1, e2, e3, e4, e5, e6, e7, e8, e9, e10⟩ := elev HC.out
    have rf := fun i => HC.out.frozen i
    go_region_held3 (fun w' => w'.cell? ⟨g, 2, none⟩ = some (.int .i64 c) ∧ w'.cell? ⟨g, 3, none⟩ = some (.int .i64 d)) (first | (with_reducible exact kept2 d2 d3 hgz _ _ _ _) | (with_reducible exact kept1 d2 d3 hgz _ _) | (exact ⟨d2, d3⟩)) (fail)
    clear e0 e1 e2 e3 e4 e5 e6 e7 e8 e9 e10 rf d2 d3 hzl hrl hgl i2 i3
    have HC2 := Lib.hid (show Whole ((W.setCell ⟨w.heap.size + 1, 4, none⟩ (.int .i64 c)).setCell ⟨w.heap.size + 1, 5, none⟩ (.int .i64 d)).drew (w.heap.size + 1) 54 #[.int .i64 7, .int .i64 a, .int .i64 7, .int .i64 b, .int .i64 c, .int .i64 d, .slice none 0 0, .int .i64 0, .int .i64 0, .bool false, .int .i64 0] from ((HC.out.put 4 (.int .i64 c)).put 5 (.int .i64 d)).drew)
    have HR2 := Lib.hid (show Whole ((W.setCell ⟨w.heap.size + 1, 4, none⟩ (.int .i64 c)).setCell ⟨w.heap.size + 1, 5, none⟩ (.int .i64 d)).drew w.heap.size 54 #[.int .i64 0, .int .i64 0, .int .i64 0, .int .i64 0, .int .i64 0, .int .i64 0, .slice none 0 0, .int .i64 0, .int .i64 0, .bool false, .int .i64 0] from HR.out.below (below2 W (w.heap.size + 1) 4 5 _ _) (Nat.lt_succ_self _))
    have HB2 := Lib.hid (show Below w.heap.size w ((W.setCell ⟨w.heap.size + 1, 4, none⟩ (.int .i64 c)).setCell ⟨w.heap.size + 1, 5, none⟩ (.int .i64 d)).drew from HB.out.trans ((below2 W (w.heap.size + 1) 4 5 _ _).mono (Nat.le_succ _)))
    have HF2 := Lib.hid (show FlowsIn ((W.setCell ⟨w.heap.size + 1, 4, none⟩ (.int .i64 c)).setCell ⟨w.heap.size + 1, 5, none⟩ (.int .i64 d)).drew (some ad) (cap - 4) r from HFw.out.below HB2.out)
    clear HC HR HB HF HD
    generalize ((W.setCell ⟨w.heap.size + 1, 4, none⟩ (.int .i64 c)).setCell ⟨w.heap.size + 1, 5, none⟩ (.int .i64 d)).drew = W2 at HC2 HR2 HB2 HF2 ⊢
    have HC := HC2
    have HR := HR2
    have HB := HB2
    have HF := HF2
    have hzl := HC.out.lt
    have hrl := HR.out.lt
    have hgl : g < W2.heap.size := by omega
    clear HC2 HR2 HB2 HF2
    have HE := Lib.hid (NumsOwn.empty W2 W2.heap.size (Nat.le_refl _))
    have HFd := Lib.hid (HF.out.below ((Below.refl _ W2).alloc (Nat.le_refl _) (.cells #[] 2)))
    have HCa := Lib.hid (HC.out.alloc (.cells #[] 2))
    have HRa := Lib.hid (HR.out.alloc (.cells #[] 2))
    have HBa := Lib.hid (HB.out.alloc HB.out.size (.cells #[] 2))
    have hWs := HB.out.size
    have HBZ := Lib.hid (World.alloc_le W2 (.cells #[] 2))
    have HNE := Lib.hid (show ∀ q, q < W2.heap.size → some q ≠ (Value.slice (some ⟨W2.heap.size, 0, none⟩) 0 0).ownBlock from fun q hq e => by
      have e' : q = W2.heap.size := Option.some.inj e
      omega)
    clear HC HR HB HF
    go_wp2_with (at_builtin; refine wpList_copy_flows rfl _ _ rfl W2.heap.size _ rfl HE.out (some ad) (cap - 4) r rfl HFd.out (by omega) HBZ.out ?_; intro A' c' w3 hN3 hg3; have HC3 := Lib.hid (HCa.out.grown hg3 (HNE.out _ hzl)); have HR3 := Lib.hid (HRa.out.grown hg3 (HNE.out _ hrl)); have HN3 := Lib.hid hN3; have HG3 := Lib.hid hg3; clear hN3 hg3; obtain ⟨e0, e1, e2, e3, e4, e5, e6, e7, e8, e9, e10⟩ := elev HC3.out; obtain ⟨z0, z1, z2, z3, z4, z5, z6, z7, z8, z9, z10⟩ := elev HR3.out; have rf := fun i => HC3.out.frozen i; have zf := fun i => HR3.out.frozen i; have hzl3 := HC3.out.lt; have hrl3 := HR3.out.lt)
    obtain ⟨hWe, hBe, hGe⟩ := put11t (x0 := .int .i64 7) (x1 := .int .i64 a) (x2 := .int .i64 7) (x3 := .int .i64 b) (x4 := .int .i64 c) (x5 := .int .i64 d) (x6 := .slice A' r.length c') (x7 := .int .i64 0) (x8 := .int .i64 0) (x9 := .bool false) (x10 := .int .i64 0) (HR3.out.other (p := ⟨w.heap.size + 1, 6, none⟩) (by show w.heap.size ≠ w.heap.size + 1; omega) (.slice A' r.length c')) ((HBa.out.grown HG3.out (Nat.le_trans hWs HBZ.out) (fun i e => by cases e; exact hWs)).setCell (p := ⟨w.heap.size + 1, 6, none⟩) (Nat.le_succ _) (.slice A' r.length c')) (Nat.le_refl _)
    have hNe := ((HN3.out.grown (grown_set (w := w3) (w' := w3) (r := w.heap.size + 1) ⟨rfl, rfl, rfl, Nat.le_refl _, fun _ _ _ => rfl⟩ 6 (.slice A' r.length c')) hzl).grown hGe hrl).lower hWs
    obtain ⟨q0, q1, q2, q3, q4, q5, q6, q7, q8, q9, q10⟩ := elev hWe
    refine bodyPost_ret (v := .tuple #[.agg #[.int .i64 7, .int .i64 a, .int .i64 7, .int .i64 b, .int .i64 c, .int .i64 d, .slice A' r.length c', .int .i64 0, .int .i64 0, .bool false, .int .i64 0], .bool true]) ?_ rfl ⟨A', c', rfl, hNe, hBe⟩
    clear e0 e1 e2 e3 e4 e5 e6 e7 e8 e9 e10 z0 z1 z2 z3 z4 z5 z6 z7 z8 z9 z10 rf zf
    simp [results, Tryd.results44, go_sem, q0, q1, q2, q3, q4, q5, q6, q7, q8, q9, q10]
  · have h2 : (4 : Int) < ((r.length + 4 : Nat) : Int) := by omega
    clear hz
    go_enter Tryd.func44, Tryd.ntmps44
    go_upto_region 18 with fail
    generalize ((w.alloc (.cells #[.int .i64 0, .int .i64 0, .int .i64 0, .int .i64 0, .int .i64 0, .int .i64 0, .slice none 0 0, .int .i64 0, .int .i64 0, .bool false, .int .i64 0] 54)).alloc (.cells #[.int .i64 7, .int .i64 a, .int .i64 7, .int .i64 b, .int .i64 0, .int .i64 0, .slice none 0 0, .int .i64 0, .int .i64 0, .bool false, .int .i64 0] 54)) = W at HR HC HB HF HD ⊢
    have hzl := HC.out.lt
    have hrl := HR.out.lt
    have hgl : g < W.heap.size := by omega
    clear c0 c1 c2 c3
    have i2 : (2 : Int) < (r.length : Int) + 4 := by omega
    have i3 : (3 : Int) < (r.length : Int) + 4 := by omega
    have hgz : g < w.heap.size + 1 := by omega
    obtain ⟨d2, d3⟩ := HD.out
    obtain ⟨e0, e1, e2, e3, e4, e5, e6, e7, e8, e9, e10⟩ := elev HC.out
    have rf := fun i => HC.out.frozen i
    go_region_held3 (fun w' => w'.cell? ⟨g, 2, none⟩ = some (.int .i64 c) ∧ w'.cell? ⟨g, 3, none⟩ = some (.int .i64 d)) (first | (with_reducible exact kept2 d2 d3 hgz _ _ _ _) | (with_reducible exact kept1 d2 d3 hgz _ _) | (exact ⟨d2, d3⟩)) (fail)
    clear e0 e1 e2 e3 e4 e5 e6 e7 e8 e9 e10 rf d2 d3 hzl hrl hgl i2 i3
    have HC2 := Lib.hid (show Whole ((W.setCell ⟨w.heap.size + 1, 4, none⟩ (.int .i64 c)).setCell ⟨w.heap.size + 1, 5, none⟩ (.int .i64 d)).drew (w.heap.size + 1) 54 #[.int .i64 7, .int .i64 a, .int .i64 7, .int .i64 b, .int .i64 c, .int .i64 d, .slice none 0 0, .int .i64 0, .int .i64 0, .bool false, .int .i64 0] from ((HC.out.put 4 (.int .i64 c)).put 5 (.int .i64 d)).drew)
    have HR2 := Lib.hid (show Whole ((W.setCell ⟨w.heap.size + 1, 4, none⟩ (.int .i64 c)).setCell ⟨w.heap.size + 1, 5, none⟩ (.int .i64 d)).drew w.heap.size 54 #[.int .i64 0, .int .i64 0, .int .i64 0, .int .i64 0, .int .i64 0, .int .i64 0, .slice none 0 0, .int .i64 0, .int .i64 0, .bool false, .int .i64 0] from HR.out.below (below2 W (w.heap.size + 1) 4 5 _ _) (Nat.lt_succ_self _))
    have HB2 := Lib.hid (show Below w.heap.size w ((W.setCell ⟨w.heap.size + 1, 4, none⟩ (.int .i64 c)).setCell ⟨w.heap.size + 1, 5, none⟩ (.int .i64 d)).drew from HB.out.trans ((below2 W (w.heap.size + 1) 4 5 _ _).mono (Nat.le_succ _)))
    have HF2 := Lib.hid (show FlowsIn ((W.setCell ⟨w.heap.size + 1, 4, none⟩ (.int .i64 c)).setCell ⟨w.heap.size + 1, 5, none⟩ (.int .i64 d)).drew (some ad) (cap - 4) r from HFw.out.below HB2.out)
    clear HC HR HB HF HD
    generalize ((W.setCell ⟨w.heap.size + 1, 4, none⟩ (.int .i64 c)).setCell ⟨w.heap.size + 1, 5, none⟩ (.int .i64 d)).drew = W2 at HC2 HR2 HB2 HF2 ⊢
    have HC := HC2
    have HR := HR2
    have HB := HB2
    have HF := HF2
    have hzl := HC.out.lt
    have hrl := HR.out.lt
    have hgl : g < W2.heap.size := by omega
    clear HC2 HR2 HB2 HF2
    have HE := Lib.hid (NumsOwn.empty W2 W2.heap.size (Nat.le_refl _))
    have HFd := Lib.hid (HF.out.below ((Below.refl _ W2).alloc (Nat.le_refl _) (.cells #[] 2)))
    have HCa := Lib.hid (HC.out.alloc (.cells #[] 2))
    have HRa := Lib.hid (HR.out.alloc (.cells #[] 2))
    have HBa := Lib.hid (HB.out.alloc HB.out.size (.cells #[] 2))
    have hWs := HB.out.size
    have HBZ := Lib.hid (World.alloc_le W2 (.cells #[] 2))
    have HNE := Lib.hid (show ∀ q, q < W2.heap.size → some q ≠ (Value.slice (some ⟨W2.heap.size, 0, none⟩) 0 0).ownBlock from fun q hq e => by
      have e' : q = W2.heap.size := Option.some.inj e
      omega)
    clear HC HR HB HF
    go_wp2_with (at_builtin; refine wpList_copy_flows rfl _ _ rfl W2.heap.size _ rfl HE.out (some ad) (cap - 4) r rfl HFd.out (by omega) HBZ.out ?_; intro A' c' w3 hN3 hg3; have HC3 := Lib.hid (HCa.out.grown hg3 (HNE.out _ hzl)); have HR3 := Lib.hid (HRa.out.grown hg3 (HNE.out _ hrl)); have HN3 := Lib.hid hN3; have HG3 := Lib.hid hg3; clear hN3 hg3; obtain ⟨e0, e1, e2, e3, e4, e5, e6, e7, e8, e9, e10⟩ := elev HC3.out; obtain ⟨z0, z1, z2, z3, z4, z5, z6, z7, z8, z9, z10⟩ := elev HR3.out; have rf := fun i => HC3.out.frozen i; have zf := fun i => HR3.out.frozen i; have hzl3 := HC3.out.lt; have hrl3 := HR3.out.lt)
    obtain ⟨hWe, hBe, hGe⟩ := put11t (x0 := .int .i64 7) (x1 := .int .i64 a) (x2 := .int .i64 7) (x3 := .int .i64 b) (x4 := .int .i64 c) (x5 := .int .i64 d) (x6 := .slice A' r.length c') (x7 := .int .i64 0) (x8 := .int .i64 0) (x9 := .bool false) (x10 := .int .i64 0) (HR3.out.other (p := ⟨w.heap.size + 1, 6, none⟩) (by show w.heap.size ≠ w.heap.size + 1; omega) (.slice A' r.length c')) ((HBa.out.grown HG3.out (Nat.le_trans hWs HBZ.out) (fun i e => by cases e; exact hWs)).setCell (p := ⟨w.heap.size + 1, 6, none⟩) (Nat.le_succ _) (.slice A' r.length c')) (Nat.le_refl _)
    have hNe := ((HN3.out.grown (grown_set (w := w3) (w' := w3) (r := w.heap.size + 1) ⟨rfl, rfl, rfl, Nat.le_refl _, fun _ _ _ => rfl⟩ 6 (.slice A' r.length c')) hzl).grown hGe hrl).lower hWs
    obtain ⟨q0, q1, q2, q3, q4, q5, q6, q7, q8, q9, q10⟩ := elev hWe
    refine bodyPost_ret (v := .tuple #[.agg #[.int .i64 7, .int .i64 a, .int .i64 7, .int .i64 b, .int .i64 c, .int .i64 d, .slice A' r.length c', .int .i64 0, .int .i64 0, .bool false, .int .i64 0], .bool true]) ?_ rfl ⟨A', c', rfl, hNe, hBe⟩
    clear e0 e1 e2 e3 e4 e5 e6 e7 e8 e9 e10 z0 z1 z2 z3 z4 z5 z6 z7 z8 z9 z10 rf zf
    simp [results, Tryd.results44, go_sem, q0, q1, q2, q3, q4, q5, q6, q7, q8, q9, q10]
end Go.Proofs.YtdmopagkahgepaaDoor
