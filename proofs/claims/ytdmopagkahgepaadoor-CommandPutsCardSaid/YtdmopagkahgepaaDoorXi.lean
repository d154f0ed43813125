/- lombardref24.command: marks, and what bears flows. -/
import Derived.Test.YtdmopagkahgepaaDoorXh
namespace Go.Proofs.YtdmopagkahgepaaDoor
open Go.RowKit Go.Maps Go.ChangeMaps Go.ChangeShapes

theorem newC (cs : Array Value) (o : Obj) (w : World) : Whole ((w.alloc o).alloc (.cells cs 54)) (w.heap.size + 1) 54 cs := by
  have := Whole.new (w.alloc o) 54 cs
  rw [World.size_alloc] at this
  exact this
theorem newR (cs : Array Value) (o : Obj) (w : World) : Whole ((w.alloc (.cells cs 54)).alloc o) w.heap.size 54 cs := (Whole.new w 54 cs).alloc o
theorem newB (o p : Obj) (w : World) : Below w.heap.size w ((w.alloc o).alloc p) := ((Below.refl _ w).alloc (Nat.le_refl _) _).alloc (by simp) _
theorem ncell {w w' : World} {g i B : Nat} {v : Value} (h : w.cell? ⟨g, i, none⟩ = some v) (hg : g < B) (hb : Below B w w') : w'.cell? ⟨g, i, none⟩ = some v := (hb.cell (p := ⟨g, i, none⟩) hg).trans h
/-- Three cells stored above a block. -/
theorem below3 (w : World) (z i j k : Nat) (x y t : Value) : Below z w (((w.setCell ⟨z, i, none⟩ x).setCell ⟨z, j, none⟩ y).setCell ⟨z, k, none⟩ t).drew :=
  ((((Below.refl z w).setCell (p := ⟨z, i, none⟩) (Nat.le_refl _) x).setCell (p := ⟨z, j, none⟩) (Nat.le_refl _) y).setCell (p := ⟨z, k, none⟩) (Nat.le_refl _) t).drew
theorem kept3 {w : World} {g z : Nat} {i1 i2 i3 : Nat} {v1 v2 v3 : Value} (h1 : w.cell? ⟨g, i1, none⟩ = some v1) (h2 : w.cell? ⟨g, i2, none⟩ = some v2) (h3 : w.cell? ⟨g, i3, none⟩ = some v3) (hg : g < z) (i j k : Nat) (x y t : Value) :
    (((w.setCell ⟨z, i, none⟩ x).setCell ⟨z, j, none⟩ y).setCell ⟨z, k, none⟩ t).drew.cell? ⟨g, i1, none⟩ = some v1 ∧ (((w.setCell ⟨z, i, none⟩ x).setCell ⟨z, j, none⟩ y).setCell ⟨z, k, none⟩ t).drew.cell? ⟨g, i2, none⟩ = some v2 ∧ (((w.setCell ⟨z, i, none⟩ x).setCell ⟨z, j, none⟩ y).setCell ⟨z, k, none⟩ t).drew.cell? ⟨g, i3, none⟩ = some v3 :=
  ⟨ncell h1 hg (below3 w z i j k x y t), ncell h2 hg (below3 w z i j k x y t), ncell h3 hg (below3 w z i j k x y t)⟩
/-- append(own row, flows...), in a list of operations. -/
theorem wpList_append_flows {w : World} {ops : Array Oper} {rest : List Oper} {o : Oper} {a : Act} {Q : Exit → Act → World → Prop} (hgd : o.guard = none) (s x : Operand)
    (ho : o.op = .call { callee := .builtin .append, args := #[s, x], argTypes := #[41, 41] })
    (base : Nat) (v : Value) (ys : List Int) (hs : a.eval s = v) (hown : NumsOwn w base v ys) (A : Option Addr) (cap : Nat) (xs : List Int) (hx : a.eval x = .slice A xs.length cap) (hf : FlowsIn w A cap xs) (hl : ys.length + xs.length ≤ 100000) (hb : base ≤ w.heap.size)
    (h : ∀ A' c' w', NumsOwn w' base (.slice A' (ys ++ xs).length c') (ys ++ xs) → w.grownBy w' v.ownBlock → wpList Tryd.prog ops Q rest (a.put o.dst (.slice A' (ys ++ xs).length c')) w') : wpList Tryd.prog ops Q (o :: rest) a w := by
  refine wpList_plain hgd fun K hK => ?_
  obtain ⟨A', c', w', hr, h2, h3⟩ := run_append_flows w o.type base v ys hown A cap xs hf hl hb
  unfold Oper.wp
  simp [execOp, ho, resolve, invoke, builtin, hs, hx, hr, Result.andThen]
  have := hK _ _ (h A' c' w' h2 h3)
  rw [List.length_append] at this
  exact this

set_option maxRecDepth 100000 in
set_option maxHeartbeats 4000000 in
theorem cmd_8 (g cap : Nat) (a b c d e : Int) (m : Bool) (w : World) (hg : g < w.heap.size) (c0 : w.cell? ⟨g, 0, none⟩ = some (.int .i64 a)) (c1 : w.cell? ⟨g, 1, none⟩ = some (.int .i64 b)) (c2 : w.cell? ⟨g, 2, none⟩ = some (.int .i64 c)) (c3 : w.cell? ⟨g, 3, none⟩ = some (.int .i64 d)) (c4 : w.cell? ⟨g, 4, none⟩ = some (.int .i64 e)) (he : e = 0 ∧ m = false ∨ e = 1 ∧ m = true) :
    Calls Tryd.prog 44 #[.int .i64 8, .slice (some ⟨g, 0, none⟩) 5 cap] w fun e w' => e = .returned (.tuple #[.agg #[.int .i64 8, .int .i64 a, .int .i64 8, .int .i64 b, .int .i64 0, .int .i64 0, .slice none 0 0, .int .i64 c, .int .i64 d, .bool m, .int .i64 0], .bool true]) ∧ Below w.heap.size w w' := by
  have n1 : g ≠ w.heap.size := by omega
  have n2 : g ≠ w.heap.size + 1 := by omega
  rcases he with ⟨rfl, rfl⟩ | ⟨rfl, rfl⟩
  · have hR := newR #[.int .i64 0, .int .i64 0, .int .i64 0, .int .i64 0, .int .i64 0, .int .i64 0, .slice none 0 0, .int .i64 0, .int .i64 0, .bool false, .int .i64 0] (.cells #[.int .i64 8, .int .i64 a, .int .i64 8, .int .i64 b, .int .i64 0, .int .i64 0, .slice none 0 0, .int .i64 0, .int .i64 0, .bool false, .int .i64 0] 54) w
    have hC := newC #[.int .i64 8, .int .i64 a, .int .i64 8, .int .i64 b, .int .i64 0, .int .i64 0, .slice none 0 0, .int .i64 0, .int .i64 0, .bool false, .int .i64 0] (.cells #[.int .i64 0, .int .i64 0, .int .i64 0, .int .i64 0, .int .i64 0, .int .i64 0, .slice none 0 0, .int .i64 0, .int .i64 0, .bool false, .int .i64 0] 54) w
    have hb := newB (.cells #[.int .i64 0, .int .i64 0, .int .i64 0, .int .i64 0, .int .i64 0, .int .i64 0, .slice none 0 0, .int .i64 0, .int .i64 0, .bool false, .int .i64 0] 54) (.cells #[.int .i64 8, .int .i64 a, .int .i64 8, .int .i64 b, .int .i64 0, .int .i64 0, .slice none 0 0, .int .i64 0, .int .i64 0, .bool false, .int .i64 0] 54) w
    have HD := Lib.hid (show _ ∧ _ ∧ _ from ⟨ncell c2 hg hb, ncell c3 hg hb, ncell c4 hg hb⟩)
    have HR := Lib.hid hR
    have HC := Lib.hid hC
    have HB := Lib.hid hb
    clear hR hC hb
    go_enter Tryd.func44, Tryd.ntmps44
    go_wp2_with fail
    generalize ((w.alloc (.cells #[.int .i64 0, .int .i64 0, .int .i64 0, .int .i64 0, .int .i64 0, .int .i64 0, .slice none 0 0, .int .i64 0, .int .i64 0, .bool false, .int .i64 0] 54)).alloc (.cells #[.int .i64 8, .int .i64 a, .int .i64 8, .int .i64 b, .int .i64 0, .int .i64 0, .slice none 0 0, .int .i64 0, .int .i64 0, .bool false, .int .i64 0] 54)) = W at HR HC HB HD ⊢
    have hzl := HC.out.lt
    have hrl := HR.out.lt
    have hgl : g < W.heap.size := by omega
    have hgz : g < w.heap.size + 1 := by omega
    clear c0 c1 c2 c3 c4
    obtain ⟨d2, d3, d4⟩ := HD.out
    obtain ⟨e0, e1, e2, e3, e4, e5, e6, e7, e8, e9, e10⟩ := elev HC.out
    have rf := fun i => HC.out.frozen i
    go_region_held3 (fun w' => w'.cell? ⟨g, 2, none⟩ = some (.int .i64 c) ∧ w'.cell? ⟨g, 3, none⟩ = some (.int .i64 d) ∧ w'.cell? ⟨g, 4, none⟩ = some (.int .i64 0)) (first | (with_reducible exact kept3 d2 d3 d4 hgz _ _ _ _ _ _) | (exact ⟨d2, d3, d4⟩)) (fail)
    have HC2 := Lib.hid (show Whole (((W.setCell ⟨w.heap.size + 1, 7, none⟩ (.int .i64 c)).setCell ⟨w.heap.size + 1, 8, none⟩ (.int .i64 d)).setCell ⟨w.heap.size + 1, 9, none⟩ (.bool false)).drew (w.heap.size + 1) 54 #[.int .i64 8, .int .i64 a, .int .i64 8, .int .i64 b, .int .i64 0, .int .i64 0, .slice none 0 0, .int .i64 c, .int .i64 d, .bool false, .int .i64 0] from (((HC.out.put 7 (.int .i64 c)).put 8 (.int .i64 d)).put 9 (.bool false)).drew)
    have HR2 := Lib.hid (show Whole (((W.setCell ⟨w.heap.size + 1, 7, none⟩ (.int .i64 c)).setCell ⟨w.heap.size + 1, 8, none⟩ (.int .i64 d)).setCell ⟨w.heap.size + 1, 9, none⟩ (.bool false)).drew w.heap.size 54 #[.int .i64 0, .int .i64 0, .int .i64 0, .int .i64 0, .int .i64 0, .int .i64 0, .slice none 0 0, .int .i64 0, .int .i64 0, .bool false, .int .i64 0] from HR.out.below (below3 W (w.heap.size + 1) 7 8 9 _ _ _) (Nat.lt_succ_self _))
    have HB2 := Lib.hid (show Below w.heap.size w (((W.setCell ⟨w.heap.size + 1, 7, none⟩ (.int .i64 c)).setCell ⟨w.heap.size + 1, 8, none⟩ (.int .i64 d)).setCell ⟨w.heap.size + 1, 9, none⟩ (.bool false)).drew from HB.out.trans ((below3 W (w.heap.size + 1) 7 8 9 _ _ _).mono (Nat.le_succ _)))
    clear e0 e1 e2 e3 e4 e5 e6 e7 e8 e9 e10 rf d2 d3 d4 HC HR HB HD hzl hrl hgl
    generalize (((W.setCell ⟨w.heap.size + 1, 7, none⟩ (.int .i64 c)).setCell ⟨w.heap.size + 1, 8, none⟩ (.int .i64 d)).setCell ⟨w.heap.size + 1, 9, none⟩ (.bool false)).drew = W2 at HC2 HR2 HB2 ⊢
    have hzl := HC2.out.lt
    have hrl := HR2.out.lt
    obtain ⟨e0, e1, e2, e3, e4, e5, e6, e7, e8, e9, e10⟩ := elev HC2.out
    obtain ⟨z0, z1, z2, z3, z4, z5, z6, z7, z8, z9, z10⟩ := elev HR2.out
    have zf := fun i => HR2.out.frozen i
    go_wp2_with fail
    obtain ⟨hWe, hBe, hGe⟩ := put11t (x0 := .int .i64 8) (x1 := .int .i64 a) (x2 := .int .i64 8) (x3 := .int .i64 b) (x4 := .int .i64 0) (x5 := .int .i64 0) (x6 := .slice none 0 0) (x7 := .int .i64 c) (x8 := .int .i64 d) (x9 := .bool false) (x10 := .int .i64 0) HR2.out HB2.out (Nat.le_refl _)
    obtain ⟨q0, q1, q2, q3, q4, q5, q6, q7, q8, q9, q10⟩ := elev hWe
    refine bodyPost_ret (v := .tuple #[.agg #[.int .i64 8, .int .i64 a, .int .i64 8, .int .i64 b, .int .i64 0, .int .i64 0, .slice none 0 0, .int .i64 c, .int .i64 d, .bool false, .int .i64 0], .bool true]) ?_ rfl ⟨rfl, hBe⟩
    clear e0 e1 e2 e3 e4 e5 e6 e7 e8 e9 e10 z0 z1 z2 z3 z4 z5 z6 z7 z8 z9 z10 zf
    simp [results, Tryd.results44, go_sem, q0, q1, q2, q3, q4, q5, q6, q7, q8, q9, q10]
  · have hR := newR #[.int .i64 0, .int .i64 0, .int .i64 0, .int .i64 0, .int .i64 0, .int .i64 0, .slice none 0 0, .int .i64 0, .int .i64 0, .bool false, .int .i64 0] (.cells #[.int .i64 8, .int .i64 a, .int .i64 8, .int .i64 b, .int .i64 0, .int .i64 0, .slice none 0 0, .int .i64 0, .int .i64 0, .bool false, .int .i64 0] 54) w
    have hC := newC #[.int .i64 8, .int .i64 a, .int .i64 8, .int .i64 b, .int .i64 0, .int .i64 0, .slice none 0 0, .int .i64 0, .int .i64 0, .bool false, .int .i64 0] (.cells #[.int .i64 0, .int .i64 0, .int .i64 0, .int .i64 0, .int .i64 0, .int .i64 0, .slice none 0 0, .int .i64 0, .int .i64 0, .bool false, .int .i64 0] 54) w
    have hb := newB (.cells #[.int .i64 0, .int .i64 0, .int .i64 0, .int .i64 0, .int .i64 0, .int .i64 0, .slice none 0 0, .int .i64 0, .int .i64 0, .bool false, .int .i64 0] 54) (.cells #[.int .i64 8, .int .i64 a, .int .i64 8, .int .i64 b, .int .i64 0, .int .i64 0, .slice none 0 0, .int .i64 0, .int .i64 0, .bool false, .int .i64 0] 54) w
    have HD := Lib.hid (show _ ∧ _ ∧ _ from ⟨ncell c2 hg hb, ncell c3 hg hb, ncell c4 hg hb⟩)
    have HR := Lib.hid hR
    have HC := Lib.hid hC
    have HB := Lib.hid hb
    clear hR hC hb
    go_enter Tryd.func44, Tryd.ntmps44
    go_wp2_with fail
    generalize ((w.alloc (.cells #[.int .i64 0, .int .i64 0, .int .i64 0, .int .i64 0, .int .i64 0, .int .i64 0, .slice none 0 0, .int .i64 0, .int .i64 0, .bool false, .int .i64 0] 54)).alloc (.cells #[.int .i64 8, .int .i64 a, .int .i64 8, .int .i64 b, .int .i64 0, .int .i64 0, .slice none 0 0, .int .i64 0, .int .i64 0, .bool false, .int .i64 0] 54)) = W at HR HC HB HD ⊢
    have hzl := HC.out.lt
    have hrl := HR.out.lt
    have hgl : g < W.heap.size := by omega
    have hgz : g < w.heap.size + 1 := by omega
    clear c0 c1 c2 c3 c4
    obtain ⟨d2, d3, d4⟩ := HD.out
    obtain ⟨e0, e1, e2, e3, e4, e5, e6, e7, e8, e9, e10⟩ := elev HC.out
    have rf := fun i => HC.out.frozen i
    go_region_held3 (fun w' => w'.cell? ⟨g, 2, none⟩ = some (.int .i64 c) ∧ w'.cell? ⟨g, 3, none⟩ = some (.int .i64 d) ∧ w'.cell? ⟨g, 4, none⟩ = some (.int .i64 1)) (first | (with_reducible exact kept3 d2 d3 d4 hgz _ _ _ _ _ _) | (exact ⟨d2, d3, d4⟩)) (fail)
    have HC2 := Lib.hid (show Whole (((W.setCell ⟨w.heap.size + 1, 7, none⟩ (.int .i64 c)).setCell ⟨w.heap.size + 1, 8, none⟩ (.int .i64 d)).setCell ⟨w.heap.size + 1, 9, none⟩ (.bool true)).drew (w.heap.size + 1) 54 #[.int .i64 8, .int .i64 a, .int .i64 8, .int .i64 b, .int .i64 0, .int .i64 0, .slice none 0 0, .int .i64 c, .int .i64 d, .bool true, .int .i64 0] from (((HC.out.put 7 (.int .i64 c)).put 8 (.int .i64 d)).put 9 (.bool true)).drew)
    have HR2 := Lib.hid (show Whole (((W.setCell ⟨w.heap.size + 1, 7, none⟩ (.int .i64 c)).setCell ⟨w.heap.size + 1, 8, none⟩ (.int .i64 d)).setCell ⟨w.heap.size + 1, 9, none⟩ (.bool true)).drew w.heap.size 54 #[.int .i64 0, .int .i64 0, .int .i64 0, .int .i64 0, .int .i64 0, .int .i64 0, .slice none 0 0, .int .i64 0, .int .i64 0, .bool false, .int .i64 0] from HR.out.below (below3 W (w.heap.size + 1) 7 8 9 _ _ _) (Nat.lt_succ_self _))
    have HB2 := Lib.hid (show Below w.heap.size w (((W.setCell ⟨w.heap.size + 1, 7, none⟩ (.int .i64 c)).setCell ⟨w.heap.size + 1, 8, none⟩ (.int .i64 d)).setCell ⟨w.heap.size + 1, 9, none⟩ (.bool true)).drew from HB.out.trans ((below3 W (w.heap.size + 1) 7 8 9 _ _ _).mono (Nat.le_succ _)))
    clear e0 e1 e2 e3 e4 e5 e6 e7 e8 e9 e10 rf d2 d3 d4 HC HR HB HD hzl hrl hgl
    generalize (((W.setCell ⟨w.heap.size + 1, 7, none⟩ (.int .i64 c)).setCell ⟨w.heap.size + 1, 8, none⟩ (.int .i64 d)).setCell ⟨w.heap.size + 1, 9, none⟩ (.bool true)).drew = W2 at HC2 HR2 HB2 ⊢
    have hzl := HC2.out.lt
    have hrl := HR2.out.lt
    obtain ⟨e0, e1, e2, e3, e4, e5, e6, e7, e8, e9, e10⟩ := elev HC2.out
    obtain ⟨z0, z1, z2, z3, z4, z5, z6, z7, z8, z9, z10⟩ := elev HR2.out
    have zf := fun i => HR2.out.frozen i
    go_wp2_with fail
    obtain ⟨hWe, hBe, hGe⟩ := put11t (x0 := .int .i64 8) (x1 := .int .i64 a) (x2 := .int .i64 8) (x3 := .int .i64 b) (x4 := .int .i64 0) (x5 := .int .i64 0) (x6 := .slice none 0 0) (x7 := .int .i64 c) (x8 := .int .i64 d) (x9 := .bool true) (x10 := .int .i64 0) HR2.out HB2.out (Nat.le_refl _)
    obtain ⟨q0, q1, q2, q3, q4, q5, q6, q7, q8, q9, q10⟩ := elev hWe
    refine bodyPost_ret (v := .tuple #[.agg #[.int .i64 8, .int .i64 a, .int .i64 8, .int .i64 b, .int .i64 0, .int .i64 0, .slice none 0 0, .int .i64 c, .int .i64 d, .bool true, .int .i64 0], .bool true]) ?_ rfl ⟨rfl, hBe⟩
    clear e0 e1 e2 e3 e4 e5 e6 e7 e8 e9 e10 z0 z1 z2 z3 z4 z5 z6 z7 z8 z9 z10 zf
    simp [results, Tryd.results44, go_sem, q0, q1, q2, q3, q4, q5, q6, q7, q8, q9, q10]
end Go.Proofs.YtdmopagkahgepaaDoor
