/- lombardref24.Same. -/
import Derived.Test.YtdmopagkahgepaaDoorUm
namespace Go.Proofs.YtdmopagkahgepaaDoor
open Go.RowKit Go.Maps Go.ChangeMaps Go.ChangeShapes

set_option maxRecDepth 100000 in
set_option maxHeartbeats 4000000 in
theorem same24_raw (a0 a1 a2 a3 a4 a5 a7 a8 a10 b0 b1 b2 b3 b4 b5 b7 b8 b10 : Int) (a9 b9 : Bool) (A B : Option Addr) (cx cy : Nat) (xs ys : List Int) (w : World)
    (hu : NumSrc w (.slice A xs.length cx) xs) (hv : NumSrc w (.slice B ys.length cy) ys) (hn : xs.length ≤ 9000) (_hm : ys.length ≤ 9000) :
    Calls Tryd.prog 19 #[.agg #[.int .i64 a0, .int .i64 a1, .int .i64 a2, .int .i64 a3, .int .i64 a4, .int .i64 a5, .slice A xs.length cx, .int .i64 a7, .int .i64 a8, .bool a9, .int .i64 a10], .agg #[.int .i64 b0, .int .i64 b1, .int .i64 b2, .int .i64 b3, .int .i64 b4, .int .i64 b5, .slice B ys.length cy, .int .i64 b7, .int .i64 b8, .bool b9, .int .i64 b10]] w fun e w' => e = .returned (.bool (a0 == b0 && a10 == b10 && a1 == b1 && a2 == b2 && a3 == b3 && a4 == b4 && a5 == b5 && (a7 == b7 && a8 == b8 && a9 == b9) && xs == ys)) ∧ Below w.heap.size w w' := by
  obtain ⟨hA, hB, hZ⟩ := two_new w 54 54 #[.int .i64 a0, .int .i64 a1, .int .i64 a2, .int .i64 a3, .int .i64 a4, .int .i64 a5, .slice A xs.length cx, .int .i64 a7, .int .i64 a8, .bool a9, .int .i64 a10] #[.int .i64 b0, .int .i64 b1, .int .i64 b2, .int .i64 b3, .int .i64 b4, .int .i64 b5, .slice B ys.length cy, .int .i64 b7, .int .i64 b8, .bool b9, .int .i64 b10]
  have HU := Lib.hid (hu.below hZ)
  have HV := Lib.hid (hv.below hZ)
  have HA := Lib.hid hA
  have HB := Lib.hid hB
  have HZ := Lib.hid hZ
  clear hu hv hA hB hZ
  by_cases hl : xs.length = ys.length
  · have hl' : ((xs.length : Int) != (ys.length : Int)) = false := by simp [hl]
    have HLL := Lib.hid hl
    clear hl
    go_enter Tryd.func19, Tryd.ntmps19
    go_wp2_with fail
    generalize (w.alloc (.cells #[.int .i64 a0, .int .i64 a1, .int .i64 a2, .int .i64 a3, .int .i64 a4, .int .i64 a5, .slice A xs.length cx, .int .i64 a7, .int .i64 a8, .bool a9, .int .i64 a10] 54)).alloc (.cells #[.int .i64 b0, .int .i64 b1, .int .i64 b2, .int .i64 b3, .int .i64 b4, .int .i64 b5, .slice B ys.length cy, .int .i64 b7, .int .i64 b8, .bool b9, .int .i64 b10] 54) = W at HU HV HA HB HZ ⊢
    have hal := HA.out.lt
    have hbl := HB.out.lt
    go_loopw [21] (fun i wr => ∃ j : Nat, j ≤ xs.length ∧ i = .int .i64 j ∧ Below W.heap.size W wr ∧ xs.take j = ys.take j) (fun i _ => xs.length - (RowKit.intOf i).toNat)
    case atStart => exact ⟨0, Nat.zero_le _, rfl, Below.refl _ _, rfl⟩
    case round =>
      obtain ⟨j, hj, rfl, hBr, he⟩ := hrel
      by_cases hlt : j < xs.length
      · have hj2 : j < ys.length := by rw [← HLL.out]; exact hlt
        obtain ⟨A', c', e', hx⟩ := HU.out.below hBr
        cases e'
        obtain ⟨g, o, rfl, hg, c0⟩ := hx j hlt
        obtain ⟨B', d', e', hy⟩ := HV.out.below hBr
        cases e'
        obtain ⟨g2, o2, rfl, hg2, d0⟩ := hy j hj2
        have hA6 : wr.drew.cell? ⟨w.heap.size, 6, none⟩ = some (.slice (some ⟨g, o, none⟩) xs.length cx) := (HA.out.below hBr hal).cell 6
        have hB6 : wr.drew.cell? ⟨w.heap.size + 1, 6, none⟩ = some (.slice (some ⟨g2, o2, none⟩) ys.length cy) := (HB.out.below hBr hbl).cell 6
        have hnx := take_next xs j hlt 0
        have hny := take_next ys j hj2 0
        generalize xs[j]?.getD 0 = x at c0 hnx
        generalize ys[j]?.getD 0 = y at d0 hny
        have c1 : wr.drew.cell? ⟨g, o + j, none⟩ = some (.int .i64 x) := c0
        have d1 : wr.drew.cell? ⟨g2, o2 + j, none⟩ = some (.int .i64 y) := d0
        have hj0 : (0 : Int) ≤ (j : Int) := by omega
        have hjl : (j : Int) < (xs.length : Int) := by omega
        have hjm : (j : Int) < (ys.length : Int) := by omega
        have HX := Lib.hid hnx
        have HY := Lib.hid hny
        have HE := Lib.hid he
        have hBd : Below W.heap.size W wr.drew := hBr.drew
        have HBd := Lib.hid hBd
        have HS := Lib.hid (And.intro hA6 (And.intro hB6 (And.intro c1 d1)))
        clear hnx hny he hx hy c0 d0 hA6 hB6 c1 d1 hBd
        by_cases hxy : x = y
        · have hxb : (x != y) = false := by simp [hxy]
          have HXY := Lib.hid hxy
          clear hxy
          go_wp2_with fail
          go_region_held3 (fun w' => w'.cell? ⟨w.heap.size, 6, none⟩ = some (.slice (some ⟨g, o, none⟩) xs.length cx) ∧ w'.cell? ⟨w.heap.size + 1, 6, none⟩ = some (.slice (some ⟨g2, o2, none⟩) ys.length cy) ∧ w'.cell? ⟨g, o + j, none⟩ = some (.int .i64 x) ∧ w'.cell? ⟨g2, o2 + j, none⟩ = some (.int .i64 y)) (exact HS.out) (fail)
          go_wp2_with fail
          refine ⟨⟨j + 1, by omega, by go_num, HBd.out, ?_⟩, by simp [RowKit.intOf]; omega⟩
          rw [HX.out, HY.out, HE.out, HXY.out]
        · have hxb : (x != y) = true := by simp [hxy]
          have hne : (xs == ys) = false := by
            rw [beq_eq_false_iff_ne]
            intro e
            have h1 := HX.out
            rw [e, HY.out] at h1
            have h2 := List.append_inj_right' h1 rfl
            simp only [List.cons.injEq, and_true] at h2
            exact hxy h2.symm
          have HNE := Lib.hid hne
          clear hne hxy
          go_wp2_with fail
          go_region_held3 (fun w' => w'.cell? ⟨w.heap.size, 6, none⟩ = some (.slice (some ⟨g, o, none⟩) xs.length cx) ∧ w'.cell? ⟨w.heap.size + 1, 6, none⟩ = some (.slice (some ⟨g2, o2, none⟩) ys.length cy) ∧ w'.cell? ⟨g, o + j, none⟩ = some (.int .i64 x) ∧ w'.cell? ⟨g2, o2 + j, none⟩ = some (.int .i64 y)) (exact HS.out) (fail)
          go_wp2_with fail
          go_ret
          exact ⟨by rw [HNE.out, Bool.and_false]; rfl, HZ.out.trans (HBd.out.mono HZ.out.size)⟩
      · obtain rfl : j = xs.length := by omega
        have hne : (xs == ys) = true := by
          rw [beq_iff_eq]
          rw [List.take_of_length_le (Nat.le_refl _), List.take_of_length_le (by rw [HLL.out]; exact Nat.le_refl _)] at he
          exact he
        have HNE := Lib.hid hne
        have HAr := HA.out.below hBr hal
        have HBr := HB.out.below hBr hbl
        have hzA := HAr.lt
        have hzB := HBr.lt
        have e0 : wr.cell? ⟨w.heap.size, 0, none⟩ = some (.int .i64 a0) := HAr.cell 0
        have e1 : wr.cell? ⟨w.heap.size, 1, none⟩ = some (.int .i64 a1) := HAr.cell 1
        have e2 : wr.cell? ⟨w.heap.size, 2, none⟩ = some (.int .i64 a2) := HAr.cell 2
        have e3 : wr.cell? ⟨w.heap.size, 3, none⟩ = some (.int .i64 a3) := HAr.cell 3
        have e4 : wr.cell? ⟨w.heap.size, 4, none⟩ = some (.int .i64 a4) := HAr.cell 4
        have e5 : wr.cell? ⟨w.heap.size, 5, none⟩ = some (.int .i64 a5) := HAr.cell 5
        have e6 : wr.cell? ⟨w.heap.size, 6, none⟩ = some (.slice A xs.length cx) := HAr.cell 6
        have e7 : wr.cell? ⟨w.heap.size, 7, none⟩ = some (.int .i64 a7) := HAr.cell 7
        have e8 : wr.cell? ⟨w.heap.size, 8, none⟩ = some (.int .i64 a8) := HAr.cell 8
        have e9 : wr.cell? ⟨w.heap.size, 9, none⟩ = some (.bool a9) := HAr.cell 9
        have e10 : wr.cell? ⟨w.heap.size, 10, none⟩ = some (.int .i64 a10) := HAr.cell 10
        have f0 : wr.cell? ⟨w.heap.size + 1, 0, none⟩ = some (.int .i64 b0) := HBr.cell 0
        have f1 : wr.cell? ⟨w.heap.size + 1, 1, none⟩ = some (.int .i64 b1) := HBr.cell 1
        have f2 : wr.cell? ⟨w.heap.size + 1, 2, none⟩ = some (.int .i64 b2) := HBr.cell 2
        have f3 : wr.cell? ⟨w.heap.size + 1, 3, none⟩ = some (.int .i64 b3) := HBr.cell 3
        have f4 : wr.cell? ⟨w.heap.size + 1, 4, none⟩ = some (.int .i64 b4) := HBr.cell 4
        have f5 : wr.cell? ⟨w.heap.size + 1, 5, none⟩ = some (.int .i64 b5) := HBr.cell 5
        have f6 : wr.cell? ⟨w.heap.size + 1, 6, none⟩ = some (.slice B ys.length cy) := HBr.cell 6
        have f7 : wr.cell? ⟨w.heap.size + 1, 7, none⟩ = some (.int .i64 b7) := HBr.cell 7
        have f8 : wr.cell? ⟨w.heap.size + 1, 8, none⟩ = some (.int .i64 b8) := HBr.cell 8
        have f9 : wr.cell? ⟨w.heap.size + 1, 9, none⟩ = some (.bool b9) := HBr.cell 9
        have f10 : wr.cell? ⟨w.heap.size + 1, 10, none⟩ = some (.int .i64 b10) := HBr.cell 10
        have HLOW := Lib.hid (HZ.out.trans (hBr.mono HZ.out.size))
        clear hne he hlt HAr HBr hBr HU HV HA HB
        go_wp2_with fail
        go_region_held3 (fun w' => (w'.cell? ⟨w.heap.size, 0, none⟩ = some (.int .i64 a0) ∧ w'.cell? ⟨w.heap.size, 1, none⟩ = some (.int .i64 a1) ∧ w'.cell? ⟨w.heap.size, 2, none⟩ = some (.int .i64 a2) ∧ w'.cell? ⟨w.heap.size, 3, none⟩ = some (.int .i64 a3) ∧ w'.cell? ⟨w.heap.size, 4, none⟩ = some (.int .i64 a4) ∧ w'.cell? ⟨w.heap.size, 5, none⟩ = some (.int .i64 a5) ∧ w'.cell? ⟨w.heap.size, 6, none⟩ = some (.slice A xs.length cx) ∧ w'.cell? ⟨w.heap.size, 7, none⟩ = some (.int .i64 a7) ∧ w'.cell? ⟨w.heap.size, 8, none⟩ = some (.int .i64 a8) ∧ w'.cell? ⟨w.heap.size, 9, none⟩ = some (.bool a9) ∧ w'.cell? ⟨w.heap.size, 10, none⟩ = some (.int .i64 a10)) ∧ (w'.cell? ⟨w.heap.size + 1, 0, none⟩ = some (.int .i64 b0) ∧ w'.cell? ⟨w.heap.size + 1, 1, none⟩ = some (.int .i64 b1) ∧ w'.cell? ⟨w.heap.size + 1, 2, none⟩ = some (.int .i64 b2) ∧ w'.cell? ⟨w.heap.size + 1, 3, none⟩ = some (.int .i64 b3) ∧ w'.cell? ⟨w.heap.size + 1, 4, none⟩ = some (.int .i64 b4) ∧ w'.cell? ⟨w.heap.size + 1, 5, none⟩ = some (.int .i64 b5) ∧ w'.cell? ⟨w.heap.size + 1, 6, none⟩ = some (.slice B ys.length cy) ∧ w'.cell? ⟨w.heap.size + 1, 7, none⟩ = some (.int .i64 b7) ∧ w'.cell? ⟨w.heap.size + 1, 8, none⟩ = some (.int .i64 b8) ∧ w'.cell? ⟨w.heap.size + 1, 9, none⟩ = some (.bool b9) ∧ w'.cell? ⟨w.heap.size + 1, 10, none⟩ = some (.int .i64 b10))) (go_keep) (fail)
        all_goals
          go_wp2_with fail
        all_goals
          clear e0 e1 e2 e3 e4 e5 e6 e7 e8 e9 e10 f0 f1 f2 f3 f4 f5 f6 f7 f8 f9 f10
          go_ret
          refine ⟨ret_bool ?_, ((HLOW.out.alloc HLOW.out.size _).alloc (Nat.le_trans HLOW.out.size (World.alloc_le _ _)) _).drew⟩
          have hne := HNE.out
          simp_all
  · have hl' : ((xs.length : Int) != (ys.length : Int)) = true := by simp; omega
    have hne : (xs == ys) = false := by
      rw [beq_eq_false_iff_ne]
      exact fun e => hl (by rw [e])
    have HNE := Lib.hid hne
    clear hne hl
    go_enter Tryd.func19, Tryd.ntmps19
    go_wp2_with fail
    go_ret
    exact ⟨by rw [HNE.out, Bool.and_false]; rfl, HZ.out⟩
theorem same24 (x c : Cmd) (A B : Option Addr) (cx cap : Nat) (b : Bool) (w : World) (hu : NumSrc w (.slice A x.flows.length cx) x.flows) (hv : NumSrc w (.slice B c.flows.length cap) c.flows) (hn : x.flows.length ≤ 9000) (hm : c.flows.length ≤ 9000) (hb : decide (x = c) = b) :
    Calls Tryd.prog 19 #[.agg #[.int .i64 x.kind, .int .i64 x.id, .int .i64 x.ek, .int .i64 x.loan, .int .i64 x.other, .int .i64 x.amount, .slice A x.flows.length cx, .int .i64 x.past, .int .i64 x.down, .bool x.bad, .int .i64 x.n], .agg #[.int .i64 c.kind, .int .i64 c.id, .int .i64 c.ek, .int .i64 c.loan, .int .i64 c.other, .int .i64 c.amount, .slice B c.flows.length cap, .int .i64 c.past, .int .i64 c.down, .bool c.bad, .int .i64 c.n]] w fun e w' => e = .returned (.bool b) ∧ Below w.heap.size w w' := by
  refine (same24_raw x.kind x.id x.ek x.loan x.other x.amount x.past x.down x.n c.kind c.id c.ek c.loan c.other c.amount c.past c.down c.n x.bad c.bad A B cx cap x.flows c.flows w hu hv hn hm).mono ?_
  rintro e w' ⟨rfl, h⟩
  refine ⟨ret_bool ?_, h⟩
  subst hb
  obtain ⟨x0, x1, x2, x3, x4, x5, x6, x7, x8, x9, x10⟩ := x
  obtain ⟨c0, c1, c2, c3, c4, c5, c6, c7, c8, c9, c10⟩ := c
  rw [Bool.eq_iff_iff]
  simp only [Bool.and_eq_true, beq_iff_eq, decide_eq_true_eq, Cmd.mk.injEq]
  constructor
  · rintro ⟨⟨⟨⟨⟨⟨⟨⟨h0, h10⟩, h1⟩, h2⟩, h3⟩, h4⟩, h5⟩, ⟨h7, h8⟩, h9⟩, h6⟩
    exact ⟨h0, h1, h2, h3, h4, h5, h6, h7, h8, h9, h10⟩
  · rintro ⟨h0, h1, h2, h3, h4, h5, h6, h7, h8, h9, h10⟩
    exact ⟨⟨⟨⟨⟨⟨⟨⟨h0, h10⟩, h1⟩, h2⟩, h3⟩, h4⟩, h5⟩, ⟨h7, h8⟩, h9⟩, h6⟩
end Go.Proofs.YtdmopagkahgepaaDoor
