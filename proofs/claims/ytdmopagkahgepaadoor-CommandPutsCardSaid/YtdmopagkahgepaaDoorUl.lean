/- lombardlaw24.To. -/
import Derived.Test.YtdmopagkahgepaaDoorUk
namespace Go.Proofs.YtdmopagkahgepaaDoor
open Go.RowKit Go.Maps Go.ChangeMaps Go.ChangeShapes

theorem elev {w : World} {b : Nat} {t : TypeId} {c0 c1 c2 c3 c4 c5 c6 c7 c8 c9 c10 : Value} (h : Whole w b t #[c0, c1, c2, c3, c4, c5, c6, c7, c8, c9, c10]) : w.cell? ⟨b, 0, none⟩ = some c0 ∧ w.cell? ⟨b, 1, none⟩ = some c1 ∧ w.cell? ⟨b, 2, none⟩ = some c2 ∧ w.cell? ⟨b, 3, none⟩ = some c3 ∧ w.cell? ⟨b, 4, none⟩ = some c4 ∧ w.cell? ⟨b, 5, none⟩ = some c5 ∧ w.cell? ⟨b, 6, none⟩ = some c6 ∧ w.cell? ⟨b, 7, none⟩ = some c7 ∧ w.cell? ⟨b, 8, none⟩ = some c8 ∧ w.cell? ⟨b, 9, none⟩ = some c9 ∧ w.cell? ⟨b, 10, none⟩ = some c10 :=
  ⟨h.cell 0, h.cell 1, h.cell 2, h.cell 3, h.cell 4, h.cell 5, h.cell 6, h.cell 7, h.cell 8, h.cell 9, h.cell 10⟩
theorem oth11 {w : World} {b r : Nat} {t : TypeId} {cs : Array Value} {x0 x1 x2 x3 x4 x5 x6 x7 x8 x9 x10 : Value} (h : Whole w b t cs) (hne : b ≠ r) : Whole (((((((((((w.setCell ⟨r, 0, none⟩ x0).setCell ⟨r, 1, none⟩ x1).setCell ⟨r, 2, none⟩ x2).setCell ⟨r, 3, none⟩ x3).setCell ⟨r, 4, none⟩ x4).setCell ⟨r, 5, none⟩ x5).setCell ⟨r, 6, none⟩ x6).setCell ⟨r, 7, none⟩ x7).setCell ⟨r, 8, none⟩ x8).setCell ⟨r, 9, none⟩ x9).setCell ⟨r, 10, none⟩ x10) b t cs := by
  have h1 := h.other (p := ⟨r, 0, none⟩) hne x0
  have h2 := h1.other (p := ⟨r, 1, none⟩) hne x1
  have h3 := h2.other (p := ⟨r, 2, none⟩) hne x2
  have h4 := h3.other (p := ⟨r, 3, none⟩) hne x3
  have h5 := h4.other (p := ⟨r, 4, none⟩) hne x4
  have h6 := h5.other (p := ⟨r, 5, none⟩) hne x5
  have h7 := h6.other (p := ⟨r, 6, none⟩) hne x6
  have h8 := h7.other (p := ⟨r, 7, none⟩) hne x7
  have h9 := h8.other (p := ⟨r, 8, none⟩) hne x8
  have h10 := h9.other (p := ⟨r, 9, none⟩) hne x9
  have h11 := h10.other (p := ⟨r, 10, none⟩) hne x10
  exact h11
/-- As put11', at any type. -/
theorem put11t {w w0 : World} {r B : Nat} {t : TypeId} {c0 c1 c2 c3 c4 c5 c6 c7 c8 c9 c10 : Value} {x0 x1 x2 x3 x4 x5 x6 x7 x8 x9 x10 : Value} (h : Whole w r t #[c0, c1, c2, c3, c4, c5, c6, c7, c8, c9, c10]) (hb : Below B w0 w) (hB : B ≤ r) :
    Whole (((((((((((w.setCell ⟨r, 0, none⟩ x0).setCell ⟨r, 1, none⟩ x1).setCell ⟨r, 2, none⟩ x2).setCell ⟨r, 3, none⟩ x3).setCell ⟨r, 4, none⟩ x4).setCell ⟨r, 5, none⟩ x5).setCell ⟨r, 6, none⟩ x6).setCell ⟨r, 7, none⟩ x7).setCell ⟨r, 8, none⟩ x8).setCell ⟨r, 9, none⟩ x9).setCell ⟨r, 10, none⟩ x10) r t #[x0, x1, x2, x3, x4, x5, x6, x7, x8, x9, x10] ∧ Below B w0 (((((((((((w.setCell ⟨r, 0, none⟩ x0).setCell ⟨r, 1, none⟩ x1).setCell ⟨r, 2, none⟩ x2).setCell ⟨r, 3, none⟩ x3).setCell ⟨r, 4, none⟩ x4).setCell ⟨r, 5, none⟩ x5).setCell ⟨r, 6, none⟩ x6).setCell ⟨r, 7, none⟩ x7).setCell ⟨r, 8, none⟩ x8).setCell ⟨r, 9, none⟩ x9).setCell ⟨r, 10, none⟩ x10) ∧ w.grownBy (((((((((((w.setCell ⟨r, 0, none⟩ x0).setCell ⟨r, 1, none⟩ x1).setCell ⟨r, 2, none⟩ x2).setCell ⟨r, 3, none⟩ x3).setCell ⟨r, 4, none⟩ x4).setCell ⟨r, 5, none⟩ x5).setCell ⟨r, 6, none⟩ x6).setCell ⟨r, 7, none⟩ x7).setCell ⟨r, 8, none⟩ x8).setCell ⟨r, 9, none⟩ x9).setCell ⟨r, 10, none⟩ x10) (some r) := by
  have g0 : w.grownBy w (some r) := ⟨rfl, rfl, rfl, Nat.le_refl _, fun _ _ _ => rfl⟩
  have b1 := hb.setCell (p := ⟨r, 0, none⟩) hB x0
  have g1 := grown_set g0 0 x0
  have h1 : Whole (w.setCell ⟨r, 0, none⟩ x0) r t #[x0, c1, c2, c3, c4, c5, c6, c7, c8, c9, c10] := h.put 0 x0
  have b2 := b1.setCell (p := ⟨r, 1, none⟩) hB x1
  have g2 := grown_set g1 1 x1
  have h2 : Whole ((w.setCell ⟨r, 0, none⟩ x0).setCell ⟨r, 1, none⟩ x1) r t #[x0, x1, c2, c3, c4, c5, c6, c7, c8, c9, c10] := h1.put 1 x1
  have b3 := b2.setCell (p := ⟨r, 2, none⟩) hB x2
  have g3 := grown_set g2 2 x2
  have h3 : Whole (((w.setCell ⟨r, 0, none⟩ x0).setCell ⟨r, 1, none⟩ x1).setCell ⟨r, 2, none⟩ x2) r t #[x0, x1, x2, c3, c4, c5, c6, c7, c8, c9, c10] := h2.put 2 x2
  have b4 := b3.setCell (p := ⟨r, 3, none⟩) hB x3
  have g4 := grown_set g3 3 x3
  have h4 : Whole ((((w.setCell ⟨r, 0, none⟩ x0).setCell ⟨r, 1, none⟩ x1).setCell ⟨r, 2, none⟩ x2).setCell ⟨r, 3, none⟩ x3) r t #[x0, x1, x2, x3, c4, c5, c6, c7, c8, c9, c10] := h3.put 3 x3
  have b5 := b4.setCell (p := ⟨r, 4, none⟩) hB x4
  have g5 := grown_set g4 4 x4
  have h5 : Whole (((((w.setCell ⟨r, 0, none⟩ x0).setCell ⟨r, 1, none⟩ x1).setCell ⟨r, 2, none⟩ x2).setCell ⟨r, 3, none⟩ x3).setCell ⟨r, 4, none⟩ x4) r t #[x0, x1, x2, x3, x4, c5, c6, c7, c8, c9, c10] := h4.put 4 x4
  have b6 := b5.setCell (p := ⟨r, 5, none⟩) hB x5
  have g6 := grown_set g5 5 x5
  have h6 : Whole ((((((w.setCell ⟨r, 0, none⟩ x0).setCell ⟨r, 1, none⟩ x1).setCell ⟨r, 2, none⟩ x2).setCell ⟨r, 3, none⟩ x3).setCell ⟨r, 4, none⟩ x4).setCell ⟨r, 5, none⟩ x5) r t #[x0, x1, x2, x3, x4, x5, c6, c7, c8, c9, c10] := h5.put 5 x5
  have b7 := b6.setCell (p := ⟨r, 6, none⟩) hB x6
  have g7 := grown_set g6 6 x6
  have h7 : Whole (((((((w.setCell ⟨r, 0, none⟩ x0).setCell ⟨r, 1, none⟩ x1).setCell ⟨r, 2, none⟩ x2).setCell ⟨r, 3, none⟩ x3).setCell ⟨r, 4, none⟩ x4).setCell ⟨r, 5, none⟩ x5).setCell ⟨r, 6, none⟩ x6) r t #[x0, x1, x2, x3, x4, x5, x6, c7, c8, c9, c10] := h6.put 6 x6
  have b8 := b7.setCell (p := ⟨r, 7, none⟩) hB x7
  have g8 := grown_set g7 7 x7
  have h8 : Whole ((((((((w.setCell ⟨r, 0, none⟩ x0).setCell ⟨r, 1, none⟩ x1).setCell ⟨r, 2, none⟩ x2).setCell ⟨r, 3, none⟩ x3).setCell ⟨r, 4, none⟩ x4).setCell ⟨r, 5, none⟩ x5).setCell ⟨r, 6, none⟩ x6).setCell ⟨r, 7, none⟩ x7) r t #[x0, x1, x2, x3, x4, x5, x6, x7, c8, c9, c10] := h7.put 7 x7
  have b9 := b8.setCell (p := ⟨r, 8, none⟩) hB x8
  have g9 := grown_set g8 8 x8
  have h9 : Whole (((((((((w.setCell ⟨r, 0, none⟩ x0).setCell ⟨r, 1, none⟩ x1).setCell ⟨r, 2, none⟩ x2).setCell ⟨r, 3, none⟩ x3).setCell ⟨r, 4, none⟩ x4).setCell ⟨r, 5, none⟩ x5).setCell ⟨r, 6, none⟩ x6).setCell ⟨r, 7, none⟩ x7).setCell ⟨r, 8, none⟩ x8) r t #[x0, x1, x2, x3, x4, x5, x6, x7, x8, c9, c10] := h8.put 8 x8
  have b10 := b9.setCell (p := ⟨r, 9, none⟩) hB x9
  have g10 := grown_set g9 9 x9
  have h10 : Whole ((((((((((w.setCell ⟨r, 0, none⟩ x0).setCell ⟨r, 1, none⟩ x1).setCell ⟨r, 2, none⟩ x2).setCell ⟨r, 3, none⟩ x3).setCell ⟨r, 4, none⟩ x4).setCell ⟨r, 5, none⟩ x5).setCell ⟨r, 6, none⟩ x6).setCell ⟨r, 7, none⟩ x7).setCell ⟨r, 8, none⟩ x8).setCell ⟨r, 9, none⟩ x9) r t #[x0, x1, x2, x3, x4, x5, x6, x7, x8, x9, c10] := h9.put 9 x9
  have b11 := b10.setCell (p := ⟨r, 10, none⟩) hB x10
  have g11 := grown_set g10 10 x10
  have h11 : Whole (((((((((((w.setCell ⟨r, 0, none⟩ x0).setCell ⟨r, 1, none⟩ x1).setCell ⟨r, 2, none⟩ x2).setCell ⟨r, 3, none⟩ x3).setCell ⟨r, 4, none⟩ x4).setCell ⟨r, 5, none⟩ x5).setCell ⟨r, 6, none⟩ x6).setCell ⟨r, 7, none⟩ x7).setCell ⟨r, 8, none⟩ x8).setCell ⟨r, 9, none⟩ x9).setCell ⟨r, 10, none⟩ x10) r t #[x0, x1, x2, x3, x4, x5, x6, x7, x8, x9, x10] := h10.put 10 x10
  exact ⟨h11, b11, g11⟩

/-- A box and a result's block, new. -/
theorem two_new (w : World) (t1 t2 : TypeId) (c1 c2 : Array Value) : Whole ((w.alloc (.cells c1 t1)).alloc (.cells c2 t2)) w.heap.size t1 c1 ∧ Whole ((w.alloc (.cells c1 t1)).alloc (.cells c2 t2)) (w.heap.size + 1) t2 c2 ∧ Below w.heap.size w ((w.alloc (.cells c1 t1)).alloc (.cells c2 t2)) := by
  refine ⟨(Whole.new w t1 c1).alloc _, ?_, ((Below.refl _ w).alloc (Nat.le_refl _) _).alloc (by simp) _⟩
  have := Whole.new (w.alloc (.cells c1 t1)) t2 c2
  rw [World.size_alloc] at this
  exact this

set_option maxRecDepth 100000 in
set_option maxHeartbeats 4000000 in
theorem to24_any (a0 a1 a2 a3 a4 a5 a7 a8 a10 : Int) (a9 : Bool) (A : Option Addr) (cap : Nat) (xs : List Int) (w : World) (hf : FlowsIn w A cap xs) (hn : xs.length ≤ 9000) :
    Calls Tryd.prog 22 #[.agg #[.int .i64 a0, .int .i64 a1, .int .i64 a2, .int .i64 a3, .int .i64 a4, .int .i64 a5, .slice A xs.length cap, .int .i64 a7, .int .i64 a8, .bool a9, .int .i64 a10]] w fun e w' => ∃ A' c', e = .returned (.agg #[.int .i64 a0, .int .i64 a1, .int .i64 a2, .int .i64 a3, .int .i64 a4, .int .i64 a5, .slice A' xs.length c', .int .i64 a7, .int .i64 a8, .bool a9, .int .i64 a10]) ∧ NumsOwn w' w.heap.size (.slice A' xs.length c') xs ∧ Below w.heap.size w w' := by
  obtain ⟨hB, hR, hZ⟩ := two_new w 54 47 #[.int .i64 a0, .int .i64 a1, .int .i64 a2, .int .i64 a3, .int .i64 a4, .int .i64 a5, .slice A xs.length cap, .int .i64 a7, .int .i64 a8, .bool a9, .int .i64 a10] #[.int .i64 0, .int .i64 0, .int .i64 0, .int .i64 0, .int .i64 0, .int .i64 0, .slice none 0 0, .int .i64 0, .int .i64 0, .bool false, .int .i64 0]
  have HF := Lib.hid (hf.below hZ)
  have HB := Lib.hid hB
  have HR := Lib.hid hR
  have HZ := Lib.hid hZ
  clear hf hZ hB hR
  go_enter Tryd.func22, Tryd.ntmps22
  go_wp2_with fail
  generalize (w.alloc (.cells #[.int .i64 a0, .int .i64 a1, .int .i64 a2, .int .i64 a3, .int .i64 a4, .int .i64 a5, .slice A xs.length cap, .int .i64 a7, .int .i64 a8, .bool a9, .int .i64 a10] 54)).alloc (.cells #[.int .i64 0, .int .i64 0, .int .i64 0, .int .i64 0, .int .i64 0, .int .i64 0, .slice none 0 0, .int .i64 0, .int .i64 0, .bool false, .int .i64 0] 47) = W at HF HB HR HZ ⊢
  have hB := HB.out
  have hbs := HZ.out.size
  have hbl := hB.lt
  have hrl := HR.out.lt
  have hbd : Whole W.drew w.heap.size 54 #[.int .i64 a0, .int .i64 a1, .int .i64 a2, .int .i64 a3, .int .i64 a4, .int .i64 a5, .slice A xs.length cap, .int .i64 a7, .int .i64 a8, .bool a9, .int .i64 a10] := hB
  have HBD := Lib.hid hbd
  have HFD := Lib.hid (HF.out.below (Below.refl W.heap.size W).drew)
  have HBR := Lib.hid (show w.heap.size ≠ w.heap.size + 1 by omega)
  clear hB hbd
  go_region_held3 (fun w' => w'.cell? ⟨w.heap.size, 0, none⟩ = some (.int .i64 a0) ∧ w'.cell? ⟨w.heap.size, 1, none⟩ = some (.int .i64 a1) ∧ w'.cell? ⟨w.heap.size, 2, none⟩ = some (.int .i64 a2) ∧ w'.cell? ⟨w.heap.size, 3, none⟩ = some (.int .i64 a3) ∧ w'.cell? ⟨w.heap.size, 4, none⟩ = some (.int .i64 a4) ∧ w'.cell? ⟨w.heap.size, 5, none⟩ = some (.int .i64 a5) ∧ w'.cell? ⟨w.heap.size, 6, none⟩ = some (.slice A xs.length cap) ∧ w'.cell? ⟨w.heap.size, 7, none⟩ = some (.int .i64 a7) ∧ w'.cell? ⟨w.heap.size, 8, none⟩ = some (.int .i64 a8) ∧ w'.cell? ⟨w.heap.size, 9, none⟩ = some (.bool a9) ∧ w'.cell? ⟨w.heap.size, 10, none⟩ = some (.int .i64 a10))
    (first | (with_reducible exact elev (oth11 HB3 HBR.out)) | (with_reducible exact elev HB3) | (with_reducible exact elev HBD.out))
    ((go_at_call 49; refine (to22_any a1 a2 a3 a4 a5 a7 a8 a9 A cap xs _ HFD.out hn).mono ?_; rintro e w3 ⟨A', c', rfl, hN3, hb3'⟩; have hb3 : Below W.heap.size W w3 := below_undrew hb3'; have HB3 := HB.out.below hb3 hbl; have HR3 := HR.out.below hb3 hrl; have hrl3 := HR3.lt; obtain ⟨r0, r1, r2, r3, r4, r5, r6, r7, r8, r9, r10⟩ := elev HR3; have rf := fun i => HR3.frozen i))
  obtain ⟨hWe, hBe, hGe⟩ := put11t (x0 := .int .i64 a0) (x1 := .int .i64 a1) (x2 := .int .i64 a2) (x3 := .int .i64 a3) (x4 := .int .i64 a4) (x5 := .int .i64 a5) (x6 := .slice A' xs.length c') (x7 := .int .i64 a7) (x8 := .int .i64 a8) (x9 := .bool a9) (x10 := .int .i64 a10) HR3 (HZ.out.trans (hb3.mono hbs)) (Nat.le_succ _)
  have hN3' : NumsOwn w3 W.heap.size (.slice A' xs.length c') xs := hN3
  have hNe := (hN3'.grown hGe hrl).lower hbs
  obtain ⟨q0, q1, q2, q3, q4, q5, q6, q7, q8, q9, q10⟩ := elev hWe
  clear r0 r1 r2 r3 r4 r5 r6 r7 r8 r9 r10 rf
  go_wp2_with fail
  refine bodyPost_ret (v := .agg #[.int .i64 a0, .int .i64 a1, .int .i64 a2, .int .i64 a3, .int .i64 a4, .int .i64 a5, .slice A' xs.length c', .int .i64 a7, .int .i64 a8, .bool a9, .int .i64 a10]) ?_ rfl ⟨A', c', rfl, hNe, hBe⟩
  simp [results, Tryd.results22, go_sem, q0, q1, q2, q3, q4, q5, q6, q7, q8, q9, q10]
end Go.Proofs.YtdmopagkahgepaaDoor
