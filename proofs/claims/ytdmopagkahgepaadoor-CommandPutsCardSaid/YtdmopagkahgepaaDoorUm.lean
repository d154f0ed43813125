/- lombardlaw24.From. -/
import Derived.Test.YtdmopagkahgepaaDoorUl
namespace Go.Proofs.YtdmopagkahgepaaDoor
open Go.RowKit Go.Maps Go.ChangeMaps Go.ChangeShapes

theorem three_new (w : World) (t1 t2 t3 : TypeId) (c1 c2 c3 : Array Value) : Whole (((w.alloc (.cells c1 t1)).alloc (.cells c2 t2)).alloc (.cells c3 t3)) w.heap.size t1 c1 ∧ Whole (((w.alloc (.cells c1 t1)).alloc (.cells c2 t2)).alloc (.cells c3 t3)) (w.heap.size + 1) t2 c2 ∧ Whole (((w.alloc (.cells c1 t1)).alloc (.cells c2 t2)).alloc (.cells c3 t3)) (w.heap.size + 2) t3 c3 ∧ Below w.heap.size w (((w.alloc (.cells c1 t1)).alloc (.cells c2 t2)).alloc (.cells c3 t3)) := by
  obtain ⟨h1, h2, h3⟩ := two_new w t1 t2 c1 c2
  refine ⟨h1.alloc _, h2.alloc _, ?_, h3.alloc h3.size _⟩
  have := Whole.new ((w.alloc (.cells c1 t1)).alloc (.cells c2 t2)) t3 c3
  rw [World.size_alloc, World.size_alloc] at this
  exact this
theorem ends {w : World} {b : Nat} {t : TypeId} {c0 c1 c2 c3 c4 c5 c6 c7 c8 c9 c10 : Value} (h : Whole w b t #[c0, c1, c2, c3, c4, c5, c6, c7, c8, c9, c10]) : w.cell? ⟨b, 0, none⟩ = some c0 ∧ w.cell? ⟨b, 10, none⟩ = some c10 := ⟨h.cell 0, h.cell 10⟩

set_option maxRecDepth 100000 in
set_option maxHeartbeats 4000000 in
theorem from_any (a0 a1 a2 a3 a4 a5 a7 a8 a10 : Int) (a9 : Bool) (A : Option Addr) (cap : Nat) (xs : List Int) (w : World) (hf : FlowsIn w A cap xs) (hn : xs.length ≤ 9000) :
    Calls Tryd.prog 20 #[.agg #[.int .i64 a0, .int .i64 a1, .int .i64 a2, .int .i64 a3, .int .i64 a4, .int .i64 a5, .slice A xs.length cap, .int .i64 a7, .int .i64 a8, .bool a9, .int .i64 a10]] w fun e w' => ∃ A' c', e = .returned (.agg #[.int .i64 a0, .int .i64 a1, .int .i64 a2, .int .i64 a3, .int .i64 a4, .int .i64 a5, .slice A' xs.length c', .int .i64 a7, .int .i64 a8, .bool a9, .int .i64 a10]) ∧ NumsOwn w' w.heap.size (.slice A' xs.length c') xs ∧ Below w.heap.size w w' := by
  obtain ⟨hB, hR, hE, hZ⟩ := three_new w 47 54 45 #[.int .i64 a0, .int .i64 a1, .int .i64 a2, .int .i64 a3, .int .i64 a4, .int .i64 a5, .slice A xs.length cap, .int .i64 a7, .int .i64 a8, .bool a9, .int .i64 a10] #[.int .i64 0, .int .i64 0, .int .i64 0, .int .i64 0, .int .i64 0, .int .i64 0, .slice none 0 0, .int .i64 0, .int .i64 0, .bool false, .int .i64 0] #[.int .i64 a1, .int .i64 a2, .int .i64 a3, .int .i64 a4, .int .i64 a5, .slice A xs.length cap, .int .i64 a7, .int .i64 a8, .bool a9]
  have HF := Lib.hid (hf.below hZ)
  have HB := Lib.hid hB
  have HR := Lib.hid hR
  have HE := Lib.hid hE
  have HZ := Lib.hid hZ
  clear hf hZ hB hR hE
  go_enter Tryd.func20, Tryd.ntmps20
  go_wp2_with fail
  generalize ((w.alloc (.cells #[.int .i64 a0, .int .i64 a1, .int .i64 a2, .int .i64 a3, .int .i64 a4, .int .i64 a5, .slice A xs.length cap, .int .i64 a7, .int .i64 a8, .bool a9, .int .i64 a10] 47)).alloc (.cells #[.int .i64 0, .int .i64 0, .int .i64 0, .int .i64 0, .int .i64 0, .int .i64 0, .slice none 0 0, .int .i64 0, .int .i64 0, .bool false, .int .i64 0] 54)).alloc (.cells #[.int .i64 a1, .int .i64 a2, .int .i64 a3, .int .i64 a4, .int .i64 a5, .slice A xs.length cap, .int .i64 a7, .int .i64 a8, .bool a9] 45) = W at HF HB HR HE HZ ⊢
  have hbs := HZ.out.size
  have hbl := HB.out.lt
  have hrl := HR.out.lt
  have hel := HE.out.lt
  have hs1 := And.intro (ends (show Whole W.drew w.heap.size 47 #[.int .i64 a0, .int .i64 a1, .int .i64 a2, .int .i64 a3, .int .i64 a4, .int .i64 a5, .slice A xs.length cap, .int .i64 a7, .int .i64 a8, .bool a9, .int .i64 a10] from HB.out)) (nine (show Whole W.drew (w.heap.size + 2) 45 #[.int .i64 a1, .int .i64 a2, .int .i64 a3, .int .i64 a4, .int .i64 a5, .slice A xs.length cap, .int .i64 a7, .int .i64 a8, .bool a9] from HE.out))
  have hs2 := And.intro (ends (show Whole (W.alloc (.cells #[] 2)).drew w.heap.size 47 #[.int .i64 a0, .int .i64 a1, .int .i64 a2, .int .i64 a3, .int .i64 a4, .int .i64 a5, .slice A xs.length cap, .int .i64 a7, .int .i64 a8, .bool a9, .int .i64 a10] from HB.out.alloc _)) (nine (show Whole (W.alloc (.cells #[] 2)).drew (w.heap.size + 2) 45 #[.int .i64 a1, .int .i64 a2, .int .i64 a3, .int .i64 a4, .int .i64 a5, .slice A xs.length cap, .int .i64 a7, .int .i64 a8, .bool a9] from HE.out.alloc _))
  have hO : NumsOwn (W.alloc (.cells #[] 2)).drew W.heap.size (.slice (some ⟨W.heap.size, 0, none⟩) 0 0) [] := NumsOwn.empty W W.heap.size (Nat.le_refl _)
  have hFd : FlowsIn (W.alloc (.cells #[] 2)).drew A cap xs := HF.out.below ((Below.refl _ W).alloc (Nat.le_refl _) (.cells #[] 2)).drew
  have hbz : W.heap.size ≤ (W.alloc (.cells #[] 2)).drew.heap.size := World.alloc_le W _
  have hBD : Below w.heap.size w (W.alloc (.cells #[] 2)).drew := (HZ.out.alloc hbs (.cells #[] 2)).drew
  have hRa : Whole (W.alloc (.cells #[] 2)).drew (w.heap.size + 1) 54 #[.int .i64 0, .int .i64 0, .int .i64 0, .int .i64 0, .int .i64 0, .int .i64 0, .slice none 0 0, .int .i64 0, .int .i64 0, .bool false, .int .i64 0] := HR.out.alloc _
  have hBa : Whole (W.alloc (.cells #[] 2)).drew w.heap.size 47 #[.int .i64 a0, .int .i64 a1, .int .i64 a2, .int .i64 a3, .int .i64 a4, .int .i64 a5, .slice A xs.length cap, .int .i64 a7, .int .i64 a8, .bool a9, .int .i64 a10] := HB.out.alloc _
  have hEa : Whole (W.alloc (.cells #[] 2)).drew (w.heap.size + 2) 45 #[.int .i64 a1, .int .i64 a2, .int .i64 a3, .int .i64 a4, .int .i64 a5, .slice A xs.length cap, .int .i64 a7, .int .i64 a8, .bool a9] := HE.out.alloc _
  have hne : ∀ q, q < W.heap.size → some q ≠ (Value.slice (some ⟨W.heap.size, 0, none⟩) 0 0).ownBlock := fun q hq e => by
    have e' : q = W.heap.size := Option.some.inj e
    omega
  have HS1 := Lib.hid hs1
  have HS2 := Lib.hid hs2
  have HO := Lib.hid hO
  have HFD := Lib.hid hFd
  have HBD := Lib.hid hBD
  have HRA := Lib.hid hRa
  have HBA := Lib.hid hBa
  have HEA := Lib.hid hEa
  have HNE := Lib.hid hne
  have HBZ := Lib.hid hbz
  have HN1 := Lib.hid (show w.heap.size ≠ w.heap.size + 1 by omega)
  have HN2 := Lib.hid (show w.heap.size + 2 ≠ w.heap.size + 1 by omega)
  clear hs1 hs2 HB HR HE hO hFd hBD hRa hBa hEa hne HF hbz
  go_region_held3 (fun w' => (w'.cell? ⟨w.heap.size, 0, none⟩ = some (.int .i64 a0) ∧ w'.cell? ⟨w.heap.size, 10, none⟩ = some (.int .i64 a10)) ∧ w'.cell? ⟨w.heap.size + 2, 0, none⟩ = some (.int .i64 a1) ∧ w'.cell? ⟨w.heap.size + 2, 1, none⟩ = some (.int .i64 a2) ∧ w'.cell? ⟨w.heap.size + 2, 2, none⟩ = some (.int .i64 a3) ∧ w'.cell? ⟨w.heap.size + 2, 3, none⟩ = some (.int .i64 a4) ∧ w'.cell? ⟨w.heap.size + 2, 4, none⟩ = some (.int .i64 a5) ∧ w'.cell? ⟨w.heap.size + 2, 5, none⟩ = some (.slice A xs.length cap) ∧ w'.cell? ⟨w.heap.size + 2, 6, none⟩ = some (.int .i64 a7) ∧ w'.cell? ⟨w.heap.size + 2, 7, none⟩ = some (.int .i64 a8) ∧ w'.cell? ⟨w.heap.size + 2, 8, none⟩ = some (.bool a9))
    (first | (with_reducible exact ⟨ends (oth11 HB3 HN1.out), nine (oth11 HE3 HN2.out)⟩) | (with_reducible exact ⟨ends HB3, nine HE3⟩) | (with_reducible exact HS2.out) | (with_reducible exact HS1.out))
    ((refine step_copy_flows _ (by rfl) _ _ (by rfl) W.heap.size _ (by rfl) HO.out A cap xs (by rfl) HFD.out (by omega) HBZ.out ?_; intro A' c' w3 hN3 hg3; have HB3 := HBA.out.grown hg3 (HNE.out _ hbl); have HE3 := HEA.out.grown hg3 (HNE.out _ hel); have HR3 := HRA.out.grown hg3 (HNE.out _ hrl); have hrl3 := HR3.lt; obtain ⟨r0, r1, r2, r3, r4, r5, r6, r7, r8, r9, r10⟩ := elev HR3; have rf := fun i => HR3.frozen i))
  obtain ⟨hWe, hBe, hGe⟩ := put11t (x0 := .int .i64 a0) (x1 := .int .i64 a1) (x2 := .int .i64 a2) (x3 := .int .i64 a3) (x4 := .int .i64 a4) (x5 := .int .i64 a5) (x6 := .slice A' xs.length c') (x7 := .int .i64 a7) (x8 := .int .i64 a8) (x9 := .bool a9) (x10 := .int .i64 a10) HR3 (HBD.out.grown hg3 (Nat.le_trans hbs HBZ.out) (fun i e => by cases e; exact hbs)) (Nat.le_succ _)
  have hNe := (hN3.grown hGe hrl).lower hbs
  obtain ⟨q0, q1, q2, q3, q4, q5, q6, q7, q8, q9, q10⟩ := elev hWe
  clear r0 r1 r2 r3 r4 r5 r6 r7 r8 r9 r10 rf
  go_wp2_with fail
  refine bodyPost_ret (v := .agg #[.int .i64 a0, .int .i64 a1, .int .i64 a2, .int .i64 a3, .int .i64 a4, .int .i64 a5, .slice A' xs.length c', .int .i64 a7, .int .i64 a8, .bool a9, .int .i64 a10]) ?_ rfl ⟨A', c', rfl, hNe, hBe⟩
  simp [results, Tryd.results20, go_sem, q0, q1, q2, q3, q4, q5, q6, q7, q8, q9, q10]
end Go.Proofs.YtdmopagkahgepaaDoor
