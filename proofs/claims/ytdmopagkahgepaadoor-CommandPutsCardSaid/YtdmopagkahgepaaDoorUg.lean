/- command.same. -/
import Derived.Test.YtdmopagkahgepaaDoorUf
namespace Go.Proofs.YtdmopagkahgepaaDoor
open Go.RowKit Go.Maps Go.ChangeMaps Go.ChangeShapes

/-- A command, told. -/
structure Cmd where
  kind : Int
  id : Int
  ek : Int
  loan : Int
  other : Int
  amount : Int
  flows : List Int
  past : Int
  down : Int
  bad : Bool
  n : Int
  deriving DecidableEq
/-- Its value, over the slice of its flows. -/
def Cmd.val (c : Cmd) (fv : Value) : Value := .agg #[.int .i64 c.kind, .int .i64 c.id, .int .i64 c.ek, .int .i64 c.loan, .int .i64 c.other, .int .i64 c.amount, fv, .int .i64 c.past, .int .i64 c.down, .bool c.bad, .int .i64 c.n]

theorem ret_bool {a b : Bool} (h : a = b) : Ending.returned (.bool a) = .returned (.bool b) := by rw [h]

set_option maxRecDepth 100000 in
set_option maxHeartbeats 4000000 in
theorem same_any (a0 a1 a2 a3 a4 a5 a7 a8 a10 b0 b1 b2 b3 b4 b5 b7 b8 b10 : Int) (a9 b9 : Bool) (A B : Option Addr) (c d : Nat) (xs ys : List Int) (w : World)
    (hu : NumSrc w (.slice A xs.length c) xs) (hv : NumSrc w (.slice B ys.length d) ys) (hn : xs.length ≤ 9000) (hm : ys.length ≤ 9000) :
    Calls Tryd.prog 46 #[.agg #[.int .i64 a0, .int .i64 a1, .int .i64 a2, .int .i64 a3, .int .i64 a4, .int .i64 a5, .slice A xs.length c, .int .i64 a7, .int .i64 a8, .bool a9, .int .i64 a10],
      .agg #[.int .i64 b0, .int .i64 b1, .int .i64 b2, .int .i64 b3, .int .i64 b4, .int .i64 b5, .slice B ys.length d, .int .i64 b7, .int .i64 b8, .bool b9, .int .i64 b10]] w fun e w' =>
      e = .returned (.bool (a0 == b0 && a10 == b10 && a1 == b1 && a2 == b2 && a3 == b3 && a4 == b4 && a5 == b5 && (a7 == b7 && a8 == b8 && a9 == b9) && xs == ys)) ∧ Below w.heap.size w w' := by
  have hA : Whole ((w.alloc (.cells #[.int .i64 a0, .int .i64 a1, .int .i64 a2, .int .i64 a3, .int .i64 a4, .int .i64 a5, .slice A xs.length c, .int .i64 a7, .int .i64 a8, .bool a9, .int .i64 a10] 47)).alloc (.cells #[.int .i64 b0, .int .i64 b1, .int .i64 b2, .int .i64 b3, .int .i64 b4, .int .i64 b5, .slice B ys.length d, .int .i64 b7, .int .i64 b8, .bool b9, .int .i64 b10] 47)) w.heap.size 47 #[.int .i64 a0, .int .i64 a1, .int .i64 a2, .int .i64 a3, .int .i64 a4, .int .i64 a5, .slice A xs.length c, .int .i64 a7, .int .i64 a8, .bool a9, .int .i64 a10] := (Whole.new w 47 #[.int .i64 a0, .int .i64 a1, .int .i64 a2, .int .i64 a3, .int .i64 a4, .int .i64 a5, .slice A xs.length c, .int .i64 a7, .int .i64 a8, .bool a9, .int .i64 a10]).alloc _
  have hB : Whole ((w.alloc (.cells #[.int .i64 a0, .int .i64 a1, .int .i64 a2, .int .i64 a3, .int .i64 a4, .int .i64 a5, .slice A xs.length c, .int .i64 a7, .int .i64 a8, .bool a9, .int .i64 a10] 47)).alloc (.cells #[.int .i64 b0, .int .i64 b1, .int .i64 b2, .int .i64 b3, .int .i64 b4, .int .i64 b5, .slice B ys.length d, .int .i64 b7, .int .i64 b8, .bool b9, .int .i64 b10] 47)) (w.heap.size + 1) 47 #[.int .i64 b0, .int .i64 b1, .int .i64 b2, .int .i64 b3, .int .i64 b4, .int .i64 b5, .slice B ys.length d, .int .i64 b7, .int .i64 b8, .bool b9, .int .i64 b10] := by
    have := Whole.new (w.alloc (.cells #[.int .i64 a0, .int .i64 a1, .int .i64 a2, .int .i64 a3, .int .i64 a4, .int .i64 a5, .slice A xs.length c, .int .i64 a7, .int .i64 a8, .bool a9, .int .i64 a10] 47)) 47 #[.int .i64 b0, .int .i64 b1, .int .i64 b2, .int .i64 b3, .int .i64 b4, .int .i64 b5, .slice B ys.length d, .int .i64 b7, .int .i64 b8, .bool b9, .int .i64 b10]
    rw [World.size_alloc] at this
    exact this
  have hlow : Below w.heap.size w ((w.alloc (.cells #[.int .i64 a0, .int .i64 a1, .int .i64 a2, .int .i64 a3, .int .i64 a4, .int .i64 a5, .slice A xs.length c, .int .i64 a7, .int .i64 a8, .bool a9, .int .i64 a10] 47)).alloc (.cells #[.int .i64 b0, .int .i64 b1, .int .i64 b2, .int .i64 b3, .int .i64 b4, .int .i64 b5, .slice B ys.length d, .int .i64 b7, .int .i64 b8, .bool b9, .int .i64 b10] 47)) := ((Below.refl _ w).alloc (Nat.le_refl _) _).alloc (by simp) _
  have hu2 := hu.below hlow
  have hv2 := hv.below hlow
  go_enter Tryd.func46, Tryd.ntmps46
  go_wp2_with fail
  generalize (w.alloc (.cells #[.int .i64 a0, .int .i64 a1, .int .i64 a2, .int .i64 a3, .int .i64 a4, .int .i64 a5, .slice A xs.length c, .int .i64 a7, .int .i64 a8, .bool a9, .int .i64 a10] 47)).alloc (.cells #[.int .i64 b0, .int .i64 b1, .int .i64 b2, .int .i64 b3, .int .i64 b4, .int .i64 b5, .slice B ys.length d, .int .i64 b7, .int .i64 b8, .bool b9, .int .i64 b10] 47) = W at hA hB hlow hu2 hv2 ⊢
  have e0 : W.cell? ⟨w.heap.size, 0, none⟩ = some (.int .i64 a0) := hA.cell 0
  have f0 : W.cell? ⟨w.heap.size + 1, 0, none⟩ = some (.int .i64 b0) := hB.cell 0
  have e1 : W.cell? ⟨w.heap.size, 1, none⟩ = some (.int .i64 a1) := hA.cell 1
  have f1 : W.cell? ⟨w.heap.size + 1, 1, none⟩ = some (.int .i64 b1) := hB.cell 1
  have e2 : W.cell? ⟨w.heap.size, 2, none⟩ = some (.int .i64 a2) := hA.cell 2
  have f2 : W.cell? ⟨w.heap.size + 1, 2, none⟩ = some (.int .i64 b2) := hB.cell 2
  have e3 : W.cell? ⟨w.heap.size, 3, none⟩ = some (.int .i64 a3) := hA.cell 3
  have f3 : W.cell? ⟨w.heap.size + 1, 3, none⟩ = some (.int .i64 b3) := hB.cell 3
  have e4 : W.cell? ⟨w.heap.size, 4, none⟩ = some (.int .i64 a4) := hA.cell 4
  have f4 : W.cell? ⟨w.heap.size + 1, 4, none⟩ = some (.int .i64 b4) := hB.cell 4
  have e5 : W.cell? ⟨w.heap.size, 5, none⟩ = some (.int .i64 a5) := hA.cell 5
  have f5 : W.cell? ⟨w.heap.size + 1, 5, none⟩ = some (.int .i64 b5) := hB.cell 5
  have e6 : W.cell? ⟨w.heap.size, 6, none⟩ = some (.slice A xs.length c) := hA.cell 6
  have f6 : W.cell? ⟨w.heap.size + 1, 6, none⟩ = some (.slice B ys.length d) := hB.cell 6
  have e7 : W.cell? ⟨w.heap.size, 7, none⟩ = some (.int .i64 a7) := hA.cell 7
  have f7 : W.cell? ⟨w.heap.size + 1, 7, none⟩ = some (.int .i64 b7) := hB.cell 7
  have e8 : W.cell? ⟨w.heap.size, 8, none⟩ = some (.int .i64 a8) := hA.cell 8
  have f8 : W.cell? ⟨w.heap.size + 1, 8, none⟩ = some (.int .i64 b8) := hB.cell 8
  have e9 : W.cell? ⟨w.heap.size, 9, none⟩ = some (.bool a9) := hA.cell 9
  have f9 : W.cell? ⟨w.heap.size + 1, 9, none⟩ = some (.bool b9) := hB.cell 9
  have e10 : W.cell? ⟨w.heap.size, 10, none⟩ = some (.int .i64 a10) := hA.cell 10
  have f10 : W.cell? ⟨w.heap.size + 1, 10, none⟩ = some (.int .i64 b10) := hB.cell 10
  have hzA := hA.lt
  have hzB := hB.lt
  go_region_held3 (fun w' => w'.cell? ⟨w.heap.size, 1, none⟩ = some (.int .i64 a1) ∧ w'.cell? ⟨w.heap.size, 2, none⟩ = some (.int .i64 a2) ∧ w'.cell? ⟨w.heap.size, 3, none⟩ = some (.int .i64 a3) ∧ w'.cell? ⟨w.heap.size, 4, none⟩ = some (.int .i64 a4) ∧ w'.cell? ⟨w.heap.size, 5, none⟩ = some (.int .i64 a5) ∧ w'.cell? ⟨w.heap.size, 6, none⟩ = some (.slice A xs.length c) ∧ w'.cell? ⟨w.heap.size, 7, none⟩ = some (.int .i64 a7) ∧ w'.cell? ⟨w.heap.size, 8, none⟩ = some (.int .i64 a8) ∧ w'.cell? ⟨w.heap.size, 9, none⟩ = some (.bool a9) ∧ w'.cell? ⟨w.heap.size + 1, 1, none⟩ = some (.int .i64 b1) ∧ w'.cell? ⟨w.heap.size + 1, 2, none⟩ = some (.int .i64 b2) ∧ w'.cell? ⟨w.heap.size + 1, 3, none⟩ = some (.int .i64 b3) ∧ w'.cell? ⟨w.heap.size + 1, 4, none⟩ = some (.int .i64 b4) ∧ w'.cell? ⟨w.heap.size + 1, 5, none⟩ = some (.int .i64 b5) ∧ w'.cell? ⟨w.heap.size + 1, 6, none⟩ = some (.slice B ys.length d) ∧ w'.cell? ⟨w.heap.size + 1, 7, none⟩ = some (.int .i64 b7) ∧ w'.cell? ⟨w.heap.size + 1, 8, none⟩ = some (.int .i64 b8) ∧ w'.cell? ⟨w.heap.size + 1, 9, none⟩ = some (.bool b9)) (go_keep) (fail)
  · have hn1 : Whole ((W.alloc (.cells #[.int .i64 a1, .int .i64 a2, .int .i64 a3, .int .i64 a4, .int .i64 a5, .slice A xs.length c, .int .i64 a7, .int .i64 a8, .bool a9] 45)).alloc (.cells #[.int .i64 b1, .int .i64 b2, .int .i64 b3, .int .i64 b4, .int .i64 b5, .slice B ys.length d, .int .i64 b7, .int .i64 b8, .bool b9] 45)).drew W.heap.size 45 #[.int .i64 a1, .int .i64 a2, .int .i64 a3, .int .i64 a4, .int .i64 a5, .slice A xs.length c, .int .i64 a7, .int .i64 a8, .bool a9] := ((Whole.new W 45 #[.int .i64 a1, .int .i64 a2, .int .i64 a3, .int .i64 a4, .int .i64 a5, .slice A xs.length c, .int .i64 a7, .int .i64 a8, .bool a9]).alloc _).drew
    have hn2 : Whole ((W.alloc (.cells #[.int .i64 a1, .int .i64 a2, .int .i64 a3, .int .i64 a4, .int .i64 a5, .slice A xs.length c, .int .i64 a7, .int .i64 a8, .bool a9] 45)).alloc (.cells #[.int .i64 b1, .int .i64 b2, .int .i64 b3, .int .i64 b4, .int .i64 b5, .slice B ys.length d, .int .i64 b7, .int .i64 b8, .bool b9] 45)).drew (W.heap.size + 1) 45 #[.int .i64 b1, .int .i64 b2, .int .i64 b3, .int .i64 b4, .int .i64 b5, .slice B ys.length d, .int .i64 b7, .int .i64 b8, .bool b9] := by
      have := Whole.new (W.alloc (.cells #[.int .i64 a1, .int .i64 a2, .int .i64 a3, .int .i64 a4, .int .i64 a5, .slice A xs.length c, .int .i64 a7, .int .i64 a8, .bool a9] 45)) 45 #[.int .i64 b1, .int .i64 b2, .int .i64 b3, .int .i64 b4, .int .i64 b5, .slice B ys.length d, .int .i64 b7, .int .i64 b8, .bool b9]
      rw [World.size_alloc] at this
      exact this.drew
    have hbl := (((Below.refl _ W).alloc (Nat.le_refl _) (.cells #[.int .i64 a1, .int .i64 a2, .int .i64 a3, .int .i64 a4, .int .i64 a5, .slice A xs.length c, .int .i64 a7, .int .i64 a8, .bool a9] 45)).alloc (by simp) (.cells #[.int .i64 b1, .int .i64 b2, .int .i64 b3, .int .i64 b4, .int .i64 b5, .slice B ys.length d, .int .i64 b7, .int .i64 b8, .bool b9] 45)).drew
    have hA3 := hA.below hbl hA.lt
    have hB3 := hB.below hbl hB.lt
    have hu3 := hu2.below hbl
    have hv3 := hv2.below hbl
    have hl3 := hlow.trans (hbl.mono hlow.size)
    clear hA hB hu2 hv2 hlow hbl hu hv e0 e1 e2 e3 e4 e5 e6 e7 e8 e9 e10 f0 f1 f2 f3 f4 f5 f6 f7 f8 f9 f10
    generalize ((W.alloc (.cells #[.int .i64 a1, .int .i64 a2, .int .i64 a3, .int .i64 a4, .int .i64 a5, .slice A xs.length c, .int .i64 a7, .int .i64 a8, .bool a9] 45)).alloc (.cells #[.int .i64 b1, .int .i64 b2, .int .i64 b3, .int .i64 b4, .int .i64 b5, .slice B ys.length d, .int .i64 b7, .int .i64 b8, .bool b9] 45)).drew = WE at hn1 hn2 hA3 hB3 hu3 hv3 hl3 ⊢
    generalize W.heap.size = p at hn1 hn2 ⊢
    have g0 : WE.cell? ⟨p, 0, none⟩ = some (.int .i64 a1) := hn1.cell 0
    have k0 : WE.cell? ⟨p + 1, 0, none⟩ = some (.int .i64 b1) := hn2.cell 0
    have g1 : WE.cell? ⟨p, 1, none⟩ = some (.int .i64 a2) := hn1.cell 1
    have k1 : WE.cell? ⟨p + 1, 1, none⟩ = some (.int .i64 b2) := hn2.cell 1
    have g2 : WE.cell? ⟨p, 2, none⟩ = some (.int .i64 a3) := hn1.cell 2
    have k2 : WE.cell? ⟨p + 1, 2, none⟩ = some (.int .i64 b3) := hn2.cell 2
    have g3 : WE.cell? ⟨p, 3, none⟩ = some (.int .i64 a4) := hn1.cell 3
    have k3 : WE.cell? ⟨p + 1, 3, none⟩ = some (.int .i64 b4) := hn2.cell 3
    have g4 : WE.cell? ⟨p, 4, none⟩ = some (.int .i64 a5) := hn1.cell 4
    have k4 : WE.cell? ⟨p + 1, 4, none⟩ = some (.int .i64 b5) := hn2.cell 4
    have g5 : WE.cell? ⟨p, 5, none⟩ = some (.slice A xs.length c) := hn1.cell 5
    have k5 : WE.cell? ⟨p + 1, 5, none⟩ = some (.slice B ys.length d) := hn2.cell 5
    have g6 : WE.cell? ⟨p, 6, none⟩ = some (.int .i64 a7) := hn1.cell 6
    have k6 : WE.cell? ⟨p + 1, 6, none⟩ = some (.int .i64 b7) := hn2.cell 6
    have g7 : WE.cell? ⟨p, 7, none⟩ = some (.int .i64 a8) := hn1.cell 7
    have k7 : WE.cell? ⟨p + 1, 7, none⟩ = some (.int .i64 b8) := hn2.cell 7
    have g8 : WE.cell? ⟨p, 8, none⟩ = some (.bool a9) := hn1.cell 8
    have k8 : WE.cell? ⟨p + 1, 8, none⟩ = some (.bool b9) := hn2.cell 8
    have m0 : WE.cell? ⟨w.heap.size, 0, none⟩ = some (.int .i64 a0) := hA3.cell 0
    have m1 : WE.cell? ⟨w.heap.size, 10, none⟩ = some (.int .i64 a10) := hA3.cell 10
    have m2 : WE.cell? ⟨w.heap.size + 1, 0, none⟩ = some (.int .i64 b0) := hB3.cell 0
    have m3 : WE.cell? ⟨w.heap.size + 1, 10, none⟩ = some (.int .i64 b10) := hB3.cell 10
    have l1 := hn1.lt
    have l2 := hn2.lt
    have l3 := hA3.lt
    have l4 := hB3.lt
    go_wp2_with (go_at_call 73; refine (equal_any _ _ xs ys WE hu3 hv3 hn hm).mono ?_; rintro e w' ⟨rfl, hb⟩)
    all_goals
      clear g0 g1 g2 g3 g4 g5 g6 g7 g8 k0 k1 k2 k3 k4 k5 k6 k7 k8 m0 m1 m2 m3
      go_ret
      refine ⟨ret_bool ?_, ?_⟩
      · simp_all
      · first
          | exact hl3
          | exact hl3.trans (hb.mono hl3.size)
  · have hn1 : Whole ((W.alloc (.cells #[.int .i64 b1, .int .i64 b2, .int .i64 b3, .int .i64 b4, .int .i64 b5, .slice B ys.length d, .int .i64 b7, .int .i64 b8, .bool b9] 45)).alloc (.cells #[.int .i64 a1, .int .i64 a2, .int .i64 a3, .int .i64 a4, .int .i64 a5, .slice A xs.length c, .int .i64 a7, .int .i64 a8, .bool a9] 45)).drew W.heap.size 45 #[.int .i64 b1, .int .i64 b2, .int .i64 b3, .int .i64 b4, .int .i64 b5, .slice B ys.length d, .int .i64 b7, .int .i64 b8, .bool b9] := ((Whole.new W 45 #[.int .i64 b1, .int .i64 b2, .int .i64 b3, .int .i64 b4, .int .i64 b5, .slice B ys.length d, .int .i64 b7, .int .i64 b8, .bool b9]).alloc _).drew
    have hn2 : Whole ((W.alloc (.cells #[.int .i64 b1, .int .i64 b2, .int .i64 b3, .int .i64 b4, .int .i64 b5, .slice B ys.length d, .int .i64 b7, .int .i64 b8, .bool b9] 45)).alloc (.cells #[.int .i64 a1, .int .i64 a2, .int .i64 a3, .int .i64 a4, .int .i64 a5, .slice A xs.length c, .int .i64 a7, .int .i64 a8, .bool a9] 45)).drew (W.heap.size + 1) 45 #[.int .i64 a1, .int .i64 a2, .int .i64 a3, .int .i64 a4, .int .i64 a5, .slice A xs.length c, .int .i64 a7, .int .i64 a8, .bool a9] := by
      have := Whole.new (W.alloc (.cells #[.int .i64 b1, .int .i64 b2, .int .i64 b3, .int .i64 b4, .int .i64 b5, .slice B ys.length d, .int .i64 b7, .int .i64 b8, .bool b9] 45)) 45 #[.int .i64 a1, .int .i64 a2, .int .i64 a3, .int .i64 a4, .int .i64 a5, .slice A xs.length c, .int .i64 a7, .int .i64 a8, .bool a9]
      rw [World.size_alloc] at this
      exact this.drew
    have hbl := (((Below.refl _ W).alloc (Nat.le_refl _) (.cells #[.int .i64 b1, .int .i64 b2, .int .i64 b3, .int .i64 b4, .int .i64 b5, .slice B ys.length d, .int .i64 b7, .int .i64 b8, .bool b9] 45)).alloc (by simp) (.cells #[.int .i64 a1, .int .i64 a2, .int .i64 a3, .int .i64 a4, .int .i64 a5, .slice A xs.length c, .int .i64 a7, .int .i64 a8, .bool a9] 45)).drew
    have hA3 := hA.below hbl hA.lt
    have hB3 := hB.below hbl hB.lt
    have hu3 := hu2.below hbl
    have hv3 := hv2.below hbl
    have hl3 := hlow.trans (hbl.mono hlow.size)
    clear hA hB hu2 hv2 hlow hbl hu hv e0 e1 e2 e3 e4 e5 e6 e7 e8 e9 e10 f0 f1 f2 f3 f4 f5 f6 f7 f8 f9 f10
    generalize ((W.alloc (.cells #[.int .i64 b1, .int .i64 b2, .int .i64 b3, .int .i64 b4, .int .i64 b5, .slice B ys.length d, .int .i64 b7, .int .i64 b8, .bool b9] 45)).alloc (.cells #[.int .i64 a1, .int .i64 a2, .int .i64 a3, .int .i64 a4, .int .i64 a5, .slice A xs.length c, .int .i64 a7, .int .i64 a8, .bool a9] 45)).drew = WE at hn1 hn2 hA3 hB3 hu3 hv3 hl3 ⊢
    generalize W.heap.size = p at hn1 hn2 ⊢
    have g0 : WE.cell? ⟨p + 1, 0, none⟩ = some (.int .i64 a1) := hn2.cell 0
    have k0 : WE.cell? ⟨p, 0, none⟩ = some (.int .i64 b1) := hn1.cell 0
    have g1 : WE.cell? ⟨p + 1, 1, none⟩ = some (.int .i64 a2) := hn2.cell 1
    have k1 : WE.cell? ⟨p, 1, none⟩ = some (.int .i64 b2) := hn1.cell 1
    have g2 : WE.cell? ⟨p + 1, 2, none⟩ = some (.int .i64 a3) := hn2.cell 2
    have k2 : WE.cell? ⟨p, 2, none⟩ = some (.int .i64 b3) := hn1.cell 2
    have g3 : WE.cell? ⟨p + 1, 3, none⟩ = some (.int .i64 a4) := hn2.cell 3
    have k3 : WE.cell? ⟨p, 3, none⟩ = some (.int .i64 b4) := hn1.cell 3
    have g4 : WE.cell? ⟨p + 1, 4, none⟩ = some (.int .i64 a5) := hn2.cell 4
    have k4 : WE.cell? ⟨p, 4, none⟩ = some (.int .i64 b5) := hn1.cell 4
    have g5 : WE.cell? ⟨p + 1, 5, none⟩ = some (.slice A xs.length c) := hn2.cell 5
    have k5 : WE.cell? ⟨p, 5, none⟩ = some (.slice B ys.length d) := hn1.cell 5
    have g6 : WE.cell? ⟨p + 1, 6, none⟩ = some (.int .i64 a7) := hn2.cell 6
    have k6 : WE.cell? ⟨p, 6, none⟩ = some (.int .i64 b7) := hn1.cell 6
    have g7 : WE.cell? ⟨p + 1, 7, none⟩ = some (.int .i64 a8) := hn2.cell 7
    have k7 : WE.cell? ⟨p, 7, none⟩ = some (.int .i64 b8) := hn1.cell 7
    have g8 : WE.cell? ⟨p + 1, 8, none⟩ = some (.bool a9) := hn2.cell 8
    have k8 : WE.cell? ⟨p, 8, none⟩ = some (.bool b9) := hn1.cell 8
    have m0 : WE.cell? ⟨w.heap.size, 0, none⟩ = some (.int .i64 a0) := hA3.cell 0
    have m1 : WE.cell? ⟨w.heap.size, 10, none⟩ = some (.int .i64 a10) := hA3.cell 10
    have m2 : WE.cell? ⟨w.heap.size + 1, 0, none⟩ = some (.int .i64 b0) := hB3.cell 0
    have m3 : WE.cell? ⟨w.heap.size + 1, 10, none⟩ = some (.int .i64 b10) := hB3.cell 10
    have l1 := hn1.lt
    have l2 := hn2.lt
    have l3 := hA3.lt
    have l4 := hB3.lt
    go_wp2_with (go_at_call 73; refine (equal_any _ _ xs ys WE hu3 hv3 hn hm).mono ?_; rintro e w' ⟨rfl, hb⟩)
    all_goals
      clear g0 g1 g2 g3 g4 g5 g6 g7 g8 k0 k1 k2 k3 k4 k5 k6 k7 k8 m0 m1 m2 m3
      go_ret
      refine ⟨ret_bool ?_, ?_⟩
      · simp_all
      · first
          | exact hl3
          | exact hl3.trans (hb.mono hl3.size)
end Go.Proofs.YtdmopagkahgepaaDoor
