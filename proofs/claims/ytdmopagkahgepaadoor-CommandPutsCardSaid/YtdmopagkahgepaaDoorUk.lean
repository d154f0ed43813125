/- lombardlaw22.To: flows are copied. -/
import Derived.Test.YtdmopagkahgepaaDoorUj
import Derived.Laws.OwnMore
namespace Go.Proofs.YtdmopagkahgepaaDoor
open Go.RowKit Go.Maps Go.ChangeMaps Go.ChangeShapes

/-- append(own row, flows...). -/
theorem run_append_flows (w : World) (ty : TypeId) (base : Nat) (v : Value) (ys : List Int) (hown : NumsOwn w base v ys) (A : Option Addr) (cap : Nat) (xs : List Int) (hf : FlowsIn w A cap xs) (hl : ys.length + xs.length ≤ 100000) (hb : base ≤ w.heap.size) :
    ∃ A' c' w', (Builtin.append_ #[41, 41] ty #[v, .slice A xs.length cap]).run Tryd.prog w = .ok (.slice A' (ys ++ xs).length c') w' ∧ NumsOwn w' base (.slice A' (ys ++ xs).length c') (ys ++ xs) ∧ w.grownBy w' v.ownBlock := by
  obtain ⟨i2, hi2, hz2, hs2, hy2⟩ := info_parts info2'
  cases A with
  | none =>
    obtain ⟨rfl, rfl⟩ := hf.none_nil
    have hr := run_append_owned_none (P := Tryd.prog) (w := w) base 41 ty 2 i2 1 Tryd.underlying41 hi2 v ys.length (ys.map (Value.int .i64)) hown
    obtain ⟨A', c', rfl, _⟩ := id hown.nums
    exact ⟨A', c', w, by rw [List.append_nil]; exact hr, by rw [List.append_nil]; exact hown, ⟨rfl, rfl, rfl, Nat.le_refl _, fun _ _ _ => rfl⟩⟩
  | some ad =>
    obtain ⟨v', w', hr, h2, h3, _⟩ := run_append_own_at (P := Tryd.prog) w base 41 ty 2 i2 (.int .i64 0) 1 8 Tryd.underlying41 hi2 hz2 hs2 hy2 rfl (by decide) v ys.length (ys.map (Value.int .i64)) hown ad xs.length cap (xs.map (Value.int .i64)) (by simp) hf.at_ (ints_oneCell .i64 xs) (by unfold maxLen; omega) (by omega) hb
    have h2' : NumsOwn w' base v' (ys ++ xs) := by
      show w'.ownsRow base 2 1 v' (ys ++ xs).length ((ys ++ xs).map (Value.int .i64))
      rw [List.length_append, List.map_append]
      exact h2
    obtain ⟨A', c', rfl, _⟩ := id h2'.nums
    exact ⟨A', c', w', hr, h2', h3⟩
theorem step_append_flows (w : World) {ops : Array Oper} {o : Oper} {a : Act} {K : Act → World → Prop} {Q : Exit → Act → World → Prop} {E : Prop} (hgd : o.guard = none) (s x : Operand)
    (ho : o.op = .call { callee := .builtin .append, args := #[s, x], argTypes := #[41, 41] })
    (base : Nat) (v : Value) (ys : List Int) (hs : a.eval s = v) (hown : NumsOwn w base v ys) (A : Option Addr) (cap : Nat) (xs : List Int) (hx : a.eval x = .slice A xs.length cap) (hf : FlowsIn w A cap xs) (hl : ys.length + xs.length ≤ 100000) (hb : base ≤ w.heap.size)
    (h : ∀ A' c' w', NumsOwn w' base (.slice A' (ys ++ xs).length c') (ys ++ xs) → w.grownBy w' v.ownBlock → K (a.put o.dst (.slice A' (ys ++ xs).length c')) w') :
    if Region.wanted o (yielded ops a.tmps) = true then Oper.wp Tryd.prog o a w K Q else E := by
  have hw : Region.wanted o (yielded ops a.tmps) = true := by simp [Region.wanted, hgd]
  rw [if_pos hw]
  obtain ⟨A', c', w', hr, h2, h3⟩ := run_append_flows w o.type base v ys hown A cap xs hf hl hb
  unfold Oper.wp execOp
  simp only [ho, resolve, invoke, builtin, Sem.run_bind, Sem.run_pure, Result.andThen_ok, List.map_toArray, List.map_cons, List.map_nil, hs, hx, hr]
  exact h A' c' w' h2 h3
/-- append([]int64{}, flows...). -/
theorem step_copy_flows (w : World) {ops : Array Oper} {o : Oper} {a : Act} {K : Act → World → Prop} {Q : Exit → Act → World → Prop} {E : Prop} (hgd : o.guard = none) (s x : Operand)
    (ho : o.op = .call { callee := .builtin .append, args := #[s, x], argTypes := #[41, 41] })
    (base : Nat) (v : Value) (hs : a.eval s = v) (hown : NumsOwn w base v []) (A : Option Addr) (cap : Nat) (xs : List Int) (hx : a.eval x = .slice A xs.length cap) (hf : FlowsIn w A cap xs) (hl : xs.length ≤ 90000) (hb : base ≤ w.heap.size)
    (h : ∀ A' c' w', NumsOwn w' base (.slice A' xs.length c') xs → w.grownBy w' v.ownBlock → K (a.put o.dst (.slice A' xs.length c')) w') :
    if Region.wanted o (yielded ops a.tmps) = true then Oper.wp Tryd.prog o a w K Q else E :=
  step_append_flows w hgd s x ho base v [] hs hown A cap xs hx hf (by simp; omega) hb h
theorem nine {w : World} {b : Nat} {t : TypeId} {c0 c1 c2 c3 c4 c5 c6 c7 c8 : Value} (h : Whole w b t #[c0, c1, c2, c3, c4, c5, c6, c7, c8]) : w.cell? ⟨b, 0, none⟩ = some c0 ∧ w.cell? ⟨b, 1, none⟩ = some c1 ∧ w.cell? ⟨b, 2, none⟩ = some c2 ∧ w.cell? ⟨b, 3, none⟩ = some c3 ∧ w.cell? ⟨b, 4, none⟩ = some c4 ∧ w.cell? ⟨b, 5, none⟩ = some c5 ∧ w.cell? ⟨b, 6, none⟩ = some c6 ∧ w.cell? ⟨b, 7, none⟩ = some c7 ∧ w.cell? ⟨b, 8, none⟩ = some c8 :=
  ⟨h.cell 0, h.cell 1, h.cell 2, h.cell 3, h.cell 4, h.cell 5, h.cell 6, h.cell 7, h.cell 8⟩
theorem oth9 {w : World} {b r : Nat} {t : TypeId} {cs : Array Value} {x0 x1 x2 x3 x4 x5 x6 x7 x8 : Value} (h : Whole w b t cs) (hne : b ≠ r) : Whole (((((((((w.setCell ⟨r, 0, none⟩ x0).setCell ⟨r, 1, none⟩ x1).setCell ⟨r, 2, none⟩ x2).setCell ⟨r, 3, none⟩ x3).setCell ⟨r, 4, none⟩ x4).setCell ⟨r, 5, none⟩ x5).setCell ⟨r, 6, none⟩ x6).setCell ⟨r, 7, none⟩ x7).setCell ⟨r, 8, none⟩ x8) b t cs := by
  have h1 := h.other (p := ⟨r, 0, none⟩) hne x0
  have h2 := h1.other (p := ⟨r, 1, none⟩) hne x1
  have h3 := h2.other (p := ⟨r, 2, none⟩) hne x2
  have h4 := h3.other (p := ⟨r, 3, none⟩) hne x3
  have h5 := h4.other (p := ⟨r, 4, none⟩) hne x4
  have h6 := h5.other (p := ⟨r, 5, none⟩) hne x5
  have h7 := h6.other (p := ⟨r, 6, none⟩) hne x6
  have h8 := h7.other (p := ⟨r, 7, none⟩) hne x7
  have h9 := h8.other (p := ⟨r, 8, none⟩) hne x8
  exact h9
/-- Nine cells are stored over others. -/
theorem put9 {w w0 : World} {r B : Nat} {t : TypeId} {c0 c1 c2 c3 c4 c5 c6 c7 c8 : Value} {x0 x1 x2 x3 x4 x5 x6 x7 x8 : Value} (h : Whole w r t #[c0, c1, c2, c3, c4, c5, c6, c7, c8]) (hb : Below B w0 w) (hB : B ≤ r) :
    Whole (((((((((w.setCell ⟨r, 0, none⟩ x0).setCell ⟨r, 1, none⟩ x1).setCell ⟨r, 2, none⟩ x2).setCell ⟨r, 3, none⟩ x3).setCell ⟨r, 4, none⟩ x4).setCell ⟨r, 5, none⟩ x5).setCell ⟨r, 6, none⟩ x6).setCell ⟨r, 7, none⟩ x7).setCell ⟨r, 8, none⟩ x8) r t #[x0, x1, x2, x3, x4, x5, x6, x7, x8] ∧ Below B w0 (((((((((w.setCell ⟨r, 0, none⟩ x0).setCell ⟨r, 1, none⟩ x1).setCell ⟨r, 2, none⟩ x2).setCell ⟨r, 3, none⟩ x3).setCell ⟨r, 4, none⟩ x4).setCell ⟨r, 5, none⟩ x5).setCell ⟨r, 6, none⟩ x6).setCell ⟨r, 7, none⟩ x7).setCell ⟨r, 8, none⟩ x8) ∧ w.grownBy (((((((((w.setCell ⟨r, 0, none⟩ x0).setCell ⟨r, 1, none⟩ x1).setCell ⟨r, 2, none⟩ x2).setCell ⟨r, 3, none⟩ x3).setCell ⟨r, 4, none⟩ x4).setCell ⟨r, 5, none⟩ x5).setCell ⟨r, 6, none⟩ x6).setCell ⟨r, 7, none⟩ x7).setCell ⟨r, 8, none⟩ x8) (some r) := by
  have g0 : w.grownBy w (some r) := ⟨rfl, rfl, rfl, Nat.le_refl _, fun _ _ _ => rfl⟩
  have b1 := hb.setCell (p := ⟨r, 0, none⟩) hB x0
  have g1 := grown_set g0 0 x0
  have b2 := b1.setCell (p := ⟨r, 1, none⟩) hB x1
  have g2 := grown_set g1 1 x1
  have b3 := b2.setCell (p := ⟨r, 2, none⟩) hB x2
  have g3 := grown_set g2 2 x2
  have b4 := b3.setCell (p := ⟨r, 3, none⟩) hB x3
  have g4 := grown_set g3 3 x3
  have b5 := b4.setCell (p := ⟨r, 4, none⟩) hB x4
  have g5 := grown_set g4 4 x4
  have b6 := b5.setCell (p := ⟨r, 5, none⟩) hB x5
  have g6 := grown_set g5 5 x5
  have b7 := b6.setCell (p := ⟨r, 6, none⟩) hB x6
  have g7 := grown_set g6 6 x6
  have b8 := b7.setCell (p := ⟨r, 7, none⟩) hB x7
  have g8 := grown_set g7 7 x7
  have b9 := b8.setCell (p := ⟨r, 8, none⟩) hB x8
  have g9 := grown_set g8 8 x8
  have h1 : Whole (w.setCell ⟨r, 0, none⟩ x0) r t #[x0, c1, c2, c3, c4, c5, c6, c7, c8] := h.put 0 x0
  have h2 : Whole ((w.setCell ⟨r, 0, none⟩ x0).setCell ⟨r, 1, none⟩ x1) r t #[x0, x1, c2, c3, c4, c5, c6, c7, c8] := h1.put 1 x1
  have h3 : Whole (((w.setCell ⟨r, 0, none⟩ x0).setCell ⟨r, 1, none⟩ x1).setCell ⟨r, 2, none⟩ x2) r t #[x0, x1, x2, c3, c4, c5, c6, c7, c8] := h2.put 2 x2
  have h4 : Whole ((((w.setCell ⟨r, 0, none⟩ x0).setCell ⟨r, 1, none⟩ x1).setCell ⟨r, 2, none⟩ x2).setCell ⟨r, 3, none⟩ x3) r t #[x0, x1, x2, x3, c4, c5, c6, c7, c8] := h3.put 3 x3
  have h5 : Whole (((((w.setCell ⟨r, 0, none⟩ x0).setCell ⟨r, 1, none⟩ x1).setCell ⟨r, 2, none⟩ x2).setCell ⟨r, 3, none⟩ x3).setCell ⟨r, 4, none⟩ x4) r t #[x0, x1, x2, x3, x4, c5, c6, c7, c8] := h4.put 4 x4
  have h6 : Whole ((((((w.setCell ⟨r, 0, none⟩ x0).setCell ⟨r, 1, none⟩ x1).setCell ⟨r, 2, none⟩ x2).setCell ⟨r, 3, none⟩ x3).setCell ⟨r, 4, none⟩ x4).setCell ⟨r, 5, none⟩ x5) r t #[x0, x1, x2, x3, x4, x5, c6, c7, c8] := h5.put 5 x5
  have h7 : Whole (((((((w.setCell ⟨r, 0, none⟩ x0).setCell ⟨r, 1, none⟩ x1).setCell ⟨r, 2, none⟩ x2).setCell ⟨r, 3, none⟩ x3).setCell ⟨r, 4, none⟩ x4).setCell ⟨r, 5, none⟩ x5).setCell ⟨r, 6, none⟩ x6) r t #[x0, x1, x2, x3, x4, x5, x6, c7, c8] := h6.put 6 x6
  have h8 : Whole ((((((((w.setCell ⟨r, 0, none⟩ x0).setCell ⟨r, 1, none⟩ x1).setCell ⟨r, 2, none⟩ x2).setCell ⟨r, 3, none⟩ x3).setCell ⟨r, 4, none⟩ x4).setCell ⟨r, 5, none⟩ x5).setCell ⟨r, 6, none⟩ x6).setCell ⟨r, 7, none⟩ x7) r t #[x0, x1, x2, x3, x4, x5, x6, x7, c8] := h7.put 7 x7
  have h9 : Whole (((((((((w.setCell ⟨r, 0, none⟩ x0).setCell ⟨r, 1, none⟩ x1).setCell ⟨r, 2, none⟩ x2).setCell ⟨r, 3, none⟩ x3).setCell ⟨r, 4, none⟩ x4).setCell ⟨r, 5, none⟩ x5).setCell ⟨r, 6, none⟩ x6).setCell ⟨r, 7, none⟩ x7).setCell ⟨r, 8, none⟩ x8) r t #[x0, x1, x2, x3, x4, x5, x6, x7, x8] := h8.put 8 x8
  exact ⟨h9, b9, g9⟩
/-- An empty slice of int64, made now. -/
theorem NumsOwn.empty (w : World) (base : Nat) (hb : base ≤ w.heap.size) : NumsOwn (w.alloc (.cells #[] 2)) base (.slice (some ⟨w.heap.size, 0, none⟩) 0 0) [] :=
  ⟨rfl, .inr ⟨_, 0, #[], rfl, hb, Whole.new w 2 #[], Nat.le_refl _, by decide, rfl, rfl⟩⟩

set_option maxRecDepth 100000 in
set_option maxHeartbeats 4000000 in
theorem to22_any (a0 a1 a2 a3 a4 a6 a7 : Int) (a8 : Bool) (A : Option Addr) (cap : Nat) (xs : List Int) (w : World) (hf : FlowsIn w A cap xs) (hn : xs.length ≤ 9000) :
    Calls Tryd.prog 49 #[.agg #[.int .i64 a0, .int .i64 a1, .int .i64 a2, .int .i64 a3, .int .i64 a4, .slice A xs.length cap, .int .i64 a6, .int .i64 a7, .bool a8]] w fun e w' => ∃ A' c',
      e = .returned (.agg #[.int .i64 a0, .int .i64 a1, .int .i64 a2, .int .i64 a3, .int .i64 a4, .slice A' xs.length c', .int .i64 a6, .int .i64 a7, .bool a8]) ∧ NumsOwn w' w.heap.size (.slice A' xs.length c') xs ∧ Below w.heap.size w w' := by
  have hZ : Below w.heap.size w ((w.alloc (.cells #[.int .i64 a0, .int .i64 a1, .int .i64 a2, .int .i64 a3, .int .i64 a4, .slice A xs.length cap, .int .i64 a6, .int .i64 a7, .bool a8] 52)).alloc (.cells #[.int .i64 0, .int .i64 0, .int .i64 0, .int .i64 0, .int .i64 0, .slice none 0 0, .int .i64 0, .int .i64 0, .bool false] 45)) :=
    ((Below.refl _ w).alloc (Nat.le_refl _) _).alloc (by simp) _
  have hB : Whole ((w.alloc (.cells #[.int .i64 a0, .int .i64 a1, .int .i64 a2, .int .i64 a3, .int .i64 a4, .slice A xs.length cap, .int .i64 a6, .int .i64 a7, .bool a8] 52)).alloc (.cells #[.int .i64 0, .int .i64 0, .int .i64 0, .int .i64 0, .int .i64 0, .slice none 0 0, .int .i64 0, .int .i64 0, .bool false] 45)) w.heap.size 52 #[.int .i64 a0, .int .i64 a1, .int .i64 a2, .int .i64 a3, .int .i64 a4, .slice A xs.length cap, .int .i64 a6, .int .i64 a7, .bool a8] :=
    (Whole.new w 52 _).alloc _
  have hR : Whole ((w.alloc (.cells #[.int .i64 a0, .int .i64 a1, .int .i64 a2, .int .i64 a3, .int .i64 a4, .slice A xs.length cap, .int .i64 a6, .int .i64 a7, .bool a8] 52)).alloc (.cells #[.int .i64 0, .int .i64 0, .int .i64 0, .int .i64 0, .int .i64 0, .slice none 0 0, .int .i64 0, .int .i64 0, .bool false] 45)) (w.heap.size + 1) 45 #[.int .i64 0, .int .i64 0, .int .i64 0, .int .i64 0, .int .i64 0, .slice none 0 0, .int .i64 0, .int .i64 0, .bool false] := by
    have := Whole.new (w.alloc (.cells #[.int .i64 a0, .int .i64 a1, .int .i64 a2, .int .i64 a3, .int .i64 a4, .slice A xs.length cap, .int .i64 a6, .int .i64 a7, .bool a8] 52)) 45 #[.int .i64 0, .int .i64 0, .int .i64 0, .int .i64 0, .int .i64 0, .slice none 0 0, .int .i64 0, .int .i64 0, .bool false]
    rw [World.size_alloc] at this
    exact this
  have HF := Lib.hid (hf.below hZ)
  have HB := Lib.hid hB
  have HR := Lib.hid hR
  have HZ := Lib.hid hZ
  clear hf hZ hB hR
  go_enter Tryd.func49, Tryd.ntmps49
  go_wp2_with fail
  generalize (w.alloc (.cells #[.int .i64 a0, .int .i64 a1, .int .i64 a2, .int .i64 a3, .int .i64 a4, .slice A xs.length cap, .int .i64 a6, .int .i64 a7, .bool a8] 52)).alloc (.cells #[.int .i64 0, .int .i64 0, .int .i64 0, .int .i64 0, .int .i64 0, .slice none 0 0, .int .i64 0, .int .i64 0, .bool false] 45) = W at HF HB HR HZ ⊢
  have hB := HB.out
  have hR := HR.out
  have hbs := HZ.out.size
  have hbl := hB.lt
  have hrl := hR.lt
  have e0 : W.drew.cell? ⟨w.heap.size, 0, none⟩ = some (.int .i64 a0) := hB.cell 0
  have e1 : W.drew.cell? ⟨w.heap.size, 1, none⟩ = some (.int .i64 a1) := hB.cell 1
  have e2 : W.drew.cell? ⟨w.heap.size, 2, none⟩ = some (.int .i64 a2) := hB.cell 2
  have e3 : W.drew.cell? ⟨w.heap.size, 3, none⟩ = some (.int .i64 a3) := hB.cell 3
  have e4 : W.drew.cell? ⟨w.heap.size, 4, none⟩ = some (.int .i64 a4) := hB.cell 4
  have e5 : W.drew.cell? ⟨w.heap.size, 5, none⟩ = some (.slice A xs.length cap) := hB.cell 5
  have e6 : W.drew.cell? ⟨w.heap.size, 6, none⟩ = some (.int .i64 a6) := hB.cell 6
  have e7 : W.drew.cell? ⟨w.heap.size, 7, none⟩ = some (.int .i64 a7) := hB.cell 7
  have e8 : W.drew.cell? ⟨w.heap.size, 8, none⟩ = some (.bool a8) := hB.cell 8
  have hBa : Whole (W.alloc (.cells #[] 2)).drew w.heap.size 52 #[.int .i64 a0, .int .i64 a1, .int .i64 a2, .int .i64 a3, .int .i64 a4, .slice A xs.length cap, .int .i64 a6, .int .i64 a7, .bool a8] := hB.alloc _
  have hE : NumsOwn (W.alloc (.cells #[] 2)).drew W.heap.size (.slice (some ⟨W.heap.size, 0, none⟩) 0 0) [] := NumsOwn.empty W W.heap.size (Nat.le_refl _)
  have hFd : FlowsIn (W.alloc (.cells #[] 2)).drew A cap xs := HF.out.below ((Below.refl _ W).alloc (Nat.le_refl _) (.cells #[] 2)).drew
  have hbz : W.heap.size ≤ (W.alloc (.cells #[] 2)).drew.heap.size := World.alloc_le W _
  have hBD : Below w.heap.size w (W.alloc (.cells #[] 2)).drew := (HZ.out.alloc hbs (.cells #[] 2)).drew
  have hRa : Whole (W.alloc (.cells #[] 2)).drew (w.heap.size + 1) 45 #[.int .i64 0, .int .i64 0, .int .i64 0, .int .i64 0, .int .i64 0, .slice none 0 0, .int .i64 0, .int .i64 0, .bool false] := hR.alloc _
  have hne : ∀ q, q < W.heap.size → some q ≠ (Value.slice (some ⟨W.heap.size, 0, none⟩) 0 0).ownBlock := fun q hq e => by
    have e' : q = W.heap.size := Option.some.inj e
    omega
  have HBA := Lib.hid hBa
  have HBR := Lib.hid (show w.heap.size ≠ w.heap.size + 1 by omega)
  have HE := Lib.hid hE
  have HFD := Lib.hid hFd
  have HBD := Lib.hid hBD
  have HRA := Lib.hid hRa
  have HNE := Lib.hid hne
  have HBZ := Lib.hid hbz
  clear HB HR hB hR hBa hE hFd hBD hRa hne HF hbz
  go_region_held3 (fun w' => w'.cell? ⟨w.heap.size, 0, none⟩ = some (.int .i64 a0) ∧ w'.cell? ⟨w.heap.size, 1, none⟩ = some (.int .i64 a1) ∧ w'.cell? ⟨w.heap.size, 2, none⟩ = some (.int .i64 a2) ∧ w'.cell? ⟨w.heap.size, 3, none⟩ = some (.int .i64 a3) ∧ w'.cell? ⟨w.heap.size, 4, none⟩ = some (.int .i64 a4) ∧ w'.cell? ⟨w.heap.size, 5, none⟩ = some (.slice A xs.length cap) ∧ w'.cell? ⟨w.heap.size, 6, none⟩ = some (.int .i64 a6) ∧ w'.cell? ⟨w.heap.size, 7, none⟩ = some (.int .i64 a7) ∧ w'.cell? ⟨w.heap.size, 8, none⟩ = some (.bool a8))
    (first | (with_reducible exact nine (oth9 HB3 HBR.out)) | (with_reducible exact nine HB3) | (with_reducible exact nine HBA.out) | (with_reducible exact ⟨e0, e1, e2, e3, e4, e5, e6, e7, e8⟩))
    ((refine step_copy_flows _ (by rfl) _ _ (by rfl) W.heap.size _ (by rfl) HE.out A cap xs (by rfl) HFD.out (by omega) HBZ.out ?_; intro A' c' w3 hN3 hg3; have HB3 := HBA.out.grown hg3 (HNE.out _ hbl); have HR3 := HRA.out.grown hg3 (HNE.out _ hrl); have hrl3 := HR3.lt; obtain ⟨r0, r1, r2, r3, r4, r5, r6, r7, r8⟩ := nine HR3; have rf := fun i => HR3.frozen i))
  obtain ⟨hWe, hBe, hGe⟩ := put9 (x0 := .int .i64 a0) (x1 := .int .i64 a1) (x2 := .int .i64 a2) (x3 := .int .i64 a3) (x4 := .int .i64 a4) (x5 := .slice A' xs.length c') (x6 := .int .i64 a6) (x7 := .int .i64 a7) (x8 := .bool a8) HR3 (HBD.out.grown hg3 (Nat.le_trans hbs HBZ.out) (fun i e => by cases e; exact hbs)) (Nat.le_succ _)
  have hNe := (hN3.grown hGe hrl).lower hbs
  obtain ⟨q0, q1, q2, q3, q4, q5, q6, q7, q8⟩ := nine hWe
  clear r0 r1 r2 r3 r4 r5 r6 r7 r8 rf e0 e1 e2 e3 e4 e5 e6 e7 e8
  go_wp2_with fail
  refine bodyPost_ret (v := .agg #[.int .i64 a0, .int .i64 a1, .int .i64 a2, .int .i64 a3, .int .i64 a4, .slice A' xs.length c', .int .i64 a6, .int .i64 a7, .bool a8]) ?_ rfl ⟨A', c', rfl, hNe, hBe⟩
  simp [results, Tryd.results49, go_sem, q0, q1, q2, q3, q4, q5, q6, q7, q8]
end Go.Proofs.YtdmopagkahgepaaDoor
