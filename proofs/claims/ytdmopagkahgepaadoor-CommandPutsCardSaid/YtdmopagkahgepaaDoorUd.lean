/- command.of: words. -/
import Derived.Test.YtdmopagkahgepaaDoorUc
namespace Go.Proofs.YtdmopagkahgepaaDoor
open Go.RowKit Go.Maps Go.ChangeMaps Go.ChangeShapes

theorem NumsAt.below {w w' : World} {v : Value} {xs : List Int} (h : NumsAt w v xs) (hb : Below w.heap.size w w') : NumsAt w' v xs := by
  obtain ⟨A, c, e, h⟩ := h
  refine ⟨A, c, e, fun i hi => ?_⟩
  obtain ⟨g, eg, hg, c0⟩ := h i hi
  exact ⟨g, eg, Nat.lt_of_lt_of_le hg hb.size, (hb.cell (p := ⟨g, _, none⟩) hg).trans c0⟩

/-- What a number is, stored in a field. -/
def valOf : FK → Int → Value
  | .yes, n => .bool (n == 1)
  | _, n => .int .i64 n
/-- May it be so? -/
def okOf : FK → Int → Bool
  | .yes, n => n == 0 || n == 1
  | _, _ => true
/-- A command's cells, numbers set in its fields. -/
def setAll (cs : Array Value) (l : List ((FK × Nat) × Int)) : Array Value := l.foldl (fun cs p => cs.setIfInBounds p.1.2 (valOf p.1.1 p.2)) cs
theorem setAll_snoc (cs : Array Value) (l : List ((FK × Nat) × Int)) (p : (FK × Nat) × Int) : setAll cs (l ++ [p]) = (setAll cs l).setIfInBounds p.1.2 (valOf p.1.1 p.2) := by simp [setAll]
def okAll (l : List ((FK × Nat) × Int)) : Bool := l.all fun p => okOf p.1.1 p.2

/-- Where fields lie. -/
def okF : FK × Nat → Bool
  | (.yes, o) => o == 9
  | (_, o) => o == 1 || o == 3 || o == 4 || o == 5 || o == 7 || o == 8 || o == 10
theorem fieldsOf_ok (kind : Int) : (fieldsOf kind).1.all okF = true := by
  unfold fieldsOf
  repeat' split
  all_goals rfl

/-- The cells of a command are of their kinds; no flows yet. -/
def Typed (cs : Array Value) : Prop := cs.size = 11 ∧ (∀ o, o ≤ 10 → o ≠ 6 → o ≠ 9 → ∃ m, cs[o]? = some (.int .i64 m)) ∧ (∃ b, cs[9]? = some (.bool b)) ∧ cs[6]? = some (.slice none 0 0)
theorem okF_int {k : FK} {o : Nat} (hk : k ≠ .yes) (h : okF (k, o) = true) : o ≤ 10 ∧ o ≠ 6 ∧ o ≠ 9 := by
  cases k
  · simp only [okF, Bool.or_eq_true, beq_iff_eq] at h
    omega
  · simp only [okF, Bool.or_eq_true, beq_iff_eq] at h
    omega
  · exact absurd rfl hk
theorem okF_yes {o : Nat} (h : okF (.yes, o) = true) : o = 9 := by simpa [okF] using h
theorem Typed.set {cs : Array Value} (h : Typed cs) (k : FK) (o : Nat) (n : Int) (hk : okF (k, o) = true) : Typed (cs.setIfInBounds o (valOf k n)) := by
  obtain ⟨hs, hi, ⟨b, hb⟩, h6⟩ := h
  by_cases hy : k = .yes
  · subst hy
    obtain rfl := okF_yes hk
    refine ⟨by simpa using hs, fun o' h1 h2 h3 => ?_, ⟨n == 1, ?_⟩, ?_⟩
    · rw [Array.getElem?_setIfInBounds_ne (by omega)]
      exact hi o' h1 h2 h3
    · rw [Array.getElem?_setIfInBounds_self, if_pos (by omega)]
      rfl
    · rw [Array.getElem?_setIfInBounds_ne (by omega)]
      exact h6
  · obtain ⟨k1, k2, k3⟩ := okF_int hy hk
    have hv : valOf k n = .int .i64 n := by
      cases k
      · rfl
      · rfl
      · exact absurd rfl hy
    rw [hv]
    refine ⟨by simpa using hs, fun o' h1 h2 h3 => ?_, ⟨b, ?_⟩, ?_⟩
    · by_cases e : o = o'
      · subst e
        exact ⟨n, by rw [Array.getElem?_setIfInBounds_self, if_pos (by omega)]⟩
      · rw [Array.getElem?_setIfInBounds_ne e]
        exact hi o' h1 h2 h3
    · rw [Array.getElem?_setIfInBounds_ne (by omega)]
      exact hb
    · rw [Array.getElem?_setIfInBounds_ne (by omega)]
      exact h6
/-- A command's cells, named. -/
theorem Typed.named {cs : Array Value} (h : Typed cs) : ∃ (a0 a1 a2 a3 a4 a5 a7 a8 : Int) (b : Bool) (a10 : Int), cs = #[.int .i64 a0, .int .i64 a1, .int .i64 a2, .int .i64 a3, .int .i64 a4, .int .i64 a5, .slice none 0 0, .int .i64 a7, .int .i64 a8, .bool b, .int .i64 a10] := by
  obtain ⟨hs, hi, ⟨b, hb⟩, h6⟩ := h
  obtain ⟨m0, e0⟩ := hi 0 (by omega) (by omega) (by omega)
  obtain ⟨m1, e1⟩ := hi 1 (by omega) (by omega) (by omega)
  obtain ⟨m2, e2⟩ := hi 2 (by omega) (by omega) (by omega)
  obtain ⟨m3, e3⟩ := hi 3 (by omega) (by omega) (by omega)
  obtain ⟨m4, e4⟩ := hi 4 (by omega) (by omega) (by omega)
  obtain ⟨m5, e5⟩ := hi 5 (by omega) (by omega) (by omega)
  obtain ⟨m7, e7⟩ := hi 7 (by omega) (by omega) (by omega)
  obtain ⟨m8, e8⟩ := hi 8 (by omega) (by omega) (by omega)
  obtain ⟨m10, e10⟩ := hi 10 (by omega) (by omega) (by omega)
  match cs, hs with
  | ⟨[c0, c1, c2, c3, c4, c5, c6, c7, c8, c9, c10]⟩, _ =>
    simp only [List.getElem?_toArray, List.getElem?_cons_zero, List.getElem?_cons_succ, Option.some.injEq] at e0 e1 e2 e3 e4 e5 e7 e8 e10 hb h6
    subst e0 e1 e2 e3 e4 e5 e7 e8 e10 hb h6
    exact ⟨m0, m1, m2, m3, m4, m5, m7, m8, b, m10, rfl⟩
theorem Typed.setAll {cs : Array Value} (h : Typed cs) : ∀ (l : List ((FK × Nat) × Int)), (∀ p ∈ l, okF p.1 = true) → Typed (setAll cs l) := by
  intro l
  induction l generalizing cs with
  | nil => exact fun _ => h
  | cons p l ih =>
    intro hl
    exact ih (h.set p.1.1 p.1.2 p.2 (hl p (by simp))) (fun q hq => hl q (by simp [hq]))

theorem Flds.apart {w w' : World} {B z z' : Nat} {v : Value} {fs : List Fd} {cs : Array Value} (h : Flds w B z v fs) (hz : Whole w z' 47 cs) (hg : w.grownBy w' (some z')) : Flds w' B z v fs := by
  refine ⟨h.1.kept hg ?_, fun f hf => ⟨(h.2 f hf).1, (h.2 f hf).2.grown hg (fun e => ?_)⟩⟩
  · cases hv : v.ownBlock with
    | none => exact .inl rfl
    | some g =>
      refine .inr (fun e => ?_)
      cases e
      obtain ⟨c, fz, hh⟩ := Lib.ownsRow_kind h.1 _ hv
      unfold Whole at hz
      rw [hz] at hh
      simp at hh
  · cases e
    have := (h.2 f hf).2.apart hz (by cases f.k <;> decide)
    exact this rfl
theorem fcells_get : ∀ (fs : List Fd) (i : Nat) (hi : i < fs.length), (fcells (fs.map fun f => (f.k, f.b)))[i * 2]? = some (getV fs[i].k fs[i].b) ∧ (fcells (fs.map fun f => (f.k, f.b)))[i * 2 + 1]? = some (setV fs[i].k fs[i].b)
  | f :: fs, 0, _ => ⟨rfl, rfl⟩
  | f :: fs, i + 1, h => by
    obtain ⟨h1, h2⟩ := fcells_get fs i (by simpa using h)
    simp only [fcells, List.map_cons, List.flatMap_cons] at h1 h2 ⊢
    rw [show (i + 1) * 2 = i * 2 + 1 + 1 by omega]
    simpa using ⟨h1, h2⟩
/-- What a round reads of field i. -/
theorem Flds.at_ {w : World} {B z : Nat} {A : Option Addr} {n c : Nat} {fs : List Fd} (h : Flds w B z (.slice A n c) fs) (i : Nat) (hi : i < fs.length) : ∃ g f, fs[i]? = some f ∧ A = some ⟨g, 0, none⟩ ∧ n = fs.length ∧ g < w.heap.size ∧
    w.cell? ⟨g, i * 2, none⟩ = some (getV f.k f.b) ∧ w.cell? ⟨g, i * 2 + 1, none⟩ = some (setV f.k f.b) ∧ Whole w f.b f.k.ptr #[.pointer (some ⟨z, f.o, none⟩)] := by
  rcases Go.Joins.ownsRow_forms h.1 with ⟨e, h0⟩ | ⟨g, cap, e⟩
  · omega
  · cases e
    have hc := h.1.cells (g := g) rfl
    have hf : fs[i]? = some fs[i] := List.getElem?_eq_getElem hi
    refine ⟨g, fs[i], hf, rfl, rfl, (h.1.lt g rfl).2, ?_, ?_, (h.2 _ (List.getElem_mem hi)).2⟩
    · exact add_cell (hc _ _ (fcells_get fs i hi).1)
    · exact add_cell (hc _ _ (fcells_get fs i hi).2)
theorem grown_set {w w' : World} {r : Nat} (h : w.grownBy w' (some r)) (i : Nat) (u : Value) : w.grownBy (w'.setCell ⟨r, i, none⟩ u) (some r) :=
  ⟨h.os, h.tape, h.output, by simpa using h.size, fun k hk hne => (Below.heap_setCell w' ⟨r, i, none⟩ u k (fun e => hne (by rw [e]))).trans (h.block k hk hne)⟩
/-- A whole command is stored over another. -/
theorem put11' {w w0 : World} {r B : Nat} (c0 c1 c2 c3 c4 c5 c6 c7 c8 c9 c10 : Value) (x0 x1 x2 x3 x4 x5 x6 x7 x8 x9 x10 : Value) (h : Whole w r 47 #[c0, c1, c2, c3, c4, c5, c6, c7, c8, c9, c10]) (hb : Below B w0 w) (hB : B ≤ r) :
    Whole (((((((((((w.setCell ⟨r, 0, none⟩ x0).setCell ⟨r, 1, none⟩ x1).setCell ⟨r, 2, none⟩ x2).setCell ⟨r, 3, none⟩ x3).setCell ⟨r, 4, none⟩ x4).setCell ⟨r, 5, none⟩ x5).setCell ⟨r, 6, none⟩ x6).setCell ⟨r, 7, none⟩ x7).setCell ⟨r, 8, none⟩ x8).setCell ⟨r, 9, none⟩ x9).setCell ⟨r, 10, none⟩ x10) r 47 #[x0, x1, x2, x3, x4, x5, x6, x7, x8, x9, x10] ∧ Below B w0 (((((((((((w.setCell ⟨r, 0, none⟩ x0).setCell ⟨r, 1, none⟩ x1).setCell ⟨r, 2, none⟩ x2).setCell ⟨r, 3, none⟩ x3).setCell ⟨r, 4, none⟩ x4).setCell ⟨r, 5, none⟩ x5).setCell ⟨r, 6, none⟩ x6).setCell ⟨r, 7, none⟩ x7).setCell ⟨r, 8, none⟩ x8).setCell ⟨r, 9, none⟩ x9).setCell ⟨r, 10, none⟩ x10) ∧ w.grownBy (((((((((((w.setCell ⟨r, 0, none⟩ x0).setCell ⟨r, 1, none⟩ x1).setCell ⟨r, 2, none⟩ x2).setCell ⟨r, 3, none⟩ x3).setCell ⟨r, 4, none⟩ x4).setCell ⟨r, 5, none⟩ x5).setCell ⟨r, 6, none⟩ x6).setCell ⟨r, 7, none⟩ x7).setCell ⟨r, 8, none⟩ x8).setCell ⟨r, 9, none⟩ x9).setCell ⟨r, 10, none⟩ x10) (some r) := by
  have g0 : w.grownBy w (some r) := ⟨rfl, rfl, rfl, Nat.le_refl _, fun _ _ _ => rfl⟩
  have b0 := hb
  have h0 := h
  have h1 : Whole (w.setCell ⟨r, 0, none⟩ x0) r 47 #[x0, c1, c2, c3, c4, c5, c6, c7, c8, c9, c10] := h0.put 0 x0
  have b1 := b0.setCell (p := ⟨r, 0, none⟩) hB x0
  have g1 := grown_set g0 0 x0
  have h2 : Whole ((w.setCell ⟨r, 0, none⟩ x0).setCell ⟨r, 1, none⟩ x1) r 47 #[x0, x1, c2, c3, c4, c5, c6, c7, c8, c9, c10] := h1.put 1 x1
  have b2 := b1.setCell (p := ⟨r, 1, none⟩) hB x1
  have g2 := grown_set g1 1 x1
  have h3 : Whole (((w.setCell ⟨r, 0, none⟩ x0).setCell ⟨r, 1, none⟩ x1).setCell ⟨r, 2, none⟩ x2) r 47 #[x0, x1, x2, c3, c4, c5, c6, c7, c8, c9, c10] := h2.put 2 x2
  have b3 := b2.setCell (p := ⟨r, 2, none⟩) hB x2
  have g3 := grown_set g2 2 x2
  have h4 : Whole ((((w.setCell ⟨r, 0, none⟩ x0).setCell ⟨r, 1, none⟩ x1).setCell ⟨r, 2, none⟩ x2).setCell ⟨r, 3, none⟩ x3) r 47 #[x0, x1, x2, x3, c4, c5, c6, c7, c8, c9, c10] := h3.put 3 x3
  have b4 := b3.setCell (p := ⟨r, 3, none⟩) hB x3
  have g4 := grown_set g3 3 x3
  have h5 : Whole (((((w.setCell ⟨r, 0, none⟩ x0).setCell ⟨r, 1, none⟩ x1).setCell ⟨r, 2, none⟩ x2).setCell ⟨r, 3, none⟩ x3).setCell ⟨r, 4, none⟩ x4) r 47 #[x0, x1, x2, x3, x4, c5, c6, c7, c8, c9, c10] := h4.put 4 x4
  have b5 := b4.setCell (p := ⟨r, 4, none⟩) hB x4
  have g5 := grown_set g4 4 x4
  have h6 : Whole ((((((w.setCell ⟨r, 0, none⟩ x0).setCell ⟨r, 1, none⟩ x1).setCell ⟨r, 2, none⟩ x2).setCell ⟨r, 3, none⟩ x3).setCell ⟨r, 4, none⟩ x4).setCell ⟨r, 5, none⟩ x5) r 47 #[x0, x1, x2, x3, x4, x5, c6, c7, c8, c9, c10] := h5.put 5 x5
  have b6 := b5.setCell (p := ⟨r, 5, none⟩) hB x5
  have g6 := grown_set g5 5 x5
  have h7 : Whole (((((((w.setCell ⟨r, 0, none⟩ x0).setCell ⟨r, 1, none⟩ x1).setCell ⟨r, 2, none⟩ x2).setCell ⟨r, 3, none⟩ x3).setCell ⟨r, 4, none⟩ x4).setCell ⟨r, 5, none⟩ x5).setCell ⟨r, 6, none⟩ x6) r 47 #[x0, x1, x2, x3, x4, x5, x6, c7, c8, c9, c10] := h6.put 6 x6
  have b7 := b6.setCell (p := ⟨r, 6, none⟩) hB x6
  have g7 := grown_set g6 6 x6
  have h8 : Whole ((((((((w.setCell ⟨r, 0, none⟩ x0).setCell ⟨r, 1, none⟩ x1).setCell ⟨r, 2, none⟩ x2).setCell ⟨r, 3, none⟩ x3).setCell ⟨r, 4, none⟩ x4).setCell ⟨r, 5, none⟩ x5).setCell ⟨r, 6, none⟩ x6).setCell ⟨r, 7, none⟩ x7) r 47 #[x0, x1, x2, x3, x4, x5, x6, x7, c8, c9, c10] := h7.put 7 x7
  have b8 := b7.setCell (p := ⟨r, 7, none⟩) hB x7
  have g8 := grown_set g7 7 x7
  have h9 : Whole (((((((((w.setCell ⟨r, 0, none⟩ x0).setCell ⟨r, 1, none⟩ x1).setCell ⟨r, 2, none⟩ x2).setCell ⟨r, 3, none⟩ x3).setCell ⟨r, 4, none⟩ x4).setCell ⟨r, 5, none⟩ x5).setCell ⟨r, 6, none⟩ x6).setCell ⟨r, 7, none⟩ x7).setCell ⟨r, 8, none⟩ x8) r 47 #[x0, x1, x2, x3, x4, x5, x6, x7, x8, c9, c10] := h8.put 8 x8
  have b9 := b8.setCell (p := ⟨r, 8, none⟩) hB x8
  have g9 := grown_set g8 8 x8
  have h10 : Whole ((((((((((w.setCell ⟨r, 0, none⟩ x0).setCell ⟨r, 1, none⟩ x1).setCell ⟨r, 2, none⟩ x2).setCell ⟨r, 3, none⟩ x3).setCell ⟨r, 4, none⟩ x4).setCell ⟨r, 5, none⟩ x5).setCell ⟨r, 6, none⟩ x6).setCell ⟨r, 7, none⟩ x7).setCell ⟨r, 8, none⟩ x8).setCell ⟨r, 9, none⟩ x9) r 47 #[x0, x1, x2, x3, x4, x5, x6, x7, x8, x9, c10] := h9.put 9 x9
  have b10 := b9.setCell (p := ⟨r, 9, none⟩) hB x9
  have g10 := grown_set g9 9 x9
  have h11 : Whole (((((((((((w.setCell ⟨r, 0, none⟩ x0).setCell ⟨r, 1, none⟩ x1).setCell ⟨r, 2, none⟩ x2).setCell ⟨r, 3, none⟩ x3).setCell ⟨r, 4, none⟩ x4).setCell ⟨r, 5, none⟩ x5).setCell ⟨r, 6, none⟩ x6).setCell ⟨r, 7, none⟩ x7).setCell ⟨r, 8, none⟩ x8).setCell ⟨r, 9, none⟩ x9).setCell ⟨r, 10, none⟩ x10) r 47 #[x0, x1, x2, x3, x4, x5, x6, x7, x8, x9, x10] := h10.put 10 x10
  have b11 := b10.setCell (p := ⟨r, 10, none⟩) hB x10
  have g11 := grown_set g10 10 x10
  exact ⟨h11, b11, g11⟩
theorem eleven {cs : Array Value} (h : cs.size = 11) : ∃ c0 c1 c2 c3 c4 c5 c6 c7 c8 c9 c10, cs = #[c0, c1, c2, c3, c4, c5, c6, c7, c8, c9, c10] := by
  match cs, h with
  | ⟨[c0, c1, c2, c3, c4, c5, c6, c7, c8, c9, c10]⟩, _ => exact ⟨c0, c1, c2, c3, c4, c5, c6, c7, c8, c9, c10, rfl⟩
end Go.Proofs.YtdmopagkahgepaaDoor
