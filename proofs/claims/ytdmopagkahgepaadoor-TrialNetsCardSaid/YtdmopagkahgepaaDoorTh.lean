/- chart.Net. -/
import Derived.Test.YtdmopagkahgepaaDoorTg
import Derived.Maps.OwnRows
import Derived.Maps.GroupsBeside
import Derived.Deep.RegionHeld3
import Derived.Deep.AppendLies
import Derived.Lib.OwnKind
namespace Go.Proofs.YtdmopagkahgepaaDoor
open Go.RowKit Go.Maps Go.ChangeMaps Go.ChangeShapes

theorem info2' : (Tryd.prog.info? 2).map (fun i => (i.zero, i.size, i.bytes)) = some (some (.int .i64 0), 1, 8) := by kernel_rfl
theorem info35' : (Tryd.prog.info? 35).map (fun i => (i.zero, i.size, i.bytes)) = some (some (.agg #[.int .i64 0, .int .i64 0]), 2, 16) := by kernel_rfl
theorem zero41 (w : World) : (zeroValue 41).run Tryd.prog w = .ok (.slice none 0 0) w := by kernel_rfl

def itemsD : DataW Unit → List (DataW Unit)
  | .slice l _ => l
  | _ => []
theorem itemsD_row {w : World} {base : Nat} {e : TypeId} {q : IntKind} {v : Value} {zs : List Int} (h : w.ownsInts base e q v zs) : itemsD (rowDatum q v zs) = lits q zs := by
  rcases h.datum (H := Unit) with ⟨e1, rfl⟩ | e1 <;> rw [e1] <;> rfl
theorem lits_inj {zs ys : List Int} (h : lits (H := Unit) .i64 zs = lits .i64 ys) : zs = ys :=
  (List.map_inj_right (fun a b hab => by cases hab; rfl)).1 h

/-- Block b is a map of at most n entries, whose slices (of rows from 'base' on) are those of g. -/
def Groups (w : World) (b base n : Nat) (g : Int → List Int) : Prop :=
  ∃ D : DataW Unit, w.ownsGroups Tryd.prog 3 base 2 .i64 b n D ∧ ∀ k, itemsD (D.atKey (.int .i64 k) .nil) = lits .i64 (g k)
section
variable {w w' : World} {b base n : Nat} {g : Int → List Int}
theorem Groups.below (H : Groups w b base n g) (hb : Below w.heap.size w w') : Groups w' b base n g := by
  obtain ⟨D, hD, r⟩ := H
  exact ⟨D, hD.kept (row := none) ⟨hb.os, hb.tape, hb.output, hb.size, fun j hj _ => hb.block j hj⟩ (by simp) (fun _ _ _ x _ => by cases x.val.ownBlock <;> simp), r⟩
theorem Groups.alloc (H : Groups w b base n g) (o : Obj) : Groups (w.alloc o) b base n g := H.below ((Below.refl _ w).alloc (Nat.le_refl _) o)
theorem Groups.drew (H : Groups w b base n g) : Groups w.drew b base n g := H
theorem Groups.made (w : World) : Groups (w.alloc (.map #[] 0)) w.heap.size (w.heap.size + 1) 0 (fun _ => []) :=
  ⟨.map [], World.ownsGroups_made _ _ _ _ _, fun _ => rfl⟩
theorem Groups.to {g' : Int → List Int} (H : Groups w b base n g) (e : g = g') : Groups w b base n g' := by rw [← e]; exact H
end

theorem Groups.step {w0 w1 w2 : World} {b base n : Nat} {g : Int → List Int} {k y : Int} {D : DataW Unit} {v v' : Value} {zs : List Int} (hD : w0.ownsGroups Tryd.prog 3 base 2 .i64 b n D) (hf : ∀ k, itemsD (D.atKey (.int .i64 k) .nil) = lits .i64 (g k))
    (hoi : w0.ownsInts base 2 .i64 v zs) (hat : D.atKey (.int .i64 k) .nil = rowDatum .i64 v zs) (hoi' : w1.ownsInts base 2 .i64 v' (zs ++ [y])) (h2 : w2.ownsGroups Tryd.prog 3 base 2 .i64 b (n + 1) (D.put (.int .i64 k) (rowDatum .i64 v' (zs ++ [y])))) :
    Groups w2 b base (n + 1) (fun a => if a = k then g k ++ [y] else g a) := by
  have hID : IsMap D := by
    obtain ⟨es, clock, _, _, _, e, _⟩ := hD
    exact ⟨_, e⟩
  have hkl : WideAt.IsKeyLit (Lit.int .i64 k) := trivial
  refine ⟨_, h2, fun j => ?_⟩
  by_cases e : j = k
  · subst e
    have hzs := hf j
    rw [hat, itemsD_row hoi] at hzs
    rw [atKey_put_same hID hkl, itemsD_row hoi', lits_inj hzs]
    simp
  · rw [atKey_put_other (by simpa using e), hf j]
    simp [e]

theorem own_apart {w : World} {B : Nat} {v : Value} {zs : List Int} {z : Nat} {cs : Array Value} (ho : w.ownsInts B 2 .i64 v zs) (hW : Whole w z 35 cs) : some z ≠ v.ownBlock := by
  intro e
  obtain ⟨c, fz, h⟩ := Lib.ownsRow_kind ho.1 z e.symm
  unfold Whole at hW
  rw [hW] at h
  simp at h
theorem map_apart {w : World} {b base n : Nat} {D : DataW Unit} {z : Nat} {cs : Array Value} (hD : w.ownsGroups Tryd.prog 3 base 2 .i64 b n D) (hW : Whole w z 35 cs) : some z ≠ some b := by
  intro e
  cases e
  obtain ⟨es, clock, h, _⟩ := hD
  unfold Whole at hW
  rw [hW] at h
  simp at h
theorem two_of {w : World} {z : Nat} {x y : Value} (h : Whole w z 35 #[x, y]) : w.cell? ⟨z, 0, none⟩ = some x ∧ w.cell? ⟨z, 1, none⟩ = some y := ⟨h.cell 0, h.cell 1⟩

/-- The amounts on an account. -/
def amts (k : Int) (xs : List (Int × Int)) : List Int := (xs.filter (fun x => x.1 == k)).map (·.2)
theorem amts_snoc (k : Int) (xs : List (Int × Int)) (x : Int × Int) : amts k (xs ++ [x]) = if k = x.1 then amts k xs ++ [x.2] else amts k xs := by
  unfold amts
  rw [List.filter_append, List.map_append]
  by_cases h : k = x.1
  · simp [h]
  · have : (x.1 == k) = false := by simpa using fun e => h e.symm
    simp [h, this]
theorem amts_step {xs : List (Int × Int)} {k : Nat} {x : Int × Int} (h : xs.take (k + 1) = xs.take k ++ [x]) : (fun a => if a = x.1 then amts x.1 (xs.take k) ++ [x.2] else amts a (xs.take k)) = fun a => amts a (xs.take (k + 1)) := by
  funext a
  rw [h, amts_snoc]
  split
  · rename_i e
    rw [e]
  · rfl
theorem amts_len (k : Int) (xs : List (Int × Int)) : (amts k xs).length ≤ xs.length := by
  unfold amts
  rw [List.length_map]
  exact List.length_filter_le _ _
theorem amts_ok (k : Int) (xs : List (Int × Int)) (h : xs.all lineOk = true) : (amts k xs).all numOk = true := by
  rw [List.all_eq_true] at h ⊢
  intro y hy
  simp only [amts, List.mem_map, List.mem_filter] at hy
  obtain ⟨x, ⟨hx, _⟩, rfl⟩ := hy
  have := lineOk_bd (h x hx)
  simp only [numOk, Bool.and_eq_true, decide_eq_true_eq]
  omega
/-- What chart.Net tells of accounts. -/
def netOf (xs : List (Int × Int)) (ks : List Int) : List (Int × Int) := (ks.map fun k => (k, (amts k xs).sum)).filter fun p => p.2 != 0
def netL (xs : List (Int × Int)) : List (Int × Int) := netOf xs [1, 2, 3, 4, 5, 6, 7]

def seven : List Int := [1, 2, 3, 4, 5, 6, 7]
theorem seven_take (j : Nat) (h : j < 7) : seven.take (j + 1) = seven.take j ++ [(j : Int) + 1] := by
  match j, h with
  | 0, _ => rfl
  | 1, _ => rfl
  | 2, _ => rfl
  | 3, _ => rfl
  | 4, _ => rfl
  | 5, _ => rfl
  | 6, _ => rfl
theorem netOf_snoc (xs : List (Int × Int)) (ks : List Int) (k : Int) : netOf xs (ks ++ [k]) = netOf xs ks ++ if (amts k xs).sum = 0 then [] else [(k, (amts k xs).sum)] := by
  unfold netOf
  rw [List.map_append, List.filter_append]
  congr 1
  by_cases h : (amts k xs).sum = 0
  · simp [h]
  · simp [h]
theorem netOf_len (xs : List (Int × Int)) (j : Nat) : (netOf xs (seven.take j)).length ≤ 7 := by
  unfold netOf
  refine Nat.le_trans (List.length_filter_le _ _) ?_
  rw [List.length_map, List.length_take]
  exact Nat.min_le_right _ _
def flatL (ps : List (Int × Int)) : List Value := ps.flatMap fun p => [.int .i64 p.1, .int .i64 p.2]
theorem flatL_snoc (ps : List (Int × Int)) (p : Int × Int) : flatL (ps ++ [p]) = flatL ps ++ [.int .i64 p.1, .int .i64 p.2] := by simp [flatL]
theorem flatL_len (ps : List (Int × Int)) : (flatL ps).length = ps.length * 2 := by
  induction ps with
  | nil => rfl
  | cons p ps ih => simp only [flatL, List.flatMap_cons, List.length_append, List.length_cons, List.length_nil] at ih ⊢; omega
theorem flatL_get : ∀ (ps : List (Int × Int)) (i : Nat), i < ps.length → (flatL ps)[i * 2]? = some (.int .i64 (ps[i]?.getD (0, 0)).1) ∧ (flatL ps)[i * 2 + 1]? = some (.int .i64 (ps[i]?.getD (0, 0)).2)
  | p :: ps, 0, _ => ⟨rfl, rfl⟩
  | p :: ps, i + 1, h => by
    obtain ⟨h1, h2⟩ := flatL_get ps i (by simpa using h)
    simp only [flatL, List.flatMap_cons] at h1 h2 ⊢
    rw [show (i + 1) * 2 = i * 2 + 1 + 1 by omega]
    simpa using ⟨h1, h2⟩
theorem add_zero_eq (g j : Nat) : (⟨g, 0, none⟩ : Addr).add j = ⟨g, j, none⟩ := by
  cases j <;> simp [Addr.add]
theorem add_cell {w : World} {g j : Nat} {u : Value} (h : w.cell? ((⟨g, 0, none⟩ : Addr).add j) = some u) : w.cell? ⟨g, j, none⟩ = some u := by rwa [add_zero_eq] at h
theorem LinesAt.of_owns {w : World} {B : Nat} {v : Value} {ps : List (Int × Int)} (h : w.ownsRow B 35 2 v ps.length (flatL ps)) : ∃ A c, v = .slice A ps.length c ∧ LinesAt w A ps.length ps := by
  rcases Go.Joins.ownsRow_forms h with ⟨rfl, h0⟩ | ⟨g, cap, rfl⟩
  · exact ⟨none, 0, by rw [h0], rfl, fun i hi => by omega⟩
  · refine ⟨_, cap, rfl, rfl, fun i hi => ?_⟩
    have hc := h.cells (g := g) rfl
    obtain ⟨g0, g1⟩ := flatL_get ps i hi
    refine ⟨g, rfl, (h.lt g rfl).2, ?_, ?_⟩
    · exact add_cell (hc _ _ g0)
    · exact add_cell (hc _ _ g1)
theorem cells_new (w : World) (cs : Array Value) (t : TypeId) : ∀ j u, cs.toList[j]? = some u → (w.alloc (.cells cs t)).cell? ((⟨w.heap.size, 0, none⟩ : Addr).add j) = some u := by
  intro j u hj
  simp only [Array.getElem?_toList] at hj
  rw [add_zero_eq]
  simp [hj]

set_option maxRecDepth 100000 in
set_option maxHeartbeats 1000000 in
theorem netL_any (A : Option Addr) (n c : Nat) (xs : List (Int × Int)) (w : World) (hx : LinesAt w A n xs) (hn : n ≤ 4000) (hok : xs.all lineOk = true) :
    Calls Tryd.prog 13 #[.slice A n c] w fun e w' => ∃ A' n' c', e = .returned (.tuple #[.slice A' n' c', .int .i64 0]) ∧ LinesAt w' A' n' (netL xs) ∧ Below w.heap.size w w' := by
  have hmm := @run_makeMap Tryd.prog
  obtain ⟨i0, hi, hz0, hz1, hz2⟩ := info_parts info2'
  obtain ⟨i5, hi5, hy0, hy1, hy2⟩ := info_parts info35'
  have hl := hx.1
  have HL := Lib.hid hl
  have HOK := Lib.hid hok
  clear hl hok
  go_enter Tryd.func13, Tryd.ntmps13
  go_wp2_with fail
  go_loopw [15] (fun i wr => ∃ k : Nat, k ≤ n ∧ i = .int .i64 k ∧ Groups wr w.heap.size (w.heap.size + 1) k (fun a => amts a (xs.take k)) ∧ Below w.heap.size w wr ∧ w.heap.size + 1 ≤ wr.heap.size) (fun i _ => n - (RowKit.intOf i).toNat)
  case atStart => exact ⟨0, Nat.zero_le _, rfl, Groups.made _, (Below.refl _ _).alloc (Nat.le_refl _) _, by simp⟩
  case round =>
    obtain ⟨k, hk, rfl, hG, hB, hws⟩ := hrel
    by_cases hlt : k < n
    · obtain ⟨g, rfl, hg, c0, c1⟩ := hx.2 k hlt
      rw [← hB.cell (p := ⟨g, _, none⟩) hg] at c0 c1
      have hnx := take_next xs k (by rw [HL.out]; exact hlt) (0, 0)
      have hlo : lineOk (xs[k]?.getD (0, 0)) = true := all_get HOK.out (by rw [HL.out]; exact hlt) _
      generalize xs[k]?.getD (0, 0) = x at c0 c1 hnx hlo
      have hbd := lineOk_bd hlo
      have HX := Lib.hid hnx
      clear hnx hx hlo
      go_wp2_with fail
      have hWa := Whole.new wr 35 #[.int .i64 x.1, .int .i64 x.2]
      have hGa := hG.alloc (.cells #[.int .i64 x.1, .int .i64 x.2] 35)
      have hBa := hB.alloc hB.size (.cells #[.int .i64 x.1, .int .i64 x.2] 35)
      have hza : w.heap.size + 1 ≤ (wr.alloc (.cells #[.int .i64 x.1, .int .i64 x.2] 35)).heap.size := by simp; omega
      generalize hg1 : wr.heap.size = z at hWa ⊢
      generalize wr.alloc (.cells #[.int .i64 x.1, .int .i64 x.2] 35) = wa at hWa hGa hBa hza ⊢
      clear hg1 hG hB hws c0 c1 hg
      have e0 := hWa.cell 0
      have e1 := hWa.cell 1
      simp only [List.getElem?_toArray, List.getElem?_cons_zero, List.getElem?_cons_succ] at e0 e1
      have b1 : nameNo x.1 = false := by rw [nameNo_iff, decide_eq_true (by omega)]; rfl
      unfold nameNo at b1
      go_wp2_with fail
      refine (name_any _ _).mono ?_
      rintro e wb ⟨rfl, hb⟩
      have hGb := hGa.below hb
      have hWb := hWa.below hb hWa.lt
      have hBb := hBa.trans (hb.mono hBa.size)
      have hzb : w.heap.size + 1 ≤ wb.heap.size := Nat.le_trans hza hb.size
      clear hb hGa hWa hBa hza e0 e1 wa
      go_wp2_with fail
      have hGw := hGb.drew
      have hWw := hWb.drew
      have hBw := hBb.drew
      have hzw : w.heap.size + 1 ≤ wb.drew.heap.size := hzb
      have hx1 : Fits x.1 := by unfold Fits; omega
      have hkey := keyOf_int_mk Tryd.underlying3 (fits_wf hx1)
      clear hGb hBb hzb
      have hGa := hGw.alloc (.cells #[.int .i64 x.2] 2)
      have hWa := hWw.alloc (.cells #[.int .i64 x.2] 2)
      obtain ⟨D, hD, hf⟩ := hGw
      obtain ⟨v, zs, hrun, hat, hoi, hzl, hback⟩ := hD.at (t := 80) lawInt Tryd.underlying80 (zero41 _) (by unfold maxLen; omega) hkey
      obtain ⟨D2, hD2, hf2⟩ := hGa
      obtain ⟨v2, zs2, hrun2, hat2, hoi2, hzl2, hback2⟩ := hD2.at (t := 80) lawInt Tryd.underlying80 (zero41 _) (by unfold maxLen; omega) hkey
      have hrun2 : (Instr.lookup 80 (.map (some w.heap.size)) (.int .i64 x.1) false).run Tryd.prog (wb.alloc (.cells #[.int .i64 x.2] 2)).drew = .ok v2 (wb.alloc (.cells #[.int .i64 x.2] 2)).drew := hrun2
      have hdz : wb.drew.heap.size = wb.heap.size := rfl
      go_region_held3 (fun w' => w'.cell? ⟨z, 0, none⟩ = some (.int .i64 x.1) ∧ w'.cell? ⟨z, 1, none⟩ = some (.int .i64 x.2)) (first | exact two_of HW3 | exact two_of HW2 | exact two_of hWa | exact two_of hWw)
        (first
          | (refine step_append_lies _ rfl _ _ 41 rfl (w.heap.size + 1) 2 i0 (.int .i64 0) 1 8 Tryd.underlying41 hi hz0 hz1 hz2 rfl (by decide) v zs.length (zs.map (Value.int .i64)) rfl (hoi.1.alloc _) ⟨wb.drew.heap.size, 0, none⟩ 1 1 [.int .i64 x.2] rfl rfl (cell_one_new _ _ _) (ints_oneCell .i64 [x.2]) (by decide) (by unfold maxLen; omega) (by omega) (by simp; omega) _ rfl ?_; intro g2 cap w1 hown' hgrow hat3 hlt3
             obtain ⟨w2, hrun3, hown2, hgrow2⟩ := hback w1 (.slice (some ⟨g2, 0, none⟩) (zs.length + 1) cap) (zs ++ [x.2]) ((World.grownBy_alloc _ _ _).trans hgrow) (hoi.appended hown' (WalkArith.wf_i64 (by omega))) (by simp; omega) (hat3.imp (fun e => e.symm) (fun h => ⟨g2, rfl, by simp at h; omega⟩))
             have HW2 := hWa.grown hgrow (own_apart hoi hWw)
             have HW3 := HW2.grown hgrow2 (map_apart hD hWw))
          | (refine step_append_lies _ rfl _ _ 41 rfl (w.heap.size + 1) 2 i0 (.int .i64 0) 1 8 Tryd.underlying41 hi hz0 hz1 hz2 rfl (by decide) v2 zs2.length (zs2.map (Value.int .i64)) rfl hoi2.1 ⟨wb.drew.heap.size, 0, none⟩ 1 1 [.int .i64 x.2] rfl rfl (cell_one_new _ _ _) (ints_oneCell .i64 [x.2]) (by decide) (by unfold maxLen; omega) (by omega) (by simp; omega) _ rfl ?_; intro g2 cap w1 hown' hgrow hat3 hlt3
             obtain ⟨w2, hrun3, hown2, hgrow2⟩ := hback2 w1 (.slice (some ⟨g2, 0, none⟩) (zs2.length + 1) cap) (zs2 ++ [x.2]) hgrow (hoi2.appended hown' (WalkArith.wf_i64 (by omega))) (by simp; omega) (hat3.imp (fun e => e.symm) (fun h => ⟨g2, rfl, by simp at h; simp; omega⟩))
             have HW2 := hWa.grown hgrow (own_apart hoi2 hWa)
             have HW3 := HW2.grown hgrow2 (map_apart hD2 hWa)))
      all_goals go_wp2_with fail
      · have hall := (World.grownBy_alloc wb.drew (.cells #[.int .i64 x.2] 2) v.ownBlock).trans hgrow
        exact ⟨⟨k + 1, by omega, by go_num, (Groups.step hD hf hoi hat (hoi.appended hown' (WalkArith.wf_i64 (by omega))) hown2).to (amts_step HX.out), hBw.groups hoi hall hgrow2 hBw.size (Nat.le_succ _) (Nat.le_refl _), Nat.le_trans hzw (Nat.le_trans hall.size hgrow2.size)⟩, by simp [RowKit.intOf]; omega⟩
      · exact ⟨⟨k + 1, by omega, by go_num, (Groups.step hD2 hf2 hoi2 hat2 (hoi2.appended hown' (WalkArith.wf_i64 (by omega))) hown2).to (amts_step HX.out), (hBw.alloc hBw.size _).groups hoi2 hgrow hgrow2 (by simp; omega) (Nat.le_succ _) (Nat.le_refl _), Nat.le_trans (by simp; omega) (Nat.le_trans hgrow.size hgrow2.size)⟩, by simp [RowKit.intOf]; omega⟩
    · obtain rfl : n = k := by omega
      have htk : xs.take n = xs := List.take_of_length_le (by rw [HL.out]; omega)
      rw [htk] at hG
      have HTK := Lib.hid htk
      clear htk hx
      go_wp2_with fail
      refine (accounts_any _).mono ?_
      rintro e w0 ⟨rfl, rfl⟩
      have hG0 := hG.alloc (.cells accCells 85)
      have hB0 := hB.alloc hB.size (.cells accCells 85)
      have hA0 := Whole.new wr 85 accCells
      have hz0 : w.heap.size + 1 ≤ (wr.alloc (.cells accCells 85)).heap.size := by simp; omega
      generalize hg1 : wr.heap.size = z at hA0 ⊢
      generalize wr.alloc (.cells accCells 85) = W at hG0 hB0 hA0 hz0 ⊢
      clear hg1 hG hB hws
      go_wp2_with fail
      go_loopw [7, 37] (fun o i wr => ∃ j : Nat, j ≤ 7 ∧ i = .int .i64 j ∧ Below W.heap.size W wr ∧ wr.ownsRow W.heap.size 35 2 o (netOf xs (seven.take j)).length (flatL (netOf xs (seven.take j)))) (fun _ i _ => 7 - (RowKit.intOf i).toNat)
      case atStart => exact ⟨0, Nat.zero_le _, rfl, Below.refl _ _, World.ownsRow_nil _ _ _ _⟩
      case round =>
        obtain ⟨j, hj, rfl, hB, hO⟩ := hrel
        by_cases hlt : j < 7
        · obtain ⟨e0, e1⟩ := accCells_at j hlt
          have hGw := hG0.below hB
          have hAw := hA0.below hB hA0.lt
          have c0 := (hAw.cell (j * 2)).trans e0
          have c1 := (hAw.cell (j * 2 + 1)).trans e1
          have hzl := hA0.lt
          clear e0 e1
          obtain ⟨D, hD, hf⟩ := hGw.alloc (.cells #[.int .i64 (j + 1), .string (nameOf (j + 1))] 85)
          have hx1 : Fits ((j : Int) + 1) := by unfold Fits; omega
          have hkey := keyOf_int_mk Tryd.underlying3 (fits_wf hx1)
          have HD := hD.at (t := 80) lawInt Tryd.underlying80 (zero41 _) (by unfold maxLen; omega) hkey
          obtain ⟨v, zs, hrun, hat, hoi, hzl2, _⟩ := HD
          have hzs := hf ((j : Int) + 1)
          rw [hat, itemsD_row hoi] at hzs
          have hzs : zs = amts ((j : Int) + 1) xs := lits_inj hzs
          have hnums := NumsAt.of_owns hoi.1
          have hsz : zs.length ≤ 4000 := by omega
          have hzok : zs.all numOk = true := by rw [hzs]; exact amts_ok _ _ HOK.out
          have hwa := Whole.new wr 85 #[.int .i64 (j + 1), .string (nameOf (j + 1))]
          have hBa := hB.alloc hB.size (.cells #[.int .i64 (j + 1), .string (nameOf (j + 1))] 85)
          have hOa := hO.alloc (.cells #[.int .i64 (j + 1), .string (nameOf (j + 1))] 85)
          have hzw : wr.heap.size < (wr.alloc (.cells #[.int .i64 (j + 1), .string (nameOf (j + 1))] 85)).heap.size := by simp
          have hstep := netOf_snoc xs (seven.take j) ((j : Int) + 1)
          rw [← seven_take j hlt, ← hzs] at hstep
          have HST := Lib.hid hstep
          have HOKZ := Lib.hid hzok
          have HOa := Lib.hid hOa
          have HBa := Lib.hid hBa
          have HNU := Lib.hid hnums
          have HZW := Lib.hid hzw
          have HWA := Lib.hid hwa
          have HSZ := Lib.hid hsz
          clear hD hf hat hoi hstep hzs hzok hO hOa hBa hB hnums hzw hwa hsz hzl2 hkey hx1
          go_wp2_with fail
          refine (Sum_any v zs _ HNU.out HSZ.out HOKZ.out).mono ?_
          rintro e w' ⟨rfl, rfl⟩
          have hBa := HBa.out
          have hOa := HOa.out
          have hzw := HZW.out
          have hwa := HWA.out
          clear HNU HZW HWA HSZ hrun HBa HOa c0 c1 hGw hAw HOKZ
          generalize wr.alloc (.cells #[.int .i64 (j + 1), .string (nameOf (j + 1))] 85) = wa at hwa hBa hOa hzw ⊢
          generalize wr.heap.size = y at hwa hzw ⊢
          have d0 := hwa.cell 0
          simp only [List.getElem?_toArray, List.getElem?_cons_zero] at d0
          generalize zs.sum = S at HST ⊢
          have hlen := netOf_len xs j
          have hBs := hBa.size
          by_cases hS : S = 0
          · have hS' : (S != 0) = false := by simp [hS]
            go_wp2_with fail
            refine ⟨⟨j + 1, by omega, by go_num, hBa, ?_⟩, by simp [RowKit.intOf]; omega⟩
            rw [HST.out, if_pos hS, List.append_nil]
            exact hOa
          · have hS' : (S != 0) = true := by simp [hS]
            go_wp2_with (at_builtin; refine wpList_append_own_at _ rfl _ _ 27 rfl W.heap.size 35 i5 (.agg #[.int .i64 0, .int .i64 0]) 2 16 Tryd.underlying27 hi5 hy0 hy1 hy2 rfl (by decide) _ _ _ rfl (hOa.alloc _) ⟨wa.heap.size, 0, none⟩ 1 1 [.int .i64 (j + 1), .int .i64 S] rfl rfl (cells_new _ _ _) (ints_oneCell .i64 [(j : Int) + 1, S]) (by unfold maxLen; omega) (by omega) (by simp; omega) ?_; intro v' w1 hown' hgrow hnil hloc)
            have hgrow : (wa.alloc (.cells #[.int .i64 (j + 1), .int .i64 S] 35)).grownBy w1 u7.ownBlock := hgrow
            refine ⟨⟨j + 1, by omega, by go_num, (hBa.alloc hBa.size _).grown hgrow (by simp; omega) (fun i e => (hOa.lt i e).1), ?_⟩, by simp [RowKit.intOf]; omega⟩
            rw [HST.out, if_neg hS, flatL_snoc, List.length_append]
            exact hown'
        · obtain rfl : j = 7 := by omega
          go_wp2_with fail
          obtain ⟨A', c', rfl, hL⟩ := LinesAt.of_owns hO
          exact bodyPost_ret (v := .tuple #[.slice A' (netL xs).length c', .int .i64 0]) (by simp [results, Tryd.results13, go_sem]; rfl) rfl ⟨A', _, c', rfl, hL, hB0.trans (hB.mono hB0.size)⟩
end Go.Proofs.YtdmopagkahgepaaDoor
