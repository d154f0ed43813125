/- chart.entries, chart.Post. -/
import Derived.Test.YtdmopagkahgepaaDoorTk
namespace Go.Proofs.YtdmopagkahgepaaDoor
open Go.RowKit Go.Maps Go.ChangeMaps Go.ChangeShapes

theorem wpList_insert_own {H : Type} {P : Program} (w : World) {ops : Array Oper} {rest : List Oper} {o : Oper} {a : Act} {Q : Exit → Act → World → Prop}
    (hg : o.guard = none) (m x v : Operand) (t : TypeId) (hop : o.op = Op.insert t m x v)
    (k e : TypeId) (K : Keyed P k) (ht : P.underlying t = some (.map k e)) (R : Value → Option (DataW H × List MemPlace)) (b n : Nat) (D : DataW H)
    (hm : a.eval m = .map (some b)) (hown : w.ownsMap P k R b n D) (hn : n < maxLen) (key val : Value) (kl : Lit) (hx : a.eval x = key) (hv : a.eval v = val) (hkey : keyOf P k key = some kl)
    (d : DataW H) (ps : List MemPlace) (hval : R val = some (d, ps))
    (hK : ∀ w', w'.ownsMap P k R b (n + 1) (D.put kl d) → w.grownBy w' (some b) → wpList P ops Q rest (a.put o.dst undef) w') :
    wpList P ops Q (o :: rest) a w := by
  refine wpList_plain hg fun K' hK' => ?_
  obtain ⟨w', hrun, r1, r2⟩ := hown.update K ht hn hkey hval
  unfold Oper.wp
  simp [execOp, hop, hm, hx, hv, hrun, Result.andThen]
  exact hK' _ _ (hK w' r1 r2)

def entD (a b : Int) (c : Bool) : DataW Unit := .slice [.lit (.int .i64 a), .lit (.int .i64 b), .lit (.bool c)] []
/-- How an entry reads. -/
def entL : List Value → Option (DataW Unit × List MemPlace)
  | [.int .i64 a, .int .i64 b, .bool c] => some (entD a b c, [])
  | _ => none
def entR : Value → Option (DataW Unit × List MemPlace)
  | .agg cs => entL cs.toList
  | _ => none
theorem entR_inv {v : Value} {a b : Int} {c : Bool} {ps : List MemPlace} (h : entR v = some (entD a b c, ps)) : v = .agg #[.int .i64 a, .int .i64 b, .bool c] := by
  unfold entR at h
  split at h
  · rename_i cs
    unfold entL at h
    split at h
    · rename_i hcs
      simp only [entD, Option.some.injEq, Prod.mk.injEq, DataW.slice.injEq, List.cons.injEq, DataW.lit.injEq, Lit.int.injEq, Lit.bool.injEq, true_and, and_true] at h
      obtain ⟨⟨rfl, rfl, rfl⟩, _⟩ := h
      rw [← Array.toArray_toList (xs := cs), hcs]
    · cases h
  · cases h

set_option maxRecDepth 100000 in
theorem entries_any (w : World) : Calls Tryd.prog 57 #[] w fun e w' => e = .returned (.map (some w.heap.size)) ∧ Below w.heap.size w w' ∧
    ∃ D : DataW Unit, w'.ownsMap Tryd.prog 3 entR w.heap.size 7 D ∧ D.atKey (.int .i64 1) (entD 0 0 false) = entD 2 1 false ∧ has D (.int .i64 1) = true := by
  have hmm := @run_makeMap Tryd.prog
  have hown := World.ownsMap_made (H := Unit) w Tryd.prog 3 entR
  have hB : Below w.heap.size w (w.alloc (.map #[] 0)) := (Below.refl _ w).alloc (Nat.le_refl _) _
  go_enter Tryd.func57, Tryd.ntmps57
  go_wp2_with (refine wpList_insert_own _ rfl _ _ _ 132 rfl 3 130 lawInt Tryd.underlying132 entR _ _ _ rfl hown (by decide) _ _ _ rfl rfl (keyOf_int_mk Tryd.underlying3 (by decide)) _ [] rfl ?_; intro w1 hown1 hgrow; have hB1 := hB.grown hgrow hB.size (fun j hj => by cases hj; exact Nat.le_refl _); clear hown hB; have hown := hown1; have hB := hB1; clear hown1 hB1 hgrow)
  go_ret
  have hkl : WideAt.IsKeyLit (Lit.int .i64 1) := trivial
  refine ⟨rfl, hB, _, hown, ?_, ?_⟩
  · rw [atKey_put_other (by simp), atKey_put_other (by simp), atKey_put_other (by simp), atKey_put_other (by simp), atKey_put_other (by simp), atKey_put_other (by simp), atKey_put_same ⟨_, rfl⟩ hkl]
  · rw [has_put_other (by simp), has_put_other (by simp), has_put_other (by simp), has_put_other (by simp), has_put_other (by simp), has_put_other (by simp), has_put_same ⟨_, rfl⟩ hkl]

theorem zero130 (w : World) : (zeroValue 130).run Tryd.prog w = .ok (.agg #[.int .i64 0, .int .i64 0, .bool false]) w := by kernel_rfl

set_option maxRecDepth 100000 in
theorem post_any (w : World) : Calls Tryd.prog 27 #[.int .i64 1, .int .i64 100] w fun e w' => ∃ A c, e = .returned (.tuple #[.slice A 2 c, .int .i64 0]) ∧ LinesAt w' A 2 [(2, 100), (1, -100)] ∧ Below w.heap.size w w' := by
  go_enter Tryd.func27, Tryd.ntmps27
  go_wp2_with fail
  refine (entries_any w).mono ?_
  rintro e w1 ⟨rfl, hB, D, hown, hat, hhas⟩
  obtain ⟨v, ps, hrun, hv⟩ := hown.look_ok (t := 132) (key := .int .i64 1) lawInt Tryd.underlying132 (zero130 _) (zd := entD 0 0 false) (zp := []) rfl (keyOf_int_mk Tryd.underlying3 (by decide))
  rw [hat] at hv
  obtain rfl := entR_inv hv
  rw [hhas] at hrun
  clear hown hat hhas hv
  go_wp2_with fail
  have hWn := Whole.new (w1.alloc (.cells #[.int .i64 2, .int .i64 1, .bool false] 130)) 35 #[.int .i64 2, .int .i64 100, .int .i64 1, .int .i64 (-100)]
  rw [World.size_alloc] at hWn
  refine bodyPost_ret (v := .tuple #[.slice (some ⟨w1.heap.size + 1, 0, none⟩) 2 2, .int .i64 0]) (by simp [results, Tryd.results27, go_sem]; done) rfl ⟨_, _, rfl, ⟨rfl, fun i hi => ⟨_, rfl, hWn.lt, ?_, ?_⟩⟩, (hB.alloc hB.size _).alloc (by have := hB.size; simp; omega) _⟩
  · match i, hi with
    | 0, _ => exact hWn.cell 0
    | 1, _ => exact hWn.cell 2
  · match i, hi with
    | 0, _ => exact hWn.cell 1
    | 1, _ => exact hWn.cell 3
end Go.Proofs.YtdmopagkahgepaaDoor
