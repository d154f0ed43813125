/- Words that all of the Command texts use. -/
import Derived.Test.YtdmopagkahgepaaDoorCb
import Derived.Deep.RegionHeld3
import Derived.Deep.AppendLies
import Derived.Maps.OwnRows
import Derived.Lib.ItoaLen
import Derived.Lib.AppendIntMem
import Derived.StillTailTactics
namespace Go.Proofs.YtdmopagkahgepaaDoor
open Go.RowKit Go.Maps Go.ChangeMaps Go.ChangeShapes

def Fits (x : Int) : Prop := -9223372036854775808 ≤ x ∧ x ≤ 9223372036854775807
theorem take_next {α : Type} (xs : List α) (n : Nat) (h : n < xs.length) (d : α) : xs.take (n + 1) = xs.take n ++ [xs[n]?.getD d] := by
  rw [List.take_succ_eq_append_getElem h, List.getElem?_eq_getElem h]
  rfl

theorem ret_int {k : IntKind} {a b : Int} (h : a = b) : Ending.returned (.int k a) = .returned (.int k b) := by rw [h]
/-- A slice of int64 that reads as xs, at the head of a block. -/
def NumsAt (w : World) (v : Value) (xs : List Int) : Prop :=
  ∃ A c, v = .slice A xs.length c ∧ ∀ i, i < xs.length → ∃ g, A = some ⟨g, 0, none⟩ ∧ g < w.heap.size ∧ w.cell? ⟨g, i, none⟩ = some (.int .i64 (xs[i]?.getD 0))
theorem NumsAt.of_owns {w : World} {B : Nat} {e : TypeId} {v : Value} {xs : List Int} (h : w.ownsRow B e 1 v xs.length (xs.map (Value.int .i64))) : NumsAt w v xs := by
  rcases Go.Joins.ownsRow_forms h with ⟨rfl, h0⟩ | ⟨g, cap, rfl⟩
  · exact ⟨none, 0, by rw [h0], fun i hi => by omega⟩
  · refine ⟨_, cap, rfl, fun i hi => ⟨g, rfl, ?_, ?_⟩⟩
    · rcases h.2 with ⟨e, _⟩ | ⟨g', cap', cur, e, _, hh, _⟩
      · cases e
      · cases e
        exact (Array.getElem?_eq_some_iff.1 hh).1
    · have := h.cellAt i (by omega)
      rw [this]
      simp [List.getElem?_eq_getElem hi]

theorem info2' : (Tryd.prog.info? 2).map (fun i => (i.zero, i.size, i.bytes)) = some (some (.int .i64 0), 1, 8) := by kernel_rfl
theorem add_zero_eq (g j : Nat) : (⟨g, 0, none⟩ : Addr).add j = ⟨g, j, none⟩ := by
  cases j <;> simp [Addr.add]
theorem add_cell {w : World} {g j : Nat} {u : Value} (h : w.cell? ((⟨g, 0, none⟩ : Addr).add j) = some u) : w.cell? ⟨g, j, none⟩ = some u := by rwa [add_zero_eq] at h
theorem cells_new (w : World) (cs : Array Value) (t : TypeId) : ∀ j u, cs.toList[j]? = some u → (w.alloc (.cells cs t)).cell? ((⟨w.heap.size, 0, none⟩ : Addr).add j) = some u := by
  intro j u hj
  simp only [Array.getElem?_toList] at hj
  rw [add_zero_eq]
  simp [hj]

theorem World.alloc_le (w : World) (o : Obj) : w.heap.size ≤ (w.alloc o).heap.size := by simp
/-- strconv's table is laid. -/
def Pow (w : World) : Prop := Lib.TabIs Tryd.prog w "internal/strconv.uint64pow10" .u64 Lib.pow10Tab
theorem var_below {w w' : World} {B : Nat} {n : String} {cs : Array Value} (h : w.var? Tryd.prog n = some cs) (hb : Below B w w') (hB : w.heap.size ≤ B) : w'.var? Tryd.prog n = some cs := by
  have h' := h
  unfold World.var? at h'
  obtain ⟨g, hg, _⟩ := Option.bind_eq_some_iff.1 h'
  exact Go.Joins.var_stays hg h hb hB
theorem Pow.below {w w' : World} {B : Nat} (h : Pow w) (hb : Below B w w') (hB : w.heap.size ≤ B) : Pow w' := var_below h hb hB

theorem builder_below {w w' : World} {B b : Nat} {bs : List Value} (h : Lib.IsBuilder 118 5 B b bs w) (hb : Below w.heap.size w w') : Lib.IsBuilder 118 5 B b bs w' := by
  have go : ∀ p, Lib.BuilderAt 118 5 B b p bs w → Lib.BuilderAt 118 5 B b p bs w' := fun p hp => by
    have hlt := hp.lt
    obtain ⟨hB, v, hh, ho, hne⟩ := hp
    exact ⟨hB, v, (hb.block b hlt).trans hh, ho.kept (row := none) ⟨hb.os, hb.tape, hb.output, hb.size, fun j hj _ => hb.block j hj⟩ (by cases v.ownBlock <;> simp), hne⟩
  exact h.imp (go _) (go _)
theorem builder_new (w : World) : Lib.IsBuilder 118 5 w.heap.size w.heap.size [] (w.alloc (.cells #[.pointer none, .slice none 0 0] 118)) :=
  .inl ⟨Nat.le_refl _, _, Whole.new _ _ _, World.ownsRow_nil _ _ _ _, by simp [Value.ownBlock]⟩
theorem builder_heap {w : World} {B b : Nat} {bs : List Value} (h : Lib.IsBuilder 118 5 B b bs w) : ∃ cb, w.heap[b]? = some (.cells cb 118 (0, 0)) := by
  rcases h with ⟨_, v, hh, _⟩ | ⟨_, v, hh, _⟩ <;> exact ⟨_, hh⟩

theorem cat_bytes (l : List UInt8) : ((⟨#[32]⟩ : ByteArray) ++ ⟨l.toArray⟩).data.toList = 32 :: l := by
  rw [ByteArray.data_append]
  simp
theorem ret_str {a b : ByteArray} (h : a = b) : Ending.returned (.string a) = .returned (.string b) := by rw [h]
end Go.Proofs.YtdmopagkahgepaaDoor
