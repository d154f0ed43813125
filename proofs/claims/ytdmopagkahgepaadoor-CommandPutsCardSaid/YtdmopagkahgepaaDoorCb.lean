/- strings.Builder's writing methods at this dump: copyCheck, WriteByte, WriteString. -/
import Derived.Test.YtdmopagkahgepaaDoorCs
import Derived.Test.YtdmopagkahgepaaDoorB
import Derived.Lib.AppendStr
import Derived.Lib.UnsafeStr
import Derived.Lib.OwnKind
import Derived.Laws.Externs
import Derived.Lib.SmallJoins
import Derived.Maps.AppendAt
namespace Go.Proofs.YtdmopagkahgepaaDoor
open Go.RowKit

theorem info118 : (Tryd.prog.info? 118).map (·.size) = some 2 := by kernel_rfl
theorem lies118 : liesAt Tryd.prog Tryd.prog.depth 118 (2 / Tryd.prog.cellsOf 118) 0 118 1 = true := by kernel_rfl
theorem info5 : (Tryd.prog.info? 5).map (fun i => (i.zero, i.size, i.bytes)) = some (some (.int .u8 0), 1, 1) := by kernel_rfl

/-- A builder's block: its own address (or none yet), and the slice v. -/
def Head (w : World) (b : Nat) (p : Option Addr) (v : Value) : Prop := Whole w b 118 #[.pointer p, v]
abbrev me (b : Nat) : Option Addr := some ⟨b, 0, none⟩

set_option maxRecDepth 100000 in
theorem check_old (b : Nat) (v : Value) (w : World) (h : Head w b (me b) v) : Calls Tryd.prog 74 #[.pointer (me b)] w fun e w' => e = .returned (.tuple #[]) ∧ w' = w := by
  obtain ⟨i, hi, _⟩ := Option.map_eq_some_iff.1 info118
  have c0 := h.cell 0
  simp only [List.getElem?_toArray, List.getElem?_cons_zero] at c0
  go_enter Tryd.func74, Tryd.ntmps74
  go_wp2
  rw [Lib.run_neq_ptr_same w _ Tryd.underlying115 hi]
  go_wp2
  go_end0
  exact ⟨rfl, rfl⟩

set_option maxRecDepth 100000 in
theorem check_new (b : Nat) (v : Value) (w : World) (h : Head w b none v) : Calls Tryd.prog 74 #[.pointer (me b)] w fun e w' => e = .returned (.tuple #[]) ∧ w' = w.setCell ⟨b, 0, none⟩ (.pointer (me b)) := by
  obtain ⟨i, hi, hs⟩ := Option.map_eq_some_iff.1 info118
  have c0 := h.cell 0
  have f0 := h.frozen 0
  simp only [List.getElem?_toArray, List.getElem?_cons_zero] at c0
  have hsh : w.shape? b = some (118, 2) := by
    unfold Head Whole at h
    simp [World.shape?, h]
  go_enter Tryd.func74, Tryd.ntmps74
  go_wp2
  rw [Lib.run_to_unsafe w ⟨b, 0, none⟩ Tryd.underlying115 Tryd.underlying183 hi (by rw [hs]; decide) hsh (by simp), Result.andThen, Oper.upon_value]
  go_wp2
  rw [run_callFunc_extern Tryd.func103 (by kernel_rfl) (by kernel_rfl) (by kernel_rfl) (e := Extern.AbiNoEscape.same) (by kernel_rfl), Lib.run_noEscape, Result.andThen, Oper.upon_value]
  go_wp2
  rw [Lib.run_from_unsafe w ⟨b, 0, none⟩ Tryd.underlying183 Tryd.underlying115 hi hsh lies118, Result.andThen, Oper.upon_value]
  go_wp2
  go_end0
  exact ⟨rfl, rfl⟩

/-- What a write leaves, and what it leaves alone. -/
def Wrote (w w' : World) (B b : Nat) (bs : List Value) : Prop := Lib.BuilderAt 118 5 B b (.pointer (me b)) bs w' ∧ Below B w w' ∧ Lib.OthersKept 5 (some b) w w'

theorem check_any' (B b : Nat) (bs : List Value) (w : World) (h : Lib.IsBuilder 118 5 B b bs w) : Calls Tryd.prog 74 #[.pointer (me b)] w fun e w' => e = .returned (.tuple #[]) ∧ Wrote w w' B b bs := by
  rcases h with h | h
  · have hB := h.1
    obtain ⟨_, v, hh, _⟩ := id h
    refine (check_new b v w hh).mono ?_
    rintro e w' ⟨rfl, rfl⟩
    exact ⟨rfl, h.used _, (Below.refl B w).setCell (p := ⟨b, 0, none⟩) hB _, (Lib.OthersKept.refl 5 (some b) w).setCell ⟨b, 0, none⟩ rfl _⟩
  · obtain ⟨_, v, hh, _⟩ := id h
    refine (check_old b v w hh).mono ?_
    rintro e w' ⟨rfl, rfl⟩
    exact ⟨rfl, h, Below.refl B _, Lib.OthersKept.refl _ _ _⟩

/-- The new row is stored in the builder's block. -/
theorem stored {w0 w1 w2 : World} {B b : Nat} {v v' : Value} {bs bs' : List Value} (h0 : Wrote w0 w1 B b bs) (hBw : B ≤ w0.heap.size) (hv : Head w1 b (me b) v) (ho : w1.ownsRow B 5 1 v bs.length bs) (hg : w1.grownBy w2 v.ownBlock) (ho' : w2.ownsRow B 5 1 v' bs'.length bs') (hne : some b ≠ v.ownBlock) :
    Wrote w0 (w2.setCell ⟨b, 1, none⟩ v') B b bs' := by
  obtain ⟨⟨hB, _⟩, hb, hk⟩ := h0
  exact ⟨Lib.BuilderAt.put hB (hv.grown hg hne) ho' (by decide), (hb.grown hg (Nat.le_trans hBw hb.size) (fun k e => (ho.lt k e).1)).setCell (p := ⟨b, 1, none⟩) hB _, (hk.grown hg (Lib.ownsRow_kind ho)).setCell ⟨b, 1, none⟩ rfl _⟩

theorem slice_form {w : World} {B : Nat} {e : TypeId} {k : Nat} {v : Value} {n : Nat} {xs : List Value} (h : w.ownsRow B e k v n xs) : ∃ a m c, v = .slice a m c := by
  rcases Go.Joins.ownsRow_forms h with ⟨e, _⟩ | ⟨g, cap, e⟩ <;> exact ⟨_, _, _, e⟩

set_option maxRecDepth 100000 in
theorem put_str (B b : Nat) (bs : List Value) (s : ByteArray) (w : World) (h : Lib.IsBuilder 118 5 B b bs w) (hlen : bs.length + s.size ≤ 140737488355328) (hBw : B ≤ w.heap.size) :
    Calls Tryd.prog 47 #[.pointer (me b), .string s] w fun e w' => e = .returned (.tuple #[.int .i64 s.size, .nilIface]) ∧ Wrote w w' B b (bs ++ Lib.strCells s) := by
  obtain ⟨i, hi, hz, hs, hy⟩ := info_parts info5
  have hmax : bs.length + s.size ≤ maxLen := by unfold maxLen; omega
  go_enter Tryd.func47, Tryd.ntmps47
  go_wp2_with fail
  refine (check_any' B b bs w h).mono ?_
  rintro e w1 ⟨rfl, hw⟩
  obtain ⟨_, v, hh, ho, hnb⟩ := id hw.1
  have hH : Head w1 b (me b) v := hh
  have c1 := hH.cell 1
  simp only [List.getElem?_toArray, List.getElem?_cons_zero, List.getElem?_cons_succ] at c1
  have hBs := Nat.le_trans hBw hw.2.1.size
  go_wp2_with (at_builtin; refine Lib.wpList_append_own_string _ rfl _ _ 116 9 rfl B 5 i Tryd.underlying116 Tryd.underlying9 hi hz hs hy _ _ _ rfl ho s rfl hmax hlen hBs ?_; intro v2 w2 ho2 hg _; obtain ⟨ao, nn, cap, rfl⟩ := slice_form ho2; have hH2 := hH.grown hg (fun e => hnb e.symm); have c2 := (hH2.cell 1).trans rfl; have f2 := hH2.frozen 1; have hst := stored (bs' := bs ++ Lib.strCells s) hw hBw hH ho hg (by simpa [Lib.strCells_length] using ho2) (fun e => hnb e.symm))
  go_ret2
  exact ⟨rfl, hst⟩

set_option maxRecDepth 100000 in
theorem put_byte (B b : Nat) (bs : List Value) (c : Int) (w : World) (h : Lib.IsBuilder 118 5 B b bs w) (hlen : bs.length + 1 ≤ 140737488355328) (hBw : B ≤ w.heap.size) :
    Calls Tryd.prog 54 #[.pointer (me b), .int .u8 c] w fun e w' => e = .returned .nilIface ∧ Wrote w w' B b (bs ++ [.int .u8 c]) := by
  obtain ⟨i, hi, hz, hs, hy⟩ := info_parts info5
  have hmax : bs.length + 1 ≤ maxLen := by unfold maxLen; omega
  have hone : ∀ u ∈ [Value.int .u8 c], u.oneCell' = true := fun u hu => by
    rw [List.mem_singleton.1 hu]
    rfl
  go_enter Tryd.func54, Tryd.ntmps54
  go_wp2_with fail
  refine (check_any' B b bs w h).mono ?_
  rintro e w1 ⟨rfl, hw⟩
  obtain ⟨_, v, hh, ho, hnb⟩ := id hw.1
  have hH : Head w1 b (me b) v := hh
  have c1 := hH.cell 1
  simp only [List.getElem?_toArray, List.getElem?_cons_zero, List.getElem?_cons_succ] at c1
  have hBs : B ≤ (w1.alloc (.cells #[.int .u8 c] 5)).heap.size := by have := hw.2.1.size; simp; omega
  go_wp2_with (at_builtin; refine wpList_append_own _ rfl _ _ 116 rfl B 5 i (.int .u8 0) 1 1 Tryd.underlying116 hi hz hs hy rfl (by decide) _ _ _ rfl (ho.alloc _) ⟨w1.heap.size, 0, none⟩ 1 1 [.int .u8 c] rfl rfl (cell_one_new _ _ _) hone hmax (by omega) hBs ?_; intro v2 w2 ho2 hg _; obtain ⟨ao, nn, cap, rfl⟩ := slice_form ho2; have hg1 := (World.grownBy_alloc w1 (.cells #[.int .u8 c] 5) v.ownBlock).trans hg; have hH2 := hH.grown hg1 (fun e => hnb e.symm); have c2 := (hH2.cell 1).trans rfl; have f2 := hH2.frozen 1; have hst := stored (bs' := bs ++ [.int .u8 c]) hw hBw hH ho hg1 (by simpa using ho2) (fun e => hnb e.symm))
  go_ret
  exact ⟨rfl, hst⟩
end Go.Proofs.YtdmopagkahgepaaDoor
