/- (*command.Command).fields. -/
import Derived.Test.YtdmopagkahgepaaDoorUa
namespace Go.Proofs.YtdmopagkahgepaaDoor
open Go.RowKit Go.Maps Go.ChangeMaps Go.ChangeShapes

/-- A command's fields: of which kind, and where in its block; whether flows stand behind them. -/
def fieldsOf (kind : Int) : List (FK × Nat) × Bool :=
  if kind = 1 then ([(.int, 1), (.int, 3), (.i64, 5)], true) else
  if kind = 2 ∨ kind = 3 ∨ kind = 4 ∨ kind = 5 ∨ kind = 9 then ([(.int, 1), (.int, 3), (.i64, 5)], false) else
  if kind = 6 then ([(.int, 1), (.int, 3)], true) else
  if kind = 7 then ([(.int, 1), (.int, 3), (.int, 4), (.i64, 5)], true) else
  if kind = 8 then ([(.int, 1), (.int, 3), (.int, 7), (.int, 8), (.yes, 9)], false) else
  if kind = 10 then ([(.int, 1)], false) else
  if kind = 13 ∨ kind = 14 then ([(.i64, 10)], false) else ([], false)

theorem info113 : (Tryd.prog.info? 113).map (fun i => (i.zero, i.size, i.bytes)) = some (some (.agg #[.nilFunc, .nilFunc]), 2, 16) := by kernel_rfl

def getV (k : FK) (b : Nat) : Value := .func (.func k.getFn) #[] #[.pointer (some ⟨b, 0, none⟩)]
def setV (k : FK) (b : Nat) : Value := .func (.func k.setFn) #[] #[.pointer (some ⟨b, 0, none⟩)]
/-- The fields' cells, over the boxes bs. -/
def fcells (ks : List (FK × Nat)) : List Value := ks.flatMap fun p => [getV p.1 p.2, setV p.1 p.2]
theorem fcells_app (a b : List (FK × Nat)) : fcells (a ++ b) = fcells a ++ fcells b := by simp [fcells]
theorem fcells_one (a : List (FK × Nat)) : ∀ u ∈ fcells a, u.oneCell' = true := by
  intro u hu
  obtain ⟨p, _, hp⟩ := List.mem_flatMap.1 hu
  simp only [List.mem_cons, List.not_mem_nil, or_false] at hp
  rcases hp with rfl | rfl <;> rfl

/-- A field: its kind, its box, its place in the command's block. -/
structure Fd where
  k : FK
  b : Nat
  o : Nat
/-- Slice v holds the fields of the command at block z, in a row of the call's own from block B on; so do their boxes lie. -/
def Flds (w : World) (B z : Nat) (v : Value) (fs : List Fd) : Prop :=
  w.ownsRow B 113 2 v fs.length (fcells (fs.map fun f => (f.k, f.b))) ∧ ∀ f ∈ fs, B ≤ f.b ∧ Whole w f.b f.k.ptr #[.pointer (some ⟨z, f.o, none⟩)]
theorem FK.ptr_ne (k : FK) : k.ptr ≠ 113 := by cases k <;> decide
theorem Flds.below {w w' : World} {B z : Nat} {v : Value} {fs : List Fd} (h : Flds w B z v fs) (hb : Below w.heap.size w w') : Flds w' B z v fs :=
  ⟨h.1.kept (row := none) ⟨hb.os, hb.tape, hb.output, hb.size, fun j hj _ => hb.block j hj⟩ (by cases v.ownBlock <;> simp), fun f hf => ⟨(h.2 f hf).1, (h.2 f hf).2.below hb (h.2 f hf).2.lt⟩⟩
/-- A new row of fields. -/
theorem Flds.made (w : World) (B z : Nat) (fs : List Fd) (hB : B ≤ w.heap.size) (hm : fs.length ≤ 100) (cs : Array Value) (hcs : cs = (fcells (fs.map fun f => (f.k, f.b))).toArray) (hb : ∀ f ∈ fs, B ≤ f.b ∧ Whole w f.b f.k.ptr #[.pointer (some ⟨z, f.o, none⟩)]) :
    Flds (w.alloc (.cells cs 113)) B z (.slice (some ⟨w.heap.size, 0, none⟩) fs.length fs.length) fs := by
  have hl : (fcells (fs.map fun f => (f.k, f.b))).length = fs.length * 2 := by
    clear hcs hb hm
    induction fs with
    | nil => rfl
    | cons f fs ih => simp only [fcells, List.map_cons, List.flatMap_cons, List.length_append, List.length_cons, List.length_nil] at ih ⊢; omega
  subst hcs
  refine ⟨⟨hl, .inr ⟨_, _, _, rfl, hB, Whole.new _ _ _, Nat.le_refl _, by unfold maxLen; omega, by simp [hl], ?_⟩⟩, fun f hf => ⟨(hb f hf).1, (hb f hf).2.alloc _⟩⟩
  exact List.take_of_length_le (by simp [hl])
theorem below_undrew {w w' : World} {B : Nat} (h : Below B w.drew w') : Below B w w' := ⟨h.os, h.tape, h.output, h.size, h.block⟩
/-- One cell pair of a field. -/
abbrev duo (k : FK) (b : Nat) : List Value := fcells [(k, b)]
theorem Flds.app {w w' : World} {B z : Nat} {v v' : Value} {fs new : List Fd} (h : Flds w B z v fs) (hnew : ∀ f ∈ new, B ≤ f.b ∧ Whole w f.b f.k.ptr #[.pointer (some ⟨z, f.o, none⟩)]) (hg : w.grownBy w' v.ownBlock)
    (ho : w'.ownsRow B 113 2 v' (fs.length + new.length) (fcells (fs.map fun f => (f.k, f.b)) ++ fcells (new.map fun f => (f.k, f.b)))) : Flds w' B z v' (fs ++ new) := by
  have hbox : ∀ f : Fd, Whole w f.b f.k.ptr #[.pointer (some ⟨z, f.o, none⟩)] → Whole w' f.b f.k.ptr #[.pointer (some ⟨z, f.o, none⟩)] := fun f hW => hW.grown hg (fun e => by
    obtain ⟨c, fz, hh⟩ := Lib.ownsRow_kind h.1 f.b e.symm
    unfold Whole at hW
    rw [hW] at hh
    simp only [Option.some.injEq, Obj.cells.injEq] at hh
    exact f.k.ptr_ne hh.2.1)
  refine ⟨?_, fun f hf => ?_⟩
  · rw [List.length_append, List.map_append, fcells_app]
    exact ho
  · rcases List.mem_append.1 hf with hf | hf
    · exact ⟨(h.2 f hf).1, hbox f (h.2 f hf).2⟩
    · exact ⟨(hnew f hf).1, hbox f (hnew f hf).2⟩
/-- The first of two fields alone. -/
theorem Flds.first {w : World} {B z g : Nat} {f1 f2 : Fd} (h : Flds w B z (.slice (some ⟨g, 0, none⟩) 2 2) [f1, f2]) : Flds w B z (.slice (some ⟨g, 0, none⟩) 1 2) [f1] := by
  refine ⟨⟨rfl, ?_⟩, fun f hf => h.2 f (by rw [List.mem_singleton.1 hf]; simp)⟩
  rcases h.1.2 with ⟨e, _⟩ | ⟨g', cap, cur, e, hB, hh, hn, hm, hc, ht⟩
  · cases e
  · cases e
    refine .inr ⟨_, _, cur, rfl, hB, hh, by simp, hm, hc, ?_⟩
    have := congrArg (List.take 2) ht
    simpa [List.take_take, fcells] using this
end Go.Proofs.YtdmopagkahgepaaDoor
