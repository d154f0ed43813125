/- command.of, at any kind. -/
import Derived.Test.YtdmopagkahgepaaDoorUe
import Derived.Test.YtdmopagkahgepaaDoorUx
import Derived.Test.YtdmopagkahgepaaDoorVd
namespace Go.Proofs.YtdmopagkahgepaaDoor
open Go.RowKit Go.Maps Go.ChangeMaps Go.ChangeShapes

theorem of_any (kind : Int) (lv : Value) (l : List Int) (w : World) (hl : NumsAt w lv l) (hn : l.length ≤ 30000) (hform : lv = .slice none 0 0 ∨ ∃ g c, lv = .slice (some ⟨g, 0, none⟩) l.length c ∧ l.length ≤ c) :
    Calls Tryd.prog 41 #[.int .i64 kind, lv] w fun e w' => Below w.heap.size w w' ∧
      ((ofOk kind l = false ∧ e = .returned (.tuple #[.agg zeroCmd, .bool false])) ∨
       (ofOk kind l = true ∧ ∃ fv, e = .returned (.tuple #[.agg ((ofCells kind l).setIfInBounds 6 fv), .bool true]) ∧ w'.ownsRow w.heap.size 2 1 fv (l.drop (fieldsOf kind).1.length).length ((l.drop (fieldsOf kind).1.length).map (Value.int .i64)))) := by
  by_cases h10 : kind ≤ 10
  · exact of_le kind h10 lv l w hl hn hform
  · exact of_gt kind h10 lv l w hl hn hform

/-- A slice of int64 in a row of the call's own, from block B on. -/
def NumsOwn (w : World) (B : Nat) (v : Value) (xs : List Int) : Prop := w.ownsRow B 2 1 v xs.length (xs.map (Value.int .i64))
theorem NumsOwn.nums {w : World} {B : Nat} {v : Value} {xs : List Int} (h : NumsOwn w B v xs) : NumsAt w v xs := NumsAt.of_owns h
theorem NumsOwn.src {w : World} {B : Nat} {v : Value} {xs : List Int} (h : NumsOwn w B v xs) : NumSrc w v xs := .of_at h.nums
theorem NumsOwn.below {w w' : World} {B : Nat} {v : Value} {xs : List Int} (h : NumsOwn w B v xs) (hb : Below w.heap.size w w') : NumsOwn w' B v xs :=
  h.kept (row := none) ⟨hb.os, hb.tape, hb.output, hb.size, fun j hj _ => hb.block j hj⟩ (by cases v.ownBlock <;> simp)
theorem NumsOwn.lower {w : World} {B B' : Nat} {v : Value} {xs : List Int} (h : NumsOwn w B v xs) (hB : B' ≤ B) : NumsOwn w B' v xs := owns_lower h hB
/-- What is written to a block below leaves the row as it is. -/
theorem NumsOwn.grown {w w' : World} {B r : Nat} {v : Value} {xs : List Int} (h : NumsOwn w B v xs) (hg : w.grownBy w' (some r)) (hr : r < B) : NumsOwn w' B v xs := by
  refine h.kept hg ?_
  cases hv : v.ownBlock with
  | none => exact .inl rfl
  | some g => exact .inr (fun e => by cases e; have := (h.lt _ hv).1; omega)

/-- command.of, told by a command. -/
def OfEnd (k : Int) (l : List Int) (B : Nat) (e : Ending) (w' : World) : Prop :=
  (ofOk k l = false ∧ e = .returned (.tuple #[.agg #[.int .i64 0, .int .i64 0, .int .i64 0, .int .i64 0, .int .i64 0, .int .i64 0, .slice none 0 0, .int .i64 0, .int .i64 0, .bool false, .int .i64 0], .bool false])) ∨
  ∃ x A c, ofOk k l = true ∧ x = ofCmd k l ∧ e = .returned (.tuple #[.agg #[.int .i64 x.kind, .int .i64 x.id, .int .i64 x.ek, .int .i64 x.loan, .int .i64 x.other, .int .i64 x.amount, .slice A x.flows.length c, .int .i64 x.past, .int .i64 x.down, .bool x.bad, .int .i64 x.n], .bool true]) ∧ NumsOwn w' B (.slice A x.flows.length c) x.flows
theorem of_cmd (k : Int) (lv : Value) (l : List Int) (w : World) (hk : 1 ≤ k ∧ k ≤ 14) (hl : NumsAt w lv l) (hn : l.length ≤ 30000) (hform : lv = .slice none 0 0 ∨ ∃ g c, lv = .slice (some ⟨g, 0, none⟩) l.length c ∧ l.length ≤ c) :
    Calls Tryd.prog 41 #[.int .i64 k, lv] w fun e w' => Below w.heap.size w w' ∧ OfEnd k l w.heap.size e w' := by
  refine (of_any k lv l w hl hn hform).mono ?_
  rintro e w' ⟨hb, ⟨h0, rfl⟩ | ⟨h1, fv, rfl, hN⟩⟩
  · exact ⟨hb, .inl ⟨h0, rfl⟩⟩
  · have hN' : NumsOwn w' w.heap.size fv (l.drop (fieldsOf k).1.length) := hN
    obtain ⟨A, c, rfl, _⟩ := id hN'.nums
    refine ⟨hb, .inr ⟨ofCmd k l, A, c, h1, rfl, ?_, hN'⟩⟩
    rw [of_val hk h1]
    rfl
end Go.Proofs.YtdmopagkahgepaaDoor
