/- command.of: words of the walk. -/
import Derived.Test.YtdmopagkahgepaaDoorUd
namespace Go.Proofs.YtdmopagkahgepaaDoor
open Go.RowKit Go.Maps Go.ChangeMaps Go.ChangeShapes

def zeroCmd : Array Value := #[.int .i64 0, .int .i64 0, .int .i64 0, .int .i64 0, .int .i64 0, .int .i64 0, .slice none 0 0, .int .i64 0, .int .i64 0, .bool false, .int .i64 0]
/-- A new command of a kind. -/
def kindCmd (kind : Int) : Array Value := #[.int .i64 kind, .int .i64 0, .int .i64 (if kind ≤ 10 then kind else 0), .int .i64 0, .int .i64 0, .int .i64 0, .slice none 0 0, .int .i64 0, .int .i64 0, .bool false, .int .i64 0]
theorem kindCmd_typed (kind : Int) : Typed (kindCmd kind) := by
  refine ⟨rfl, fun o h1 h2 h3 => ?_, ⟨false, rfl⟩, rfl⟩
  match o, h1, h2, h3 with
  | 0, _, _, _ => exact ⟨_, rfl⟩
  | 1, _, _, _ => exact ⟨_, rfl⟩
  | 2, _, _, _ => exact ⟨_, rfl⟩
  | 3, _, _, _ => exact ⟨_, rfl⟩
  | 4, _, _, _ => exact ⟨_, rfl⟩
  | 5, _, _, _ => exact ⟨_, rfl⟩
  | 7, _, _, _ => exact ⟨_, rfl⟩
  | 8, _, _, _ => exact ⟨_, rfl⟩
  | 10, _, _, _ => exact ⟨_, rfl⟩
theorem fieldsOf_len (kind : Int) : (fieldsOf kind).1.length ≤ 5 := by
  unfold fieldsOf
  repeat' split
  all_goals decide
/-- May there be a command of a kind and these numbers? -/
def ofOk (kind : Int) (l : List Int) : Bool := !decide (l.length < (fieldsOf kind).1.length) && !decide (600 < l.length - (fieldsOf kind).1.length) && (!decide ((fieldsOf kind).1.length < l.length) || (fieldsOf kind).2) && okAll ((fieldsOf kind).1.zip l)
/-- Its cells, but for the flows. -/
def ofCells (kind : Int) (l : List Int) : Array Value := setAll (kindCmd kind) ((fieldsOf kind).1.zip l)

theorem start_of (kind E : Int) (hE : (if kind ≤ 10 then kind else 0) = E) (w : World) :
    Whole ((w.alloc (.cells #[.int .i64 0, .int .i64 0, .int .i64 0, .int .i64 0, .int .i64 0, .int .i64 0, .slice none 0 0, .int .i64 0, .int .i64 0, .bool false, .int .i64 0] 47)).alloc (.cells #[.int .i64 kind, .int .i64 0, .int .i64 E, .int .i64 0, .int .i64 0, .int .i64 0, .slice none 0 0, .int .i64 0, .int .i64 0, .bool false, .int .i64 0] 47)) (w.heap.size + 1) 47 (kindCmd kind) ∧
    Whole ((w.alloc (.cells #[.int .i64 0, .int .i64 0, .int .i64 0, .int .i64 0, .int .i64 0, .int .i64 0, .slice none 0 0, .int .i64 0, .int .i64 0, .bool false, .int .i64 0] 47)).alloc (.cells #[.int .i64 kind, .int .i64 0, .int .i64 E, .int .i64 0, .int .i64 0, .int .i64 0, .slice none 0 0, .int .i64 0, .int .i64 0, .bool false, .int .i64 0] 47)) w.heap.size 47 zeroCmd ∧
    Below w.heap.size w ((w.alloc (.cells #[.int .i64 0, .int .i64 0, .int .i64 0, .int .i64 0, .int .i64 0, .int .i64 0, .slice none 0 0, .int .i64 0, .int .i64 0, .bool false, .int .i64 0] 47)).alloc (.cells #[.int .i64 kind, .int .i64 0, .int .i64 E, .int .i64 0, .int .i64 0, .int .i64 0, .slice none 0 0, .int .i64 0, .int .i64 0, .bool false, .int .i64 0] 47)) := by
  subst hE
  refine ⟨?_, (Whole.new w 47 zeroCmd).alloc _, ((Below.refl _ w).alloc (Nat.le_refl _) _).alloc (by simp) _⟩
  have := Whole.new (w.alloc (.cells zeroCmd 47)) 47 (kindCmd kind)
  rw [World.size_alloc] at this
  exact this
/-- Where of stands behind fields. -/
structure OfRel (w : World) (z r B : Nat) (v : Value) (fs : List Fd) (lv : Value) (l : List Int) (cs : Array Value) (wr : World) : Prop where
  cmd : Whole wr z 47 cs
  res : Whole wr r 47 zeroCmd
  fl : Flds wr B z v fs
  ty : Typed cs
  nums : NumsAt wr lv l
  low : Below w.heap.size w wr
theorem OfRel.below {w wr w' : World} {z r B : Nat} {v lv : Value} {fs : List Fd} {l : List Int} {cs : Array Value} (h : OfRel w z r B v fs lv l cs wr) (hb : Below wr.heap.size wr w') : OfRel w z r B v fs lv l cs w' :=
  ⟨h.cmd.below hb h.cmd.lt, h.res.below hb h.res.lt, h.fl.below hb, h.ty, h.nums.below hb, h.low.trans (hb.mono h.low.size)⟩
theorem set_yes' (B : Nat) (a : Addr) (n : Int) (m ok v1 : Bool) (w : World) (hb : Whole w B 159 #[.pointer (some a)]) (hc : w.cell? a = some (.bool m)) (hf : w.frozen? a = false) (hok : (n == 0 || n == 1) = ok) (hv : (n == 1) = v1) :
    Calls Tryd.prog 102 #[.int .i64 n, .pointer (some ⟨B, 0, none⟩)] w fun e w' => e = .returned (.bool ok) ∧ w' = w.setCell a (.bool v1) := by
  subst hok hv
  exact set_yes B a n m w hb hc hf
theorem OfRel.set {w wa : World} {z r B : Nat} {v lv : Value} {fs : List Fd} {l : List Int} {cs : Array Value} (h : OfRel w z r B v fs lv l cs wa) (k : FK) (o : Nat) (n : Int) (hk : okF (k, o) = true) (hl : NumsAt w lv l) (hz : w.heap.size ≤ z) (hr : r ≠ z) :
    OfRel w z r B v fs lv l (cs.setIfInBounds o (valOf k n)) (wa.drew.setCell ⟨z, o, none⟩ (valOf k n)) := by
  have hlow : Below w.heap.size w (wa.drew.setCell ⟨z, o, none⟩ (valOf k n)) := (h.low.drew).setCell (p := ⟨z, o, none⟩) hz _
  have hg : wa.grownBy (wa.drew.setCell ⟨z, o, none⟩ (valOf k n)) (some z) := grown_set (w := wa) (w' := wa.drew) (r := z) ⟨rfl, rfl, rfl, Nat.le_refl _, fun _ _ _ => rfl⟩ o _
  exact ⟨(h.cmd.drew).put o _, (h.res.drew).other hr _, h.fl.apart h.cmd hg, h.ty.set k o n hk, hl.below hlow, hlow⟩
/-- A row that lies above a block lies above a lower one. -/
theorem owns_lower {w : World} {B B' : Nat} {e : TypeId} {k : Nat} {v : Value} {n : Nat} {xs : List Value} (h : w.ownsRow B e k v n xs) (hB : B' ≤ B) : w.ownsRow B' e k v n xs := by
  refine ⟨h.1, ?_⟩
  rcases h.2 with h | ⟨g, cap, cur, e1, e2, r⟩
  · exact .inl h
  · exact .inr ⟨g, cap, cur, e1, Nat.le_trans hB e2, r⟩
end Go.Proofs.YtdmopagkahgepaaDoor
