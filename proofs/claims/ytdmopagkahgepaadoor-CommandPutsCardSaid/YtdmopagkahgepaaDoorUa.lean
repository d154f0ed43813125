/- command.words; bound, yes, and the closures that they make. -/
import Derived.Test.YtdmopagkahgepaaDoorC0
import Derived.Test.YtdmopagkahgepaaDoorS3
import Derived.Laws.EntriesVeiled
namespace Go.Proofs.YtdmopagkahgepaaDoor
open Go.RowKit Go.Maps Go.ChangeMaps Go.ChangeShapes

/-- The kinds' words. -/
def wordL : List ByteArray := [⟨#[]⟩, ⟨#[111, 112, 101, 110]⟩, ⟨#[115, 116, 101, 112]⟩, ⟨#[112, 97, 121]⟩, ⟨#[119, 114, 105, 116, 101]⟩, ⟨#[114, 101, 99, 111, 118, 101, 114]⟩, ⟨#[114, 101, 118, 105, 115, 101]⟩, ⟨#[114, 101, 112, 108, 97, 99, 101]⟩,
  ⟨#[109, 97, 114, 107]⟩, ⟨#[112, 114, 111, 118, 105, 100, 101]⟩, ⟨#[99, 108, 111, 115, 101]⟩, ⟨#[115, 121, 110, 99]⟩, ⟨#[116, 114, 105, 97, 108]⟩, ⟨#[114, 101, 112, 111, 114, 116]⟩, ⟨#[108, 111, 97, 110]⟩]
def wordCells : Array Value := (wordL.map Value.string).toArray
theorem words_any (w : World) : Calls Tryd.prog 38 #[] w fun e w' => e = .returned (.slice (some ⟨w.heap.size, 0, none⟩) 15 15) ∧ w.alloc (.cells wordCells 9) = w' := by
  go_enter Tryd.func38, Tryd.ntmps38
  go_wp2
  go_ret
  exact ⟨rfl, rfl⟩

/-- The three kinds of fields: of an int, of an int64, of what is so or isn't. -/
inductive FK where
  | int | i64 | yes
  deriving DecidableEq
def FK.getFn : FK → Nat
  | .int => 97
  | .i64 => 99
  | .yes => 101
def FK.setFn : FK → Nat
  | .int => 98
  | .i64 => 100
  | .yes => 102
def FK.ptr : FK → TypeId
  | .int => 155
  | .i64 => 157
  | .yes => 159
/-- The field's two closures, over the box at block B. -/
def fieldV (k : FK) (B : Nat) : Value := .agg #[.func (.func k.getFn) #[] #[.pointer (some ⟨B, 0, none⟩)], .func (.func k.setFn) #[] #[.pointer (some ⟨B, 0, none⟩)]]

/-- Behind bound, yes: the box at the heap's end holds the pointer; nothing that lay before has turned. -/
def Boxed (k : FK) (a : Addr) (w w' : World) : Prop := Whole w' w.heap.size k.ptr #[.pointer (some a)] ∧ Below w.heap.size w w'
theorem boxed_of (k : FK) (a : Addr) (w : World) (o : Obj) : Boxed k a w ((w.alloc (.cells #[.pointer (some a)] k.ptr)).alloc o) :=
  ⟨(Whole.new w k.ptr #[.pointer (some a)]).alloc _, ((Below.refl _ w).alloc (Nat.le_refl _) _).alloc (by simp) _⟩
theorem bound_int (a : Addr) (w : World) : Calls Tryd.prog 70 #[.pointer (some a)] w fun e w' => e = .returned (fieldV .int w.heap.size) ∧ Boxed .int a w w' := by
  go_enter Tryd.func70, Tryd.ntmps70
  go_wp2_with fail
  refine bodyPost_ret (v := fieldV .int w.heap.size) ?_ rfl ⟨rfl, boxed_of .int a w _⟩
  simp [results, Tryd.results70, go_sem, fieldV, FK.getFn, FK.setFn]
theorem bound_i64 (a : Addr) (w : World) : Calls Tryd.prog 71 #[.pointer (some a)] w fun e w' => e = .returned (fieldV .i64 w.heap.size) ∧ Boxed .i64 a w w' := by
  go_enter Tryd.func71, Tryd.ntmps71
  go_wp2_with fail
  refine bodyPost_ret (v := fieldV .i64 w.heap.size) ?_ rfl ⟨rfl, boxed_of .i64 a w _⟩
  simp [results, Tryd.results71, go_sem, fieldV, FK.getFn, FK.setFn]
theorem yes_any (a : Addr) (w : World) : Calls Tryd.prog 72 #[.pointer (some a)] w fun e w' => e = .returned (fieldV .yes w.heap.size) ∧ Boxed .yes a w w' := by
  go_enter Tryd.func72, Tryd.ntmps72
  go_wp2_with fail
  refine bodyPost_ret (v := fieldV .yes w.heap.size) ?_ rfl ⟨rfl, boxed_of .yes a w _⟩
  simp [results, Tryd.results72, go_sem, fieldV, FK.getFn, FK.setFn]

/-- The getters: what the pointer in the box points at. -/
def numOf : FK → Value → Option Int
  | .int, .int .i64 n => some n
  | .i64, .int .i64 n => some n
  | .yes, .bool b => some (if b then 1 else 0)
  | _, _ => none
theorem get_int (B : Nat) (a : Addr) (n : Int) (w : World) (hb : Whole w B 155 #[.pointer (some a)]) (hc : w.cell? a = some (.int .i64 n)) : Calls Tryd.prog 97 #[.pointer (some ⟨B, 0, none⟩)] w fun e w' => e = .returned (.int .i64 n) ∧ w' = w := by
  have c0 : w.cell? ⟨B, 0, none⟩ = some (.pointer (some a)) := hb.cell 0
  go_enter Tryd.func97, Tryd.ntmps97
  go_wp2_with fail
  go_ret
  exact ⟨rfl, rfl⟩
theorem get_i64 (B : Nat) (a : Addr) (n : Int) (w : World) (hb : Whole w B 157 #[.pointer (some a)]) (hc : w.cell? a = some (.int .i64 n)) : Calls Tryd.prog 99 #[.pointer (some ⟨B, 0, none⟩)] w fun e w' => e = .returned (.int .i64 n) ∧ w' = w := by
  have c0 : w.cell? ⟨B, 0, none⟩ = some (.pointer (some a)) := hb.cell 0
  go_enter Tryd.func99, Tryd.ntmps99
  go_wp2_with fail
  go_ret
  exact ⟨rfl, rfl⟩
theorem get_yes (B : Nat) (a : Addr) (b : Bool) (w : World) (hb : Whole w B 159 #[.pointer (some a)]) (hc : w.cell? a = some (.bool b)) : Calls Tryd.prog 101 #[.pointer (some ⟨B, 0, none⟩)] w fun e w' => e = .returned (.int .i64 (if b then 1 else 0)) ∧ w' = w := by
  have c0 : w.cell? ⟨B, 0, none⟩ = some (.pointer (some a)) := hb.cell 0
  cases b
  · go_enter Tryd.func101, Tryd.ntmps101
    go_wp2_with fail
    go_ret
    exact ⟨rfl, rfl⟩
  · go_enter Tryd.func101, Tryd.ntmps101
    go_wp2_with fail
    go_ret
    exact ⟨rfl, rfl⟩
theorem set_int (B : Nat) (a : Addr) (n m : Int) (w : World) (hb : Whole w B 155 #[.pointer (some a)]) (hc : w.cell? a = some (.int .i64 m)) (hf : w.frozen? a = false) :
    Calls Tryd.prog 98 #[.int .i64 n, .pointer (some ⟨B, 0, none⟩)] w fun e w' => e = .returned (.bool true) ∧ w' = w.setCell a (.int .i64 n) := by
  have c0 : w.cell? ⟨B, 0, none⟩ = some (.pointer (some a)) := hb.cell 0
  go_enter Tryd.func98, Tryd.ntmps98
  go_wp2_with fail
  go_ret
  exact ⟨rfl, rfl⟩
theorem set_i64 (B : Nat) (a : Addr) (n m : Int) (w : World) (hb : Whole w B 157 #[.pointer (some a)]) (hc : w.cell? a = some (.int .i64 m)) (hf : w.frozen? a = false) :
    Calls Tryd.prog 100 #[.int .i64 n, .pointer (some ⟨B, 0, none⟩)] w fun e w' => e = .returned (.bool true) ∧ w' = w.setCell a (.int .i64 n) := by
  have c0 : w.cell? ⟨B, 0, none⟩ = some (.pointer (some a)) := hb.cell 0
  go_enter Tryd.func100, Tryd.ntmps100
  go_wp2_with fail
  go_ret
  exact ⟨rfl, rfl⟩
theorem set_yes (B : Nat) (a : Addr) (n : Int) (m : Bool) (w : World) (hb : Whole w B 159 #[.pointer (some a)]) (hc : w.cell? a = some (.bool m)) (hf : w.frozen? a = false) :
    Calls Tryd.prog 102 #[.int .i64 n, .pointer (some ⟨B, 0, none⟩)] w fun e w' => e = .returned (.bool (n == 0 || n == 1)) ∧ w' = w.setCell a (.bool (n == 1)) := by
  have c0 : w.cell? ⟨B, 0, none⟩ = some (.pointer (some a)) := hb.cell 0
  go_enter Tryd.func102, Tryd.ntmps102
  go_wp2_with fail
  all_goals go_ret
  · rename_i h0
    subst h0
    exact ⟨rfl, rfl⟩
  · exact ⟨rfl, rfl⟩
end Go.Proofs.YtdmopagkahgepaaDoor
