/- (*strings.Builder).Grow at a new builder. -/
import Derived.Test.YtdmopagkahgepaaDoorC0
import Derived.Test.YtdmopagkahgepaaDoorS4
namespace Go.Proofs.YtdmopagkahgepaaDoor
open Go.RowKit Go.Maps Go.ChangeMaps Go.ChangeShapes

set_option maxRecDepth 100000 in
theorem grow_new (B b n : Nat) (w : World) (hB : B ≤ b) (h : Head w b none (.slice none 0 0)) (hBw : B ≤ w.heap.size) (hn0 : 0 < n) (hn : n ≤ 281474976710656) :
    Calls Tryd.prog 53 #[.pointer (me b), .int .i64 n] w fun e w' => e = .returned (.tuple #[]) ∧ Lib.IsBuilder 118 5 B b [] w' ∧ Below B w w' := by
  go_enter Tryd.func53, Tryd.ntmps53
  go_wp2_with fail
  refine (check_new b _ w h).mono ?_
  rintro e w1 ⟨rfl, rfl⟩
  have hW : Whole (w.setCell ⟨b, 0, none⟩ (.pointer (me b))) b 118 #[.pointer (me b), .slice none 0 0] := Whole.put h 0 _
  have hb1 : Below B w (w.setCell ⟨b, 0, none⟩ (.pointer (me b))) := (Below.refl B w).setCell (p := ⟨b, 0, none⟩) hB _
  have hsz : B ≤ (w.setCell ⟨b, 0, none⟩ (.pointer (me b))).heap.size := by simpa using hBw
  generalize w.setCell ⟨b, 0, none⟩ (.pointer (me b)) = w1 at hW hb1 hsz ⊢
  have c1 : w1.drew.cell? ⟨b, 1, none⟩ = some (.slice none 0 0) := hW.cell 1
  have hn0' : (0 : Int) < (n : Int) := by omega
  have hw0 : IntKind.i64.wrap 0 = 0 := by decide
  have HW := Lib.hid hW
  clear hW
  go_wp2_with fail
  go_region_held3 (fun w' => w'.cell? ⟨b, 1, none⟩ = some (.slice none 0 0)) (exact c1) (fail)
  go_wp2_with fail
  refine (Tryd.Builder_grow_fresh B b n w1.drew hB HW.out hsz hn).mono ?_
  rintro e w2 ⟨rfl, hb, hl⟩
  go_wp2_with fail
  go_end0
  exact ⟨rfl, .inr hb, hb1.trans ⟨hl.os, hl.tape, hl.output, hl.size, hl.block⟩⟩
end Go.Proofs.YtdmopagkahgepaaDoor
