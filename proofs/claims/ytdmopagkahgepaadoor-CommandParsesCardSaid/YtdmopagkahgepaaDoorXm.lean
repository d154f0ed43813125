/- lombardlaw24.CommandParses: the walk. -/
import Derived.Test.YtdmopagkahgepaaDoorXl
import Derived.Test.YtdmopagkahgepaaDoorUo
namespace Go.Proofs.YtdmopagkahgepaaDoor
open Go.RowKit Go.Maps Go.ChangeMaps Go.ChangeShapes

/-- A command of zeros. -/
def noCmd : Cmd := ⟨0, 0, 0, 0, 0, 0, [], 0, 0, false, 0⟩
/-- What a line is parsed as, and the error. -/
def parsedC (t : List UInt8) : Cmd × Int := match parseL t with
  | none => (noCmd, 6)
  | some x => (x, 0)
theorem parsed_end {s : ByteArray} {B : Nat} {e : Ending} {w' : World} (h : ParseEnd s B e w') : ∃ x code, parsedC s.data.toList = (x, code) ∧ x.flows.length ≤ 600 ∧ ∃ A c, e = .returned (.tuple #[.agg #[.int .i64 x.kind, .int .i64 x.id, .int .i64 x.ek, .int .i64 x.loan, .int .i64 x.other, .int .i64 x.amount, .slice A x.flows.length c, .int .i64 x.past, .int .i64 x.down, .bool x.bad, .int .i64 x.n], .int .i64 code]) ∧ NumsOwn w' B (.slice A x.flows.length c) x.flows := by
  rcases h with ⟨h0, rfl⟩ | ⟨x, A, c, h1, rfl, hN⟩
  · exact ⟨noCmd, 6, by unfold parsedC; rw [h0], Nat.zero_le _, none, 0, rfl, nil_own _ _⟩
  · obtain ⟨_, _, h600⟩ := put_parse h1
    exact ⟨x, 0, by unfold parsedC; rw [h1], h600, A, c, rfl, hN⟩

set_option maxRecDepth 100000 in
set_option maxHeartbeats 8000000 in
theorem parses_any (line : ByteArray) (w : World) (hm : line.size ≤ 9223372036854775807) (h : Lay w) :
    Calls Tryd.prog 4 #[.string line] w fun e w' => e = .returned (.bool true) ∧ Below w.heap.size w w' := by
  go_enter Tryd.func4, Tryd.ntmps4
  go_wp2_with fail
  refine (alive24_any w h).mono ?_
  rintro e w1 ⟨rfl, hb1⟩
  have HL1 := Lib.hid hb1
  have HLY1 := Lib.hid (h.below hb1)
  clear hb1 h
  by_cases h8 : 8000 < line.size
  · have h8' : (8000 : Int) < (line.size : Int) := by omega
    go_wp2_with fail
    go_ret
    exact ⟨rfl, HL1.out⟩
  have h8' : ¬ (8000 : Int) < (line.size : Int) := by omega
  go_wp2_with fail
  refine (parse_any line w1 (by omega) HLY1.out.pow HLY1.out.sent HLY1.out.shape).mono ?_
  rintro e w2 ⟨hb2, hp⟩
  obtain ⟨x, code, hx, h600, A1, c1, rfl, hN1⟩ := parsed_end hp
  have hl2 := HL1.out.trans (hb2.mono HL1.out.size)
  have hA2 := (Below.refl _ w2).alloc (Nat.le_refl _) (.cells #[.int .i64 x.kind, .int .i64 x.id, .int .i64 x.ek, .int .i64 x.loan, .int .i64 x.other, .int .i64 x.amount, .slice A1 x.flows.length c1, .int .i64 x.past, .int .i64 x.down, .bool x.bad, .int .i64 x.n] 47)
  have hW2 := Whole.new w2 47 #[.int .i64 x.kind, .int .i64 x.id, .int .i64 x.ek, .int .i64 x.loan, .int .i64 x.other, .int .i64 x.amount, .slice A1 x.flows.length c1, .int .i64 x.past, .int .i64 x.down, .bool x.bad, .int .i64 x.n]
  have HF2 := Lib.hid (FlowsIn.of_own (hN1.below hA2))
  have HW2 := Lib.hid hW2
  have HL2 := Lib.hid (hl2.alloc hl2.size (.cells #[.int .i64 x.kind, .int .i64 x.id, .int .i64 x.ek, .int .i64 x.loan, .int .i64 x.other, .int .i64 x.amount, .slice A1 x.flows.length c1, .int .i64 x.past, .int .i64 x.down, .bool x.bad, .int .i64 x.n] 47))
  have HX := Lib.hid hx
  clear hb2 hp hx hN1 hl2 hA2 hW2 HL1 HLY1
  go_wp2_with fail
  generalize w2.alloc (.cells #[.int .i64 x.kind, .int .i64 x.id, .int .i64 x.ek, .int .i64 x.loan, .int .i64 x.other, .int .i64 x.amount, .slice A1 x.flows.length c1, .int .i64 x.past, .int .i64 x.down, .bool x.bad, .int .i64 x.n] 47) = W2 at HF2 HW2 HL2 ⊢
  generalize w2.heap.size = g1 at HW2 ⊢
  refine (parse24_any line W2 (by omega)).mono ?_
  rintro e w3 ⟨hb3, hp⟩
  obtain ⟨x', code', hx', _, A2, c2, rfl, hN2⟩ := parsed_end hp
  rw [HX.out] at hx'
  cases hx'
  have hl3 := HL2.out.trans (hb3.mono HL2.out.size)
  have hA3 := (Below.refl _ w3).alloc (Nat.le_refl _) (.cells #[.int .i64 x.kind, .int .i64 x.id, .int .i64 x.ek, .int .i64 x.loan, .int .i64 x.other, .int .i64 x.amount, .slice A2 x.flows.length c2, .int .i64 x.past, .int .i64 x.down, .bool x.bad, .int .i64 x.n] 54)
  have hW3 := Whole.new w3 54 #[.int .i64 x.kind, .int .i64 x.id, .int .i64 x.ek, .int .i64 x.loan, .int .i64 x.other, .int .i64 x.amount, .slice A2 x.flows.length c2, .int .i64 x.past, .int .i64 x.down, .bool x.bad, .int .i64 x.n]
  have HF3 := Lib.hid ((HF2.out.below hb3).below hA3)
  have HG3 := Lib.hid (FlowsIn.of_own (hN2.below hA3))
  have HV3 := Lib.hid ((HW2.out.below hb3 HW2.out.lt).alloc (.cells #[.int .i64 x.kind, .int .i64 x.id, .int .i64 x.ek, .int .i64 x.loan, .int .i64 x.other, .int .i64 x.amount, .slice A2 x.flows.length c2, .int .i64 x.past, .int .i64 x.down, .bool x.bad, .int .i64 x.n] 54))
  have HW3 := Lib.hid hW3
  have HL3 := Lib.hid (hl3.alloc hl3.size (.cells #[.int .i64 x.kind, .int .i64 x.id, .int .i64 x.ek, .int .i64 x.loan, .int .i64 x.other, .int .i64 x.amount, .slice A2 x.flows.length c2, .int .i64 x.past, .int .i64 x.down, .bool x.bad, .int .i64 x.n] 54))
  clear hb3 hp hN2 hl3 hA3 hW3 HF2 HW2 HL2
  go_wp2_with fail
  generalize w3.alloc (.cells #[.int .i64 x.kind, .int .i64 x.id, .int .i64 x.ek, .int .i64 x.loan, .int .i64 x.other, .int .i64 x.amount, .slice A2 x.flows.length c2, .int .i64 x.past, .int .i64 x.down, .bool x.bad, .int .i64 x.n] 54) = W4 at HF3 HG3 HV3 HW3 HL3 ⊢
  generalize w3.heap.size = g2 at HW3 ⊢
  have hwl := HV3.out.lt
  have hzl := HW3.out.lt
  have HVd := Lib.hid (show Whole W4.drew g1 47 #[.int .i64 x.kind, .int .i64 x.id, .int .i64 x.ek, .int .i64 x.loan, .int .i64 x.other, .int .i64 x.amount, .slice A1 x.flows.length c1, .int .i64 x.past, .int .i64 x.down, .bool x.bad, .int .i64 x.n] from HV3.out)
  have HWd := Lib.hid (show Whole W4.drew g2 54 #[.int .i64 x.kind, .int .i64 x.id, .int .i64 x.ek, .int .i64 x.loan, .int .i64 x.other, .int .i64 x.amount, .slice A2 x.flows.length c2, .int .i64 x.past, .int .i64 x.down, .bool x.bad, .int .i64 x.n] from HW3.out)
  have HFd := Lib.hid (HF3.out.below (Below.refl W4.heap.size W4).drew)
  go_region_held3 (fun w' => (w'.cell? ⟨g1, 0, none⟩ = some (.int .i64 x.kind) ∧ w'.cell? ⟨g1, 1, none⟩ = some (.int .i64 x.id) ∧ w'.cell? ⟨g1, 2, none⟩ = some (.int .i64 x.ek) ∧ w'.cell? ⟨g1, 3, none⟩ = some (.int .i64 x.loan) ∧ w'.cell? ⟨g1, 4, none⟩ = some (.int .i64 x.other) ∧ w'.cell? ⟨g1, 5, none⟩ = some (.int .i64 x.amount) ∧ w'.cell? ⟨g1, 6, none⟩ = some (.slice A1 x.flows.length c1) ∧ w'.cell? ⟨g1, 7, none⟩ = some (.int .i64 x.past) ∧ w'.cell? ⟨g1, 8, none⟩ = some (.int .i64 x.down) ∧ w'.cell? ⟨g1, 9, none⟩ = some (.bool x.bad) ∧ w'.cell? ⟨g1, 10, none⟩ = some (.int .i64 x.n)) ∧ (w'.cell? ⟨g2, 0, none⟩ = some (.int .i64 x.kind) ∧ w'.cell? ⟨g2, 1, none⟩ = some (.int .i64 x.id) ∧ w'.cell? ⟨g2, 2, none⟩ = some (.int .i64 x.ek) ∧ w'.cell? ⟨g2, 3, none⟩ = some (.int .i64 x.loan) ∧ w'.cell? ⟨g2, 4, none⟩ = some (.int .i64 x.other) ∧ w'.cell? ⟨g2, 5, none⟩ = some (.int .i64 x.amount) ∧ w'.cell? ⟨g2, 6, none⟩ = some (.slice A2 x.flows.length c2) ∧ w'.cell? ⟨g2, 7, none⟩ = some (.int .i64 x.past) ∧ w'.cell? ⟨g2, 8, none⟩ = some (.int .i64 x.down) ∧ w'.cell? ⟨g2, 9, none⟩ = some (.bool x.bad) ∧ w'.cell? ⟨g2, 10, none⟩ = some (.int .i64 x.n)))
    (first | (with_reducible exact both HWb HZb) | (with_reducible exact both HWa HZa) | (with_reducible exact both HVd.out HWd.out))
    (first
      | (go_at_call 20; refine (from_any x.kind x.id x.ek x.loan x.other x.amount x.past x.down x.n x.bad A1 c1 x.flows W4.drew HFd.out (by omega)).mono ?_; rintro e w5 ⟨A5, c5, rfl, hN5, hb5'⟩; have hb5 := below_undrew hb5'; have HWa := HV3.out.below hb5 hwl; have HZa := HW3.out.below hb5 hzl; have HF5 := HG3.out.below hb5)
      | (go_at_call 19; refine (same24 x x A5 A2 c5 c2 true w5 hN5.src HF5.src (by omega) (by omega) (by simp)).mono ?_; rintro e w6 ⟨rfl, hb6⟩; have HWb := HWa.below hb6 HWa.lt; have HZb := HZa.below hb6 HZa.lt))
  have hb46 := hb5.trans (hb6.mono hb5.size)
  have HL5 := Lib.hid (HL3.out.trans (hb46.mono HL3.out.size))
  go_wp2_with fail
  go_ret
  exact ⟨rfl, HL5.out⟩
end Go.Proofs.YtdmopagkahgepaaDoor
