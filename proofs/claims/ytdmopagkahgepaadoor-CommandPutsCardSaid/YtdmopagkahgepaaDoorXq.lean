/- lombardlaw24.CommandPuts: the walk. -/
import Derived.Test.YtdmopagkahgepaaDoorXp
namespace Go.Proofs.YtdmopagkahgepaaDoor
open Go.RowKit Go.Maps Go.ChangeMaps Go.ChangeShapes

/-- What a command is put as, and the error. -/
def writtenC (c : Cmd) : ByteArray × Int := match putL c with
  | none => (⟨#[]⟩, 2)
  | some t => (⟨t.toArray⟩, 0)
theorem written_end {c : Cmd} {e : Ending} (h : PutEnd c e) : ∃ s code, writtenC c = (s, code) ∧ e = .returned (.tuple #[.string s, .int .i64 code]) := by
  rcases h with ⟨h0, rfl⟩ | ⟨t, h1, rfl⟩
  · exact ⟨_, _, by unfold writtenC; rw [h0], rfl⟩
  · exact ⟨_, _, by unfold writtenC; rw [h1], rfl⟩

set_option maxRecDepth 100000 in
set_option maxHeartbeats 8000000 in
theorem puts_any (c : Cmd) (A : Option Addr) (cap : Nat) (w : World) (hf : FlowsIn w A cap c.flows) (hn : c.flows.length ≤ 9223372036854775807) (hc : c.Fine) (h : Lay w) :
    Calls Tryd.prog 5 #[.agg #[.int .i64 c.kind, .int .i64 c.id, .int .i64 c.ek, .int .i64 c.loan, .int .i64 c.other, .int .i64 c.amount, .slice A c.flows.length cap, .int .i64 c.past, .int .i64 c.down, .bool c.bad, .int .i64 c.n]] w fun e w' => e = .returned (.bool true) ∧ Below w.heap.size w w' := by
  have hA := (Below.refl _ w).alloc (Nat.le_refl _) (.cells #[.int .i64 c.kind, .int .i64 c.id, .int .i64 c.ek, .int .i64 c.loan, .int .i64 c.other, .int .i64 c.amount, .slice A c.flows.length cap, .int .i64 c.past, .int .i64 c.down, .bool c.bad, .int .i64 c.n] 54)
  have HF0 := Lib.hid (hf.below hA)
  have HLY0 := Lib.hid (h.below hA)
  have HA0 := Lib.hid hA
  have HW0 := Lib.hid (Whole.new w 54 #[.int .i64 c.kind, .int .i64 c.id, .int .i64 c.ek, .int .i64 c.loan, .int .i64 c.other, .int .i64 c.amount, .slice A c.flows.length cap, .int .i64 c.past, .int .i64 c.down, .bool c.bad, .int .i64 c.n])
  clear hA hf h
  go_enter Tryd.func5, Tryd.ntmps5
  go_wp2_with fail
  generalize w.alloc (.cells #[.int .i64 c.kind, .int .i64 c.id, .int .i64 c.ek, .int .i64 c.loan, .int .i64 c.other, .int .i64 c.amount, .slice A c.flows.length cap, .int .i64 c.past, .int .i64 c.down, .bool c.bad, .int .i64 c.n] 54) = wa at HF0 HLY0 HA0 HW0 ⊢
  refine (alive24_any wa HLY0.out).mono ?_
  rintro e w1 ⟨rfl, hb1⟩
  have HZ1 := Lib.hid (HW0.out.below hb1 HW0.out.lt)
  have HL1 := Lib.hid (HA0.out.trans (hb1.mono HA0.out.size))
  have HF1 := Lib.hid (HF0.out.below hb1)
  have HLY1 := Lib.hid (HLY0.out.below hb1)
  have hzl := HZ1.out.lt
  obtain ⟨z0, z1, z2, z3, z4, z5, z6, z7, z8, z9, z10⟩ := elev HZ1.out
  clear hb1 HF0 HLY0 HA0 HW0
  by_cases h7 : 700 < c.flows.length
  · have h7' : (700 : Int) < (c.flows.length : Int) := by omega
    go_wp2_with fail
    go_ret
    exact ⟨rfl, HL1.out⟩
  have h7' : ¬ (700 : Int) < (c.flows.length : Int) := by omega
  go_wp2_with fail
  refine (to24_any c.kind c.id c.ek c.loan c.other c.amount c.past c.down c.n c.bad A cap c.flows w1 HF1.out (by omega)).mono ?_
  rintro e w2 ⟨A2, c2, rfl, hN2, hb2⟩
  have HL2 := Lib.hid (HL1.out.trans (hb2.mono HL1.out.size))
  have HF2 := Lib.hid (FlowsIn.of_own hN2)
  have HG2 := Lib.hid (HF1.out.below hb2)
  have HLY2 := Lib.hid (HLY1.out.below hb2)
  have HZ2 := Lib.hid (HZ1.out.below hb2 hzl)
  clear hb2 hN2 HF1 HLY1 HL1 HZ1 z0 z1 z2 z3 z4 z5 z6 z7 z8 z9 z10 hzl
  go_wp2_with fail
  refine (put_any c A2 c2 w2 HF2.out (by omega) hc HLY2.out.pow).mono ?_
  rintro e w3 ⟨hb3, hp⟩
  obtain ⟨s, code, hs, rfl⟩ := written_end hp
  have HL3 := Lib.hid (HL2.out.trans (hb3.mono HL2.out.size))
  have HG3 := Lib.hid (HG2.out.below hb3)
  have HZ3 := Lib.hid (HZ2.out.below hb3 HZ2.out.lt)
  have HS := Lib.hid hs
  have hzl := HZ3.out.lt
  obtain ⟨z0, z1, z2, z3, z4, z5, z6, z7, z8, z9, z10⟩ := elev HZ3.out
  clear hb3 hp hs HL2 HF2 HG2 HLY2 HZ2
  go_wp2_with fail
  refine (put24_any c A cap w3 HG3.out (by omega) hc).mono ?_
  rintro e w4 ⟨hb4, hp⟩
  obtain ⟨s', code', hs', rfl⟩ := written_end hp
  rw [HS.out] at hs'
  cases hs'
  have HL4 := Lib.hid (HL3.out.trans (hb4.mono HL3.out.size))
  have hbb := told_same s
  clear hb4 hp HL3 HG3 HZ3 z0 z1 z2 z3 z4 z5 z6 z7 z8 z9 z10 hzl
  go_wp2_with fail
  go_ret
  exact ⟨ret_bool (by simp), HL4.out⟩
end Go.Proofs.YtdmopagkahgepaaDoor
