/- lombardlaw21.TrialNets: the argument, the row, the card. -/
import Derived.Test.YtdmopagkahgepaaDoorTq
import Derived.Test.YtdmopagkahgepaaDoorRows
import Derived.ProofKit
import Derived.LaidMore
import Derived.LaidSub
import Derived.OpenShut
import Derived.Stop.Joined
import Derived.Deep.SlicePairs
namespace Go.Proofs.YtdmopagkahgepaaDoor
open Go.ChangeShapes Go.WideShapes Go.ChangeAt Go.WideMaps Go.WideElems Go.RowKit

theorem own' : ownKnob Tryd.prog.godebug = none := by kernel_rfl
theorem laidOut' : laidOutB Tryd.prog = true := by kernel_rfl
theorem cells28' : Tryd.prog.cellsOf 28 = 1 := by kernel_rfl
theorem cells79' : Tryd.prog.cellsOf 79 = 2 := by kernel_rfl
theorem cells3' : Tryd.prog.cellsOf 3 = 1 := by kernel_rfl
theorem cells2' : Tryd.prog.cellsOf 2 = 1 := by kernel_rfl
theorem cells141' : Tryd.prog.cellsOf 141 = 1 := by kernel_rfl
theorem cells209' : Tryd.prog.cellsOf 209 = 20 := by kernel_rfl
theorem gPow : Tryd.prog.globalNamed "internal/strconv.uint64pow10" = some 3 := by kernel_rfl
theorem tPow : (Tryd.prog.globals[3]?).map (·.type) = some 209 := by kernel_rfl

theorem spot_none {w : World} {a : Addr} {v : Value} (h : w.cell? (a.add 0) = some v) : a.spot = none := by
  unfold World.cell? at h
  simp only [Addr.add, if_true] at h
  split at h
  · split at h
    · cases h
    · rename_i hs
      simpa using hs
  · cases h
theorem add_at {a : Addr} (h : a.spot = none) (i : Nat) : a.add i = ⟨a.block, a.off + i, none⟩ := by
  obtain ⟨b, o, s⟩ := a
  simp only at h
  subst h
  unfold Addr.add
  split
  · rename_i h0
    subst h0
    rfl
  · rfl

section
variable {H : Type} {enc : TypeId × Value → H} {w : World} {base : Nat} {held : Bool}
theorem pairs_src {fuel : Nat} {v : Value} {x : DataW H × List MemPlace} (h : DataW.trod enc Tryd.prog w base (fun _ => true) held fuel 28 [v] = some x) :
    ∃ Ai xs c, v = .slice Ai (List.length xs) c ∧ SrcAt w Ai xs.length xs := by
  rcases Deep.open_slice_pairs Tryd.underlying28 Tryd.underlying79 cells79' rfl rfl cells3' cells2' h with ⟨hcs, _⟩ | ⟨a, len, cap, m, n, V0, V1, D0, D1, P0, P1, hcs, _, hl, _, hm, _, hc⟩
  · simp only [List.cons.injEq, and_true] at hcs
    exact ⟨none, [], 0, hcs, rfl, fun i hi => absurd hi (by simp)⟩
  · simp only [List.cons.injEq, and_true] at hcs
    simp only [if_true] at hm
    subst hm
    have each : ∀ i, i < m → ∃ p : Int × Int, V0 i = .int .i64 p.1 ∧ V1 i = .int .i64 p.2 := fun i hi => by
      obtain ⟨_, _, h0, h1⟩ := hc i hi
      obtain ⟨p, e0, _, _⟩ := DataW.trod_int Tryd.underlying3 h0
      obtain ⟨q, e1, _, _⟩ := DataW.trod_int Tryd.underlying2 h1
      exact ⟨(p, q), by simpa using e0, by simpa using e1⟩
    obtain ⟨f, hf⟩ := Deep.choose_lt each
    have hlen : ((List.range len).map f).length = len := by simp
    refine ⟨some a, (List.range len).map f, m, by rw [hlen]; exact hcs, rfl, fun i hi => ?_⟩
    rw [hlen] at hi
    have hs := spot_none (by simpa using (hc 0 (by omega)).1)
    obtain ⟨c0, c1, _, _⟩ := hc i (by omega)
    rw [(hf i (by omega)).1, add_at hs] at c0
    rw [(hf i (by omega)).2, add_at hs] at c1
    have hg : ((List.range len).map f)[i]?.getD (0, 0) = f i := by simp [hi]
    rw [hg]
    refine ⟨a.block, a.off, ?_, World.block_lt_of_cell? w ⟨a.block, _, none⟩ c0, c0, c1⟩
    have := add_at hs 0
    simpa [Addr.add] using this
theorem rows_src {fuel : Nat} {v : Value} {x : DataW H × List MemPlace} (h : DataW.trod enc Tryd.prog w base (fun _ => true) held fuel 22 [v] = some x) :
    ∃ A xss c, v = .slice A (List.length xss) c ∧ xss.length ≤ maxLen ∧ Src2 w A xss.length xss := by
  rcases Deep.open_slice1 Tryd.underlying22 cells28' h with ⟨hcs, _⟩ | ⟨a, len, cap, m, n, V, D, Pl, hcs, _, hl, hml, hm, _, hc⟩
  · simp only [List.cons.injEq, and_true] at hcs
    exact ⟨none, [], 0, hcs, Nat.zero_le _, rfl, fun i hi => absurd hi (by simp)⟩
  · simp only [List.cons.injEq, and_true] at hcs
    simp only [if_true] at hm
    subst hm
    have each : ∀ i, i < m → ∃ xs : List (Int × Int), ∃ Ai c, V i = .slice Ai xs.length c ∧ SrcAt w Ai xs.length xs := fun i hi => by
      obtain ⟨Ai, xs, c, e, hs⟩ := pairs_src (hc i hi).2
      exact ⟨xs, Ai, c, e, hs⟩
    obtain ⟨f, hf⟩ := Deep.choose_lt each
    have hlen : ((List.range len).map f).length = len := by simp
    refine ⟨some a, (List.range len).map f, m, by rw [hlen]; exact hcs, by rw [hlen]; omega, rfl, fun i hi => ?_⟩
    rw [hlen] at hi
    have hs := spot_none (by simpa using (hc 0 (by omega)).1)
    obtain ⟨Ai, c, e, hsrc⟩ := hf i (by omega)
    have c0 := (hc i (by omega)).1
    rw [e, add_at hs] at c0
    have hg : ((List.range len).map f)[i]?.getD [] = f i := by simp [hi]
    rw [hg]
    refine ⟨a.block, a.off, Ai, c, ?_, World.block_lt_of_cell? w ⟨a.block, _, none⟩ c0, c0, hsrc⟩
    have := add_at hs 0
    simpa [Addr.add] using this
end

def laidT : List (String × DataW Unit) := [("math/bits.deBruijn32tab", Rows.laid_math_bits_deBruijn32tab), ("math/bits.deBruijn64tab", Rows.laid_math_bits_deBruijn64tab), ("internal/strconv.uint64pow10", Rows.laid_internal_strconv_uint64pow10)]
theorem laidT_pow : laidT.filter (fun x => x.1 == "internal/strconv.uint64pow10") = [("internal/strconv.uint64pow10", Lib.tabData .u64 Lib.pow10Tab)] := by kernel_rfl
theorem pow_of_laid {W : World} (h : laidMetH Tryd.prog laidT W) : Pow W := by
  rw [MakeChecks.laidMetH_plain _ _ _ (by kernel_rfl)] at h
  have h1 := h.filter (fun x => x.1 == "internal/strconv.uint64pow10")
  rw [laidT_pow] at h1
  exact Lib.tabIs_of_head gPow tPow Tryd.underlying209 Tryd.underlying141 cells141' cells209' h1
theorem door_met (os : Os) (args : Array Value) : laidMetH Tryd.prog laidT ((World.doorLaid Tryd.prog 400 os).forCall (fun _ _ => 0) ⟨#[], args, []⟩).memory :=
  laidMetH_of_parts3 (fuel := 8) (laidMet_of_run' 8 (by kernel_rfl) (by kernel_rfl)) (by kernel_rfl) (by kernel_rfl)
end Go.Proofs.YtdmopagkahgepaaDoor
