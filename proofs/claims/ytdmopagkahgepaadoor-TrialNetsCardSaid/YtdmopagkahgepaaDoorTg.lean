/- money.Sum. -/
import Derived.Test.YtdmopagkahgepaaDoorTf
import Derived.Laws.Externs
import Derived.Lib.SmallJoins
namespace Go.Proofs.YtdmopagkahgepaaDoor
open Go.RowKit Go.Maps

/-- A slice of int64 that reads as xs, at the head of a block. -/
def NumsAt (w : World) (v : Value) (xs : List Int) : Prop :=
  ∃ A c, v = .slice A xs.length c ∧ ∀ i, i < xs.length → ∃ g, A = some ⟨g, 0, none⟩ ∧ g < w.heap.size ∧ w.cell? ⟨g, i, none⟩ = some (.int .i64 (xs[i]?.getD 0))
theorem NumsAt.keeps {w w' : World} {v : Value} {xs : List Int} (h : NumsAt w v xs) (hk : KeepsCells w w') : NumsAt w' v xs := by
  obtain ⟨A, c, e, h⟩ := h
  refine ⟨A, c, e, fun i hi => ?_⟩
  obtain ⟨g, eg, hg, c0⟩ := h i hi
  exact ⟨g, eg, Nat.lt_of_lt_of_le hg hk.size, hk.cell c0⟩
theorem NumsAt.of_owns {w : World} {B : Nat} {e : TypeId} {v : Value} {xs : List Int} (h : w.ownsRow B e 1 v xs.length (xs.map (Value.int .i64))) : NumsAt w v xs := by
  rcases Go.Joins.ownsRow_forms h with ⟨rfl, h0⟩ | ⟨g, cap, rfl⟩
  · exact ⟨none, 0, by rw [h0], fun i hi => by omega⟩
  · refine ⟨_, cap, rfl, fun i hi => ⟨g, rfl, ?_, ?_⟩⟩
    · rcases h.2 with ⟨e, _⟩ | ⟨g', cap', cur, e, _, hh, _⟩
      · cases e
      · cases e
        exact (Array.getElem?_eq_some_iff.1 hh).1
    · have := h.cellAt i (by omega)
      rw [this]
      simp [List.getElem?_eq_getElem hi]

def numOk (x : Int) : Bool := decide (-1125899906842624 ≤ x) && decide (x ≤ 1125899906842624)
theorem sum_bd (xs : List Int) (h : xs.all numOk = true) : -(1125899906842624 * (xs.length : Int)) ≤ xs.sum ∧ xs.sum ≤ 1125899906842624 * (xs.length : Int) := by
  induction xs with
  | nil => simp
  | cons x xs ih =>
    simp only [List.all_cons, Bool.and_eq_true] at h
    have := ih h.2
    have h1 := h.1
    simp only [numOk, Bool.and_eq_true, decide_eq_true_eq] at h1
    simp only [List.sum_cons, List.length_cons, Int.natCast_add]
    omega
theorem add64_at (x y : Int) (hx : 0 ≤ x) (hy : 0 ≤ y) (w : World) :
    (callFunc 61 #[.int .u64 x, .int .u64 y, .int .u64 0]).run Tryd.prog w =
      .ok (.value (.tuple #[.int .u64 ((x + y) % 18446744073709551616), .int .u64 ((x + y) / 18446744073709551616)])) w := by
  rw [run_callFunc_extern Tryd.func61 (by kernel_rfl) (by kernel_rfl) (by kernel_rfl) (e := add64Entry) (by kernel_rfl), run_add64 x y 0 hx hy (by omega) (by omega)]
  simp [Result.andThen]

theorem wrap_lo (S : Int) (h : -4611686018427387904 ≤ S) (h' : S ≤ 4611686018427387904) : wrap64 (S % 18446744073709551616) = S := by
  unfold wrap64
  omega
theorem told_any (n : Int) (b : Bool) (w : World) : Calls Tryd.prog 62 #[.int .i64 n, .bool b] w fun e w' => e = .returned (.tuple #[.int .i64 (if b then n else 0), .int .i64 (if b then 0 else 3)]) ∧ w' = w := by
  cases b
  · go_enter Tryd.func62, Tryd.ntmps62
    go_wp2_with fail
    exact bodyPost_ret (by simp [results, Tryd.results62, go_sem]) rfl ⟨rfl, rfl⟩
  · go_enter Tryd.func62, Tryd.ntmps62
    go_wp2_with fail
    exact bodyPost_ret (by simp [results, Tryd.results62, go_sem]) rfl ⟨rfl, rfl⟩

set_option maxRecDepth 100000 in
/-- How far money.Sum is: the sum, in two words. -/
theorem Sum_any (v : Value) (xs : List Int) (w : World) (hx : NumsAt w v xs) (hn : xs.length ≤ 4000) (hok : xs.all numOk = true) :
    Calls Tryd.prog 34 #[v] w fun e w' => e = .returned (.tuple #[.int .i64 xs.sum, .int .i64 0]) ∧ w' = w := by
  obtain ⟨A, c, rfl, hx⟩ := hx
  have HOK := Lib.hid hok
  clear hok
  generalize hlx : xs.length = n at hx hn ⊢
  go_enter Tryd.func34, Tryd.ntmps34
  go_wp2_with fail
  go_loopw [4, 5, 12] (fun l h i wr => ∃ k : Nat, k ≤ n ∧ i = .int .i64 k ∧ l = .int .u64 ((xs.take k).sum % 18446744073709551616) ∧ h = .int .i64 ((xs.take k).sum / 18446744073709551616) ∧ wr = w) (fun _ _ i _ => n - (RowKit.intOf i).toNat)
  case atStart => exact ⟨0, by omega, rfl, rfl, rfl, rfl⟩
  case round =>
    obtain ⟨k, hk, rfl, rfl, rfl, rfl⟩ := hrel
    have hbk := sum_bd (xs.take k) (all_take HOK.out k)
    rw [List.length_take] at hbk
    by_cases hlt : k < n
    · obtain ⟨g, rfl, hg, c0⟩ := hx k hlt
      have hnx := take_next xs k (by omega) 0
      have hlo : numOk (xs[k]?.getD 0) = true := all_get HOK.out (by omega) _
      generalize xs[k]?.getD 0 = x at c0 hnx hlo
      simp only [numOk, Bool.and_eq_true, decide_eq_true_eq] at hlo
      have HX := Lib.hid hnx
      clear hnx hx
      have hsx : (xs.take (k + 1)).sum = (xs.take k).sum + x := by rw [HX.out]; simp
      have HSX := Lib.hid hsx
      clear hsx
      generalize (xs.take k).sum = S at hbk HSX
      have h0 : 0 ≤ S % 18446744073709551616 := by omega
      have h1 : 0 ≤ x % 18446744073709551616 := by omega
      have h2 : IntKind.u64.wrap x = x % 18446744073709551616 := by simp [IntKind.wrap, IntKind.bits, IntKind.signed]
      go_wp2_with fail
      rw [add64_at _ _ h0 h1]
      go_wp2_with fail
      refine ⟨⟨k + 1, by omega, by go_num, ?_, ?_, trivial⟩, by simp [RowKit.intOf]; omega⟩
      · rw [HSX.out]
      · rw [HSX.out]
        congr 1
        omega
    · obtain rfl : n = k := by omega
      rw [List.take_of_length_le (by omega)] at hbk
      have hb : xs.sum / 18446744073709551616 == wrap64 (xs.sum % 18446744073709551616) / 9223372036854775808 := by
        rw [wrap_lo _ (by omega) (by omega), beq_iff_eq]
        omega
      have htk : xs.take n = xs := List.take_of_length_le (by omega)
      go_wp2_with fail
      rw [htk, wrap_lo _ (by omega) (by omega)]
      refine (told_any _ _ _).mono ?_
      rintro e w' ⟨rfl, rfl⟩
      go_wp2_with fail
      exact bodyPost_ret (by simp [results, Tryd.results34, go_sem]) rfl ⟨rfl, rfl⟩
end Go.Proofs.YtdmopagkahgepaaDoor
