import Derived.Test.YtdmopagkahgepaaDoorB
namespace Go.Proofs.YtdmopagkahgepaaDoor
open Go.RowKit

/-- An account's name by its number. -/
def nameOf (k : Int) : ByteArray :=
  if k = 1 then ⟨#[99, 97, 115, 104]⟩ else if k = 2 then ⟨#[108, 111, 97, 110, 115]⟩ else if k = 3 then ⟨#[97, 108, 108, 111, 119, 97, 110, 99, 101]⟩ else
  if k = 4 then ⟨#[105, 110, 99, 111, 109, 101]⟩ else if k = 5 then ⟨#[101, 102, 102, 101, 99, 116, 115]⟩ else if k = 6 then ⟨#[105, 109, 112, 97, 105, 114, 101, 100]⟩ else
  if k = 7 then ⟨#[114, 101, 99, 111, 118, 101, 114, 101, 100]⟩ else ⟨#[]⟩

theorem nameOf_none {k : Int} (h : ∀ j : Nat, j < 7 → k ≠ j + 1) : nameOf k = ⟨#[]⟩ := by
  have h0 := h 0 (by omega)
  have h1 := h 1 (by omega)
  have h2 := h 2 (by omega)
  have h3 := h 3 (by omega)
  have h4 := h 4 (by omega)
  have h5 := h 5 (by omega)
  have h6 := h 6 (by omega)
  unfold nameOf
  rw [if_neg (by omega), if_neg (by omega), if_neg (by omega), if_neg (by omega), if_neg (by omega), if_neg (by omega), if_neg (by omega)]

def accCells : Array Value := #[.int .i64 1, .string ⟨#[99, 97, 115, 104]⟩, .int .i64 2, .string ⟨#[108, 111, 97, 110, 115]⟩, .int .i64 3, .string ⟨#[97, 108, 108, 111, 119, 97, 110, 99, 101]⟩, .int .i64 4, .string ⟨#[105, 110, 99, 111, 109, 101]⟩,
  .int .i64 5, .string ⟨#[101, 102, 102, 101, 99, 116, 115]⟩, .int .i64 6, .string ⟨#[105, 109, 112, 97, 105, 114, 101, 100]⟩, .int .i64 7, .string ⟨#[114, 101, 99, 111, 118, 101, 114, 101, 100]⟩]

theorem accCells_at (n : Nat) (h : n < 7) : accCells[n * 2]? = some (.int .i64 (n + 1)) ∧ accCells[n * 2 + 1]? = some (.string (nameOf (n + 1))) := by
  match n, h with
  | 0, _ => exact ⟨rfl, rfl⟩
  | 1, _ => exact ⟨rfl, rfl⟩
  | 2, _ => exact ⟨rfl, rfl⟩
  | 3, _ => exact ⟨rfl, rfl⟩
  | 4, _ => exact ⟨rfl, rfl⟩
  | 5, _ => exact ⟨rfl, rfl⟩
  | 6, _ => exact ⟨rfl, rfl⟩

theorem accounts_any (w : World) : Calls Tryd.prog 33 #[] w fun e w' => e = .returned (.slice (some ⟨w.heap.size, 0, none⟩) 7 7) ∧ w.alloc (.cells accCells 85) = w' := by
  go_enter Tryd.func33, Tryd.ntmps33
  go_wp2
  go_ret
  exact ⟨rfl, rfl⟩

theorem byNumber_any (n s : Value) (w : World) : Calls Tryd.prog 60 #[.agg #[n, s]] w fun e w' => e = .returned n ∧ w.alloc (.cells #[n, s] 85) = w' := by
  go_enter Tryd.func60, Tryd.ntmps60
  go_wp2
  go_ret
  exact ⟨rfl, rfl⟩

def LookRel (w : World) (wr : World) : Prop := Below w.heap.size w wr ∧ w.heap.size + 1 ≤ wr.heap.size ∧ Whole wr w.heap.size 85 #[.int .i64 0, .string ⟨#[]⟩]

theorem look_any (k : Int) (b : Nat) (w : World) (hb : b < w.heap.size) (hw : Whole w b 85 accCells) :
    Calls Tryd.prog 59 #[.slice (some ⟨b, 0, none⟩) 7 7, .func (.func 60) #[] #[], .int .i64 k] w fun e w' => ∃ a, e = .returned (.agg #[.int .i64 a, .string (nameOf k)]) ∧ Below w.heap.size w w' := by
  go_enter Tryd.func59, Tryd.ntmps59
  go_wp2_with fail
  go_loopw [11] (fun i wr => ∃ n : Nat, n ≤ 7 ∧ i = .int .i64 n ∧ (∀ j : Nat, j < n → k ≠ j + 1) ∧ LookRel w wr) (fun i _ => 7 - (intOf i).toNat)
  case atStart => exact ⟨0, by omega, rfl, by omega, (Below.refl _ _).alloc (Nat.le_refl _) _, by simp, Whole.new _ _ _⟩
  case round =>
    obtain ⟨n, hn, rfl, hno, hB, hs, hW⟩ := hrel
    have d0 := hW.cell 0
    have d1 := hW.cell 1
    have f0 := hW.frozen 0
    have f1 := hW.frozen 1
    have hlt : w.heap.size < wr.heap.size := by omega
    simp only [List.getElem?_toArray, List.getElem?_cons_zero, List.getElem?_cons_succ] at d0 d1
    by_cases h7 : n < 7
    · have hwr : Whole wr b 85 accCells := hw.below hB hb
      obtain ⟨e0, e1⟩ := accCells_at n h7
      have c0 := (hwr.cell (n * 2)).trans e0
      have c1 := (hwr.cell (n * 2 + 1)).trans e1
      have H0 := Lib.hid hno
      clear hno e0 e1
      by_cases hk : k = n + 1
      · have hk' : ((n : Int) + 1 == k) = true := by simp [hk]
        have Hk := Lib.hid hk
        clear hk
        go_wp2_with (go_at_call 60; refine (byNumber_any _ _ _).mono ?_; rintro e w' ⟨rfl, rfl⟩)
        obtain hk2 := Hk.out
        refine bodyPost_ret (v := .agg #[.int .i64 (n + 1), .string (nameOf (n + 1))]) (by simp [results, Tryd.results59, go_sem, d0, d1, hlt]) rfl ⟨_, by rw [hk2], ?_⟩
        exact (((hB.setCell (p := ⟨w.heap.size, 0, none⟩) (Nat.le_refl _) _).setCell (p := ⟨w.heap.size, 1, none⟩) (Nat.le_refl _) _).alloc (by simp; omega) _).alloc (by simp; omega) _
      · have hk' : ((n : Int) + 1 == k) = false := by simp; omega
        have Hk := Lib.hid hk
        clear hk
        go_wp2_with (go_at_call 60; refine (byNumber_any _ _ _).mono ?_; rintro e w' ⟨rfl, rfl⟩)
        refine ⟨⟨n + 1, by omega, by go_num, ?_, (hB.alloc (by omega) _).alloc (by simp; omega) _, by simp; omega, (hW.alloc _).alloc _⟩, by simp [intOf]; omega⟩
        intro j hj
        have := Hk.out
        rcases Nat.lt_or_ge j n with h | h
        · exact H0.out j h
        · have : j = n := by omega
          subst this
          assumption
    · have H0 := Lib.hid hno
      clear hno
      go_wp2_with fail
      obtain rfl : n = 7 := by omega
      have hk : nameOf k = ⟨#[]⟩ := nameOf_none H0.out
      refine bodyPost_ret (v := .agg #[.int .i64 0, .string ⟨#[]⟩]) (by simp [results, Tryd.results59, go_sem, d0, d1]) rfl ⟨_, by rw [hk], ?_⟩
      exact (hB.setCell (p := ⟨w.heap.size, 0, none⟩) (Nat.le_refl _) _).setCell (p := ⟨w.heap.size, 1, none⟩) (Nat.le_refl _) _

@[go_sem] theorem field85_0 (a b : Value) (w : World) : (Instr.field 85 (.agg #[a, b]) 0).run Tryd.prog w = .ok a w := by kernel_rfl
@[go_sem] theorem field85_1 (a b : Value) (w : World) : (Instr.field 85 (.agg #[a, b]) 1).run Tryd.prog w = .ok b w := by kernel_rfl

theorem name_any (k : Int) (w : World) : Calls Tryd.prog 32 #[.int .i64 k] w fun e w' => e = .returned (.string (nameOf k)) ∧ Below w.heap.size w w' := by
  go_enter Tryd.func32, Tryd.ntmps32
  go_wp2_with (first
    | (go_at_call 33; refine (accounts_any _).mono ?_; rintro e w' ⟨rfl, rfl⟩; have hwh := Whole.new w 85 accCells)
    | (go_at_call 59; refine (look_any k w.heap.size (w.alloc (.cells accCells 85)) (by simp) hwh).mono ?_; rintro e w' ⟨a, rfl, hb⟩))
  go_ret
  exact ⟨rfl, ((Below.refl _ w).alloc (Nat.le_refl _) _).trans (hb.mono (by simp))⟩
end Go.Proofs.YtdmopagkahgepaaDoor
