/- Maps from int to int64 as functions; trial.New, counter.count, Trial.Net. -/
import Derived.Test.YtdmopagkahgepaaDoorTa
import Derived.Maps.OwnOps
import Derived.Maps.Ext
import Derived.Maps.RangeWalk
import Derived.Deep.QuietTactic
import Derived.BigQuiet
namespace Go.Proofs.YtdmopagkahgepaaDoor
open Go.RowKit Go.Maps

theorem lawInt : Keyed Tryd.prog 3 := int_keyed Tryd.underlying3
theorem zero2 (w : World) : (zeroValue 2).run Tryd.prog w = .ok (.int .i64 0) w := by kernel_rfl

/-- A number of Go's type int. -/
def Fits (x : Int) : Prop := -9223372036854775808 ≤ x ∧ x ≤ 9223372036854775807
theorem fits_wf {x : Int} (h : Fits x) : (Lit.int .i64 x).wf = true := WalkArith.wf_i64 h
theorem wf_fits {x : Int} (h : (Lit.int .i64 x).wf = true) : Fits x := by
  simp only [Lit.wf, Bool.and_eq_true, decide_eq_true_eq] at h
  exact h

/-- Block b is a map of at most n entries whose keys are those of h; at each the number f. -/
def Counts (w : World) (b n : Nat) (h : Int → Bool) (f : Int → Int) : Prop :=
  ∃ D : DataW Unit, w.ownsMap Tryd.prog 3 (plainElem Tryd.prog 2) b n D ∧ (∀ k, has D (.int .i64 k) = h k) ∧ (∀ k, D.atKey (.int .i64 k) (.lit (.int .i64 0)) = .lit (.int .i64 (f k)))

section
variable {w w' : World} {b n : Nat} {h : Int → Bool} {f : Int → Int}
theorem Counts.lt (H : Counts w b n h f) : b < w.heap.size := by obtain ⟨D, hD, _⟩ := H; exact hD.lt
theorem Counts.kept {row : Option Nat} (H : Counts w b n h f) (hg : w.grownBy w' row) (hne : some b ≠ row) : Counts w' b n h f := by
  obtain ⟨D, hD, r⟩ := H
  exact ⟨D, hD.kept hg hne, r⟩
theorem Counts.alloc (H : Counts w b n h f) (o : Obj) : Counts (w.alloc o) b n h f := H.kept (World.grownBy_alloc w o none) (by simp)
theorem Counts.drew (H : Counts w b n h f) : Counts w.drew b n h f := H
theorem Counts.below {B : Nat} (H : Counts w b n h f) (hb : Below B w w') (hB : b < B) : Counts w' b n h f := by
  obtain ⟨D, ⟨es, clock, e, r⟩, q⟩ := H
  exact ⟨D, ⟨es, clock, (hb.block b hB).trans e, r⟩, q⟩
theorem Counts.setCell (H : Counts w b n h f) {a : Addr} (ha : b ≠ a.block) (u : Value) : Counts (w.setCell a u) b n h f := by
  obtain ⟨D, hD, r⟩ := H
  exact ⟨D, hD.setCell ha u, r⟩
theorem Counts.drewN (H : Counts w b n h f) (m : Nat) : Counts (w.drewN m) b n h f := H
theorem Counts.look (H : Counts w b n h f) {k : Int} (hk : Fits k) : (Instr.lookup 74 (.map (some b)) (.int .i64 k) false).run Tryd.prog w = .ok (.int .i64 (f k)) w := by
  obtain ⟨D, ho, _, hf⟩ := H
  obtain ⟨x, r, h1, _⟩ := ho.lookup_int lawInt Tryd.underlying74 Tryd.underlying2 (zero2 _) (keyOf_int_mk Tryd.underlying3 (fits_wf hk))
  rw [hf k] at h1
  simp only [DataW.lit.injEq, Lit.int.injEq, true_and] at h1
  rw [r, h1]
theorem Counts.made (w : World) : Counts (w.alloc (.map #[] 0)) w.heap.size 0 (fun _ => false) (fun _ => 0) :=
  ⟨.map [], World.ownsMap_made _ _ _ _, fun _ => rfl, fun _ => rfl⟩
end

theorem new_any (w : World) : Calls Tryd.prog 10 #[] w fun e w' => e = .returned (.pointer (some ⟨w.heap.size + 2, 0, none⟩)) ∧
    ((w.alloc (.map #[] 0)).alloc (.map #[] 0)).alloc (.cells #[.map (some w.heap.size), .map (some (w.heap.size + 1))] 76) = w' := by
  have hmm := @run_makeMap Tryd.prog
  go_enter Tryd.func10, Tryd.ntmps10
  go_wp2
  go_ret
  exact ⟨rfl, rfl⟩

theorem count_any (b n : Nat) (h : Int → Bool) (f : Int → Int) (k x : Int) (w : World) (H : Counts w b n h f) (hn : n < 1000000) (hk : Fits k) :
    Calls Tryd.prog 31 #[.map (some b), .int .i64 k, .int .i64 x] w fun e w' => e = .returned (.tuple #[]) ∧
      Counts w' b (n + 1) (fun j => j == k || h j) (fun j => if j = k then wrap64 (f k + x) else f j) ∧ w.grownBy w' (some b) := by
  obtain ⟨D, hown, hh, hf⟩ := H
  have hkey := keyOf_int_mk Tryd.underlying3 (fits_wf hk)
  have hD := hown.isMap
  go_enter Tryd.func31, Tryd.ntmps31
  go_wp2_with (first
    | (at_lookup; refine wpList_lookup_own_int _ rfl _ _ 74 rfl 3 2 .i64 lawInt Tryd.underlying74 Tryd.underlying2 (zero2 _) b n D rfl hown _ _ rfl hkey ?_; intro c hat hwc)
    | (at_mapUpdate; refine wpList_mapUpdate_own _ rfl _ _ _ 74 rfl 3 2 lawInt Tryd.underlying74 _ b n D rfl hown (by unfold maxLen; omega) _ _ _ rfl rfl hkey _ [] (plainElem_int Tryd.underlying2 (wrap64_wf _)) ?_; intro w1 hown1 hgrow1))
  go_end0
  have hkl : WideAt.IsKeyLit (Lit.int .i64 k) := trivial
  refine ⟨rfl, ⟨_, hown1, fun j => ?_, fun j => ?_⟩, hgrow1⟩
  · by_cases e : j = k
    · subst e
      rw [has_put_same hD hkl]
      simp
    · rw [has_put_other (by simpa using e), hh j]
      simp [e]
  · by_cases e : j = k
    · subst e
      rw [atKey_put_same hD hkl]
      rw [hf j] at hat
      simp only [DataW.lit.injEq, Lit.int.injEq, true_and] at hat
      simp [hat]
    · rw [atKey_put_other (by simpa using e), hf j]
      simp [e]

/-- What a trial balance holds: which accounts were booked on; their debits, their credits. -/
structure Tri where
  has : Int → Bool
  deb : Int → Int
  cre : Int → Int

/-- A trial balance at block b: its two maps lie behind it, apart. -/
def TrialAt (w : World) (b n : Nat) (T : Tri) : Prop :=
  ∃ bd bc, Whole w b 76 #[.map (some bd), .map (some bc)] ∧ Counts w bd n T.has T.deb ∧ Counts w bc n T.has T.cre ∧ bd ≠ bc

theorem net_nil (k : Int) (w : World) : Calls Tryd.prog 14 #[.pointer none, .int .i64 k] w fun e w' => e = .returned (.int .i64 0) ∧ w = w' := by
  go_enter Tryd.func14, Tryd.ntmps14
  go_wp2
  go_ret
  exact ⟨rfl, rfl⟩

theorem net_any (b n : Nat) (T : Tri) (k : Int) (w : World) (H : TrialAt w b n T) (hk : Fits k) :
    Calls Tryd.prog 14 #[.pointer (some ⟨b, 0, none⟩), .int .i64 k] w fun e w' => e = .returned (.int .i64 (wrap64 (T.deb k - T.cre k))) ∧ ∃ m, w' = w.drewN m := by
  obtain ⟨bd, bc, hW, hd, hc, _⟩ := H
  have c0 := hW.cell 0
  have c1 := hW.cell 1
  simp only [List.getElem?_toArray, List.getElem?_cons_zero, List.getElem?_cons_succ] at c0 c1
  have r1 := fun m => (hd.drewN m).look hk
  have r2 := fun m => (hc.drewN m).look hk
  clear hW
  go_enter Tryd.func14, Tryd.ntmps14
  go_wp2_with fail
  go_quiet (fail)
  go_wp2_with fail
  go_ret
  exact ⟨rfl, _, rfl⟩
end Go.Proofs.YtdmopagkahgepaaDoor
