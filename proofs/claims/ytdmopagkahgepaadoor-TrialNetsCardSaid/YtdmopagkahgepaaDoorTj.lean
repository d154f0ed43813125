/- slices.Sorted(maps.Keys(m)) at this dump, and Trial.Rows. -/
import Derived.Test.YtdmopagkahgepaaDoorTi
import Derived.Test.YtdmopagkahgepaaDoorS2
namespace Go.Proofs.YtdmopagkahgepaaDoor
open Go.RowKit Go.Maps Go.Sort Go.Shelf Go.ChangeMaps Go.ChangeShapes

/-- The accounts that were booked on, the least first. -/
def keysOf (h : Int → Bool) : List Int := seven.filter h

theorem seven_nodup : seven.Nodup := by decide
theorem seven_sorted : seven.Pairwise (fun a b => leI a b = true) := by unfold leI seven; decide
theorem mem_seven (x : Int) : x ∈ seven ↔ 1 ≤ x ∧ x ≤ 7 := by
  unfold seven
  simp only [List.mem_cons, List.not_mem_nil, or_false]
  omega
theorem keysOf_mem (h : Int → Bool) (x : Int) (hk : ∀ k, h k = true → 1 ≤ k ∧ k ≤ 7) : x ∈ keysOf h ↔ h x = true := by
  unfold keysOf
  rw [List.mem_filter, mem_seven]
  exact ⟨fun e => e.2, fun e => ⟨hk x e, e⟩⟩

theorem sort_keysOf (h : Int → Bool) : (keysOf h).mergeSort leI = keysOf h :=
  List.mergeSort_of_pairwise (seven_sorted.sublist List.filter_sublist)

theorem sorts_at (m : Nat) : AnyZI.SortsIn Tryd.prog Tryd.laysSorted_ren Fence.wide m :=
  ⟨fun blk off cap ss W hH hblk hsz => callsIn_wide.2 (AnyM.slices_Sort_int Tryd.laysSort blk off cap ss W hH hblk hsz),
   fun p cap W => callsIn_wide.2 (AnyM.slices_Sort_int_none Tryd.laysSort p cap W)⟩

theorem keys_any (mb : Option Nat) (w : World) : Calls Tryd.prog 36 #[.map mb] w fun e w' => e = .returned (.func (.func 65) #[] #[.pointer (some ⟨w.heap.size, 0, none⟩)]) ∧ w' = w.alloc (.cells #[.map mb] 74) :=
  (callsIn_wide (n := 5)).1 (AnyZI.keys_in Tryd.laysKeys Fence.wide 5 trivial rfl mb w)

theorem sorted_any (b n : Nat) (h : Int → Bool) (f : Int → Int) (w : World) (H : Counts w b n h f) (hn : n < 1000000) (hk : ∀ k, h k = true → 1 ≤ k ∧ k ≤ 7) :
    Calls Tryd.prog 35 #[.func (.func 65) #[] #[.pointer (some ⟨w.heap.size, 0, none⟩)]] (w.alloc (.cells #[.map (some b)] 74)) fun e w' => ∃ v, e = .returned v ∧
      w'.ownsRow (w.heap.size + 1) 3 1 v (keysOf h).length ((keysOf h).map (Value.int .i64)) ∧ Below (w.heap.size + 1) (w.alloc (.cells #[.map (some b)] 74)) w' := by
  obtain ⟨D, hown, hh, hf⟩ := H
  have hbl := hown.lt
  have hsz := hown.size_le
  have hseq : SeqGives Fence.wide 2 Tryd.prog 65 #[.pointer (some ⟨w.heap.size, 0, none⟩)] encZ (fun ss => ss.Perm (intKeys D)) (Maps.size D) (w.alloc (.cells #[.map (some b)] 74)) :=
    AnyZI.keys_gives (ρ := Tryd.laysKeys_ren) { Tryd.laysKeys with } Fence.wide _ trivial rfl (by omega) w.heap.size b n D _ (by simp) (by simp) (by
      obtain ⟨es, clock, hb, Ft, hs, hD⟩ := hown
      exact ⟨es, clock, (Below.heap_alloc _ _ b hbl).trans hb, Ft, hs, hD⟩)
  have cS := AnyZI.sorted_in Tryd.laysSorted Fence.wide 5 trivial trivial trivial trivial rfl (by omega) (sorts_at _) (enters_of Tryd.func64 (by kernel_rfl) rfl) 65 #[.pointer (some ⟨w.heap.size, 0, none⟩)] trivial (enters_of Tryd.func65 (by kernel_rfl) rfl) _ _ (by unfold maxLen; omega) (by omega) _ hseq
  change CallsIn _ _ Tryd.prog 35 _ _ _ at cS
  refine ((callsIn_wide (n := 5)).1 cS).mono ?_
  rintro e w' ⟨v, ss, rfl, hS, hrow, hnil, hb⟩
  have hperm : (keysOf h).Perm (intKeys D) := by
    obtain ⟨es, hD, hpw, _⟩ := hown.entries lawInt
    obtain ⟨es', hD', hko⟩ := hown.keysOf
    obtain rfl : es = es' := by rw [hD] at hD'; simpa using hD'
    subst hD
    refine perm_intKeys hpw (fun p hp => by obtain ⟨v, hv⟩ := hko p hp; obtain ⟨x, _, hx, _⟩ := Maps.keyOf_i64 Tryd.underlying3 hv; exact ⟨x, hx⟩) (seven_nodup.sublist List.filter_sublist) (fun x => ?_)
    rw [hh x]
    exact keysOf_mem h x hk
  have hs := mergeSort_of_perm_i (hS.trans hperm.symm)
  rw [sort_keysOf] at hs
  have hlen : ss.length = (keysOf h).length := (hS.trans hperm.symm).length_eq
  refine ⟨v, rfl, ?_, by simpa using hb⟩
  have hrow2 : w'.ownsRow (w.alloc (.cells #[.map (some b)] 74)).heap.size 3 1 v ss.length ((ss.mergeSort leI).map encZ) := hrow
  rw [hs, hlen] at hrow2
  simpa using hrow2
end Go.Proofs.YtdmopagkahgepaaDoor
