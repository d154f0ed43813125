/- The plain law: an account's Net is the sum of what was booked on it. -/
import Derived.Test.YtdmopagkahgepaaDoorTo
namespace Go.Proofs.YtdmopagkahgepaaDoor
open Go.RowKit Go.Maps Go.ChangeMaps Go.ChangeShapes

/-- One list of lines is added: the trial balance, and the lines that were booked. -/
def stepT (s : Tri × List (Int × Int)) (xs : List (Int × Int)) : Tri × List (Int × Int) := (addRes s.1 xs, if addErr s.1 xs = 0 then s.2 ++ xs else s.2)
def runT (xss : List (List (Int × Int))) : Tri × List (Int × Int) := xss.foldl stepT (T0, [])
theorem runT_snoc (xss : List (List (Int × Int))) (xs : List (Int × Int)) : runT (xss ++ [xs]) = stepT (runT xss) xs := by simp [runT]

structure RunOk (s : Tri × List (Int × Int)) (n : Nat) : Prop where
  eq : s.1 = bookL T0 s.2
  ok : s.2.all lineOk = true
  fine : Fine s.1
  bd : tot s.1.deb ≤ 2305843009213693952 ∧ tot s.1.cre = tot s.1.deb
  len : s.2.length ≤ 64 * n
theorem RunOk.start : RunOk (T0, []) 0 := ⟨rfl, rfl, T0_fine, T0_tot, Nat.le_refl _⟩
theorem addErr_check {T : Tri} {xs : List (Int × Int)} (h : addErr T xs = 0) : checkErr xs = 0 := by
  unfold addErr at h
  split at h
  · exact h
  · rename_i h1
    simpa using h1
theorem RunOk.step {s : Tri × List (Int × Int)} {n : Nat} (h : RunOk s n) (xs : List (Int × Int)) : RunOk (stepT s xs) (n + 1) := by
  obtain ⟨f, b⟩ := addRes_fine h.fine h.bd xs
  unfold stepT
  by_cases e : addErr s.1 xs = 0
  · obtain ⟨h64, _, hok, _⟩ := checkErr_ok (addErr_check e)
    refine ⟨?_, ?_, f, b, ?_⟩
    · show addRes s.1 xs = bookL T0 (if addErr s.1 xs = 0 then s.2 ++ xs else s.2)
      unfold addRes
      rw [if_pos e, if_pos e, h.eq]
      simp [bookL]
    · show (if addErr s.1 xs = 0 then s.2 ++ xs else s.2).all lineOk = true
      rw [if_pos e, List.all_append, h.ok, hok]
      rfl
    · show (if addErr s.1 xs = 0 then s.2 ++ xs else s.2).length ≤ 64 * (n + 1)
      rw [if_pos e, List.length_append]
      have := h.len
      omega
  · refine ⟨?_, ?_, f, b, ?_⟩
    · show addRes s.1 xs = bookL T0 (if addErr s.1 xs = 0 then s.2 ++ xs else s.2)
      unfold addRes
      rw [if_neg e, if_neg e, h.eq]
    · show (if addErr s.1 xs = 0 then s.2 ++ xs else s.2).all lineOk = true
      rw [if_neg e]
      exact h.ok
    · show (if addErr s.1 xs = 0 then s.2 ++ xs else s.2).length ≤ 64 * (n + 1)
      rw [if_neg e]
      have := h.len
      omega

theorem amts_cons (k : Int) (x : Int × Int) (xs : List (Int × Int)) : (amts k (x :: xs)).sum = (if k = x.1 then x.2 else 0) + (amts k xs).sum := by
  unfold amts
  rw [List.filter_cons]
  by_cases h : k = x.1
  · simp [h]
  · have : (x.1 == k) = false := by simpa using fun e => h e.symm
    simp [h, this]
theorem net_sum (k : Int) : ∀ (xs : List (Int × Int)) (T : Tri), (bookL T xs).deb k - (bookL T xs).cre k = T.deb k - T.cre k + (amts k xs).sum
  | [], T => by simp [bookL, amts]
  | x :: xs, T => by
    have h := net_sum k xs (book1 T x)
    have e : bookL T (x :: xs) = bookL (book1 T x) xs := rfl
    rw [e, h, amts_cons]
    have hd : (book1 T x).deb k = if k = x.1 then T.deb x.1 + max x.2 0 else T.deb k := rfl
    have hc : (book1 T x).cre k = if k = x.1 then T.cre x.1 + max (-x.2) 0 else T.cre k := rfl
    rw [hd, hc]
    by_cases hk : k = x.1
    · simp only [if_pos hk]
      rw [hk]
      omega
    · simp only [if_neg hk]
      omega
theorem RunOk.net {s : Tri × List (Int × Int)} {n : Nat} (h : RunOk s n) (k : Int) : s.1.deb k - s.1.cre k = (amts k s.2).sum := by
  rw [h.eq, net_sum]
  simp [T0]

/-- How many accounts have a Net. -/
def netCount (T : Tri) (ks : List Int) : Nat := (ks.filter fun k => T.deb k - T.cre k != 0).length
theorem netCount_snoc (T : Tri) (ks : List Int) (k : Int) : netCount T (ks ++ [k]) = netCount T ks + if T.deb k - T.cre k = 0 then 0 else 1 := by
  unfold netCount
  rw [List.filter_append, List.length_append]
  by_cases h : T.deb k - T.cre k = 0
  · simp [h]
  · have : (T.deb k - T.cre k != 0) = true := by simp [h]
    simp [this, h]
theorem RunOk.count {s : Tri × List (Int × Int)} {n : Nat} (h : RunOk s n) : netCount s.1 (keysOf s.1.has) = (netL s.2).length := by
  unfold netCount keysOf netL netOf
  rw [List.filter_filter, show ([1, 2, 3, 4, 5, 6, 7] : List Int) = seven from rfl, List.filter_map, List.length_map]
  congr 1
  refine List.filter_congr fun k _ => ?_
  rw [h.net]
  show ((amts k s.2).sum != 0 && s.1.has k) = ((amts k s.2).sum != 0)
  cases hk : s.1.has k
  · have := h.fine.none k hk
    have hz := h.net k
    rw [this.1, this.2] at hz
    rw [← hz]
    rfl
  · rw [Bool.and_true]
theorem netL_mem {xs : List (Int × Int)} {p : Int × Int} (h : p ∈ netL xs) : 1 ≤ p.1 ∧ p.1 ≤ 7 ∧ p.2 = (amts p.1 xs).sum := by
  unfold netL netOf at h
  obtain ⟨h1, _⟩ := List.mem_filter.1 h
  obtain ⟨k, hk, rfl⟩ := List.mem_map.1 h1
  have := (mem_seven k).1 hk
  exact ⟨this.1, this.2, rfl⟩
end Go.Proofs.YtdmopagkahgepaaDoor
