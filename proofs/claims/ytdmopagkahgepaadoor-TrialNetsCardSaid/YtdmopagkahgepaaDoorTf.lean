/- Trial.Add. -/
import Derived.Test.YtdmopagkahgepaaDoorTe
import Derived.StillTailTactics
namespace Go.Proofs.YtdmopagkahgepaaDoor
open Go.RowKit Go.Maps
set_option linter.unusedVariables false

/-- Every block of cells lies as it lay. -/
structure KeepsCells (w w' : World) : Prop where
  size : w.heap.size ≤ w'.heap.size
  same : ∀ (g : Nat) (cs : Array Value) (t : TypeId) (fz : Nat × Nat), w.heap[g]? = some (.cells cs t fz) → w'.heap[g]? = some (.cells cs t fz)

theorem KeepsCells.refl (w : World) : KeepsCells w w := ⟨Nat.le_refl _, fun _ _ _ _ h => h⟩
theorem KeepsCells.trans {a b c : World} (h : KeepsCells a b) (k : KeepsCells b c) : KeepsCells a c := ⟨Nat.le_trans h.size k.size, fun g cs t fz e => k.same g cs t fz (h.same g cs t fz e)⟩
theorem KeepsCells.of_below {w w' : World} (h : Below w.heap.size w w') : KeepsCells w w' :=
  ⟨h.size, fun g cs t fz e => (h.block g (Array.getElem?_eq_some_iff.1 e).1).trans e⟩
theorem KeepsCells.drew {a b : World} (h : KeepsCells a b) : KeepsCells a b.drew := ⟨h.size, h.same⟩
theorem KeepsCells.of_map {w w' : World} {b n : Nat} {h : Int → Bool} {f : Int → Int} (H : Counts w b n h f) (hg : w.grownBy w' (some b)) : KeepsCells w w' :=
  ⟨hg.size, fun g cs t fz e => by
    have hne : some g ≠ some b := by
      intro e'
      simp only [Option.some.injEq] at e'
      subst e'
      obtain ⟨D, ⟨es, clock, hb, _⟩, _⟩ := H
      rw [hb] at e
      simp at e
    exact (hg.block g (Array.getElem?_eq_some_iff.1 e).1 hne).trans e⟩
theorem KeepsCells.cell {w w' : World} (h : KeepsCells w w') {p : Addr} {v : Value} (hc : w.cell? p = some v) : w'.cell? p = some v := by
  unfold World.cell? at hc ⊢
  split at hc
  · rename_i c e fz hb
    rw [h.same _ _ _ _ hb]
    exact hc
  · cases hc
theorem KeepsCells.whole {w w' : World} (h : KeepsCells w w') {g : Nat} {t : TypeId} {cs : Array Value} (hW : Whole w g t cs) : Whole w' g t cs := h.same _ _ _ _ hW
theorem LinesAt.keeps {w w' : World} {A : Option Addr} {n : Nat} {xs : List (Int × Int)} (hx : LinesAt w A n xs) (h : KeepsCells w w') : LinesAt w' A n xs :=
  ⟨hx.1, fun i hi => by
    obtain ⟨g, e, hg, c0, c1⟩ := hx.2 i hi
    exact ⟨g, e, Nat.lt_of_lt_of_le hg h.size, h.cell c0, h.cell c1⟩⟩

def posL (xs : List (Int × Int)) : Int := (xs.map (fun x => max x.2 0)).sum
def negL (xs : List (Int × Int)) : Int := (xs.map (fun x => max (-x.2) 0)).sum

theorem add_nil (A : Option Addr) (n c : Nat) (w : World) : Calls Tryd.prog 11 #[.pointer none, .slice A n c] w fun e w' => e = .returned (.int .i64 1) ∧ w = w' := by
  go_enter Tryd.func11, Tryd.ntmps11
  go_wp2_with fail
  go_ret
  exact ⟨rfl, rfl⟩

theorem posL_snoc (xs : List (Int × Int)) (x : Int × Int) : posL (xs ++ [x]) = posL xs + max x.2 0 := by simp [posL]
theorem negL_snoc (xs : List (Int × Int)) (x : Int × Int) : negL (xs ++ [x]) = negL xs + max (-x.2) 0 := by simp [negL]
theorem pos_neg (xs : List (Int × Int)) : posL xs - negL xs = sumL xs := by
  induction xs with
  | nil => rfl
  | cons x xs ih =>
    simp only [posL, negL, sumL, List.map_cons, List.sum_cons] at *
    omega
theorem posL_bd (xs : List (Int × Int)) (h : xs.all lineOk = true) : 0 ≤ posL xs ∧ posL xs ≤ 1125899906842624 * xs.length := by
  induction xs with
  | nil => simp [posL]
  | cons x xs ih =>
    simp only [List.all_cons, Bool.and_eq_true] at h
    have := lineOk_bd h.1
    have := ih h.2
    simp only [posL, List.map_cons, List.sum_cons, List.length_cons] at *
    omega
theorem negL_bd (xs : List (Int × Int)) (h : xs.all lineOk = true) : 0 ≤ negL xs ∧ negL xs ≤ 1125899906842624 * xs.length := by
  induction xs with
  | nil => simp [negL]
  | cons x xs ih =>
    simp only [List.all_cons, Bool.and_eq_true] at h
    have := lineOk_bd h.1
    have := ih h.2
    simp only [negL, List.map_cons, List.sum_cons, List.length_cons] at *
    omega

/-- One line, booked. -/
def book1 (T : Tri) (x : Int × Int) : Tri :=
  ⟨fun j => j == x.1 || T.has j, fun j => if j = x.1 then T.deb x.1 + max x.2 0 else T.deb j, fun j => if j = x.1 then T.cre x.1 + max (-x.2) 0 else T.cre j⟩
def bookL (T : Tri) (xs : List (Int × Int)) : Tri := xs.foldl book1 T
theorem bookL_snoc (T : Tri) (xs : List (Int × Int)) (x : Int × Int) : bookL T (xs ++ [x]) = book1 (bookL T xs) x := by simp [bookL]

/-- What is held of a trial balance's numbers. -/
structure Fine (T : Tri) : Prop where
  keys : ∀ k, T.has k = true → 1 ≤ k ∧ k ≤ 7
  none : ∀ k, T.has k = false → T.deb k = 0 ∧ T.cre k = 0
  pos : ∀ k, 0 ≤ T.deb k ∧ 0 ≤ T.cre k

theorem tot_upd (f : Int → Int) (a x : Int) (h : 1 ≤ a ∧ a ≤ 7) : tot (fun j => if j = a then f a + x else f j) = tot f + x := by
  unfold tot
  obtain rfl | rfl | rfl | rfl | rfl | rfl | rfl : a = 1 ∨ a = 2 ∨ a = 3 ∨ a = 4 ∨ a = 5 ∨ a = 6 ∨ a = 7 := by omega
  all_goals (simp; try omega)

theorem tot_ge (f : Int → Int) (h : ∀ k, 0 ≤ f k) (a : Int) (ha : 1 ≤ a ∧ a ≤ 7) : f a ≤ tot f := by
  have h1 := h 1
  have h2 := h 2
  have h3 := h 3
  have h4 := h 4
  have h5 := h 5
  have h6 := h 6
  have h7 := h 7
  unfold tot
  obtain rfl | rfl | rfl | rfl | rfl | rfl | rfl : a = 1 ∨ a = 2 ∨ a = 3 ∨ a = 4 ∨ a = 5 ∨ a = 6 ∨ a = 7 := by omega
  all_goals omega

theorem Fine.book1 {T : Tri} (h : Fine T) {x : Int × Int} (hx : lineOk x = true) : Fine (book1 T x) := by
  obtain ⟨a, b, _⟩ := lineOk_bd hx
  refine ⟨fun k hk => ?_, fun k hk => ?_, fun k => ?_⟩
  · simp only [YtdmopagkahgepaaDoor.book1, Bool.or_eq_true, beq_iff_eq] at hk
    rcases hk with rfl | hk
    · exact ⟨a, b⟩
    · exact h.keys k hk
  · simp only [YtdmopagkahgepaaDoor.book1, Bool.or_eq_false_iff, beq_eq_false_iff_ne] at hk
    simp only [YtdmopagkahgepaaDoor.book1]
    rw [if_neg hk.1, if_neg hk.1]
    exact h.none k hk.2
  · have := h.pos k
    have := h.pos x.1
    simp only [YtdmopagkahgepaaDoor.book1]
    split <;> omega
theorem book1_tot (T : Tri) {x : Int × Int} (hx : lineOk x = true) : tot (book1 T x).deb = tot T.deb + max x.2 0 ∧ tot (book1 T x).cre = tot T.cre + max (-x.2) 0 := by
  obtain ⟨a, b, _⟩ := lineOk_bd hx
  exact ⟨tot_upd _ _ _ ⟨a, b⟩, tot_upd _ _ _ ⟨a, b⟩⟩
theorem bookL_fine : ∀ (xs : List (Int × Int)) (T : Tri), Fine T → xs.all lineOk = true → Fine (bookL T xs) ∧ tot (bookL T xs).deb = tot T.deb + posL xs ∧ tot (bookL T xs).cre = tot T.cre + negL xs
  | [], T, h, _ => ⟨h, by simp [bookL, posL], by simp [bookL, negL]⟩
  | x :: xs, T, h, ha => by
    simp only [List.all_cons, Bool.and_eq_true] at ha
    obtain ⟨a, b, c⟩ := bookL_fine xs (book1 T x) (h.book1 ha.1) ha.2
    obtain ⟨d, e⟩ := book1_tot T ha.1
    have q : bookL T (x :: xs) = bookL (book1 T x) xs := rfl
    have q1 : posL (x :: xs) = max x.2 0 + posL xs := by simp [posL]
    have q2 : negL (x :: xs) = max (-x.2) 0 + negL xs := by simp [negL]
    rw [q, q1, q2]
    exact ⟨a, by omega, by omega⟩

theorem Fine.seven_deb {T : Tri} (h : Fine T) (ht : tot T.deb ≤ 4611686018427387904) : Seven T.has T.deb := ⟨h.keys, fun k hk => (h.none k hk).1, fun k => (h.pos k).1, ht⟩

/-- A trial balance at block b, all its blocks from B on; at most n entries each. -/
def TrialFrom (w : World) (B b n : Nat) (T : Tri) : Prop :=
  ∃ bd bc, (B ≤ b ∧ B ≤ bd ∧ B ≤ bc ∧ bd ≠ bc) ∧ Whole w b 76 #[.map (some bd), .map (some bc)] ∧ Counts w bd n T.has T.deb ∧ Counts w bc n T.has T.cre
theorem TrialFrom.at_ {w : World} {B b n : Nat} {T : Tri} (h : TrialFrom w B b n T) : TrialAt w b n T := by
  obtain ⟨bd, bc, ⟨_, _, _, hne⟩, hW, hd, hc⟩ := h
  exact ⟨bd, bc, hW, hd, hc, hne⟩
theorem TrialFrom.below {w w' : World} {B b n : Nat} {T : Tri} (h : TrialFrom w B b n T) (hb : Below w.heap.size w w') : TrialFrom w' B b n T := by
  obtain ⟨bd, bc, hs, hW, hd, hc⟩ := h
  exact ⟨bd, bc, hs, hW.below hb hW.lt, hd.below hb hd.lt, hc.below hb hc.lt⟩

theorem Counts.more {w : World} {b n n' : Nat} {h : Int → Bool} {f : Int → Int} (H : Counts w b n h f) (hn : n ≤ n') : Counts w b n' h f := by
  obtain ⟨D, hD, r⟩ := H
  exact ⟨D, hD.mono hn, r⟩
theorem TrialFrom.more {w : World} {B b n n' : Nat} {T : Tri} (h : TrialFrom w B b n T) (hn : n ≤ n') : TrialFrom w B b n' T := by
  obtain ⟨bd, bc, hs, hW, hd, hc⟩ := h
  exact ⟨bd, bc, hs, hW, hd.more hn, hc.more hn⟩

/-- Trial.Add's answer, and what it leaves. -/
def addErr (T : Tri) (xs : List (Int × Int)) : Int := if checkErr xs ≠ 0 then checkErr xs else if 2305843009213693952 - posL xs < tot T.deb then 3 else 0
def addRes (T : Tri) (xs : List (Int × Int)) : Tri := if addErr T xs = 0 then bookL T xs else T

theorem check_zero (A : Option Addr) (c : Nat) (w : World) : Calls Tryd.prog 29 #[.slice A 0 c] w fun e w' => e = .returned (.int .i64 2) ∧ w = w' := by
  go_enter Tryd.func29, Tryd.ntmps29
  go_wp2_with fail
  go_ret
  exact ⟨rfl, rfl⟩
theorem check_all (A : Option Addr) (n c : Nat) (xs : List (Int × Int)) (w : World) (hx : LinesAt w A n xs) :
    Calls Tryd.prog 29 #[.slice A n c] w fun e w' => e = .returned (.int .i64 (checkErr xs)) ∧ Below w.heap.size w w' := by
  have hl := hx.1
  rcases Nat.eq_zero_or_pos n with h0 | h0
  · subst h0
    refine (check_zero A c w).mono ?_
    rintro e w' ⟨rfl, rfl⟩
    exact ⟨ret_int (by unfold checkErr; rw [if_neg (by omega), if_pos hl]), Below.refl _ _⟩
  · rcases Nat.lt_or_ge 64 n with h | h
    · refine (check_short A n c w h).mono ?_
      rintro e w' ⟨rfl, rfl⟩
      exact ⟨ret_int (by unfold checkErr; rw [if_pos (by omega)]), Below.refl _ _⟩
    · exact check_any A n c xs w hx h0 h

theorem add_bad (b : Nat) (A : Option Addr) (n c : Nat) (xs : List (Int × Int)) (w : World) (hx : LinesAt w A n xs) (hc : (checkErr xs != 0) = true) :
    Calls Tryd.prog 11 #[.pointer (some ⟨b, 0, none⟩), .slice A n c] w fun e w' => e = .returned (.int .i64 (checkErr xs)) ∧ Below w.heap.size w w' := by
  go_enter Tryd.func11, Tryd.ntmps11
  go_wp2_with fail
  refine (check_all A n c xs w hx).mono ?_
  rintro e w1 ⟨rfl, hb⟩
  go_wp2_with fail
  go_ret
  exact ⟨rfl, hb⟩

theorem checkErr_ok {xs : List (Int × Int)} (h : checkErr xs = 0) : xs.length ≤ 64 ∧ 0 < xs.length ∧ xs.all lineOk = true ∧ sumL xs = 0 := by
  unfold checkErr at h
  split at h
  · cases h
  split at h
  · cases h
  split at h
  · rename_i h1 h2 h3
    simp only [Bool.and_eq_true, beq_iff_eq] at h3
    exact ⟨by omega, by omega, h3.1, h3.2⟩
  · cases h

theorem all_take {α : Type} {p : α → Bool} {xs : List α} (h : xs.all p = true) (k : Nat) : (xs.take k).all p = true :=
  List.all_eq_true.2 fun x hx => List.all_eq_true.1 h x (List.mem_of_mem_take hx)
theorem all_get {α : Type} {p : α → Bool} {xs : List α} (h : xs.all p = true) {k : Nat} (hk : k < xs.length) (d : α) : p (xs[k]?.getD d) = true := by
  rw [List.getElem?_eq_getElem hk]
  exact List.all_eq_true.1 h _ (List.getElem_mem hk)

theorem Counts.to {w : World} {b n : Nat} {h h' : Int → Bool} {f f' : Int → Int} (H : Counts w b n h f) (e1 : h = h') (e2 : f = f') : Counts w b n h' f' := by rw [← e1, ← e2]; exact H
theorem step_eq (f : Int → Int) (a x p : Int) (h0 : 0 ≤ f a) (h1 : f a ≤ 2305843009213693952) (hp : p = max x 0) (hx : x ≤ 1125899906842624) :
    (fun j => if j = a then wrap64 (f a + p) else f j) = (fun j => if j = a then f a + max x 0 else f j) := by
  funext j
  split
  · rw [wrap_small (by omega) (by omega), hp]
  · rfl

def AddRel (B b nb : Nat) (T : Tri) (xs : List (Int × Int)) (w : World) (k : Nat) (wr : World) : Prop :=
  TrialFrom wr B b (nb + k) (bookL T (xs.take k)) ∧ Below B w wr ∧ KeepsCells w wr

theorem posneg_take {T : Tri} {xs : List (Int × Int)} (hok : xs.all lineOk = true) (hs : sumL xs = 0) (hle : tot T.deb ≤ 2305843009213693952 - posL xs) (k : Nat) :
    tot T.deb + posL (xs.take k) ≤ 2305843009213693952 ∧ tot T.deb + negL (xs.take k) ≤ 2305843009213693952 := by
  have h := pos_neg xs
  have p : posL (xs.take k ++ xs.drop k) = posL (xs.take k) + posL (xs.drop k) := by simp [posL, -List.take_append_drop]
  have q : negL (xs.take k ++ xs.drop k) = negL (xs.take k) + negL (xs.drop k) := by simp [negL, -List.take_append_drop]
  rw [List.take_append_drop] at p q
  have hd : (xs.drop k).all lineOk = true := List.all_eq_true.2 fun x hx => List.all_eq_true.1 hok x (List.mem_of_mem_drop hx)
  have := posL_bd _ hd
  have := negL_bd _ hd
  omega

theorem add_step {B b nb k bd bc : Nat} {T : Tri} {xs : List (Int × Int)} {x : Int × Int} {w we : World} {p q : Int} (hs : B ≤ b ∧ B ≤ bd ∧ B ≤ bc ∧ bd ≠ bc) (hx : xs.take (k + 1) = xs.take k ++ [x]) (hlo : lineOk x = true)
    (hf : Fine (bookL T (xs.take k)) ∧ tot (bookL T (xs.take k)).deb = tot T.deb + posL (xs.take k) ∧ tot (bookL T (xs.take k)).cre = tot T.cre + negL (xs.take k))
    (ht : tot T.deb ≤ 2305843009213693952) (hct : tot T.cre = tot T.deb) (hpn : tot T.deb + posL (xs.take k) ≤ 2305843009213693952 ∧ tot T.deb + negL (xs.take k) ≤ 2305843009213693952) (hW : Whole we b 76 #[.map (some bd), .map (some bc)])
    (hd : Counts we bd (nb + k + 1) (fun j => j == x.1 || (bookL T (xs.take k)).has j) fun j => if j = x.1 then wrap64 ((bookL T (xs.take k)).deb x.1 + p) else (bookL T (xs.take k)).deb j)
    (hc : Counts we bc (nb + k + 1) (fun j => j == x.1 || (bookL T (xs.take k)).has j) fun j => if j = x.1 then wrap64 ((bookL T (xs.take k)).cre x.1 + q) else (bookL T (xs.take k)).cre j)
    (hB : Below B w we) (hK : KeepsCells w we) (hp : p = max x.2 0) (hq : q = max (-x.2) 0) : AddRel B b nb T xs w (k + 1) we := by
  obtain ⟨hfi, h1, h2⟩ := hf
  obtain ⟨a1, a2, _, a3, a4⟩ := lineOk_bd hlo
  have g1 := tot_ge _ (fun k => (hfi.pos k).1) x.1 ⟨a1, a2⟩
  have g2 := tot_ge _ (fun k => (hfi.pos k).2) x.1 ⟨a1, a2⟩
  refine ⟨?_, hB, hK⟩
  rw [hx, bookL_snoc]
  exact ⟨bd, bc, hs, hW, hd.to rfl (step_eq _ _ _ _ (hfi.pos _).1 (by omega) hp (by omega)), hc.to rfl (step_eq _ _ _ _ (hfi.pos _).2 (by omega) hq (by omega))⟩

set_option maxRecDepth 100000 in
set_option maxHeartbeats 1000000 in
theorem add_go (B b nb : Nat) (T : Tri) (A : Option Addr) (n c : Nat) (xs : List (Int × Int)) (w : World) (hB : B ≤ w.heap.size) (H : TrialFrom w B b nb T) (hT : Fine T) (ht : tot T.deb ≤ 2305843009213693952 ∧ tot T.cre = tot T.deb) (hn : nb + 64 < 1000000)
    (hx : LinesAt w A n xs) (hc : checkErr xs = 0) :
    Calls Tryd.prog 11 #[.pointer (some ⟨b, 0, none⟩), .slice A n c] w fun e w' => e = .returned (.int .i64 (addErr T xs)) ∧ TrialFrom w' B b (nb + 64) (addRes T xs) ∧ Below B w w' ∧ KeepsCells w w' := by
  have hl := hx.1
  obtain ⟨h64, h0, hok, hsum⟩ := checkErr_ok hc
  have HC := Lib.hid hc
  have HL := Lib.hid hl
  have HOK := Lib.hid hok
  have HS := Lib.hid hsum
  rw [hl] at h64 h0
  have HT := Lib.hid ht.2
  have ht1 := ht.1
  clear hc hl hok hsum ht
  go_enter Tryd.func11, Tryd.ntmps11
  go_wp2_with fail
  refine (check_all A n c xs w hx).mono ?_
  rw [HC.out]
  rintro e w1 ⟨rfl, hb⟩
  have HB1 := Lib.hid hb
  clear hb
  go_wp2_with fail
  go_loopw [6, 20] (fun s i wr => ∃ k : Nat, k ≤ n ∧ i = .int .i64 k ∧ s = .int .i64 (posL (xs.take k)) ∧ Below w.heap.size w wr) (fun _ i _ => n - (RowKit.intOf i).toNat)
  case atStart => exact ⟨0, by omega, rfl, rfl, HB1.out⟩
  case round =>
    obtain ⟨k, hk, rfl, rfl, hB⟩ := hrel
    by_cases hlt : k < n
    · obtain ⟨g, rfl, hg, c0, c1⟩ := hx.2 k hlt
      rw [← hB.cell (p := ⟨g, _, none⟩) hg] at c0 c1
      have hnx := take_next xs k (by rw [HL.out]; exact hlt) (0, 0)
      have hlo : lineOk (xs[k]?.getD (0, 0)) = true := all_get HOK.out (by rw [HL.out]; exact hlt) _
      generalize xs[k]?.getD (0, 0) = x at c0 c1 hnx hlo
      have hbd := lineOk_bd hlo
      have hpk := posL_bd (xs.take k) (all_take HOK.out k)
      have hlen : (xs.take k).length ≤ 64 := by rw [List.length_take]; omega
      have HX := Lib.hid hnx
      have HB := Lib.hid hB
      have hb2 := hbd.2.2.2
      clear hB hx hnx hlo hbd
      go_wp2_with fail
      refine ⟨⟨k + 1, by omega, by go_num, by rw [HX.out, posL_snoc]; congr 2; split <;> omega, HB.out.alloc HB.out.size _⟩, by simp [RowKit.intOf]; omega⟩
    · obtain rfl : n = k := by omega
      have H1 := H.below (hB.mono (Nat.le_refl _))
      obtain ⟨bd, bc, hs, hW, hd, hcc⟩ := H1
      have c0 := hW.cell 0
      simp only [List.getElem?_toArray, List.getElem?_cons_zero] at c0
      have htk : xs.take n = xs := List.take_of_length_le (by rw [HL.out]; omega)
      rw [htk]
      have hpl := posL_bd xs HOK.out
      rw [HL.out] at hpl
      have HB := Lib.hid hB
      have HTK := Lib.hid htk
      clear hB htk
      go_wp2_with fail
      refine (all_any bd nb T.has T.deb wr hd (hT.seven_deb (by omega))).mono ?_
      rintro e w3 ⟨rfl, hb3⟩
      have hB4 : Below w.heap.size w w3 := HB.out.trans (hb3.mono HB.out.size)
      have H4 := H.below hB4
      go_wp2_with fail
      · go_ret
        rename_i hgt
        have he : addErr T xs = 3 := by unfold addErr; rw [HC.out, if_neg (by simp), if_pos hgt]
        refine ⟨ret_int he.symm, ?_, hB4.mono hB, KeepsCells.of_below hB4⟩
        unfold addRes
        rw [he, if_neg (by omega)]
        exact H4.more (by omega)
      · rename_i hle
        have HB4 := Lib.hid hB4
        clear hB4 hb3 hW hd hcc hs c0
        go_loopw [40] (fun i wr => ∃ k : Nat, k ≤ n ∧ i = .int .i64 k ∧ AddRel B b nb T xs w k wr) (fun i _ => n - (RowKit.intOf i).toNat)
        case atStart => exact ⟨0, by omega, rfl, H4, HB4.out.mono hB, KeepsCells.of_below HB4.out⟩
        case round =>
          obtain ⟨k, hk, rfl, hR, hBw, hKw⟩ := hrel
          by_cases hlt : k < n
          · have hxw := hx.keeps hKw
            obtain ⟨g, rfl, hg, c0, c1⟩ := hxw.2 k hlt
            have hnx := take_next xs k (by rw [HL.out]; exact hlt) (0, 0)
            have hlo : lineOk (xs[k]?.getD (0, 0)) = true := all_get HOK.out (by rw [HL.out]; exact hlt) _
            generalize xs[k]?.getD (0, 0) = x at c0 c1 hnx hlo
            obtain ⟨bd, bc, hs, hW, hd, hc⟩ := hR
            have d0 := hW.cell 0
            have d1 := hW.cell 1
            simp only [List.getElem?_toArray, List.getElem?_cons_zero, List.getElem?_cons_succ] at d0 d1
            have hbw := hW.lt
            have HX := Lib.hid hnx
            have HLO := Lib.hid hlo
            clear hnx hlo hx hxw
            go_wp2_with fail
            have hWa := Whole.new wr 35 #[.int .i64 x.1, .int .i64 x.2]
            have hda := hd.alloc (.cells #[.int .i64 x.1, .int .i64 x.2] 35)
            have hca := hc.alloc (.cells #[.int .i64 x.1, .int .i64 x.2] 35)
            have hWb := hW.alloc (.cells #[.int .i64 x.1, .int .i64 x.2] 35)
            have hBa := hBw.alloc (Nat.le_trans hB hKw.size) (.cells #[.int .i64 x.1, .int .i64 x.2] 35)
            have hKa := hKw.trans (KeepsCells.of_below ((Below.refl _ wr).alloc (Nat.le_refl _) (.cells #[.int .i64 x.1, .int .i64 x.2] 35)))
            generalize hg1 : wr.heap.size = z at hWa hbw ⊢
            generalize wr.alloc (.cells #[.int .i64 x.1, .int .i64 x.2] 35) = wa at hWa hda hca hWb hBa hKa ⊢
            clear hg1 hd hc hW d0 d1 c0 c1 hBw hKw hg
            have d0 := hWb.cell 0
            have e0 := hWa.cell 0
            have e1 := hWa.cell 1
            simp only [List.getElem?_toArray, List.getElem?_cons_zero, List.getElem?_cons_succ] at d0 e0 e1
            have hbd := (lineOk_bd HLO.out).2.2
            have hx1 : Fits x.1 := by have := lineOk_bd HLO.out; unfold Fits; omega
            have hsz : B ≤ wa.heap.size := Nat.le_trans hB hKa.size
            obtain ⟨hfk, hdk, hck⟩ := bookL_fine (xs.take k) T hT (all_take HOK.out k)
            have hx7 : 1 ≤ x.1 ∧ x.1 ≤ 7 := by have := lineOk_bd HLO.out; omega
            have HFK := Lib.hid (And.intro hfk (And.intro hdk hck))
            clear hfk hdk hck
            rcases Int.lt_or_gt_of_ne hbd.1 with hneg | hneg
            all_goals
              refine wp_region_still_tail 9 (by kernel_rfl) (by kernel_rfl) ?_
              simp only [List.take_succ_cons, List.take_zero, List.drop_succ_cons, List.drop_zero]
              change wpStill _ _ wa.drew _ _ _
              repeat still_step
              refine wpStill_nil ?_
              change wpList _ _ _ _ _ wa.drew
              go_wp2_with fail
              refine (count_any bd (nb + k) _ _ x.1 _ wa.drew hda.drew (by omega) hx1).mono ?_
              rintro e wd ⟨rfl, hdd, hgd⟩
              have hKd := KeepsCells.of_map hda.drew hgd
              have hWd := hKd.whole hWa.drew
              have hWe := hKd.whole hWb.drew
              have hcd := hca.drew.kept hgd (by simp; omega)
              have hBd := hBa.drew.grown hgd hsz (fun j hj => by cases hj; exact hs.2.1)
              have hKe := hKa.drew.trans hKd
              have d1 := hWe.cell 1
              have e0 := hWd.cell 0
              have e1 := hWd.cell 1
              simp only [List.getElem?_toArray, List.getElem?_cons_zero, List.getElem?_cons_succ] at d1 e0 e1
              clear hKd
              have hwp : IntKind.i64.wrap (-x.2) = -x.2 := IntWalk.i64_in _ (by omega)
              go_wp2_with fail
              refine wp_region_still_tail 10 (by kernel_rfl) (by kernel_rfl) ?_
              simp only [List.take_succ_cons, List.take_zero, List.drop_succ_cons, List.drop_zero]
              change wpStill _ _ wd.drew _ _ _
              repeat still_step
              refine wpStill_nil ?_
              change wpList _ _ _ _ _ wd.drew
              go_wp2_with fail
              refine (count_any bc (nb + k) _ _ x.1 _ wd.drew hcd.drew (by omega) hx1).mono ?_
              rintro e we ⟨rfl, hce, hge⟩
              have hKf := KeepsCells.of_map hcd.drew hge
              have hWf := hKf.whole hWe.drew
              have hde := hdd.drew.kept hge (by simp; omega)
              have hBe := hBd.drew.grown hge (by exact Nat.le_trans hB hKe.size) (fun j hj => by cases hj; exact hs.2.2.1)
              have hKg := hKe.drew.trans hKf
              clear hwp hKf hKe hBd hBa hKa hda hca hWa hWb hWd hWe d0 d1 e0 e1 hcd hdd hgd hge
              go_wp2_with fail
            all_goals
              have hA := add_step hs HX.out HLO.out HFK.out ht1 HT.out (posneg_take HOK.out HS.out ‹_› k) hWf hde hce hBe hKg (by omega) (by omega)
              exact ⟨⟨k + 1, by omega, by go_num, hA⟩, by simp [RowKit.intOf]; omega⟩
          · obtain rfl : n = k := by omega
            go_wp2_with fail
            go_ret
            rename_i hle2
            have he : addErr T xs = 0 := by unfold addErr; rw [HC.out, if_neg (by simp), if_neg (by omega)]
            rw [HTK.out] at hR
            refine ⟨ret_int he.symm, ?_, hBw, hKw⟩
            unfold addRes
            rw [if_pos he]
            exact hR.more (by omega)

/-- Trial.Add, at every list of lines. -/
theorem add_any (B b nb : Nat) (T : Tri) (A : Option Addr) (n c : Nat) (xs : List (Int × Int)) (w : World) (hB : B ≤ w.heap.size) (H : TrialFrom w B b nb T) (hT : Fine T) (ht : tot T.deb ≤ 2305843009213693952 ∧ tot T.cre = tot T.deb) (hn : nb + 64 < 1000000)
    (hx : LinesAt w A n xs) :
    Calls Tryd.prog 11 #[.pointer (some ⟨b, 0, none⟩), .slice A n c] w fun e w' => e = .returned (.int .i64 (addErr T xs)) ∧ TrialFrom w' B b (nb + 64) (addRes T xs) ∧ Below B w w' ∧ KeepsCells w w' := by
  by_cases hc : checkErr xs = 0
  · exact add_go B b nb T A n c xs w hB H hT ht hn hx hc
  · refine (add_bad b A n c xs w hx (by simpa using hc)).mono ?_
    rintro e w' ⟨rfl, hb⟩
    have he : addErr T xs = checkErr xs := by unfold addErr; rw [if_pos hc]
    refine ⟨ret_int he.symm, ?_, hb.mono hB, KeepsCells.of_below hb⟩
    unfold addRes
    rw [he, if_neg hc]
    exact (H.below hb).more (by omega)

theorem addRes_fine {T : Tri} (hT : Fine T) (ht : tot T.deb ≤ 2305843009213693952 ∧ tot T.cre = tot T.deb) (xs : List (Int × Int)) :
    Fine (addRes T xs) ∧ tot (addRes T xs).deb ≤ 2305843009213693952 ∧ tot (addRes T xs).cre = tot (addRes T xs).deb := by
  unfold addRes
  split
  · rename_i h
    unfold addErr at h
    split at h
    · exact absurd h ‹_›
    · rename_i h1
      have h1 : checkErr xs = 0 := by simpa using h1
      split at h
      · cases h
      · obtain ⟨_, _, hok, hs⟩ := checkErr_ok h1
        obtain ⟨a, b, c⟩ := bookL_fine xs T hT hok
        have := pos_neg xs
        exact ⟨a, by omega, by omega⟩
  · exact ⟨hT, ht⟩
end Go.Proofs.YtdmopagkahgepaaDoor
