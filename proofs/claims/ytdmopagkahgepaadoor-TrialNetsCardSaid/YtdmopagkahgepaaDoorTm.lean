/- Trial.Text. -/
import Derived.Test.YtdmopagkahgepaaDoorTl
import Derived.Lib.ItoaLen
import Derived.Lib.AppendIntMem
namespace Go.Proofs.YtdmopagkahgepaaDoor
open Go.RowKit Go.Maps Go.ChangeMaps Go.ChangeShapes

/-- strconv's table is laid. -/
def Pow (w : World) : Prop := Lib.TabIs Tryd.prog w "internal/strconv.uint64pow10" .u64 Lib.pow10Tab
theorem var_below {w w' : World} {B : Nat} {n : String} {cs : Array Value} (h : w.var? Tryd.prog n = some cs) (hb : Below B w w') (hB : w.heap.size ≤ B) : w'.var? Tryd.prog n = some cs := by
  have h' := h
  unfold World.var? at h'
  obtain ⟨g, hg, _⟩ := Option.bind_eq_some_iff.1 h'
  exact Go.Joins.var_stays hg h hb hB
theorem Pow.below {w w' : World} {B : Nat} (h : Pow w) (hb : Below B w w') (hB : w.heap.size ≤ B) : Pow w' := var_below h hb hB

theorem builder_below {w w' : World} {B b : Nat} {bs : List Value} (h : Lib.IsBuilder 118 5 B b bs w) (hb : Below w.heap.size w w') : Lib.IsBuilder 118 5 B b bs w' := by
  have go : ∀ p, Lib.BuilderAt 118 5 B b p bs w → Lib.BuilderAt 118 5 B b p bs w' := fun p hp => by
    have hlt := hp.lt
    obtain ⟨hB, v, hh, ho, hne⟩ := hp
    exact ⟨hB, v, (hb.block b hlt).trans hh, ho.kept (row := none) ⟨hb.os, hb.tape, hb.output, hb.size, fun j hj _ => hb.block j hj⟩ (by cases v.ownBlock <;> simp), hne⟩
  exact h.imp (go _) (go _)
theorem builder_new (w : World) : Lib.IsBuilder 118 5 w.heap.size w.heap.size [] (w.alloc (.cells #[.pointer none, .slice none 0 0] 118)) :=
  .inl ⟨Nat.le_refl _, _, Whole.new _ _ _, World.ownsRow_nil _ _ _ _, by simp [Value.ownBlock]⟩
theorem builder_heap {w : World} {B b : Nat} {bs : List Value} (h : Lib.IsBuilder 118 5 B b bs w) : ∃ cb, w.heap[b]? = some (.cells cb 118 (0, 0)) := by
  rcases h with ⟨_, v, hh, _⟩ | ⟨_, v, hh, _⟩ <;> exact ⟨_, hh⟩

/-- A row's line. -/
def rowText (T : Tri) (k : Int) : List UInt8 := (nameOf k).data.toList ++ (32 :: Lib.itoa (T.deb k)) ++ (32 :: Lib.itoa (T.cre k)) ++ (32 :: Lib.itoa (T.deb k - T.cre k)) ++ [10]
def textOf (T : Tri) (ks : List Int) : List UInt8 := ks.flatMap (rowText T)
theorem textOf_snoc (T : Tri) (ks : List Int) (k : Int) : textOf T (ks ++ [k]) = textOf T ks ++ rowText T k := by simp [textOf]

@[go_sem] theorem index134_0 (a b c : Int) (w : World) : (Instr.index 134 (.agg #[.int .i64 a, .int .i64 b, .int .i64 c]) (.int .i64 0)).run Tryd.prog w = .ok (.int .i64 a) w := by kernel_rfl
@[go_sem] theorem index134_1 (a b c : Int) (w : World) : (Instr.index 134 (.agg #[.int .i64 a, .int .i64 b, .int .i64 c]) (.int .i64 1)).run Tryd.prog w = .ok (.int .i64 b) w := by kernel_rfl
@[go_sem] theorem index134_2 (a b c : Int) (w : World) : (Instr.index 134 (.agg #[.int .i64 a, .int .i64 b, .int .i64 c]) (.int .i64 2)).run Tryd.prog w = .ok (.int .i64 c) w := by kernel_rfl

/-- Where Text stands: the builder holds l; the rows, and what lay before, are as they were. -/
structure St (w : World) (A : Option Addr) (T : Tri) (ks : List Int) (l : List UInt8) (wr : World) : Prop where
  bld : Lib.IsBuilder 118 5 w.heap.size w.heap.size (Lib.byteCells l) wr
  rows : RowsAt wr A T ks
  low : Below w.heap.size w wr
section
variable {w wr w' : World} {A : Option Addr} {T : Tri} {ks : List Int} {l : List UInt8}
theorem St.below (h : St w A T ks l wr) (hb : Below wr.heap.size wr w') : St w A T ks l w' :=
  ⟨builder_below h.bld hb, h.rows.below hb, h.low.trans (hb.mono h.low.size)⟩
theorem St.alloc (h : St w A T ks l wr) (o : Obj) : St w A T ks l (wr.alloc o) := h.below ((Below.refl _ wr).alloc (Nat.le_refl _) o)
theorem St.wrote {s : List Value} {m : List UInt8} (h : St w A T ks l wr) (hs : s = Lib.byteCells m) (hb : Lib.BuilderAt 118 5 w.heap.size w.heap.size (.pointer (some ⟨w.heap.size, 0, none⟩)) (Lib.byteCells l ++ s) w') (hB : Below w.heap.size wr w') (hk : Lib.OthersKept 5 (some w.heap.size) wr w') :
    St w A T ks (l ++ m) w' := by
  obtain ⟨cb, hc⟩ := builder_heap h.bld
  refine ⟨.inr ?_, h.rows.others hc hk, h.low.trans hB⟩
  rw [hs] at hb
  unfold Lib.byteCells at hb ⊢
  rw [List.map_append]
  exact hb
theorem others_whole {z : Nat} {cs : Array Value} {m : List Value} {B b : Nat} (hb : Lib.IsBuilder 118 5 B b m wr) (hk : Lib.OthersKept 5 (some b) wr w') (hW : Whole wr z 40 cs) : Whole w' z 40 cs := by
  obtain ⟨cb, hc⟩ := builder_heap hb
  refine hk z _ hW (fun e => ?_) (fun c fz e => ?_)
  · cases e
    unfold Whole at hW
    rw [hc] at hW
    simp at hW
  · simp at e
theorem str_st (h : St w A T ks l wr) (s : ByteArray) (hl : l.length + s.size ≤ 1000000) :
    Calls Tryd.prog 47 #[.pointer (some ⟨w.heap.size, 0, none⟩), .string s] wr fun e w' => e = .returned (.tuple #[.int .i64 s.size, .nilIface]) ∧ St w A T ks (l ++ s.data.toList) w' ∧ ∀ z cs, Whole wr z 40 cs → Whole w' z 40 cs := by
  refine (put_str w.heap.size w.heap.size _ s wr h.bld (by rw [Lib.byteCells_length]; omega) h.low.size).mono ?_
  rintro e w' ⟨rfl, h1, h2, h3⟩
  exact ⟨rfl, h.wrote rfl h1 h2 h3, fun z cs hW => others_whole h.bld h3 hW⟩
theorem byte_st (h : St w A T ks l wr) (hl : l.length + 1 ≤ 1000000) :
    Calls Tryd.prog 54 #[.pointer (some ⟨w.heap.size, 0, none⟩), .int .u8 10] wr fun e w' => e = .returned .nilIface ∧ St w A T ks (l ++ [10]) w' := by
  refine (put_byte w.heap.size w.heap.size _ 10 wr h.bld (by rw [Lib.byteCells_length]; omega) h.low.size).mono ?_
  rintro e w' ⟨rfl, h1, h2, h3⟩
  exact ⟨rfl, h.wrote rfl h1 h2 h3⟩
theorem fmt_st (h : St w A T ks l wr) (hP : Pow w) (n : Int) (hn : Fits n) :
    Calls Tryd.prog 40 #[.int .i64 n, .int .i64 10] wr fun e w' => e = .returned (.string ⟨(Lib.itoa n).toArray⟩) ∧ St w A T ks l w' := by
  refine (Tryd.strconv_FormatInt_10 n hn.1 hn.2 wr (hP.below h.low (Nat.le_refl _))).mono ?_
  rintro e w' ⟨rfl, k, os, rfl⟩
  exact ⟨rfl, h.below (Lib.below_grow _ wr (Nat.le_refl _) k os)⟩
end

theorem name_size (k : Int) (h : 1 ≤ k ∧ k ≤ 7) : (nameOf k).data.toList.length ≤ 9 := by
  obtain rfl | rfl | rfl | rfl | rfl | rfl | rfl : k = 1 ∨ k = 2 ∨ k = 3 ∨ k = 4 ∨ k = 5 ∨ k = 6 ∨ k = 7 := by omega
  all_goals (unfold nameOf; decide)
/-- The first i numbers of a row's line. -/
def numText (T : Tri) (k : Int) (i : Nat) : List UInt8 := (([T.deb k, T.cre k, T.deb k - T.cre k] : List Int).take i).flatMap (fun n => 32 :: Lib.itoa n)
theorem numText_len (T : Tri) (k : Int) (h : Fits (T.deb k) ∧ Fits (T.cre k) ∧ Fits (T.deb k - T.cre k)) (i : Nat) : (numText T k i).length ≤ 66 := by
  have h0 := Lib.itoa_length_le _ h.1.1 h.1.2
  have h1 := Lib.itoa_length_le _ h.2.1.1 h.2.1.2
  have h2 := Lib.itoa_length_le _ h.2.2.1 h.2.2.2
  unfold numText
  match i with
  | 0 => simp
  | 1 => simp; omega
  | 2 => simp; omega
  | i + 3 => simp; omega
theorem cat_bytes (l : List UInt8) : ((⟨#[32]⟩ : ByteArray) ++ ⟨l.toArray⟩).data.toList = 32 :: l := by
  rw [ByteArray.data_append]
  simp
theorem num_step (T : Tri) (k n : Int) (i : Nat) (h : ([T.deb k, T.cre k, T.deb k - T.cre k] : List Int)[i]? = some n) : numText T k (i + 1) = numText T k i ++ (32 :: Lib.itoa n) := by
  unfold numText
  rw [List.take_add_one, h]
  simp
theorem num_st {w wr : World} {A : Option Addr} {T : Tri} {ks : List Int} {p : List UInt8} {k n : Int} {i : Nat} (h : St w A T ks (p ++ numText T k i) wr) (hi : ([T.deb k, T.cre k, T.deb k - T.cre k] : List Int)[i]? = some n) (hn : Fits n) (hl : (p ++ numText T k i).length ≤ 10000) :
    Calls Tryd.prog 47 #[.pointer (some ⟨w.heap.size, 0, none⟩), .string ((⟨#[32]⟩ : ByteArray) ++ ⟨(Lib.itoa n).toArray⟩)] wr fun e w' => (∃ v, e = .returned v) ∧ St w A T ks (p ++ numText T k (i + 1)) w' := by
  have h0 := Lib.itoa_length_le _ hn.1 hn.2
  refine (str_st h _ (by rw [← ByteArray.size_data, ← Array.length_toList, cat_bytes, List.length_cons]; omega)).mono ?_
  rintro e w' ⟨rfl, hS, _⟩
  refine ⟨⟨_, rfl⟩, ?_⟩
  rw [cat_bytes, List.append_assoc, ← num_step T k n i hi] at hS
  exact hS
theorem rowText_eq (T : Tri) (k : Int) : rowText T k = (nameOf k).data.toList ++ numText T k 3 ++ [10] := by simp [rowText, numText]
theorem ret_str {a b : ByteArray} (h : a = b) : Ending.returned (.string a) = .returned (.string b) := by rw [h]

set_option maxRecDepth 100000 in
set_option maxHeartbeats 2000000 in
theorem text_any (B b nb : Nat) (T : Tri) (w : World) (hB : B ≤ w.heap.size) (H : TrialFrom w B b nb T) (hT : Fine T) (ht : tot T.deb ≤ 2305843009213693952 ∧ tot T.cre = tot T.deb) (hn : nb < 1000000) (hP : Pow w) :
    Calls Tryd.prog 28 #[.pointer (some ⟨b, 0, none⟩)] w fun e w' => e = .returned (.string ⟨(textOf T (keysOf T.has)).toArray⟩) ∧ Below w.heap.size w w' := by
  go_enter Tryd.func28, Tryd.ntmps28
  go_wp2_with fail
  have hb0 := builder_new w
  have hBa := (Below.refl w.heap.size w).alloc (Nat.le_refl _) (.cells #[.pointer none, .slice none 0 0] 118)
  have hR := rows_any B b nb T (w.alloc (.cells #[.pointer none, .slice none 0 0] 118)) (by simp; omega) (H.below hBa) hT ht hn
  refine hR.mono ?_
  rintro e w2 ⟨A, c, rfl, hR, hb⟩
  have hBld := builder_below hb0 hb
  have hB2 : Below w.heap.size w w2 := hBa.trans (hb.mono hBa.size)
  have hks : ∀ k ∈ keysOf T.has, 1 ≤ k ∧ k ≤ 7 := fun k hk => (mem_seven k).1 (List.mem_filter.1 hk).1
  have h7 : (keysOf T.has).length ≤ 7 := List.length_filter_le _ _
  clear hb hb0 hBa H
  generalize hke : keysOf T.has = ks at *
  go_wp2_with fail
  have hS : St w A T ks [] w2 := ⟨hBld, hR, hB2⟩
  clear hBld hR hB2
  go_loopw [11] (fun i wr => ∃ j : Nat, j ≤ ks.length ∧ i = .int .i64 j ∧ St w A T ks (textOf T (ks.take j)) wr ∧ (textOf T (ks.take j)).length ≤ 100 * j) (fun i _ => ks.length - (RowKit.intOf i).toNat)
  case atStart => exact ⟨0, Nat.zero_le _, rfl, hS, by simp [textOf]⟩
  case round =>
    obtain ⟨j, hj, rfl, hS, hlen⟩ := hrel
    by_cases hlt : j < ks.length
    · obtain ⟨g, cs, rfl, hW, e0, e1, e2, e3⟩ := hS.rows j hlt
      have c0 := (hW.cell _).trans e0
      have c1 := (hW.cell _).trans e1
      have c2 := (hW.cell _).trans e2
      have c3 := (hW.cell _).trans e3
      have hnx := take_next ks j hlt 0
      have hkk : 1 ≤ ks[j]?.getD 0 ∧ ks[j]?.getD 0 ≤ 7 := hks _ (by rw [List.getElem?_eq_getElem hlt]; exact List.getElem_mem hlt)
      generalize ks[j]?.getD 0 = k at c0 c1 c2 c3 hnx hkk
      have HX := Lib.hid hnx
      have hg := hW.lt
      have hnm := name_size k hkk
      have g1 := tot_ge _ (fun k => (hT.pos k).1) k hkk
      have g2 := tot_ge _ (fun k => (hT.pos k).2) k hkk
      have hpos := hT.pos k
      have hfit : Fits (T.deb k) ∧ Fits (T.cre k) ∧ Fits (T.deb k - T.cre k) := by unfold Fits; omega
      have hnl := numText_len T k hfit
      clear hnx hks e0 e1 e2 e3 hW hR g1 g2
      go_wp2_with fail
      refine (name_any k _).mono ?_
      rintro e w3 ⟨rfl, hb3⟩
      have hW3 := (Whole.new wr 40 #[.int .i64 k, .int .i64 (T.deb k), .int .i64 (T.cre k), .int .i64 (T.deb k - T.cre k)]).below hb3 (by simp)
      have hS3 := (hS.alloc (.cells #[.int .i64 k, .int .i64 (T.deb k), .int .i64 (T.cre k), .int .i64 (T.deb k - T.cre k)] 40)).below hb3
      generalize wr.heap.size = z at hW3 ⊢
      clear hb3 c0 c1 c2 c3 hg hS
      go_wp2_with fail
      refine (str_st hS3 (nameOf k) (by show _ + (nameOf k).data.size ≤ _; rw [← Array.length_toList]; omega)).mono ?_
      rintro e w4 ⟨rfl, hS4, hk4⟩
      have hW4 := hk4 _ _ hW3
      have d0 := hW4.cell 1
      have d1 := hW4.cell 2
      have d2 := hW4.cell 3
      simp only [List.getElem?_toArray, List.getElem?_cons_zero, List.getElem?_cons_succ] at d0 d1 d2
      have hz4 := hW4.lt
      clear hk4 hW3 hS3
      go_wp2_with fail
      go_loopw [26] (fun i wr => ∃ m : Nat, m ≤ 3 ∧ i = .int .i64 m ∧ St w (some ⟨g, 0, none⟩) T ks (textOf T (ks.take j) ++ (nameOf k).data.toList ++ numText T k m) wr) (fun i _ => 3 - (RowKit.intOf i).toNat)
      case atStart => exact ⟨0, by omega, rfl, by simpa [numText] using hS4⟩
      case round =>
        obtain ⟨m, hm, rfl, hSm⟩ := hrel
        clear hS4 d0 d1 d2 hW4
        obtain rfl | rfl | rfl | rfl : m = 0 ∨ m = 1 ∨ m = 2 ∨ m = 3 := by omega
        · have hl := Lib.itoa_length_le _ hfit.1.1 hfit.1.2
          have hcat : ¬ 9223372036854775807 < 1 + (Lib.itoa (T.deb k)).length := by omega
          have HL := Lib.hid hl
          clear hl
          go_wp2_with fail
          refine (fmt_st hSm hP _ hfit.1).mono ?_
          rintro e w5 ⟨rfl, hS5⟩
          go_wp2_with fail
          refine (num_st hS5 rfl hfit.1 (by have := hnl 0; simp only [List.length_append]; omega)).mono ?_
          rintro e w6 ⟨⟨v, rfl⟩, hS6⟩
          go_wp2_with fail
          exact ⟨⟨1, by omega, by go_num, hS6⟩, by simp [RowKit.intOf]⟩
        · have hl := Lib.itoa_length_le _ hfit.2.1.1 hfit.2.1.2
          have hcat : ¬ 9223372036854775807 < 1 + (Lib.itoa (T.cre k)).length := by omega
          have HL := Lib.hid hl
          clear hl
          go_wp2_with fail
          refine (fmt_st hSm hP _ hfit.2.1).mono ?_
          rintro e w5 ⟨rfl, hS5⟩
          go_wp2_with fail
          refine (num_st hS5 rfl hfit.2.1 (by have := hnl 1; simp only [List.length_append]; omega)).mono ?_
          rintro e w6 ⟨⟨v, rfl⟩, hS6⟩
          go_wp2_with fail
          exact ⟨⟨2, by omega, by go_num, hS6⟩, by simp [RowKit.intOf]⟩
        · have hl := Lib.itoa_length_le _ hfit.2.2.1 hfit.2.2.2
          have hcat : ¬ 9223372036854775807 < 1 + (Lib.itoa (T.deb k - T.cre k)).length := by omega
          have HL := Lib.hid hl
          clear hl
          go_wp2_with fail
          refine (fmt_st hSm hP _ hfit.2.2).mono ?_
          rintro e w5 ⟨rfl, hS5⟩
          go_wp2_with fail
          refine (num_st hS5 rfl hfit.2.2 (by have := hnl 2; simp only [List.length_append]; omega)).mono ?_
          rintro e w6 ⟨⟨v, rfl⟩, hS6⟩
          go_wp2_with fail
          exact ⟨⟨3, by omega, by go_num, hS6⟩, by simp [RowKit.intOf]⟩
        · go_wp2_with fail
          refine (byte_st hSm (by have := hnl 3; simp only [List.length_append]; omega)).mono ?_
          rintro e w5 ⟨rfl, hS5⟩
          have hnl3 := hnl 3
          clear hnl hSm
          go_wp2_with fail
          refine ⟨⟨j + 1, by omega, by go_num, ?_, ?_⟩, by simp [RowKit.intOf]; omega⟩
          · rw [HX.out, textOf_snoc, rowText_eq]
            simpa only [List.append_assoc] using hS5
          · rw [HX.out, textOf_snoc, rowText_eq]
            simp only [List.length_append, List.length_cons, List.length_nil]
            omega
    · obtain rfl : j = ks.length := by omega
      rw [List.take_of_length_le (Nat.le_refl _)] at hS
      go_wp2_with fail
      refine (Tryd.Builder_String_any w.heap.size w.heap.size _ wr hS.bld hS.low.size).mono ?_
      rintro e w5 ⟨rfl, hb5⟩
      go_wp2_with fail
      go_ret
      rw [hke]
      exact ⟨rfl, hS.low.trans hb5⟩
end Go.Proofs.YtdmopagkahgepaaDoor
