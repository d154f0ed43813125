/- lombardlaw24.CommandWords: the walk. -/
import Derived.Test.YtdmopagkahgepaaDoorUo
import Derived.Test.YtdmopagkahgepaaDoorUu
namespace Go.Proofs.YtdmopagkahgepaaDoor
open Go.RowKit Go.Maps Go.ChangeMaps Go.ChangeShapes

/-- Seven lines that are none. -/
def bads7 (t : List UInt8) : List ByteArray := [⟨t.toArray⟩ ++ ⟨#[32]⟩, ⟨#[32]⟩ ++ ⟨t.toArray⟩, ⟨t.toArray⟩ ++ ⟨#[32, 120]⟩, ⟨t.toArray⟩ ++ ⟨#[32, 49, 46, 48]⟩, ⟨#[120]⟩ ++ ⟨t.toArray⟩, ⟨(t.map upB).toArray⟩, ⟨t.toArray⟩ ++ ⟨#[10]⟩]
theorem bads7_none {k : Int} {l : List Int} (h : 1 ≤ k ∧ k ≤ 14) (hl : (lineOf (wordOf k) (l.map Lib.itoa)).length ≤ 16000) : ∀ x ∈ bads7 (lineOf (wordOf k) (l.map Lib.itoa)), parseL x.data.toList = none ∧ x.size ≤ 20000 := by
  have e : ∀ (a b : List UInt8), ((⟨a.toArray⟩ : ByteArray) ++ ⟨b.toArray⟩).data.toList = a ++ b := fun a b => by simp [ByteArray.data_append]
  have z : ∀ (x : ByteArray), x.size = x.data.toList.length := fun x => by simp [ByteArray.size_data]
  intro x hx
  unfold bads7 at hx
  simp only [List.mem_cons, List.not_mem_nil, or_false] at hx
  rcases hx with rfl | rfl | rfl | rfl | rfl | rfl | rfl
  · refine ⟨?_, ?_⟩
    · rw [e _ [32]]; exact bad_blank h
    · rw [z, e _ [32], List.length_append]; show _ + 1 ≤ _; omega
  · refine ⟨?_, ?_⟩
    · rw [e [32] _]; exact bad_ahead h
    · rw [z, e [32] _, List.length_append]; show 1 + _ ≤ _; omega
  · refine ⟨?_, ?_⟩
    · rw [e _ [32, 120]]; exact bad_word h (by decide) (numL_char (c := 120) (by simp) (by decide) (by decide))
    · rw [z, e _ [32, 120], List.length_append]; show _ + 2 ≤ _; omega
  · refine ⟨?_, ?_⟩
    · rw [e _ [32, 49, 46, 48]]; exact bad_word h (by decide) (numL_char (c := 46) (by simp) (by decide) (by decide))
    · rw [z, e _ [32, 49, 46, 48], List.length_append]; show _ + 4 ≤ _; omega
  · refine ⟨?_, ?_⟩
    · rw [e [120] _]; exact bad_x h
    · rw [z, e [120] _, List.length_append]; show 1 + _ ≤ _; omega
  · refine ⟨?_, ?_⟩
    · exact bad_up h
    · rw [z]; show (List.map upB _).length ≤ _; rw [List.length_map]; omega
  · refine ⟨?_, ?_⟩
    · rw [e _ [10]]; exact bad_nl h
    · rw [z, e _ [10], List.length_append]; show _ + 1 ≤ _; omega
theorem strs_of {w : World} {g : Nat} {ws : List ByteArray} (h : Whole w g 9 (ws.map Value.string).toArray) : StrsAt w g ws :=
  ⟨h.lt, fun i hi => by
    rw [h.cell i]
    simp [List.getElem?_eq_getElem hi]⟩
theorem word_itoa {ws : List ByteArray} {wd : List UInt8} {l : List Int} (h : ws.map (·.data.toList) = wd :: l.map Lib.itoa) {k : Nat} (hk : 1 ≤ k) (hl : k < ws.length) : ∃ v ∈ l, (ws.getD k ByteArray.empty).data.toList = Lib.itoa v := by
  obtain ⟨j, rfl⟩ : ∃ j, k = j + 1 := ⟨k - 1, by omega⟩
  have h1 := congrArg (·[j + 1]?) h
  simp only [List.getElem?_map, List.getElem?_cons_succ, List.getElem?_eq_getElem hl, Option.map_some] at h1
  have h2 : (l.map Lib.itoa)[j]? = some (ws[j + 1].data.toList) := by simpa using h1.symm
  rw [List.getElem?_map] at h2
  obtain ⟨v, hv, e⟩ := Option.map_eq_some_iff.1 h2
  exact ⟨v, List.mem_of_getElem? hv, by rw [List.getD_eq_getElem?_getD, List.getElem?_eq_getElem hl]; exact e.symm⟩
theorem info9' : (Tryd.prog.info? 9).map (fun i => (i.zero, i.size, i.bytes)) = some (some (.string ⟨#[]⟩), 1, 16) := by kernel_rfl
theorem strs_oneCell (ws : List ByteArray) : ∀ u ∈ ws.map Value.string, u.oneCell' = true := by
  intro u hu
  obtain ⟨s, _, rfl⟩ := List.mem_map.1 hu
  rfl
theorem set_whole {w : World} {g : Nat} {ws : List ByteArray} (h : Whole w g 9 (ws.map Value.string).toArray) (k : Nat) (y : ByteArray) : Whole (w.setCell ⟨g, k, none⟩ (.string y)) g 9 ((ws.set k y).map Value.string).toArray := by
  have := h.put k (.string y)
  rw [List.map_set]
  simpa using this
theorem own_of_strs {w : World} {g B : Nat} {ws : List ByteArray} (h : Whole w g 9 (ws.map Value.string).toArray) (hB : B ≤ g) (hm : ws.length ≤ 1000) : w.ownsRow B 9 1 (.slice (some ⟨g, 0, none⟩) ws.length ws.length) ws.length (ws.map Value.string) :=
  ⟨by simp, .inr ⟨g, ws.length, _, rfl, hB, h, Nat.le_refl _, by unfold maxLen; omega, by simp, List.take_of_length_le (by simp)⟩⟩
theorem strs_of_own {w : World} {B g n c : Nat} {ws : List ByteArray} (h : w.ownsRow B 9 1 (.slice (some ⟨g, 0, none⟩) n c) ws.length (ws.map Value.string)) : StrsAt w g ws := by
  refine ⟨(h.lt g rfl).2, fun i hi => ?_⟩
  have hc := h.cells (g := g) rfl i (.string (ws.getD i ByteArray.empty)) (by simp [List.getElem?_eq_getElem hi])
  rwa [add_zero_eq] at hc
theorem sizeAll_bound : ∀ (ws : List ByteArray) (b : Nat), (∀ x ∈ ws, x.size ≤ b) → sizeAll ws ≤ ws.length * b
  | [], b, _ => by simp [sizeAll]
  | w :: ws, b, h => by
    have h1 := sizeAll_bound ws b (fun x hx => h x (by simp [hx]))
    have h2 := h w (by simp)
    simp only [sizeAll, List.map_cons, List.sum_cons, List.length_cons, Nat.add_mul, Nat.one_mul] at h1 ⊢
    omega
theorem blank_head {c : UInt8} {l : List UInt8} (hc : (32 : UInt8) ≠ c) (h : (32 : UInt8) ∉ l) : (32 : UInt8) ∉ c :: l := by
  intro hm
  rcases List.mem_cons.1 hm with e | hm
  · exact hc e
  · exact h hm
theorem sizeAll_set : ∀ (ws : List ByteArray) (k : Nat) (y : ByteArray), sizeAll (ws.set k y) ≤ sizeAll ws + y.size
  | [], k, y => by simp [sizeAll]
  | w :: ws, 0, y => by simp only [sizeAll, List.set_cons_zero, List.map_cons, List.sum_cons]; omega
  | w :: ws, k + 1, y => by
    have := sizeAll_set ws k y
    simp only [sizeAll, List.set_cons_succ, List.map_cons, List.sum_cons] at this ⊢
    omega
theorem sizeAll_words : ∀ (ws : List ByteArray) (w : List UInt8) (r : List (List UInt8)), ws.map (·.data.toList) = w :: r → sizeAll ws ≤ (lineOf w r).length
  | [], _, _, h => by cases h
  | x :: ws, w, r, h => by
    simp only [List.map_cons, List.cons.injEq] at h
    obtain ⟨rfl, rfl⟩ := h
    unfold lineOf sizeAll
    simp only [List.map_cons, List.sum_cons, List.length_append, Array.length_toList, ByteArray.size_data]
    have : ∀ xs : List ByteArray, (xs.map (·.size)).sum ≤ ((xs.map (·.data.toList)).flatMap (32 :: ·)).length := by
      intro xs
      induction xs with
      | nil => simp
      | cons a xs ih =>
        simp only [List.map_cons, List.sum_cons, List.flatMap_cons, List.length_append, List.length_cons, Array.length_toList, ByteArray.size_data]
        omega
    have := this ws
    omega
theorem joined_short {s : ByteArray} {ws : List ByteArray} (h : ws.map (·.data.toList) = segs s.data.toList) {m k : Nat} (_hl : ws.length = m + 1) (_hk : k ≤ m) (y : ByteArray) (hs : s.size + m ≤ 19000) (hy : y.size ≤ 22) : (joined (ws.set k y) m).length ≤ 20000 := by
  obtain ⟨w, r, e, ht, _⟩ := segs_line s.data.toList
  have h1 := sizeAll_words ws w r (h.trans e)
  rw [← ht] at h1
  have h2 := sizeAll_set ws k y
  have h3 := joined_size (ws.set k y) m
  have h4 : s.data.toList.length = s.size := by simp [ByteArray.size_data]
  omega
theorem strs_new (w : World) (ws : List ByteArray) : StrsAt (w.alloc (.cells (ws.map Value.string).toArray 9)) w.heap.size ws := strs_of (Whole.new w 9 _)

set_option maxRecDepth 100000 in
set_option maxHeartbeats 8000000 in
theorem words7_any (c : Cmd) (A : Option Addr) (cap : Nat) (at_ : Int) (ha0 : 0 ≤ at_) (ha1 : at_ ≤ 255) (w : World) (hf : FlowsIn w A cap c.flows) (hn : c.flows.length ≤ 9223372036854775807) (hc : c.Fine) (h : Lay w) :
    Calls Tryd.prog 7 #[.agg #[.int .i64 c.kind, .int .i64 c.id, .int .i64 c.ek, .int .i64 c.loan, .int .i64 c.other, .int .i64 c.amount, .slice A c.flows.length cap, .int .i64 c.past, .int .i64 c.down, .bool c.bad, .int .i64 c.n], .int .u8 at_] w fun e w' => e = .returned (.bool true) ∧ Below w.heap.size w w' := by
  have hA := (Below.refl _ w).alloc (Nat.le_refl _) (.cells #[.int .i64 c.kind, .int .i64 c.id, .int .i64 c.ek, .int .i64 c.loan, .int .i64 c.other, .int .i64 c.amount, .slice A c.flows.length cap, .int .i64 c.past, .int .i64 c.down, .bool c.bad, .int .i64 c.n] 54)
  have hW := Whole.new w 54 #[.int .i64 c.kind, .int .i64 c.id, .int .i64 c.ek, .int .i64 c.loan, .int .i64 c.other, .int .i64 c.amount, .slice A c.flows.length cap, .int .i64 c.past, .int .i64 c.down, .bool c.bad, .int .i64 c.n]
  have HF0 := Lib.hid (hf.below hA)
  have HLY0 := Lib.hid (h.below hA)
  have HA0 := Lib.hid hA
  have HW0 := Lib.hid hW
  have HLYW := Lib.hid h
  clear hA hW hf h
  go_enter Tryd.func7, Tryd.ntmps7
  go_wp2_with fail
  generalize w.alloc (.cells #[.int .i64 c.kind, .int .i64 c.id, .int .i64 c.ek, .int .i64 c.loan, .int .i64 c.other, .int .i64 c.amount, .slice A c.flows.length cap, .int .i64 c.past, .int .i64 c.down, .bool c.bad, .int .i64 c.n] 54) = wa at HF0 HLY0 HA0 HW0 ⊢
  refine (alive24_any wa HLY0.out).mono ?_
  rintro e w1 ⟨rfl, hb1⟩
  have hz1 := HW0.out.below hb1 HW0.out.lt
  have hl1 := HA0.out.trans (hb1.mono HA0.out.size)
  have HF1 := Lib.hid (HF0.out.below hb1)
  have HLY1 := Lib.hid (HLY0.out.below hb1)
  have HL1 := Lib.hid hl1
  have hzl := hz1.lt
  have z0 : w1.cell? ⟨w.heap.size, 0, none⟩ = some (.int .i64 c.kind) := hz1.cell 0
  have z1 : w1.cell? ⟨w.heap.size, 1, none⟩ = some (.int .i64 c.id) := hz1.cell 1
  have z2 : w1.cell? ⟨w.heap.size, 2, none⟩ = some (.int .i64 c.ek) := hz1.cell 2
  have z3 : w1.cell? ⟨w.heap.size, 3, none⟩ = some (.int .i64 c.loan) := hz1.cell 3
  have z4 : w1.cell? ⟨w.heap.size, 4, none⟩ = some (.int .i64 c.other) := hz1.cell 4
  have z5 : w1.cell? ⟨w.heap.size, 5, none⟩ = some (.int .i64 c.amount) := hz1.cell 5
  have z6 : w1.cell? ⟨w.heap.size, 6, none⟩ = some (.slice A c.flows.length cap) := hz1.cell 6
  have z7 : w1.cell? ⟨w.heap.size, 7, none⟩ = some (.int .i64 c.past) := hz1.cell 7
  have z8 : w1.cell? ⟨w.heap.size, 8, none⟩ = some (.int .i64 c.down) := hz1.cell 8
  have z9 : w1.cell? ⟨w.heap.size, 9, none⟩ = some (.bool c.bad) := hz1.cell 9
  have z10 : w1.cell? ⟨w.heap.size, 10, none⟩ = some (.int .i64 c.n) := hz1.cell 10
  clear hl1 hb1 HF0 HLY0 HA0 HW0 hz1
  by_cases h7 : 100 < c.flows.length
  · have h7' : (100 : Int) < (c.flows.length : Int) := by omega
    go_wp2_with fail
    go_ret
    exact ⟨rfl, HL1.out⟩
  have h7' : ¬ (100 : Int) < (c.flows.length : Int) := by omega
  go_wp2_with fail
  refine (to24_any c.kind c.id c.ek c.loan c.other c.amount c.past c.down c.n c.bad A cap c.flows w1 HF1.out (by omega)).mono ?_
  rintro e w2 ⟨A2, c2, rfl, hN2, hb2⟩
  have hl2 := HL1.out.trans (hb2.mono HL1.out.size)
  have HF2 := Lib.hid (FlowsIn.of_own hN2)
  have HLY2 := Lib.hid (HLY1.out.below hb2)
  have HL2 := Lib.hid hl2
  clear hl2 hb2 hN2 HF1 HLY1 HL1 z0 z1 z2 z3 z4 z5 z6 z7 z8 z9 z10 hzl
  go_wp2_with fail
  refine (put_any c A2 c2 w2 HF2.out (by omega) hc HLY2.out.pow).mono ?_
  rintro e w3 ⟨hb3, ⟨hput, rfl⟩ | ⟨t, hput, rfl⟩⟩
  · have HL3 := Lib.hid (HL2.out.trans (hb3.mono HL2.out.size))
    clear hb3 hput HF2 HLY2 HL2
    go_wp2_with fail
    go_ret
    exact ⟨rfl, HL3.out⟩
  have hl3 := HL2.out.trans (hb3.mono HL2.out.size)
  have HLY3 := Lib.hid (HLY2.out.below hb3)
  have HL3 := Lib.hid hl3
  have hlen := put_len hc hput (by omega)
  obtain ⟨hk14, ht⟩ := put_form hput
  have HT := Lib.hid ht
  have hts : (⟨t.toArray⟩ : ByteArray).size = t.length := by rw [← ByteArray.size_data]; simp
  have HTS := Lib.hid hts
  have HSEG := Lib.hid (show (Lib.splitB ⟨#[32]⟩ 0 (Lib.countB ⟨t.toArray⟩ ⟨#[32]⟩) ⟨t.toArray⟩).map (·.data.toList) = segs t from split_segs ⟨t.toArray⟩)
  have hnl : (numsOf c).length ≤ 105 := by
    unfold numsOf
    rw [List.length_append, List.length_map]
    have := fieldsOf_len c.kind
    split <;> simp <;> omega
  clear hl3 hb3 hput HF2 HLY2 HL2 ht hts
  go_wp2_with fail
  refine (Tryd.strings_Split_shaped ⟨t.toArray⟩ ⟨#[32]⟩ w3 (HLY3.out.shape _ (Below.refl _ _)) (by rw [HTS.out]; omega) (by decide)).mono ?_
  rintro e w4 ⟨rfl, rfl⟩
  have hsl : (Lib.splitB ⟨#[32]⟩ 0 (Lib.countB ⟨t.toArray⟩ ⟨#[32]⟩) ⟨t.toArray⟩).length = Lib.countB ⟨t.toArray⟩ ⟨#[32]⟩ + 1 := Lib.splitB_all _ (by decide) 0 _ _ rfl
  generalize hws : Lib.splitB ⟨#[32]⟩ 0 (Lib.countB ⟨t.toArray⟩ ⟨#[32]⟩) ⟨t.toArray⟩ = ws at HSEG hsl ⊢
  generalize Lib.countB ⟨t.toArray⟩ ⟨#[32]⟩ = m at hsl ⊢
  have hsg : segs t = wordOf c.kind :: (numsOf c).map Lib.itoa := by
    rw [HT.out]
    exact segs_lineOf _ _ (word_blank hk14) (itoas_blank _)
  have hm : m = (numsOf c).length := by
    have := congrArg List.length (HSEG.out.trans hsg)
    simp only [List.length_map, List.length_cons] at this
    omega
  have hm5 : m ≤ 105 := by omega
  have HSL := Lib.hid hsl
  have HSG := Lib.hid hsg
  have hA4 := (Below.refl _ w3).alloc (Nat.le_refl _) (.cells (ws.map Value.string).toArray 9)
  have hW4 := Whole.new w3 9 (ws.map Value.string).toArray
  have HL4 := Lib.hid (HL3.out.alloc HL3.out.size (.cells (ws.map Value.string).toArray 9))
  have HLY4 := Lib.hid (HLY3.out.below hA4)
  have HW4 := Lib.hid hW4
  have hgw0 := HL3.out.size
  clear hws hsl hsg hm hA4 hW4 HL3 HLY3
  generalize w3.alloc (.cells (ws.map Value.string).toArray 9) = w4 at HL4 HLY4 HW4 ⊢
  have hgw : w.heap.size ≤ w3.heap.size := hgw0
  generalize w3.heap.size = g at HW4 hgw ⊢
  have hc1 : ¬ 9223372036854775807 < t.length + 1 := by omega
  have hc2 : ¬ 9223372036854775807 < 1 + t.length := by omega
  have hc3 : ¬ 9223372036854775807 < t.length + 2 := by omega
  have hc4 : ¬ 9223372036854775807 < t.length + 4 := by omega
  go_wp2_with fail
  refine (upper_any ⟨t.toArray⟩ w4 (by rw [HTS.out]; omega) (by rw [show (⟨t.toArray⟩ : ByteArray).data.toList = t from rfl, HT.out]; exact line_ascii hk14 _) (by rw [show (⟨t.toArray⟩ : ByteArray).data.toList = t from rfl, HT.out]; exact line_low hk14 _)).mono ?_
  rintro e w5 ⟨rfl, hb5⟩
  have hW5 := HW4.out.below hb5 HW4.out.lt
  have HW5 := Lib.hid hW5
  have HL5 := Lib.hid (HL4.out.trans (hb5.mono HL4.out.size))
  have HLY5 := Lib.hid (HLY4.out.below hb5)
  clear hW5 hb5 HW4 HL4 HLY4
  have hk0 : 0 ≤ at_ % ((m : Int) + 1) := Int.emod_nonneg _ (by omega)
  have hk1 : at_ % ((m : Int) + 1) < (m : Int) + 1 := Int.emod_lt_of_pos _ (by omega)
  obtain ⟨k, hk⟩ : ∃ k : Nat, at_ % ((m : Int) + 1) = k := ⟨(at_ % ((m : Int) + 1)).toNat, by omega⟩
  rw [hk] at hk0 hk1
  have hup : (⟨t.toArray⟩ : ByteArray).data.toList.map upB = t.map upB := rfl
  rw [hup]
  clear hup
  have hbad7 : ∀ x ∈ bads7 t, parseL x.data.toList = none ∧ x.size ≤ 20000 := by
    intro x hx
    rw [HT.out] at hx hlen
    exact bads7_none hk14 hlen x hx
  have hs7 : StrsAt (w5.alloc (.cells ((bads7 t).map Value.string).toArray 9)) w5.heap.size (bads7 t) := strs_new w5 (bads7 t)
  have hA5 := (Below.refl _ w5).alloc (Nat.le_refl _) (.cells ((bads7 t).map Value.string).toArray 9)
  by_cases hkp : k = 0
  · have hk' : at_ % ((m : Int) + 1) = 0 := by omega
    clear hk
    have HBAD := Lib.hid hbad7
    have HBS := Lib.hid hs7
    have HBN := Lib.hid (show (bads7 t).length = 7 from rfl)
    have HLY9 := Lib.hid (HLY5.out.below hA5)
    have HL9 := Lib.hid (HL5.out.alloc HL5.out.size (.cells ((bads7 t).map Value.string).toArray 9))
    clear hbad7 hs7 hA5
    go_wp2_with fail
    rw [hk']
    clear hk'
    change Code.wp _ _ _ _ (w5.alloc (.cells ((bads7 t).map Value.string).toArray 9))
    generalize hbs : bads7 t = bs at HBAD HBS HBN HLY9 HL9 ⊢
    generalize w5.alloc (.cells (bs.map Value.string).toArray 9) = W9 at HBS HLY9 HL9 ⊢
    generalize w5.heap.size = gb at HBS ⊢
    go_loopw [82] (fun i wr => ∃ j : Nat, j ≤ 7 ∧ i = .int .i64 j ∧ Below W9.heap.size W9 wr) (fun i _ => 7 - (RowKit.intOf i).toNat)
    case atStart => exact ⟨0, Nat.zero_le _, rfl, Below.refl _ _⟩
    case round =>
      obtain ⟨j, hj, rfl, hBr⟩ := hrel
      by_cases hlt : j < 7
      · have c0 : wr.cell? ⟨gb, j, none⟩ = some (.string (bs.getD j ByteArray.empty)) := (hBr.cell (p := ⟨gb, j, none⟩) HBS.out.1).trans (HBS.out.2 j (by rw [HBN.out]; exact hlt))
        obtain ⟨hno, hsz⟩ := HBAD.out (bs.getD j ByteArray.empty) (by rw [List.getD_eq_getElem?_getD, List.getElem?_eq_getElem (by rw [HBN.out]; exact hlt)]; exact List.getElem_mem _)
        generalize bs.getD j ByteArray.empty = x at c0 hno hsz
        have HNO := Lib.hid hno
        have hly := HLY9.out.below hBr
        have hj0 : (0 : Int) ≤ (j : Int) := by omega
        have hjl : (j : Int) < ((7 : Nat) : Int) := by omega
        have HBR := Lib.hid hBr
        clear hno hBr
        go_wp2_with fail
        refine (parse_any x wr hsz hly.pow hly.sent hly.shape).mono ?_
        rintro e w7 ⟨hb7, ⟨hp, rfl⟩ | ⟨x2, Ax, cx, hp, rfl, hN⟩⟩
        · have HB7 := Lib.hid (HBR.out.trans (hb7.mono HBR.out.size))
          clear hb7 hp c0 hly
          go_wp2_with fail
          exact ⟨⟨j + 1, by omega, by go_num, HB7.out.alloc HB7.out.size _⟩, by simp [RowKit.intOf]; omega⟩
        · rw [HNO.out] at hp
          cases hp
      · obtain rfl : j = 7 := by omega
        have HBR := Lib.hid hBr
        clear hBr hlt
        go_wp2_with fail
        go_ret
        exact ⟨rfl, HL9.out.trans (HBR.out.mono HL9.out.size)⟩
  · have hkp' : (0 : Int) < (k : Int) := by omega
    have hkm : k ≤ m := by omega
    obtain ⟨v, hv, hxv⟩ := word_itoa (HSEG.out.trans HSG.out) (k := k) (by omega) (by rw [HSL.out]; omega)
    have hvl := Lib.itoa_length_le v (hc.nums v hv).1 (hc.nums v hv).2
    have cw : w5.cell? ⟨g, k, none⟩ = some (.string (ws.getD k ByteArray.empty)) := (strs_of HW5.out).2 k (by rw [HSL.out]; omega)
    have wf : w5.frozen? ⟨g, k, none⟩ = false := HW5.out.frozen k
    have hg5 : g < w5.heap.size := HW5.out.lt
    have hxs : (ws.getD k ByteArray.empty).size ≤ 21 := by
      rw [← ByteArray.size_data, ← Array.length_toList, hxv]
      omega
    generalize hx : ws.getD k ByteArray.empty = x at cw hxs hxv
    have HXV := Lib.hid hxv
    have HX := Lib.hid hx
    have hxc : ¬ 9223372036854775807 < 1 + x.size := by omega
    clear hx hxv
    have hwsz : ∀ q ∈ ws, q.size ≤ 16000 := by
      intro q hq
      obtain ⟨i, hi, rfl⟩ := List.getElem_of_mem hq
      have := word_size (s := ⟨t.toArray⟩) HSEG.out hi
      rw [HTS.out, List.getD_eq_getElem?_getD, List.getElem?_eq_getElem hi] at this
      simp only [Option.getD_some] at this
      omega
    have HWSZ := Lib.hid hwsz
    have HAS := Lib.hid (And.intro HW5.out HL5.out)
    clear hwsz hA5 hs7
    go_wp2_with fail
    obtain ⟨hW5, hL5⟩ := HAS.out
    clear HAS cw wf hxc
    have hyd : ((⟨#[48]⟩ : ByteArray) ++ x).data.toList = 48 :: Lib.itoa v := by
      rw [ByteArray.data_append, Array.toList_append, HXV.out]
      rfl
    have hys : ((⟨#[48]⟩ : ByteArray) ++ x).size = 1 + x.size := by
      rw [ByteArray.size_append]
      rfl
    generalize (⟨#[48]⟩ : ByteArray) ++ x = y at hyd hys ⊢
    have hWa := set_whole hW5 k y
    have hLa : Below w.heap.size w (w5.setCell ⟨g, k, none⟩ (.string y)) := hL5.setCell (p := ⟨g, k, none⟩) hgw _
    have hza : (w5.setCell ⟨g, k, none⟩ (.string y)).heap.size = w5.heap.size := by simp
    change Calls _ _ _ ((w5.setCell ⟨g, k, none⟩ (.string y)).alloc (.cells ((bads7 t).map Value.string).toArray 9)) _
    have hW6 := hWa.alloc (.cells ((bads7 t).map Value.string).toArray 9)
    have hb6 := Whole.new (w5.setCell ⟨g, k, none⟩ (.string y)) 9 ((bads7 t).map Value.string).toArray
    rw [hza] at hb6
    have hL6 := hLa.alloc hLa.size (.cells ((bads7 t).map Value.string).toArray 9)
    have hgb : w.heap.size ≤ w5.heap.size := hL5.size
    have HYD := Lib.hid hyd
    clear hWa hLa hza hW5 hL5 hyd HW5 HL5 HLY5
    have HBAD7 := Lib.hid hbad7
    clear hbad7
    generalize (w5.setCell ⟨g, k, none⟩ (.string y)).alloc (.cells ((bads7 t).map Value.string).toArray 9) = w6 at hW6 hb6 hL6 ⊢
    generalize w5.heap.size = gb at hg5 hb6 hgb ⊢
    have hset : ∀ q : ByteArray, q.size ≤ 22 → sizeAll (ws.set k q) ≤ 10000000 := by
      intro q hq
      have := sizeAll_bound (ws.set k q) 16000 (fun r hr => by
        rcases List.mem_or_eq_of_mem_set hr with hr | rfl
        · exact HWSZ.out r hr
        · omega)
      rw [List.length_set, HSL.out] at this
      have h2 : (m + 1) * 16000 ≤ 106 * 16000 := Nat.mul_le_mul_right _ (by omega)
      omega
    have HSET := Lib.hid hset
    clear hset
    refine (join_any g (m + 1) m (ws.set k y) w6 (strs_of hW6) (by rw [List.length_set, HSL.out]) (by omega) (by omega) (Nat.le_refl _) (HSET.out y (by omega)) (by omega)).mono ?_
    rintro e w7 ⟨rfl, hb7⟩
    have hj1 : parseL (joined (ws.set k y) m) = none := bad_set HSEG.out HSL.out ⟨by omega, hkm⟩ y (by rw [HYD.out]; exact numL_zero (itoa_ne v)) (by rw [HYD.out]; exact blank_head (by decide) (itoa_blank v))
    have hjs1 : (joined (ws.set k y) m).length ≤ 20000 := joined_short HSEG.out HSL.out hkm y (by rw [HTS.out]; omega) (by omega)
    have hW7 := hW6.below hb7 hW6.lt
    have hb7' := hb6.below hb7 hb6.lt
    have hL7 := hL6.trans (hb7.mono hL6.size)
    have hown := own_of_strs hb7' hgb (show 7 ≤ 1000 by decide)
    have hone := strs_oneCell [(⟨(joined (ws.set k y) m).toArray⟩ : ByteArray)]
    obtain ⟨i9, hi9, hz9, hs9, hy9⟩ := info_parts info9'
    have HJ1 := Lib.hid (And.intro hj1 hjs1)
    clear hj1 hjs1 hb7 hb7' hW6 hb6 hL6
    generalize joined (ws.set k y) m = j1 at HJ1 hone ⊢
    have hO8 := hown.alloc (.cells #[.string ⟨j1.toArray⟩] 9)
    have hA8 := hL7.alloc hL7.size (.cells #[.string ⟨j1.toArray⟩] 9)
    have hz8 := hA8.size
    have HO8 := Lib.hid hO8
    have HA8 := Lib.hid hA8
    have HW8 := Lib.hid (hW7.alloc (.cells #[.string ⟨j1.toArray⟩] 9))
    have hg7 := hW7.lt
    clear hown hO8 hA8 hL7 hW7
    go_wp2_with (at_builtin; refine wpList_append_own_at _ rfl _ _ 66 rfl w.heap.size 9 i9 (.string ⟨#[]⟩) 1 16 Tryd.underlying66 hi9 hz9 hs9 hy9 rfl (by decide) (.slice (some ⟨gb, 0, none⟩) 7 7) 7 ((bads7 t).map Value.string) rfl HO8.out ⟨w7.heap.size, 0, none⟩ 1 1 [.string ⟨j1.toArray⟩] rfl rfl (cells_new w7 #[.string ⟨j1.toArray⟩] 9) hone (by decide) (by decide) hz8 ?_; intro v1 w8 hown1 hgrow1 _ hloc1; have hne1 : some g ≠ (Value.slice (some ⟨gb, 0, none⟩) 7 7).ownBlock := (fun e => by have e' : g = gb := Option.some.inj e; omega); have hW8 := HW8.out.grown hgrow1 hne1; have cy : w8.cell? ⟨g, k, none⟩ = some (.string y) := (strs_of hW8).2 k (by rw [List.length_set, HSL.out]; omega) |>.trans (by rw [List.getD_eq_getElem?_getD, List.getElem?_set_self (by rw [HSL.out]; omega)]; rfl); have wf8 := hW8.frozen k; have hg8 := hW8.lt; have hy1 : (1 : Int) ≤ (y.size : Int) := (by omega); have hyl : (y.size : Int) ≤ 22 := (by omega))
    have hown1 : w8.ownsRow w.heap.size 9 1 v1 8 ((bads7 t ++ [(⟨j1.toArray⟩ : ByteArray)]).map Value.string) := by
      rw [List.map_append]
      exact hown1
    obtain ⟨g1, c1, rfl, hg1w, hg1l⟩ := hown1.form (by decide)
    have hg1 : g ≠ g1 := by
      rcases hloc1 with e | e
      · have e' : g1 = gb := Option.some.inj e
        omega
      · have e' : g1 = (w7.alloc (.cells #[.string ⟨j1.toArray⟩] 9)).heap.size := Option.some.inj e
        rw [World.size_alloc] at e'
        omega
    have hzd : ((⟨#[43]⟩ : ByteArray) ++ y.extract 1 (1 + x.size)).data.toList = 43 :: Lib.itoa v := by
      rw [ByteArray.data_append, Array.toList_append, Lib.extract_data, HYD.out, List.drop_succ_cons, List.drop_zero, show 1 + x.size - 1 = x.size by omega, ← HXV.out, List.take_of_length_le (by simp [ByteArray.size_data])]
      rfl
    have hzs : ((⟨#[43]⟩ : ByteArray) ++ y.extract 1 (1 + x.size)).size = 1 + x.size := by
      rw [ByteArray.size_append, ByteArray.size_extract]
      show 1 + _ = _
      omega
    generalize (⟨#[43]⟩ : ByteArray) ++ y.extract 1 (1 + x.size) = z at hzd hzs ⊢
    have hWz := set_whole hW8 k z
    rw [List.set_set] at hWz
    have hgr8 : w8.grownBy (w8.setCell ⟨g, k, none⟩ (.string z)) (some g) := grown_set ⟨rfl, rfl, rfl, Nat.le_refl _, fun _ _ _ => rfl⟩ k _
    have hoz := hown1.kept hgr8 (.inr (fun e => hg1 (Option.some.inj e).symm))
    have hlz : Below w.heap.size w (w8.setCell ⟨g, k, none⟩ (.string z)) := (HA8.out.grown hgrow1 hz8 (fun i e => by have e' : gb = i := Option.some.inj e; omega)).setCell (p := ⟨g, k, none⟩) hgw _
    clear hW8 hgr8 hown1 hgrow1 cy wf8 hone hloc1 hne1 HW8 HA8 HO8
    generalize w8.setCell ⟨g, k, none⟩ (.string z) = w9 at hWz hoz hlz ⊢
    refine (join_any g (m + 1) m (ws.set k z) w9 (strs_of hWz) (by rw [List.length_set, HSL.out]) (by omega) (by omega) (Nat.le_refl _) (HSET.out z (by omega)) (by omega)).mono ?_
    rintro e w10 ⟨rfl, hb10⟩
    have hj2 : parseL (joined (ws.set k z) m) = none := bad_set HSEG.out HSL.out ⟨by omega, hkm⟩ z (by rw [hzd]; exact numL_plus _) (by rw [hzd]; exact blank_head (by decide) (itoa_blank v))
    have hjs2 : (joined (ws.set k z) m).length ≤ 20000 := joined_short HSEG.out HSL.out hkm z (by rw [HTS.out]; omega) (by omega)
    have hl10 := hlz.trans (hb10.mono hlz.size)
    have ho10 := owns_low hoz hb10
    have HJ2 := Lib.hid (And.intro hj2 hjs2)
    clear hj2 hjs2 hb10 hWz hoz hlz hzd
    generalize joined (ws.set k z) m = j2 at HJ2 ⊢
    have hone := strs_oneCell [(⟨j2.toArray⟩ : ByteArray)]
    have hA11 := hl10.alloc hl10.size (.cells #[.string ⟨j2.toArray⟩] 9)
    have hz11 := hA11.size
    have HO11 := Lib.hid (ho10.alloc (.cells #[.string ⟨j2.toArray⟩] 9))
    have HA11 := Lib.hid hA11
    have HLEN9 := Lib.hid hk
    clear hA11 hl10 ho10
    go_wp2_with (at_builtin; refine wpList_append_own_at _ rfl _ _ 66 rfl w.heap.size 9 i9 (.string ⟨#[]⟩) 1 16 Tryd.underlying66 hi9 hz9 hs9 hy9 rfl (by decide) (.slice (some ⟨g1, 0, none⟩) 8 c1) 8 ((bads7 t ++ [(⟨j1.toArray⟩ : ByteArray)]).map Value.string) rfl HO11.out ⟨w10.heap.size, 0, none⟩ 1 1 [.string ⟨j2.toArray⟩] rfl rfl (cells_new w10 #[.string ⟨j2.toArray⟩] 9) hone (by decide) (by decide) hz11 ?_; intro v2 w11 hown2 hgrow2 _ _; obtain ⟨g2, c2', rfl, hg2w, hg2l⟩ := hown2.form (by decide))
    have hown2 : w11.ownsRow w.heap.size 9 1 (.slice (some ⟨g2, 0, none⟩) 9 c2') 9 ((bads7 t ++ [(⟨j1.toArray⟩ : ByteArray)] ++ [(⟨j2.toArray⟩ : ByteArray)]).map Value.string) := by
      rw [List.map_append]
      exact hown2
    have hbs := strs_of_own (ws := bads7 t ++ [(⟨j1.toArray⟩ : ByteArray)] ++ [(⟨j2.toArray⟩ : ByteArray)]) hown2
    have HL9 := Lib.hid (HA11.out.grown hgrow2 hz11 (fun i e => by have e' : g1 = i := Option.some.inj e; omega))
    have hbad9 : ∀ x ∈ bads7 t ++ [(⟨j1.toArray⟩ : ByteArray)] ++ [(⟨j2.toArray⟩ : ByteArray)], parseL x.data.toList = none ∧ x.size ≤ 20000 := by
      intro x hx
      rcases List.mem_append.1 hx with hx | hx
      · rcases List.mem_append.1 hx with hx | hx
        · exact HBAD7.out x hx
        · rw [List.mem_singleton.1 hx]
          exact ⟨HJ1.out.1, by rw [← ByteArray.size_data]; simpa using HJ1.out.2⟩
      · rw [List.mem_singleton.1 hx]
        exact ⟨HJ2.out.1, by rw [← ByteArray.size_data]; simpa using HJ2.out.2⟩
    have HBAD := Lib.hid hbad9
    have HBS := Lib.hid hbs
    have HBN := Lib.hid (show (bads7 t ++ [(⟨j1.toArray⟩ : ByteArray)] ++ [(⟨j2.toArray⟩ : ByteArray)]).length = 9 from rfl)
    have HLY9 := Lib.hid (HLYW.out.below HL9.out)
    clear hbad9 hbs hown2 hgrow2 hone HJ1 HJ2 HBAD7 HO11 HA11
    generalize bads7 t ++ [(⟨j1.toArray⟩ : ByteArray)] ++ [(⟨j2.toArray⟩ : ByteArray)] = bs at HBAD HBS HBN
    obtain ⟨W9, rfl⟩ : ∃ q : World, q = w11 := ⟨_, rfl⟩
    obtain ⟨gb2, rfl⟩ : ∃ q : Nat, q = g2 := ⟨_, rfl⟩
    go_loopw [82] (fun i wr => ∃ j : Nat, j ≤ 9 ∧ i = .int .i64 j ∧ Below W9.heap.size W9 wr) (fun i _ => 9 - (RowKit.intOf i).toNat)
    case atStart => exact ⟨0, Nat.zero_le _, rfl, Below.refl _ _⟩
    case round =>
      obtain ⟨j, hj, rfl, hBr⟩ := hrel
      by_cases hlt : j < 9
      · have c0 : wr.cell? ⟨gb2, j, none⟩ = some (.string (bs.getD j ByteArray.empty)) := (hBr.cell (p := ⟨gb2, j, none⟩) HBS.out.1).trans (HBS.out.2 j (by rw [HBN.out]; exact hlt))
        obtain ⟨hno, hsz⟩ := HBAD.out (bs.getD j ByteArray.empty) (by rw [List.getD_eq_getElem?_getD, List.getElem?_eq_getElem (by rw [HBN.out]; exact hlt)]; exact List.getElem_mem _)
        generalize bs.getD j ByteArray.empty = x at c0 hno hsz
        have HNO := Lib.hid hno
        have hly := HLY9.out.below hBr
        have hj0 : (0 : Int) ≤ (j : Int) := by omega
        have hjl : (j : Int) < ((9 : Nat) : Int) := by omega
        have HBR := Lib.hid hBr
        clear hno hBr
        go_wp2_with fail
        refine (parse_any x wr hsz hly.pow hly.sent hly.shape).mono ?_
        rintro e w7 ⟨hb7, ⟨hp, rfl⟩ | ⟨x2, Ax, cx, hp, rfl, hN⟩⟩
        · have HB7 := Lib.hid (HBR.out.trans (hb7.mono HBR.out.size))
          clear hb7 hp c0 hly
          go_wp2_with fail
          exact ⟨⟨j + 1, by omega, by go_num, HB7.out.alloc HB7.out.size _⟩, by simp [RowKit.intOf]; omega⟩
        · rw [HNO.out] at hp
          cases hp
      · obtain rfl : j = 9 := by omega
        have HBR := Lib.hid hBr
        clear hBr hlt
        go_wp2_with fail
        go_ret
        exact ⟨rfl, HL9.out.trans (HBR.out.mono HL9.out.size)⟩
end Go.Proofs.YtdmopagkahgepaaDoor
