/- lombardref24.Put: a command's line. -/
import Derived.Test.YtdmopagkahgepaaDoorXo
import Derived.Test.YtdmopagkahgepaaDoorXk
import Derived.Test.YtdmopagkahgepaaDoorXg
import Derived.Test.YtdmopagkahgepaaDoorUo
namespace Go.Proofs.YtdmopagkahgepaaDoor
open Go.RowKit Go.Maps Go.ChangeMaps Go.ChangeShapes

/-- What has been written, the first j numbers told. -/
def lineTo (k : Int) (l : List Int) (j : Nat) : ByteArray := ⟨(lineOf (wordOf k) ((l.take j).map Lib.itoa)).toArray⟩
theorem lineTo_zero (k : Int) (l : List Int) (wd : ByteArray) (h : wd.data.toList = wordOf k) : lineTo k l 0 = wd := by
  unfold lineTo lineOf
  rw [← h]
  simp
theorem lineTo_next (k : Int) (l : List Int) (j : Nat) (h : j < l.length) : lineTo k l (j + 1) = lineTo k l j ++ ((⟨#[32]⟩ : ByteArray) ++ ⟨(Lib.itoa (l[j]?.getD 0)).toArray⟩) := by
  unfold lineTo lineOf
  rw [take_next l j h 0, List.map_append, List.flatMap_append, ← List.append_assoc]
  apply ByteArray.ext
  apply Array.toList_inj.mp
  rw [ByteArray.data_append, ByteArray.data_append]
  simp
theorem lineTo_size (k : Int) (hk : 1 ≤ k ∧ k ≤ 14) (l : List Int) (hl : ∀ v ∈ l, In64 v) (hn : l.length ≤ 1000) (j : Nat) : (lineTo k l j).size ≤ 30000 := by
  have h1 := line_len (l.take j) (fun v hv => hl v (List.mem_of_mem_take hv))
  have h2 : (l.take j).length ≤ 1000 := by rw [List.length_take]; omega
  have h3 : (wordOf k).length ≤ 10 := by
    have := word_small k.toNat (by omega)
    unfold wordOf
    simpa [ByteArray.size_data] using this
  rw [← length_data]
  show (lineOf (wordOf k) ((l.take j).map Lib.itoa)).toArray.toList.length ≤ _
  rw [List.toList_toArray]
  unfold lineOf
  rw [List.length_append]
  omega
theorem numsOf_len (c : Cmd) : (numsOf c).length ≤ 5 + c.flows.length := by
  unfold numsOf
  rw [List.length_append, List.length_map]
  have := fieldsOf_len c.kind
  split <;> simp <;> omega
theorem kind_cell {w : World} {g : Nat} {t : TypeId} {cs : Array Value} (h : Whole w g t cs) (v : Value) (hv : cs[0]? = some v) : w.cell? ⟨g, 0, none⟩ = some v := (h.cell 0).trans hv

set_option maxRecDepth 100000 in
set_option maxHeartbeats 8000000 in
theorem put24_any (c : Cmd) (A : Option Addr) (cap : Nat) (w : World) (hfl : FlowsIn w A cap c.flows) (hn : c.flows.length ≤ 700) (hc : c.Fine) :
    Calls Tryd.prog 23 #[.agg #[.int .i64 c.kind, .int .i64 c.id, .int .i64 c.ek, .int .i64 c.loan, .int .i64 c.other, .int .i64 c.amount, .slice A c.flows.length cap, .int .i64 c.past, .int .i64 c.down, .bool c.bad, .int .i64 c.n]] w fun e w' => Below w.heap.size w w' ∧ PutEnd c e := by
  have hBa := (Below.refl w.heap.size w).alloc (Nat.le_refl _) (.cells #[.int .i64 c.kind, .int .i64 c.id, .int .i64 c.ek, .int .i64 c.loan, .int .i64 c.other, .int .i64 c.amount, .slice A c.flows.length cap, .int .i64 c.past, .int .i64 c.down, .bool c.bad, .int .i64 c.n] 54)
  have HZ0 := Lib.hid (Whole.new w 54 #[.int .i64 c.kind, .int .i64 c.id, .int .i64 c.ek, .int .i64 c.loan, .int .i64 c.other, .int .i64 c.amount, .slice A c.flows.length cap, .int .i64 c.past, .int .i64 c.down, .bool c.bad, .int .i64 c.n])
  have HF0 := Lib.hid (hfl.below hBa)
  have HB0 := Lib.hid hBa
  clear hBa hfl
  by_cases hk : 1 ≤ c.kind ∧ c.kind ≤ 14
  · obtain ⟨hk1, hk2⟩ := hk
    go_enter Tryd.func23, Tryd.ntmps23
    have hk1' : ¬ c.kind < 1 := by omega
    have hk2' : ¬ (14 : Int) < c.kind := by omega
    go_wp2_with fail
    generalize w.alloc (.cells #[.int .i64 c.kind, .int .i64 c.id, .int .i64 c.ek, .int .i64 c.loan, .int .i64 c.other, .int .i64 c.amount, .slice A c.flows.length cap, .int .i64 c.past, .int .i64 c.down, .bool c.bad, .int .i64 c.n] 54) = W at HZ0 HF0 HB0 ⊢
    refine (numbers_any c.kind ⟨hk1, hk2⟩ c A cap W rfl HF0.out hn).mono ?_
    rintro e w1 ⟨A1, c1, rfl, hN1, hb1⟩
    have hform := owns_form hN1
    have HZ1 := Lib.hid (HZ0.out.below hb1 HZ0.out.lt)
    have HF1 := Lib.hid (HF0.out.below hb1)
    have HB1 := Lib.hid (HB0.out.trans (hb1.mono HB0.out.size))
    have HN1 := Lib.hid hN1
    have HFO := Lib.hid hform
    have hnl := numsOf_len c
    have hzl := HZ1.out.lt
    obtain ⟨z0, z1, z2, z3, z4, z5, z6, z7, z8, z9, z10⟩ := elev HZ1.out
    clear HZ0 HF0 HB0 hN1 hb1 hform
    go_wp2_with fail
    refine (cmd24_any c.kind ⟨hk1, hk2⟩ _ (numsOf c) w1 HN1.out.nums (by omega) HFO.out).mono ?_
    rintro e w2 ⟨hb2, ⟨h0, rfl⟩ | ⟨x, Ax, cx, hok, hx, rfl, hNx⟩⟩
    · have HB2 := Lib.hid (HB1.out.trans (hb2.mono HB1.out.size))
      have hput : putL c = none := by
        unfold putL
        rw [if_neg]
        rintro ⟨_, _, h, _⟩
        rw [h0] at h
        cases h
      have HPUT := Lib.hid hput
      clear hput h0 hb2 z0 z1 z2 z3 z4 z5 z6 z7 z8 z9 z10 HZ1
      go_wp2_with fail
      refine bodyPost_ret (v := .tuple #[.string ⟨#[]⟩, .int .i64 2]) (by simp [results, Tryd.results23, go_sem]) rfl ⟨HB2.out.alloc HB2.out.size _, .inl ⟨HPUT.out, rfl⟩⟩
    · have hA3 := (Below.refl _ w2).alloc (Nat.le_refl _) (.cells #[.int .i64 x.kind, .int .i64 x.id, .int .i64 x.ek, .int .i64 x.loan, .int .i64 x.other, .int .i64 x.amount, .slice Ax x.flows.length cx, .int .i64 x.past, .int .i64 x.down, .bool x.bad, .int .i64 x.n] 54)
      have hl2 := HB1.out.trans (hb2.mono HB1.out.size)
      have HB3 := Lib.hid (hl2.alloc hl2.size (.cells #[.int .i64 x.kind, .int .i64 x.id, .int .i64 x.ek, .int .i64 x.loan, .int .i64 x.other, .int .i64 x.amount, .slice Ax x.flows.length cx, .int .i64 x.past, .int .i64 x.down, .bool x.bad, .int .i64 x.n] 54))
      have HZ3 := Lib.hid ((HZ1.out.below hb2 hzl).alloc (.cells #[.int .i64 x.kind, .int .i64 x.id, .int .i64 x.ek, .int .i64 x.loan, .int .i64 x.other, .int .i64 x.amount, .slice Ax x.flows.length cx, .int .i64 x.past, .int .i64 x.down, .bool x.bad, .int .i64 x.n] 54))
      have HX3 := Lib.hid (Whole.new w2 54 #[.int .i64 x.kind, .int .i64 x.id, .int .i64 x.ek, .int .i64 x.loan, .int .i64 x.other, .int .i64 x.amount, .slice Ax x.flows.length cx, .int .i64 x.past, .int .i64 x.down, .bool x.bad, .int .i64 x.n])
      have HF3 := Lib.hid ((HF1.out.below hb2).below hA3)
      have HNx := Lib.hid (hNx.below hA3)
      have HN3 := Lib.hid ((HN1.out.below hb2).below hA3)
      have HOK := Lib.hid hok
      have HX := Lib.hid hx
      have hxl : x.flows.length ≤ 9000 := by
        rw [hx]
        show ((numsOf c).drop _).length ≤ 9000
        rw [List.length_drop]
        omega
      clear hA3 hl2 hb2 hNx hok hx z0 z1 z2 z3 z4 z5 z6 z7 z8 z9 z10 HZ1 HB1 HF1 HN1
      go_upto_region 5 with fail
      generalize w2.alloc (.cells #[.int .i64 x.kind, .int .i64 x.id, .int .i64 x.ek, .int .i64 x.loan, .int .i64 x.other, .int .i64 x.amount, .slice Ax x.flows.length cx, .int .i64 x.past, .int .i64 x.down, .bool x.bad, .int .i64 x.n] 54) = W3 at HB3 HZ3 HX3 HF3 HNx HN3 ⊢
      generalize w2.heap.size = gx at HX3 ⊢
      have hzl3 := HZ3.out.lt
      have hxl3 := HX3.out.lt
      obtain ⟨z0, z1, z2, z3, z4, z5, z6, z7, z8, z9, z10⟩ := elev HZ3.out
      obtain ⟨x0, x1, x2, x3, x4, x5, x6, x7, x8, x9, x10⟩ := elev HX3.out
      by_cases hxc : x = c
      · subst hxc
        go_wp2_with (go_at_call 19; refine (same24 x x Ax A cx cap true W3 HNx.out.src HF3.out.src hxl (by omega) (by simp)).mono ?_; rintro e w4 ⟨rfl, hb4⟩; have HZ4 := Lib.hid (HZ3.out.below hb4 hzl3); have HB4 := Lib.hid (HB3.out.trans (hb4.mono HB3.out.size)); have HN4 := Lib.hid (HN3.out.below hb4); have hzl4 := HZ4.out.lt)
        obtain ⟨kn, hkn⟩ : ∃ kn : Nat, x.kind = (kn : Int) := ⟨x.kind.toNat, by omega⟩
        have hws : ∀ w : World, (Instr.index 102 (.agg wordCells) (.int .i64 x.kind)).run Tryd.prog w = .ok (.string (wordL.getD kn ByteArray.empty)) w := by
          rw [hkn]
          exact word_string kn (by omega)
        have hwd : (wordL.getD kn ByteArray.empty).data.toList = wordOf x.kind := by
          unfold wordOf
          rw [hkn, Int.toNat_natCast]
        have hl0 := lineTo_zero x.kind (numsOf x) _ hwd
        have hsz := lineTo_size x.kind ⟨hk1, hk2⟩ (numsOf x) hc.nums (by omega)
        have hput : putL x = some (lineOf (wordOf x.kind) ((numsOf x).map Lib.itoa)) := by
          unfold putL
          rw [if_pos ⟨hk1, hk2, HOK.out, HX.out.symm⟩]
        have hnx := lineTo_next x.kind (numsOf x)
        have hin := hc.nums
        have hall : lineTo x.kind (numsOf x) (numsOf x).length = ⟨(lineOf (wordOf x.kind) ((numsOf x).map Lib.itoa)).toArray⟩ := by
          unfold lineTo
          rw [List.take_length]
        rw [← hl0] at hws
        have HPUT := Lib.hid hput
        have HALL := Lib.hid hall
        have HNX := Lib.hid hnx
        have HIN := Lib.hid hin
        have HSZ := Lib.hid hsz
        clear hput hall hnx hin hsz hkn hwd hl0 z0 z1 z2 z3 z4 z5 z6 z7 z8 z9 z10 x0 x1 x2 x3 x4 x5 x6 x7 x8 x9 x10 HB3 HZ3 HX3 HF3 HNx HN3 hb4
        have HKd := Lib.hid (kind_cell (show Whole w4.drew w.heap.size 54 _ from HZ4.out) (.int .i64 x.kind) rfl)
        go_region_held3 (fun w' => w'.cell? ⟨w.heap.size, 0, none⟩ = some (.int .i64 x.kind)) (first | (with_reducible exact K1) | (with_reducible exact HKd.out))
          (first | (go_at_call 42; refine (words24_any _).mono ?_; rintro e w5 ⟨rfl, hb5'⟩; have hb5 := below_undrew hb5'; have K1 := kind_cell (HZ4.out.below hb5 hzl4) (.int .i64 x.kind) rfl))
        have HB5 := Lib.hid (HB4.out.trans (hb5.mono HB4.out.size))
        have HN5 := Lib.hid ((HN4.out.below hb5).nums)
        clear hb5 hb5' K1 HZ4 HB4 HN4 HKd hzl4
        go_wp2_with fail
        have hS0 : ∃ j : Nat, j ≤ (numsOf x).length ∧ (Value.int .i64 0 : Value) = .int .i64 j ∧ (Value.string (lineTo x.kind (numsOf x) 0) : Value) = .string (lineTo x.kind (numsOf x) j) ∧ Below w5.heap.size w5 w5 := ⟨0, Nat.zero_le _, rfl, rfl, Below.refl _ _⟩
        have HS0 := Lib.hid hS0
        clear hS0
        go_loopw [7, 41] (fun sv jv wr => ∃ j : Nat, j ≤ (numsOf x).length ∧ jv = .int .i64 j ∧ sv = .string (lineTo x.kind (numsOf x) j) ∧ Below w5.heap.size w5 wr) (fun _ jv _ => (numsOf x).length - (RowKit.intOf jv).toNat)
        case atStart => exact HS0.out
        case round =>
          obtain ⟨j, hj, rfl, rfl, hB⟩ := hrel
          by_cases hlt : j < (numsOf x).length
          · obtain ⟨A', c', e', hat⟩ := HN5.out
            cases e'
            obtain ⟨g, rfl, hg, c0⟩ := hat j hlt
            have c0 := (hB.cell (p := ⟨g, j, none⟩) hg).trans c0
            have hg : g < wr.heap.size := Nat.lt_of_lt_of_le hg hB.size
            have hj0 : (0 : Int) ≤ (j : Int) := by omega
            have hjl : (j : Int) < ((numsOf x).length : Int) := by omega
            have hnx := HNX.out j hlt
            have hnn : In64 ((numsOf x)[j]?.getD 0) := by
              rw [List.getElem?_eq_getElem hlt]
              exact HIN.out _ (List.getElem_mem hlt)
            have hlen := Lib.itoa_length_le _ hnn.1 hnn.2
            have hsz := HSZ.out j
            have hPD := print_all _ hnn
            generalize (numsOf x)[j]?.getD 0 = n at c0 hnx hnn hlen hPD
            have hSs : (⟨(Lib.itoa n).toArray⟩ : ByteArray).size ≤ 21 := by simpa [ByteArray.size] using hlen
            generalize (⟨(Lib.itoa n).toArray⟩ : ByteArray) = S at hnx hPD hSs
            generalize lineTo x.kind (numsOf x) j = T at hnx hsz ⊢
            have hf1 : ¬ (9223372036854775807 < (⟨#[32]⟩ : ByteArray).size + S.size) := by show ¬ (9223372036854775807 < 1 + S.size); omega
            have hf2 : ¬ (9223372036854775807 < T.size + ((⟨#[32]⟩ : ByteArray) ++ S).size) := by rw [ByteArray.size_append]; show ¬ (9223372036854775807 < T.size + (1 + S.size)); omega
            have HNX2 := Lib.hid hnx
            have HB := Lib.hid hB
            clear hnx hB hat hnn hlen
            go_wp2_with (go_at_call 51; refine (hPD _).mono ?_; rintro e w6 ⟨rfl, hb6⟩)
            exact ⟨⟨j + 1, by omega, by go_num, by rw [HNX2.out], HB.out.trans (hb6.mono HB.out.size)⟩, by simp [RowKit.intOf]; omega⟩
          · obtain rfl : j = (numsOf x).length := by omega
            rw [HALL.out]
            have HBf := Lib.hid (HB5.out.trans (hB.mono HB5.out.size))
            clear hB hlt
            go_wp2_with fail
            refine bodyPost_ret (v := .tuple #[.string ⟨(lineOf (wordOf x.kind) ((numsOf x).map Lib.itoa)).toArray⟩, .int .i64 0]) (by simp [results, Tryd.results23, go_sem]) rfl ⟨HBf.out, .inr ⟨_, HPUT.out, rfl⟩⟩
      · go_wp2_with (go_at_call 19; refine (same24 x c Ax A cx cap false W3 HNx.out.src HF3.out.src hxl (by omega) (by simpa using hxc)).mono ?_; rintro e w4 ⟨rfl, hb4⟩)
        have hput : putL c = none := by
          unfold putL
          rw [if_neg]
          rintro ⟨_, _, _, h⟩
          exact hxc (HX.out.trans h)
        refine bodyPost_ret (v := .tuple #[.string ⟨#[]⟩, .int .i64 2]) (by simp [results, Tryd.results23, go_sem]) rfl ⟨HB3.out.trans (hb4.mono HB3.out.size), .inl ⟨hput, rfl⟩⟩
  · have hput : putL c = none := by
      unfold putL
      rw [if_neg]
      rintro ⟨h1, h2, _⟩
      exact hk ⟨h1, h2⟩
    have HPUT := Lib.hid hput
    clear hput
    by_cases hk1 : c.kind < 1
    · clear hk
      go_enter Tryd.func23, Tryd.ntmps23
      go_wp2_with fail
      refine bodyPost_ret (v := .tuple #[.string ⟨#[]⟩, .int .i64 2]) (by simp [results, Tryd.results23, go_sem]) rfl ⟨HB0.out, .inl ⟨HPUT.out, rfl⟩⟩
    · have hk2 : (14 : Int) < c.kind := by omega
      clear hk
      go_enter Tryd.func23, Tryd.ntmps23
      go_wp2_with fail
      refine bodyPost_ret (v := .tuple #[.string ⟨#[]⟩, .int .i64 2]) (by simp [results, Tryd.results23, go_sem]) rfl ⟨HB0.out, .inl ⟨HPUT.out, rfl⟩⟩
end Go.Proofs.YtdmopagkahgepaaDoor
