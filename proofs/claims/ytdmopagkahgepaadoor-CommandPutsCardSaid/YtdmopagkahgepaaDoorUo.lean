/- lombardlaw24.CommandBack: the walk. -/
import Derived.Test.YtdmopagkahgepaaDoorUn
namespace Go.Proofs.YtdmopagkahgepaaDoor
open Go.RowKit Go.Maps Go.ChangeMaps Go.ChangeShapes

theorem told_same (x : ByteArray) : (x.data.toList == x.toList) = true := told_yes rfl
theorem line_len : ∀ (l : List Int), (∀ v ∈ l, In64 v) → ((l.map Lib.itoa).flatMap (32 :: ·)).length ≤ 22 * l.length
  | [], _ => by simp
  | v :: l, h => by
    have h1 := Lib.itoa_length_le v (h v (by simp)).1 (h v (by simp)).2
    have h2 := line_len l (fun u hu => h u (by simp [hu]))
    simp only [List.map_cons, List.flatMap_cons, List.length_append, List.length_cons]
    omega
theorem put_len {c : Cmd} {t : List UInt8} (hc : c.Fine) (h : putL c = some t) (hn : c.flows.length ≤ 700) : t.length ≤ 16000 := by
  unfold putL at h
  split at h
  · rename_i hh
    cases h
    unfold lineOf
    rw [List.length_append]
    have h1 := line_len _ hc.nums
    have h2 : (numsOf c).length ≤ 705 := by
      unfold numsOf
      rw [List.length_append, List.length_map]
      have := fieldsOf_len c.kind
      split <;> simp <;> omega
    have h3 : (wordOf c.kind).length ≤ 10 := by
      have := word_small c.kind.toNat (by omega)
      unfold wordOf
      simpa [ByteArray.size_data] using this
    omega
  · cases h
theorem both {w : World} {b1 b2 : Nat} {t1 t2 : TypeId} {c0 c1 c2 c3 c4 c5 c6 c7 c8 c9 c10 d0 d1 d2 d3 d4 d5 d6 d7 d8 d9 d10 : Value} (h : Whole w b1 t1 #[c0, c1, c2, c3, c4, c5, c6, c7, c8, c9, c10]) (k : Whole w b2 t2 #[d0, d1, d2, d3, d4, d5, d6, d7, d8, d9, d10]) : (w.cell? ⟨b1, 0, none⟩ = some c0 ∧ w.cell? ⟨b1, 1, none⟩ = some c1 ∧ w.cell? ⟨b1, 2, none⟩ = some c2 ∧ w.cell? ⟨b1, 3, none⟩ = some c3 ∧ w.cell? ⟨b1, 4, none⟩ = some c4 ∧ w.cell? ⟨b1, 5, none⟩ = some c5 ∧ w.cell? ⟨b1, 6, none⟩ = some c6 ∧ w.cell? ⟨b1, 7, none⟩ = some c7 ∧ w.cell? ⟨b1, 8, none⟩ = some c8 ∧ w.cell? ⟨b1, 9, none⟩ = some c9 ∧ w.cell? ⟨b1, 10, none⟩ = some c10) ∧ (w.cell? ⟨b2, 0, none⟩ = some d0 ∧ w.cell? ⟨b2, 1, none⟩ = some d1 ∧ w.cell? ⟨b2, 2, none⟩ = some d2 ∧ w.cell? ⟨b2, 3, none⟩ = some d3 ∧ w.cell? ⟨b2, 4, none⟩ = some d4 ∧ w.cell? ⟨b2, 5, none⟩ = some d5 ∧ w.cell? ⟨b2, 6, none⟩ = some d6 ∧ w.cell? ⟨b2, 7, none⟩ = some d7 ∧ w.cell? ⟨b2, 8, none⟩ = some d8 ∧ w.cell? ⟨b2, 9, none⟩ = some d9 ∧ w.cell? ⟨b2, 10, none⟩ = some d10) :=
  ⟨elev h, elev k⟩

set_option maxRecDepth 100000 in
set_option maxHeartbeats 8000000 in
theorem back_any (c : Cmd) (A : Option Addr) (cap : Nat) (line : ByteArray) (w : World) (hf : FlowsIn w A cap c.flows) (hn : c.flows.length ≤ 9223372036854775807) (hm : line.size ≤ 9223372036854775807) (hc : c.Fine) (h : Lay w) :
    Calls Tryd.prog 6 #[.agg #[.int .i64 c.kind, .int .i64 c.id, .int .i64 c.ek, .int .i64 c.loan, .int .i64 c.other, .int .i64 c.amount, .slice A c.flows.length cap, .int .i64 c.past, .int .i64 c.down, .bool c.bad, .int .i64 c.n], .string line] w fun e w' => e = .returned (.bool true) ∧ Below w.heap.size w w' := by
  have hA := (Below.refl _ w).alloc (Nat.le_refl _) (.cells #[.int .i64 c.kind, .int .i64 c.id, .int .i64 c.ek, .int .i64 c.loan, .int .i64 c.other, .int .i64 c.amount, .slice A c.flows.length cap, .int .i64 c.past, .int .i64 c.down, .bool c.bad, .int .i64 c.n] 54)
  have hW := Whole.new w 54 #[.int .i64 c.kind, .int .i64 c.id, .int .i64 c.ek, .int .i64 c.loan, .int .i64 c.other, .int .i64 c.amount, .slice A c.flows.length cap, .int .i64 c.past, .int .i64 c.down, .bool c.bad, .int .i64 c.n]
  have HF0 := Lib.hid (hf.below hA)
  have HLY0 := Lib.hid (h.below hA)
  have HA0 := Lib.hid hA
  have HW0 := Lib.hid hW
  clear hA hW hf h
  go_enter Tryd.func6, Tryd.ntmps6
  go_wp2_with fail
  generalize w.alloc (.cells #[.int .i64 c.kind, .int .i64 c.id, .int .i64 c.ek, .int .i64 c.loan, .int .i64 c.other, .int .i64 c.amount, .slice A c.flows.length cap, .int .i64 c.past, .int .i64 c.down, .bool c.bad, .int .i64 c.n] 54) = wa at HF0 HLY0 HA0 HW0 ⊢
  refine (alive24_any wa HLY0.out).mono ?_
  rintro e w1 ⟨rfl, hb1⟩
  have hz1 := HW0.out.below hb1 HW0.out.lt
  have hl1 := HA0.out.trans (hb1.mono HA0.out.size)
  have HF1 := Lib.hid (HF0.out.below hb1)
  have HLY1 := Lib.hid (HLY0.out.below hb1)
  have HL1 := Lib.hid hl1
  have HZ1 := Lib.hid hz1
  have hzl := hz1.lt
  have z0 : w1.cell? ⟨w.heap.size, 0, none⟩ = some (.int .i64 c.kind) := hz1.cell 0
  have z1 : w1.cell? ⟨w.heap.size, 1, none⟩ = some (.int .i64 c.id) := hz1.cell 1
  have z2 : w1.cell? ⟨w.heap.size, 2, none⟩ = some (.int .i64 c.ek) := hz1.cell 2
  have z3 : w1.cell? ⟨w.heap.size, 3, none⟩ = some (.int .i64 c.loan) := hz1.cell 3
  have z4 : w1.cell? ⟨w.heap.size, 4, none⟩ = some (.int .i64 c.other) := hz1.cell 4
  have z5 : w1.cell? ⟨w.heap.size, 5, none⟩ = some (.int .i64 c.amount) := hz1.cell 5
  have z6 : w1.cell? ⟨w.heap.size, 6, none⟩ = some (.slice A c.flows.length cap) := hz1.cell 6
  have z7 : w1.cell? ⟨w.heap.size, 7, none⟩ = some (.int .i64 c.past) := hz1.cell 7
  have z8 : w1.cell? ⟨w.heap.size, 8, none⟩ = some (.int .i64 c.down) := hz1.cell 8
  have z9 : w1.cell? ⟨w.heap.size, 9, none⟩ = some (.bool c.bad) := hz1.cell 9
  have z10 : w1.cell? ⟨w.heap.size, 10, none⟩ = some (.int .i64 c.n) := hz1.cell 10
  clear hl1 hb1 HF0 HLY0 HA0 HW0
  by_cases h7 : 700 < c.flows.length
  · have h7' : (700 : Int) < (c.flows.length : Int) := by omega
    clear hz1
    go_wp2_with fail
    go_ret
    exact ⟨rfl, HL1.out⟩
  have h7' : ¬ (700 : Int) < (c.flows.length : Int) := by omega
  by_cases h8 : 8000 < line.size
  · have h8' : (8000 : Int) < (line.size : Int) := by omega
    clear hz1
    go_wp2_with fail
    go_ret
    exact ⟨rfl, HL1.out⟩
  have h8' : ¬ (8000 : Int) < (line.size : Int) := by omega
  clear hz1
  go_wp2_with fail
  refine (to24_any c.kind c.id c.ek c.loan c.other c.amount c.past c.down c.n c.bad A cap c.flows w1 HF1.out (by omega)).mono ?_
  rintro e w2 ⟨A2, c2, rfl, hN2, hb2⟩
  have hl2 := HL1.out.trans (hb2.mono HL1.out.size)
  have HF2 := Lib.hid (FlowsIn.of_own hN2)
  have HF2' := Lib.hid (HF1.out.below hb2)
  have HLY2 := Lib.hid (HLY1.out.below hb2)
  have HL2 := Lib.hid hl2
  have HZ2 := Lib.hid (HZ1.out.below hb2 hzl)
  clear hl2 hb2 hN2 HF1 HLY1 HL1 HZ1 z0 z1 z2 z3 z4 z5 z6 z7 z8 z9 z10 hzl
  go_wp2_with fail
  refine (put_any c A2 c2 w2 HF2.out (by omega) hc HLY2.out.pow).mono ?_
  rintro e w3 ⟨hb3, ⟨hput, rfl⟩ | ⟨t, hput, rfl⟩⟩
  · have HLY := Lib.hid (HLY2.out.below hb3)
    have HL5 := Lib.hid (HL2.out.trans (hb3.mono HL2.out.size))
    clear hb3 hput HF2 HLY2 HL2 HZ2 HF2'
    obtain ⟨w5, rfl⟩ : ∃ x : World, x = w3 := ⟨_, rfl⟩
    go_wp2_with fail
    refine (parse_any line w5 (by omega) HLY.out.pow HLY.out.sent HLY.out.shape).mono ?_
    rintro e w6 ⟨hb6, ⟨hp, rfl⟩ | ⟨x, Ax, cx, hp, rfl, hN⟩⟩
    · have HL6 := Lib.hid (HL5.out.trans (hb6.mono HL5.out.size))
      clear hb6 hp
      go_wp2_with fail
      go_ret
      exact ⟨rfl, HL6.out.alloc HL6.out.size _⟩
    · obtain ⟨hput, hfine, h600⟩ := put_parse hp
      have hl6 := HL5.out.trans (hb6.mono HL5.out.size)
      have hAl := (Below.refl _ w6).alloc (Nat.le_refl _) (.cells #[.int .i64 x.kind, .int .i64 x.id, .int .i64 x.ek, .int .i64 x.loan, .int .i64 x.other, .int .i64 x.amount, .slice Ax x.flows.length cx, .int .i64 x.past, .int .i64 x.down, .bool x.bad, .int .i64 x.n] 47)
      have hF := FlowsIn.of_own (hN.below hAl)
      have HF := Lib.hid hF
      have HL6 := Lib.hid (hl6.alloc hl6.size (.cells #[.int .i64 x.kind, .int .i64 x.id, .int .i64 x.ek, .int .i64 x.loan, .int .i64 x.other, .int .i64 x.amount, .slice Ax x.flows.length cx, .int .i64 x.past, .int .i64 x.down, .bool x.bad, .int .i64 x.n] 47))
      have HLY6 := Lib.hid ((HLY.out.below hb6).below hAl)
      have HPUT := Lib.hid hput
      clear hb6 hp hl6 hAl hF hN hput
      go_wp2_with fail
      refine (put_any x Ax cx _ HF.out (by omega) hfine HLY6.out.pow).mono ?_
      rintro e w7 ⟨hb7, ⟨hp2, rfl⟩ | ⟨t2, hp2, rfl⟩⟩
      · rw [HPUT.out] at hp2
        cases hp2
      · rw [HPUT.out] at hp2
        obtain rfl := (Option.some.inj hp2)
        have hbb := told_same line
        have HL7 := Lib.hid (HL6.out.trans (hb7.mono HL6.out.size))
        clear hb7 hp2
        go_wp2_with fail
        go_ret
        exact ⟨ret_bool (by simp), HL7.out⟩
  · have hl3 := HL2.out.trans (hb3.mono HL2.out.size)
    have HLY3 := Lib.hid (HLY2.out.below hb3)
    have HZ3 := Lib.hid (HZ2.out.below hb3 HZ2.out.lt)
    have HF3 := Lib.hid (HF2'.out.below hb3)
    have HL3 := Lib.hid hl3
    have hpar := parse_put hc hput
    have hlen := put_len hc hput (by omega)
    have HPAR := Lib.hid hpar
    clear hl3 hb3 hput HF2 HLY2 HL2 HZ2 HF2' hpar
    go_wp2_with fail
    refine (parse_any ⟨t.toArray⟩ w3 (by rw [← ByteArray.size_data]; simp; omega) HLY3.out.pow HLY3.out.sent HLY3.out.shape).mono ?_
    rintro e w4 ⟨hb4, ⟨hp, rfl⟩ | ⟨x, Ax, cx, hp, rfl, hN⟩⟩
    · have hp' : parseL t = none := hp
      rw [HPAR.out] at hp'
      cases hp'
    · have hp' : parseL t = some x := hp
      rw [HPAR.out] at hp'
      obtain rfl := (Option.some.inj hp')
      have hAl := (Below.refl _ w4).alloc (Nat.le_refl _) (.cells #[.int .i64 c.kind, .int .i64 c.id, .int .i64 c.ek, .int .i64 c.loan, .int .i64 c.other, .int .i64 c.amount, .slice Ax c.flows.length cx, .int .i64 c.past, .int .i64 c.down, .bool c.bad, .int .i64 c.n] 47)
      have hl4 := HL3.out.trans (hb4.mono HL3.out.size)
      have hW4 := Whole.new w4 47 #[.int .i64 c.kind, .int .i64 c.id, .int .i64 c.ek, .int .i64 c.loan, .int .i64 c.other, .int .i64 c.amount, .slice Ax c.flows.length cx, .int .i64 c.past, .int .i64 c.down, .bool c.bad, .int .i64 c.n]
      have HW4 := Lib.hid hW4
      have HZ4 := Lib.hid ((HZ3.out.below hb4 HZ3.out.lt).alloc (.cells #[.int .i64 c.kind, .int .i64 c.id, .int .i64 c.ek, .int .i64 c.loan, .int .i64 c.other, .int .i64 c.amount, .slice Ax c.flows.length cx, .int .i64 c.past, .int .i64 c.down, .bool c.bad, .int .i64 c.n] 47))
      have HF4 := Lib.hid ((HF3.out.below hb4).below hAl)
      have HX4 := Lib.hid (FlowsIn.of_own (hN.below hAl))
      have HL4 := Lib.hid (hl4.alloc hl4.size (.cells #[.int .i64 c.kind, .int .i64 c.id, .int .i64 c.ek, .int .i64 c.loan, .int .i64 c.other, .int .i64 c.amount, .slice Ax c.flows.length cx, .int .i64 c.past, .int .i64 c.down, .bool c.bad, .int .i64 c.n] 47))
      have HLY4 := Lib.hid ((HLY3.out.below hb4).below hAl)
      clear hb4 hp hp' hN hAl hl4 hW4 HZ3 HF3 HL3 HLY3
      go_wp2_with fail
      generalize w4.alloc (.cells #[.int .i64 c.kind, .int .i64 c.id, .int .i64 c.ek, .int .i64 c.loan, .int .i64 c.other, .int .i64 c.amount, .slice Ax c.flows.length cx, .int .i64 c.past, .int .i64 c.down, .bool c.bad, .int .i64 c.n] 47) = W4 at HW4 HZ4 HF4 HX4 HL4 HLY4 ⊢
      generalize w4.heap.size = g4 at HW4 ⊢
      have hwl := HW4.out.lt
      have hzl4 := HZ4.out.lt
      have HWd := Lib.hid (show Whole W4.drew g4 47 #[.int .i64 c.kind, .int .i64 c.id, .int .i64 c.ek, .int .i64 c.loan, .int .i64 c.other, .int .i64 c.amount, .slice Ax c.flows.length cx, .int .i64 c.past, .int .i64 c.down, .bool c.bad, .int .i64 c.n] from HW4.out)
      have HZd := Lib.hid (show Whole W4.drew w.heap.size 54 #[.int .i64 c.kind, .int .i64 c.id, .int .i64 c.ek, .int .i64 c.loan, .int .i64 c.other, .int .i64 c.amount, .slice A c.flows.length cap, .int .i64 c.past, .int .i64 c.down, .bool c.bad, .int .i64 c.n] from HZ4.out)
      have HXd := Lib.hid (HX4.out.below (Below.refl W4.heap.size W4).drew)
      go_region_held3 (fun w' => (w'.cell? ⟨g4, 0, none⟩ = some (.int .i64 c.kind) ∧ w'.cell? ⟨g4, 1, none⟩ = some (.int .i64 c.id) ∧ w'.cell? ⟨g4, 2, none⟩ = some (.int .i64 c.ek) ∧ w'.cell? ⟨g4, 3, none⟩ = some (.int .i64 c.loan) ∧ w'.cell? ⟨g4, 4, none⟩ = some (.int .i64 c.other) ∧ w'.cell? ⟨g4, 5, none⟩ = some (.int .i64 c.amount) ∧ w'.cell? ⟨g4, 6, none⟩ = some (.slice Ax c.flows.length cx) ∧ w'.cell? ⟨g4, 7, none⟩ = some (.int .i64 c.past) ∧ w'.cell? ⟨g4, 8, none⟩ = some (.int .i64 c.down) ∧ w'.cell? ⟨g4, 9, none⟩ = some (.bool c.bad) ∧ w'.cell? ⟨g4, 10, none⟩ = some (.int .i64 c.n)) ∧ (w'.cell? ⟨w.heap.size, 0, none⟩ = some (.int .i64 c.kind) ∧ w'.cell? ⟨w.heap.size, 1, none⟩ = some (.int .i64 c.id) ∧ w'.cell? ⟨w.heap.size, 2, none⟩ = some (.int .i64 c.ek) ∧ w'.cell? ⟨w.heap.size, 3, none⟩ = some (.int .i64 c.loan) ∧ w'.cell? ⟨w.heap.size, 4, none⟩ = some (.int .i64 c.other) ∧ w'.cell? ⟨w.heap.size, 5, none⟩ = some (.int .i64 c.amount) ∧ w'.cell? ⟨w.heap.size, 6, none⟩ = some (.slice A c.flows.length cap) ∧ w'.cell? ⟨w.heap.size, 7, none⟩ = some (.int .i64 c.past) ∧ w'.cell? ⟨w.heap.size, 8, none⟩ = some (.int .i64 c.down) ∧ w'.cell? ⟨w.heap.size, 9, none⟩ = some (.bool c.bad) ∧ w'.cell? ⟨w.heap.size, 10, none⟩ = some (.int .i64 c.n)))
        (first | (with_reducible exact both HWb HZb) | (with_reducible exact both HWa HZa) | (with_reducible exact both HWd.out HZd.out))
        (first
          | (go_at_call 20; refine (from_any c.kind c.id c.ek c.loan c.other c.amount c.past c.down c.n c.bad Ax cx c.flows W4.drew HXd.out (by omega)).mono ?_; rintro e w5 ⟨A5, c5, rfl, hN5, hb5'⟩; have hb5 := below_undrew hb5'; have HWa := HW4.out.below hb5 hwl; have HZa := HZ4.out.below hb5 hzl4; have HF5 := HF4.out.below hb5)
          | (go_at_call 19; refine (same24 c c A5 A c5 cap true w5 hN5.src HF5.src (by omega) (by omega) (by simp)).mono ?_; rintro e w6 ⟨rfl, hb6⟩; have HWb := HWa.below hb6 HWa.lt; have HZb := HZa.below hb6 HZa.lt))
      have hb46 := hb5.trans (hb6.mono hb5.size)
      have HLY := Lib.hid (HLY4.out.below hb46)
      have HL5 := Lib.hid (HL4.out.trans (hb46.mono HL4.out.size))
      clear hb46 hb6 hb5 hb5' HWa HZa HWb HZb HF5 hN5 HWd HZd HXd HW4 HZ4 HF4 HX4 HL4 HLY4
      obtain ⟨w7, rfl⟩ : ∃ x : World, x = w5 := ⟨_, rfl⟩
      obtain ⟨w5, rfl⟩ : ∃ x : World, x = w6 := ⟨_, rfl⟩
      go_wp2_with fail
      refine (parse_any line w5 (by omega) HLY.out.pow HLY.out.sent HLY.out.shape).mono ?_
      rintro e w6 ⟨hb6, ⟨hp, rfl⟩ | ⟨x, Ax, cx, hp, rfl, hN⟩⟩
      · have HL6 := Lib.hid (HL5.out.trans (hb6.mono HL5.out.size))
        clear hb6 hp
        go_wp2_with fail
        go_ret
        exact ⟨rfl, HL6.out.alloc HL6.out.size _⟩
      · obtain ⟨hput, hfine, h600⟩ := put_parse hp
        have hl6 := HL5.out.trans (hb6.mono HL5.out.size)
        have hAl := (Below.refl _ w6).alloc (Nat.le_refl _) (.cells #[.int .i64 x.kind, .int .i64 x.id, .int .i64 x.ek, .int .i64 x.loan, .int .i64 x.other, .int .i64 x.amount, .slice Ax x.flows.length cx, .int .i64 x.past, .int .i64 x.down, .bool x.bad, .int .i64 x.n] 47)
        have hF := FlowsIn.of_own (hN.below hAl)
        have HF := Lib.hid hF
        have HL6 := Lib.hid (hl6.alloc hl6.size (.cells #[.int .i64 x.kind, .int .i64 x.id, .int .i64 x.ek, .int .i64 x.loan, .int .i64 x.other, .int .i64 x.amount, .slice Ax x.flows.length cx, .int .i64 x.past, .int .i64 x.down, .bool x.bad, .int .i64 x.n] 47))
        have HLY6 := Lib.hid ((HLY.out.below hb6).below hAl)
        have HPUT := Lib.hid hput
        clear hb6 hp hl6 hAl hF hN hput
        go_wp2_with fail
        refine (put_any x Ax cx _ HF.out (by omega) hfine HLY6.out.pow).mono ?_
        rintro e w7 ⟨hb7, ⟨hp2, rfl⟩ | ⟨t2, hp2, rfl⟩⟩
        · rw [HPUT.out] at hp2
          cases hp2
        · rw [HPUT.out] at hp2
          obtain rfl := (Option.some.inj hp2)
          have hbb := told_same line
          have HL7 := Lib.hid (HL6.out.trans (hb7.mono HL6.out.size))
          clear hb7 hp2
          go_wp2_with fail
          go_ret
          exact ⟨ret_bool (by simp), HL7.out⟩
end Go.Proofs.YtdmopagkahgepaaDoor
