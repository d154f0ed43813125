/- lombardlaw24.alive: the document's examples. -/
import Derived.Test.YtdmopagkahgepaaDoorUi
namespace Go.Proofs.YtdmopagkahgepaaDoor
open Go.RowKit Go.Maps Go.ChangeMaps Go.ChangeShapes

/-- What the library's variables are, as a call begins: strconv's table and its two sentinels; all shapes. -/
structure Lay (w : World) : Prop where
  pow : Pow w
  sent : Sent w
  shape : ∀ w', Below w.heap.size w w' → w'.ShapedOpen Tryd.prog
theorem Lay.below {w w' : World} (h : Lay w) (hb : Below w.heap.size w w') : Lay w' :=
  ⟨h.pow.below hb (Nat.le_refl _), h.sent.below hb (Nat.le_refl _), fun w2 h2 => h.shape w2 (hb.trans (h2.mono hb.size))⟩

theorem parse_open_any (w : World) (h : Lay w) : Calls Tryd.prog 17 #[.string ⟨#[111, 112, 101, 110, 32, 55, 32, 49, 32, 49, 48, 48, 48, 32, 53, 48, 48, 32, 54, 48, 53]⟩] w fun e w' => ∃ A c,
    e = .returned (.tuple #[.agg #[.int .i64 1, .int .i64 7, .int .i64 1, .int .i64 1, .int .i64 0, .int .i64 1000, .slice A 2 c, .int .i64 0, .int .i64 0, .bool false, .int .i64 0], .int .i64 0]) ∧ NumsOwn w' w.heap.size (.slice A 2 c) [500, 605] ∧ Below w.heap.size w w' := by
  refine (parse_any ⟨#[111, 112, 101, 110, 32, 55, 32, 49, 32, 49, 48, 48, 48, 32, 53, 48, 48, 32, 54, 48, 53]⟩ w (by decide) h.pow h.sent h.shape).mono ?_
  have hp : parseL (⟨#[111, 112, 101, 110, 32, 55, 32, 49, 32, 49, 48, 48, 48, 32, 53, 48, 48, 32, 54, 48, 53]⟩ : ByteArray).data.toList = some openCmd := parse_open
  rintro e w' ⟨hb, ⟨h0, _⟩ | ⟨x, A, c, h1, rfl, hN⟩⟩
  · rw [hp] at h0
    cases h0
  · rw [hp] at h1
    cases h1
    exact ⟨A, c, rfl, hN, hb⟩
theorem parse_close_any (w : World) (h : Lay w) : Calls Tryd.prog 17 #[.string ⟨#[99, 108, 111, 115, 101, 32, 48, 55]⟩] w fun e w' =>
    e = .returned (.tuple #[.agg #[.int .i64 0, .int .i64 0, .int .i64 0, .int .i64 0, .int .i64 0, .int .i64 0, .slice none 0 0, .int .i64 0, .int .i64 0, .bool false, .int .i64 0], .int .i64 6]) ∧ Below w.heap.size w w' := by
  refine (parse_any ⟨#[99, 108, 111, 115, 101, 32, 48, 55]⟩ w (by decide) h.pow h.sent h.shape).mono ?_
  have hp : parseL (⟨#[99, 108, 111, 115, 101, 32, 48, 55]⟩ : ByteArray).data.toList = none := parse_close
  rintro e w' ⟨hb, ⟨h0, rfl⟩ | ⟨x, A, c, h1, rfl, hN⟩⟩
  · exact ⟨rfl, hb⟩
  · rw [hp] at h1
    cases h1
theorem put_report_any (w : World) (h : Lay w) : Calls Tryd.prog 21 #[.agg #[.int .i64 13, .int .i64 0, .int .i64 0, .int .i64 0, .int .i64 0, .int .i64 0, .slice none 0 0, .int .i64 0, .int .i64 0, .bool false, .int .i64 3]] w fun e w' =>
    e = .returned (.tuple #[.string ⟨#[114, 101, 112, 111, 114, 116, 32, 51]⟩, .int .i64 0]) ∧ Below w.heap.size w w' := by
  have hF : FlowsIn w none 0 [] := ⟨⟨none, 0, rfl, fun i hi => by cases hi⟩, fun _ => rfl⟩
  have hfine : reportCmd.Fine := by
    refine ⟨?_, ?_, ?_, ?_, ?_, ?_, ?_, ?_⟩
    all_goals simp [reportCmd, In64]
  refine (put_any reportCmd none 0 w hF (by decide) hfine h.pow).mono ?_
  rintro e w' ⟨hb, ⟨h0, rfl⟩ | ⟨t, h1, rfl⟩⟩
  · rw [put_report] at h0
    cases h0
  · rw [put_report] at h1
    cases h1
    exact ⟨rfl, hb⟩

set_option maxRecDepth 100000 in
set_option maxHeartbeats 2000000 in
theorem alive24_any (w : World) (h : Lay w) : Calls Tryd.prog 16 #[] w fun e w' => e = .returned (.bool true) ∧ Below w.heap.size w w' := by
  go_enter Tryd.func16, Tryd.ntmps16
  go_wp2_with fail
  refine (parse_open_any w h).mono ?_
  rintro e w1 ⟨A, c, rfl, hN1, hb1⟩
  have hA1 := (Below.refl _ w1).alloc (Nat.le_refl _) (.cells #[.int .i64 1, .int .i64 7, .int .i64 1, .int .i64 1, .int .i64 0, .int .i64 1000, .slice A 2 c, .int .i64 0, .int .i64 0, .bool false, .int .i64 0] 47)
  have hW := Whole.new w1 47 #[.int .i64 1, .int .i64 7, .int .i64 1, .int .i64 1, .int .i64 0, .int .i64 1000, .slice A 2 c, .int .i64 0, .int .i64 0, .bool false, .int .i64 0]
  have hz : (w1.alloc (.cells #[.int .i64 1, .int .i64 7, .int .i64 1, .int .i64 1, .int .i64 0, .int .i64 1000, .slice A 2 c, .int .i64 0, .int .i64 0, .bool false, .int .i64 0] 47)).heap.size = w1.heap.size + 1 := World.size_alloc _ _
  have hN2 := hN1.below hA1
  have hb2 := hb1.trans (hA1.mono hb1.size)
  have hL2 := (h.below hb1).below hA1
  have HW := Lib.hid hW
  have HN2 := Lib.hid hN2
  have HB2 := Lib.hid hb2
  clear hA1 hW hN1 hN2 hb1 hb2
  go_wp2_with fail
  generalize w1.alloc (.cells #[.int .i64 1, .int .i64 7, .int .i64 1, .int .i64 1, .int .i64 0, .int .i64 1000, .slice A 2 c, .int .i64 0, .int .i64 0, .bool false, .int .i64 0] 47) = w2 at HW HN2 HB2 hL2 hz ⊢
  refine (parse_close_any w2 hL2).mono ?_
  rintro e w3 ⟨rfl, hb3⟩
  have hW3 := HW.out.below hb3 (by omega)
  have hN3 := HN2.out.below hb3
  have hl3 := HB2.out.trans (hb3.mono HB2.out.size)
  have hA3 := (Below.refl _ w3).alloc (Nat.le_refl _) (.cells #[.int .i64 0, .int .i64 0, .int .i64 0, .int .i64 0, .int .i64 0, .int .i64 0, .slice none 0 0, .int .i64 0, .int .i64 0, .bool false, .int .i64 0] 47)
  have hL4 := (hL2.below hb3).below hA3
  have hz3 := hW3.lt
  have HW4 := Lib.hid (hW3.alloc (.cells #[.int .i64 0, .int .i64 0, .int .i64 0, .int .i64 0, .int .i64 0, .int .i64 0, .slice none 0 0, .int .i64 0, .int .i64 0, .bool false, .int .i64 0] 47))
  have HN4 := Lib.hid (hN3.below hA3)
  have HB4 := Lib.hid (hl3.trans (hA3.mono hl3.size))
  clear hW3 hN3 hl3 hA3 hb3 HW HN2 HB2 hz hL2
  go_wp2_with fail
  generalize w3.alloc (.cells #[.int .i64 0, .int .i64 0, .int .i64 0, .int .i64 0, .int .i64 0, .int .i64 0, .slice none 0 0, .int .i64 0, .int .i64 0, .bool false, .int .i64 0] 47) = w4 at HW4 HN4 HB4 hL4 ⊢
  refine (put_report_any w4 hL4).mono ?_
  rintro e w5 ⟨rfl, hb5⟩
  have hW5 := HW4.out.below hb5 HW4.out.lt
  have hN5 := (HN4.out.below hb5).nums
  have HB5 := Lib.hid (HB4.out.trans (hb5.mono HB4.out.size))
  obtain ⟨A', c', e', hat⟩ := hN5
  cases e'
  obtain ⟨g, rfl, hg, c1⟩ := hat 1 (by decide)
  have c1 : w5.cell? ⟨g, 1, none⟩ = some (.int .i64 605) := c1
  have e0 : w5.cell? ⟨w1.heap.size, 0, none⟩ = some (.int .i64 1) := hW5.cell 0
  have e1 : w5.cell? ⟨w1.heap.size, 1, none⟩ = some (.int .i64 7) := hW5.cell 1
  have e5 : w5.cell? ⟨w1.heap.size, 5, none⟩ = some (.int .i64 1000) := hW5.cell 5
  have e6 : w5.cell? ⟨w1.heap.size, 6, none⟩ = some (.slice (some ⟨g, 0, none⟩) 2 c) := hW5.cell 6
  clear hb5 hat hW5 HW4 HN4 HB4
  go_wp2_with fail
  go_ret
  exact ⟨rfl, HB5.out⟩
end Go.Proofs.YtdmopagkahgepaaDoor
