/- lombardref24.numbers: those that a command's line tells. -/
import Derived.Test.YtdmopagkahgepaaDoorXj
namespace Go.Proofs.YtdmopagkahgepaaDoor
open Go.RowKit Go.Maps Go.ChangeMaps Go.ChangeShapes

theorem NumsOwn.lit (w : World) (base : Nat) (cs : Array Value) (xs : List Int) (hc : cs.toList = xs.map (Value.int .i64)) (hb : base ≤ w.heap.size) (hl : xs.length ≤ 1000) : NumsOwn (w.alloc (.cells cs 2)) base (.slice (some ⟨w.heap.size, 0, none⟩) xs.length xs.length) xs := by
  have hs : cs.size = xs.length := by
    rw [← Array.length_toList, hc, List.length_map]
  refine ⟨by simp, .inr ⟨_, xs.length, cs, rfl, hb, Whole.new w 2 cs, Nat.le_refl _, by unfold maxLen; omega, by rw [hs, Nat.mul_one], ?_⟩⟩
  rw [Nat.mul_one, hc, List.take_of_length_le (by simp)]
/-- What numbers comes to. -/
abbrev NumsSaid (k : Int) : Prop := ∀ (c : Cmd) (A : Option Addr) (cap : Nat) (w : World), c.kind = k → FlowsIn w A cap c.flows → c.flows.length ≤ 700 →
    Calls Tryd.prog 50 #[.agg #[.int .i64 c.kind, .int .i64 c.id, .int .i64 c.ek, .int .i64 c.loan, .int .i64 c.other, .int .i64 c.amount, .slice A c.flows.length cap, .int .i64 c.past, .int .i64 c.down, .bool c.bad, .int .i64 c.n]] w fun e w' => ∃ A' c', e = .returned (.slice A' (numsOf c).length c') ∧ NumsOwn w' w.heap.size (.slice A' (numsOf c).length c') (numsOf c) ∧ Below w.heap.size w w'
theorem newE (cs : Array Value) (o : Obj) (w : World) : Whole ((w.alloc o).alloc (.cells cs 52)) (w.heap.size + 1) 52 cs := by
  have := Whole.new (w.alloc o) 52 cs
  rw [World.size_alloc] at this
  exact this
theorem nil_own' (w : World) (B : Nat) : NumsOwn w B (.slice none 0 0) [] := World.ownsRow_nil _ _ _ _
set_option maxRecDepth 100000 in
set_option maxHeartbeats 8000000 in
theorem nums_1 : NumsSaid 1 := by
  intro c A cap w hk hF hn
  have hnum : numsOf c = [c.id, c.loan, c.amount] ++ c.flows := by
    unfold numsOf
    rw [hk]
    simp [fieldsOf, Cmd.fld]
  rw [hnum, hk]
  clear hnum hk
  have HB1 := Lib.hid (newB (.cells #[.int .i64 1, .int .i64 c.id, .int .i64 c.ek, .int .i64 c.loan, .int .i64 c.other, .int .i64 c.amount, .slice A c.flows.length cap, .int .i64 c.past, .int .i64 c.down, .bool c.bad, .int .i64 c.n] 54) (.cells #[.int .i64 c.id, .int .i64 c.ek, .int .i64 c.loan, .int .i64 c.other, .int .i64 c.amount, .slice A c.flows.length cap, .int .i64 c.past, .int .i64 c.down, .bool c.bad] 52) w)
  have HC1 := Lib.hid (newR #[.int .i64 1, .int .i64 c.id, .int .i64 c.ek, .int .i64 c.loan, .int .i64 c.other, .int .i64 c.amount, .slice A c.flows.length cap, .int .i64 c.past, .int .i64 c.down, .bool c.bad, .int .i64 c.n] (.cells #[.int .i64 c.id, .int .i64 c.ek, .int .i64 c.loan, .int .i64 c.other, .int .i64 c.amount, .slice A c.flows.length cap, .int .i64 c.past, .int .i64 c.down, .bool c.bad] 52) w)
  have HE1 := Lib.hid (newE #[.int .i64 c.id, .int .i64 c.ek, .int .i64 c.loan, .int .i64 c.other, .int .i64 c.amount, .slice A c.flows.length cap, .int .i64 c.past, .int .i64 c.down, .bool c.bad] (.cells #[.int .i64 1, .int .i64 c.id, .int .i64 c.ek, .int .i64 c.loan, .int .i64 c.other, .int .i64 c.amount, .slice A c.flows.length cap, .int .i64 c.past, .int .i64 c.down, .bool c.bad, .int .i64 c.n] 54) w)
  have HF1 := Lib.hid (hF.below HB1.out)
  clear hF
  go_enter Tryd.func50, Tryd.ntmps50
  go_wp2_with fail
  generalize ((w.alloc (.cells #[.int .i64 1, .int .i64 c.id, .int .i64 c.ek, .int .i64 c.loan, .int .i64 c.other, .int .i64 c.amount, .slice A c.flows.length cap, .int .i64 c.past, .int .i64 c.down, .bool c.bad, .int .i64 c.n] 54)).alloc (.cells #[.int .i64 c.id, .int .i64 c.ek, .int .i64 c.loan, .int .i64 c.other, .int .i64 c.amount, .slice A c.flows.length cap, .int .i64 c.past, .int .i64 c.down, .bool c.bad] 52)) = W at HB1 HC1 HE1 HF1 ⊢
  have hcl := HC1.out.lt
  have hel := HE1.out.lt
  have hWs := HB1.out.size
  obtain ⟨e0, e1, e2, e3, e4, e5, e6, e7, e8⟩ := nine HE1.out
  go_region_held3 (fun w' => w'.cell? ⟨w.heap.size + 1, 0, none⟩ = some (.int .i64 c.id) ∧ w'.cell? ⟨w.heap.size + 1, 2, none⟩ = some (.int .i64 c.loan)) (exact ⟨e0, e2⟩) (fail)
  have HBd := Lib.hid (show Below w.heap.size w W.drew from HB1.out.drew)
  have HCd := Lib.hid (show Whole W.drew w.heap.size 54 #[.int .i64 1, .int .i64 c.id, .int .i64 c.ek, .int .i64 c.loan, .int .i64 c.other, .int .i64 c.amount, .slice A c.flows.length cap, .int .i64 c.past, .int .i64 c.down, .bool c.bad, .int .i64 c.n] from HC1.out)
  have HEd := Lib.hid (show Whole W.drew (w.heap.size + 1) 52 #[.int .i64 c.id, .int .i64 c.ek, .int .i64 c.loan, .int .i64 c.other, .int .i64 c.amount, .slice A c.flows.length cap, .int .i64 c.past, .int .i64 c.down, .bool c.bad] from HE1.out)
  have HFd := Lib.hid (HF1.out.below (Below.refl W.heap.size W).drew)
  have hcl : w.heap.size < W.drew.heap.size := hcl
  have hel : w.heap.size + 1 < W.drew.heap.size := hel
  have hWs : w.heap.size ≤ W.drew.heap.size := hWs
  clear e0 e1 e2 e3 e4 e5 e6 e7 e8 HB1 HC1 HE1 HF1
  generalize W.drew = W2 at HBd HCd HEd HFd hcl hel hWs ⊢
  obtain ⟨f0, f1, f2, f3, f4, f5, f6, f7, f8, f9, f10⟩ := elev HCd.out
  obtain ⟨e0, e1, e2, e3, e4, e5, e6, e7, e8⟩ := nine HEd.out
  have HE := Lib.hid (NumsOwn.lit W2 W2.heap.size #[.int .i64 c.id, .int .i64 c.loan, .int .i64 c.amount] [c.id, c.loan, c.amount] rfl (Nat.le_refl _) (by simp))
  have HFa := Lib.hid (HFd.out.below ((Below.refl _ W2).alloc (Nat.le_refl _) (.cells #[.int .i64 c.id, .int .i64 c.loan, .int .i64 c.amount] 2)))
  have HBa := Lib.hid (HBd.out.alloc hWs (.cells #[.int .i64 c.id, .int .i64 c.loan, .int .i64 c.amount] 2))
  have HBZ := Lib.hid (World.alloc_le W2 (.cells #[.int .i64 c.id, .int .i64 c.loan, .int .i64 c.amount] 2))
  go_wp2_with (at_builtin; refine wpList_append_flows rfl _ _ rfl W2.heap.size _ [c.id, c.loan, c.amount] rfl HE.out A cap c.flows rfl HFa.out (by simp; omega) HBZ.out ?_; intro A' c' w3 hN3 hg3; have HN3 := Lib.hid hN3; have HG3 := Lib.hid hg3; clear hN3 hg3)
  go_ret
  exact ⟨A', c', rfl, HN3.out.lower hWs, HBa.out.grown HG3.out (Nat.le_trans hWs HBZ.out) (fun i e => by cases e; exact hWs)⟩
set_option maxRecDepth 100000 in
set_option maxHeartbeats 8000000 in
theorem nums_2 : NumsSaid 2 := by
  intro c A cap w hk hF hn
  have hnum : numsOf c = [c.id, c.loan, c.amount] := by
    unfold numsOf
    rw [hk]
    simp [fieldsOf, Cmd.fld]
  rw [hnum, hk]
  clear hnum hk
  have HB1 := Lib.hid (newB (.cells #[.int .i64 2, .int .i64 c.id, .int .i64 c.ek, .int .i64 c.loan, .int .i64 c.other, .int .i64 c.amount, .slice A c.flows.length cap, .int .i64 c.past, .int .i64 c.down, .bool c.bad, .int .i64 c.n] 54) (.cells #[.int .i64 c.id, .int .i64 c.ek, .int .i64 c.loan, .int .i64 c.other, .int .i64 c.amount, .slice A c.flows.length cap, .int .i64 c.past, .int .i64 c.down, .bool c.bad] 52) w)
  have HC1 := Lib.hid (newR #[.int .i64 2, .int .i64 c.id, .int .i64 c.ek, .int .i64 c.loan, .int .i64 c.other, .int .i64 c.amount, .slice A c.flows.length cap, .int .i64 c.past, .int .i64 c.down, .bool c.bad, .int .i64 c.n] (.cells #[.int .i64 c.id, .int .i64 c.ek, .int .i64 c.loan, .int .i64 c.other, .int .i64 c.amount, .slice A c.flows.length cap, .int .i64 c.past, .int .i64 c.down, .bool c.bad] 52) w)
  have HE1 := Lib.hid (newE #[.int .i64 c.id, .int .i64 c.ek, .int .i64 c.loan, .int .i64 c.other, .int .i64 c.amount, .slice A c.flows.length cap, .int .i64 c.past, .int .i64 c.down, .bool c.bad] (.cells #[.int .i64 2, .int .i64 c.id, .int .i64 c.ek, .int .i64 c.loan, .int .i64 c.other, .int .i64 c.amount, .slice A c.flows.length cap, .int .i64 c.past, .int .i64 c.down, .bool c.bad, .int .i64 c.n] 54) w)
  have HF1 := Lib.hid (hF.below HB1.out)
  clear hF
  go_enter Tryd.func50, Tryd.ntmps50
  go_wp2_with fail
  generalize ((w.alloc (.cells #[.int .i64 2, .int .i64 c.id, .int .i64 c.ek, .int .i64 c.loan, .int .i64 c.other, .int .i64 c.amount, .slice A c.flows.length cap, .int .i64 c.past, .int .i64 c.down, .bool c.bad, .int .i64 c.n] 54)).alloc (.cells #[.int .i64 c.id, .int .i64 c.ek, .int .i64 c.loan, .int .i64 c.other, .int .i64 c.amount, .slice A c.flows.length cap, .int .i64 c.past, .int .i64 c.down, .bool c.bad] 52)) = W at HB1 HC1 HE1 HF1 ⊢
  have hcl := HC1.out.lt
  have hel := HE1.out.lt
  have hWs := HB1.out.size
  obtain ⟨e0, e1, e2, e3, e4, e5, e6, e7, e8⟩ := nine HE1.out
  go_region_held3 (fun w' => w'.cell? ⟨w.heap.size + 1, 0, none⟩ = some (.int .i64 c.id) ∧ w'.cell? ⟨w.heap.size + 1, 2, none⟩ = some (.int .i64 c.loan)) (exact ⟨e0, e2⟩) (fail)
  have HBd := Lib.hid (show Below w.heap.size w W.drew from HB1.out.drew)
  have HCd := Lib.hid (show Whole W.drew w.heap.size 54 #[.int .i64 2, .int .i64 c.id, .int .i64 c.ek, .int .i64 c.loan, .int .i64 c.other, .int .i64 c.amount, .slice A c.flows.length cap, .int .i64 c.past, .int .i64 c.down, .bool c.bad, .int .i64 c.n] from HC1.out)
  have HEd := Lib.hid (show Whole W.drew (w.heap.size + 1) 52 #[.int .i64 c.id, .int .i64 c.ek, .int .i64 c.loan, .int .i64 c.other, .int .i64 c.amount, .slice A c.flows.length cap, .int .i64 c.past, .int .i64 c.down, .bool c.bad] from HE1.out)
  have HFd := Lib.hid (HF1.out.below (Below.refl W.heap.size W).drew)
  have hcl : w.heap.size < W.drew.heap.size := hcl
  have hel : w.heap.size + 1 < W.drew.heap.size := hel
  have hWs : w.heap.size ≤ W.drew.heap.size := hWs
  clear e0 e1 e2 e3 e4 e5 e6 e7 e8 HB1 HC1 HE1 HF1
  generalize W.drew = W2 at HBd HCd HEd HFd hcl hel hWs ⊢
  obtain ⟨f0, f1, f2, f3, f4, f5, f6, f7, f8, f9, f10⟩ := elev HCd.out
  obtain ⟨e0, e1, e2, e3, e4, e5, e6, e7, e8⟩ := nine HEd.out
  go_wp2_with fail
  go_ret
  exact ⟨_, _, rfl, (NumsOwn.lit W2 _ #[.int .i64 c.id, .int .i64 c.loan, .int .i64 c.amount] [c.id, c.loan, c.amount] rfl hWs (by simp)), HBd.out.alloc hWs _⟩
set_option maxRecDepth 100000 in
set_option maxHeartbeats 8000000 in
theorem nums_3 : NumsSaid 3 := by
  intro c A cap w hk hF hn
  have hnum : numsOf c = [c.id, c.loan, c.amount] := by
    unfold numsOf
    rw [hk]
    simp [fieldsOf, Cmd.fld]
  rw [hnum, hk]
  clear hnum hk
  have HB1 := Lib.hid (newB (.cells #[.int .i64 3, .int .i64 c.id, .int .i64 c.ek, .int .i64 c.loan, .int .i64 c.other, .int .i64 c.amount, .slice A c.flows.length cap, .int .i64 c.past, .int .i64 c.down, .bool c.bad, .int .i64 c.n] 54) (.cells #[.int .i64 c.id, .int .i64 c.ek, .int .i64 c.loan, .int .i64 c.other, .int .i64 c.amount, .slice A c.flows.length cap, .int .i64 c.past, .int .i64 c.down, .bool c.bad] 52) w)
  have HC1 := Lib.hid (newR #[.int .i64 3, .int .i64 c.id, .int .i64 c.ek, .int .i64 c.loan, .int .i64 c.other, .int .i64 c.amount, .slice A c.flows.length cap, .int .i64 c.past, .int .i64 c.down, .bool c.bad, .int .i64 c.n] (.cells #[.int .i64 c.id, .int .i64 c.ek, .int .i64 c.loan, .int .i64 c.other, .int .i64 c.amount, .slice A c.flows.length cap, .int .i64 c.past, .int .i64 c.down, .bool c.bad] 52) w)
  have HE1 := Lib.hid (newE #[.int .i64 c.id, .int .i64 c.ek, .int .i64 c.loan, .int .i64 c.other, .int .i64 c.amount, .slice A c.flows.length cap, .int .i64 c.past, .int .i64 c.down, .bool c.bad] (.cells #[.int .i64 3, .int .i64 c.id, .int .i64 c.ek, .int .i64 c.loan, .int .i64 c.other, .int .i64 c.amount, .slice A c.flows.length cap, .int .i64 c.past, .int .i64 c.down, .bool c.bad, .int .i64 c.n] 54) w)
  have HF1 := Lib.hid (hF.below HB1.out)
  clear hF
  go_enter Tryd.func50, Tryd.ntmps50
  go_wp2_with fail
  generalize ((w.alloc (.cells #[.int .i64 3, .int .i64 c.id, .int .i64 c.ek, .int .i64 c.loan, .int .i64 c.other, .int .i64 c.amount, .slice A c.flows.length cap, .int .i64 c.past, .int .i64 c.down, .bool c.bad, .int .i64 c.n] 54)).alloc (.cells #[.int .i64 c.id, .int .i64 c.ek, .int .i64 c.loan, .int .i64 c.other, .int .i64 c.amount, .slice A c.flows.length cap, .int .i64 c.past, .int .i64 c.down, .bool c.bad] 52)) = W at HB1 HC1 HE1 HF1 ⊢
  have hcl := HC1.out.lt
  have hel := HE1.out.lt
  have hWs := HB1.out.size
  obtain ⟨e0, e1, e2, e3, e4, e5, e6, e7, e8⟩ := nine HE1.out
  go_region_held3 (fun w' => w'.cell? ⟨w.heap.size + 1, 0, none⟩ = some (.int .i64 c.id) ∧ w'.cell? ⟨w.heap.size + 1, 2, none⟩ = some (.int .i64 c.loan)) (exact ⟨e0, e2⟩) (fail)
  have HBd := Lib.hid (show Below w.heap.size w W.drew from HB1.out.drew)
  have HCd := Lib.hid (show Whole W.drew w.heap.size 54 #[.int .i64 3, .int .i64 c.id, .int .i64 c.ek, .int .i64 c.loan, .int .i64 c.other, .int .i64 c.amount, .slice A c.flows.length cap, .int .i64 c.past, .int .i64 c.down, .bool c.bad, .int .i64 c.n] from HC1.out)
  have HEd := Lib.hid (show Whole W.drew (w.heap.size + 1) 52 #[.int .i64 c.id, .int .i64 c.ek, .int .i64 c.loan, .int .i64 c.other, .int .i64 c.amount, .slice A c.flows.length cap, .int .i64 c.past, .int .i64 c.down, .bool c.bad] from HE1.out)
  have HFd := Lib.hid (HF1.out.below (Below.refl W.heap.size W).drew)
  have hcl : w.heap.size < W.drew.heap.size := hcl
  have hel : w.heap.size + 1 < W.drew.heap.size := hel
  have hWs : w.heap.size ≤ W.drew.heap.size := hWs
  clear e0 e1 e2 e3 e4 e5 e6 e7 e8 HB1 HC1 HE1 HF1
  generalize W.drew = W2 at HBd HCd HEd HFd hcl hel hWs ⊢
  obtain ⟨f0, f1, f2, f3, f4, f5, f6, f7, f8, f9, f10⟩ := elev HCd.out
  obtain ⟨e0, e1, e2, e3, e4, e5, e6, e7, e8⟩ := nine HEd.out
  go_wp2_with fail
  go_ret
  exact ⟨_, _, rfl, (NumsOwn.lit W2 _ #[.int .i64 c.id, .int .i64 c.loan, .int .i64 c.amount] [c.id, c.loan, c.amount] rfl hWs (by simp)), HBd.out.alloc hWs _⟩
set_option maxRecDepth 100000 in
set_option maxHeartbeats 8000000 in
theorem nums_4 : NumsSaid 4 := by
  intro c A cap w hk hF hn
  have hnum : numsOf c = [c.id, c.loan, c.amount] := by
    unfold numsOf
    rw [hk]
    simp [fieldsOf, Cmd.fld]
  rw [hnum, hk]
  clear hnum hk
  have HB1 := Lib.hid (newB (.cells #[.int .i64 4, .int .i64 c.id, .int .i64 c.ek, .int .i64 c.loan, .int .i64 c.other, .int .i64 c.amount, .slice A c.flows.length cap, .int .i64 c.past, .int .i64 c.down, .bool c.bad, .int .i64 c.n] 54) (.cells #[.int .i64 c.id, .int .i64 c.ek, .int .i64 c.loan, .int .i64 c.other, .int .i64 c.amount, .slice A c.flows.length cap, .int .i64 c.past, .int .i64 c.down, .bool c.bad] 52) w)
  have HC1 := Lib.hid (newR #[.int .i64 4, .int .i64 c.id, .int .i64 c.ek, .int .i64 c.loan, .int .i64 c.other, .int .i64 c.amount, .slice A c.flows.length cap, .int .i64 c.past, .int .i64 c.down, .bool c.bad, .int .i64 c.n] (.cells #[.int .i64 c.id, .int .i64 c.ek, .int .i64 c.loan, .int .i64 c.other, .int .i64 c.amount, .slice A c.flows.length cap, .int .i64 c.past, .int .i64 c.down, .bool c.bad] 52) w)
  have HE1 := Lib.hid (newE #[.int .i64 c.id, .int .i64 c.ek, .int .i64 c.loan, .int .i64 c.other, .int .i64 c.amount, .slice A c.flows.length cap, .int .i64 c.past, .int .i64 c.down, .bool c.bad] (.cells #[.int .i64 4, .int .i64 c.id, .int .i64 c.ek, .int .i64 c.loan, .int .i64 c.other, .int .i64 c.amount, .slice A c.flows.length cap, .int .i64 c.past, .int .i64 c.down, .bool c.bad, .int .i64 c.n] 54) w)
  have HF1 := Lib.hid (hF.below HB1.out)
  clear hF
  go_enter Tryd.func50, Tryd.ntmps50
  go_wp2_with fail
  generalize ((w.alloc (.cells #[.int .i64 4, .int .i64 c.id, .int .i64 c.ek, .int .i64 c.loan, .int .i64 c.other, .int .i64 c.amount, .slice A c.flows.length cap, .int .i64 c.past, .int .i64 c.down, .bool c.bad, .int .i64 c.n] 54)).alloc (.cells #[.int .i64 c.id, .int .i64 c.ek, .int .i64 c.loan, .int .i64 c.other, .int .i64 c.amount, .slice A c.flows.length cap, .int .i64 c.past, .int .i64 c.down, .bool c.bad] 52)) = W at HB1 HC1 HE1 HF1 ⊢
  have hcl := HC1.out.lt
  have hel := HE1.out.lt
  have hWs := HB1.out.size
  obtain ⟨e0, e1, e2, e3, e4, e5, e6, e7, e8⟩ := nine HE1.out
  go_region_held3 (fun w' => w'.cell? ⟨w.heap.size + 1, 0, none⟩ = some (.int .i64 c.id) ∧ w'.cell? ⟨w.heap.size + 1, 2, none⟩ = some (.int .i64 c.loan)) (exact ⟨e0, e2⟩) (fail)
  have HBd := Lib.hid (show Below w.heap.size w W.drew from HB1.out.drew)
  have HCd := Lib.hid (show Whole W.drew w.heap.size 54 #[.int .i64 4, .int .i64 c.id, .int .i64 c.ek, .int .i64 c.loan, .int .i64 c.other, .int .i64 c.amount, .slice A c.flows.length cap, .int .i64 c.past, .int .i64 c.down, .bool c.bad, .int .i64 c.n] from HC1.out)
  have HEd := Lib.hid (show Whole W.drew (w.heap.size + 1) 52 #[.int .i64 c.id, .int .i64 c.ek, .int .i64 c.loan, .int .i64 c.other, .int .i64 c.amount, .slice A c.flows.length cap, .int .i64 c.past, .int .i64 c.down, .bool c.bad] from HE1.out)
  have HFd := Lib.hid (HF1.out.below (Below.refl W.heap.size W).drew)
  have hcl : w.heap.size < W.drew.heap.size := hcl
  have hel : w.heap.size + 1 < W.drew.heap.size := hel
  have hWs : w.heap.size ≤ W.drew.heap.size := hWs
  clear e0 e1 e2 e3 e4 e5 e6 e7 e8 HB1 HC1 HE1 HF1
  generalize W.drew = W2 at HBd HCd HEd HFd hcl hel hWs ⊢
  obtain ⟨f0, f1, f2, f3, f4, f5, f6, f7, f8, f9, f10⟩ := elev HCd.out
  obtain ⟨e0, e1, e2, e3, e4, e5, e6, e7, e8⟩ := nine HEd.out
  go_wp2_with fail
  go_ret
  exact ⟨_, _, rfl, (NumsOwn.lit W2 _ #[.int .i64 c.id, .int .i64 c.loan, .int .i64 c.amount] [c.id, c.loan, c.amount] rfl hWs (by simp)), HBd.out.alloc hWs _⟩
set_option maxRecDepth 100000 in
set_option maxHeartbeats 8000000 in
theorem nums_5 : NumsSaid 5 := by
  intro c A cap w hk hF hn
  have hnum : numsOf c = [c.id, c.loan, c.amount] := by
    unfold numsOf
    rw [hk]
    simp [fieldsOf, Cmd.fld]
  rw [hnum, hk]
  clear hnum hk
  have HB1 := Lib.hid (newB (.cells #[.int .i64 5, .int .i64 c.id, .int .i64 c.ek, .int .i64 c.loan, .int .i64 c.other, .int .i64 c.amount, .slice A c.flows.length cap, .int .i64 c.past, .int .i64 c.down, .bool c.bad, .int .i64 c.n] 54) (.cells #[.int .i64 c.id, .int .i64 c.ek, .int .i64 c.loan, .int .i64 c.other, .int .i64 c.amount, .slice A c.flows.length cap, .int .i64 c.past, .int .i64 c.down, .bool c.bad] 52) w)
  have HC1 := Lib.hid (newR #[.int .i64 5, .int .i64 c.id, .int .i64 c.ek, .int .i64 c.loan, .int .i64 c.other, .int .i64 c.amount, .slice A c.flows.length cap, .int .i64 c.past, .int .i64 c.down, .bool c.bad, .int .i64 c.n] (.cells #[.int .i64 c.id, .int .i64 c.ek, .int .i64 c.loan, .int .i64 c.other, .int .i64 c.amount, .slice A c.flows.length cap, .int .i64 c.past, .int .i64 c.down, .bool c.bad] 52) w)
  have HE1 := Lib.hid (newE #[.int .i64 c.id, .int .i64 c.ek, .int .i64 c.loan, .int .i64 c.other, .int .i64 c.amount, .slice A c.flows.length cap, .int .i64 c.past, .int .i64 c.down, .bool c.bad] (.cells #[.int .i64 5, .int .i64 c.id, .int .i64 c.ek, .int .i64 c.loan, .int .i64 c.other, .int .i64 c.amount, .slice A c.flows.length cap, .int .i64 c.past, .int .i64 c.down, .bool c.bad, .int .i64 c.n] 54) w)
  have HF1 := Lib.hid (hF.below HB1.out)
  clear hF
  go_enter Tryd.func50, Tryd.ntmps50
  go_wp2_with fail
  generalize ((w.alloc (.cells #[.int .i64 5, .int .i64 c.id, .int .i64 c.ek, .int .i64 c.loan, .int .i64 c.other, .int .i64 c.amount, .slice A c.flows.length cap, .int .i64 c.past, .int .i64 c.down, .bool c.bad, .int .i64 c.n] 54)).alloc (.cells #[.int .i64 c.id, .int .i64 c.ek, .int .i64 c.loan, .int .i64 c.other, .int .i64 c.amount, .slice A c.flows.length cap, .int .i64 c.past, .int .i64 c.down, .bool c.bad] 52)) = W at HB1 HC1 HE1 HF1 ⊢
  have hcl := HC1.out.lt
  have hel := HE1.out.lt
  have hWs := HB1.out.size
  obtain ⟨e0, e1, e2, e3, e4, e5, e6, e7, e8⟩ := nine HE1.out
  go_region_held3 (fun w' => w'.cell? ⟨w.heap.size + 1, 0, none⟩ = some (.int .i64 c.id) ∧ w'.cell? ⟨w.heap.size + 1, 2, none⟩ = some (.int .i64 c.loan)) (exact ⟨e0, e2⟩) (fail)
  have HBd := Lib.hid (show Below w.heap.size w W.drew from HB1.out.drew)
  have HCd := Lib.hid (show Whole W.drew w.heap.size 54 #[.int .i64 5, .int .i64 c.id, .int .i64 c.ek, .int .i64 c.loan, .int .i64 c.other, .int .i64 c.amount, .slice A c.flows.length cap, .int .i64 c.past, .int .i64 c.down, .bool c.bad, .int .i64 c.n] from HC1.out)
  have HEd := Lib.hid (show Whole W.drew (w.heap.size + 1) 52 #[.int .i64 c.id, .int .i64 c.ek, .int .i64 c.loan, .int .i64 c.other, .int .i64 c.amount, .slice A c.flows.length cap, .int .i64 c.past, .int .i64 c.down, .bool c.bad] from HE1.out)
  have HFd := Lib.hid (HF1.out.below (Below.refl W.heap.size W).drew)
  have hcl : w.heap.size < W.drew.heap.size := hcl
  have hel : w.heap.size + 1 < W.drew.heap.size := hel
  have hWs : w.heap.size ≤ W.drew.heap.size := hWs
  clear e0 e1 e2 e3 e4 e5 e6 e7 e8 HB1 HC1 HE1 HF1
  generalize W.drew = W2 at HBd HCd HEd HFd hcl hel hWs ⊢
  obtain ⟨f0, f1, f2, f3, f4, f5, f6, f7, f8, f9, f10⟩ := elev HCd.out
  obtain ⟨e0, e1, e2, e3, e4, e5, e6, e7, e8⟩ := nine HEd.out
  go_wp2_with fail
  go_ret
  exact ⟨_, _, rfl, (NumsOwn.lit W2 _ #[.int .i64 c.id, .int .i64 c.loan, .int .i64 c.amount] [c.id, c.loan, c.amount] rfl hWs (by simp)), HBd.out.alloc hWs _⟩
set_option maxRecDepth 100000 in
set_option maxHeartbeats 8000000 in
theorem nums_6 : NumsSaid 6 := by
  intro c A cap w hk hF hn
  have hnum : numsOf c = [c.id, c.loan] ++ c.flows := by
    unfold numsOf
    rw [hk]
    simp [fieldsOf, Cmd.fld]
  rw [hnum, hk]
  clear hnum hk
  have HB1 := Lib.hid (newB (.cells #[.int .i64 6, .int .i64 c.id, .int .i64 c.ek, .int .i64 c.loan, .int .i64 c.other, .int .i64 c.amount, .slice A c.flows.length cap, .int .i64 c.past, .int .i64 c.down, .bool c.bad, .int .i64 c.n] 54) (.cells #[.int .i64 c.id, .int .i64 c.ek, .int .i64 c.loan, .int .i64 c.other, .int .i64 c.amount, .slice A c.flows.length cap, .int .i64 c.past, .int .i64 c.down, .bool c.bad] 52) w)
  have HC1 := Lib.hid (newR #[.int .i64 6, .int .i64 c.id, .int .i64 c.ek, .int .i64 c.loan, .int .i64 c.other, .int .i64 c.amount, .slice A c.flows.length cap, .int .i64 c.past, .int .i64 c.down, .bool c.bad, .int .i64 c.n] (.cells #[.int .i64 c.id, .int .i64 c.ek, .int .i64 c.loan, .int .i64 c.other, .int .i64 c.amount, .slice A c.flows.length cap, .int .i64 c.past, .int .i64 c.down, .bool c.bad] 52) w)
  have HE1 := Lib.hid (newE #[.int .i64 c.id, .int .i64 c.ek, .int .i64 c.loan, .int .i64 c.other, .int .i64 c.amount, .slice A c.flows.length cap, .int .i64 c.past, .int .i64 c.down, .bool c.bad] (.cells #[.int .i64 6, .int .i64 c.id, .int .i64 c.ek, .int .i64 c.loan, .int .i64 c.other, .int .i64 c.amount, .slice A c.flows.length cap, .int .i64 c.past, .int .i64 c.down, .bool c.bad, .int .i64 c.n] 54) w)
  have HF1 := Lib.hid (hF.below HB1.out)
  clear hF
  go_enter Tryd.func50, Tryd.ntmps50
  go_wp2_with fail
  generalize ((w.alloc (.cells #[.int .i64 6, .int .i64 c.id, .int .i64 c.ek, .int .i64 c.loan, .int .i64 c.other, .int .i64 c.amount, .slice A c.flows.length cap, .int .i64 c.past, .int .i64 c.down, .bool c.bad, .int .i64 c.n] 54)).alloc (.cells #[.int .i64 c.id, .int .i64 c.ek, .int .i64 c.loan, .int .i64 c.other, .int .i64 c.amount, .slice A c.flows.length cap, .int .i64 c.past, .int .i64 c.down, .bool c.bad] 52)) = W at HB1 HC1 HE1 HF1 ⊢
  have hcl := HC1.out.lt
  have hel := HE1.out.lt
  have hWs := HB1.out.size
  obtain ⟨e0, e1, e2, e3, e4, e5, e6, e7, e8⟩ := nine HE1.out
  go_region_held3 (fun w' => w'.cell? ⟨w.heap.size + 1, 0, none⟩ = some (.int .i64 c.id) ∧ w'.cell? ⟨w.heap.size + 1, 2, none⟩ = some (.int .i64 c.loan)) (exact ⟨e0, e2⟩) (fail)
  have HBd := Lib.hid (show Below w.heap.size w W.drew from HB1.out.drew)
  have HCd := Lib.hid (show Whole W.drew w.heap.size 54 #[.int .i64 6, .int .i64 c.id, .int .i64 c.ek, .int .i64 c.loan, .int .i64 c.other, .int .i64 c.amount, .slice A c.flows.length cap, .int .i64 c.past, .int .i64 c.down, .bool c.bad, .int .i64 c.n] from HC1.out)
  have HEd := Lib.hid (show Whole W.drew (w.heap.size + 1) 52 #[.int .i64 c.id, .int .i64 c.ek, .int .i64 c.loan, .int .i64 c.other, .int .i64 c.amount, .slice A c.flows.length cap, .int .i64 c.past, .int .i64 c.down, .bool c.bad] from HE1.out)
  have HFd := Lib.hid (HF1.out.below (Below.refl W.heap.size W).drew)
  have hcl : w.heap.size < W.drew.heap.size := hcl
  have hel : w.heap.size + 1 < W.drew.heap.size := hel
  have hWs : w.heap.size ≤ W.drew.heap.size := hWs
  clear e0 e1 e2 e3 e4 e5 e6 e7 e8 HB1 HC1 HE1 HF1
  generalize W.drew = W2 at HBd HCd HEd HFd hcl hel hWs ⊢
  obtain ⟨f0, f1, f2, f3, f4, f5, f6, f7, f8, f9, f10⟩ := elev HCd.out
  obtain ⟨e0, e1, e2, e3, e4, e5, e6, e7, e8⟩ := nine HEd.out
  have HE := Lib.hid (NumsOwn.lit W2 W2.heap.size #[.int .i64 c.id, .int .i64 c.loan] [c.id, c.loan] rfl (Nat.le_refl _) (by simp))
  have HFa := Lib.hid (HFd.out.below ((Below.refl _ W2).alloc (Nat.le_refl _) (.cells #[.int .i64 c.id, .int .i64 c.loan] 2)))
  have HBa := Lib.hid (HBd.out.alloc hWs (.cells #[.int .i64 c.id, .int .i64 c.loan] 2))
  have HBZ := Lib.hid (World.alloc_le W2 (.cells #[.int .i64 c.id, .int .i64 c.loan] 2))
  go_wp2_with (at_builtin; refine wpList_append_flows rfl _ _ rfl W2.heap.size _ [c.id, c.loan] rfl HE.out A cap c.flows rfl HFa.out (by simp; omega) HBZ.out ?_; intro A' c' w3 hN3 hg3; have HN3 := Lib.hid hN3; have HG3 := Lib.hid hg3; clear hN3 hg3)
  go_ret
  exact ⟨A', c', rfl, HN3.out.lower hWs, HBa.out.grown HG3.out (Nat.le_trans hWs HBZ.out) (fun i e => by cases e; exact hWs)⟩
set_option maxRecDepth 100000 in
set_option maxHeartbeats 8000000 in
theorem nums_7 : NumsSaid 7 := by
  intro c A cap w hk hF hn
  have hnum : numsOf c = [c.id, c.loan, c.other, c.amount] ++ c.flows := by
    unfold numsOf
    rw [hk]
    simp [fieldsOf, Cmd.fld]
  rw [hnum, hk]
  clear hnum hk
  have HB1 := Lib.hid (newB (.cells #[.int .i64 7, .int .i64 c.id, .int .i64 c.ek, .int .i64 c.loan, .int .i64 c.other, .int .i64 c.amount, .slice A c.flows.length cap, .int .i64 c.past, .int .i64 c.down, .bool c.bad, .int .i64 c.n] 54) (.cells #[.int .i64 c.id, .int .i64 c.ek, .int .i64 c.loan, .int .i64 c.other, .int .i64 c.amount, .slice A c.flows.length cap, .int .i64 c.past, .int .i64 c.down, .bool c.bad] 52) w)
  have HC1 := Lib.hid (newR #[.int .i64 7, .int .i64 c.id, .int .i64 c.ek, .int .i64 c.loan, .int .i64 c.other, .int .i64 c.amount, .slice A c.flows.length cap, .int .i64 c.past, .int .i64 c.down, .bool c.bad, .int .i64 c.n] (.cells #[.int .i64 c.id, .int .i64 c.ek, .int .i64 c.loan, .int .i64 c.other, .int .i64 c.amount, .slice A c.flows.length cap, .int .i64 c.past, .int .i64 c.down, .bool c.bad] 52) w)
  have HE1 := Lib.hid (newE #[.int .i64 c.id, .int .i64 c.ek, .int .i64 c.loan, .int .i64 c.other, .int .i64 c.amount, .slice A c.flows.length cap, .int .i64 c.past, .int .i64 c.down, .bool c.bad] (.cells #[.int .i64 7, .int .i64 c.id, .int .i64 c.ek, .int .i64 c.loan, .int .i64 c.other, .int .i64 c.amount, .slice A c.flows.length cap, .int .i64 c.past, .int .i64 c.down, .bool c.bad, .int .i64 c.n] 54) w)
  have HF1 := Lib.hid (hF.below HB1.out)
  clear hF
  go_enter Tryd.func50, Tryd.ntmps50
  go_wp2_with fail
  generalize ((w.alloc (.cells #[.int .i64 7, .int .i64 c.id, .int .i64 c.ek, .int .i64 c.loan, .int .i64 c.other, .int .i64 c.amount, .slice A c.flows.length cap, .int .i64 c.past, .int .i64 c.down, .bool c.bad, .int .i64 c.n] 54)).alloc (.cells #[.int .i64 c.id, .int .i64 c.ek, .int .i64 c.loan, .int .i64 c.other, .int .i64 c.amount, .slice A c.flows.length cap, .int .i64 c.past, .int .i64 c.down, .bool c.bad] 52)) = W at HB1 HC1 HE1 HF1 ⊢
  have hcl := HC1.out.lt
  have hel := HE1.out.lt
  have hWs := HB1.out.size
  obtain ⟨e0, e1, e2, e3, e4, e5, e6, e7, e8⟩ := nine HE1.out
  go_region_held3 (fun w' => w'.cell? ⟨w.heap.size + 1, 0, none⟩ = some (.int .i64 c.id) ∧ w'.cell? ⟨w.heap.size + 1, 2, none⟩ = some (.int .i64 c.loan)) (exact ⟨e0, e2⟩) (fail)
  have HBd := Lib.hid (show Below w.heap.size w W.drew from HB1.out.drew)
  have HCd := Lib.hid (show Whole W.drew w.heap.size 54 #[.int .i64 7, .int .i64 c.id, .int .i64 c.ek, .int .i64 c.loan, .int .i64 c.other, .int .i64 c.amount, .slice A c.flows.length cap, .int .i64 c.past, .int .i64 c.down, .bool c.bad, .int .i64 c.n] from HC1.out)
  have HEd := Lib.hid (show Whole W.drew (w.heap.size + 1) 52 #[.int .i64 c.id, .int .i64 c.ek, .int .i64 c.loan, .int .i64 c.other, .int .i64 c.amount, .slice A c.flows.length cap, .int .i64 c.past, .int .i64 c.down, .bool c.bad] from HE1.out)
  have HFd := Lib.hid (HF1.out.below (Below.refl W.heap.size W).drew)
  have hcl : w.heap.size < W.drew.heap.size := hcl
  have hel : w.heap.size + 1 < W.drew.heap.size := hel
  have hWs : w.heap.size ≤ W.drew.heap.size := hWs
  clear e0 e1 e2 e3 e4 e5 e6 e7 e8 HB1 HC1 HE1 HF1
  generalize W.drew = W2 at HBd HCd HEd HFd hcl hel hWs ⊢
  obtain ⟨f0, f1, f2, f3, f4, f5, f6, f7, f8, f9, f10⟩ := elev HCd.out
  obtain ⟨e0, e1, e2, e3, e4, e5, e6, e7, e8⟩ := nine HEd.out
  have HE := Lib.hid (NumsOwn.lit W2 W2.heap.size #[.int .i64 c.id, .int .i64 c.loan, .int .i64 c.other, .int .i64 c.amount] [c.id, c.loan, c.other, c.amount] rfl (Nat.le_refl _) (by simp))
  have HFa := Lib.hid (HFd.out.below ((Below.refl _ W2).alloc (Nat.le_refl _) (.cells #[.int .i64 c.id, .int .i64 c.loan, .int .i64 c.other, .int .i64 c.amount] 2)))
  have HBa := Lib.hid (HBd.out.alloc hWs (.cells #[.int .i64 c.id, .int .i64 c.loan, .int .i64 c.other, .int .i64 c.amount] 2))
  have HBZ := Lib.hid (World.alloc_le W2 (.cells #[.int .i64 c.id, .int .i64 c.loan, .int .i64 c.other, .int .i64 c.amount] 2))
  go_wp2_with (at_builtin; refine wpList_append_flows rfl _ _ rfl W2.heap.size _ [c.id, c.loan, c.other, c.amount] rfl HE.out A cap c.flows rfl HFa.out (by simp; omega) HBZ.out ?_; intro A' c' w3 hN3 hg3; have HN3 := Lib.hid hN3; have HG3 := Lib.hid hg3; clear hN3 hg3)
  go_ret
  exact ⟨A', c', rfl, HN3.out.lower hWs, HBa.out.grown HG3.out (Nat.le_trans hWs HBZ.out) (fun i e => by cases e; exact hWs)⟩
set_option maxRecDepth 100000 in
set_option maxHeartbeats 8000000 in
theorem nums_8 : NumsSaid 8 := by
  intro c A cap w hk hF hn
  have hnum : numsOf c = [c.id, c.loan, c.past, c.down, (if c.bad then 1 else 0)] := by
    unfold numsOf
    rw [hk]
    simp [fieldsOf, Cmd.fld]
  rw [hnum, hk]
  clear hnum hk
  by_cases hbad : c.bad = true
  · rw [hbad]
    simp only [if_true]
    have HB1 := Lib.hid (newB (.cells #[.int .i64 8, .int .i64 c.id, .int .i64 c.ek, .int .i64 c.loan, .int .i64 c.other, .int .i64 c.amount, .slice A c.flows.length cap, .int .i64 c.past, .int .i64 c.down, .bool true, .int .i64 c.n] 54) (.cells #[.int .i64 c.id, .int .i64 c.ek, .int .i64 c.loan, .int .i64 c.other, .int .i64 c.amount, .slice A c.flows.length cap, .int .i64 c.past, .int .i64 c.down, .bool true] 52) w)
    have HC1 := Lib.hid (newR #[.int .i64 8, .int .i64 c.id, .int .i64 c.ek, .int .i64 c.loan, .int .i64 c.other, .int .i64 c.amount, .slice A c.flows.length cap, .int .i64 c.past, .int .i64 c.down, .bool true, .int .i64 c.n] (.cells #[.int .i64 c.id, .int .i64 c.ek, .int .i64 c.loan, .int .i64 c.other, .int .i64 c.amount, .slice A c.flows.length cap, .int .i64 c.past, .int .i64 c.down, .bool true] 52) w)
    have HE1 := Lib.hid (newE #[.int .i64 c.id, .int .i64 c.ek, .int .i64 c.loan, .int .i64 c.other, .int .i64 c.amount, .slice A c.flows.length cap, .int .i64 c.past, .int .i64 c.down, .bool true] (.cells #[.int .i64 8, .int .i64 c.id, .int .i64 c.ek, .int .i64 c.loan, .int .i64 c.other, .int .i64 c.amount, .slice A c.flows.length cap, .int .i64 c.past, .int .i64 c.down, .bool true, .int .i64 c.n] 54) w)
    have HF1 := Lib.hid (hF.below HB1.out)
    clear hF
    go_enter Tryd.func50, Tryd.ntmps50
    go_wp2_with fail
    generalize ((w.alloc (.cells #[.int .i64 8, .int .i64 c.id, .int .i64 c.ek, .int .i64 c.loan, .int .i64 c.other, .int .i64 c.amount, .slice A c.flows.length cap, .int .i64 c.past, .int .i64 c.down, .bool true, .int .i64 c.n] 54)).alloc (.cells #[.int .i64 c.id, .int .i64 c.ek, .int .i64 c.loan, .int .i64 c.other, .int .i64 c.amount, .slice A c.flows.length cap, .int .i64 c.past, .int .i64 c.down, .bool true] 52)) = W at HB1 HC1 HE1 HF1 ⊢
    have hcl := HC1.out.lt
    have hel := HE1.out.lt
    have hWs := HB1.out.size
    obtain ⟨e0, e1, e2, e3, e4, e5, e6, e7, e8⟩ := nine HE1.out
    go_region_held3 (fun w' => w'.cell? ⟨w.heap.size + 1, 0, none⟩ = some (.int .i64 c.id) ∧ w'.cell? ⟨w.heap.size + 1, 2, none⟩ = some (.int .i64 c.loan)) (exact ⟨e0, e2⟩) (fail)
    have HBd := Lib.hid (show Below w.heap.size w W.drew from HB1.out.drew)
    have HCd := Lib.hid (show Whole W.drew w.heap.size 54 #[.int .i64 8, .int .i64 c.id, .int .i64 c.ek, .int .i64 c.loan, .int .i64 c.other, .int .i64 c.amount, .slice A c.flows.length cap, .int .i64 c.past, .int .i64 c.down, .bool true, .int .i64 c.n] from HC1.out)
    have HEd := Lib.hid (show Whole W.drew (w.heap.size + 1) 52 #[.int .i64 c.id, .int .i64 c.ek, .int .i64 c.loan, .int .i64 c.other, .int .i64 c.amount, .slice A c.flows.length cap, .int .i64 c.past, .int .i64 c.down, .bool true] from HE1.out)
    have HFd := Lib.hid (HF1.out.below (Below.refl W.heap.size W).drew)
    have hcl : w.heap.size < W.drew.heap.size := hcl
    have hel : w.heap.size + 1 < W.drew.heap.size := hel
    have hWs : w.heap.size ≤ W.drew.heap.size := hWs
    clear e0 e1 e2 e3 e4 e5 e6 e7 e8 HB1 HC1 HE1 HF1
    generalize W.drew = W2 at HBd HCd HEd HFd hcl hel hWs ⊢
    obtain ⟨f0, f1, f2, f3, f4, f5, f6, f7, f8, f9, f10⟩ := elev HCd.out
    obtain ⟨e0, e1, e2, e3, e4, e5, e6, e7, e8⟩ := nine HEd.out
    go_wp2_with fail
    go_ret
    exact ⟨_, _, rfl, (NumsOwn.lit W2 _ #[.int .i64 c.id, .int .i64 c.loan, .int .i64 c.past, .int .i64 c.down, .int .i64 1] [c.id, c.loan, c.past, c.down, 1] rfl hWs (by simp)), HBd.out.alloc hWs _⟩
  · have hbad : c.bad = false := by simpa using hbad
    rw [hbad]
    simp only [Bool.false_eq_true, if_false]
    have HB1 := Lib.hid (newB (.cells #[.int .i64 8, .int .i64 c.id, .int .i64 c.ek, .int .i64 c.loan, .int .i64 c.other, .int .i64 c.amount, .slice A c.flows.length cap, .int .i64 c.past, .int .i64 c.down, .bool false, .int .i64 c.n] 54) (.cells #[.int .i64 c.id, .int .i64 c.ek, .int .i64 c.loan, .int .i64 c.other, .int .i64 c.amount, .slice A c.flows.length cap, .int .i64 c.past, .int .i64 c.down, .bool false] 52) w)
    have HC1 := Lib.hid (newR #[.int .i64 8, .int .i64 c.id, .int .i64 c.ek, .int .i64 c.loan, .int .i64 c.other, .int .i64 c.amount, .slice A c.flows.length cap, .int .i64 c.past, .int .i64 c.down, .bool false, .int .i64 c.n] (.cells #[.int .i64 c.id, .int .i64 c.ek, .int .i64 c.loan, .int .i64 c.other, .int .i64 c.amount, .slice A c.flows.length cap, .int .i64 c.past, .int .i64 c.down, .bool false] 52) w)
    have HE1 := Lib.hid (newE #[.int .i64 c.id, .int .i64 c.ek, .int .i64 c.loan, .int .i64 c.other, .int .i64 c.amount, .slice A c.flows.length cap, .int .i64 c.past, .int .i64 c.down, .bool false] (.cells #[.int .i64 8, .int .i64 c.id, .int .i64 c.ek, .int .i64 c.loan, .int .i64 c.other, .int .i64 c.amount, .slice A c.flows.length cap, .int .i64 c.past, .int .i64 c.down, .bool false, .int .i64 c.n] 54) w)
    have HF1 := Lib.hid (hF.below HB1.out)
    clear hF
    go_enter Tryd.func50, Tryd.ntmps50
    go_wp2_with fail
    generalize ((w.alloc (.cells #[.int .i64 8, .int .i64 c.id, .int .i64 c.ek, .int .i64 c.loan, .int .i64 c.other, .int .i64 c.amount, .slice A c.flows.length cap, .int .i64 c.past, .int .i64 c.down, .bool false, .int .i64 c.n] 54)).alloc (.cells #[.int .i64 c.id, .int .i64 c.ek, .int .i64 c.loan, .int .i64 c.other, .int .i64 c.amount, .slice A c.flows.length cap, .int .i64 c.past, .int .i64 c.down, .bool false] 52)) = W at HB1 HC1 HE1 HF1 ⊢
    have hcl := HC1.out.lt
    have hel := HE1.out.lt
    have hWs := HB1.out.size
    obtain ⟨e0, e1, e2, e3, e4, e5, e6, e7, e8⟩ := nine HE1.out
    go_region_held3 (fun w' => w'.cell? ⟨w.heap.size + 1, 0, none⟩ = some (.int .i64 c.id) ∧ w'.cell? ⟨w.heap.size + 1, 2, none⟩ = some (.int .i64 c.loan)) (exact ⟨e0, e2⟩) (fail)
    have HBd := Lib.hid (show Below w.heap.size w W.drew from HB1.out.drew)
    have HCd := Lib.hid (show Whole W.drew w.heap.size 54 #[.int .i64 8, .int .i64 c.id, .int .i64 c.ek, .int .i64 c.loan, .int .i64 c.other, .int .i64 c.amount, .slice A c.flows.length cap, .int .i64 c.past, .int .i64 c.down, .bool false, .int .i64 c.n] from HC1.out)
    have HEd := Lib.hid (show Whole W.drew (w.heap.size + 1) 52 #[.int .i64 c.id, .int .i64 c.ek, .int .i64 c.loan, .int .i64 c.other, .int .i64 c.amount, .slice A c.flows.length cap, .int .i64 c.past, .int .i64 c.down, .bool false] from HE1.out)
    have HFd := Lib.hid (HF1.out.below (Below.refl W.heap.size W).drew)
    have hcl : w.heap.size < W.drew.heap.size := hcl
    have hel : w.heap.size + 1 < W.drew.heap.size := hel
    have hWs : w.heap.size ≤ W.drew.heap.size := hWs
    clear e0 e1 e2 e3 e4 e5 e6 e7 e8 HB1 HC1 HE1 HF1
    generalize W.drew = W2 at HBd HCd HEd HFd hcl hel hWs ⊢
    obtain ⟨f0, f1, f2, f3, f4, f5, f6, f7, f8, f9, f10⟩ := elev HCd.out
    obtain ⟨e0, e1, e2, e3, e4, e5, e6, e7, e8⟩ := nine HEd.out
    go_wp2_with fail
    go_ret
    exact ⟨_, _, rfl, (NumsOwn.lit W2 _ #[.int .i64 c.id, .int .i64 c.loan, .int .i64 c.past, .int .i64 c.down, .int .i64 0] [c.id, c.loan, c.past, c.down, 0] rfl hWs (by simp)), HBd.out.alloc hWs _⟩
set_option maxRecDepth 100000 in
set_option maxHeartbeats 8000000 in
theorem nums_9 : NumsSaid 9 := by
  intro c A cap w hk hF hn
  have hnum : numsOf c = [c.id, c.loan, c.amount] := by
    unfold numsOf
    rw [hk]
    simp [fieldsOf, Cmd.fld]
  rw [hnum, hk]
  clear hnum hk
  have HB1 := Lib.hid (newB (.cells #[.int .i64 9, .int .i64 c.id, .int .i64 c.ek, .int .i64 c.loan, .int .i64 c.other, .int .i64 c.amount, .slice A c.flows.length cap, .int .i64 c.past, .int .i64 c.down, .bool c.bad, .int .i64 c.n] 54) (.cells #[.int .i64 c.id, .int .i64 c.ek, .int .i64 c.loan, .int .i64 c.other, .int .i64 c.amount, .slice A c.flows.length cap, .int .i64 c.past, .int .i64 c.down, .bool c.bad] 52) w)
  have HC1 := Lib.hid (newR #[.int .i64 9, .int .i64 c.id, .int .i64 c.ek, .int .i64 c.loan, .int .i64 c.other, .int .i64 c.amount, .slice A c.flows.length cap, .int .i64 c.past, .int .i64 c.down, .bool c.bad, .int .i64 c.n] (.cells #[.int .i64 c.id, .int .i64 c.ek, .int .i64 c.loan, .int .i64 c.other, .int .i64 c.amount, .slice A c.flows.length cap, .int .i64 c.past, .int .i64 c.down, .bool c.bad] 52) w)
  have HE1 := Lib.hid (newE #[.int .i64 c.id, .int .i64 c.ek, .int .i64 c.loan, .int .i64 c.other, .int .i64 c.amount, .slice A c.flows.length cap, .int .i64 c.past, .int .i64 c.down, .bool c.bad] (.cells #[.int .i64 9, .int .i64 c.id, .int .i64 c.ek, .int .i64 c.loan, .int .i64 c.other, .int .i64 c.amount, .slice A c.flows.length cap, .int .i64 c.past, .int .i64 c.down, .bool c.bad, .int .i64 c.n] 54) w)
  have HF1 := Lib.hid (hF.below HB1.out)
  clear hF
  go_enter Tryd.func50, Tryd.ntmps50
  go_wp2_with fail
  generalize ((w.alloc (.cells #[.int .i64 9, .int .i64 c.id, .int .i64 c.ek, .int .i64 c.loan, .int .i64 c.other, .int .i64 c.amount, .slice A c.flows.length cap, .int .i64 c.past, .int .i64 c.down, .bool c.bad, .int .i64 c.n] 54)).alloc (.cells #[.int .i64 c.id, .int .i64 c.ek, .int .i64 c.loan, .int .i64 c.other, .int .i64 c.amount, .slice A c.flows.length cap, .int .i64 c.past, .int .i64 c.down, .bool c.bad] 52)) = W at HB1 HC1 HE1 HF1 ⊢
  have hcl := HC1.out.lt
  have hel := HE1.out.lt
  have hWs := HB1.out.size
  obtain ⟨e0, e1, e2, e3, e4, e5, e6, e7, e8⟩ := nine HE1.out
  go_region_held3 (fun w' => w'.cell? ⟨w.heap.size + 1, 0, none⟩ = some (.int .i64 c.id) ∧ w'.cell? ⟨w.heap.size + 1, 2, none⟩ = some (.int .i64 c.loan)) (exact ⟨e0, e2⟩) (fail)
  have HBd := Lib.hid (show Below w.heap.size w W.drew from HB1.out.drew)
  have HCd := Lib.hid (show Whole W.drew w.heap.size 54 #[.int .i64 9, .int .i64 c.id, .int .i64 c.ek, .int .i64 c.loan, .int .i64 c.other, .int .i64 c.amount, .slice A c.flows.length cap, .int .i64 c.past, .int .i64 c.down, .bool c.bad, .int .i64 c.n] from HC1.out)
  have HEd := Lib.hid (show Whole W.drew (w.heap.size + 1) 52 #[.int .i64 c.id, .int .i64 c.ek, .int .i64 c.loan, .int .i64 c.other, .int .i64 c.amount, .slice A c.flows.length cap, .int .i64 c.past, .int .i64 c.down, .bool c.bad] from HE1.out)
  have HFd := Lib.hid (HF1.out.below (Below.refl W.heap.size W).drew)
  have hcl : w.heap.size < W.drew.heap.size := hcl
  have hel : w.heap.size + 1 < W.drew.heap.size := hel
  have hWs : w.heap.size ≤ W.drew.heap.size := hWs
  clear e0 e1 e2 e3 e4 e5 e6 e7 e8 HB1 HC1 HE1 HF1
  generalize W.drew = W2 at HBd HCd HEd HFd hcl hel hWs ⊢
  obtain ⟨f0, f1, f2, f3, f4, f5, f6, f7, f8, f9, f10⟩ := elev HCd.out
  obtain ⟨e0, e1, e2, e3, e4, e5, e6, e7, e8⟩ := nine HEd.out
  go_wp2_with fail
  go_ret
  exact ⟨_, _, rfl, (NumsOwn.lit W2 _ #[.int .i64 c.id, .int .i64 c.loan, .int .i64 c.amount] [c.id, c.loan, c.amount] rfl hWs (by simp)), HBd.out.alloc hWs _⟩
set_option maxRecDepth 100000 in
set_option maxHeartbeats 8000000 in
theorem nums_10 : NumsSaid 10 := by
  intro c A cap w hk hF hn
  have hnum : numsOf c = [c.id] := by
    unfold numsOf
    rw [hk]
    simp [fieldsOf, Cmd.fld]
  rw [hnum, hk]
  clear hnum hk
  have HB1 := Lib.hid (newB (.cells #[.int .i64 10, .int .i64 c.id, .int .i64 c.ek, .int .i64 c.loan, .int .i64 c.other, .int .i64 c.amount, .slice A c.flows.length cap, .int .i64 c.past, .int .i64 c.down, .bool c.bad, .int .i64 c.n] 54) (.cells #[.int .i64 c.id, .int .i64 c.ek, .int .i64 c.loan, .int .i64 c.other, .int .i64 c.amount, .slice A c.flows.length cap, .int .i64 c.past, .int .i64 c.down, .bool c.bad] 52) w)
  have HC1 := Lib.hid (newR #[.int .i64 10, .int .i64 c.id, .int .i64 c.ek, .int .i64 c.loan, .int .i64 c.other, .int .i64 c.amount, .slice A c.flows.length cap, .int .i64 c.past, .int .i64 c.down, .bool c.bad, .int .i64 c.n] (.cells #[.int .i64 c.id, .int .i64 c.ek, .int .i64 c.loan, .int .i64 c.other, .int .i64 c.amount, .slice A c.flows.length cap, .int .i64 c.past, .int .i64 c.down, .bool c.bad] 52) w)
  have HE1 := Lib.hid (newE #[.int .i64 c.id, .int .i64 c.ek, .int .i64 c.loan, .int .i64 c.other, .int .i64 c.amount, .slice A c.flows.length cap, .int .i64 c.past, .int .i64 c.down, .bool c.bad] (.cells #[.int .i64 10, .int .i64 c.id, .int .i64 c.ek, .int .i64 c.loan, .int .i64 c.other, .int .i64 c.amount, .slice A c.flows.length cap, .int .i64 c.past, .int .i64 c.down, .bool c.bad, .int .i64 c.n] 54) w)
  have HF1 := Lib.hid (hF.below HB1.out)
  clear hF
  go_enter Tryd.func50, Tryd.ntmps50
  go_wp2_with fail
  generalize ((w.alloc (.cells #[.int .i64 10, .int .i64 c.id, .int .i64 c.ek, .int .i64 c.loan, .int .i64 c.other, .int .i64 c.amount, .slice A c.flows.length cap, .int .i64 c.past, .int .i64 c.down, .bool c.bad, .int .i64 c.n] 54)).alloc (.cells #[.int .i64 c.id, .int .i64 c.ek, .int .i64 c.loan, .int .i64 c.other, .int .i64 c.amount, .slice A c.flows.length cap, .int .i64 c.past, .int .i64 c.down, .bool c.bad] 52)) = W at HB1 HC1 HE1 HF1 ⊢
  have hcl := HC1.out.lt
  have hel := HE1.out.lt
  have hWs := HB1.out.size
  obtain ⟨e0, e1, e2, e3, e4, e5, e6, e7, e8⟩ := nine HE1.out
  go_region_held3 (fun w' => w'.cell? ⟨w.heap.size + 1, 0, none⟩ = some (.int .i64 c.id) ∧ w'.cell? ⟨w.heap.size + 1, 2, none⟩ = some (.int .i64 c.loan)) (exact ⟨e0, e2⟩) (fail)
  have HBd := Lib.hid (show Below w.heap.size w W.drew from HB1.out.drew)
  have HCd := Lib.hid (show Whole W.drew w.heap.size 54 #[.int .i64 10, .int .i64 c.id, .int .i64 c.ek, .int .i64 c.loan, .int .i64 c.other, .int .i64 c.amount, .slice A c.flows.length cap, .int .i64 c.past, .int .i64 c.down, .bool c.bad, .int .i64 c.n] from HC1.out)
  have HEd := Lib.hid (show Whole W.drew (w.heap.size + 1) 52 #[.int .i64 c.id, .int .i64 c.ek, .int .i64 c.loan, .int .i64 c.other, .int .i64 c.amount, .slice A c.flows.length cap, .int .i64 c.past, .int .i64 c.down, .bool c.bad] from HE1.out)
  have HFd := Lib.hid (HF1.out.below (Below.refl W.heap.size W).drew)
  have hcl : w.heap.size < W.drew.heap.size := hcl
  have hel : w.heap.size + 1 < W.drew.heap.size := hel
  have hWs : w.heap.size ≤ W.drew.heap.size := hWs
  clear e0 e1 e2 e3 e4 e5 e6 e7 e8 HB1 HC1 HE1 HF1
  generalize W.drew = W2 at HBd HCd HEd HFd hcl hel hWs ⊢
  obtain ⟨f0, f1, f2, f3, f4, f5, f6, f7, f8, f9, f10⟩ := elev HCd.out
  obtain ⟨e0, e1, e2, e3, e4, e5, e6, e7, e8⟩ := nine HEd.out
  go_wp2_with fail
  go_ret
  exact ⟨_, _, rfl, (NumsOwn.lit W2 _ #[.int .i64 c.id] [c.id] rfl hWs (by simp)), HBd.out.alloc hWs _⟩
set_option maxRecDepth 100000 in
set_option maxHeartbeats 8000000 in
theorem nums_11 : NumsSaid 11 := by
  intro c A cap w hk hF hn
  have hnum : numsOf c = [] := by
    unfold numsOf
    rw [hk]
    simp [fieldsOf, Cmd.fld]
  rw [hnum, hk]
  clear hnum hk
  have HB1 := Lib.hid (newB (.cells #[.int .i64 11, .int .i64 c.id, .int .i64 c.ek, .int .i64 c.loan, .int .i64 c.other, .int .i64 c.amount, .slice A c.flows.length cap, .int .i64 c.past, .int .i64 c.down, .bool c.bad, .int .i64 c.n] 54) (.cells #[.int .i64 c.id, .int .i64 c.ek, .int .i64 c.loan, .int .i64 c.other, .int .i64 c.amount, .slice A c.flows.length cap, .int .i64 c.past, .int .i64 c.down, .bool c.bad] 52) w)
  have HC1 := Lib.hid (newR #[.int .i64 11, .int .i64 c.id, .int .i64 c.ek, .int .i64 c.loan, .int .i64 c.other, .int .i64 c.amount, .slice A c.flows.length cap, .int .i64 c.past, .int .i64 c.down, .bool c.bad, .int .i64 c.n] (.cells #[.int .i64 c.id, .int .i64 c.ek, .int .i64 c.loan, .int .i64 c.other, .int .i64 c.amount, .slice A c.flows.length cap, .int .i64 c.past, .int .i64 c.down, .bool c.bad] 52) w)
  have HE1 := Lib.hid (newE #[.int .i64 c.id, .int .i64 c.ek, .int .i64 c.loan, .int .i64 c.other, .int .i64 c.amount, .slice A c.flows.length cap, .int .i64 c.past, .int .i64 c.down, .bool c.bad] (.cells #[.int .i64 11, .int .i64 c.id, .int .i64 c.ek, .int .i64 c.loan, .int .i64 c.other, .int .i64 c.amount, .slice A c.flows.length cap, .int .i64 c.past, .int .i64 c.down, .bool c.bad, .int .i64 c.n] 54) w)
  have HF1 := Lib.hid (hF.below HB1.out)
  clear hF
  go_enter Tryd.func50, Tryd.ntmps50
  go_wp2_with fail
  generalize ((w.alloc (.cells #[.int .i64 11, .int .i64 c.id, .int .i64 c.ek, .int .i64 c.loan, .int .i64 c.other, .int .i64 c.amount, .slice A c.flows.length cap, .int .i64 c.past, .int .i64 c.down, .bool c.bad, .int .i64 c.n] 54)).alloc (.cells #[.int .i64 c.id, .int .i64 c.ek, .int .i64 c.loan, .int .i64 c.other, .int .i64 c.amount, .slice A c.flows.length cap, .int .i64 c.past, .int .i64 c.down, .bool c.bad] 52)) = W at HB1 HC1 HE1 HF1 ⊢
  have hcl := HC1.out.lt
  have hel := HE1.out.lt
  have hWs := HB1.out.size
  obtain ⟨e0, e1, e2, e3, e4, e5, e6, e7, e8⟩ := nine HE1.out
  go_region_held3 (fun w' => w'.cell? ⟨w.heap.size + 1, 0, none⟩ = some (.int .i64 c.id) ∧ w'.cell? ⟨w.heap.size + 1, 2, none⟩ = some (.int .i64 c.loan)) (exact ⟨e0, e2⟩) (fail)
  have HBd := Lib.hid (show Below w.heap.size w W.drew from HB1.out.drew)
  have HCd := Lib.hid (show Whole W.drew w.heap.size 54 #[.int .i64 11, .int .i64 c.id, .int .i64 c.ek, .int .i64 c.loan, .int .i64 c.other, .int .i64 c.amount, .slice A c.flows.length cap, .int .i64 c.past, .int .i64 c.down, .bool c.bad, .int .i64 c.n] from HC1.out)
  have HEd := Lib.hid (show Whole W.drew (w.heap.size + 1) 52 #[.int .i64 c.id, .int .i64 c.ek, .int .i64 c.loan, .int .i64 c.other, .int .i64 c.amount, .slice A c.flows.length cap, .int .i64 c.past, .int .i64 c.down, .bool c.bad] from HE1.out)
  have HFd := Lib.hid (HF1.out.below (Below.refl W.heap.size W).drew)
  have hcl : w.heap.size < W.drew.heap.size := hcl
  have hel : w.heap.size + 1 < W.drew.heap.size := hel
  have hWs : w.heap.size ≤ W.drew.heap.size := hWs
  clear e0 e1 e2 e3 e4 e5 e6 e7 e8 HB1 HC1 HE1 HF1
  generalize W.drew = W2 at HBd HCd HEd HFd hcl hel hWs ⊢
  obtain ⟨f0, f1, f2, f3, f4, f5, f6, f7, f8, f9, f10⟩ := elev HCd.out
  obtain ⟨e0, e1, e2, e3, e4, e5, e6, e7, e8⟩ := nine HEd.out
  go_wp2_with fail
  go_ret
  exact ⟨none, 0, rfl, nil_own' _ _, HBd.out⟩
set_option maxRecDepth 100000 in
set_option maxHeartbeats 8000000 in
theorem nums_12 : NumsSaid 12 := by
  intro c A cap w hk hF hn
  have hnum : numsOf c = [] := by
    unfold numsOf
    rw [hk]
    simp [fieldsOf, Cmd.fld]
  rw [hnum, hk]
  clear hnum hk
  have HB1 := Lib.hid (newB (.cells #[.int .i64 12, .int .i64 c.id, .int .i64 c.ek, .int .i64 c.loan, .int .i64 c.other, .int .i64 c.amount, .slice A c.flows.length cap, .int .i64 c.past, .int .i64 c.down, .bool c.bad, .int .i64 c.n] 54) (.cells #[.int .i64 c.id, .int .i64 c.ek, .int .i64 c.loan, .int .i64 c.other, .int .i64 c.amount, .slice A c.flows.length cap, .int .i64 c.past, .int .i64 c.down, .bool c.bad] 52) w)
  have HC1 := Lib.hid (newR #[.int .i64 12, .int .i64 c.id, .int .i64 c.ek, .int .i64 c.loan, .int .i64 c.other, .int .i64 c.amount, .slice A c.flows.length cap, .int .i64 c.past, .int .i64 c.down, .bool c.bad, .int .i64 c.n] (.cells #[.int .i64 c.id, .int .i64 c.ek, .int .i64 c.loan, .int .i64 c.other, .int .i64 c.amount, .slice A c.flows.length cap, .int .i64 c.past, .int .i64 c.down, .bool c.bad] 52) w)
  have HE1 := Lib.hid (newE #[.int .i64 c.id, .int .i64 c.ek, .int .i64 c.loan, .int .i64 c.other, .int .i64 c.amount, .slice A c.flows.length cap, .int .i64 c.past, .int .i64 c.down, .bool c.bad] (.cells #[.int .i64 12, .int .i64 c.id, .int .i64 c.ek, .int .i64 c.loan, .int .i64 c.other, .int .i64 c.amount, .slice A c.flows.length cap, .int .i64 c.past, .int .i64 c.down, .bool c.bad, .int .i64 c.n] 54) w)
  have HF1 := Lib.hid (hF.below HB1.out)
  clear hF
  go_enter Tryd.func50, Tryd.ntmps50
  go_wp2_with fail
  generalize ((w.alloc (.cells #[.int .i64 12, .int .i64 c.id, .int .i64 c.ek, .int .i64 c.loan, .int .i64 c.other, .int .i64 c.amount, .slice A c.flows.length cap, .int .i64 c.past, .int .i64 c.down, .bool c.bad, .int .i64 c.n] 54)).alloc (.cells #[.int .i64 c.id, .int .i64 c.ek, .int .i64 c.loan, .int .i64 c.other, .int .i64 c.amount, .slice A c.flows.length cap, .int .i64 c.past, .int .i64 c.down, .bool c.bad] 52)) = W at HB1 HC1 HE1 HF1 ⊢
  have hcl := HC1.out.lt
  have hel := HE1.out.lt
  have hWs := HB1.out.size
  obtain ⟨e0, e1, e2, e3, e4, e5, e6, e7, e8⟩ := nine HE1.out
  go_region_held3 (fun w' => w'.cell? ⟨w.heap.size + 1, 0, none⟩ = some (.int .i64 c.id) ∧ w'.cell? ⟨w.heap.size + 1, 2, none⟩ = some (.int .i64 c.loan)) (exact ⟨e0, e2⟩) (fail)
  have HBd := Lib.hid (show Below w.heap.size w W.drew from HB1.out.drew)
  have HCd := Lib.hid (show Whole W.drew w.heap.size 54 #[.int .i64 12, .int .i64 c.id, .int .i64 c.ek, .int .i64 c.loan, .int .i64 c.other, .int .i64 c.amount, .slice A c.flows.length cap, .int .i64 c.past, .int .i64 c.down, .bool c.bad, .int .i64 c.n] from HC1.out)
  have HEd := Lib.hid (show Whole W.drew (w.heap.size + 1) 52 #[.int .i64 c.id, .int .i64 c.ek, .int .i64 c.loan, .int .i64 c.other, .int .i64 c.amount, .slice A c.flows.length cap, .int .i64 c.past, .int .i64 c.down, .bool c.bad] from HE1.out)
  have HFd := Lib.hid (HF1.out.below (Below.refl W.heap.size W).drew)
  have hcl : w.heap.size < W.drew.heap.size := hcl
  have hel : w.heap.size + 1 < W.drew.heap.size := hel
  have hWs : w.heap.size ≤ W.drew.heap.size := hWs
  clear e0 e1 e2 e3 e4 e5 e6 e7 e8 HB1 HC1 HE1 HF1
  generalize W.drew = W2 at HBd HCd HEd HFd hcl hel hWs ⊢
  obtain ⟨f0, f1, f2, f3, f4, f5, f6, f7, f8, f9, f10⟩ := elev HCd.out
  obtain ⟨e0, e1, e2, e3, e4, e5, e6, e7, e8⟩ := nine HEd.out
  go_wp2_with fail
  go_ret
  exact ⟨none, 0, rfl, nil_own' _ _, HBd.out⟩
set_option maxRecDepth 100000 in
set_option maxHeartbeats 8000000 in
theorem nums_13 : NumsSaid 13 := by
  intro c A cap w hk hF hn
  have hnum : numsOf c = [c.n] := by
    unfold numsOf
    rw [hk]
    simp [fieldsOf, Cmd.fld]
  rw [hnum, hk]
  clear hnum hk
  have HB1 := Lib.hid (newB (.cells #[.int .i64 13, .int .i64 c.id, .int .i64 c.ek, .int .i64 c.loan, .int .i64 c.other, .int .i64 c.amount, .slice A c.flows.length cap, .int .i64 c.past, .int .i64 c.down, .bool c.bad, .int .i64 c.n] 54) (.cells #[.int .i64 c.id, .int .i64 c.ek, .int .i64 c.loan, .int .i64 c.other, .int .i64 c.amount, .slice A c.flows.length cap, .int .i64 c.past, .int .i64 c.down, .bool c.bad] 52) w)
  have HC1 := Lib.hid (newR #[.int .i64 13, .int .i64 c.id, .int .i64 c.ek, .int .i64 c.loan, .int .i64 c.other, .int .i64 c.amount, .slice A c.flows.length cap, .int .i64 c.past, .int .i64 c.down, .bool c.bad, .int .i64 c.n] (.cells #[.int .i64 c.id, .int .i64 c.ek, .int .i64 c.loan, .int .i64 c.other, .int .i64 c.amount, .slice A c.flows.length cap, .int .i64 c.past, .int .i64 c.down, .bool c.bad] 52) w)
  have HE1 := Lib.hid (newE #[.int .i64 c.id, .int .i64 c.ek, .int .i64 c.loan, .int .i64 c.other, .int .i64 c.amount, .slice A c.flows.length cap, .int .i64 c.past, .int .i64 c.down, .bool c.bad] (.cells #[.int .i64 13, .int .i64 c.id, .int .i64 c.ek, .int .i64 c.loan, .int .i64 c.other, .int .i64 c.amount, .slice A c.flows.length cap, .int .i64 c.past, .int .i64 c.down, .bool c.bad, .int .i64 c.n] 54) w)
  have HF1 := Lib.hid (hF.below HB1.out)
  clear hF
  go_enter Tryd.func50, Tryd.ntmps50
  go_wp2_with fail
  generalize ((w.alloc (.cells #[.int .i64 13, .int .i64 c.id, .int .i64 c.ek, .int .i64 c.loan, .int .i64 c.other, .int .i64 c.amount, .slice A c.flows.length cap, .int .i64 c.past, .int .i64 c.down, .bool c.bad, .int .i64 c.n] 54)).alloc (.cells #[.int .i64 c.id, .int .i64 c.ek, .int .i64 c.loan, .int .i64 c.other, .int .i64 c.amount, .slice A c.flows.length cap, .int .i64 c.past, .int .i64 c.down, .bool c.bad] 52)) = W at HB1 HC1 HE1 HF1 ⊢
  have hcl := HC1.out.lt
  have hel := HE1.out.lt
  have hWs := HB1.out.size
  obtain ⟨e0, e1, e2, e3, e4, e5, e6, e7, e8⟩ := nine HE1.out
  go_region_held3 (fun w' => w'.cell? ⟨w.heap.size + 1, 0, none⟩ = some (.int .i64 c.id) ∧ w'.cell? ⟨w.heap.size + 1, 2, none⟩ = some (.int .i64 c.loan)) (exact ⟨e0, e2⟩) (fail)
  have HBd := Lib.hid (show Below w.heap.size w W.drew from HB1.out.drew)
  have HCd := Lib.hid (show Whole W.drew w.heap.size 54 #[.int .i64 13, .int .i64 c.id, .int .i64 c.ek, .int .i64 c.loan, .int .i64 c.other, .int .i64 c.amount, .slice A c.flows.length cap, .int .i64 c.past, .int .i64 c.down, .bool c.bad, .int .i64 c.n] from HC1.out)
  have HEd := Lib.hid (show Whole W.drew (w.heap.size + 1) 52 #[.int .i64 c.id, .int .i64 c.ek, .int .i64 c.loan, .int .i64 c.other, .int .i64 c.amount, .slice A c.flows.length cap, .int .i64 c.past, .int .i64 c.down, .bool c.bad] from HE1.out)
  have HFd := Lib.hid (HF1.out.below (Below.refl W.heap.size W).drew)
  have hcl : w.heap.size < W.drew.heap.size := hcl
  have hel : w.heap.size + 1 < W.drew.heap.size := hel
  have hWs : w.heap.size ≤ W.drew.heap.size := hWs
  clear e0 e1 e2 e3 e4 e5 e6 e7 e8 HB1 HC1 HE1 HF1
  generalize W.drew = W2 at HBd HCd HEd HFd hcl hel hWs ⊢
  obtain ⟨f0, f1, f2, f3, f4, f5, f6, f7, f8, f9, f10⟩ := elev HCd.out
  obtain ⟨e0, e1, e2, e3, e4, e5, e6, e7, e8⟩ := nine HEd.out
  go_wp2_with fail
  go_ret
  exact ⟨_, _, rfl, (NumsOwn.lit W2 _ #[.int .i64 c.n] [c.n] rfl hWs (by simp)), HBd.out.alloc hWs _⟩
set_option maxRecDepth 100000 in
set_option maxHeartbeats 8000000 in
theorem nums_14 : NumsSaid 14 := by
  intro c A cap w hk hF hn
  have hnum : numsOf c = [c.n] := by
    unfold numsOf
    rw [hk]
    simp [fieldsOf, Cmd.fld]
  rw [hnum, hk]
  clear hnum hk
  have HB1 := Lib.hid (newB (.cells #[.int .i64 14, .int .i64 c.id, .int .i64 c.ek, .int .i64 c.loan, .int .i64 c.other, .int .i64 c.amount, .slice A c.flows.length cap, .int .i64 c.past, .int .i64 c.down, .bool c.bad, .int .i64 c.n] 54) (.cells #[.int .i64 c.id, .int .i64 c.ek, .int .i64 c.loan, .int .i64 c.other, .int .i64 c.amount, .slice A c.flows.length cap, .int .i64 c.past, .int .i64 c.down, .bool c.bad] 52) w)
  have HC1 := Lib.hid (newR #[.int .i64 14, .int .i64 c.id, .int .i64 c.ek, .int .i64 c.loan, .int .i64 c.other, .int .i64 c.amount, .slice A c.flows.length cap, .int .i64 c.past, .int .i64 c.down, .bool c.bad, .int .i64 c.n] (.cells #[.int .i64 c.id, .int .i64 c.ek, .int .i64 c.loan, .int .i64 c.other, .int .i64 c.amount, .slice A c.flows.length cap, .int .i64 c.past, .int .i64 c.down, .bool c.bad] 52) w)
  have HE1 := Lib.hid (newE #[.int .i64 c.id, .int .i64 c.ek, .int .i64 c.loan, .int .i64 c.other, .int .i64 c.amount, .slice A c.flows.length cap, .int .i64 c.past, .int .i64 c.down, .bool c.bad] (.cells #[.int .i64 14, .int .i64 c.id, .int .i64 c.ek, .int .i64 c.loan, .int .i64 c.other, .int .i64 c.amount, .slice A c.flows.length cap, .int .i64 c.past, .int .i64 c.down, .bool c.bad, .int .i64 c.n] 54) w)
  have HF1 := Lib.hid (hF.below HB1.out)
  clear hF
  go_enter Tryd.func50, Tryd.ntmps50
  go_wp2_with fail
  generalize ((w.alloc (.cells #[.int .i64 14, .int .i64 c.id, .int .i64 c.ek, .int .i64 c.loan, .int .i64 c.other, .int .i64 c.amount, .slice A c.flows.length cap, .int .i64 c.past, .int .i64 c.down, .bool c.bad, .int .i64 c.n] 54)).alloc (.cells #[.int .i64 c.id, .int .i64 c.ek, .int .i64 c.loan, .int .i64 c.other, .int .i64 c.amount, .slice A c.flows.length cap, .int .i64 c.past, .int .i64 c.down, .bool c.bad] 52)) = W at HB1 HC1 HE1 HF1 ⊢
  have hcl := HC1.out.lt
  have hel := HE1.out.lt
  have hWs := HB1.out.size
  obtain ⟨e0, e1, e2, e3, e4, e5, e6, e7, e8⟩ := nine HE1.out
  go_region_held3 (fun w' => w'.cell? ⟨w.heap.size + 1, 0, none⟩ = some (.int .i64 c.id) ∧ w'.cell? ⟨w.heap.size + 1, 2, none⟩ = some (.int .i64 c.loan)) (exact ⟨e0, e2⟩) (fail)
  have HBd := Lib.hid (show Below w.heap.size w W.drew from HB1.out.drew)
  have HCd := Lib.hid (show Whole W.drew w.heap.size 54 #[.int .i64 14, .int .i64 c.id, .int .i64 c.ek, .int .i64 c.loan, .int .i64 c.other, .int .i64 c.amount, .slice A c.flows.length cap, .int .i64 c.past, .int .i64 c.down, .bool c.bad, .int .i64 c.n] from HC1.out)
  have HEd := Lib.hid (show Whole W.drew (w.heap.size + 1) 52 #[.int .i64 c.id, .int .i64 c.ek, .int .i64 c.loan, .int .i64 c.other, .int .i64 c.amount, .slice A c.flows.length cap, .int .i64 c.past, .int .i64 c.down, .bool c.bad] from HE1.out)
  have HFd := Lib.hid (HF1.out.below (Below.refl W.heap.size W).drew)
  have hcl : w.heap.size < W.drew.heap.size := hcl
  have hel : w.heap.size + 1 < W.drew.heap.size := hel
  have hWs : w.heap.size ≤ W.drew.heap.size := hWs
  clear e0 e1 e2 e3 e4 e5 e6 e7 e8 HB1 HC1 HE1 HF1
  generalize W.drew = W2 at HBd HCd HEd HFd hcl hel hWs ⊢
  obtain ⟨f0, f1, f2, f3, f4, f5, f6, f7, f8, f9, f10⟩ := elev HCd.out
  obtain ⟨e0, e1, e2, e3, e4, e5, e6, e7, e8⟩ := nine HEd.out
  go_wp2_with fail
  go_ret
  exact ⟨_, _, rfl, (NumsOwn.lit W2 _ #[.int .i64 c.n] [c.n] rfl hWs (by simp)), HBd.out.alloc hWs _⟩
theorem numbers_any (k : Int) (hk : 1 ≤ k ∧ k ≤ 14) : NumsSaid k := by
  obtain rfl | rfl | rfl | rfl | rfl | rfl | rfl | rfl | rfl | rfl | rfl | rfl | rfl | rfl := kinds_of hk
  · exact nums_1
  · exact nums_2
  · exact nums_3
  · exact nums_4
  · exact nums_5
  · exact nums_6
  · exact nums_7
  · exact nums_8
  · exact nums_9
  · exact nums_10
  · exact nums_11
  · exact nums_12
  · exact nums_13
  · exact nums_14
end Go.Proofs.YtdmopagkahgepaaDoor
