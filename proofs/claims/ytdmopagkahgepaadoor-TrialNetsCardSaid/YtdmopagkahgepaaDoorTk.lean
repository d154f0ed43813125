/- Trial.Rows. -/
import Derived.Test.YtdmopagkahgepaaDoorTj
namespace Go.Proofs.YtdmopagkahgepaaDoor
open Go.RowKit Go.Maps Go.ChangeMaps Go.ChangeShapes

theorem info40' : (Tryd.prog.info? 40).map (fun i => (i.zero, i.size, i.bytes)) = some (some (.agg #[.int .i64 0, .int .i64 0, .int .i64 0, .int .i64 0]), 4, 32) := by kernel_rfl

/-- The cells of the rows of accounts. -/
def rowCells (T : Tri) (ks : List Int) : List Value := ks.flatMap fun k => [.int .i64 k, .int .i64 (T.deb k), .int .i64 (T.cre k), .int .i64 (T.deb k - T.cre k)]
theorem rowCells_snoc (T : Tri) (ks : List Int) (k : Int) : rowCells T (ks ++ [k]) = rowCells T ks ++ [.int .i64 k, .int .i64 (T.deb k), .int .i64 (T.cre k), .int .i64 (T.deb k - T.cre k)] := by simp [rowCells]
theorem rowCells_get (T : Tri) : ∀ (ks : List Int) (i : Nat), i < ks.length → (rowCells T ks)[i * 4]? = some (.int .i64 (ks[i]?.getD 0)) ∧ (rowCells T ks)[i * 4 + 1]? = some (.int .i64 (T.deb (ks[i]?.getD 0))) ∧
    (rowCells T ks)[i * 4 + 2]? = some (.int .i64 (T.cre (ks[i]?.getD 0))) ∧ (rowCells T ks)[i * 4 + 3]? = some (.int .i64 (T.deb (ks[i]?.getD 0) - T.cre (ks[i]?.getD 0)))
  | k :: ks, 0, _ => ⟨rfl, rfl, rfl, rfl⟩
  | k :: ks, i + 1, h => by
    obtain ⟨h1, h2, h3, h4⟩ := rowCells_get T ks i (by simpa using h)
    simp only [rowCells, List.flatMap_cons] at h1 h2 h3 h4 ⊢
    rw [show (i + 1) * 4 = i * 4 + 1 + 1 + 1 + 1 by omega]
    refine ⟨by simpa using h1, by simpa using h2, by simpa using h3, by simpa using h4⟩

/-- A slice of rows: of the accounts ks of T. -/
def RowsAt (w : World) (A : Option Addr) (T : Tri) (ks : List Int) : Prop :=
  ∀ i, i < ks.length → ∃ g cs, A = some ⟨g, 0, none⟩ ∧ Whole w g 40 cs ∧ cs[i * 4]? = some (.int .i64 (ks[i]?.getD 0)) ∧ cs[i * 4 + 1]? = some (.int .i64 (T.deb (ks[i]?.getD 0))) ∧
    cs[i * 4 + 2]? = some (.int .i64 (T.cre (ks[i]?.getD 0))) ∧ cs[i * 4 + 3]? = some (.int .i64 (T.deb (ks[i]?.getD 0) - T.cre (ks[i]?.getD 0)))
theorem RowsAt.below {w w' : World} {A : Option Addr} {T : Tri} {ks : List Int} (h : RowsAt w A T ks) (hb : Below w.heap.size w w') : RowsAt w' A T ks := fun i hi => by
  obtain ⟨g, cs, e, hW, r⟩ := h i hi
  exact ⟨g, cs, e, hW.below hb hW.lt, r⟩
theorem RowsAt.others {w w' : World} {b : Nat} {A : Option Addr} {T : Tri} {ks : List Int} {cb : Array Value} {fz : Nat × Nat} (h : RowsAt w A T ks) (hB : w.heap[b]? = some (.cells cb 118 fz)) (hk : Lib.OthersKept 5 (some b) w w') : RowsAt w' A T ks := fun i hi => by
  obtain ⟨g, cs, e, hW, r⟩ := h i hi
  refine ⟨g, cs, e, hk g _ hW (fun e => ?_) (fun c fz e => ?_), r⟩
  · cases e
    unfold Whole at hW
    rw [hB] at hW
    simp at hW
  · simp at e
theorem RowsAt.of_owns {w : World} {B : Nat} {v : Value} {T : Tri} {ks : List Int} (h : w.ownsRow B 40 4 v ks.length (rowCells T ks)) : ∃ A c, v = .slice A ks.length c ∧ RowsAt w A T ks := by
  rcases h.2 with ⟨rfl, h0⟩ | ⟨g, cap, cur, rfl, _, hh, _⟩
  · exact ⟨none, 0, by rw [h0], fun i hi => by omega⟩
  · refine ⟨_, cap, rfl, fun i hi => ?_⟩
    have hc := h.cells (g := g) rfl
    have hW : Whole w g 40 cur := hh
    have hcc := fun j u (e : (rowCells T ks)[j]? = some u) => (hW.cell j).symm.trans (add_cell (hc j u e))
    obtain ⟨g0, g1, g2, g3⟩ := rowCells_get T ks i hi
    exact ⟨g, cur, rfl, hW, hcc _ _ g0, hcc _ _ g1, hcc _ _ g2, hcc _ _ g3⟩

theorem net_small {T : Tri} (hT : Fine T) (ht : tot T.deb ≤ 2305843009213693952 ∧ tot T.cre = tot T.deb) (k : Int) (hk : 1 ≤ k ∧ k ≤ 7) : wrap64 (T.deb k - T.cre k) = T.deb k - T.cre k := by
  have g1 := tot_ge _ (fun k => (hT.pos k).1) k hk
  have g2 := tot_ge _ (fun k => (hT.pos k).2) k hk
  have := hT.pos k
  exact wrap_small (by omega) (by omega)

theorem maps_of {w : World} {b bd bc : Nat} (hW : Whole w b 76 #[.map (some bd), .map (some bc)]) : w.cell? ⟨b, 0, none⟩ = some (.map (some bd)) ∧ w.cell? ⟨b, 1, none⟩ = some (.map (some bc)) := ⟨hW.cell 0, hW.cell 1⟩

/-- Only the tape has been drawn from. -/
def Drawn (w w' : World) : Prop := ∃ m, w' = w.drew.drewN m
theorem Drawn.whole {w w' : World} {g : Nat} {t : TypeId} {cs : Array Value} (h : Drawn w w') (hW : Whole w g t cs) : Whole w' g t cs := by
  obtain ⟨m, rfl⟩ := h
  exact hW
theorem Drawn.look {w w' : World} {b n : Nat} {h : Int → Bool} {f : Int → Int} {k : Int} (hm : Drawn w w') (H : Counts w b n h f) (hk : Fits k) : (Instr.lookup 74 (.map (some b)) (.int .i64 k) false).run Tryd.prog w' = .ok (.int .i64 (f k)) w' := by
  obtain ⟨m, rfl⟩ := hm
  exact (H.drew.drewN m).look hk
theorem Drawn.owns {w w' : World} {B : Nat} {e : TypeId} {s n : Nat} {v : Value} {xs : List Value} (hm : Drawn w w') (H : w.ownsRow B e s v n xs) : w'.ownsRow B e s v n xs := by
  obtain ⟨m, rfl⟩ := hm
  exact H
theorem Drawn.below {w w' : World} {B : Nat} {w0 : World} (hm : Drawn w w') (H : Below B w0 w) : Below B w0 w' := by
  obtain ⟨m, rfl⟩ := hm
  exact ⟨H.os, H.tape, H.output, H.size, H.block⟩
theorem net_row (b n : Nat) (T : Tri) (k d : Int) (w : World) (H : TrialAt w b n T) (hk : Fits k) (hd : wrap64 (T.deb k - T.cre k) = d) :
    Calls Tryd.prog 14 #[.pointer (some ⟨b, 0, none⟩), .int .i64 k] w.drew fun e w' => e = .returned (.int .i64 d) ∧ Drawn w w' := by
  have H' : TrialAt w.drew b n T := H
  refine (net_any b n T k w.drew H' hk).mono ?_
  rintro e w' ⟨rfl, m, rfl⟩
  exact ⟨by rw [hd], m, rfl⟩

theorem rows_nil (w : World) : Calls Tryd.prog 15 #[.pointer none] w fun e w' => e = .returned (.slice none 0 0) ∧ w = w' := by
  go_enter Tryd.func15, Tryd.ntmps15
  go_wp2_with fail
  go_ret
  exact ⟨rfl, rfl⟩

theorem World.alloc_le (w : World) (o : Obj) : w.heap.size ≤ (w.alloc o).heap.size := by simp

set_option maxRecDepth 100000 in
set_option maxHeartbeats 2000000 in
theorem rows_any (B b nb : Nat) (T : Tri) (w : World) (_hB : B ≤ w.heap.size) (H : TrialFrom w B b nb T) (hT : Fine T) (ht : tot T.deb ≤ 2305843009213693952 ∧ tot T.cre = tot T.deb) (hn : nb < 1000000) :
    Calls Tryd.prog 15 #[.pointer (some ⟨b, 0, none⟩)] w fun e w' => ∃ A c, e = .returned (.slice A (keysOf T.has).length c) ∧ RowsAt w' A T (keysOf T.has) ∧ Below w.heap.size w w' := by
  obtain ⟨i4, hi4, hy0, hy1, hy2⟩ := info_parts info40'
  have H0 := H
  obtain ⟨bd, bc, hs, hW, hd, hc⟩ := H0
  have c0 := hW.cell 0
  have c1 := hW.cell 1
  simp only [List.getElem?_toArray, List.getElem?_cons_zero, List.getElem?_cons_succ] at c0 c1
  have HS := Lib.hid (sorted_any bd nb T.has T.deb w hd hn hT.keys)
  have h7 : (keysOf T.has).length ≤ 7 := List.length_filter_le _ _
  have hks : ∀ k ∈ keysOf T.has, 1 ≤ k ∧ k ≤ 7 := fun k hk => (mem_seven k).1 (List.mem_filter.1 hk).1
  have HKS := Lib.hid hks
  clear hks
  go_enter Tryd.func15, Tryd.ntmps15
  go_wp2_with fail
  refine (keys_any (some bd) w).mono ?_
  rintro e w1 ⟨rfl, rfl⟩
  go_wp2_with fail
  refine HS.out.mono ?_
  rintro e Ws ⟨v, rfl, hrow, hbs⟩
  have hbw : Below w.heap.size w Ws := ((Below.refl _ w).alloc (Nat.le_refl _) _).trans (hbs.mono (by omega))
  generalize hks : keysOf T.has = ks at *
  have hnums := NumsAt.of_owns hrow
  obtain ⟨A0, c0', rfl, hnum⟩ := hnums
  have hW1 := hW.below hbw hW.lt
  have hd1 := hd.below hbw hd.lt
  have hc1 := hc.below hbw hc.lt
  clear HS hbs hrow c0 c1 hW hd hc H
  go_wp2_with fail
  go_loopw [3, 15] (fun o i wr => ∃ j : Nat, j ≤ ks.length ∧ i = .int .i64 j ∧ Below Ws.heap.size Ws wr ∧ wr.ownsRow Ws.heap.size 40 4 o (ks.take j).length (rowCells T (ks.take j))) (fun _ i _ => ks.length - (RowKit.intOf i).toNat)
  case atStart => exact ⟨0, Nat.zero_le _, rfl, Below.refl _ _, World.ownsRow_nil _ _ _ _⟩
  case round =>
    obtain ⟨j, hj, rfl, hBr, hO⟩ := hrel
    by_cases hlt : j < ks.length
    · obtain ⟨g, rfl, hg, c0⟩ := hnum j hlt
      rw [← hBr.cell (p := ⟨g, _, none⟩) hg] at c0
      have hnx := take_next ks j hlt 0
      have hkk : 1 ≤ ks[j]?.getD 0 ∧ ks[j]?.getD 0 ≤ 7 := HKS.out _ (by rw [List.getElem?_eq_getElem hlt]; exact List.getElem_mem hlt)
      generalize ks[j]?.getD 0 = k at c0 hnx hkk
      have HX := Lib.hid hnx
      have hlen : (ks.take j).length ≤ 7 := by rw [List.length_take]; omega
      have hW := hW1.below hBr hW1.lt
      have hd := hd1.below hBr hd1.lt
      have hc := hc1.below hBr hc1.lt
      have hk : Fits k := by unfold Fits; omega
      have hnet := net_small hT ht k hkk
      have hbd1 := hT.pos k
      have hBs := hBr.size
      have r0 := hd.drew.look hk
      have r1 := hc.drew.look hk
      have r2 := fun m => (hd.drew.drewN m).look hk
      have r3 := fun m => (hc.drew.drewN m).look hk
      have HTA : TrialAt wr b nb T := ⟨bd, bc, hW, hd, hc, hs.2.2.2⟩
      have HLJ := Lib.hid (show (ks.take j).length = j by rw [List.length_take]; omega)
      have hone := ints_oneCell .i64 [k, T.deb k, T.cre k, T.deb k - T.cre k]
      have hml : (ks.take j).length + 1 ≤ maxLen := by unfold maxLen; omega
      have hby : ((ks.take j).length + 1) * 32 ≤ 140737488355328 := by omega
      have hne : ∀ x : Unit, some b ≠ u3.ownBlock := fun _ e => by have := (hO.lt b e.symm).1; have := hW1.lt; omega
      clear hnx hnum _hB
      go_wp2_with fail
      go_region_held3 (fun w' => w'.cell? ⟨b, 0, none⟩ = some (.map (some bd)) ∧ w'.cell? ⟨b, 1, none⟩ = some (.map (some bc))) (first | exact maps_of HW2 | exact maps_of (HW1.alloc _) | exact maps_of HW1 | exact maps_of hW)
        (first
          | (go_at_call 14; refine (net_row b nb T k _ wr HTA hk hnet).mono ?_; rintro e w' ⟨rfl, hm⟩
             have q0 := hm.look hd hk
             have q1 := hm.look hc hk
             have HW1 := hm.whole hW
             have HO1 := hm.owns hO
             have hB1 := hm.below hBr
             have hz1 := hB1.size)
          | (refine step_append_lies _ rfl _ _ 37 rfl Ws.heap.size 40 i4 (.agg #[.int .i64 0, .int .i64 0, .int .i64 0, .int .i64 0]) 4 32 Tryd.underlying37 hi4 hy0 hy1 hy2 rfl (by decide) u3 (ks.take j).length (rowCells T (ks.take j)) rfl (HO1.alloc _) ⟨w'.heap.size, 0, none⟩ 1 1 [.int .i64 k, .int .i64 (T.deb k), .int .i64 (T.cre k), .int .i64 (T.deb k - T.cre k)] rfl rfl (cells_new _ _ _) hone (by decide) hml hby (Nat.le_trans hz1 (World.alloc_le _ _)) _ rfl ?_; intro g2 cap w1 hown' hgrow hat3 hlt3
             have HW2 := (HW1.alloc _).grown hgrow (hne ())))
      all_goals
        go_wp2_with fail
        refine ⟨⟨j + 1, by omega, by go_num, (hB1.alloc hz1 _).grown hgrow (by simp; omega) (fun i e => (hO.lt i e).1), ?_⟩, by simp [RowKit.intOf]; omega⟩
        rw [HX.out, rowCells_snoc, List.length_append]
        rw [HLJ.out] at hown' ⊢
        exact hown'
    · obtain rfl : j = ks.length := by omega
      rw [List.take_of_length_le (Nat.le_refl _)] at hO
      obtain ⟨A, c', rfl, hR⟩ := RowsAt.of_owns hO
      go_wp2_with fail
      go_ret
      rw [hks]
      exact ⟨A, c', rfl, hR, hbw.trans (hBr.mono hbw.size)⟩
end Go.Proofs.YtdmopagkahgepaaDoor
