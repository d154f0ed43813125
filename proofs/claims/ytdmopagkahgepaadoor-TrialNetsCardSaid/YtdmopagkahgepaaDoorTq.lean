/- lombardlaw21.TrialNets: the walk. -/
import Derived.Test.YtdmopagkahgepaaDoorTp
namespace Go.Proofs.YtdmopagkahgepaaDoor
open Go.RowKit Go.Maps Go.ChangeMaps Go.ChangeShapes

theorem flatL_one (xs : List (Int × Int)) : ∀ u ∈ flatL xs, u.oneCell' = true := by
  intro u hu
  unfold flatL at hu
  obtain ⟨p, _, hp⟩ := List.mem_flatMap.1 hu
  simp only [List.mem_cons, List.not_mem_nil, or_false] at hp
  rcases hp with rfl | rfl <;> rfl
theorem LinesAt.cells {w : World} {g n : Nat} {xs : List (Int × Int)} (h : LinesAt w (some ⟨g, 0, none⟩) n xs) : ∀ j u, (flatL xs)[j]? = some u → w.cell? ((⟨g, 0, none⟩ : Addr).add j) = some u := by
  intro j u hj
  have hlt : j < (flatL xs).length := (List.getElem?_eq_some_iff.1 hj).1
  rw [flatL_len] at hlt
  have hi : j / 2 < xs.length := by omega
  obtain ⟨g', e, _, c0, c1⟩ := h.2 (j / 2) (by rw [← h.1]; exact hi)
  cases e
  obtain ⟨g0, g1⟩ := flatL_get xs (j / 2) hi
  rw [add_zero_eq]
  rcases Nat.mod_two_eq_zero_or_one j with hm | hm
  · rw [show j / 2 * 2 = j by omega] at c0 g0
    rw [g0] at hj
    rw [c0, hj]
  · rw [show j / 2 * 2 + 1 = j by omega] at c1 g1
    rw [g1] at hj
    rw [c1, hj]
theorem flatL_app (xs ys : List (Int × Int)) : flatL (xs ++ ys) = flatL xs ++ flatL ys := by simp [flatL]
theorem owns_keeps {w w' : World} {B : Nat} {e : TypeId} {s n : Nat} {v : Value} {xs : List Value} (h : w.ownsRow B e s v n xs) (hk : KeepsCells w w') : w'.ownsRow B e s v n xs := by
  rcases h with ⟨h1, h2⟩
  refine ⟨h1, ?_⟩
  rcases h2 with h2 | ⟨g, cap, cur, e1, e2, e3, r⟩
  · exact .inl h2
  · exact .inr ⟨g, cap, cur, e1, e2, hk.same _ _ _ _ e3, r⟩
theorem TrialFrom.grown {w w' : World} {B b nb : Nat} {T : Tri} {row : Option Nat} (h : TrialFrom w B b nb T) (hg : w.grownBy w' row) (hr : ∀ g, row = some g → ∃ c fz, w.heap[g]? = some (.cells c 35 fz)) : TrialFrom w' B b nb T := by
  obtain ⟨bd, bc, hs, hW, hd, hc⟩ := h
  have hmap : ∀ {x n : Nat} {h : Int → Bool} {f : Int → Int}, Counts w x n h f → some x ≠ row := by
    intro x n h f hx e
    obtain ⟨c, fz, hh⟩ := hr x e.symm
    obtain ⟨D, ⟨es, clock, h2, _⟩, _⟩ := hx
    rw [hh] at h2
    cases h2
  refine ⟨bd, bc, hs, hW.grown hg (fun e => ?_), hd.kept hg (hmap hd), hc.kept hg (hmap hc)⟩
  obtain ⟨c, fz, hh⟩ := hr b e.symm
  unfold Whole at hW
  rw [hh] at hW
  simp at hW
theorem owns_below {B : Nat} {e : TypeId} {k : Nat} {v : Value} {n : Nat} {xs : List Value} {w w' : World} (h : w.ownsRow B e k v n xs) (hb : Below w.heap.size w w') : w'.ownsRow B e k v n xs :=
  h.kept (row := none) ⟨hb.os, hb.tape, hb.output, hb.size, fun j hj _ => hb.block j hj⟩ (by cases v.ownBlock <;> simp)

theorem great_no {xss : List (List (Int × Int))} (h : greatB xss = false) : xss.length ≤ 60 ∧ ∀ x ∈ xss, x.length ≤ 100 := by
  unfold greatB at h
  simp only [Bool.or_eq_false_iff, decide_eq_false_iff_not, List.any_eq_false, decide_eq_true_eq] at h
  exact ⟨by omega, fun x hx => by have := h.1 x hx; omega⟩

/-- Where the first loop stands. -/
structure NetRel (B b : Nat) (xss : List (List (Int × Int))) (W : World) (j : Nat) (v : Value) (wr : World) : Prop where
  tri : TrialFrom wr B b (64 * j) (runT (xss.take j)).1
  ok : RunOk (runT (xss.take j)) j
  own : wr.ownsRow B 35 2 v (runT (xss.take j)).2.length (flatL (runT (xss.take j)).2)
  low : Below B W wr

set_option maxRecDepth 100000 in
set_option maxHeartbeats 4000000 in
theorem nets_any (A : Option Addr) (n c : Nat) (xss : List (List (Int × Int))) (w : World) (h : Src2 w A n xss) (hn : n ≤ 9223372036854775807) (hP : Pow w) :
    Calls Tryd.prog 3 #[.slice A n c] w fun e w' => e = .returned (.bool true) ∧ Below w.heap.size w w' := by
  obtain ⟨i5, hi5, hy0, hy1, hy2⟩ := info_parts info35'
  go_enter Tryd.func3, Tryd.ntmps3
  go_wp2_with fail
  refine (alive_any w hP).mono ?_
  rintro e W ⟨rfl, hb⟩
  have hx := h.below hb
  go_wp2_with fail
  refine (great_any A n c xss W hx hn).mono ?_
  rintro e w1 ⟨rfl, rfl⟩
  cases hgr : greatB xss
  · obtain ⟨h60, h100⟩ := great_no hgr
    have HG := Lib.hid h100
    have HL := Lib.hid hx.1
    clear hgr h100 h
    rw [HL.out] at h60
    go_wp2_with fail
    refine (new_any w1).mono ?_
    rintro e w2 ⟨rfl, rfl⟩
    have hT := new_trial w1
    have hB : Below w1.heap.size w1 (((w1.alloc (.map #[] 0)).alloc (.map #[] 0)).alloc (.cells #[.map (some w1.heap.size), .map (some (w1.heap.size + 1))] 76)) :=
      (((Below.refl _ w1).alloc (Nat.le_refl _) _).alloc (by simp) _).alloc (by simp; omega) _
    generalize ((w1.alloc (.map #[] 0)).alloc (.map #[] 0)).alloc (.cells #[.map (some w1.heap.size), .map (some (w1.heap.size + 1))] 76) = w2 at hT hB ⊢
    have hR : NetRel w1.heap.size (w1.heap.size + 2) xss w1 0 (.slice none 0 0) w2 := ⟨hT, RunOk.start, World.ownsRow_nil _ _ _ _, hB⟩
    clear hT hB
    go_wp2_with fail
    go_loopw [4, 21] (fun v i wr => ∃ j : Nat, j ≤ n ∧ i = .int .i64 j ∧ NetRel w1.heap.size (w1.heap.size + 2) xss w1 j v wr) (fun _ i _ => n - (RowKit.intOf i).toNat)
    case atStart => exact ⟨0, Nat.zero_le _, rfl, hR⟩
    case round =>
      obtain ⟨j, hj, rfl, hR⟩ := hrel
      by_cases hlt : j < n
      · have hxr := hx.below hR.low
        obtain ⟨g, o, Ai, ci, rfl, hg, c0, hs⟩ := hxr.2 j hlt
        have hnx := take_next xss j (by rw [HL.out]; exact hlt) []
        have hle : (xss[j]?.getD []).length ≤ 100 := HG.out _ (by rw [List.getElem?_eq_getElem (by rw [HL.out]; exact hlt)]; exact List.getElem_mem _)
        generalize xss[j]?.getD [] = x at c0 hs hnx hle
        have HX := Lib.hid hnx
        clear hnx hxr
        obtain ⟨hT, hok, hO, hlow⟩ := hR
        have hrun := runT_snoc (xss.take j) x
        rw [← HX.out] at hrun
        have HRUN := Lib.hid hrun
        clear hrun
        generalize runT (xss.take j) = s at hT hok hO HRUN
        obtain ⟨T, acc⟩ := s
        have hok1 := hok.step x
        have hlen := hok.len
        go_wp2_with fail
        refine (To_any Ai x.length ci x wr hs (by omega)).mono ?_
        rintro e w3 ⟨A', c', rfl, hL3, hb3⟩
        have hT3 := hT.below hb3
        have hO3 := owns_below hO hb3
        have hlow3 : Below w1.heap.size w1 w3 := hlow.trans (hb3.mono hlow.size)
        clear c0 hg
        go_wp2_with fail
        refine (add_any w1.heap.size (w1.heap.size + 2) (64 * j) T A' x.length c' x w3 hlow3.size hT3 hok.fine hok.bd (by omega) hL3).mono ?_
        rintro e w4 ⟨rfl, hT4, hb4, hk4⟩
        have hO4 := owns_keeps hO3 hk4
        have hlow4 : Below w1.heap.size w1 w4 := hlow3.trans hb4
        have hs4 := hs.keeps ((KeepsCells.of_below hb3).trans hk4)
        clear hT3 hO3 hb4 hk4 hL3 hT hO hlow hlow3 hs hb3
        by_cases he : addErr T x = 0
        · have hst : stepT (T, acc) x = (addRes T x, acc ++ x) := by unfold stepT; rw [if_pos he]
          obtain ⟨h64, h1, _, _⟩ := checkErr_ok (addErr_check he)
          have HST := Lib.hid hst
          clear hst
          have he' : (addErr T x == 0) = true := by simp [he]
          go_wp2_with fail
          refine (To_any Ai x.length ci x w4 hs4 (by omega)).mono ?_
          rintro e w5 ⟨A5, c5, rfl, hL5, hb5⟩
          have hT5 := hT4.below hb5
          have hO5 := owns_below hO4 hb5
          have hlow5 : Below w1.heap.size w1 w5 := hlow4.trans (hb5.mono hlow4.size)
          have hsz5 := hlow5.size
          obtain ⟨g5, rfl, _⟩ := hL5.2 0 h1
          clear hT4 hO4 hlow4 hb5 hs4
          have hn5 := hL5.cells
          have HN5 := Lib.hid hn5
          have HO5 := Lib.hid hO5
          have hfl : (flatL x).length = x.length * 2 := flatL_len x
          clear hn5 hO5 hL5
          go_wp2_with (at_builtin; refine wpList_append_own_at _ rfl _ _ 27 rfl w1.heap.size 35 i5 (.agg #[.int .i64 0, .int .i64 0]) 2 16 Tryd.underlying27 hi5 hy0 hy1 hy2 rfl (by decide) u4 acc.length (flatL acc) rfl HO5.out ⟨g5, 0, none⟩ x.length c5 (flatL x) rfl hfl HN5.out (flatL_one x) (by unfold maxLen; omega) (by omega) hsz5 ?_; intro v' w6 hown' hgrow hnil hloc)
          have hgrow : w5.grownBy w6 u4.ownBlock := hgrow
          refine ⟨⟨j + 1, by omega, by go_num, ?_, ?_, ?_, hlow5.grown hgrow hsz5 (fun i e => (HO5.out.lt i e).1)⟩, by simp [RowKit.intOf]; omega⟩
          · rw [HRUN.out, HST.out]
            exact hT5.grown hgrow (Lib.ownsRow_kind HO5.out)
          · rw [HRUN.out]
            exact hok1
          · rw [HRUN.out, HST.out]
            show w6.ownsRow w1.heap.size 35 2 _ (acc ++ x).length (flatL (acc ++ x))
            rw [List.length_append, flatL_app]
            exact hown'
        · have hst : stepT (T, acc) x = (addRes T x, acc) := by unfold stepT; rw [if_neg he]
          have HST := Lib.hid hst
          have he' : (addErr T x == 0) = false := by simp [he]
          clear hst he
          go_wp2_with fail
          refine ⟨⟨j + 1, by omega, by go_num, ?_, ?_, ?_, hlow4⟩, by simp [RowKit.intOf]; omega⟩
          · rw [HRUN.out, HST.out]
            exact hT4
          · rw [HRUN.out]
            exact hok1
          · rw [HRUN.out, HST.out]
            exact hO4
      · obtain rfl : j = n := by omega
        obtain ⟨hT, hok, hO, hlow⟩ := hR
        rw [List.take_of_length_le (by rw [HL.out]; omega)] at hT hok hO
        generalize runT xss = s at hT hok hO
        obtain ⟨T, acc⟩ := s
        have hlen := hok.len
        obtain ⟨A1, c1, rfl, hLA⟩ := LinesAt.of_owns hO
        have hlt' : ¬ ((j : Int) < (j : Int)) := by omega
        clear hx hO HG HL hlt
        go_wp2_with fail
        refine (netL_any A1 acc.length c1 acc wr hLA (by omega) hok.ok).mono ?_
        rintro e w3 ⟨A2, n2, c2, rfl, hL2, hb3⟩
        have hT3 := hT.below hb3
        have hlow3 : Below w1.heap.size w1 w3 := hlow.trans (hb3.mono hlow.size)
        clear hT hlow hb3 hLA
        have hn2 : n2 ≤ 7 := by rw [← hL2.1]; exact netOf_len acc 7
        go_wp2_with fail
        go_loopw [44] (fun i wr => ∃ m : Nat, m ≤ n2 ∧ i = .int .i64 m ∧ Below w3.heap.size w3 wr) (fun i _ => n2 - (RowKit.intOf i).toNat)
        case atStart => exact ⟨0, Nat.zero_le _, rfl, Below.refl _ _⟩
        case round =>
          obtain ⟨m, hm, rfl, hBr⟩ := hrel
          by_cases hlt : m < n2
          · have hL2r := hL2.below hBr
            obtain ⟨g, rfl, hg, c0, c1⟩ := hL2r.2 m hlt
            have hmem : (netL acc)[m]?.getD (0, 0) ∈ netL acc := by
              have : m < (netL acc).length := by rw [hL2.1]; exact hlt
              rw [List.getElem?_eq_getElem this]
              exact List.getElem_mem this
            generalize (netL acc)[m]?.getD (0, 0) = x at c0 c1 hmem
            obtain ⟨hx1, hx7, hx2⟩ := netL_mem hmem
            have hk : Fits x.1 := by unfold Fits; omega
            have hnet : wrap64 (T.deb x.1 - T.cre x.1) = x.2 := by
              rw [net_small hok.fine hok.bd x.1 ⟨hx1, hx7⟩]
              exact (hok.net x.1).trans hx2.symm
            have hBal := (Below.refl _ wr).alloc (Nat.le_refl _) (.cells #[.int .i64 x.1, .int .i64 x.2] 35)
            have hTa := ((hT3.below hBr).below hBal).at_
            have hBa := hBr.trans (hBal.mono hBr.size)
            have hWz := Whole.new wr 35 #[.int .i64 x.1, .int .i64 x.2]
            have HTA := Lib.hid hTa
            have HNE := Lib.hid hnet
            have HBA := Lib.hid hBa
            have HWZ := Lib.hid hWz
            clear hmem hL2r hx1 hx7 hx2 hBal hTa hBa hnet hWz
            go_wp2_with fail
            have hWz := HWZ.out
            have hTa := HTA.out
            have hBa := HBA.out
            clear HWZ HTA HBA c0 c1 hg hBr
            generalize wr.alloc (.cells #[.int .i64 x.1, .int .i64 x.2] 35) = wa at hWz hTa hBa ⊢
            generalize wr.heap.size = z at hWz ⊢
            go_region_held3 (fun w' => w'.cell? ⟨z, 0, none⟩ = some (.int .i64 x.1) ∧ w'.cell? ⟨z, 1, none⟩ = some (.int .i64 x.2)) (first | exact two_of HW1 | exact two_of hWz)
              (first
                | (go_at_call 14; refine (net_row (w1.heap.size + 2) (64 * j) T x.1 x.2 wa hTa hk HNE.out).mono ?_; rintro e w' ⟨rfl, hm'⟩
                   have HW1 := hm'.whole hWz
                   have HB1 := hm'.below hBa))
            go_wp2_with fail
            exact ⟨⟨m + 1, by omega, by go_num, HB1⟩, by simp [RowKit.intOf]; omega⟩
          · obtain rfl : m = n2 := by omega
            have hT4 := hT3.below hBr
            have hlow4 : Below w1.heap.size w1 wr := hlow3.trans (hBr.mono hlow3.size)
            have hcount := hok.count
            rw [hL2.1] at hcount
            have HCO := Lib.hid hcount
            clear hcount hT3 hlow3 hBr hL2 hlt
            go_wp2_with fail
            refine (rows_any w1.heap.size (w1.heap.size + 2) (64 * j) T wr hlow4.size hT4 hok.fine hok.bd (by omega)).mono ?_
            rintro e w5 ⟨A5, c5, rfl, hR5, hb5⟩
            have hlow5 : Below w1.heap.size w1 w5 := hlow4.trans (hb5.mono hlow4.size)
            have h7 : (keysOf T.has).length ≤ 7 := List.length_filter_le _ _
            clear hT4 hlow4 hb5 hok
            replace HCO : Hid (netCount T (keysOf T.has) = m) := HCO
            generalize keysOf T.has = ks at hR5 h7 HCO ⊢
            go_wp2_with fail
            go_loopw [11, 59] (fun q i wr => ∃ p : Nat, p ≤ ks.length ∧ i = .int .i64 p ∧ q = .int .i64 (netCount T (ks.take p) : Nat) ∧ Below w5.heap.size w5 wr) (fun _ i _ => ks.length - (RowKit.intOf i).toNat)
            case atStart => exact ⟨0, Nat.zero_le _, rfl, rfl, Below.refl _ _⟩
            case round =>
              obtain ⟨p, hp, rfl, rfl, hBr⟩ := hrel
              by_cases hlt : p < ks.length
              · obtain ⟨g, cs, rfl, hW, e0, e1, e2, e3⟩ := (hR5.below hBr) p hlt
                have c0 := (hW.cell _).trans e0
                have c1 := (hW.cell _).trans e1
                have c2 := (hW.cell _).trans e2
                have c3 := (hW.cell _).trans e3
                have hnx := take_next ks p hlt 0
                generalize ks[p]?.getD 0 = k at c0 c1 c2 c3 hnx e0 e1 e2 e3
                have HX := Lib.hid hnx
                have hg := hW.lt
                have hnc : netCount T (ks.take p) ≤ 7 := Nat.le_trans (List.length_filter_le _ _) (by rw [List.length_take]; omega)
                have hsn := netCount_snoc T (ks.take p) k
                rw [← hnx] at hsn
                have HSN := Lib.hid hsn
                generalize netCount T (ks.take p) = nc at hnc HSN ⊢
                have hBa := hBr.alloc hBr.size (.cells #[.int .i64 k, .int .i64 (T.deb k), .int .i64 (T.cre k), .int .i64 (T.deb k - T.cre k)] 40)
                have HBA := Lib.hid hBa
                clear hnx e0 e1 e2 e3 hW hsn hBa hBr
                generalize T.deb k = d at c1 c3 HSN HBA ⊢
                generalize T.cre k = cr at c2 c3 HSN HBA ⊢
                by_cases hz : d - cr = 0
                · have hz' : (d - cr != 0) = false := by simp [hz]
                  rw [hz] at c3 HBA hz' HSN
                  go_wp2_with fail
                  refine ⟨⟨p + 1, by omega, by go_num, ?_, HBA.out⟩, by simp [RowKit.intOf]; omega⟩
                  rw [HSN.out]
                  rfl
                · have hz' : (d - cr != 0) = true := by simp [hz]
                  go_wp2_with fail
                  refine ⟨⟨p + 1, by omega, by go_num, ?_, HBA.out⟩, by simp [RowKit.intOf]; omega⟩
                  rw [HSN.out, if_neg hz]
                  rfl
              · obtain rfl : p = ks.length := by omega
                rw [List.take_of_length_le (Nat.le_refl _), HCO.out]
                go_wp2_with fail
                go_ret
                exact ⟨by simp, hb.trans ((hlow5.trans (hBr.mono hlow5.size)).mono hb.size)⟩
  · go_wp2_with fail
    go_ret
    exact ⟨rfl, hb⟩
end Go.Proofs.YtdmopagkahgepaaDoor
