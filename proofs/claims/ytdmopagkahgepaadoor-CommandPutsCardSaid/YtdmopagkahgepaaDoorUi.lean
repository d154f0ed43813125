/- command.Put: the numbers are gathered. -/
import Derived.Test.YtdmopagkahgepaaDoorUh
import Derived.Laws.AppendOwnNone
import Derived.Deep.DeepCutAuto
import Derived.Deep.RegionWith
import Derived.Deep.DrawnRows
namespace Go.Proofs.YtdmopagkahgepaaDoor
open Go.RowKit Go.Maps Go.ChangeMaps Go.ChangeShapes
attribute [local go_sem ↓] Go.wp_at_zero Go.wp_at_succ

/-- A command's cells. -/
theorem cells_new' (w : World) (n : Nat) (cs : Array Value) (t : TypeId) (hn : w.heap.size = n) : ∀ j u, cs.toList[j]? = some u → (w.alloc (.cells cs t)).cell? ((⟨n, 0, none⟩ : Addr).add j) = some u := by
  subst hn
  exact cells_new w cs t
theorem cmd_cell (c : Cmd) (fv : Value) {k : FK} {o : Nat} (hk : k ≠ .yes) (h : okF (k, o) = true) : (#[.int .i64 c.kind, .int .i64 c.id, .int .i64 c.ek, .int .i64 c.loan, .int .i64 c.other, .int .i64 c.amount, fv, .int .i64 c.past, .int .i64 c.down, .bool c.bad, .int .i64 c.n] : Array Value)[o]? = some (.int .i64 (c.fld o)) := by
  have ho : o = 1 ∨ o = 3 ∨ o = 4 ∨ o = 5 ∨ o = 7 ∨ o = 8 ∨ o = 10 := by
    cases k
    · simp only [okF, Bool.or_eq_true, beq_iff_eq] at h
      omega
    · simp only [okF, Bool.or_eq_true, beq_iff_eq] at h
      omega
    · exact absurd rfl hk
  rcases ho with rfl | rfl | rfl | rfl | rfl | rfl | rfl <;> rfl
/-- A slice of a command's flows, as an argument bears it. -/
structure FlowsIn (w : World) (A : Option Addr) (cap : Nat) (xs : List Int) : Prop where
  src : NumSrc w (.slice A xs.length cap) xs
  nil : A = none → cap = 0
theorem FlowsIn.below {w w' : World} {A : Option Addr} {cap : Nat} {xs : List Int} (h : FlowsIn w A cap xs) (hb : Below w.heap.size w w') : FlowsIn w' A cap xs := ⟨h.src.below hb, h.nil⟩
theorem FlowsIn.of_own {w : World} {B : Nat} {A : Option Addr} {cap : Nat} {xs : List Int} (h : NumsOwn w B (.slice A xs.length cap) xs) : FlowsIn w A cap xs := by
  refine ⟨h.src, fun e => ?_⟩
  subst e
  rcases h.2 with ⟨e, _⟩ | ⟨g, cp, cur, e, _⟩
  · simp only [Value.slice.injEq] at e
    exact e.2.2
  · cases e
theorem FlowsIn.none_nil {w : World} {cap : Nat} {xs : List Int} (h : FlowsIn w none cap xs) : xs = [] ∧ cap = 0 := by
  refine ⟨?_, h.nil rfl⟩
  obtain ⟨A, c, e, h⟩ := h.src
  cases xs with
  | nil => rfl
  | cons x xs =>
    obtain ⟨g, o, e1, _⟩ := h 0 (by simp)
    cases e
    cases e1
theorem FlowsIn.at_ {w : World} {ad : Addr} {cap : Nat} {xs : List Int} (h : FlowsIn w (some ad) cap xs) : ∀ j u, (xs.map (Value.int .i64))[j]? = some u → w.cell? (ad.add j) = some u := by
  intro j u hu
  rw [List.getElem?_map] at hu
  cases hx : xs[j]? with
  | none => rw [hx] at hu; cases hu
  | some y =>
    rw [hx] at hu
    simp only [Option.map_some, Option.some.injEq] at hu
    subst hu
    have hj : j < xs.length := (List.getElem?_eq_some_iff.1 hx).1
    obtain ⟨A, c, e, h⟩ := h.src
    obtain ⟨g, o, e1, _, c1⟩ := h j hj
    cases e
    cases e1
    rw [hx] at c1
    have : (⟨g, o, none⟩ : Addr).add j = ⟨g, o + j, none⟩ := by
      unfold Addr.add
      split
      · rename_i h0
        subst h0
        rfl
      · rfl
    rw [this]
    exact c1
theorem same_cmd (x c : Cmd) (A B : Option Addr) (cx cap : Nat) (b : Bool) (w : World) (hu : NumSrc w (.slice A x.flows.length cx) x.flows) (hv : NumSrc w (.slice B c.flows.length cap) c.flows) (hn : x.flows.length ≤ 9000) (hm : c.flows.length ≤ 9000) (hb : decide (x = c) = b) :
    Calls Tryd.prog 46 #[.agg #[.int .i64 x.kind, .int .i64 x.id, .int .i64 x.ek, .int .i64 x.loan, .int .i64 x.other, .int .i64 x.amount, .slice A x.flows.length cx, .int .i64 x.past, .int .i64 x.down, .bool x.bad, .int .i64 x.n], .agg #[.int .i64 c.kind, .int .i64 c.id, .int .i64 c.ek, .int .i64 c.loan, .int .i64 c.other, .int .i64 c.amount, .slice B c.flows.length cap, .int .i64 c.past, .int .i64 c.down, .bool c.bad, .int .i64 c.n]] w fun e w' => e = .returned (.bool b) ∧ Below w.heap.size w w' := by
  refine (same_any x.kind x.id x.ek x.loan x.other x.amount x.past x.down x.n c.kind c.id c.ek c.loan c.other c.amount c.past c.down c.n x.bad c.bad A B cx cap x.flows c.flows w hu hv hn hm).mono ?_
  rintro e w' ⟨rfl, h⟩
  refine ⟨ret_bool ?_, h⟩
  subst hb
  obtain ⟨x0, x1, x2, x3, x4, x5, x6, x7, x8, x9, x10⟩ := x
  obtain ⟨c0, c1, c2, c3, c4, c5, c6, c7, c8, c9, c10⟩ := c
  rw [Bool.eq_iff_iff]
  simp only [Bool.and_eq_true, beq_iff_eq, decide_eq_true_eq, Cmd.mk.injEq]
  constructor
  · rintro ⟨⟨⟨⟨⟨⟨⟨⟨h0, h10⟩, h1⟩, h2⟩, h3⟩, h4⟩, h5⟩, ⟨h7, h8⟩, h9⟩, h6⟩
    exact ⟨h0, h1, h2, h3, h4, h5, h6, h7, h8, h9, h10⟩
  · rintro ⟨h0, h1, h2, h3, h4, h5, h6, h7, h8, h9, h10⟩
    exact ⟨⟨⟨⟨⟨⟨⟨⟨h0, h10⟩, h1⟩, h2⟩, h3⟩, h4⟩, h5⟩, ⟨h7, h8⟩, h9⟩, h6⟩

theorem word_small : ∀ k : Nat, k < 15 → (wordL.getD k ByteArray.empty).size ≤ 10 := by decide +kernel
theorem owns_low8 {w w' : World} {B : Nat} {v : Value} {xs : List Int} (h : NumsOwn w B v xs) (hb : Below w.heap.size w w') : NumsOwn w' B v xs := h.below hb
/-- What Put comes to. -/
def PutEnd (c : Cmd) (e : Ending) : Prop :=
  (putL c = none ∧ e = .returned (.tuple #[.string ⟨#[]⟩, .int .i64 2])) ∨ ∃ t, putL c = some t ∧ e = .returned (.tuple #[.string ⟨t.toArray⟩, .int .i64 0])

theorem get_yes' (B : Nat) (a : Addr) (b : Bool) (x : Int) (w : World) (hb : Whole w B 159 #[.pointer (some a)]) (hc : w.cell? a = some (.bool b)) (hx : (if b then 1 else 0) = x) : Calls Tryd.prog 101 #[.pointer (some ⟨B, 0, none⟩)] w fun e w' => e = .returned (.int .i64 x) ∧ w' = w := by
  subst hx
  exact get_yes B a b w hb hc
set_option maxRecDepth 100000 in
set_option maxHeartbeats 8000000 in
theorem put_any (c : Cmd) (A : Option Addr) (cap : Nat) (w : World) (hfl : FlowsIn w A cap c.flows) (hn : c.flows.length ≤ 700) (hc : c.Fine) (hP : Pow w) :
    Calls Tryd.prog 21 #[.agg #[.int .i64 c.kind, .int .i64 c.id, .int .i64 c.ek, .int .i64 c.loan, .int .i64 c.other, .int .i64 c.amount, .slice A c.flows.length cap, .int .i64 c.past, .int .i64 c.down, .bool c.bad, .int .i64 c.n]] w fun e w' => Below w.heap.size w w' ∧ PutEnd c e := by
  have hBa := (Below.refl w.heap.size w).alloc (Nat.le_refl _) (.cells #[.int .i64 c.kind, .int .i64 c.id, .int .i64 c.ek, .int .i64 c.loan, .int .i64 c.other, .int .i64 c.amount, .slice A c.flows.length cap, .int .i64 c.past, .int .i64 c.down, .bool c.bad, .int .i64 c.n] 47)
  have hz := Whole.new w 47 #[.int .i64 c.kind, .int .i64 c.id, .int .i64 c.ek, .int .i64 c.loan, .int .i64 c.other, .int .i64 c.amount, .slice A c.flows.length cap, .int .i64 c.past, .int .i64 c.down, .bool c.bad, .int .i64 c.n]
  obtain ⟨i2, hi2, hz2, hs2, hy2⟩ := info_parts info2'
  by_cases hk : 1 ≤ c.kind ∧ c.kind ≤ 14
  · obtain ⟨hk1, hk2⟩ := hk
    have hfa := hfl.below hBa
    have HFA := Lib.hid hfa
    have HPW := Lib.hid (hP.below hBa (Nat.le_refl _))
    have HBA0 := Lib.hid hBa
    have HZ0 := Lib.hid hz
    clear hfa hBa hfl hP hz
    go_enter Tryd.func21, Tryd.ntmps21
    go_wp2_with fail
    have hz := HZ0.out
    have hBa := HBA0.out
    clear HZ0 HBA0
    generalize w.alloc (.cells #[.int .i64 c.kind, .int .i64 c.id, .int .i64 c.ek, .int .i64 c.loan, .int .i64 c.other, .int .i64 c.amount, .slice A c.flows.length cap, .int .i64 c.past, .int .i64 c.down, .bool c.bad, .int .i64 c.n] 47) = W at hz hBa HFA HPW ⊢
    refine (fields_any w.heap.size c.kind W hz.lt (hz.cell 0)).mono ?_
    rintro e W3 ⟨v, fs, rfl, hF, hfs, hb3⟩
    have hlen : fs.length = (fieldsOf c.kind).1.length := by rw [← hfs, List.length_map]
    have hle5 : fs.length ≤ 5 := by rw [hlen]; exact fieldsOf_len c.kind
    obtain ⟨A1, n1, c1, rfl⟩ := slice_form hF.1
    obtain rfl : n1 = fs.length := by
      rcases Go.Joins.ownsRow_forms hF.1 with ⟨e, h0⟩ | ⟨g, cp, e⟩
      · cases e; exact h0.symm
      · cases e; rfl
    have hz3 := hz.below hb3 hz.lt
    have hB3 : Below w.heap.size w W3 := hBa.trans (hb3.mono hBa.size)
    have hfl3 := HFA.out.below hb3
    have hP3 := HPW.out.below hb3 (Nat.le_refl _)
    have HFL := Lib.hid hfl3
    have HP := Lib.hid hP3
    have HFS := Lib.hid hfs
    have HB3 := Lib.hid hB3
    clear hz hBa HFA HPW hb3 hlen hfl3 hP3 hfs hB3
    generalize hfw : (fieldsOf c.kind).2 = fw
    have HFW := Lib.hid hfw
    clear hfw
    go_wp2_with fail
    go_loopw [6, 28] (fun v i wr => ∃ j : Nat, j ≤ fs.length ∧ i = .int .i64 j ∧ Below W3.heap.size W3 wr ∧ NumsOwn wr W3.heap.size v ((fs.take j).map fun f => c.fld f.o)) (fun _ i _ => fs.length - (RowKit.intOf i).toNat)
    case atStart => exact ⟨0, Nat.zero_le _, rfl, Below.refl _ _, World.ownsRow_nil _ _ _ _⟩
    case round =>
      obtain ⟨j, hj, rfl, hBr, hO⟩ := hrel
      by_cases hlt : j < fs.length
      · have hFr := hF.below hBr
        obtain ⟨g, f, hfj, rfl, _, hg, cg, cs, hbox⟩ := hFr.at_ j hlt
        obtain ⟨k, b, o⟩ := f
        have hokf : okF (k, o) = true := by
          have e1 : (fieldsOf c.kind).1[j]? = some (k, o) := by rw [← HFS.out, List.getElem?_map, hfj]; rfl
          exact List.all_eq_true.1 (fieldsOf_ok c.kind) (k, o) (List.mem_of_getElem? e1)
        have hnx : ((fs.take (j + 1)).map fun f => c.fld f.o) = ((fs.take j).map fun f => c.fld f.o) ++ [c.fld o] := by rw [List.take_add_one, hfj]; simp
        have HNX := Lib.hid hnx
        have hpl : ((fs.take j).map fun f => c.fld f.o).length ≤ 5 := by rw [List.length_map, List.length_take]; omega
        have hj0 : (0 : Int) ≤ (j : Int) := by omega
        have hjl : (j : Int) < (fs.length : Int) := by omega
        have hO : wr.ownsRow W3.heap.size 2 1 _ _ _ := hO
        generalize ((fs.take j).map fun f => c.fld f.o) = pre at hO HNX hpl
        generalize hx : c.fld o = x at HNX
        have HX := Lib.hid hx
        clear hFr hnx hfj hx
        cases k
        · simp only [getV, setV, FK.getFn, FK.setFn] at cg cs
          have hcell : (#[.int .i64 c.kind, .int .i64 c.id, .int .i64 c.ek, .int .i64 c.loan, .int .i64 c.other, .int .i64 c.amount, .slice A c.flows.length cap, .int .i64 c.past, .int .i64 c.down, .bool c.bad, .int .i64 c.n] : Array Value)[o]? = some (.int .i64 x) := by rw [← HX.out]; exact cmd_cell c _ (by decide) hokf
          have hba := hbox.alloc (.cells #[.func (.func 97) #[] #[.pointer (some ⟨b, 0, none⟩)], .func (.func 98) #[] #[.pointer (some ⟨b, 0, none⟩)]] 113)
          have hza := (hz3.below hBr hz3.lt).alloc (.cells #[.func (.func 97) #[] #[.pointer (some ⟨b, 0, none⟩)], .func (.func 98) #[] #[.pointer (some ⟨b, 0, none⟩)]] 113)
          have hcz := (hza.cell _).trans hcell
          have hO5 := (hO.alloc (.cells #[.func (.func 97) #[] #[.pointer (some ⟨b, 0, none⟩)], .func (.func 98) #[] #[.pointer (some ⟨b, 0, none⟩)]] 113)).alloc (.cells #[.int .i64 x] 2)
          have hB5 := (hBr.alloc hBr.size (.cells #[.func (.func 97) #[] #[.pointer (some ⟨b, 0, none⟩)], .func (.func 98) #[] #[.pointer (some ⟨b, 0, none⟩)]] 113))
          have hB6 := hB5.alloc hB5.size (.cells #[.int .i64 x] 2)
          have hz6 := hB6.size
          have HBA := Lib.hid hba
          have HCZ := Lib.hid hcz
          have HO5 := Lib.hid hO5
          have HB6 := Lib.hid hB6
          clear hba hza hcz hO5 hB5 hB6 hbox hO hBr hcell
          go_wp2_with fail
          refine (get_int b ⟨w.heap.size, o, none⟩ x _ HBA.out HCZ.out).mono ?_
          rintro e w' ⟨rfl, rfl⟩
          clear cg cs
          go_wp2_with (at_builtin; refine wpList_append_own_at _ rfl _ _ 41 rfl W3.heap.size 2 i2 (.int .i64 0) 1 8 Tryd.underlying41 hi2 hz2 hs2 hy2 rfl (by decide) _ pre.length (pre.map (Value.int .i64)) rfl HO5.out ⟨wr.heap.size + 1, 0, none⟩ 1 1 [.int .i64 x] rfl rfl (cells_new' _ _ #[.int .i64 x] 2 (by simp)) (ints_oneCell .i64 [x]) (by unfold maxLen; omega) (by omega) hz6 ?_; intro v' w6 hown' hgrow _ _)
          refine ⟨⟨j + 1, by omega, by go_num, HB6.out.grown hgrow hz6 (fun i e => (HO5.out.lt i e).1), ?_⟩, by simp [RowKit.intOf]; omega⟩
          rw [HNX.out]
          show w6.ownsRow _ 2 1 _ (pre ++ [x]).length ((pre ++ [x]).map _)
          rw [List.length_append, List.map_append]
          exact hown'
        · simp only [getV, setV, FK.getFn, FK.setFn] at cg cs
          have hcell : (#[.int .i64 c.kind, .int .i64 c.id, .int .i64 c.ek, .int .i64 c.loan, .int .i64 c.other, .int .i64 c.amount, .slice A c.flows.length cap, .int .i64 c.past, .int .i64 c.down, .bool c.bad, .int .i64 c.n] : Array Value)[o]? = some (.int .i64 x) := by rw [← HX.out]; exact cmd_cell c _ (by decide) hokf
          have hba := hbox.alloc (.cells #[.func (.func 99) #[] #[.pointer (some ⟨b, 0, none⟩)], .func (.func 100) #[] #[.pointer (some ⟨b, 0, none⟩)]] 113)
          have hza := (hz3.below hBr hz3.lt).alloc (.cells #[.func (.func 99) #[] #[.pointer (some ⟨b, 0, none⟩)], .func (.func 100) #[] #[.pointer (some ⟨b, 0, none⟩)]] 113)
          have hcz := (hza.cell _).trans hcell
          have hO5 := (hO.alloc (.cells #[.func (.func 99) #[] #[.pointer (some ⟨b, 0, none⟩)], .func (.func 100) #[] #[.pointer (some ⟨b, 0, none⟩)]] 113)).alloc (.cells #[.int .i64 x] 2)
          have hB5 := (hBr.alloc hBr.size (.cells #[.func (.func 99) #[] #[.pointer (some ⟨b, 0, none⟩)], .func (.func 100) #[] #[.pointer (some ⟨b, 0, none⟩)]] 113))
          have hB6 := hB5.alloc hB5.size (.cells #[.int .i64 x] 2)
          have hz6 := hB6.size
          have HBA := Lib.hid hba
          have HCZ := Lib.hid hcz
          have HO5 := Lib.hid hO5
          have HB6 := Lib.hid hB6
          clear hba hza hcz hO5 hB5 hB6 hbox hO hBr hcell
          go_wp2_with fail
          refine (get_i64 b ⟨w.heap.size, o, none⟩ x _ HBA.out HCZ.out).mono ?_
          rintro e w' ⟨rfl, rfl⟩
          clear cg cs
          go_wp2_with (at_builtin; refine wpList_append_own_at _ rfl _ _ 41 rfl W3.heap.size 2 i2 (.int .i64 0) 1 8 Tryd.underlying41 hi2 hz2 hs2 hy2 rfl (by decide) _ pre.length (pre.map (Value.int .i64)) rfl HO5.out ⟨wr.heap.size + 1, 0, none⟩ 1 1 [.int .i64 x] rfl rfl (cells_new' _ _ #[.int .i64 x] 2 (by simp)) (ints_oneCell .i64 [x]) (by unfold maxLen; omega) (by omega) hz6 ?_; intro v' w6 hown' hgrow _ _)
          refine ⟨⟨j + 1, by omega, by go_num, HB6.out.grown hgrow hz6 (fun i e => (HO5.out.lt i e).1), ?_⟩, by simp [RowKit.intOf]; omega⟩
          rw [HNX.out]
          show w6.ownsRow _ 2 1 _ (pre ++ [x]).length ((pre ++ [x]).map _)
          rw [List.length_append, List.map_append]
          exact hown'
        · simp only [getV, setV, FK.getFn, FK.setFn] at cg cs
          obtain rfl := okF_yes hokf
          have hcell : (#[.int .i64 c.kind, .int .i64 c.id, .int .i64 c.ek, .int .i64 c.loan, .int .i64 c.other, .int .i64 c.amount, .slice A c.flows.length cap, .int .i64 c.past, .int .i64 c.down, .bool c.bad, .int .i64 c.n] : Array Value)[9]? = some (.bool c.bad) := rfl
          have hx9 : (if c.bad then 1 else 0) = x := by rw [← HX.out]; rfl
          have hba := hbox.alloc (.cells #[.func (.func 101) #[] #[.pointer (some ⟨b, 0, none⟩)], .func (.func 102) #[] #[.pointer (some ⟨b, 0, none⟩)]] 113)
          have hza := (hz3.below hBr hz3.lt).alloc (.cells #[.func (.func 101) #[] #[.pointer (some ⟨b, 0, none⟩)], .func (.func 102) #[] #[.pointer (some ⟨b, 0, none⟩)]] 113)
          have hcz := (hza.cell _).trans hcell
          have hO5 := (hO.alloc (.cells #[.func (.func 101) #[] #[.pointer (some ⟨b, 0, none⟩)], .func (.func 102) #[] #[.pointer (some ⟨b, 0, none⟩)]] 113)).alloc (.cells #[.int .i64 x] 2)
          have hB5 := (hBr.alloc hBr.size (.cells #[.func (.func 101) #[] #[.pointer (some ⟨b, 0, none⟩)], .func (.func 102) #[] #[.pointer (some ⟨b, 0, none⟩)]] 113))
          have hB6 := hB5.alloc hB5.size (.cells #[.int .i64 x] 2)
          have hz6 := hB6.size
          have HBA := Lib.hid hba
          have HX9 := Lib.hid hx9
          have HCZ := Lib.hid hcz
          have HO5 := Lib.hid hO5
          have HB6 := Lib.hid hB6
          clear hba hza hcz hO5 hB5 hB6 hbox hO hBr hcell hx9
          go_wp2_with fail
          refine (get_yes' b ⟨w.heap.size, 9, none⟩ c.bad x _ HBA.out HCZ.out HX9.out).mono ?_
          rintro e w' ⟨rfl, rfl⟩
          clear cg cs
          go_wp2_with (at_builtin; refine wpList_append_own_at _ rfl _ _ 41 rfl W3.heap.size 2 i2 (.int .i64 0) 1 8 Tryd.underlying41 hi2 hz2 hs2 hy2 rfl (by decide) _ pre.length (pre.map (Value.int .i64)) rfl HO5.out ⟨wr.heap.size + 1, 0, none⟩ 1 1 [.int .i64 x] rfl rfl (cells_new' _ _ #[.int .i64 x] 2 (by simp)) (ints_oneCell .i64 [x]) (by unfold maxLen; omega) (by omega) hz6 ?_; intro v' w6 hown' hgrow _ _)
          refine ⟨⟨j + 1, by omega, by go_num, HB6.out.grown hgrow hz6 (fun i e => (HO5.out.lt i e).1), ?_⟩, by simp [RowKit.intOf]; omega⟩
          rw [HNX.out]
          show w6.ownsRow _ 2 1 _ (pre ++ [x]).length ((pre ++ [x]).map _)
          rw [List.length_append, List.map_append]
          exact hown'
      · obtain rfl : j = fs.length := by omega
        rw [List.take_of_length_le (Nat.le_refl _)] at hO
        have hnm : (fs.map fun f => c.fld f.o) = (fieldsOf c.kind).1.map (fun p => c.fld p.2) := by
          rw [← HFS.out, List.map_map]
          rfl
        have hnum : numsOf c = (fs.map fun f => c.fld f.o) ++ (if fw then c.flows else []) := by
          unfold numsOf
          rw [HFW.out, hnm]
        have hpl : (fs.map fun f => c.fld f.o).length ≤ 5 := by rw [List.length_map]; exact hle5
        have hnl : (numsOf c).length ≤ 705 := by
          rw [hnum, List.length_append]
          split <;> simp <;> omega
        have HNUM := Lib.hid hnum
        have hzr := hz3.below hBr hz3.lt
        have HFr := Lib.hid (HFL.out.below hBr)
        have HPr := Lib.hid (HP.out.below hBr (Nat.le_refl _))
        have hO : wr.ownsRow W3.heap.size 2 1 _ _ _ := hO
        generalize (fs.map fun f => c.fld f.o) = pre at hO HNUM hpl
        have hzl := hzr.lt
        have HZR := Lib.hid hzr
        have HBR := Lib.hid hBr
        have HO := Lib.hid hO
        have hbs := hBr.size
        have hway : fw = false ∨ (fw = true ∧ A = none) ∨ (fw = true ∧ ∃ ad, A = some ad) := by
          cases fw
          · exact .inl rfl
          · cases A
            · exact .inr (.inl ⟨rfl, rfl⟩)
            · exact .inr (.inr ⟨rfl, _, rfl⟩)
        have hzW : w.heap.size < W3.heap.size := hz3.lt
        clear hnm hnum hzr hBr hO hlt hz3 hF
        rcases hway with rfl | ⟨rfl, rfl⟩ | ⟨rfl, ad, rfl⟩
        · have hN : NumsOwn wr W3.heap.size u6 (numsOf c) := by rw [HNUM.out]; simpa [NumsOwn] using HO.out
          have z0 : wr.cell? ⟨w.heap.size, 0, none⟩ = some (.int .i64 c.kind) := HZR.out.cell 0
          have HN := Lib.hid hN
          have HLOW := Lib.hid HBR.out
          clear hN
          obtain ⟨w6, rfl⟩ : ∃ x : World, x = wr := ⟨_, rfl⟩
          obtain ⟨v', rfl⟩ : ∃ x : Value, x = u6 := ⟨_, rfl⟩
          have HZ6 := Lib.hid HZR.out
          have HF6 := Lib.hid HFr.out
          have HP6 := Lib.hid HPr.out
          have hz6 := hbs
          clear HZR HFr HPr hbs HO HBR
          go_wp2_with fail
          clear z0
          have HNA := Lib.hid HN.out.nums
          have HFO := Lib.hid (owns_form HN.out)
          obtain ⟨Al, cl, rfl, _⟩ := id HNA.out
          have hzl6 := HZ6.out.lt
          refine (of_cmd c.kind _ (numsOf c) w6 ⟨hk1, hk2⟩ HNA.out (by omega) HFO.out).mono ?_
          rintro e w7 ⟨hb7, ⟨h0, rfl⟩ | ⟨x, Ax, cx, hok, hx, rfl, hN7⟩⟩
          · have hlow7 := (HB3.out.trans (HLOW.out.mono HB3.out.size)).trans (hb7.mono (Nat.le_of_lt hzl6))
            have HL7 := Lib.hid hlow7
            have H0 := Lib.hid h0
            clear hlow7 h0 hb7
            go_wp2_with fail
            go_ret2
            refine ⟨HL7.out.alloc HL7.out.size _, .inl ⟨?_, rfl⟩⟩
            unfold putL
            rw [if_neg (by rw [H0.out]; simp)]
          · have hlow7 := (HB3.out.trans (HLOW.out.mono HB3.out.size)).trans (hb7.mono (Nat.le_of_lt hzl6))
            have hz7 := HZ6.out.below hb7 hzl6
            have hAl := (Below.refl _ w7).alloc (Nat.le_refl _) (.cells #[.int .i64 x.kind, .int .i64 x.id, .int .i64 x.ek, .int .i64 x.loan, .int .i64 x.other, .int .i64 x.amount, .slice Ax x.flows.length cx, .int .i64 x.past, .int .i64 x.down, .bool x.bad, .int .i64 x.n] 47)
            have hxl : x.flows.length ≤ 9000 := by
              have := ofOk_flows hok
              rw [← hx] at this
              omega
            have HL8 := Lib.hid (hlow7.alloc hlow7.size (.cells #[.int .i64 x.kind, .int .i64 x.id, .int .i64 x.ek, .int .i64 x.loan, .int .i64 x.other, .int .i64 x.amount, .slice Ax x.flows.length cx, .int .i64 x.past, .int .i64 x.down, .bool x.bad, .int .i64 x.n] 47))
            have HZ8 := Lib.hid (hz7.alloc (.cells #[.int .i64 x.kind, .int .i64 x.id, .int .i64 x.ek, .int .i64 x.loan, .int .i64 x.other, .int .i64 x.amount, .slice Ax x.flows.length cx, .int .i64 x.past, .int .i64 x.down, .bool x.bad, .int .i64 x.n] 47))
            have HF8 := Lib.hid ((HF6.out.below hb7).below hAl)
            have HP8 := Lib.hid ((HP6.out.below hb7 (Nat.le_refl _)).below hAl (Nat.le_refl _))
            have HN8 := Lib.hid ((HN.out.below hb7).below hAl)
            have HX8 := Lib.hid (hN7.src.below hAl)
            have hzl7 := hz7.lt
            have hzl8 : w.heap.size < (w7.alloc (.cells #[.int .i64 x.kind, .int .i64 x.id, .int .i64 x.ek, .int .i64 x.loan, .int .i64 x.other, .int .i64 x.amount, .slice Ax x.flows.length cx, .int .i64 x.past, .int .i64 x.down, .bool x.bad, .int .i64 x.n] 47)).heap.size := Nat.lt_of_lt_of_le hzl7 (World.alloc_le _ _)
            have HOK := Lib.hid hok
            have HX := Lib.hid hx
            have z0 : w7.cell? ⟨w.heap.size, 0, none⟩ = some (.int .i64 c.kind) := hz7.cell 0
            have z1 : w7.cell? ⟨w.heap.size, 1, none⟩ = some (.int .i64 c.id) := hz7.cell 1
            have z2 : w7.cell? ⟨w.heap.size, 2, none⟩ = some (.int .i64 c.ek) := hz7.cell 2
            have z3 : w7.cell? ⟨w.heap.size, 3, none⟩ = some (.int .i64 c.loan) := hz7.cell 3
            have z4 : w7.cell? ⟨w.heap.size, 4, none⟩ = some (.int .i64 c.other) := hz7.cell 4
            have z5 : w7.cell? ⟨w.heap.size, 5, none⟩ = some (.int .i64 c.amount) := hz7.cell 5
            have z6 : w7.cell? ⟨w.heap.size, 6, none⟩ = some (.slice A c.flows.length cap) := hz7.cell 6
            have z7 : w7.cell? ⟨w.heap.size, 7, none⟩ = some (.int .i64 c.past) := hz7.cell 7
            have z8 : w7.cell? ⟨w.heap.size, 8, none⟩ = some (.int .i64 c.down) := hz7.cell 8
            have z9 : w7.cell? ⟨w.heap.size, 9, none⟩ = some (.bool c.bad) := hz7.cell 9
            have z10 : w7.cell? ⟨w.heap.size, 10, none⟩ = some (.int .i64 c.n) := hz7.cell 10
            clear hlow7 hz7 hAl hb7 hN7 hok hx
            by_cases hs : x = c
            · have hd : decide (x = c) = true := by simp [hs]
              have HD := Lib.hid hd
              have hput : putL c = some (lineOf (wordOf c.kind) ((numsOf c).map Lib.itoa)) := by
                unfold putL
                rw [if_pos ⟨hk1, hk2, HOK.out, HX.out.symm.trans hs⟩]
              have HPUT := Lib.hid hput
              clear hput hd hs
              go_upto_region 16 with (go_at_call 46; refine (same_cmd x c Ax _ cx _ true _ HX8.out HF8.out.src hxl (by omega) HD.out).mono ?_; rintro e w8 ⟨rfl, hb8⟩)
              have hlow9 := HL8.out.trans (hb8.mono HL8.out.size)
              have hz9 := HZ8.out.below hb8 hzl8
              have hN9 := HN8.out.below hb8
              have hP9 := HP8.out.below hb8 (Nat.le_refl _)
              have hz9l := hz9.lt
              have hbl := builder_new w8
              have hB9 := (Below.refl w8.heap.size w8).alloc (Nat.le_refl _) (.cells #[.pointer none, .slice none 0 0] 118)
              have hz10 := hz9.alloc (.cells #[.pointer none, .slice none 0 0] 118)
              have hbz : (w8.alloc (.cells #[.pointer none, .slice none 0 0] 118)).heap.size = w8.heap.size + 1 := World.size_alloc _ _
              have HL9 := Lib.hid hlow9
              have HN9 := Lib.hid hN9
              have HP9 := Lib.hid hP9
              have HFIT := Lib.hid hc.nums
              clear hlow9 hN9 hP9 hz9 hb8 HL8 HZ8 HF8 HP8 HN8 HX8 z0 z1 z2 z3 z4 z5 z6 z7 z8 z9 z10
              generalize w8.alloc (.cells #[.pointer none, .slice none 0 0] 118) = wb at hbl hB9 hz10 hbz ⊢
              have hkw : wordOf c.kind = (wordL.getD c.kind.toNat ByteArray.empty).data.toList := rfl
              have hbd : c.kind.toNat < 15 := by omega
              have k0 : wb.drew.cell? ⟨w.heap.size, 0, none⟩ = some (.int .i64 c.kind) := hz10.cell 0
              have hcw : c.kind = ((c.kind.toNat : Nat) : Int) := by omega
              have HKW := Lib.hid hkw
              clear hkw
              rw [hcw] at k0
              have hsmall := word_small c.kind.toNat hbd
              have hwc : ∀ w9, wb.drew.alloc (.cells wordCells 9) = w9 → w9.cell? ⟨w8.heap.size + 1, c.kind.toNat, none⟩ = some (.string (wordL.getD c.kind.toNat ByteArray.empty)) := by
                rintro w9 rfl
                have h := cells_new wb.drew wordCells 9 c.kind.toNat (.string (wordL.getD c.kind.toNat ByteArray.empty)) (by
                  have hl : c.kind.toNat < wordL.length := hbd
                  simp [wordCells, List.getElem?_eq_getElem hl])
                rw [add_zero_eq, show wb.drew.heap.size = w8.heap.size + 1 from hbz] at h
                exact h
              generalize hkn : c.kind.toNat = kn at hwc k0 hbd hsmall HKW
              generalize hwd : wordL.getD kn ByteArray.empty = wd at hwc hsmall HKW
              have hk9 : ∀ w9, wb.drew.alloc (.cells wordCells 9) = w9 → w9.cell? ⟨w.heap.size, 0, none⟩ = some (.int .i64 (kn : Int)) := by
                rintro w9 rfl
                exact (((Below.refl wb.drew.heap.size wb.drew).alloc (Nat.le_refl _) (.cells wordCells 9)).cell (p := ⟨w.heap.size, 0, none⟩) hz10.lt).trans k0
              have hb9 : ∀ w9, wb.drew.alloc (.cells wordCells 9) = w9 → Below w8.heap.size w8 w9 ∧ Lib.IsBuilder 118 5 w8.heap.size w8.heap.size [] w9 := by
                rintro w9 rfl
                have h1 : Below w8.heap.size w8 wb.drew := hB9.drew
                have h2 : Lib.IsBuilder 118 5 w8.heap.size w8.heap.size [] wb.drew := hbl
                exact ⟨h1.alloc h1.size _, builder_below h2 ((Below.refl _ _).alloc (Nat.le_refl _) _)⟩
              have HK9 := Lib.hid hk9
              have HB9 := Lib.hid hb9
              have HWC := Lib.hid hwc
              have hkn0 : (0 : Int) ≤ (kn : Int) := by omega
              have hkn1 : (kn : Int) < 15 := by omega
              have hkn2 : (kn : Int) < ((15 : Nat) : Int) := by omega
              clear hcw hkn hwd hk9 hb9 hwc hB9 hbl hz10
              go_cut [11] (fun s11 wx => s11 = .pointer (some ⟨w8.heap.size, 0, none⟩) ∧ Below w8.heap.size w8 wx ∧ Lib.IsBuilder 118 5 w8.heap.size w8.heap.size (Lib.byteCells wd.data.toList) wx)
              case first =>
                go_region_with (first
                  | (go_at_call 38; refine (words_any _).mono ?_; rintro e w9 ⟨rfl, hw9⟩; have hk1' := HK9.out w9 hw9; have hwd := HWC.out w9 hw9; have hbb := HB9.out w9 hw9)
                  | (go_at_call 47; refine (put_str w8.heap.size w8.heap.size [] wd w9 hbb.2 (by simp; omega) hbb.1.size).mono ?_; rintro e w10 ⟨rfl, hW⟩))
                all_goals
                  go_wp2_with fail
                  go_meet
                  exact ⟨rfl, hbb.1.trans hW.2.1, .inr hW.1⟩
              case rest =>
                obtain ⟨rfl, hBr0, hbr0⟩ := hcut
                have hnl0 := hnl
                have hbr0' : Lib.IsBuilder 118 5 w8.heap.size w8.heap.size (Lib.byteCells (wd.data.toList ++ ((numsOf c).take 0).flatMap fun n => 32 :: Lib.itoa n)) wc := by simpa using hbr0
                have hwdl : wd.data.toList.length ≤ 10 := by simpa [ByteArray.size_data] using hsmall
                clear hbr0 hsmall HK9 HB9 HWC
                generalize numsOf c = nl at *
                go_wp2_with fail
                go_loopw [68] (fun i wr => ∃ j : Nat, j ≤ nl.length ∧ i = .int .i64 j ∧ Below w8.heap.size w8 wr ∧ Lib.IsBuilder 118 5 w8.heap.size w8.heap.size (Lib.byteCells (wd.data.toList ++ (nl.take j).flatMap fun n => 32 :: Lib.itoa n)) wr ∧ (wd.data.toList ++ (nl.take j).flatMap fun n => 32 :: Lib.itoa n).length ≤ 10 + 22 * j) (fun i _ => nl.length - (RowKit.intOf i).toNat)
                case atStart => exact ⟨0, Nat.zero_le _, rfl, hBr0, hbr0', by simpa using hwdl⟩
                case round =>
                  obtain ⟨j, hj, rfl, hBr, hbr, hlen⟩ := hrel
                  by_cases hlt : j < nl.length
                  · have hNr : NumsAt wr _ nl := (owns_low8 HN9.out hBr).nums
                    obtain ⟨A', c', e', hat⟩ := hNr
                    cases e'
                    obtain ⟨g, rfl, hg, c0⟩ := hat j hlt
                    have hnx := take_next nl j hlt 0
                    have hfit : In64 (nl[j]?.getD 0) := HFIT.out _ (by rw [List.getElem?_eq_getElem hlt]; exact List.getElem_mem hlt)
                    generalize nl[j]?.getD 0 = n at c0 hnx hfit
                    have hl := Lib.itoa_length_le n hfit.1 hfit.2
                    have hcat : ¬ 9223372036854775807 < 1 + (Lib.itoa n).length := by omega
                    have hnew : wd.data.toList ++ (nl.take (j + 1)).flatMap (fun n => 32 :: Lib.itoa n) = (wd.data.toList ++ (nl.take j).flatMap fun n => 32 :: Lib.itoa n) ++ (32 :: Lib.itoa n) := by rw [hnx]; simp
                    have hPr := HP9.out.below hBr (Nat.le_refl _)
                    have HL := Lib.hid hl
                    have HNEW := Lib.hid hnew
                    have HBR := Lib.hid hBr
                    have HBL := Lib.hid hbr
                    have hj0 : (0 : Int) ≤ (j : Int) := by omega
                    have hjl : (j : Int) < (nl.length : Int) := by omega
                    clear hl hnew hnx hat hBr hbr hBr0 hbr0' hwdl
                    generalize (wd.data.toList ++ (nl.take j).flatMap fun n => 32 :: Lib.itoa n) = pre2 at HNEW HBL hlen
                    go_wp2_with fail
                    refine (fmt_any n wr hfit hPr).mono ?_
                    rintro e w10 ⟨rfl, hb10⟩
                    have hb8 := HBR.out.trans (hb10.mono HBR.out.size)
                    have HB8 := Lib.hid hb8
                    have HBL2 := Lib.hid (builder_below HBL.out hb10)
                    clear hb10 c0 hg hb8
                    go_wp2_with fail
                    refine (put_str w8.heap.size w8.heap.size _ _ w10 HBL2.out (by rw [Lib.byteCells_length, ← ByteArray.size_data, ← Array.length_toList, cat_bytes, List.length_cons]; have := HL.out; omega) HB8.out.size).mono ?_
                    rintro e w11 ⟨rfl, hW⟩
                    go_wp2_with fail
                    refine ⟨⟨j + 1, by omega, by go_num, HB8.out.trans hW.2.1, .inr ?_, ?_⟩, by simp [RowKit.intOf]; omega⟩
                    · have h := hW.1
                      rw [HNEW.out]
                      have e : Lib.byteCells pre2 ++ Lib.strCells ((⟨#[32]⟩ : ByteArray) ++ ⟨(Lib.itoa n).toArray⟩) = Lib.byteCells (pre2 ++ (32 :: Lib.itoa n)) := by
                        show Lib.byteCells pre2 ++ Lib.byteCells ((⟨#[32]⟩ : ByteArray) ++ ⟨(Lib.itoa n).toArray⟩).data.toList = _
                        rw [cat_bytes]
                        simp [Lib.byteCells]
                      rw [e] at h
                      exact h
                    · rw [HNEW.out, List.length_append, List.length_cons]
                      have := HL.out
                      omega
                  · obtain rfl : j = nl.length := by omega
                    rw [List.take_of_length_le (Nat.le_refl _)] at hbr
                    have hfin : wd.data.toList ++ (nl.flatMap fun n => 32 :: Lib.itoa n) = lineOf (wordOf c.kind) (nl.map Lib.itoa) := by
                      unfold lineOf
                      rw [HKW.out, List.flatMap_map]
                    have HFIN := Lib.hid hfin
                    have HBR := Lib.hid hBr
                    have HBL := Lib.hid hbr
                    clear hfin hBr hbr hBr0 hbr0' hwdl hlen hlt
                    go_wp2_with fail
                    refine (Tryd.Builder_String_any w8.heap.size w8.heap.size _ wr HBL.out HBR.out.size).mono ?_
                    rintro e w12 ⟨rfl, hb12⟩
                    go_wp2_with fail
                    go_ret2
                    refine ⟨HL9.out.trans ((HBR.out.trans hb12).mono HL9.out.size), .inr ⟨_, HPUT.out, ?_⟩⟩
                    rw [HFIN.out]
                    rfl
            · have hd : decide (x = c) = false := by simp [hs]
              have HD := Lib.hid hd
              have hput : putL c = none := by
                unfold putL
                rw [if_neg (fun h => hs (HX.out.trans h.2.2.2))]
              have HPUT := Lib.hid hput
              clear hput hd hs
              go_wp2_with (go_at_call 46; refine (same_cmd x c Ax _ cx _ false _ HX8.out HF8.out.src hxl (by omega) HD.out).mono ?_; rintro e w8 ⟨rfl, hb8⟩)
              go_ret2
              exact ⟨HL8.out.trans (hb8.mono HL8.out.size), .inl ⟨HPUT.out, rfl⟩⟩
        · have hfn := HFr.out.none_nil
          have hN : NumsOwn wr W3.heap.size u6 (numsOf c) := by rw [HNUM.out]; simpa [NumsOwn, hfn.1] using HO.out
          have z0 : wr.cell? ⟨w.heap.size, 0, none⟩ = some (.int .i64 c.kind) := HZR.out.cell 0
          have z6 : wr.cell? ⟨w.heap.size, 6, none⟩ = some (.slice none 0 0) := by
            have h6 : wr.cell? ⟨w.heap.size, 6, none⟩ = some (.slice none c.flows.length cap) := HZR.out.cell 6
            rw [hfn.1, hfn.2] at h6
            exact h6
          have HN := Lib.hid hN
          have HLOW := Lib.hid HBR.out
          clear hN hfn
          obtain ⟨w6, rfl⟩ : ∃ x : World, x = wr := ⟨_, rfl⟩
          obtain ⟨v', rfl⟩ : ∃ x : Value, x = u6 := ⟨_, rfl⟩
          have HZ6 := Lib.hid HZR.out
          have HF6 := Lib.hid HFr.out
          have HP6 := Lib.hid HPr.out
          have hz6 := hbs
          go_wp2_with (at_builtin; refine wpList_append_own_none rfl _ _ 41 rfl W3.heap.size 2 i2 1 Tryd.underlying41 hi2 _ pre.length (pre.map (Value.int .i64)) rfl HO.out rfl ?_)
          clear z0 z6 HZR HFr HPr hbs HO HBR
          have HNA := Lib.hid HN.out.nums
          have HFO := Lib.hid (owns_form HN.out)
          obtain ⟨Al, cl, rfl, _⟩ := id HNA.out
          have hzl6 := HZ6.out.lt
          refine (of_cmd c.kind _ (numsOf c) w6 ⟨hk1, hk2⟩ HNA.out (by omega) HFO.out).mono ?_
          rintro e w7 ⟨hb7, ⟨h0, rfl⟩ | ⟨x, Ax, cx, hok, hx, rfl, hN7⟩⟩
          · have hlow7 := (HB3.out.trans (HLOW.out.mono HB3.out.size)).trans (hb7.mono (Nat.le_of_lt hzl6))
            have HL7 := Lib.hid hlow7
            have H0 := Lib.hid h0
            clear hlow7 h0 hb7
            go_wp2_with fail
            go_ret2
            refine ⟨HL7.out.alloc HL7.out.size _, .inl ⟨?_, rfl⟩⟩
            unfold putL
            rw [if_neg (by rw [H0.out]; simp)]
          · have hlow7 := (HB3.out.trans (HLOW.out.mono HB3.out.size)).trans (hb7.mono (Nat.le_of_lt hzl6))
            have hz7 := HZ6.out.below hb7 hzl6
            have hAl := (Below.refl _ w7).alloc (Nat.le_refl _) (.cells #[.int .i64 x.kind, .int .i64 x.id, .int .i64 x.ek, .int .i64 x.loan, .int .i64 x.other, .int .i64 x.amount, .slice Ax x.flows.length cx, .int .i64 x.past, .int .i64 x.down, .bool x.bad, .int .i64 x.n] 47)
            have hxl : x.flows.length ≤ 9000 := by
              have := ofOk_flows hok
              rw [← hx] at this
              omega
            have HL8 := Lib.hid (hlow7.alloc hlow7.size (.cells #[.int .i64 x.kind, .int .i64 x.id, .int .i64 x.ek, .int .i64 x.loan, .int .i64 x.other, .int .i64 x.amount, .slice Ax x.flows.length cx, .int .i64 x.past, .int .i64 x.down, .bool x.bad, .int .i64 x.n] 47))
            have HZ8 := Lib.hid (hz7.alloc (.cells #[.int .i64 x.kind, .int .i64 x.id, .int .i64 x.ek, .int .i64 x.loan, .int .i64 x.other, .int .i64 x.amount, .slice Ax x.flows.length cx, .int .i64 x.past, .int .i64 x.down, .bool x.bad, .int .i64 x.n] 47))
            have HF8 := Lib.hid ((HF6.out.below hb7).below hAl)
            have HP8 := Lib.hid ((HP6.out.below hb7 (Nat.le_refl _)).below hAl (Nat.le_refl _))
            have HN8 := Lib.hid ((HN.out.below hb7).below hAl)
            have HX8 := Lib.hid (hN7.src.below hAl)
            have hzl7 := hz7.lt
            have hzl8 : w.heap.size < (w7.alloc (.cells #[.int .i64 x.kind, .int .i64 x.id, .int .i64 x.ek, .int .i64 x.loan, .int .i64 x.other, .int .i64 x.amount, .slice Ax x.flows.length cx, .int .i64 x.past, .int .i64 x.down, .bool x.bad, .int .i64 x.n] 47)).heap.size := Nat.lt_of_lt_of_le hzl7 (World.alloc_le _ _)
            have HOK := Lib.hid hok
            have HX := Lib.hid hx
            have z0 : w7.cell? ⟨w.heap.size, 0, none⟩ = some (.int .i64 c.kind) := hz7.cell 0
            have z1 : w7.cell? ⟨w.heap.size, 1, none⟩ = some (.int .i64 c.id) := hz7.cell 1
            have z2 : w7.cell? ⟨w.heap.size, 2, none⟩ = some (.int .i64 c.ek) := hz7.cell 2
            have z3 : w7.cell? ⟨w.heap.size, 3, none⟩ = some (.int .i64 c.loan) := hz7.cell 3
            have z4 : w7.cell? ⟨w.heap.size, 4, none⟩ = some (.int .i64 c.other) := hz7.cell 4
            have z5 : w7.cell? ⟨w.heap.size, 5, none⟩ = some (.int .i64 c.amount) := hz7.cell 5
            have z6 : w7.cell? ⟨w.heap.size, 6, none⟩ = some (.slice none c.flows.length cap) := hz7.cell 6
            have z7 : w7.cell? ⟨w.heap.size, 7, none⟩ = some (.int .i64 c.past) := hz7.cell 7
            have z8 : w7.cell? ⟨w.heap.size, 8, none⟩ = some (.int .i64 c.down) := hz7.cell 8
            have z9 : w7.cell? ⟨w.heap.size, 9, none⟩ = some (.bool c.bad) := hz7.cell 9
            have z10 : w7.cell? ⟨w.heap.size, 10, none⟩ = some (.int .i64 c.n) := hz7.cell 10
            clear hlow7 hz7 hAl hb7 hN7 hok hx
            by_cases hs : x = c
            · have hd : decide (x = c) = true := by simp [hs]
              have HD := Lib.hid hd
              have hput : putL c = some (lineOf (wordOf c.kind) ((numsOf c).map Lib.itoa)) := by
                unfold putL
                rw [if_pos ⟨hk1, hk2, HOK.out, HX.out.symm.trans hs⟩]
              have HPUT := Lib.hid hput
              clear hput hd hs
              go_upto_region 16 with (go_at_call 46; refine (same_cmd x c Ax _ cx _ true _ HX8.out HF8.out.src hxl (by omega) HD.out).mono ?_; rintro e w8 ⟨rfl, hb8⟩)
              have hlow9 := HL8.out.trans (hb8.mono HL8.out.size)
              have hz9 := HZ8.out.below hb8 hzl8
              have hN9 := HN8.out.below hb8
              have hP9 := HP8.out.below hb8 (Nat.le_refl _)
              have hz9l := hz9.lt
              have hbl := builder_new w8
              have hB9 := (Below.refl w8.heap.size w8).alloc (Nat.le_refl _) (.cells #[.pointer none, .slice none 0 0] 118)
              have hz10 := hz9.alloc (.cells #[.pointer none, .slice none 0 0] 118)
              have hbz : (w8.alloc (.cells #[.pointer none, .slice none 0 0] 118)).heap.size = w8.heap.size + 1 := World.size_alloc _ _
              have HL9 := Lib.hid hlow9
              have HN9 := Lib.hid hN9
              have HP9 := Lib.hid hP9
              have HFIT := Lib.hid hc.nums
              clear hlow9 hN9 hP9 hz9 hb8 HL8 HZ8 HF8 HP8 HN8 HX8 z0 z1 z2 z3 z4 z5 z6 z7 z8 z9 z10
              generalize w8.alloc (.cells #[.pointer none, .slice none 0 0] 118) = wb at hbl hB9 hz10 hbz ⊢
              have hkw : wordOf c.kind = (wordL.getD c.kind.toNat ByteArray.empty).data.toList := rfl
              have hbd : c.kind.toNat < 15 := by omega
              have k0 : wb.drew.cell? ⟨w.heap.size, 0, none⟩ = some (.int .i64 c.kind) := hz10.cell 0
              have hcw : c.kind = ((c.kind.toNat : Nat) : Int) := by omega
              have HKW := Lib.hid hkw
              clear hkw
              rw [hcw] at k0
              have hsmall := word_small c.kind.toNat hbd
              have hwc : ∀ w9, wb.drew.alloc (.cells wordCells 9) = w9 → w9.cell? ⟨w8.heap.size + 1, c.kind.toNat, none⟩ = some (.string (wordL.getD c.kind.toNat ByteArray.empty)) := by
                rintro w9 rfl
                have h := cells_new wb.drew wordCells 9 c.kind.toNat (.string (wordL.getD c.kind.toNat ByteArray.empty)) (by
                  have hl : c.kind.toNat < wordL.length := hbd
                  simp [wordCells, List.getElem?_eq_getElem hl])
                rw [add_zero_eq, show wb.drew.heap.size = w8.heap.size + 1 from hbz] at h
                exact h
              generalize hkn : c.kind.toNat = kn at hwc k0 hbd hsmall HKW
              generalize hwd : wordL.getD kn ByteArray.empty = wd at hwc hsmall HKW
              have hk9 : ∀ w9, wb.drew.alloc (.cells wordCells 9) = w9 → w9.cell? ⟨w.heap.size, 0, none⟩ = some (.int .i64 (kn : Int)) := by
                rintro w9 rfl
                exact (((Below.refl wb.drew.heap.size wb.drew).alloc (Nat.le_refl _) (.cells wordCells 9)).cell (p := ⟨w.heap.size, 0, none⟩) hz10.lt).trans k0
              have hb9 : ∀ w9, wb.drew.alloc (.cells wordCells 9) = w9 → Below w8.heap.size w8 w9 ∧ Lib.IsBuilder 118 5 w8.heap.size w8.heap.size [] w9 := by
                rintro w9 rfl
                have h1 : Below w8.heap.size w8 wb.drew := hB9.drew
                have h2 : Lib.IsBuilder 118 5 w8.heap.size w8.heap.size [] wb.drew := hbl
                exact ⟨h1.alloc h1.size _, builder_below h2 ((Below.refl _ _).alloc (Nat.le_refl _) _)⟩
              have HK9 := Lib.hid hk9
              have HB9 := Lib.hid hb9
              have HWC := Lib.hid hwc
              have hkn0 : (0 : Int) ≤ (kn : Int) := by omega
              have hkn1 : (kn : Int) < 15 := by omega
              have hkn2 : (kn : Int) < ((15 : Nat) : Int) := by omega
              clear hcw hkn hwd hk9 hb9 hwc hB9 hbl hz10
              go_cut [11] (fun s11 wx => s11 = .pointer (some ⟨w8.heap.size, 0, none⟩) ∧ Below w8.heap.size w8 wx ∧ Lib.IsBuilder 118 5 w8.heap.size w8.heap.size (Lib.byteCells wd.data.toList) wx)
              case first =>
                go_region_with (first
                  | (go_at_call 38; refine (words_any _).mono ?_; rintro e w9 ⟨rfl, hw9⟩; have hk1' := HK9.out w9 hw9; have hwd := HWC.out w9 hw9; have hbb := HB9.out w9 hw9)
                  | (go_at_call 47; refine (put_str w8.heap.size w8.heap.size [] wd w9 hbb.2 (by simp; omega) hbb.1.size).mono ?_; rintro e w10 ⟨rfl, hW⟩))
                all_goals
                  go_wp2_with fail
                  go_meet
                  exact ⟨rfl, hbb.1.trans hW.2.1, .inr hW.1⟩
              case rest =>
                obtain ⟨rfl, hBr0, hbr0⟩ := hcut
                have hnl0 := hnl
                have hbr0' : Lib.IsBuilder 118 5 w8.heap.size w8.heap.size (Lib.byteCells (wd.data.toList ++ ((numsOf c).take 0).flatMap fun n => 32 :: Lib.itoa n)) wc := by simpa using hbr0
                have hwdl : wd.data.toList.length ≤ 10 := by simpa [ByteArray.size_data] using hsmall
                clear hbr0 hsmall HK9 HB9 HWC
                generalize numsOf c = nl at *
                go_wp2_with fail
                go_loopw [68] (fun i wr => ∃ j : Nat, j ≤ nl.length ∧ i = .int .i64 j ∧ Below w8.heap.size w8 wr ∧ Lib.IsBuilder 118 5 w8.heap.size w8.heap.size (Lib.byteCells (wd.data.toList ++ (nl.take j).flatMap fun n => 32 :: Lib.itoa n)) wr ∧ (wd.data.toList ++ (nl.take j).flatMap fun n => 32 :: Lib.itoa n).length ≤ 10 + 22 * j) (fun i _ => nl.length - (RowKit.intOf i).toNat)
                case atStart => exact ⟨0, Nat.zero_le _, rfl, hBr0, hbr0', by simpa using hwdl⟩
                case round =>
                  obtain ⟨j, hj, rfl, hBr, hbr, hlen⟩ := hrel
                  by_cases hlt : j < nl.length
                  · have hNr : NumsAt wr _ nl := (owns_low8 HN9.out hBr).nums
                    obtain ⟨A', c', e', hat⟩ := hNr
                    cases e'
                    obtain ⟨g, rfl, hg, c0⟩ := hat j hlt
                    have hnx := take_next nl j hlt 0
                    have hfit : In64 (nl[j]?.getD 0) := HFIT.out _ (by rw [List.getElem?_eq_getElem hlt]; exact List.getElem_mem hlt)
                    generalize nl[j]?.getD 0 = n at c0 hnx hfit
                    have hl := Lib.itoa_length_le n hfit.1 hfit.2
                    have hcat : ¬ 9223372036854775807 < 1 + (Lib.itoa n).length := by omega
                    have hnew : wd.data.toList ++ (nl.take (j + 1)).flatMap (fun n => 32 :: Lib.itoa n) = (wd.data.toList ++ (nl.take j).flatMap fun n => 32 :: Lib.itoa n) ++ (32 :: Lib.itoa n) := by rw [hnx]; simp
                    have hPr := HP9.out.below hBr (Nat.le_refl _)
                    have HL := Lib.hid hl
                    have HNEW := Lib.hid hnew
                    have HBR := Lib.hid hBr
                    have HBL := Lib.hid hbr
                    have hj0 : (0 : Int) ≤ (j : Int) := by omega
                    have hjl : (j : Int) < (nl.length : Int) := by omega
                    clear hl hnew hnx hat hBr hbr hBr0 hbr0' hwdl
                    generalize (wd.data.toList ++ (nl.take j).flatMap fun n => 32 :: Lib.itoa n) = pre2 at HNEW HBL hlen
                    go_wp2_with fail
                    refine (fmt_any n wr hfit hPr).mono ?_
                    rintro e w10 ⟨rfl, hb10⟩
                    have hb8 := HBR.out.trans (hb10.mono HBR.out.size)
                    have HB8 := Lib.hid hb8
                    have HBL2 := Lib.hid (builder_below HBL.out hb10)
                    clear hb10 c0 hg hb8
                    go_wp2_with fail
                    refine (put_str w8.heap.size w8.heap.size _ _ w10 HBL2.out (by rw [Lib.byteCells_length, ← ByteArray.size_data, ← Array.length_toList, cat_bytes, List.length_cons]; have := HL.out; omega) HB8.out.size).mono ?_
                    rintro e w11 ⟨rfl, hW⟩
                    go_wp2_with fail
                    refine ⟨⟨j + 1, by omega, by go_num, HB8.out.trans hW.2.1, .inr ?_, ?_⟩, by simp [RowKit.intOf]; omega⟩
                    · have h := hW.1
                      rw [HNEW.out]
                      have e : Lib.byteCells pre2 ++ Lib.strCells ((⟨#[32]⟩ : ByteArray) ++ ⟨(Lib.itoa n).toArray⟩) = Lib.byteCells (pre2 ++ (32 :: Lib.itoa n)) := by
                        show Lib.byteCells pre2 ++ Lib.byteCells ((⟨#[32]⟩ : ByteArray) ++ ⟨(Lib.itoa n).toArray⟩).data.toList = _
                        rw [cat_bytes]
                        simp [Lib.byteCells]
                      rw [e] at h
                      exact h
                    · rw [HNEW.out, List.length_append, List.length_cons]
                      have := HL.out
                      omega
                  · obtain rfl : j = nl.length := by omega
                    rw [List.take_of_length_le (Nat.le_refl _)] at hbr
                    have hfin : wd.data.toList ++ (nl.flatMap fun n => 32 :: Lib.itoa n) = lineOf (wordOf c.kind) (nl.map Lib.itoa) := by
                      unfold lineOf
                      rw [HKW.out, List.flatMap_map]
                    have HFIN := Lib.hid hfin
                    have HBR := Lib.hid hBr
                    have HBL := Lib.hid hbr
                    clear hfin hBr hbr hBr0 hbr0' hwdl hlen hlt
                    go_wp2_with fail
                    refine (Tryd.Builder_String_any w8.heap.size w8.heap.size _ wr HBL.out HBR.out.size).mono ?_
                    rintro e w12 ⟨rfl, hb12⟩
                    go_wp2_with fail
                    go_ret2
                    refine ⟨HL9.out.trans ((HBR.out.trans hb12).mono HL9.out.size), .inr ⟨_, HPUT.out, ?_⟩⟩
                    rw [HFIN.out]
                    rfl
            · have hd : decide (x = c) = false := by simp [hs]
              have HD := Lib.hid hd
              have hput : putL c = none := by
                unfold putL
                rw [if_neg (fun h => hs (HX.out.trans h.2.2.2))]
              have HPUT := Lib.hid hput
              clear hput hd hs
              go_wp2_with (go_at_call 46; refine (same_cmd x c Ax _ cx _ false _ HX8.out HF8.out.src hxl (by omega) HD.out).mono ?_; rintro e w8 ⟨rfl, hb8⟩)
              go_ret2
              exact ⟨HL8.out.trans (hb8.mono HL8.out.size), .inl ⟨HPUT.out, rfl⟩⟩
        · have z0 : wr.cell? ⟨w.heap.size, 0, none⟩ = some (.int .i64 c.kind) := HZR.out.cell 0
          have z6 : wr.cell? ⟨w.heap.size, 6, none⟩ = some (.slice (some ad) c.flows.length cap) := HZR.out.cell 6
          have HAT := Lib.hid HFr.out.at_
          have hone := ints_oneCell .i64 c.flows
          have hfll : (c.flows.map (Value.int .i64)).length = c.flows.length * 1 := by simp
          have HFLL := Lib.hid hfll
          clear hfll
          go_wp2_with (at_builtin; refine wpList_append_own_at _ rfl _ _ 41 rfl W3.heap.size 2 i2 (.int .i64 0) 1 8 Tryd.underlying41 hi2 hz2 hs2 hy2 rfl (by decide) _ pre.length (pre.map (Value.int .i64)) rfl HO.out ad c.flows.length cap (c.flows.map (Value.int .i64)) rfl HFLL.out HAT.out hone (by unfold maxLen; omega) (by omega) hbs ?_; intro v' w6 hown' hgrow _ _; have hz0 : w6.cell? ⟨w.heap.size, 0, none⟩ = some (.int .i64 c.kind) := (HZR.out.grown hgrow (fun e => by have h := (HO.out.lt _ e.symm).1; have := HB3.out.size; have := hzW; omega)).cell 0)
          have hne : some w.heap.size ≠ u6.ownBlock := fun e => by
            have h := (HO.out.lt _ e.symm).1
            have := hzW
            omega
          have HZ6 := Lib.hid (HZR.out.grown hgrow hne)
          have hlow6 : Below W3.heap.size W3 w6 := HBR.out.grown hgrow hbs (fun i e => (HO.out.lt i e).1)
          have HLOW := Lib.hid hlow6
          have HF6 := Lib.hid (HFL.out.below hlow6)
          have HP6 := Lib.hid (HP.out.below hlow6 (Nat.le_refl _))
          have hz6 := hlow6.size
          have hN : NumsOwn w6 W3.heap.size v' (numsOf c) := by
            rw [HNUM.out]
            show w6.ownsRow _ 2 1 _ (pre ++ c.flows).length ((pre ++ c.flows).map _)
            rw [List.length_append, List.map_append]
            exact hown'
          have HN := Lib.hid hN
          clear hz0 z0 z6 HZR HFr HPr hbs HO HBR hlow6 hN hne hgrow hown'
          have HNA := Lib.hid HN.out.nums
          have HFO := Lib.hid (owns_form HN.out)
          obtain ⟨Al, cl, rfl, _⟩ := id HNA.out
          have hzl6 := HZ6.out.lt
          refine (of_cmd c.kind _ (numsOf c) w6 ⟨hk1, hk2⟩ HNA.out (by omega) HFO.out).mono ?_
          rintro e w7 ⟨hb7, ⟨h0, rfl⟩ | ⟨x, Ax, cx, hok, hx, rfl, hN7⟩⟩
          · have hlow7 := (HB3.out.trans (HLOW.out.mono HB3.out.size)).trans (hb7.mono (Nat.le_of_lt hzl6))
            have HL7 := Lib.hid hlow7
            have H0 := Lib.hid h0
            clear hlow7 h0 hb7
            go_wp2_with fail
            go_ret2
            refine ⟨HL7.out.alloc HL7.out.size _, .inl ⟨?_, rfl⟩⟩
            unfold putL
            rw [if_neg (by rw [H0.out]; simp)]
          · have hlow7 := (HB3.out.trans (HLOW.out.mono HB3.out.size)).trans (hb7.mono (Nat.le_of_lt hzl6))
            have hz7 := HZ6.out.below hb7 hzl6
            have hAl := (Below.refl _ w7).alloc (Nat.le_refl _) (.cells #[.int .i64 x.kind, .int .i64 x.id, .int .i64 x.ek, .int .i64 x.loan, .int .i64 x.other, .int .i64 x.amount, .slice Ax x.flows.length cx, .int .i64 x.past, .int .i64 x.down, .bool x.bad, .int .i64 x.n] 47)
            have hxl : x.flows.length ≤ 9000 := by
              have := ofOk_flows hok
              rw [← hx] at this
              omega
            have HL8 := Lib.hid (hlow7.alloc hlow7.size (.cells #[.int .i64 x.kind, .int .i64 x.id, .int .i64 x.ek, .int .i64 x.loan, .int .i64 x.other, .int .i64 x.amount, .slice Ax x.flows.length cx, .int .i64 x.past, .int .i64 x.down, .bool x.bad, .int .i64 x.n] 47))
            have HZ8 := Lib.hid (hz7.alloc (.cells #[.int .i64 x.kind, .int .i64 x.id, .int .i64 x.ek, .int .i64 x.loan, .int .i64 x.other, .int .i64 x.amount, .slice Ax x.flows.length cx, .int .i64 x.past, .int .i64 x.down, .bool x.bad, .int .i64 x.n] 47))
            have HF8 := Lib.hid ((HF6.out.below hb7).below hAl)
            have HP8 := Lib.hid ((HP6.out.below hb7 (Nat.le_refl _)).below hAl (Nat.le_refl _))
            have HN8 := Lib.hid ((HN.out.below hb7).below hAl)
            have HX8 := Lib.hid (hN7.src.below hAl)
            have hzl7 := hz7.lt
            have hzl8 : w.heap.size < (w7.alloc (.cells #[.int .i64 x.kind, .int .i64 x.id, .int .i64 x.ek, .int .i64 x.loan, .int .i64 x.other, .int .i64 x.amount, .slice Ax x.flows.length cx, .int .i64 x.past, .int .i64 x.down, .bool x.bad, .int .i64 x.n] 47)).heap.size := Nat.lt_of_lt_of_le hzl7 (World.alloc_le _ _)
            have HOK := Lib.hid hok
            have HX := Lib.hid hx
            have z0 : w7.cell? ⟨w.heap.size, 0, none⟩ = some (.int .i64 c.kind) := hz7.cell 0
            have z1 : w7.cell? ⟨w.heap.size, 1, none⟩ = some (.int .i64 c.id) := hz7.cell 1
            have z2 : w7.cell? ⟨w.heap.size, 2, none⟩ = some (.int .i64 c.ek) := hz7.cell 2
            have z3 : w7.cell? ⟨w.heap.size, 3, none⟩ = some (.int .i64 c.loan) := hz7.cell 3
            have z4 : w7.cell? ⟨w.heap.size, 4, none⟩ = some (.int .i64 c.other) := hz7.cell 4
            have z5 : w7.cell? ⟨w.heap.size, 5, none⟩ = some (.int .i64 c.amount) := hz7.cell 5
            have z6 : w7.cell? ⟨w.heap.size, 6, none⟩ = some (.slice (some ad) c.flows.length cap) := hz7.cell 6
            have z7 : w7.cell? ⟨w.heap.size, 7, none⟩ = some (.int .i64 c.past) := hz7.cell 7
            have z8 : w7.cell? ⟨w.heap.size, 8, none⟩ = some (.int .i64 c.down) := hz7.cell 8
            have z9 : w7.cell? ⟨w.heap.size, 9, none⟩ = some (.bool c.bad) := hz7.cell 9
            have z10 : w7.cell? ⟨w.heap.size, 10, none⟩ = some (.int .i64 c.n) := hz7.cell 10
            clear hlow7 hz7 hAl hb7 hN7 hok hx
            by_cases hs : x = c
            · have hd : decide (x = c) = true := by simp [hs]
              have HD := Lib.hid hd
              have hput : putL c = some (lineOf (wordOf c.kind) ((numsOf c).map Lib.itoa)) := by
                unfold putL
                rw [if_pos ⟨hk1, hk2, HOK.out, HX.out.symm.trans hs⟩]
              have HPUT := Lib.hid hput
              clear hput hd hs
              go_upto_region 16 with (go_at_call 46; refine (same_cmd x c Ax _ cx _ true _ HX8.out HF8.out.src hxl (by omega) HD.out).mono ?_; rintro e w8 ⟨rfl, hb8⟩)
              have hlow9 := HL8.out.trans (hb8.mono HL8.out.size)
              have hz9 := HZ8.out.below hb8 hzl8
              have hN9 := HN8.out.below hb8
              have hP9 := HP8.out.below hb8 (Nat.le_refl _)
              have hz9l := hz9.lt
              have hbl := builder_new w8
              have hB9 := (Below.refl w8.heap.size w8).alloc (Nat.le_refl _) (.cells #[.pointer none, .slice none 0 0] 118)
              have hz10 := hz9.alloc (.cells #[.pointer none, .slice none 0 0] 118)
              have hbz : (w8.alloc (.cells #[.pointer none, .slice none 0 0] 118)).heap.size = w8.heap.size + 1 := World.size_alloc _ _
              have HL9 := Lib.hid hlow9
              have HN9 := Lib.hid hN9
              have HP9 := Lib.hid hP9
              have HFIT := Lib.hid hc.nums
              clear hlow9 hN9 hP9 hz9 hb8 HL8 HZ8 HF8 HP8 HN8 HX8 z0 z1 z2 z3 z4 z5 z6 z7 z8 z9 z10
              generalize w8.alloc (.cells #[.pointer none, .slice none 0 0] 118) = wb at hbl hB9 hz10 hbz ⊢
              have hkw : wordOf c.kind = (wordL.getD c.kind.toNat ByteArray.empty).data.toList := rfl
              have hbd : c.kind.toNat < 15 := by omega
              have k0 : wb.drew.cell? ⟨w.heap.size, 0, none⟩ = some (.int .i64 c.kind) := hz10.cell 0
              have hcw : c.kind = ((c.kind.toNat : Nat) : Int) := by omega
              have HKW := Lib.hid hkw
              clear hkw
              rw [hcw] at k0
              have hsmall := word_small c.kind.toNat hbd
              have hwc : ∀ w9, wb.drew.alloc (.cells wordCells 9) = w9 → w9.cell? ⟨w8.heap.size + 1, c.kind.toNat, none⟩ = some (.string (wordL.getD c.kind.toNat ByteArray.empty)) := by
                rintro w9 rfl
                have h := cells_new wb.drew wordCells 9 c.kind.toNat (.string (wordL.getD c.kind.toNat ByteArray.empty)) (by
                  have hl : c.kind.toNat < wordL.length := hbd
                  simp [wordCells, List.getElem?_eq_getElem hl])
                rw [add_zero_eq, show wb.drew.heap.size = w8.heap.size + 1 from hbz] at h
                exact h
              generalize hkn : c.kind.toNat = kn at hwc k0 hbd hsmall HKW
              generalize hwd : wordL.getD kn ByteArray.empty = wd at hwc hsmall HKW
              have hk9 : ∀ w9, wb.drew.alloc (.cells wordCells 9) = w9 → w9.cell? ⟨w.heap.size, 0, none⟩ = some (.int .i64 (kn : Int)) := by
                rintro w9 rfl
                exact (((Below.refl wb.drew.heap.size wb.drew).alloc (Nat.le_refl _) (.cells wordCells 9)).cell (p := ⟨w.heap.size, 0, none⟩) hz10.lt).trans k0
              have hb9 : ∀ w9, wb.drew.alloc (.cells wordCells 9) = w9 → Below w8.heap.size w8 w9 ∧ Lib.IsBuilder 118 5 w8.heap.size w8.heap.size [] w9 := by
                rintro w9 rfl
                have h1 : Below w8.heap.size w8 wb.drew := hB9.drew
                have h2 : Lib.IsBuilder 118 5 w8.heap.size w8.heap.size [] wb.drew := hbl
                exact ⟨h1.alloc h1.size _, builder_below h2 ((Below.refl _ _).alloc (Nat.le_refl _) _)⟩
              have HK9 := Lib.hid hk9
              have HB9 := Lib.hid hb9
              have HWC := Lib.hid hwc
              have hkn0 : (0 : Int) ≤ (kn : Int) := by omega
              have hkn1 : (kn : Int) < 15 := by omega
              have hkn2 : (kn : Int) < ((15 : Nat) : Int) := by omega
              clear hcw hkn hwd hk9 hb9 hwc hB9 hbl hz10
              go_cut [11] (fun s11 wx => s11 = .pointer (some ⟨w8.heap.size, 0, none⟩) ∧ Below w8.heap.size w8 wx ∧ Lib.IsBuilder 118 5 w8.heap.size w8.heap.size (Lib.byteCells wd.data.toList) wx)
              case first =>
                go_region_with (first
                  | (go_at_call 38; refine (words_any _).mono ?_; rintro e w9 ⟨rfl, hw9⟩; have hk1' := HK9.out w9 hw9; have hwd := HWC.out w9 hw9; have hbb := HB9.out w9 hw9)
                  | (go_at_call 47; refine (put_str w8.heap.size w8.heap.size [] wd w9 hbb.2 (by simp; omega) hbb.1.size).mono ?_; rintro e w10 ⟨rfl, hW⟩))
                all_goals
                  go_wp2_with fail
                  go_meet
                  exact ⟨rfl, hbb.1.trans hW.2.1, .inr hW.1⟩
              case rest =>
                obtain ⟨rfl, hBr0, hbr0⟩ := hcut
                have hnl0 := hnl
                have hbr0' : Lib.IsBuilder 118 5 w8.heap.size w8.heap.size (Lib.byteCells (wd.data.toList ++ ((numsOf c).take 0).flatMap fun n => 32 :: Lib.itoa n)) wc := by simpa using hbr0
                have hwdl : wd.data.toList.length ≤ 10 := by simpa [ByteArray.size_data] using hsmall
                clear hbr0 hsmall HK9 HB9 HWC
                generalize numsOf c = nl at *
                go_wp2_with fail
                go_loopw [68] (fun i wr => ∃ j : Nat, j ≤ nl.length ∧ i = .int .i64 j ∧ Below w8.heap.size w8 wr ∧ Lib.IsBuilder 118 5 w8.heap.size w8.heap.size (Lib.byteCells (wd.data.toList ++ (nl.take j).flatMap fun n => 32 :: Lib.itoa n)) wr ∧ (wd.data.toList ++ (nl.take j).flatMap fun n => 32 :: Lib.itoa n).length ≤ 10 + 22 * j) (fun i _ => nl.length - (RowKit.intOf i).toNat)
                case atStart => exact ⟨0, Nat.zero_le _, rfl, hBr0, hbr0', by simpa using hwdl⟩
                case round =>
                  obtain ⟨j, hj, rfl, hBr, hbr, hlen⟩ := hrel
                  by_cases hlt : j < nl.length
                  · have hNr : NumsAt wr _ nl := (owns_low8 HN9.out hBr).nums
                    obtain ⟨A', c', e', hat⟩ := hNr
                    cases e'
                    obtain ⟨g, rfl, hg, c0⟩ := hat j hlt
                    have hnx := take_next nl j hlt 0
                    have hfit : In64 (nl[j]?.getD 0) := HFIT.out _ (by rw [List.getElem?_eq_getElem hlt]; exact List.getElem_mem hlt)
                    generalize nl[j]?.getD 0 = n at c0 hnx hfit
                    have hl := Lib.itoa_length_le n hfit.1 hfit.2
                    have hcat : ¬ 9223372036854775807 < 1 + (Lib.itoa n).length := by omega
                    have hnew : wd.data.toList ++ (nl.take (j + 1)).flatMap (fun n => 32 :: Lib.itoa n) = (wd.data.toList ++ (nl.take j).flatMap fun n => 32 :: Lib.itoa n) ++ (32 :: Lib.itoa n) := by rw [hnx]; simp
                    have hPr := HP9.out.below hBr (Nat.le_refl _)
                    have HL := Lib.hid hl
                    have HNEW := Lib.hid hnew
                    have HBR := Lib.hid hBr
                    have HBL := Lib.hid hbr
                    have hj0 : (0 : Int) ≤ (j : Int) := by omega
                    have hjl : (j : Int) < (nl.length : Int) := by omega
                    clear hl hnew hnx hat hBr hbr hBr0 hbr0' hwdl
                    generalize (wd.data.toList ++ (nl.take j).flatMap fun n => 32 :: Lib.itoa n) = pre2 at HNEW HBL hlen
                    go_wp2_with fail
                    refine (fmt_any n wr hfit hPr).mono ?_
                    rintro e w10 ⟨rfl, hb10⟩
                    have hb8 := HBR.out.trans (hb10.mono HBR.out.size)
                    have HB8 := Lib.hid hb8
                    have HBL2 := Lib.hid (builder_below HBL.out hb10)
                    clear hb10 c0 hg hb8
                    go_wp2_with fail
                    refine (put_str w8.heap.size w8.heap.size _ _ w10 HBL2.out (by rw [Lib.byteCells_length, ← ByteArray.size_data, ← Array.length_toList, cat_bytes, List.length_cons]; have := HL.out; omega) HB8.out.size).mono ?_
                    rintro e w11 ⟨rfl, hW⟩
                    go_wp2_with fail
                    refine ⟨⟨j + 1, by omega, by go_num, HB8.out.trans hW.2.1, .inr ?_, ?_⟩, by simp [RowKit.intOf]; omega⟩
                    · have h := hW.1
                      rw [HNEW.out]
                      have e : Lib.byteCells pre2 ++ Lib.strCells ((⟨#[32]⟩ : ByteArray) ++ ⟨(Lib.itoa n).toArray⟩) = Lib.byteCells (pre2 ++ (32 :: Lib.itoa n)) := by
                        show Lib.byteCells pre2 ++ Lib.byteCells ((⟨#[32]⟩ : ByteArray) ++ ⟨(Lib.itoa n).toArray⟩).data.toList = _
                        rw [cat_bytes]
                        simp [Lib.byteCells]
                      rw [e] at h
                      exact h
                    · rw [HNEW.out, List.length_append, List.length_cons]
                      have := HL.out
                      omega
                  · obtain rfl : j = nl.length := by omega
                    rw [List.take_of_length_le (Nat.le_refl _)] at hbr
                    have hfin : wd.data.toList ++ (nl.flatMap fun n => 32 :: Lib.itoa n) = lineOf (wordOf c.kind) (nl.map Lib.itoa) := by
                      unfold lineOf
                      rw [HKW.out, List.flatMap_map]
                    have HFIN := Lib.hid hfin
                    have HBR := Lib.hid hBr
                    have HBL := Lib.hid hbr
                    clear hfin hBr hbr hBr0 hbr0' hwdl hlen hlt
                    go_wp2_with fail
                    refine (Tryd.Builder_String_any w8.heap.size w8.heap.size _ wr HBL.out HBR.out.size).mono ?_
                    rintro e w12 ⟨rfl, hb12⟩
                    go_wp2_with fail
                    go_ret2
                    refine ⟨HL9.out.trans ((HBR.out.trans hb12).mono HL9.out.size), .inr ⟨_, HPUT.out, ?_⟩⟩
                    rw [HFIN.out]
                    rfl
            · have hd : decide (x = c) = false := by simp [hs]
              have HD := Lib.hid hd
              have hput : putL c = none := by
                unfold putL
                rw [if_neg (fun h => hs (HX.out.trans h.2.2.2))]
              have HPUT := Lib.hid hput
              clear hput hd hs
              go_wp2_with (go_at_call 46; refine (same_cmd x c Ax _ cx _ false _ HX8.out HF8.out.src hxl (by omega) HD.out).mono ?_; rintro e w8 ⟨rfl, hb8⟩)
              go_ret2
              exact ⟨HL8.out.trans (hb8.mono HL8.out.size), .inl ⟨HPUT.out, rfl⟩⟩
  · have hno : putL c = none := by
      unfold putL
      rw [if_neg (fun h => hk ⟨h.1, h.2.1⟩)]
    have HNO := Lib.hid hno
    have HBA := Lib.hid hBa
    clear hno hBa hz hfl hP
    by_cases h1 : c.kind < 1
    · clear hk
      go_enter Tryd.func21, Tryd.ntmps21
      go_wp2_with fail
      go_ret2
      exact ⟨HBA.out, .inl ⟨HNO.out, rfl⟩⟩
    · have h14 : 14 < c.kind := by omega
      clear hk
      go_enter Tryd.func21, Tryd.ntmps21
      go_wp2_with fail
      go_ret2
      exact ⟨HBA.out, .inl ⟨HNO.out, rfl⟩⟩
end Go.Proofs.YtdmopagkahgepaaDoor
