/- lombardlaw24: the arguments, the laid variables. -/
import Derived.Test.YtdmopagkahgepaaDoorUo
import Derived.Test.YtdmopagkahgepaaDoorRows
import Derived.ProofKit
import Derived.Deep.SlicePairs
import Derived.LaidMore
import Derived.LaidSub
import Derived.OpenShut
import Derived.Stop.Joined
import Derived.Stop.LaidErr
import Derived.ChangeAgain
import Derived.ChangeMaps5
import Derived.RowKitTokens
namespace Go.Proofs.YtdmopagkahgepaaDoor
open Go.ChangeShapes Go.WideShapes Go.ChangeAt Go.WideMaps Go.WideElems Go.RowKit
open Go.ChangeMaps (open_string)

theorem own' : ownKnob Tryd.prog.godebug = none := by kernel_rfl
theorem laidOut' : laidOutB Tryd.prog = true := by kernel_rfl
theorem cells54' : Tryd.prog.cellsOf 54 = 11 := by kernel_rfl
theorem cells52' : Tryd.prog.cellsOf 52 = 9 := by kernel_rfl
theorem cells50' : Tryd.prog.cellsOf 50 = 3 := by kernel_rfl
theorem cells41' : Tryd.prog.cellsOf 41 = 1 := by kernel_rfl
theorem cells3' : Tryd.prog.cellsOf 3 = 1 := by kernel_rfl
theorem cells2' : Tryd.prog.cellsOf 2 = 1 := by kernel_rfl
theorem cells4' : Tryd.prog.cellsOf 4 = 1 := by kernel_rfl
theorem cells9' : Tryd.prog.cellsOf 9 = 1 := by kernel_rfl
theorem cells225' : Tryd.prog.cellsOf 225 = 1 := by kernel_rfl
theorem cells141' : Tryd.prog.cellsOf 141 = 1 := by kernel_rfl
theorem cells209' : Tryd.prog.cellsOf 209 = 20 := by kernel_rfl
theorem gPow : Tryd.prog.globalNamed "internal/strconv.uint64pow10" = some 3 := by kernel_rfl
theorem tPow : (Tryd.prog.globals[3]?).map (·.type) = some 209 := by kernel_rfl
theorem gES : Tryd.prog.globalNamed "strconv.ErrSyntax" = some 1 := by kernel_rfl
theorem tES : (Tryd.prog.globals[1]?).map (·.type) = some 96 := by kernel_rfl
theorem gER : Tryd.prog.globalNamed "strconv.ErrRange" = some 2 := by kernel_rfl
theorem tER : (Tryd.prog.globals[2]?).map (·.type) = some 96 := by kernel_rfl
theorem star' : "*" ++ "errors.errorString" = "*errors.errorString" := by decide
/-- The one row of that name. -/
theorem row223 (u : TypeId) (h : Tryd.prog.typeName? 3 u = some "*errors.errorString") : u = 223 :=
  typeName_ptr_named (nm := "errors.errorString") (by rw [star']; kernel_rfl) (by kernel_rfl) (by decide) u (by rw [star']; exact h)

theorem spot_none {w : World} {a : Addr} {v : Value} (h : w.cell? (a.add 0) = some v) : a.spot = none := by
  unfold World.cell? at h
  simp only [Addr.add, if_true] at h
  split at h
  · split at h
    · cases h
    · rename_i hs
      simpa using hs
  · cases h
theorem add_at {a : Addr} (h : a.spot = none) (i : Nat) : a.add i = ⟨a.block, a.off + i, none⟩ := by
  obtain ⟨b, o, s⟩ := a
  simp only at h
  subst h
  unfold Addr.add
  split
  · rename_i h0
    subst h0
    rfl
  · rfl

section
variable {H : Type} {enc : TypeId × Value → H} {w : World} {base : Nat} {held : Bool}
theorem In64_of {n : Int} (h : (Lit.int .i64 n).wf = true) : In64 n := by
  have e1 : IntKind.i64.min = -9223372036854775808 := rfl
  have e2 : IntKind.i64.max = 9223372036854775807 := rfl
  simp [Lit.wf, e1, e2] at h
  unfold In64
  omega
theorem one_int {fuel : Nat} {t : TypeId} {v : Value} {y : DataW H × List MemPlace} (ht : Tryd.prog.underlying t = some (.int .i64)) (h : DataW.trod enc Tryd.prog w base (fun _ => true) held fuel t [v] = some y) : ∃ n, v = .int .i64 n ∧ In64 n := by
  obtain ⟨n, e, _, hw⟩ := DataW.trod_int ht h
  exact ⟨n, by simpa using e, In64_of hw⟩
theorem one_bool {fuel : Nat} {v : Value} {y : DataW H × List MemPlace} (h : DataW.trod enc Tryd.prog w base (fun _ => true) held fuel 4 [v] = some y) : ∃ b, v = .bool b := by
  obtain ⟨b, e, _⟩ := DataW.trod_bool Tryd.underlying4 h
  exact ⟨b, by simpa using e⟩
/-- A slice of int64, read as data: its numbers, and where they lie. -/
theorem flows_in {fuel : Nat} {v : Value} {y : DataW H × List MemPlace} (h : DataW.trod enc Tryd.prog w base (fun _ => true) held fuel 41 [v] = some y) :
    ∃ A xs cap, v = .slice A (List.length xs) cap ∧ FlowsIn w A cap xs ∧ (∀ x ∈ xs, In64 x) ∧ xs.length ≤ maxLen := by
  rcases Deep.open_slice1 Tryd.underlying41 cells2' h with ⟨hcs, _⟩ | ⟨a, len, cap, m, n, V, D, Pl, hcs, _, hl, hml, hm, _, hc⟩
  · simp only [List.cons.injEq, and_true] at hcs
    exact ⟨none, [], 0, hcs, ⟨⟨none, 0, rfl, fun i hi => absurd hi (by simp)⟩, fun _ => rfl⟩, by simp, Nat.zero_le _⟩
  · simp only [List.cons.injEq, and_true] at hcs
    simp only [if_true] at hm
    subst hm
    have each : ∀ i, i < m → ∃ x : Int, V i = .int .i64 x ∧ In64 x := fun i hi => one_int Tryd.underlying2 (hc i hi).2
    obtain ⟨f, hf⟩ := Deep.choose_lt each
    have hlen : ((List.range len).map f).length = len := by simp
    refine ⟨some a, (List.range len).map f, m, by rw [hlen]; exact hcs, ⟨⟨some a, m, rfl, fun i hi => ?_⟩, fun e => by cases e⟩, fun x hx => ?_, by rw [hlen]; omega⟩
    · rw [hlen] at hi
      have hs := spot_none (by simpa using (hc 0 (by omega)).1)
      have c0 := (hc i (by omega)).1
      rw [(hf i (by omega)).1, add_at hs] at c0
      refine ⟨a.block, a.off, ?_, World.block_lt_of_cell? w ⟨a.block, _, none⟩ c0, ?_⟩
      · have := add_at hs 0
        simpa [Addr.add] using this
      · have hg : ((List.range len).map f)[i]?.getD 0 = f i := by simp [hi]
        rw [hg]
        exact c0
    · obtain ⟨i, hi, rfl⟩ := List.mem_map.1 hx
      exact (hf i (by have := List.mem_range.1 hi; omega)).2

set_option maxRecDepth 100000 in
/-- A command, read as data. -/
theorem cmd_in {v : Value} {d : DataW H} {p : List MemPlace} {b0 : Nat} (hv : Value.okWide Tryd.prog w .any b0 54 v) (h : DataW.Trod enc Tryd.prog w base (fun _ => true) held 54 v d p) :
    ∃ c : Cmd, ∃ A cap, v = .agg #[.int .i64 c.kind, .int .i64 c.id, .int .i64 c.ek, .int .i64 c.loan, .int .i64 c.other, .int .i64 c.amount, .slice A c.flows.length cap, .int .i64 c.past, .int .i64 c.down, .bool c.bad, .int .i64 c.n] ∧ FlowsIn w A cap c.flows ∧ c.Fine ∧ c.flows.length ≤ maxLen := by
  obtain ⟨cs, rfl, hsz⟩ := okWide_struct Tryd.underlying54 hv
  obtain ⟨c0, c1, c2, c3, c4, c5, c6, c7, c8, c9, c10, rfl⟩ := eleven (hsz.trans cells54')
  obtain ⟨fuel, hf⟩ := h
  obtain ⟨xs, n, _, hx, _, hlen, hfs⟩ := DataW.trod_struct Tryd.underlying54 hf
  have g0 : DataW.trod enc Tryd.prog w base (fun _ => true) held n 3 ((([c0, c1, c2, c3, c4, c5, c6, c7, c8, c9, c10] : List Value).drop 0).take (Tryd.prog.cellsOf 3)) = xs[0]? := hfs 0 _ rfl
  rw [cells3'] at g0
  replace g0 : DataW.trod enc Tryd.prog w base (fun _ => true) held n 3 [c0] = xs[0]? := g0
  have g1 : DataW.trod enc Tryd.prog w base (fun _ => true) held n 52 ((([c0, c1, c2, c3, c4, c5, c6, c7, c8, c9, c10] : List Value).drop 1).take (Tryd.prog.cellsOf 52)) = xs[1]? := hfs 1 _ rfl
  rw [cells52'] at g1
  replace g1 : DataW.trod enc Tryd.prog w base (fun _ => true) held n 52 [c1, c2, c3, c4, c5, c6, c7, c8, c9] = xs[1]? := g1
  have g2 : DataW.trod enc Tryd.prog w base (fun _ => true) held n 2 ((([c0, c1, c2, c3, c4, c5, c6, c7, c8, c9, c10] : List Value).drop 10).take (Tryd.prog.cellsOf 2)) = xs[2]? := hfs 2 _ rfl
  rw [cells2'] at g2
  replace g2 : DataW.trod enc Tryd.prog w base (fun _ => true) held n 2 [c10] = xs[2]? := g2
  match xs, hlen with
  | [y0, y1, y2], _ =>
    simp only [List.getElem?_cons_zero, List.getElem?_cons_succ] at g0 g1 g2
    obtain ⟨k, rfl, hk⟩ := one_int Tryd.underlying3 g0
    obtain ⟨nn, rfl, hn⟩ := one_int Tryd.underlying2 g2
    obtain ⟨ys, n2, _, _, _, hlen2, hfs2⟩ := DataW.trod_struct Tryd.underlying52 g1
    have e0 : DataW.trod enc Tryd.prog w base (fun _ => true) held n2 3 ((([c1, c2, c3, c4, c5, c6, c7, c8, c9] : List Value).drop 0).take (Tryd.prog.cellsOf 3)) = ys[0]? := hfs2 0 _ rfl
    rw [cells3'] at e0
    replace e0 : DataW.trod enc Tryd.prog w base (fun _ => true) held n2 3 [c1] = ys[0]? := e0
    have e1 : DataW.trod enc Tryd.prog w base (fun _ => true) held n2 3 ((([c1, c2, c3, c4, c5, c6, c7, c8, c9] : List Value).drop 1).take (Tryd.prog.cellsOf 3)) = ys[1]? := hfs2 1 _ rfl
    rw [cells3'] at e1
    replace e1 : DataW.trod enc Tryd.prog w base (fun _ => true) held n2 3 [c2] = ys[1]? := e1
    have e2 : DataW.trod enc Tryd.prog w base (fun _ => true) held n2 3 ((([c1, c2, c3, c4, c5, c6, c7, c8, c9] : List Value).drop 2).take (Tryd.prog.cellsOf 3)) = ys[2]? := hfs2 2 _ rfl
    rw [cells3'] at e2
    replace e2 : DataW.trod enc Tryd.prog w base (fun _ => true) held n2 3 [c3] = ys[2]? := e2
    have e3 : DataW.trod enc Tryd.prog w base (fun _ => true) held n2 3 ((([c1, c2, c3, c4, c5, c6, c7, c8, c9] : List Value).drop 3).take (Tryd.prog.cellsOf 3)) = ys[3]? := hfs2 3 _ rfl
    rw [cells3'] at e3
    replace e3 : DataW.trod enc Tryd.prog w base (fun _ => true) held n2 3 [c4] = ys[3]? := e3
    have e4 : DataW.trod enc Tryd.prog w base (fun _ => true) held n2 2 ((([c1, c2, c3, c4, c5, c6, c7, c8, c9] : List Value).drop 4).take (Tryd.prog.cellsOf 2)) = ys[4]? := hfs2 4 _ rfl
    rw [cells2'] at e4
    replace e4 : DataW.trod enc Tryd.prog w base (fun _ => true) held n2 2 [c5] = ys[4]? := e4
    have e5 : DataW.trod enc Tryd.prog w base (fun _ => true) held n2 41 ((([c1, c2, c3, c4, c5, c6, c7, c8, c9] : List Value).drop 5).take (Tryd.prog.cellsOf 41)) = ys[5]? := hfs2 5 _ rfl
    rw [cells41'] at e5
    replace e5 : DataW.trod enc Tryd.prog w base (fun _ => true) held n2 41 [c6] = ys[5]? := e5
    have e6 : DataW.trod enc Tryd.prog w base (fun _ => true) held n2 50 ((([c1, c2, c3, c4, c5, c6, c7, c8, c9] : List Value).drop 6).take (Tryd.prog.cellsOf 50)) = ys[6]? := hfs2 6 _ rfl
    rw [cells50'] at e6
    replace e6 : DataW.trod enc Tryd.prog w base (fun _ => true) held n2 50 [c7, c8, c9] = ys[6]? := e6
    match ys, hlen2 with
    | [z0, z1, z2, z3, z4, z5, z6], _ =>
      simp only [List.getElem?_cons_zero, List.getElem?_cons_succ] at e0 e1 e2 e3 e4 e5 e6
      obtain ⟨a1, rfl, h1⟩ := one_int Tryd.underlying3 e0
      obtain ⟨a2, rfl, h2⟩ := one_int Tryd.underlying3 e1
      obtain ⟨a3, rfl, h3⟩ := one_int Tryd.underlying3 e2
      obtain ⟨a4, rfl, h4⟩ := one_int Tryd.underlying3 e3
      obtain ⟨a5, rfl, h5⟩ := one_int Tryd.underlying2 e4
      obtain ⟨A, fl, cap, rfl, hF, hfit, hfl⟩ := flows_in e5
      obtain ⟨ms, n3, _, _, _, hlen3, hfs3⟩ := DataW.trod_struct Tryd.underlying50 e6
      have m0 : DataW.trod enc Tryd.prog w base (fun _ => true) held n3 3 ((([c7, c8, c9] : List Value).drop 0).take (Tryd.prog.cellsOf 3)) = ms[0]? := hfs3 0 _ rfl
      rw [cells3'] at m0
      replace m0 : DataW.trod enc Tryd.prog w base (fun _ => true) held n3 3 [c7] = ms[0]? := m0
      have m1 : DataW.trod enc Tryd.prog w base (fun _ => true) held n3 3 ((([c7, c8, c9] : List Value).drop 1).take (Tryd.prog.cellsOf 3)) = ms[1]? := hfs3 1 _ rfl
      rw [cells3'] at m1
      replace m1 : DataW.trod enc Tryd.prog w base (fun _ => true) held n3 3 [c8] = ms[1]? := m1
      have m2 : DataW.trod enc Tryd.prog w base (fun _ => true) held n3 4 ((([c7, c8, c9] : List Value).drop 2).take (Tryd.prog.cellsOf 4)) = ms[2]? := hfs3 2 _ rfl
      rw [cells4'] at m2
      replace m2 : DataW.trod enc Tryd.prog w base (fun _ => true) held n3 4 [c9] = ms[2]? := m2
      match ms, hlen3 with
      | [q0, q1, q2], _ =>
        simp only [List.getElem?_cons_zero, List.getElem?_cons_succ] at m0 m1 m2
        obtain ⟨a7, rfl, h7⟩ := one_int Tryd.underlying3 m0
        obtain ⟨a8, rfl, h8⟩ := one_int Tryd.underlying3 m1
        obtain ⟨a9, rfl⟩ := one_bool m2
        exact ⟨⟨k, a1, a2, a3, a4, a5, fl, a7, a8, a9, nn⟩, A, cap, rfl, hF, ⟨h1, h3, h4, h5, h7, h8, hn, hfit⟩, hfl⟩
end

theorem lay_of {w : World} (h0 : w.ShapedOpen Tryd.prog) (hp : Pow w) (hs : Sent w) : Lay w :=
  ⟨hp, hs, fun _ hb => h0.keptBut (hb.frame fun _ => False) (fun _ h => h.elim)⟩
/-- The wrap of a row that lists variables, with the shape of the world handed on as well. -/
theorem lifted_shaped {H : Type} {enc : TypeId × Value → H} {a : Assume} {C : Checked} {os : Os} {f : FuncId} {fn : Func} {s : ChangeSpec} {conds : List PathCond} {apart fresh handsOn again : Bool} {X : World → Array Value → Prop}
    (hX : ∀ (w w' : World) (args : Array Value), w.heap = w'.heap → X w args → X w' args)
    (own : ownKnob C.prog.godebug = none) (started : os.Started) (noInit : C.prog.inits.idxOf? f = none) (hfn : C.prog.funcs[f]? = some fn)
    (witness : ∃ (w : World) (tape : Tape) (i : Input), w.os = os ∧ (w.forCall tape i).Shaped C.prog ∧ i.vars = [] ∧ Input.okWide C.prog (w.forCall tape i) .any w.heap.size f i ∧
      ((s.pre enc C.prog fn conds apart (w.forCall tape i).memory i.args ∧ X (w.forCall tape i).memory i.args) ∧ sizedMet enc C.prog fn (OpenSpec.ofChange s) apart (w.forCall tape i).memory i.args) ∧ a.holds C.prog (lone (Frame.enter C.prog f i.args .normal) [] (w.forCall tape i)))
    (contract : ∀ (W : World) (base : Nat) (args : Array Value) (ds gs : List (DataW H)) (before : List MemPlace),
      (∀ (j : Nat) t v, fn.params[j]? = some t → args[j]? = some v → Value.okWide C.prog W .any base t v) →
      DataW.Whole enc C.prog fn.params.toList s.vars apart W args.toList ds gs before → X W args → W.ShapedOpen C.prog →
      Calls C.prog f args W fun e W' => ∃ v, e = .returned v ∧ s.post enc C.prog fn apart fresh handsOn again W args v W') :
    ReturnsInHanded a C os f .any (fun w args => (s.pre enc C.prog fn conds apart w args ∧ X w args) ∧ sizedMet enc C.prog fn (OpenSpec.ofChange s) apart w args) (s.post enc C.prog fn apart fresh handsOn again) := by
  refine returnsInHanded_of_calls own started noInit witness ?_
  intro w tape i _ hsh _ hok hpre _
  obtain ⟨_, _, _, fn', hfn', _, _, _, _, hval⟩ := hok
  have e : fn' = fn := Option.some.inj (hfn'.symm.trans hfn)
  subst e
  obtain ⟨⟨⟨ds, gs, before, hw, _⟩, hx⟩, _⟩ := hpre
  have hw' := DataW.Whole.of_heap (w' := w.forCall tape i) (by rfl) hw
  refine (contract (w.forCall tape i) w.heap.size i.args ds gs before hval hw' (hX _ _ _ (by rfl) hx) hsh).mono fun e W' ⟨v, he, hp⟩ => ?_
  subst he
  exact ChangeSpec.post_blind hp
end Go.Proofs.YtdmopagkahgepaaDoor
