/- For every input lombardlaw24.CommandPuts answers true, and its argument reads as it did: any command's line, or the error, is the document's. Conditions: none but those of the tied card (the tables that it lists read as the program lays them). -/
import Derived.Test.YtdmopagkahgepaaDoorUp
import Derived.Test.YtdmopagkahgepaaDoorXq
import Derived.Test.YtdmopagkahgepaaDoorTie
import Derived.Test.YtdmopagkahgepaaDoorCards
import Derived.SevenTiedAt
import Derived.Lay
namespace Go.Proofs.YtdmopagkahgepaaDoor
open Go.ChangeShapes Go.WideShapes Go.ChangeAt Go.WideMaps Go.WideElems Go.RowKit
open Go.ChangeMaps (open_string shut_string)

def laidQ : List (String × DataW Unit) := Rows.commandPutsRow.laid
theorem laidQ_pow : laidQ.filter (fun x => x.1 == "internal/strconv.uint64pow10") = [("internal/strconv.uint64pow10", Lib.tabData .u64 Lib.pow10Tab)] := by kernel_rfl
theorem laidQ_syn : laidQ.filter (fun x => x.1 == "strconv.ErrSyntax") = [("strconv.ErrSyntax", .iface "*errors.errorString" (.ptr (.agg [.lit (.string [105, 110, 118, 97, 108, 105, 100, 32, 115, 121, 110, 116, 97, 120])])))] := by kernel_rfl
theorem laidQ_rng : laidQ.filter (fun x => x.1 == "strconv.ErrRange") = [("strconv.ErrRange", .iface "*errors.errorString" (.ptr (.agg [.lit (.string [118, 97, 108, 117, 101, 32, 111, 117, 116, 32, 111, 102, 32, 114, 97, 110, 103, 101])])))] := by kernel_rfl
theorem laidQ_all : (laidQ.all fun x => x.2.handleName?.isNone) = true := by kernel_rfl
theorem lay_of_laidQ {W : World} (hsh : W.ShapedOpen Tryd.prog) (h : laidMetH Tryd.prog laidQ W) : Lay W := by
  rw [MakeChecks.laidMetH_plain _ _ _ laidQ_all] at h
  have h1 := h.filter (fun x => x.1 == "internal/strconv.uint64pow10")
  rw [laidQ_pow] at h1
  have h2 := h.filter (fun x => x.1 == "strconv.ErrSyntax")
  rw [laidQ_syn] at h2
  have h3 := h.filter (fun x => x.1 == "strconv.ErrRange")
  rw [laidQ_rng] at h3
  obtain ⟨a0, s0, v0, _⟩ := laid_sentinel h2 gES tES Tryd.underlying96 row223 Tryd.underlying223 Tryd.underlying225 rfl rfl Tryd.underlying9 cells225' cells9'
  obtain ⟨a1, s1, v1, _⟩ := laid_sentinel h3 gER tER Tryd.underlying96 row223 Tryd.underlying223 Tryd.underlying225 rfl rfl Tryd.underlying9 cells225' cells9'
  exact lay_of hsh (Lib.tabIs_of_head gPow tPow Tryd.underlying209 Tryd.underlying141 cells141' cells209' h1) ⟨⟨_, _, v0⟩, _, _, v1⟩

/-- A command of zeros. -/
def zeroQ : Value := .agg #[.int .i64 0, .int .i64 0, .int .i64 0, .int .i64 0, .int .i64 0, .int .i64 0, .slice none 0 0, .int .i64 0, .int .i64 0, .bool false, .int .i64 0]
set_option maxRecDepth 100000 in
set_option maxHeartbeats 1000000 in
theorem commandPuts_lifted (os : Os) (started : os.Started) (H : Type) (enc : TypeId × Value → H) :
    ReturnsInHanded {} Tryd.checked os 5 .any (fun w args => (Rows.commandPutsSpec.pre enc Tryd.prog Tryd.f5 [] false w args ∧ laidMetH Tryd.prog laidQ w) ∧ sizedMet enc Tryd.prog Tryd.f5 (OpenSpec.ofChange Rows.commandPutsSpec) false w args)
      (Rows.commandPutsSpec.post enc Tryd.prog Tryd.f5 false true false false) := by
  refine lifted_shaped (C := Tryd.checked) (X := fun w _ => laidMetH Tryd.prog laidQ w) (fun _ _ _ hh h => h.of_heap hh) own' started (by kernel_rfl) Tryd.func5
    (ChangeSpec.witness_shaped (enc := enc) (C := Tryd.checked) (os := os) (X := fun w _ => laidMetH Tryd.prog laidQ w) false (World.laidAll Tryd.prog os laidQ) #[zeroQ] 8 (World.laidAll_os _ _ _)
      (World.shaped_of_ZipB (by kernel_rfl) (by kernel_rfl)) (by kernel_rfl) (by kernel_rfl) (by kernel_rfl)
      (by rw [MakeChecks.laidMetH_plain _ _ _ laidQ_all]; exact laidMet_laidAll _ (by kernel_rfl) (by kernel_rfl))) ?_
  intro W base args ds gs before hval0 hW hL hsh
  have hval : ∀ (j : Nat) t v, Tryd.f5.params[j]? = some t → args[j]? = some v → Value.okWide Tryd.prog W .any base t v := hval0
  have hW' := hW
  obtain ⟨p, q, hA0, hV, rfl, hfz, hnd⟩ := hW
  have hA : DataW.TrodAll enc Tryd.prog W 0 (fun _ => true) true Tryd.f5.params.toList args.toList ds p := hA0
  rw [Tryd.params5] at hA hval
  obtain ⟨v0, d0, rfl, rfl, h0⟩ := trodAll_one hA
  obtain ⟨rfl, rfl⟩ := trodVars_none hV
  have h0k := h0
  obtain ⟨c, A, cap, rfl, hF, hfine, hfl⟩ := cmd_in (hval 0 54 v0 rfl rfl) h0
  have hLay := lay_of_laidQ hsh hL
  clear hA0 hval0
  have hlt : ∀ x ∈ p, x.block < W.heap.size := fun x hx => by simpa using hW'.lt x (by simp [hx])
  have hargs : ∀ (W' : World), Below W.heap.size W W' → DataW.Trod enc Tryd.prog W' 0 (fun b => decide (b < W.heap.size)) true 54 _ d0 p :=
    fun W' hn => Below.trod laidOut' (by kernel_rfl) (of_decide_eq_true (by kernel_rfl)) h0k hn hlt
  refine (puts_any c A cap W hF hfl hfine hLay).mono fun e W' ⟨he, hb⟩ => ?_
  subst he
  have h2 : DataW.TrodAll enc Tryd.prog W' 0 (fun b => decide (b < W.heap.size)) true [54] _ _ p := trodAll_mk1 (hargs _ hb)
  simp only [List.append_nil] at hW'
  exact ⟨_, rfl, ⟨_, _, _, [], _, [], hW', trodAll_mk1 (shut_bool Tryd.underlying4 _), h2, rfl, hb.frame _, fun h => by cases h⟩⟩

theorem commandPuts_holds : Rows.CommandPutsSaid :=
  OpenClaim.holds_of_wide 5 Tryd.f5 rfl rfl rfl rfl rfl rfl rfl ⟨rfl, rfl, rfl, rfl, rfl⟩ rfl rfl rfl rfl rfl (by kernel_rfl) Tryd.func5 (by kernel_rfl)
    (of_decide_eq_true (by kernel_rfl)) (by unfold Func.isWrapper; first | (rw [if_pos (by decide +kernel)]; kernel_rfl) | (rw [if_neg (by decide +kernel)]; exact ⟨rfl, rfl⟩))
    (fun os started H enc _ => commandPuts_lifted os started H enc)

theorem commandPuts_card_holds : Rows.CommandPutsCardSaid :=
  Claim7.holds_tied_plain_at .later [] [.data, .data, .data, .data, .sentinel, .sentinel, .pinned] true (true, "b1b5e92bba3915d120b03108bbb907c9bd2b3ddefee3089ae514c3228576b82b") true
    commandPuts_holds (fun _ h => by cases h) (by kernel_rfl) (fun _ h => by cases h) commandPuts_row_tie rfl ⟨rfl, rfl⟩ (by kernel_rfl) rfl
    (fun f fn hf hfn => by
      obtain rfl : f = 5 := Option.some.inj ((show Tryd.prog.funcNamed Rows.commandPutsRow.func = some 5 by kernel_rfl).symm.trans hf) |>.symm
      obtain rfl : fn = Tryd.f5 := (Option.some.inj (Tryd.func5.symm.trans hfn)).symm
      exact ⟨by kernel_rfl, fun j t ht => by
        rw [Tryd.params5] at ht
        have hm : t ∈ [54] := by simpa using Array.mem_of_getElem? ht
        have hall : ([54].all fun u => !Tryd.prog.wantsStandIn u) = true := by kernel_rfl
        exact (show Tryd.prog.wantsStandIn t = false by simpa using List.all_eq_true.1 hall t hm)⟩)
    (by kernel_rfl)
#print axioms commandPuts_card_holds
end Go.Proofs.YtdmopagkahgepaaDoor
