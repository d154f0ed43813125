/- For every input lombardlaw24.CommandParses answers true, and its argument reads as it did: the command of any line, or the error, is the document's. Conditions: none but those of the tied card (the tables that it lists read as the program lays them). -/
import Derived.Test.YtdmopagkahgepaaDoorUp
import Derived.Test.YtdmopagkahgepaaDoorXm
import Derived.Test.YtdmopagkahgepaaDoorTie
import Derived.Test.YtdmopagkahgepaaDoorCards
import Derived.SevenTiedAt
import Derived.Lay
namespace Go.Proofs.YtdmopagkahgepaaDoor
open Go.ChangeShapes Go.WideShapes Go.ChangeAt Go.WideMaps Go.WideElems Go.RowKit
open Go.ChangeMaps (open_string shut_string)

def laidP : List (String × DataW Unit) := Rows.commandParsesRow.laid
theorem laidP_pow : laidP.filter (fun x => x.1 == "internal/strconv.uint64pow10") = [("internal/strconv.uint64pow10", Lib.tabData .u64 Lib.pow10Tab)] := by kernel_rfl
theorem laidP_syn : laidP.filter (fun x => x.1 == "strconv.ErrSyntax") = [("strconv.ErrSyntax", .iface "*errors.errorString" (.ptr (.agg [.lit (.string [105, 110, 118, 97, 108, 105, 100, 32, 115, 121, 110, 116, 97, 120])])))] := by kernel_rfl
theorem laidP_rng : laidP.filter (fun x => x.1 == "strconv.ErrRange") = [("strconv.ErrRange", .iface "*errors.errorString" (.ptr (.agg [.lit (.string [118, 97, 108, 117, 101, 32, 111, 117, 116, 32, 111, 102, 32, 114, 97, 110, 103, 101])])))] := by kernel_rfl
theorem laidP_all : (laidP.all fun x => x.2.handleName?.isNone) = true := by kernel_rfl
theorem lay_of_laidP {W : World} (hsh : W.ShapedOpen Tryd.prog) (h : laidMetH Tryd.prog laidP W) : Lay W := by
  rw [MakeChecks.laidMetH_plain _ _ _ laidP_all] at h
  have h1 := h.filter (fun x => x.1 == "internal/strconv.uint64pow10")
  rw [laidP_pow] at h1
  have h2 := h.filter (fun x => x.1 == "strconv.ErrSyntax")
  rw [laidP_syn] at h2
  have h3 := h.filter (fun x => x.1 == "strconv.ErrRange")
  rw [laidP_rng] at h3
  obtain ⟨a0, s0, v0, _⟩ := laid_sentinel h2 gES tES Tryd.underlying96 row223 Tryd.underlying223 Tryd.underlying225 rfl rfl Tryd.underlying9 cells225' cells9'
  obtain ⟨a1, s1, v1, _⟩ := laid_sentinel h3 gER tER Tryd.underlying96 row223 Tryd.underlying223 Tryd.underlying225 rfl rfl Tryd.underlying9 cells225' cells9'
  exact lay_of hsh (Lib.tabIs_of_head gPow tPow Tryd.underlying209 Tryd.underlying141 cells141' cells209' h1) ⟨⟨_, _, v0⟩, _, _, v1⟩

set_option maxRecDepth 100000 in
set_option maxHeartbeats 1000000 in
theorem commandParses_lifted (os : Os) (started : os.Started) (H : Type) (enc : TypeId × Value → H) :
    ReturnsInHanded {} Tryd.checked os 4 .any (fun w args => (Rows.commandParsesSpec.pre enc Tryd.prog Tryd.f4 [] false w args ∧ laidMetH Tryd.prog laidP w) ∧ sizedMet enc Tryd.prog Tryd.f4 (OpenSpec.ofChange Rows.commandParsesSpec) false w args)
      (Rows.commandParsesSpec.post enc Tryd.prog Tryd.f4 false true false false) := by
  refine lifted_shaped (C := Tryd.checked) (X := fun w _ => laidMetH Tryd.prog laidP w) (fun _ _ _ hh h => h.of_heap hh) own' started (by kernel_rfl) Tryd.func4
    (ChangeSpec.witness_shaped (enc := enc) (C := Tryd.checked) (os := os) (X := fun w _ => laidMetH Tryd.prog laidP w) false (World.laidAll Tryd.prog os laidP) #[.string ⟨#[]⟩] 8 (World.laidAll_os _ _ _)
      (World.shaped_of_ZipB (by kernel_rfl) (by kernel_rfl)) (by kernel_rfl) (by kernel_rfl) (by kernel_rfl)
      (by rw [MakeChecks.laidMetH_plain _ _ _ laidP_all]; exact laidMet_laidAll _ (by kernel_rfl) (by kernel_rfl))) ?_
  intro W base args ds gs before hval0 hW hL hsh
  have hval : ∀ (j : Nat) t v, Tryd.f4.params[j]? = some t → args[j]? = some v → Value.okWide Tryd.prog W .any base t v := hval0
  have hW' := hW
  obtain ⟨p, q, hA0, hV, rfl, hfz, hnd⟩ := hW
  have hA : DataW.TrodAll enc Tryd.prog W 0 (fun _ => true) true Tryd.f4.params.toList args.toList ds p := hA0
  rw [Tryd.params4] at hA hval
  obtain ⟨v0, d0, rfl, rfl, h0⟩ := trodAll_one hA
  obtain ⟨rfl, rfl⟩ := trodVars_none hV
  obtain ⟨s, rfl, rfl, rfl, ws⟩ := open_string Tryd.underlying9 (hval 0 9 v0 rfl rfl) h0
  have hLay := lay_of_laidP hsh hL
  clear hA0 hval0
  refine (parses_any s W ws hLay).mono fun e W' ⟨he, hb⟩ => ?_
  subst he
  have h2 : DataW.TrodAll enc Tryd.prog W' 0 (fun b => decide (b < W.heap.size)) true [9] _ _ [] := trodAll_mk1 (shut_string Tryd.underlying9 ws)
  exact ⟨_, rfl, ⟨_, _, _, [], _, [], hW', trodAll_mk1 (shut_bool Tryd.underlying4 _), h2, rfl, hb.frame _, fun h => by cases h⟩⟩

theorem commandParses_holds : Rows.CommandParsesSaid :=
  OpenClaim.holds_of_wide 4 Tryd.f4 rfl rfl rfl rfl rfl rfl rfl ⟨rfl, rfl, rfl, rfl, rfl⟩ rfl rfl rfl rfl rfl (by kernel_rfl) Tryd.func4 (by kernel_rfl)
    (of_decide_eq_true (by kernel_rfl)) (by unfold Func.isWrapper; first | (rw [if_pos (by decide +kernel)]; kernel_rfl) | (rw [if_neg (by decide +kernel)]; exact ⟨rfl, rfl⟩))
    (fun os started H enc _ => commandParses_lifted os started H enc)

theorem commandParses_card_holds : Rows.CommandParsesCardSaid :=
  Claim7.holds_tied_plain_at .later [] [.data, .data, .data, .data, .sentinel, .sentinel, .pinned] true (true, "b1b5e92bba3915d120b03108bbb907c9bd2b3ddefee3089ae514c3228576b82b") true
    commandParses_holds (fun _ h => by cases h) (by kernel_rfl) (fun _ h => by cases h) commandParses_row_tie rfl ⟨rfl, rfl⟩ (by kernel_rfl) rfl
    (fun f fn hf hfn => by
      obtain rfl : f = 4 := Option.some.inj ((show Tryd.prog.funcNamed Rows.commandParsesRow.func = some 4 by kernel_rfl).symm.trans hf) |>.symm
      obtain rfl : fn = Tryd.f4 := (Option.some.inj (Tryd.func4.symm.trans hfn)).symm
      exact ⟨by kernel_rfl, fun j t ht => by
        rw [Tryd.params4] at ht
        have hm : t ∈ [9] := by simpa using Array.mem_of_getElem? ht
        have hall : ([9].all fun u => !Tryd.prog.wantsStandIn u) = true := by kernel_rfl
        exact (show Tryd.prog.wantsStandIn t = false by simpa using List.all_eq_true.1 hall t hm)⟩)
    (by kernel_rfl)
#print axioms commandParses_card_holds
end Go.Proofs.YtdmopagkahgepaaDoor
