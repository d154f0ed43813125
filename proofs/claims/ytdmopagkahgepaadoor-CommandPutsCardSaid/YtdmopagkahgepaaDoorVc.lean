/- Commands, what is parsed and what is put: plain Lean. -/
import Derived.Test.YtdmopagkahgepaaDoorUw
import Derived.Test.YtdmopagkahgepaaDoorUg
import Derived.Test.YtdmopagkahgepaaDoorVb
namespace Go.Proofs.YtdmopagkahgepaaDoor
open Go.Lib

/-- The number in a field of a command. -/
def Cmd.fld (c : Cmd) (o : Nat) : Int :=
  if o = 1 then c.id else if o = 3 then c.loan else if o = 4 then c.other else if o = 5 then c.amount else if o = 7 then c.past else if o = 8 then c.down else if o = 9 then (if c.bad then 1 else 0) else c.n
/-- The numbers that a command's line tells. -/
def numsOf (c : Cmd) : List Int := (fieldsOf c.kind).1.map (fun p => c.fld p.2) ++ (if (fieldsOf c.kind).2 then c.flows else [])
/-- The number that is set at a place. -/
def atF (f : List ((FK × Nat) × Int)) (o : Nat) : Int := match f with
  | [] => 0
  | p :: f => if p.1.2 = o then p.2 else atF f o
/-- The command of a kind and numbers. -/
def ofCmd (kind : Int) (l : List Int) : Cmd :=
  { kind := kind, id := atF ((fieldsOf kind).1.zip l) 1, ek := if kind ≤ 10 then kind else 0, loan := atF ((fieldsOf kind).1.zip l) 3, other := atF ((fieldsOf kind).1.zip l) 4, amount := atF ((fieldsOf kind).1.zip l) 5,
    flows := l.drop (fieldsOf kind).1.length, past := atF ((fieldsOf kind).1.zip l) 7, down := atF ((fieldsOf kind).1.zip l) 8, bad := atF ((fieldsOf kind).1.zip l) 9 == 1, n := atF ((fieldsOf kind).1.zip l) 10 }

theorem kinds_of {k : Int} (h : 1 ≤ k ∧ k ≤ 14) : k = 1 ∨ k = 2 ∨ k = 3 ∨ k = 4 ∨ k = 5 ∨ k = 6 ∨ k = 7 ∨ k = 8 ∨ k = 9 ∨ k = 10 ∨ k = 11 ∨ k = 12 ∨ k = 13 ∨ k = 14 := by omega
theorem nums_of {k : Int} {l : List Int} (hk : 1 ≤ k ∧ k ≤ 14) (h : ofOk k l = true) : numsOf (ofCmd k l) = l := by
  obtain rfl | rfl | rfl | rfl | rfl | rfl | rfl | rfl | rfl | rfl | rfl | rfl | rfl | rfl := kinds_of hk
  all_goals
    rcases l with _ | ⟨a, _ | ⟨b, _ | ⟨c, _ | ⟨d, _ | ⟨e, r⟩⟩⟩⟩⟩
  all_goals
    simp [ofOk, fieldsOf, okAll, okOf] at h
  all_goals
    simp [ofCmd, numsOf, fieldsOf, atF, Cmd.fld]
  all_goals
    first
      | done
      | (obtain ⟨⟨h1, h2⟩, h3 | h3⟩ := h
         · subst h3 h2
           simp
         · subst h3 h2
           simp)
theorem of_val {k : Int} {l : List Int} (hk : 1 ≤ k ∧ k ≤ 14) (h : ofOk k l = true) (fv : Value) : Value.agg ((ofCells k l).setIfInBounds 6 fv) = (ofCmd k l).val fv := by
  obtain rfl | rfl | rfl | rfl | rfl | rfl | rfl | rfl | rfl | rfl | rfl | rfl | rfl | rfl := kinds_of hk
  all_goals
    rcases l with _ | ⟨a, _ | ⟨b, _ | ⟨c, _ | ⟨d, _ | ⟨e, r⟩⟩⟩⟩⟩
  all_goals
    simp [ofOk, fieldsOf, okAll, okOf] at h
  all_goals
    simp [ofCmd, fieldsOf, atF, Cmd.val, ofCells, setAll, kindCmd, valOf]

/-- A word's kind: 0 or less: none. -/
def kindL (w : List UInt8) : Int := Lib.idxOfS (wordL.take 15) ⟨w.toArray⟩
def wordOf (k : Int) : List UInt8 := (wordL.getD k.toNat ByteArray.empty).data.toList
theorem kind_word {k : Int} (h : 1 ≤ k ∧ k ≤ 14) : kindL (wordOf k) = k := by
  obtain rfl | rfl | rfl | rfl | rfl | rfl | rfl | rfl | rfl | rfl | rfl | rfl | rfl | rfl := kinds_of h
  all_goals decide +kernel
theorem idxFrom_cases (x : ByteArray) : ∀ (zs : List ByteArray) (i : Nat), Lib.idxFromS zs x i = -1 ∨ ∃ j, j < zs.length ∧ zs.getD j ByteArray.empty = x ∧ Lib.idxFromS zs x i = ((i + j : Nat) : Int)
  | [], i => .inl rfl
  | z :: zs, i => by
    by_cases h : z = x
    · exact .inr ⟨0, by simp, by simpa using h, by simp [Lib.idxFromS, h]⟩
    · rcases idxFrom_cases x zs (i + 1) with e | ⟨j, hj, hx, e⟩
      · exact .inl (by simp [Lib.idxFromS, h, e])
      · refine .inr ⟨j + 1, by simpa using hj, by simpa using hx, ?_⟩
        simp only [Lib.idxFromS]
        rw [if_neg (by simpa using h), e]
        congr 1
        omega
theorem kind_some {w : List UInt8} (h : 0 < kindL w) : kindL w ≤ 14 ∧ wordOf (kindL w) = w := by
  unfold kindL at h ⊢
  have ht : wordL.take 15 = wordL := rfl
  rw [ht] at h ⊢
  unfold Lib.idxOfS at h ⊢
  rcases idxFrom_cases ⟨w.toArray⟩ wordL 0 with e | ⟨j, hj, hx, e⟩
  · omega
  · have hl : wordL.length = 15 := rfl
    rw [e]
    refine ⟨by omega, ?_⟩
    unfold wordOf
    rw [Int.toNat_natCast, Nat.zero_add, hx]
theorem words_blank : ∀ k : Nat, k < 15 → (32 : UInt8) ∉ (wordL.getD k ByteArray.empty).data.toList := by decide +kernel
theorem word_blank {k : Int} (h : 1 ≤ k ∧ k ≤ 14) : (32 : UInt8) ∉ wordOf k := words_blank k.toNat (by omega)

/-- What a line is parsed as. -/
def parseW (w : List UInt8) (r : List (List UInt8)) : Option Cmd := if kindL w ≤ 0 then none else match numsL r with
  | none => none
  | some l => if ofOk (kindL w) l then some (ofCmd (kindL w) l) else none
def parseL (t : List UInt8) : Option Cmd := match segs t with
  | [] => none
  | w :: r => parseW w r
/-- What a command is put as. -/
def putL (c : Cmd) : Option (List UInt8) :=
  if 1 ≤ c.kind ∧ c.kind ≤ 14 ∧ ofOk c.kind (numsOf c) = true ∧ ofCmd c.kind (numsOf c) = c then some (lineOf (wordOf c.kind) ((numsOf c).map itoa)) else none
def In64 (n : Int) : Prop := -9223372036854775808 ≤ n ∧ n ≤ 9223372036854775807
/-- All of a command's numbers are numbers of Go's. -/
structure Cmd.Fine (c : Cmd) : Prop where
  id : In64 c.id
  loan : In64 c.loan
  other : In64 c.other
  amount : In64 c.amount
  past : In64 c.past
  down : In64 c.down
  n : In64 c.n
  flows : ∀ v ∈ c.flows, In64 v
theorem Cmd.Fine.fld {c : Cmd} (h : c.Fine) (o : Nat) : In64 (c.fld o) := by
  unfold Cmd.fld
  repeat' split
  · exact h.id
  · exact h.loan
  · exact h.other
  · exact h.amount
  · exact h.past
  · exact h.down
  · unfold In64; omega
  · unfold In64; omega
  · exact h.n
theorem Cmd.Fine.nums {c : Cmd} (h : c.Fine) : ∀ v ∈ numsOf c, In64 v := by
  intro v hv
  unfold numsOf at hv
  rcases List.mem_append.1 hv with hv | hv
  · obtain ⟨p, _, rfl⟩ := List.mem_map.1 hv
    exact h.fld _
  · split at hv
    · exact h.flows v hv
    · cases hv
theorem parse_line (w : List UInt8) (r : List (List UInt8)) (hw : (32 : UInt8) ∉ w) (hr : ∀ x ∈ r, (32 : UInt8) ∉ x) : parseL (lineOf w r) = parseW w r := by
  unfold parseL
  rw [segs_lineOf r w hw hr]
theorem itoas_blank (l : List Int) : ∀ x ∈ l.map itoa, (32 : UInt8) ∉ x := by
  intro x hx
  obtain ⟨v, _, rfl⟩ := List.mem_map.1 hx
  exact itoa_blank v
/-- What is put is parsed. -/
theorem parse_put {c : Cmd} {t : List UInt8} (hc : c.Fine) (h : putL c = some t) : parseL t = some c := by
  unfold putL at h
  split at h
  · rename_i hh
    obtain ⟨h1, h2, h3, h4⟩ := hh
    cases h
    rw [parse_line _ _ (word_blank ⟨h1, h2⟩) (itoas_blank _)]
    unfold parseW
    rw [kind_word ⟨h1, h2⟩, if_neg (by omega), numsL_itoa _ hc.nums]
    simp only
    rw [if_pos h3, h4]
  · cases h
theorem atF_mem : ∀ (f : List ((FK × Nat) × Int)) (o : Nat), (∀ p ∈ f, In64 p.2) → In64 (atF f o)
  | [], _, _ => by unfold atF In64; omega
  | p :: f, o, h => by
    unfold atF
    split
    · exact h p (by simp)
    · exact atF_mem f o (fun q hq => h q (by simp [hq]))
theorem ofCmd_fine {k : Int} {l : List Int} (h : ∀ v ∈ l, In64 v) : (ofCmd k l).Fine := by
  have hz : ∀ p ∈ (fieldsOf k).1.zip l, In64 p.2 := fun p hp => h p.2 (List.of_mem_zip hp).2
  exact ⟨atF_mem _ _ hz, atF_mem _ _ hz, atF_mem _ _ hz, atF_mem _ _ hz, atF_mem _ _ hz, atF_mem _ _ hz, atF_mem _ _ hz, fun v hv => h v (List.mem_of_mem_drop hv)⟩
theorem ofOk_flows {k : Int} {l : List Int} (h : ofOk k l = true) : (ofCmd k l).flows.length ≤ 600 := by
  unfold ofOk at h
  simp only [Bool.and_eq_true, Bool.not_eq_true', decide_eq_false_iff_not] at h
  show (l.drop _).length ≤ 600
  rw [List.length_drop]
  omega
/-- What is parsed is put as it was. -/
theorem put_parse {t : List UInt8} {c : Cmd} (h : parseL t = some c) : putL c = some t ∧ c.Fine ∧ c.flows.length ≤ 600 := by
  obtain ⟨w, r, e, ht, hw, hr⟩ := segs_line t
  unfold parseL at h
  rw [e] at h
  simp only at h
  unfold parseW at h
  split at h
  · cases h
  · rename_i hk
    obtain ⟨hk2, hwk⟩ := kind_some (by omega : 0 < kindL w)
    split at h
    · cases h
    · rename_i l hl
      split at h
      · rename_i hok
        cases h
        obtain ⟨hr2, hfit⟩ := numsL_some hl
        have hn := nums_of ⟨by omega, hk2⟩ hok
        refine ⟨?_, ofCmd_fine hfit, ofOk_flows hok⟩
        unfold putL
        have hkk : (ofCmd (kindL w) l).kind = kindL w := rfl
        rw [hkk, hn, if_pos ⟨by omega, hk2, hok, rfl⟩, hwk, ← hr2, ← ht]
      · cases h
end Go.Proofs.YtdmopagkahgepaaDoor
