/- Every More is the document's, from every number on, and the list that is handed in stays: for every list of bytes. -/
import Derived.Test.YtmddjfplkifdmaaPSumMoresx
import Derived.Test.YtmddjfplkifdmaaSumPlain
namespace Go.Proofs.Ytmddjfplkifdmaa.Pure
open Go.RowKit Go.Proofs.Ytmddjfplkifdmaa.PSumMores Go.Proofs.YtmddjfplkifdmaaW.PrintWords Go.Proofs.YtmddjfplkifdmaaW.PrintLast Go.Proofs.Ytmddjfplkifdmaa.SumPlain
set_option linter.unusedVariables false
set_option linter.unusedSimpArgs false

theorem More_l (l : List Int) (hn : l.length ≤ 140737488351232) : ∀ (d k : Nat) (h : Int) (i : Nat), i + d = l.length → d < k → sum_More.l0 k h l (l.length : Int) (i : Int) = some (moreN h (l.drop i)) := by
  intro d
  induction d with
  | zero =>
    intro k h i hi hk
    obtain ⟨k, rfl⟩ : ∃ m, k = m + 1 := ⟨k - 1, by omega⟩
    simp only [sum_More.l0]
    rw [if_neg (by omega), List.drop_of_length_le (by omega)]
    rfl
  | succ d ih =>
    intro k h i hi hk
    obtain ⟨k, rfl⟩ : ∃ m, k = m + 1 := ⟨k - 1, by omega⟩
    have hlt : i < l.length := by omega
    simp only [sum_More.l0]
    rw [if_pos (by omega), if_pos (by omega), if_pos (by omega), rd_at l i hlt, wrap_up hlt (by omega)]
    simp only [sum_step.f, Option.bind_some]
    rw [ih k _ (i + 1) (by omega) (by omega), List.drop_eq_getElem_cons hlt]
    rfl
theorem More_is (k : Nat) (h : Int) (l : List Int) (hn : l.length ≤ 140737488351232) (hk : l.length < k) : sum_More.f k h l = some (moreN h l) := by
  unfold sum_More.f
  have := More_l l hn l.length k h 0 (by omega) hk
  simpa using this

theorem RMore_l (l : List Int) (hn : l.length ≤ 140737488351232) : ∀ (d k : Nat) (h : Int) (i : Nat), i + d = l.length → d < k → annexref2_More.l0 k h l (i : Int) = some (moreN h (l.drop i)) := by
  intro d
  induction d with
  | zero =>
    intro k h i hi hk
    obtain ⟨k, rfl⟩ : ∃ m, k = m + 1 := ⟨k - 1, by omega⟩
    simp only [annexref2_More.l0]
    rw [if_neg (by omega), List.drop_of_length_le (by omega)]
    rfl
  | succ d ih =>
    intro k h i hi hk
    obtain ⟨k, rfl⟩ : ∃ m, k = m + 1 := ⟨k - 1, by omega⟩
    have hlt : i < l.length := by omega
    simp only [annexref2_More.l0]
    rw [if_pos (by omega), if_pos (by omega), rd_at l i hlt, wrap_up hlt (by omega)]
    simp only [annexref2_Step.f, Option.bind_some]
    rw [ih k _ (i + 1) (by omega) (by omega), List.drop_eq_getElem_cons hlt]
    rfl
theorem RMore_is (k : Nat) (h : Int) (l : List Int) (hn : l.length ≤ 140737488351232) (hk : l.length < k) : annexref2_More.f k h l = some (moreN h l) := by
  unfold annexref2_More.f
  have := RMore_l l hn l.length k h 0 (by omega) hk
  simpa using this

theorem known_9 : annexlaw2_known.f 9 = some true := by decide +kernel
theorem known_is (k : Nat) (hk : 9 ≤ k) : annexlaw2_known.f k = some true := by
  obtain ⟨d, rfl⟩ : ∃ d, k = 9 + d := ⟨k - 9, by omega⟩
  clear hk
  induction d with
  | zero => exact known_9
  | succ d ih => exact annexlaw2_known.mono _ _ ih

theorem Bytes_l (l : List Int) (hn : l.length ≤ 140737488351232) : ∀ (d k : Nat) (i : Nat), i + d = l.length → d < k → annexref_Bytes.l0 k l (l.take i) (i : Int) = some l := by
  intro d
  induction d with
  | zero =>
    intro k i hi hk
    obtain ⟨k, rfl⟩ : ∃ m, k = m + 1 := ⟨k - 1, by omega⟩
    simp only [annexref_Bytes.l0]
    rw [if_neg (by omega), List.take_of_length_le (by omega)]
  | succ d ih =>
    intro k i hi hk
    obtain ⟨k, rfl⟩ : ∃ m, k = m + 1 := ⟨k - 1, by omega⟩
    have hlt : i < l.length := by omega
    have hl : (l.take i).length ≤ i := List.length_take_le _ _
    simp only [annexref_Bytes.l0]
    rw [if_pos (by omega), if_pos (by omega), if_pos (by omega), rd_at l i hlt, wrap_up hlt (by omega), ← List.take_succ_eq_append_getElem hlt]
    exact ih k (i + 1) (by omega) (by omega)
theorem Bytes_is (k : Nat) (l : List Int) (hn : l.length ≤ 140737488351232) (hk : l.length < k) : annexref_Bytes.f k l = some l := by
  unfold annexref_Bytes.f
  exact Bytes_l l hn l.length k 0 (by omega) hk

theorem roomy_l (l : List Int) (hn : l.length ≤ 140737488351232) : ∀ (d k : Nat) (i : Nat), i + d = 9 → d < k → annexlaw2_roomy.l0 k (l ++ marks.take i) (i : Int) = some (l ++ marks) := by
  intro d
  induction d with
  | zero =>
    intro k i hi hk
    obtain ⟨k, rfl⟩ : ∃ m, k = m + 1 := ⟨k - 1, by omega⟩
    obtain rfl : i = 9 := by omega
    simp only [annexlaw2_roomy.l0]
    rw [if_neg (by omega)]
    rfl
  | succ d ih =>
    intro k i hi hk
    obtain ⟨k, rfl⟩ : ∃ m, k = m + 1 := ⟨k - 1, by omega⟩
    have hm : i < marks.length := by show i < 9; omega
    have hl : (marks.take i).length ≤ i := List.length_take_le _ _
    have e : (wrap64 (200 + (i : Int))) % 256 = marks[i] := mark_at i hm
    simp only [annexlaw2_roomy.l0]
    rw [if_pos (by omega), if_pos (by rw [List.length_append]; omega), e, wrap_up (n := 9) (by omega) (by omega), List.append_assoc, ← List.take_succ_eq_append_getElem hm]
    exact ih k (i + 1) (by omega) (by omega)
theorem roomy_is (k : Nat) (l : List Int) (hn : l.length ≤ 140737488351232) (hk : l.length < k) (h9 : 9 < k) : annexlaw2_roomy.f k l = some (l ++ marks) := by
  unfold annexlaw2_roomy.f
  rw [Bytes_is k l hn hk, Option.bind_some]
  have := roomy_l l hn 9 k 0 (by omega) (by omega)
  simpa using this

theorem Same_l (l : List Int) (hn : l.length ≤ 140737488355328) : ∀ (d k : Nat) (i : Nat), i + d = l.length → d < k → annexref_SameBytes.l0 k l l (i : Int) = some true := by
  intro d
  induction d with
  | zero =>
    intro k i hi hk
    obtain ⟨k, rfl⟩ : ∃ m, k = m + 1 := ⟨k - 1, by omega⟩
    simp only [annexref_SameBytes.l0]
    rw [if_neg (by omega)]
  | succ d ih =>
    intro k i hi hk
    obtain ⟨k, rfl⟩ : ∃ m, k = m + 1 := ⟨k - 1, by omega⟩
    have hlt : i < l.length := by omega
    simp only [annexref_SameBytes.l0]
    rw [if_pos (by omega), if_pos (by omega), if_pos (by omega), if_pos trivial, wrap_up hlt (by omega)]
    exact ih k (i + 1) (by omega) (by omega)
theorem Same_self (k : Nat) (l : List Int) (hn : l.length ≤ 140737488355328) (hk : l.length < k) : annexref_SameBytes.f k l l = some true := by
  unfold annexref_SameBytes.f
  rw [if_pos rfl]
  exact Same_l l hn l.length k 0 (by omega) hk

theorem stays_is (k : Nat) (l : List Int) (hn : l.length ≤ 140737488351232) (hk : l.length + 9 < k) : annexlaw2_stays.f k (l ++ marks) l = some true := by
  unfold annexlaw2_stays.f
  have hm : (l ++ marks).length = l.length + 9 := by rw [List.length_append]; rfl
  rw [roomy_is k l hn (by omega) (by omega), Option.bind_some, Same_self k _ (by omega) (by omega)]
  rfl

theorem SumMores : annexlaw2_SumMores.Pure := by
  intro h l _ _ hl hw
  refine ⟨l.length + 20, ?_⟩
  have hn : l.length ≤ 140737488351232 := by omega
  have hm : (l ++ marks).length = l.length + 9 := by rw [List.length_append]; rfl
  have ht : (l ++ marks).take ((l.length : Int)).toNat = l := by simp
  unfold annexlaw2_SumMores.f
  rw [known_is _ (by omega), Option.bind_some, roomy_is _ l hn (by omega) (by omega), Option.bind_some, if_pos (by omega), if_pos (by omega), ht, More_is _ h l hn (by omega), Option.bind_some, RMore_is _ h l hn (by omega), Option.bind_some, stays_is _ l hn (by omega), Option.bind_some, if_pos rfl, if_pos rfl]

end Go.Proofs.Ytmddjfplkifdmaa.Pure
