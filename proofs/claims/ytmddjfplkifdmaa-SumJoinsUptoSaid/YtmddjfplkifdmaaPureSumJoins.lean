/- Bytes cut in two anywhere have the sum that they have in one piece, forwards and backwards: for any number and any two lists of bytes of at most 1048576 bytes each. -/
import Derived.Test.YtmddjfplkifdmaaPSumJoinsx
import Derived.Test.YtmddjfplkifdmaaSumPlain
namespace Go.Proofs.Ytmddjfplkifdmaa.Pure
open Go.RowKit Go.Proofs.Ytmddjfplkifdmaa.PSumJoins Go.Proofs.YtmddjfplkifdmaaW.PrintWords Go.Proofs.YtmddjfplkifdmaaW.PrintLast Go.Proofs.Ytmddjfplkifdmaa.SumPlain
set_option linter.unusedVariables false
set_option linter.unusedSimpArgs false

theorem More_l (l : List Int) (hn : l.length ≤ 140737488351232) : ∀ (d k : Nat) (h : Int) (i : Nat), i + d = l.length → d < k → sum_More.l0 k h l (l.length : Int) (i : Int) = some (moreN h (l.drop i)) := by
  intro d
  induction d with
  | zero =>
    intro k h i hi hk
    obtain ⟨k, rfl⟩ : ∃ m, k = m + 1 := ⟨k - 1, by omega⟩
    simp only [sum_More.l0]
    rw [if_neg (by omega), List.drop_of_length_le (by omega)]
    rfl
  | succ d ih =>
    intro k h i hi hk
    obtain ⟨k, rfl⟩ : ∃ m, k = m + 1 := ⟨k - 1, by omega⟩
    have hlt : i < l.length := by omega
    simp only [sum_More.l0]
    rw [if_pos (by omega), if_pos (by omega), if_pos (by omega), rd_at l i hlt, wrap_up hlt (by omega)]
    simp only [sum_step.f, Option.bind_some]
    rw [ih k _ (i + 1) (by omega) (by omega), List.drop_eq_getElem_cons hlt]
    rfl
theorem More_is (k : Nat) (h : Int) (l : List Int) (hn : l.length ≤ 140737488351232) (hk : l.length < k) : sum_More.f k h l = some (moreN h l) := by
  unfold sum_More.f
  have := More_l l hn l.length k h 0 (by omega) hk
  simpa using this

theorem Sum_is (k : Nat) (l : List Int) (hn : l.length ≤ 140737488351232) (hk : l.length < k) : sum_Sum.f k l = some (moreN 14695981039346656037 l) := by
  unfold sum_Sum.f
  rw [More_is k _ l hn hk]
  rfl

theorem inverse_8 : sum_inverse.f 8 = some 14886173955864302971 := by decide +kernel
theorem inverse_is (k : Nat) (hk : 8 ≤ k) : sum_inverse.f k = some 14886173955864302971 := by
  obtain ⟨d, rfl⟩ : ∃ d, k = 8 + d := ⟨k - 8, by omega⟩
  clear hk
  induction d with
  | zero => exact inverse_8
  | succ d ih => exact sum_inverse.mono _ _ ih
theorem Back_l (l : List Int) (hn : l.length ≤ 140737488351232) : ∀ (i k : Nat) (h : Int), i ≤ l.length → i < k → sum_Back.l0 k h l 14886173955864302971 ((i : Int) - 1) = some (backsN h (l.take i)) := by
  intro i
  induction i with
  | zero =>
    intro k h hi hk
    obtain ⟨k, rfl⟩ : ∃ m, k = m + 1 := ⟨k - 1, by omega⟩
    simp only [sum_Back.l0]
    rw [if_neg (by omega)]
    rfl
  | succ i ih =>
    intro k h hi hk
    obtain ⟨k, rfl⟩ : ∃ m, k = m + 1 := ⟨k - 1, by omega⟩
    have hlt : i < l.length := by omega
    have e : ((i + 1 : Nat) : Int) - 1 = (i : Int) := by omega
    simp only [sum_Back.l0, e]
    rw [if_pos (by omega), if_pos (by omega), if_pos (by omega), rd_at l i hlt, wrap_down (n := l.length) (by omega) (by omega)]
    simp only [sum_back.f, Option.bind_some]
    rw [ih k _ (by omega) (by omega), List.take_succ_eq_append_getElem hlt, backsN_append]
    rfl
theorem Back_is (k : Nat) (h : Int) (l : List Int) (hn : l.length ≤ 140737488351232) (hk : l.length < k) (h5 : 8 ≤ k) : sum_Back.f k h l = some (backsN h l) := by
  unfold sum_Back.f
  rw [inverse_is k h5, Option.bind_some, wrap_down (Nat.le_refl _) (by omega), Back_l l hn l.length k h (Nat.le_refl _) hk, List.take_length]

theorem known_9 : annexlaw2_known.f 9 = some true := by decide +kernel
theorem known_is (k : Nat) (hk : 9 ≤ k) : annexlaw2_known.f k = some true := by
  obtain ⟨d, rfl⟩ : ∃ d, k = 9 + d := ⟨k - 9, by omega⟩
  clear hk
  induction d with
  | zero => exact known_9
  | succ d ih => exact annexlaw2_known.mono _ _ ih

theorem Bytes_l (l : List Int) (hn : l.length ≤ 140737488351232) : ∀ (d k : Nat) (i : Nat), i + d = l.length → d < k → annexref_Bytes.l0 k l (l.take i) (i : Int) = some l := by
  intro d
  induction d with
  | zero =>
    intro k i hi hk
    obtain ⟨k, rfl⟩ : ∃ m, k = m + 1 := ⟨k - 1, by omega⟩
    simp only [annexref_Bytes.l0]
    rw [if_neg (by omega), List.take_of_length_le (by omega)]
  | succ d ih =>
    intro k i hi hk
    obtain ⟨k, rfl⟩ : ∃ m, k = m + 1 := ⟨k - 1, by omega⟩
    have hlt : i < l.length := by omega
    have hl : (l.take i).length ≤ i := List.length_take_le _ _
    simp only [annexref_Bytes.l0]
    rw [if_pos (by omega), if_pos (by omega), if_pos (by omega), rd_at l i hlt, wrap_up hlt (by omega), ← List.take_succ_eq_append_getElem hlt]
    exact ih k (i + 1) (by omega) (by omega)
theorem Bytes_is (k : Nat) (l : List Int) (hn : l.length ≤ 140737488351232) (hk : l.length < k) : annexref_Bytes.f k l = some l := by
  unfold annexref_Bytes.f
  exact Bytes_l l hn l.length k 0 (by omega) hk

theorem joined_l (a l : List Int) (ha : a.length ≤ 140737488351232) (hn : l.length ≤ 140737488351232) (hal : a.length + l.length ≤ 140737488355328) : ∀ (d k : Nat) (i : Nat), i + d = l.length → d < k → annexlaw2_joined.l0 k l (a ++ l.take i) (i : Int) = some (a ++ l) := by
  intro d
  induction d with
  | zero =>
    intro k i hi hk
    obtain ⟨k, rfl⟩ : ∃ m, k = m + 1 := ⟨k - 1, by omega⟩
    simp only [annexlaw2_joined.l0]
    rw [if_neg (by omega), List.take_of_length_le (by omega)]
  | succ d ih =>
    intro k i hi hk
    obtain ⟨k, rfl⟩ : ∃ m, k = m + 1 := ⟨k - 1, by omega⟩
    have hlt : i < l.length := by omega
    have hl : (l.take i).length ≤ i := List.length_take_le _ _
    simp only [annexlaw2_joined.l0]
    rw [if_pos (by omega), if_pos (by omega), if_pos (by rw [List.length_append]; omega), rd_at l i hlt, wrap_up hlt (by omega), List.append_assoc, ← List.take_succ_eq_append_getElem hlt]
    exact ih k (i + 1) (by omega) (by omega)
theorem joined_is (k : Nat) (a l : List Int) (ha : a.length ≤ 140737488351232) (hn : l.length ≤ 140737488351232) (hal : a.length + l.length ≤ 140737488355328) (hk : a.length < k) (hk2 : l.length < k) : annexlaw2_joined.f k a l = some (a ++ l) := by
  unfold annexlaw2_joined.f
  rw [Bytes_is k a ha hk, Option.bind_some]
  have := joined_l a l ha hn hal l.length k 0 (by omega) hk2
  simpa using this

theorem SumJoins_small (h : Int) (a b : List Int) (ha : a.length ≤ 1048576) (hb : b.length ≤ 1048576) : ∃ k, annexlaw2_SumJoins.f k h a b = some true := by
  refine ⟨a.length + b.length + 20, ?_⟩
  have hn : (a ++ b).length = a.length + b.length := List.length_append
  unfold annexlaw2_SumJoins.f
  rw [known_is _ (by omega), Option.bind_some, More_is _ h a (by omega) (by omega), Option.bind_some, More_is _ _ b (by omega) (by omega), Option.bind_some,
    joined_is _ a b (by omega) (by omega) (by omega) (by omega) (by omega), Option.bind_some, More_is _ h _ (by omega) (by omega), Option.bind_some,
    Back_is _ h b (by omega) (by omega) (by omega), Option.bind_some, Back_is _ _ a (by omega) (by omega) (by omega), Option.bind_some, Option.bind_some, Back_is _ h _ (by omega) (by omega) (by omega), Option.bind_some,
    Option.bind_some, Sum_is _ _ (by omega) (by omega), Option.bind_some, Sum_is _ a (by omega) (by omega), Option.bind_some, More_is _ _ b (by omega) (by omega), Option.bind_some,
    if_pos rfl, if_pos (moreN_append h a b).symm, if_pos (backsN_append h a b).symm, moreN_append]
  simp

end Go.Proofs.Ytmddjfplkifdmaa.Pure
