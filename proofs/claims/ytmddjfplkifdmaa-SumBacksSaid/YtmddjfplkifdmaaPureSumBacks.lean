/- Every Back is the document's, from every number on, and the list that is handed in stays: for every list of bytes. -/
import Derived.Test.YtmddjfplkifdmaaPSumBacksx
import Derived.Test.YtmddjfplkifdmaaSumPlain
namespace Go.Proofs.Ytmddjfplkifdmaa.Pure
open Go.RowKit Go.Proofs.Ytmddjfplkifdmaa.PSumBacks Go.Proofs.YtmddjfplkifdmaaW.PrintWords Go.Proofs.YtmddjfplkifdmaaW.PrintLast Go.Proofs.Ytmddjfplkifdmaa.SumPlain
set_option linter.unusedVariables false
set_option linter.unusedSimpArgs false

theorem inverse_8 : sum_inverse.f 8 = some 14886173955864302971 := by decide +kernel
theorem inverse_is (k : Nat) (hk : 8 ≤ k) : sum_inverse.f k = some 14886173955864302971 := by
  obtain ⟨d, rfl⟩ : ∃ d, k = 8 + d := ⟨k - 8, by omega⟩
  clear hk
  induction d with
  | zero => exact inverse_8
  | succ d ih => exact sum_inverse.mono _ _ ih
theorem Back_l (l : List Int) (hn : l.length ≤ 140737488351232) : ∀ (i k : Nat) (h : Int), i ≤ l.length → i < k → sum_Back.l0 k h l 14886173955864302971 ((i : Int) - 1) = some (backsN h (l.take i)) := by
  intro i
  induction i with
  | zero =>
    intro k h hi hk
    obtain ⟨k, rfl⟩ : ∃ m, k = m + 1 := ⟨k - 1, by omega⟩
    simp only [sum_Back.l0]
    rw [if_neg (by omega)]
    rfl
  | succ i ih =>
    intro k h hi hk
    obtain ⟨k, rfl⟩ : ∃ m, k = m + 1 := ⟨k - 1, by omega⟩
    have hlt : i < l.length := by omega
    have e : ((i + 1 : Nat) : Int) - 1 = (i : Int) := by omega
    simp only [sum_Back.l0, e]
    rw [if_pos (by omega), if_pos (by omega), if_pos (by omega), rd_at l i hlt, wrap_down (n := l.length) (by omega) (by omega)]
    simp only [sum_back.f, Option.bind_some]
    rw [ih k _ (by omega) (by omega), List.take_succ_eq_append_getElem hlt, backsN_append]
    rfl
theorem Back_is (k : Nat) (h : Int) (l : List Int) (hn : l.length ≤ 140737488351232) (hk : l.length < k) (h5 : 8 ≤ k) : sum_Back.f k h l = some (backsN h l) := by
  unfold sum_Back.f
  rw [inverse_is k h5, Option.bind_some, wrap_down (Nat.le_refl _) (by omega), Back_l l hn l.length k h (Nat.le_refl _) hk, List.take_length]

theorem RBack_l (l : List Int) (hn : l.length ≤ 140737488351232) : ∀ (i k : Nat) (h : Int), i ≤ l.length → i < k → annexref2_Back.l0 k h l ((i : Int) - 1) = some (backsN h (l.take i)) := by
  intro i
  induction i with
  | zero =>
    intro k h hi hk
    obtain ⟨k, rfl⟩ : ∃ m, k = m + 1 := ⟨k - 1, by omega⟩
    simp only [annexref2_Back.l0]
    rw [if_neg (by omega)]
    rfl
  | succ i ih =>
    intro k h hi hk
    obtain ⟨k, rfl⟩ : ∃ m, k = m + 1 := ⟨k - 1, by omega⟩
    have hlt : i < l.length := by omega
    have e : ((i + 1 : Nat) : Int) - 1 = (i : Int) := by omega
    simp only [annexref2_Back.l0, e]
    rw [if_pos (by omega), if_pos (by omega), if_pos (by omega), rd_at l i hlt, wrap_down (n := l.length) (by omega) (by omega)]
    rw [ih k _ (by omega) (by omega), List.take_succ_eq_append_getElem hlt, backsN_append]
    rfl
theorem RBack_is (k : Nat) (h : Int) (l : List Int) (hn : l.length ≤ 140737488351232) (hk : l.length < k) : annexref2_Back.f k h l = some (backsN h l) := by
  unfold annexref2_Back.f
  rw [wrap_down (Nat.le_refl _) (by omega), RBack_l l hn l.length k h (Nat.le_refl _) hk, List.take_length]

theorem known_9 : annexlaw2_known.f 9 = some true := by decide +kernel
theorem known_is (k : Nat) (hk : 9 ≤ k) : annexlaw2_known.f k = some true := by
  obtain ⟨d, rfl⟩ : ∃ d, k = 9 + d := ⟨k - 9, by omega⟩
  clear hk
  induction d with
  | zero => exact known_9
  | succ d ih => exact annexlaw2_known.mono _ _ ih

theorem Bytes_l (l : List Int) (hn : l.length ≤ 140737488351232) : ∀ (d k : Nat) (i : Nat), i + d = l.length → d < k → annexref_Bytes.l0 k l (l.take i) (i : Int) = some l := by
  intro d
  induction d with
  | zero =>
    intro k i hi hk
    obtain ⟨k, rfl⟩ : ∃ m, k = m + 1 := ⟨k - 1, by omega⟩
    simp only [annexref_Bytes.l0]
    rw [if_neg (by omega), List.take_of_length_le (by omega)]
  | succ d ih =>
    intro k i hi hk
    obtain ⟨k, rfl⟩ : ∃ m, k = m + 1 := ⟨k - 1, by omega⟩
    have hlt : i < l.length := by omega
    have hl : (l.take i).length ≤ i := List.length_take_le _ _
    simp only [annexref_Bytes.l0]
    rw [if_pos (by omega), if_pos (by omega), if_pos (by omega), rd_at l i hlt, wrap_up hlt (by omega), ← List.take_succ_eq_append_getElem hlt]
    exact ih k (i + 1) (by omega) (by omega)
theorem Bytes_is (k : Nat) (l : List Int) (hn : l.length ≤ 140737488351232) (hk : l.length < k) : annexref_Bytes.f k l = some l := by
  unfold annexref_Bytes.f
  exact Bytes_l l hn l.length k 0 (by omega) hk

theorem roomy_l (l : List Int) (hn : l.length ≤ 140737488351232) : ∀ (d k : Nat) (i : Nat), i + d = 9 → d < k → annexlaw2_roomy.l0 k (l ++ marks.take i) (i : Int) = some (l ++ marks) := by
  intro d
  induction d with
  | zero =>
    intro k i hi hk
    obtain ⟨k, rfl⟩ : ∃ m, k = m + 1 := ⟨k - 1, by omega⟩
    obtain rfl : i = 9 := by omega
    simp only [annexlaw2_roomy.l0]
    rw [if_neg (by omega)]
    rfl
  | succ d ih =>
    intro k i hi hk
    obtain ⟨k, rfl⟩ : ∃ m, k = m + 1 := ⟨k - 1, by omega⟩
    have hm : i < marks.length := by show i < 9; omega
    have hl : (marks.take i).length ≤ i := List.length_take_le _ _
    have e : (wrap64 (200 + (i : Int))) % 256 = marks[i] := mark_at i hm
    simp only [annexlaw2_roomy.l0]
    rw [if_pos (by omega), if_pos (by rw [List.length_append]; omega), e, wrap_up (n := 9) (by omega) (by omega), List.append_assoc, ← List.take_succ_eq_append_getElem hm]
    exact ih k (i + 1) (by omega) (by omega)
theorem roomy_is (k : Nat) (l : List Int) (hn : l.length ≤ 140737488351232) (hk : l.length < k) (h9 : 9 < k) : annexlaw2_roomy.f k l = some (l ++ marks) := by
  unfold annexlaw2_roomy.f
  rw [Bytes_is k l hn hk, Option.bind_some]
  have := roomy_l l hn 9 k 0 (by omega) (by omega)
  simpa using this

theorem Same_l (l : List Int) (hn : l.length ≤ 140737488355328) : ∀ (d k : Nat) (i : Nat), i + d = l.length → d < k → annexref_SameBytes.l0 k l l (i : Int) = some true := by
  intro d
  induction d with
  | zero =>
    intro k i hi hk
    obtain ⟨k, rfl⟩ : ∃ m, k = m + 1 := ⟨k - 1, by omega⟩
    simp only [annexref_SameBytes.l0]
    rw [if_neg (by omega)]
  | succ d ih =>
    intro k i hi hk
    obtain ⟨k, rfl⟩ : ∃ m, k = m + 1 := ⟨k - 1, by omega⟩
    have hlt : i < l.length := by omega
    simp only [annexref_SameBytes.l0]
    rw [if_pos (by omega), if_pos (by omega), if_pos (by omega), if_pos trivial, wrap_up hlt (by omega)]
    exact ih k (i + 1) (by omega) (by omega)
theorem Same_self (k : Nat) (l : List Int) (hn : l.length ≤ 140737488355328) (hk : l.length < k) : annexref_SameBytes.f k l l = some true := by
  unfold annexref_SameBytes.f
  rw [if_pos rfl]
  exact Same_l l hn l.length k 0 (by omega) hk

theorem stays_is (k : Nat) (l : List Int) (hn : l.length ≤ 140737488351232) (hk : l.length + 9 < k) : annexlaw2_stays.f k (l ++ marks) l = some true := by
  unfold annexlaw2_stays.f
  have hm : (l ++ marks).length = l.length + 9 := by rw [List.length_append]; rfl
  rw [roomy_is k l hn (by omega) (by omega), Option.bind_some, Same_self k _ (by omega) (by omega)]
  rfl

theorem SumBacks : annexlaw2_SumBacks.Pure := by
  intro h l _ _ hl hw
  refine ⟨l.length + 20, ?_⟩
  have hn : l.length ≤ 140737488351232 := by omega
  have hm : (l ++ marks).length = l.length + 9 := by rw [List.length_append]; rfl
  have ht : (l ++ marks).take ((l.length : Int)).toNat = l := by simp
  unfold annexlaw2_SumBacks.f
  rw [known_is _ (by omega), Option.bind_some, roomy_is _ l hn (by omega) (by omega), Option.bind_some, if_pos (by omega), if_pos (by omega), ht, Back_is _ h l hn (by omega) (by omega), Option.bind_some, RBack_is _ h l hn (by omega), Option.bind_some, stays_is _ l hn (by omega), Option.bind_some, if_pos rfl, if_pos rfl]

end Go.Proofs.Ytmddjfplkifdmaa.Pure
