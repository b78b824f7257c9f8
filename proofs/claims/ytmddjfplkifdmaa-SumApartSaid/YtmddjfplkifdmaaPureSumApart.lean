/- More and Back keep unlike numbers unlike: for any two numbers and every list of bytes. -/
import Derived.Test.YtmddjfplkifdmaaPSumApartx
import Derived.Test.YtmddjfplkifdmaaSumPlain
namespace Go.Proofs.Ytmddjfplkifdmaa.Pure
open Go.RowKit Go.Proofs.Ytmddjfplkifdmaa.PSumApart Go.Proofs.YtmddjfplkifdmaaW.PrintWords Go.Proofs.YtmddjfplkifdmaaW.PrintLast Go.Proofs.Ytmddjfplkifdmaa.SumPlain
set_option linter.unusedVariables false
set_option linter.unusedSimpArgs false

theorem More_l (l : List Int) (hn : l.length ≤ 140737488351232) : ∀ (d k : Nat) (h : Int) (i : Nat), i + d = l.length → d < k → sum_More.l0 k h l (l.length : Int) (i : Int) = some (moreN h (l.drop i)) := by
  intro d
  induction d with
  | zero =>
    intro k h i hi hk
    obtain ⟨k, rfl⟩ : ∃ m, k = m + 1 := ⟨k - 1, by omega⟩
    simp only [sum_More.l0]
    rw [if_neg (by omega), List.drop_of_length_le (by omega)]
    rfl
  | succ d ih =>
    intro k h i hi hk
    obtain ⟨k, rfl⟩ : ∃ m, k = m + 1 := ⟨k - 1, by omega⟩
    have hlt : i < l.length := by omega
    simp only [sum_More.l0]
    rw [if_pos (by omega), if_pos (by omega), if_pos (by omega), rd_at l i hlt, wrap_up hlt (by omega)]
    simp only [sum_step.f, Option.bind_some]
    rw [ih k _ (i + 1) (by omega) (by omega), List.drop_eq_getElem_cons hlt]
    rfl
theorem More_is (k : Nat) (h : Int) (l : List Int) (hn : l.length ≤ 140737488351232) (hk : l.length < k) : sum_More.f k h l = some (moreN h l) := by
  unfold sum_More.f
  have := More_l l hn l.length k h 0 (by omega) hk
  simpa using this

theorem inverse_8 : sum_inverse.f 8 = some 14886173955864302971 := by decide +kernel
theorem inverse_is (k : Nat) (hk : 8 ≤ k) : sum_inverse.f k = some 14886173955864302971 := by
  obtain ⟨d, rfl⟩ : ∃ d, k = 8 + d := ⟨k - 8, by omega⟩
  clear hk
  induction d with
  | zero => exact inverse_8
  | succ d ih => exact sum_inverse.mono _ _ ih
theorem Back_l (l : List Int) (hn : l.length ≤ 140737488351232) : ∀ (i k : Nat) (h : Int), i ≤ l.length → i < k → sum_Back.l0 k h l 14886173955864302971 ((i : Int) - 1) = some (backsN h (l.take i)) := by
  intro i
  induction i with
  | zero =>
    intro k h hi hk
    obtain ⟨k, rfl⟩ : ∃ m, k = m + 1 := ⟨k - 1, by omega⟩
    simp only [sum_Back.l0]
    rw [if_neg (by omega)]
    rfl
  | succ i ih =>
    intro k h hi hk
    obtain ⟨k, rfl⟩ : ∃ m, k = m + 1 := ⟨k - 1, by omega⟩
    have hlt : i < l.length := by omega
    have e : ((i + 1 : Nat) : Int) - 1 = (i : Int) := by omega
    simp only [sum_Back.l0, e]
    rw [if_pos (by omega), if_pos (by omega), if_pos (by omega), rd_at l i hlt, wrap_down (n := l.length) (by omega) (by omega)]
    simp only [sum_back.f, Option.bind_some]
    rw [ih k _ (by omega) (by omega), List.take_succ_eq_append_getElem hlt, backsN_append]
    rfl
theorem Back_is (k : Nat) (h : Int) (l : List Int) (hn : l.length ≤ 140737488351232) (hk : l.length < k) (h5 : 8 ≤ k) : sum_Back.f k h l = some (backsN h l) := by
  unfold sum_Back.f
  rw [inverse_is k h5, Option.bind_some, wrap_down (Nat.le_refl _) (by omega), Back_l l hn l.length k h (Nat.le_refl _) hk, List.take_length]

theorem known_9 : annexlaw2_known.f 9 = some true := by decide +kernel
theorem known_is (k : Nat) (hk : 9 ≤ k) : annexlaw2_known.f k = some true := by
  obtain ⟨d, rfl⟩ : ∃ d, k = 9 + d := ⟨k - 9, by omega⟩
  clear hk
  induction d with
  | zero => exact known_9
  | succ d ih => exact annexlaw2_known.mono _ _ ih

theorem SumApart : annexlaw2_SumApart.Pure := by
  intro g h l hg hh _ hl hw
  refine ⟨l.length + 20, ?_⟩
  have hn : l.length ≤ 140737488351232 := by omega
  obtain ⟨g0, g1⟩ := wf_range hg
  obtain ⟨h0, h1⟩ := wf_range hh
  have e1 : (moreN g l == moreN h l) = (g == h) := by rw [Bool.eq_iff_iff, beq_iff_eq, beq_iff_eq]; exact moreN_inj l g h g0 g1 h0 h1
  have e2 : (backsN g l == backsN h l) = (g == h) := by rw [Bool.eq_iff_iff, beq_iff_eq, beq_iff_eq]; exact backsN_inj l g h g0 g1 h0 h1
  unfold annexlaw2_SumApart.f
  rw [known_is _ (by omega), Option.bind_some, More_is _ g l hn (by omega), Option.bind_some, More_is _ h l hn (by omega), Option.bind_some, Back_is _ g l hn (by omega) (by omega), Option.bind_some, Back_is _ h l hn (by omega) (by omega), Option.bind_some, if_pos rfl, e1, e2, if_pos (by simp)]
  simp

end Go.Proofs.Ytmddjfplkifdmaa.Pure
