/- What the calls that SumPlace makes come to. -/
import Derived.Test.YtmddjfplkifdmaaQSumPlacex2
import Derived.Test.YtmddjfplkifdmaaSumPlain
import Derived.Test.YtmddjfplkifdmaaMendPlain
namespace Go.Proofs.Ytmddjfplkifdmaa.Pure
open Go.RowKit Go.Proofs.Ytmddjfplkifdmaa.QSumPlace Go.Proofs.YtmddjfplkifdmaaW.PrintWords Go.Proofs.YtmddjfplkifdmaaW.PrintLast Go.Proofs.Ytmddjfplkifdmaa.SumPlain
set_option linter.unusedVariables false
set_option linter.unusedSimpArgs false

theorem More_l (l : List Int) (hn : l.length ≤ 140737488351232) : ∀ (d k : Nat) (h : Int) (i : Nat), i + d = l.length → d < k → sum_More.l0 k h l (l.length : Int) (i : Int) = some (moreN h (l.drop i)) := by
  intro d
  induction d with
  | zero =>
    intro k h i hi hk
    obtain ⟨k, rfl⟩ : ∃ m, k = m + 1 := ⟨k - 1, by omega⟩
    simp only [sum_More.l0]
    rw [if_neg (by omega), List.drop_of_length_le (by omega)]
    rfl
  | succ d ih =>
    intro k h i hi hk
    obtain ⟨k, rfl⟩ : ∃ m, k = m + 1 := ⟨k - 1, by omega⟩
    have hlt : i < l.length := by omega
    simp only [sum_More.l0]
    rw [if_pos (by omega), if_pos (by omega), if_pos (by omega), rd_at l i hlt, wrap_up hlt (by omega)]
    simp only [sum_step.f, Option.bind_some]
    rw [ih k _ (i + 1) (by omega) (by omega), List.drop_eq_getElem_cons hlt]
    rfl
theorem More_is (k : Nat) (h : Int) (l : List Int) (hn : l.length ≤ 140737488351232) (hk : l.length < k) : sum_More.f k h l = some (moreN h l) := by
  unfold sum_More.f
  have := More_l l hn l.length k h 0 (by omega) hk
  simpa using this

theorem Sum_is (k : Nat) (l : List Int) (hn : l.length ≤ 140737488351232) (hk : l.length < k) : sum_Sum.f k l = some (moreN 14695981039346656037 l) := by
  unfold sum_Sum.f
  rw [More_is k _ l hn hk]
  rfl

theorem RMore_l (l : List Int) (hn : l.length ≤ 140737488351232) : ∀ (d k : Nat) (h : Int) (i : Nat), i + d = l.length → d < k → annexref2_More.l0 k h l (i : Int) = some (moreN h (l.drop i)) := by
  intro d
  induction d with
  | zero =>
    intro k h i hi hk
    obtain ⟨k, rfl⟩ : ∃ m, k = m + 1 := ⟨k - 1, by omega⟩
    simp only [annexref2_More.l0]
    rw [if_neg (by omega), List.drop_of_length_le (by omega)]
    rfl
  | succ d ih =>
    intro k h i hi hk
    obtain ⟨k, rfl⟩ : ∃ m, k = m + 1 := ⟨k - 1, by omega⟩
    have hlt : i < l.length := by omega
    simp only [annexref2_More.l0]
    rw [if_pos (by omega), if_pos (by omega), rd_at l i hlt, wrap_up hlt (by omega)]
    simp only [annexref2_Step.f, Option.bind_some]
    rw [ih k _ (i + 1) (by omega) (by omega), List.drop_eq_getElem_cons hlt]
    rfl
theorem RMore_is (k : Nat) (h : Int) (l : List Int) (hn : l.length ≤ 140737488351232) (hk : l.length < k) : annexref2_More.f k h l = some (moreN h l) := by
  unfold annexref2_More.f
  have := RMore_l l hn l.length k h 0 (by omega) hk
  simpa using this

theorem RSum_is (k : Nat) (l : List Int) (hn : l.length ≤ 140737488351232) (hk : l.length < k) : annexref2_Sum.f k l = some (moreN 14695981039346656037 l) := by
  unfold annexref2_Sum.f
  rw [RMore_is k _ l hn hk]
  rfl

theorem inverse_8 : sum_inverse.f 8 = some 14886173955864302971 := by decide +kernel
theorem inverse_is (k : Nat) (hk : 8 ≤ k) : sum_inverse.f k = some 14886173955864302971 := by
  obtain ⟨d, rfl⟩ : ∃ d, k = 8 + d := ⟨k - 8, by omega⟩
  clear hk
  induction d with
  | zero => exact inverse_8
  | succ d ih => exact sum_inverse.mono _ _ ih
theorem Back_l (l : List Int) (hn : l.length ≤ 140737488351232) : ∀ (i k : Nat) (h : Int), i ≤ l.length → i < k → sum_Back.l0 k h l 14886173955864302971 ((i : Int) - 1) = some (backsN h (l.take i)) := by
  intro i
  induction i with
  | zero =>
    intro k h hi hk
    obtain ⟨k, rfl⟩ : ∃ m, k = m + 1 := ⟨k - 1, by omega⟩
    simp only [sum_Back.l0]
    rw [if_neg (by omega)]
    rfl
  | succ i ih =>
    intro k h hi hk
    obtain ⟨k, rfl⟩ : ∃ m, k = m + 1 := ⟨k - 1, by omega⟩
    have hlt : i < l.length := by omega
    have e : ((i + 1 : Nat) : Int) - 1 = (i : Int) := by omega
    simp only [sum_Back.l0, e]
    rw [if_pos (by omega), if_pos (by omega), if_pos (by omega), rd_at l i hlt, wrap_down (n := l.length) (by omega) (by omega)]
    simp only [sum_back.f, Option.bind_some]
    rw [ih k _ (by omega) (by omega), List.take_succ_eq_append_getElem hlt, backsN_append]
    rfl
theorem Back_is (k : Nat) (h : Int) (l : List Int) (hn : l.length ≤ 140737488351232) (hk : l.length < k) (h5 : 8 ≤ k) : sum_Back.f k h l = some (backsN h l) := by
  unfold sum_Back.f
  rw [inverse_is k h5, Option.bind_some, wrap_down (Nat.le_refl _) (by omega), Back_l l hn l.length k h (Nat.le_refl _) hk, List.take_length]

theorem RBack_l (l : List Int) (hn : l.length ≤ 140737488351232) : ∀ (i k : Nat) (h : Int), i ≤ l.length → i < k → annexref2_Back.l0 k h l ((i : Int) - 1) = some (backsN h (l.take i)) := by
  intro i
  induction i with
  | zero =>
    intro k h hi hk
    obtain ⟨k, rfl⟩ : ∃ m, k = m + 1 := ⟨k - 1, by omega⟩
    simp only [annexref2_Back.l0]
    rw [if_neg (by omega)]
    rfl
  | succ i ih =>
    intro k h hi hk
    obtain ⟨k, rfl⟩ : ∃ m, k = m + 1 := ⟨k - 1, by omega⟩
    have hlt : i < l.length := by omega
    have e : ((i + 1 : Nat) : Int) - 1 = (i : Int) := by omega
    simp only [annexref2_Back.l0, e]
    rw [if_pos (by omega), if_pos (by omega), if_pos (by omega), rd_at l i hlt, wrap_down (n := l.length) (by omega) (by omega)]
    rw [ih k _ (by omega) (by omega), List.take_succ_eq_append_getElem hlt, backsN_append]
    rfl
theorem RBack_is (k : Nat) (h : Int) (l : List Int) (hn : l.length ≤ 140737488351232) (hk : l.length < k) : annexref2_Back.f k h l = some (backsN h l) := by
  unfold annexref2_Back.f
  rw [wrap_down (Nat.le_refl _) (by omega), RBack_l l hn l.length k h (Nat.le_refl _) hk, List.take_length]

theorem known_9 : annexlaw2_known.f 9 = some true := by decide +kernel
theorem known_is (k : Nat) (hk : 9 ≤ k) : annexlaw2_known.f k = some true := by
  obtain ⟨d, rfl⟩ : ∃ d, k = 9 + d := ⟨k - 9, by omega⟩
  clear hk
  induction d with
  | zero => exact known_9
  | succ d ih => exact annexlaw2_known.mono _ _ ih

theorem Bytes_l (l : List Int) (hn : l.length ≤ 140737488351232) : ∀ (d k : Nat) (i : Nat), i + d = l.length → d < k → annexref_Bytes.l0 k l (l.take i) (i : Int) = some l := by
  intro d
  induction d with
  | zero =>
    intro k i hi hk
    obtain ⟨k, rfl⟩ : ∃ m, k = m + 1 := ⟨k - 1, by omega⟩
    simp only [annexref_Bytes.l0]
    rw [if_neg (by omega), List.take_of_length_le (by omega)]
  | succ d ih =>
    intro k i hi hk
    obtain ⟨k, rfl⟩ : ∃ m, k = m + 1 := ⟨k - 1, by omega⟩
    have hlt : i < l.length := by omega
    have hl : (l.take i).length ≤ i := List.length_take_le _ _
    simp only [annexref_Bytes.l0]
    rw [if_pos (by omega), if_pos (by omega), if_pos (by omega), rd_at l i hlt, wrap_up hlt (by omega), ← List.take_succ_eq_append_getElem hlt]
    exact ih k (i + 1) (by omega) (by omega)
theorem Bytes_is (k : Nat) (l : List Int) (hn : l.length ≤ 140737488351232) (hk : l.length < k) : annexref_Bytes.f k l = some l := by
  unfold annexref_Bytes.f
  exact Bytes_l l hn l.length k 0 (by omega) hk

theorem roomy_l (l : List Int) (hn : l.length ≤ 140737488351232) : ∀ (d k : Nat) (i : Nat), i + d = 9 → d < k → annexlaw2_roomy.l0 k (l ++ marks.take i) (i : Int) = some (l ++ marks) := by
  intro d
  induction d with
  | zero =>
    intro k i hi hk
    obtain ⟨k, rfl⟩ : ∃ m, k = m + 1 := ⟨k - 1, by omega⟩
    obtain rfl : i = 9 := by omega
    simp only [annexlaw2_roomy.l0]
    rw [if_neg (by omega)]
    rfl
  | succ d ih =>
    intro k i hi hk
    obtain ⟨k, rfl⟩ : ∃ m, k = m + 1 := ⟨k - 1, by omega⟩
    have hm : i < marks.length := by show i < 9; omega
    have hl : (marks.take i).length ≤ i := List.length_take_le _ _
    have e : (wrap64 (200 + (i : Int))) % 256 = marks[i] := mark_at i hm
    simp only [annexlaw2_roomy.l0]
    rw [if_pos (by omega), if_pos (by rw [List.length_append]; omega), e, wrap_up (n := 9) (by omega) (by omega), List.append_assoc, ← List.take_succ_eq_append_getElem hm]
    exact ih k (i + 1) (by omega) (by omega)
theorem roomy_is (k : Nat) (l : List Int) (hn : l.length ≤ 140737488351232) (hk : l.length < k) (h9 : 9 < k) : annexlaw2_roomy.f k l = some (l ++ marks) := by
  unfold annexlaw2_roomy.f
  rw [Bytes_is k l hn hk, Option.bind_some]
  have := roomy_l l hn 9 k 0 (by omega) (by omega)
  simpa using this

theorem Same_l (l : List Int) (hn : l.length ≤ 140737488355328) : ∀ (d k : Nat) (i : Nat), i + d = l.length → d < k → annexref_SameBytes.l0 k l l (i : Int) = some true := by
  intro d
  induction d with
  | zero =>
    intro k i hi hk
    obtain ⟨k, rfl⟩ : ∃ m, k = m + 1 := ⟨k - 1, by omega⟩
    simp only [annexref_SameBytes.l0]
    rw [if_neg (by omega)]
  | succ d ih =>
    intro k i hi hk
    obtain ⟨k, rfl⟩ : ∃ m, k = m + 1 := ⟨k - 1, by omega⟩
    have hlt : i < l.length := by omega
    simp only [annexref_SameBytes.l0]
    rw [if_pos (by omega), if_pos (by omega), if_pos (by omega), if_pos trivial, wrap_up hlt (by omega)]
    exact ih k (i + 1) (by omega) (by omega)
theorem Same_self (k : Nat) (l : List Int) (hn : l.length ≤ 140737488355328) (hk : l.length < k) : annexref_SameBytes.f k l l = some true := by
  unfold annexref_SameBytes.f
  rw [if_pos rfl]
  exact Same_l l hn l.length k 0 (by omega) hk

def endsN (l : List Int) (want : Int) (i : Nat) : List Int := (List.range (l.length - i)).map fun j => backsN want (l.drop (l.length - j))
theorem endsN_len (l : List Int) (want : Int) (i : Nat) : (endsN l want i).length = l.length - i := by simp [endsN]
theorem endsN_start (l : List Int) (want : Int) : endsN l want l.length = [] := by simp [endsN]
theorem endsN_step (l : List Int) (want : Int) (i : Nat) (h : i < l.length) : endsN l want (i + 1) ++ [backsN want (l.drop (i + 1))] = endsN l want i := by
  unfold endsN
  have e : l.length - i = (l.length - (i + 1)) + 1 := by omega
  rw [e, List.range_succ, List.map_append, List.map_singleton]
  have e2 : l.length - (l.length - (i + 1)) = i + 1 := by omega
  rw [e2]
theorem endsN_get (l : List Int) (want : Int) (i : Nat) (h : i < l.length) : rd (endsN l want 0) ((l.length : Int) - 1 - (i : Int)) = backsN want (l.drop (i + 1)) := by
  have e : ((l.length : Int) - 1 - (i : Int)).toNat = l.length - 1 - i := by omega
  unfold rd endsN
  rw [e, List.getD_eq_getElem?_getD, List.getElem?_map, List.getElem?_range (by omega)]
  simp only [Option.map_some, Option.getD_some]
  have e2 : l.length - (l.length - 1 - i) = i + 1 := by omega
  rw [e2]
theorem one_take (l : List Int) (i : Nat) (h : i < l.length) : (l.take (i + 1)).drop i = [l[i]] := by
  rw [List.drop_take]
  have e : i + 1 - i = 1 := by omega
  rw [e, List.drop_eq_getElem_cons h]
  rfl
theorem RMend_l1 (l : List Int) (want : Int) (hn : l.length ≤ 1048576) (hne : ¬ moreN 14695981039346656037 l = want) : ∀ (d k i : Nat), i + d = l.length → d < k → (∀ j, j < i → Mend.hit l want j = false) → annexref2_Mend.l1 k l (endsN l want 0) (Mend.isAt l i) (i : Int) = some (Mend.mendN l want) := by
  intro d
  induction d with
  | zero =>
    intro k i hi hk hno
    obtain ⟨k, rfl⟩ : ∃ m, k = m + 1 := ⟨k - 1, by omega⟩
    obtain rfl : i = l.length := by omega
    simp only [annexref2_Mend.l1]
    rw [if_neg (by omega), MendPlain.mend_none hne hno]
  | succ d ih =>
    intro k i hi hk hno
    obtain ⟨k, rfl⟩ : ∃ m, k = m + 1 := ⟨k - 1, by omega⟩
    have hlt : i < l.length := by omega
    have w1 : wrap64 ((wrap64 ((l.length : Int) - 1)) - (i : Int)) = (l.length : Int) - 1 - (i : Int) := by unfold wrap64; omega
    have hl := endsN_len l want 0
    simp only [annexref2_Mend.l1, w1]
    rw [if_pos (by omega), if_pos (by omega), if_pos (by omega), endsN_get l want i hlt, MendPlain.must_wrap]
    have hx : Go.bits .xor .u64 (Mend.mustAt l want i) (Mend.isAt l i) = MendPlain.X (Mend.isAt l i) (Mend.mustAt l want i) := MendPlain.X_comm _ _
    rw [hx]
    by_cases hh : Mend.hit l want i = true
    · have hs := (MendPlain.hit_X l want i).1 hh
      have hp := MendPlain.X_pos (MendPlain.isAt_u l i) (MendPlain.mustAt_u l want i)
      rw [if_pos hs, MendPlain.mend_hit hne hlt hh hno]
      have e : MendPlain.X (Mend.isAt l i) (Mend.mustAt l want i) % 256 = MendPlain.X (Mend.isAt l i) (Mend.mustAt l want i) := by omega
      rw [e]
    · have hs : ¬ MendPlain.X (Mend.isAt l i) (Mend.mustAt l want i) < 256 := fun e => hh ((MendPlain.hit_X l want i).2 e)
      rw [if_neg hs, if_pos (by omega), rd_at l i hlt, wrap_up hlt (by omega)]
      simp only [annexref2_Step.f, Option.bind_some]
      have e : Mend.isAt l (i + 1) = stepN (Mend.isAt l i) l[i] := by
        unfold Mend.isAt
        rw [List.take_succ_eq_append_getElem hlt, moreN_append]
        rfl
      have := ih k (i + 1) (by omega) (by omega) (fun j hj => by
        rcases Nat.lt_succ_iff_lt_or_eq.1 hj with h | h
        · exact hno j h
        · subst h; simpa using hh)
      rw [e] at this
      exact this
theorem RMend_l0 (l : List Int) (want : Int) (hn : l.length ≤ 1048576) (hne : ¬ moreN 14695981039346656037 l = want) : ∀ (i k : Nat), i ≤ l.length → i + l.length + 10 < k → annexref2_Mend.l0 k l (endsN l want i) (backsN want (l.drop i)) ((i : Int) - 1) = some (Mend.mendN l want) := by
  intro i
  induction i with
  | zero =>
    intro k hi hk
    obtain ⟨k, rfl⟩ : ∃ m, k = m + 1 := ⟨k - 1, by omega⟩
    simp only [annexref2_Mend.l0]
    rw [if_neg (by omega)]
    exact RMend_l1 l want hn hne l.length k 0 (by omega) (by omega) (fun j hj => absurd hj (Nat.not_lt_zero _))
  | succ i ih =>
    intro k hi hk
    obtain ⟨k, rfl⟩ : ∃ m, k = m + 1 := ⟨k - 1, by omega⟩
    have hlt : i < l.length := by omega
    have e : ((i + 1 : Nat) : Int) - 1 = (i : Int) := by omega
    have hl := endsN_len l want (i + 1)
    have w1 : wrap64 ((i : Int) + 1) = ((i + 1 : Nat) : Int) := wrap_up hlt (by omega)
    simp only [annexref2_Mend.l0, e, w1]
    rw [if_pos (by omega), if_pos (by omega), if_pos (by omega), if_pos (by omega), if_pos (by omega)]
    simp only [Int.toNat_natCast]
    rw [one_take l i hlt, RBack_is k _ [l[i]] (by simp) (by simp; omega), Option.bind_some, endsN_step l want i hlt, wrap_down (n := l.length) (by omega) (by omega)]
    have := ih k (by omega) (by omega)
    rw [List.drop_eq_getElem_cons hlt] at this
    exact this
theorem RMend_is (k : Nat) (l : List Int) (want : Int) (hn : l.length ≤ 1048576) (hk : l.length + l.length + 11 < k) : annexref2_Mend.f k l want = some (Mend.mendN l want) := by
  unfold annexref2_Mend.f
  rw [RSum_is k l (by omega) (by omega), Option.bind_some]
  by_cases h : moreN 14695981039346656037 l = want
  · rw [if_pos h, MendPlain.mend_has h]
  · rw [if_neg h, wrap_down (n := l.length) (Nat.le_refl _) (by omega)]
    have := RMend_l0 l want hn h l.length k (Nat.le_refl _) (by omega)
    rw [endsN_start, List.drop_length] at this
    exact this

theorem Mend_is (k : Nat) (l : List Int) (want : Int) (hn : l.length ≤ 1048576) : sum_Mend.f k l want = some (Mend.mendN l want) := by
  unfold sum_Mend.f
  rw [if_pos hn]

theorem alike_is (k : Nat) (h : Int) (l : List Int) (want : Int) (hn : l.length ≤ 1048576) (hk : l.length + l.length + 20 < k) : annexlaw2_alike.f k h l want = some true := by
  unfold annexlaw2_alike.f
  rw [Sum_is k l (by omega) (by omega), Option.bind_some, RSum_is k l (by omega) (by omega), Option.bind_some, More_is k h l (by omega) (by omega), Option.bind_some, RMore_is k h l (by omega) (by omega), Option.bind_some, Back_is k h l (by omega) (by omega) (by omega), Option.bind_some, RBack_is k h l (by omega) (by omega), Option.bind_some, Mend_is k l want hn, Option.bind_some, RMend_is k l want hn (by omega), Option.bind_some]
  simp

end Go.Proofs.Ytmddjfplkifdmaa.Pure
