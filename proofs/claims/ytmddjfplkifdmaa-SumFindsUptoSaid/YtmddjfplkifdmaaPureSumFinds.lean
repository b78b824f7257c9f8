/- Where Mend answers true the bytes mended so have the sum; where it answers false no change of one of the first 64 bytes brings it: for every list of at most 1048576 bytes and every number. -/
import Derived.Test.YtmddjfplkifdmaaQSumFindsx
import Derived.Test.YtmddjfplkifdmaaSumPlain
import Derived.Test.YtmddjfplkifdmaaMendPlain
namespace Go.Proofs.Ytmddjfplkifdmaa.Pure
open Go.RowKit Go.Proofs.Ytmddjfplkifdmaa.QSumFinds Go.Proofs.YtmddjfplkifdmaaW.PrintWords Go.Proofs.YtmddjfplkifdmaaW.PrintLast Go.Proofs.Ytmddjfplkifdmaa.SumPlain
set_option linter.unusedVariables false
set_option linter.unusedSimpArgs false

theorem More_l (l : List Int) (hn : l.length ≤ 140737488351232) : ∀ (d k : Nat) (h : Int) (i : Nat), i + d = l.length → d < k → sum_More.l0 k h l (l.length : Int) (i : Int) = some (moreN h (l.drop i)) := by
  intro d
  induction d with
  | zero =>
    intro k h i hi hk
    obtain ⟨k, rfl⟩ : ∃ m, k = m + 1 := ⟨k - 1, by omega⟩
    simp only [sum_More.l0]
    rw [if_neg (by omega), List.drop_of_length_le (by omega)]
    rfl
  | succ d ih =>
    intro k h i hi hk
    obtain ⟨k, rfl⟩ : ∃ m, k = m + 1 := ⟨k - 1, by omega⟩
    have hlt : i < l.length := by omega
    simp only [sum_More.l0]
    rw [if_pos (by omega), if_pos (by omega), if_pos (by omega), rd_at l i hlt, wrap_up hlt (by omega)]
    simp only [sum_step.f, Option.bind_some]
    rw [ih k _ (i + 1) (by omega) (by omega), List.drop_eq_getElem_cons hlt]
    rfl
theorem More_is (k : Nat) (h : Int) (l : List Int) (hn : l.length ≤ 140737488351232) (hk : l.length < k) : sum_More.f k h l = some (moreN h l) := by
  unfold sum_More.f
  have := More_l l hn l.length k h 0 (by omega) hk
  simpa using this

theorem Sum_is (k : Nat) (l : List Int) (hn : l.length ≤ 140737488351232) (hk : l.length < k) : sum_Sum.f k l = some (moreN 14695981039346656037 l) := by
  unfold sum_Sum.f
  rw [More_is k _ l hn hk]
  rfl

theorem inverse_8 : sum_inverse.f 8 = some 14886173955864302971 := by decide +kernel
theorem inverse_is (k : Nat) (hk : 8 ≤ k) : sum_inverse.f k = some 14886173955864302971 := by
  obtain ⟨d, rfl⟩ : ∃ d, k = 8 + d := ⟨k - 8, by omega⟩
  clear hk
  induction d with
  | zero => exact inverse_8
  | succ d ih => exact sum_inverse.mono _ _ ih
theorem Back_l (l : List Int) (hn : l.length ≤ 140737488351232) : ∀ (i k : Nat) (h : Int), i ≤ l.length → i < k → sum_Back.l0 k h l 14886173955864302971 ((i : Int) - 1) = some (backsN h (l.take i)) := by
  intro i
  induction i with
  | zero =>
    intro k h hi hk
    obtain ⟨k, rfl⟩ : ∃ m, k = m + 1 := ⟨k - 1, by omega⟩
    simp only [sum_Back.l0]
    rw [if_neg (by omega)]
    rfl
  | succ i ih =>
    intro k h hi hk
    obtain ⟨k, rfl⟩ : ∃ m, k = m + 1 := ⟨k - 1, by omega⟩
    have hlt : i < l.length := by omega
    have e : ((i + 1 : Nat) : Int) - 1 = (i : Int) := by omega
    simp only [sum_Back.l0, e]
    rw [if_pos (by omega), if_pos (by omega), if_pos (by omega), rd_at l i hlt, wrap_down (n := l.length) (by omega) (by omega)]
    simp only [sum_back.f, Option.bind_some]
    rw [ih k _ (by omega) (by omega), List.take_succ_eq_append_getElem hlt, backsN_append]
    rfl
theorem Back_is (k : Nat) (h : Int) (l : List Int) (hn : l.length ≤ 140737488351232) (hk : l.length < k) (h5 : 8 ≤ k) : sum_Back.f k h l = some (backsN h l) := by
  unfold sum_Back.f
  rw [inverse_is k h5, Option.bind_some, wrap_down (Nat.le_refl _) (by omega), Back_l l hn l.length k h (Nat.le_refl _) hk, List.take_length]

theorem known_9 : annexlaw2_known.f 9 = some true := by decide +kernel
theorem known_is (k : Nat) (hk : 9 ≤ k) : annexlaw2_known.f k = some true := by
  obtain ⟨d, rfl⟩ : ∃ d, k = 9 + d := ⟨k - 9, by omega⟩
  clear hk
  induction d with
  | zero => exact known_9
  | succ d ih => exact annexlaw2_known.mono _ _ ih

theorem Bytes_l (l : List Int) (hn : l.length ≤ 140737488351232) : ∀ (d k : Nat) (i : Nat), i + d = l.length → d < k → annexref_Bytes.l0 k l (l.take i) (i : Int) = some l := by
  intro d
  induction d with
  | zero =>
    intro k i hi hk
    obtain ⟨k, rfl⟩ : ∃ m, k = m + 1 := ⟨k - 1, by omega⟩
    simp only [annexref_Bytes.l0]
    rw [if_neg (by omega), List.take_of_length_le (by omega)]
  | succ d ih =>
    intro k i hi hk
    obtain ⟨k, rfl⟩ : ∃ m, k = m + 1 := ⟨k - 1, by omega⟩
    have hlt : i < l.length := by omega
    have hl : (l.take i).length ≤ i := List.length_take_le _ _
    simp only [annexref_Bytes.l0]
    rw [if_pos (by omega), if_pos (by omega), if_pos (by omega), rd_at l i hlt, wrap_up hlt (by omega), ← List.take_succ_eq_append_getElem hlt]
    exact ih k (i + 1) (by omega) (by omega)
theorem Bytes_is (k : Nat) (l : List Int) (hn : l.length ≤ 140737488351232) (hk : l.length < k) : annexref_Bytes.f k l = some l := by
  unfold annexref_Bytes.f
  exact Bytes_l l hn l.length k 0 (by omega) hk

theorem Mend_is (k : Nat) (l : List Int) (want : Int) (hn : l.length ≤ 1048576) : sum_Mend.f k l want = some (Mend.mendN l want) := by
  unfold sum_Mend.f
  rw [if_pos hn]

theorem finds_l1 (l : List Int) (want : Int) (hw : MendPlain.IsU want) (hn : l.length ≤ 1000) (i : Nat) (hi : i < l.length) (hno : Mend.hit l want i = false) (R : Nat) (hR : 1002 ≤ R)
    (hrest : ∀ m, R < m → annexlaw2_SumFinds.l0 m l want 0 0 l (moreN 14695981039346656037 l) ((i + 1 : Nat) : Int) = some true) :
    ∀ (d k v : Nat) (c : List Int), v + d = 256 → R + 1 + d < k → c.length = l.length → (∀ y, c.set i y = l.set i y) → annexlaw2_SumFinds.l1 k l want 0 0 c (moreN 14695981039346656037 l) (i : Int) (v : Int) = some true := by
  intro d
  induction d with
  | zero =>
    intro k v c hv hk hc hs
    obtain ⟨k, rfl⟩ : ∃ m, k = m + 1 := ⟨k - 1, by omega⟩
    simp only [annexlaw2_SumFinds.l1]
    rw [if_neg (by omega), if_pos (by omega), if_pos (by omega), if_pos (by omega), wrap_up hi (by omega), rd_at l i hi]
    simp only [Int.toNat_natCast]
    rw [hs, List.set_getElem_self hi]
    exact hrest k (by omega)
  | succ d ih =>
    intro k v c hv hk hc hs
    obtain ⟨k, rfl⟩ : ∃ m, k = m + 1 := ⟨k - 1, by omega⟩
    have ev : (v : Int) % 256 = (v : Int) := by omega
    simp only [annexlaw2_SumFinds.l1]
    rw [if_pos (by omega), if_pos (by omega), if_pos (by omega), Option.bind_some, ev]
    simp only [Int.toNat_natCast]
    rw [hs, Sum_is _ _ (by rw [List.length_set]; omega) (by rw [List.length_set]; omega), Option.bind_some, if_neg (MendPlain.no_mends hw hi ⟨by omega, by omega⟩ hno), wrap_up (n := 256) (by omega) (by omega)]
    exact ih k (v + 1) (l.set i (v : Int)) (by omega) (by omega) (by simp) (fun y => by rw [List.set_set])
theorem finds_j2 (l : List Int) (want : Int) (x12 : Int) (h : ¬ moreN 14695981039346656037 l = want) (k : Nat) (hk : 0 < k) : annexlaw2_SumFinds.j2 k l want 0 0 l (moreN 14695981039346656037 l) x12 false = some true := by
  obtain ⟨k, rfl⟩ : ∃ m, k = m + 1 := ⟨k - 1, by omega⟩
  simp only [annexlaw2_SumFinds.j2]
  simpa using h
theorem finds_l0 (l : List Int) (want : Int) (hw : MendPlain.IsU want) (h : ¬ moreN 14695981039346656037 l = want) (hn : l.length ≤ 1000) (hno : ∀ j, j < l.length → Mend.hit l want j = false) :
    ∀ (d k i : Nat), i + d = 64 → d * 300 + 1300 < k → annexlaw2_SumFinds.l0 k l want 0 0 l (moreN 14695981039346656037 l) (i : Int) = some true := by
  intro d
  induction d with
  | zero =>
    intro k i hi hk
    obtain ⟨k, rfl⟩ : ∃ m, k = m + 1 := ⟨k - 1, by omega⟩
    simp only [annexlaw2_SumFinds.l0]
    by_cases h1 : (i : Int) < (l.length : Int)
    · rw [if_pos h1, if_neg (by omega)]; exact finds_j2 l want _ h k (by omega)
    · rw [if_neg h1]; exact finds_j2 l want _ h k (by omega)
  | succ d ih =>
    intro k i hi hk
    obtain ⟨k, rfl⟩ : ∃ m, k = m + 1 := ⟨k - 1, by omega⟩
    simp only [annexlaw2_SumFinds.l0]
    by_cases h1 : (i : Int) < (l.length : Int)
    · rw [if_pos h1, if_pos (by omega), decide_eq_true (by omega : (l.length : Int) ≤ 1000)]
      obtain ⟨k, rfl⟩ : ∃ m, k = m + 1 := ⟨k - 1, by omega⟩
      simp only [annexlaw2_SumFinds.j2]
      rw [if_pos trivial]
      have hrest := fun m (hm : d * 300 + 1300 < m) => ih m (i + 1) (by omega) hm
      have q := finds_l1 l want hw hn i (by omega) (hno i (by omega)) (d * 300 + 1300) (by omega) hrest 256 k 0 l (by omega) (by omega) rfl (fun _ => rfl)
      exact q
    · rw [if_neg h1]; exact finds_j2 l want _ h k (by omega)
theorem finds_far (l : List Int) (want : Int) (h : ¬ moreN 14695981039346656037 l = want) (hn : ¬ l.length ≤ 1000) (k : Nat) (hk : 2 < k) : annexlaw2_SumFinds.l0 k l want 0 0 l (moreN 14695981039346656037 l) 0 = some true := by
  obtain ⟨k, rfl⟩ : ∃ m, k = m + 1 := ⟨k - 1, by omega⟩
  simp only [annexlaw2_SumFinds.l0]
  rw [if_pos (by omega), if_pos (by omega), decide_eq_false (by omega : ¬ (l.length : Int) ≤ 1000)]
  exact finds_j2 l want _ h k (by omega)
theorem SumFinds_small (l : List Int) (want : Int) (hn : l.length ≤ 1048576) (hw : (Lit.int .u64 want).wf = true) : ∃ k, annexlaw2_SumFinds.f k l want = some true := by
  refine ⟨(l.length + 40000) + 1, ?_⟩
  have hwu : MendPlain.IsU want := wf_range hw
  unfold annexlaw2_SumFinds.f
  rw [known_is _ (by omega), Option.bind_some, if_pos rfl, Mend_is _ l want hn, Option.bind_some, Bytes_is _ l (by omega) (by omega), Option.bind_some, Sum_is _ l (by omega) (by omega), Option.bind_some]
  rcases MendPlain.mend_cases l want with ⟨h1, h2⟩ | ⟨h1, k, hk, hk1, hk2, h2⟩ | ⟨h1, h2, h3⟩
  · rw [h2]
    simp only [if_true, annexlaw2_SumFinds.j0]
    simp [h1]
  · rw [h2]
    have e : ((k : Int) == (-1)) = false := by
      rw [beq_eq_false_iff_ne]
      omega
    simp only [if_true, e, annexlaw2_SumFinds.j0]
    rw [if_neg (by simp), if_neg (by omega), if_neg (by omega), if_neg h1, if_pos (by omega), if_pos (by omega)]
    simp only [Int.toNat_natCast]
    rw [Sum_is _ _ (by rw [List.length_set]; omega) (by rw [List.length_set]; omega), Option.bind_some, MendPlain.hit_mends hwu hk]
    simp
  · rw [h3]
    simp only [annexlaw2_SumFinds.j0]
    rw [if_neg (by simp), if_neg (by simp), if_neg (by simp)]
    by_cases hl : l.length ≤ 1000
    · exact finds_l0 l want hwu h1 hl h2 64 _ 0 (by omega) (by omega)
    · exact finds_far l want h1 hl _ (by omega)

end Go.Proofs.Ytmddjfplkifdmaa.Pure
