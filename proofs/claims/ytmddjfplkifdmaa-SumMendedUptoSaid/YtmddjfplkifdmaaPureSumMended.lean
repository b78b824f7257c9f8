/- One changed byte is found and put right: for every list of at most 1048576 bytes, every place and change. -/
import Derived.Test.YtmddjfplkifdmaaQSumMendedx
import Derived.Test.YtmddjfplkifdmaaSumPlain
import Derived.Test.YtmddjfplkifdmaaMendPlain
namespace Go.Proofs.Ytmddjfplkifdmaa.Pure
open Go.RowKit Go.Proofs.Ytmddjfplkifdmaa.QSumMended Go.Proofs.YtmddjfplkifdmaaW.PrintWords Go.Proofs.YtmddjfplkifdmaaW.PrintLast Go.Proofs.Ytmddjfplkifdmaa.SumPlain
set_option linter.unusedVariables false
set_option linter.unusedSimpArgs false

theorem More_l (l : List Int) (hn : l.length ≤ 140737488351232) : ∀ (d k : Nat) (h : Int) (i : Nat), i + d = l.length → d < k → sum_More.l0 k h l (l.length : Int) (i : Int) = some (moreN h (l.drop i)) := by
  intro d
  induction d with
  | zero =>
    intro k h i hi hk
    obtain ⟨k, rfl⟩ : ∃ m, k = m + 1 := ⟨k - 1, by omega⟩
    simp only [sum_More.l0]
    rw [if_neg (by omega), List.drop_of_length_le (by omega)]
    rfl
  | succ d ih =>
    intro k h i hi hk
    obtain ⟨k, rfl⟩ : ∃ m, k = m + 1 := ⟨k - 1, by omega⟩
    have hlt : i < l.length := by omega
    simp only [sum_More.l0]
    rw [if_pos (by omega), if_pos (by omega), if_pos (by omega), rd_at l i hlt, wrap_up hlt (by omega)]
    simp only [sum_step.f, Option.bind_some]
    rw [ih k _ (i + 1) (by omega) (by omega), List.drop_eq_getElem_cons hlt]
    rfl
theorem More_is (k : Nat) (h : Int) (l : List Int) (hn : l.length ≤ 140737488351232) (hk : l.length < k) : sum_More.f k h l = some (moreN h l) := by
  unfold sum_More.f
  have := More_l l hn l.length k h 0 (by omega) hk
  simpa using this

theorem Sum_is (k : Nat) (l : List Int) (hn : l.length ≤ 140737488351232) (hk : l.length < k) : sum_Sum.f k l = some (moreN 14695981039346656037 l) := by
  unfold sum_Sum.f
  rw [More_is k _ l hn hk]
  rfl

theorem inverse_8 : sum_inverse.f 8 = some 14886173955864302971 := by decide +kernel
theorem inverse_is (k : Nat) (hk : 8 ≤ k) : sum_inverse.f k = some 14886173955864302971 := by
  obtain ⟨d, rfl⟩ : ∃ d, k = 8 + d := ⟨k - 8, by omega⟩
  clear hk
  induction d with
  | zero => exact inverse_8
  | succ d ih => exact sum_inverse.mono _ _ ih
theorem Back_l (l : List Int) (hn : l.length ≤ 140737488351232) : ∀ (i k : Nat) (h : Int), i ≤ l.length → i < k → sum_Back.l0 k h l 14886173955864302971 ((i : Int) - 1) = some (backsN h (l.take i)) := by
  intro i
  induction i with
  | zero =>
    intro k h hi hk
    obtain ⟨k, rfl⟩ : ∃ m, k = m + 1 := ⟨k - 1, by omega⟩
    simp only [sum_Back.l0]
    rw [if_neg (by omega)]
    rfl
  | succ i ih =>
    intro k h hi hk
    obtain ⟨k, rfl⟩ : ∃ m, k = m + 1 := ⟨k - 1, by omega⟩
    have hlt : i < l.length := by omega
    have e : ((i + 1 : Nat) : Int) - 1 = (i : Int) := by omega
    simp only [sum_Back.l0, e]
    rw [if_pos (by omega), if_pos (by omega), if_pos (by omega), rd_at l i hlt, wrap_down (n := l.length) (by omega) (by omega)]
    simp only [sum_back.f, Option.bind_some]
    rw [ih k _ (by omega) (by omega), List.take_succ_eq_append_getElem hlt, backsN_append]
    rfl
theorem Back_is (k : Nat) (h : Int) (l : List Int) (hn : l.length ≤ 140737488351232) (hk : l.length < k) (h5 : 8 ≤ k) : sum_Back.f k h l = some (backsN h l) := by
  unfold sum_Back.f
  rw [inverse_is k h5, Option.bind_some, wrap_down (Nat.le_refl _) (by omega), Back_l l hn l.length k h (Nat.le_refl _) hk, List.take_length]

theorem known_9 : annexlaw2_known.f 9 = some true := by decide +kernel
theorem known_is (k : Nat) (hk : 9 ≤ k) : annexlaw2_known.f k = some true := by
  obtain ⟨d, rfl⟩ : ∃ d, k = 9 + d := ⟨k - 9, by omega⟩
  clear hk
  induction d with
  | zero => exact known_9
  | succ d ih => exact annexlaw2_known.mono _ _ ih

theorem Bytes_l (l : List Int) (hn : l.length ≤ 140737488351232) : ∀ (d k : Nat) (i : Nat), i + d = l.length → d < k → annexref_Bytes.l0 k l (l.take i) (i : Int) = some l := by
  intro d
  induction d with
  | zero =>
    intro k i hi hk
    obtain ⟨k, rfl⟩ : ∃ m, k = m + 1 := ⟨k - 1, by omega⟩
    simp only [annexref_Bytes.l0]
    rw [if_neg (by omega), List.take_of_length_le (by omega)]
  | succ d ih =>
    intro k i hi hk
    obtain ⟨k, rfl⟩ : ∃ m, k = m + 1 := ⟨k - 1, by omega⟩
    have hlt : i < l.length := by omega
    have hl : (l.take i).length ≤ i := List.length_take_le _ _
    simp only [annexref_Bytes.l0]
    rw [if_pos (by omega), if_pos (by omega), if_pos (by omega), rd_at l i hlt, wrap_up hlt (by omega), ← List.take_succ_eq_append_getElem hlt]
    exact ih k (i + 1) (by omega) (by omega)
theorem Bytes_is (k : Nat) (l : List Int) (hn : l.length ≤ 140737488351232) (hk : l.length < k) : annexref_Bytes.f k l = some l := by
  unfold annexref_Bytes.f
  exact Bytes_l l hn l.length k 0 (by omega) hk

theorem Mend_is (k : Nat) (l : List Int) (want : Int) (hn : l.length ≤ 1048576) : sum_Mend.f k l want = some (Mend.mendN l want) := by
  unfold sum_Mend.f
  rw [if_pos hn]

theorem placeN (at_ : Int) (n : Nat) (hn : 0 < n) (hn2 : n ≤ 1048576) (h : (Lit.int .i64 at_).wf = true) : ∃ p : Nat, p < n ∧ Int.tmod (wrap64 ((Int.tmod at_ (n : Int)) + (n : Int))) (n : Int) = (p : Int) := by
  have h1 : Int.tmod at_ (n : Int) < (n : Int) := Int.tmod_lt_of_pos _ (by omega)
  have h2 : -(n : Int) < Int.tmod at_ (n : Int) := Int.lt_tmod_of_pos _ (by omega)
  have w : wrap64 ((Int.tmod at_ (n : Int)) + (n : Int)) = (Int.tmod at_ (n : Int)) + (n : Int) := by unfold wrap64; omega
  rw [w]
  have h3 : 0 ≤ (Int.tmod at_ (n : Int)) + (n : Int) := by omega
  rw [Int.tmod_eq_emod_of_nonneg h3]
  have h4 := Int.emod_nonneg ((Int.tmod at_ (n : Int)) + (n : Int)) (show (n : Int) ≠ 0 by omega)
  have h5 := Int.emod_lt_of_pos ((Int.tmod at_ (n : Int)) + (n : Int)) (show (0 : Int) < n by omega)
  exact ⟨(((Int.tmod at_ (n : Int)) + (n : Int)) % (n : Int)).toNat, by omega, by omega⟩

theorem SumMended_small (l : List Int) (at_ x : Int) (hn : l.length ≤ 1048576) (hb : ∀ y ∈ l, (Lit.int .u8 y).wf = true) (hat : (Lit.int .i64 at_).wf = true) (hx : (Lit.int .u8 x).wf = true) : ∃ k, annexlaw2_SumMended.f k l at_ x = some true := by
  refine ⟨l.length + 20, ?_⟩
  have early : ∀ k, 0 < k → annexlaw2_SumMended.j0 k l at_ x true true = some true := by
    intro k hk
    obtain ⟨k, rfl⟩ : ∃ m, k = m + 1 := ⟨k - 1, by omega⟩
    simp only [annexlaw2_SumMended.j0]
    rw [if_pos trivial]
  unfold annexlaw2_SumMended.f
  rw [known_is _ (by omega), Option.bind_some, if_pos rfl]
  by_cases h0 : (l.length : Int) = 0
  · rw [if_pos h0]; exact early _ (by omega)
  rw [if_neg h0]
  by_cases hx0 : x = 0
  · subst hx0; exact early _ (by omega)
  have hxb : (x == 0) = false := by simpa using hx0
  rw [hxb]
  show annexlaw2_SumMended.j0 ((l.length + 19) + 1) l at_ x true false = some true
  simp only [annexlaw2_SumMended.j0]
  obtain ⟨p, hp, he⟩ := placeN at_ l.length (by omega) hn hat
  rw [if_neg (by simp), if_neg h0, Bytes_is _ l (by omega) (by omega), Option.bind_some, he, if_pos (by omega), if_pos (by omega)]
  simp only [Int.toNat_natCast]
  rw [Option.bind_some, Sum_is _ l (by omega) (by omega), Option.bind_some]
  have hlp : MendPlain.IsB l[p] := wf8_range (hb _ (List.getElem_mem hp))
  have hxb2 : MendPlain.IsB x := wf8_range hx
  have hr := MendPlain.xor8_b hlp hxb2
  have hne := MendPlain.xor8_ne hlp hxb2 hx0
  rw [rd_at l p hp]
  generalize hy : Go.bits .xor .u8 l[p] x = y at *
  have hlen : (l.set p y).length = l.length := List.length_set
  rw [Mend_is _ (l.set p y) _ (by omega), Option.bind_some]
  have hw : MendPlain.IsU (moreN 14695981039346656037 l) := moreN_range _ _ (by decide) (by decide)
  have hback : (l.set p y).set p l[p] = l := by rw [List.set_set]; exact List.set_getElem_self hp
  have hhit : Mend.hit (l.set p y) (moreN 14695981039346656037 l) p = true := by
    refine MendPlain.change_found (y := l[p]) hw (by omega) hlp ?_
    rw [hback]
  rcases MendPlain.mend_cases (l.set p y) (moreN 14695981039346656037 l) with ⟨h1, h2⟩ | ⟨h1, k, hk, hk1, hk2, h2⟩ | ⟨h1, h2, h3⟩
  · exfalso
    refine hne (MendPlain.set_unique hp hw hr hlp h1 ?_)
    rw [List.set_getElem_self hp]
  · rw [h2]
    have hkp : k ≤ p := by
      rcases Nat.lt_or_ge p k with h | h
      · have := hk2 p h; rw [hhit] at this; cases this
      · exact h
    simp only
    rw [if_pos trivial, if_neg (by omega), if_neg (by omega), if_pos (by omega), if_pos (by omega)]
    simp only [Int.toNat_natCast]
    rw [Sum_is _ _ (by rw [List.length_set]; omega) (by rw [List.length_set]; omega), Option.bind_some, MendPlain.hit_mends hw hk]
    simp
  · have := h2 p (by omega); rw [hhit] at this; cases this

end Go.Proofs.Ytmddjfplkifdmaa.Pure
