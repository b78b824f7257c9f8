/- The laws' helpers: what they answer; `known`. -/
import Derived.Test.YthnbmfkmaijibaaDevPend
import Derived.Test.YthnbmfkmaijibaaPDeviceReadsx
namespace Go.Proofs.Ythnbmfkmaijibaa.Help
open Go.Proofs Go.RowKit Go.Proofs.YthnbmfkmaijibaaW.PrintWords Go.Proofs.YthnbmfkmaijibaaW.PrintLast Go.Proofs.YthnbmfkmaijibaaW.PrintMore Go.Proofs.Ythnbmfkmaijibaa.IMap Go.Proofs.Ythnbmfkmaijibaa.Dev Go.Proofs.Ythnbmfkmaijibaa.PDeviceReads
set_option linter.unusedVariables false
set_option linter.unusedSimpArgs false
theorem rd_at (l : List Int) (i : Nat) (h : i < l.length) : rd l (i : Int) = l[i] := by simp [rd, h]
theorem wrap_up {i n : Nat} (h : i < n) (hn : n ≤ 140737488355328) : wrap64 ((i : Int) + 1) = ((i + 1 : Nat) : Int) := by unfold wrap64; omega
theorem full_l (x : Int) : ∀ (d k : Nat) (i : Nat) (l : List Int), i + d = l.length → d < k → l.length ≤ 140737488355328 → annexlaw5_full.l0 k x l (i : Int) = some (l.take i ++ List.replicate d x) := by
  intro d
  induction d with
  | zero =>
    intro k i l hi hk hn
    obtain ⟨k, rfl⟩ : ∃ m, k = m + 1 := ⟨k - 1, by omega⟩
    simp only [annexlaw5_full.l0]
    rw [if_neg (by omega), List.take_of_length_le (by omega)]
    simp
  | succ d ih =>
    intro k i l hi hk hn
    obtain ⟨k, rfl⟩ : ∃ m, k = m + 1 := ⟨k - 1, by omega⟩
    have hlt : i < l.length := by omega
    simp only [annexlaw5_full.l0]
    rw [if_pos (by omega), if_pos (by omega), wrap_up hlt (by omega), Int.toNat_natCast, ih k (i + 1) (l.set i x) (by simp; omega) (by omega) (by simp; omega)]
    congr 1
    have e : (l.set i x).take (i + 1) = l.take i ++ [x] := by
      rw [List.take_succ_eq_append_getElem (by simpa using hlt), List.take_set_of_le (by omega)]
      simp
    rw [e, List.append_assoc]
    rfl
theorem full_is (x : Int) : annexlaw5_full.f 513 x = some (List.replicate 512 x) := by
  unfold annexlaw5_full.f
  rw [if_pos (by decide)]
  have := full_l x 512 513 0 (List.replicate 512 0) (by rw [List.length_replicate]) (by omega) (by rw [List.length_replicate]; decide)
  rw [List.take_zero, List.nil_append] at this
  exact this
theorem full_any (x : Int) (w : World) : Calls Try.prog 21 #[.int .u8 x] w fun e w' => ∃ v, e = .returned v ∧ w'.ownsRow w.heap.size 5 1 v 512 (nums .u8 (List.replicate 512 x)) ∧ Below w.heap.size w w' :=
  (annexlaw5_full.calls 513 x _ w (full_is x)).mono fun e w' ⟨v, h1, h2, h3⟩ => ⟨v, h1, by have := Kd.own_of_R h2; rw [List.length_replicate] at this; exact this, h3⟩
theorem same_l (a b : List Int) (hab : a.length = b.length) (hn : a.length ≤ 140737488355328) : ∀ (d k : Nat) (i : Nat), i + d = a.length → d < k → annexref_SameBytes.l0 k a b (i : Int) = some (decide (a.drop i = b.drop i)) := by
  intro d
  induction d with
  | zero =>
    intro k i hi hk
    obtain ⟨k, rfl⟩ : ∃ m, k = m + 1 := ⟨k - 1, by omega⟩
    simp only [annexref_SameBytes.l0]
    rw [if_neg (by omega), List.drop_of_length_le (by omega), List.drop_of_length_le (by omega)]
    simp
  | succ d ih =>
    intro k i hi hk
    obtain ⟨k, rfl⟩ : ∃ m, k = m + 1 := ⟨k - 1, by omega⟩
    have hlt : i < a.length := by omega
    have hlt2 : i < b.length := by omega
    simp only [annexref_SameBytes.l0]
    rw [if_pos (by omega), if_pos (by omega), if_pos (by omega), rd_at a i hlt, rd_at b i hlt2, wrap_up hlt (by omega), ih k (i + 1) (by omega) (by omega), List.drop_eq_getElem_cons hlt, List.drop_eq_getElem_cons hlt2]
    by_cases e : a[i] = b[i]
    · rw [if_pos e]
      congr 1
      exact decide_eq_decide.2 ⟨fun h => by rw [e, h], fun h => (List.cons.inj h).2⟩
    · rw [if_neg e]
      congr 1
      exact (decide_eq_false fun h => e (List.cons.inj h).1).symm
theorem same_is (a b : List Int) (hn : a.length ≤ 140737488355328) : annexref_SameBytes.f (a.length + 1) a b = some (decide (a = b)) := by
  unfold annexref_SameBytes.f
  by_cases h : a.length = b.length
  · rw [if_pos (by omega)]
    have := same_l a b h hn a.length (a.length + 1) 0 (by omega) (by omega)
    simpa using this
  · rw [if_neg (by omega)]
    have : a ≠ b := fun e => h (by rw [e])
    simp [this]
theorem same_any (w : World) (A B : Option Addr) (n m c1 c2 : Nat) (a b : List Int) (hna : a.length = n) (hnb : b.length = m) (ha : ReadsInt w .u8 A n a) (hb : ReadsInt w .u8 B m b) (h1 : n ≤ c1) (h2 : m ≤ c2) (hn : n ≤ 140737488355328) :
    Calls Try.prog 23 #[.slice A n c1, .slice B m c2] w fun e w' => e = .returned (.bool (decide (a = b))) ∧ Below w.heap.size w w' := by
  subst hna
  subst hnb
  exact (annexref_SameBytes.calls (a.length + 1) A c1 a B c2 b _ w (Kd.C_of_reads (enc := Value.int .u8) (d := (0 : Int)) (h1 := fun _ => rfl) ha) h1 (Kd.C_of_reads (enc := Value.int .u8) (d := (0 : Int)) (h1 := fun _ => rfl) hb) h2 (same_is a b hn)).mono fun e w' h => ⟨h.1, h.2.below⟩
theorem zero_l (l : List Int) (hn : l.length ≤ 140737488355328) : ∀ (d k : Nat) (i : Nat), i + d = l.length → d < k → annexref_AllZero.l0 k l (i : Int) = some ((l.drop i).all (· == 0)) := by
  intro d
  induction d with
  | zero =>
    intro k i hi hk
    obtain ⟨k, rfl⟩ : ∃ m, k = m + 1 := ⟨k - 1, by omega⟩
    simp only [annexref_AllZero.l0]
    rw [if_neg (by omega), List.drop_of_length_le (by omega)]
    rfl
  | succ d ih =>
    intro k i hi hk
    obtain ⟨k, rfl⟩ : ∃ m, k = m + 1 := ⟨k - 1, by omega⟩
    have hlt : i < l.length := by omega
    simp only [annexref_AllZero.l0]
    rw [if_pos (by omega), if_pos (by omega), rd_at l i hlt, wrap_up hlt (by omega), ih k (i + 1) (by omega) (by omega), List.drop_eq_getElem_cons hlt]
    by_cases e : l[i] = 0
    · rw [if_pos e, List.all_cons, e]
      rfl
    · have e2 : (l[i] == 0) = false := beq_eq_false_iff_ne.2 e
      rw [if_neg e, List.all_cons, e2]
      rfl
theorem zero_any (w : World) (A : Option Addr) (n c : Nat) (l : List Int) (hl : l.length = n) (ha : ReadsInt w .u8 A n l) (h1 : n ≤ c) (hn : n ≤ 140737488355328) : Calls Try.prog 46 #[.slice A n c] w fun e w' => e = .returned (.bool (l.all (· == 0))) ∧ Below w.heap.size w w' := by
  subst hl
  have h0 := zero_l l hn l.length (l.length + 1) 0 (by omega) (by omega)
  exact (annexref_AllZero.calls (l.length + 1) A c l _ w (Kd.C_of_reads (enc := Value.int .u8) (d := (0 : Int)) (h1 := fun _ => rfl) ha) h1 (by unfold annexref_AllZero.f; simpa using h0)).mono fun e w' h => ⟨h.1, h.2.below⟩
theorem num_any (x : Int) (w : World) : Calls Try.prog 19 #[.int .i64 x] w fun e w' => e = .returned (.int .i64 x) ∧ w' = w := by
  go_enter Try.func19, Try.ntmps19
  go_wp2
  go_ret
  exact ⟨rfl, rfl⟩
end Go.Proofs.Ythnbmfkmaijibaa.Help
