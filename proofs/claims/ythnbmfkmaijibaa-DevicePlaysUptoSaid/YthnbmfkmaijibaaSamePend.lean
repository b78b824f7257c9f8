/- SamePendings: what it answers of two lists of writes. -/
import Derived.Test.YthnbmfkmaijibaaDevSep
import Derived.Test.YthnbmfkmaijibaaPDeviceReadsx
namespace Go.Proofs.Ythnbmfkmaijibaa.Help
open Go.Proofs Go.RowKit Go.Proofs.YthnbmfkmaijibaaW.PrintWords Go.Proofs.YthnbmfkmaijibaaW.PrintLast Go.Proofs.YthnbmfkmaijibaaW.PrintMore Go.Proofs.Ythnbmfkmaijibaa.IMap Go.Proofs.Ythnbmfkmaijibaa.Dev Go.Proofs.Ythnbmfkmaijibaa.PDeviceReads Go.Proofs.Ythnbmfkmaijibaa.Sep
set_option linter.unusedVariables false
set_option linter.unusedSimpArgs false
def sp (x : Int × List Int) : S41 := ⟨x.1, x.2⟩
theorem rd_T {l : List (Int × List Int)} {i : Nat} (h : i < l.length) : rd_T41 (l.map sp) (i : Int) = sp l[i] := by simp [rd_T41, h]
theorem samep_l (a b : List (Int × List Int)) (hab : a.length = b.length) (hn : a.length ≤ 140737488355328) (D : Nat) (hD : ∀ x ∈ a, x.2.length ≤ D) (hD2 : D ≤ 140737488355328) :
    ∀ (d k : Nat) (i : Nat), i + d = a.length → d + D + 1 < k → annexref_SamePendings.l0 k (a.map sp) (b.map sp) (i : Int) = some (decide (a.drop i = b.drop i)) := by
  intro d
  induction d with
  | zero =>
    intro k i hi hk
    obtain ⟨k, rfl⟩ : ∃ m, k = m + 1 := ⟨k - 1, by omega⟩
    simp only [annexref_SamePendings.l0]
    rw [if_neg (by rw [List.length_map]; omega), List.drop_of_length_le (by omega), List.drop_of_length_le (by omega)]
    simp
  | succ d ih =>
    intro k i hi hk
    obtain ⟨k, rfl⟩ : ∃ m, k = m + 1 := ⟨k - 1, by omega⟩
    have hlt : i < a.length := by omega
    have hlt2 : i < b.length := by omega
    have hd := hD a[i] (List.getElem_mem _)
    have hs := at_rounds (annexref_SameBytes.mono a[i].2 b[i].2) (k := a[i].2.length + 1) (k' := k) (by omega) (same_is a[i].2 b[i].2 (by omega))
    simp only [annexref_SamePendings.l0]
    rw [if_pos (by rw [List.length_map]; omega), if_pos (by omega), if_pos (by rw [List.length_map]; omega), rd_T hlt, rd_T hlt2, wrap_up hlt (by omega), ih k (i + 1) (by omega) (by omega)]
    show ((annexref_SameBytes.f k a[i].2 b[i].2).bind fun t => if t = true then (if a[i].1 = b[i].1 then some (decide (a.drop (i + 1) = b.drop (i + 1))) else some false) else some false) = _
    rw [hs, List.drop_eq_getElem_cons hlt, List.drop_eq_getElem_cons hlt2]
    simp only [Option.bind_some]
    by_cases e2 : a[i].2 = b[i].2
    · rw [if_pos (decide_eq_true e2)]
      by_cases e1 : a[i].1 = b[i].1
      · rw [if_pos e1]
        congr 1
        exact decide_eq_decide.2 ⟨fun h => by rw [h, Prod.ext e1 e2], fun h => (List.cons.inj h).2⟩
      · rw [if_neg e1]
        congr 1
        exact (decide_eq_false fun h => e1 (by rw [(List.cons.inj h).1])).symm
    · rw [if_neg (by simpa using e2)]
      congr 1
      exact (decide_eq_false fun h => e2 (by rw [(List.cons.inj h).1])).symm
theorem samep_is (a b : List (Int × List Int)) (hn : a.length ≤ 140737488355328) (D : Nat) (hD : ∀ x ∈ a, x.2.length ≤ D) (hD2 : D ≤ 140737488355328) : annexref_SamePendings.f (a.length + D + 2) (a.map sp) (b.map sp) = some (decide (a = b)) := by
  unfold annexref_SamePendings.f
  by_cases h : a.length = b.length
  · rw [if_pos (by rw [List.length_map, List.length_map]; omega)]
    have := samep_l a b h hn D hD hD2 a.length (a.length + D + 2) 0 (by omega) (by omega)
    simpa using this
  · rw [if_neg (by rw [List.length_map, List.length_map]; omega)]
    have : a ≠ b := fun e => h (by rw [e])
    simp [this]
section
variable {w0 w w' : World} {R : List Asn}
/-- A list of writes reads as the print has it. -/
theorem Sep.pend_C {A : Option Addr} {n c : Nat} {l : List (Int × List Int)} {qs : List (Int × List Int × Value)} (S : Sep w0 w (PendA (.slice A n c) l qs :: R)) (hl : l.length = n) : Kd.C k41 w A n (l.map sp) ∧ n ≤ c ∧ n ≤ 9223372036854775807 := by
  obtain ⟨F, h, _⟩ := S.hd
  have hq : qs.length = n := by rw [← hl, h.1.is, List.length_map]
  have hrow := h.1.row
  rw [hq] at hrow
  have hcap : n ≤ c ∧ n ≤ 9223372036854775807 := by
    rcases hrow.2 with ⟨h1, h2⟩ | ⟨g, cap, cur, h1, _, _, h2, h3, _⟩
    · cases h1; omega
    · cases h1
      unfold maxLen at h3
      omega
  refine ⟨⟨by rw [List.length_map]; exact hl, hcap.2, fun hn => ?_⟩, hcap⟩
  obtain ⟨g, _, rfl, _⟩ := S.pend_at hl 0 hn
  refine ⟨_, rfl, fun j p hp => ?_⟩
  have hj : j < n := by
    have := (List.getElem?_eq_some_iff.1 hp).1
    rw [List.length_map] at this
    omega
  obtain ⟨g', x, e, _, hx, c0, c1, ho⟩ := S.pend_at hl j hj
  cases e
  have hp' : p = sp (x.1, x.2.1) := by
    rw [List.getElem?_map, hx] at hp
    exact (Option.some.inj hp).symm
  subst hp'
  obtain ⟨A1, c1', e1⟩ := own_slice ho
  rw [e1] at c1 ho
  refine ⟨[.int .i64 x.1, .slice A1 x.2.1.length c1'], rfl, k41_mk w (sp (x.1, x.2.1)) (own_cap ho) (Kd.C_of_reads (enc := Value.int .u8) (d := (0 : Int)) (h1 := fun _ => rfl) (reads_own ho)), fun i u hu => ?_⟩
  rw [add_plain]
  match i, hu with
  | 0, hu => cases hu; exact c0
  | 1, hu => cases hu; exact c1
  | i + 2, hu => simp at hu
theorem samep_any (w : World) (A B : Option Addr) (n m c1 c2 : Nat) (a b : List (Int × List Int)) (ha : Kd.C k41 w A n (a.map sp)) (hb : Kd.C k41 w B m (b.map sp)) (h1 : n ≤ c1) (h2 : m ≤ c2) (hn : n ≤ 140737488355328) (hD : ∀ x ∈ a, x.2.length ≤ 140737488355328) :
    Calls Try.prog 26 #[.slice A n c1, .slice B m c2] w fun e w' => e = .returned (.bool (decide (a = b))) ∧ Below w.heap.size w w' := by
  have ea : (a.map sp).length = n := ha.1
  have eb : (b.map sp).length = m := hb.1
  have el : a.length = n := by rw [← ea, List.length_map]
  subst ea
  subst eb
  exact (annexref_SamePendings.calls _ A c1 (a.map sp) B c2 (b.map sp) _ w ha h1 hb h2 (samep_is a b (by omega) 140737488355328 hD (Nat.le_refl _))).mono fun e w' h => ⟨h.1, h.2.below⟩
theorem samep_t {A B : Option Addr} {n m c1 c2 : Nat} {l l' : List (Int × List Int)} {qs qs' : List (Int × List Int × Value)} (S : Sep w0 w (PendA (.slice A n c1) l qs :: PendA (.slice B m c2) l' qs' :: R)) (hl : l.length = n) (hl' : l'.length = m) (e : l = l') (hn : n ≤ 140737488355328) (hD : ∀ x ∈ l, x.2.length ≤ 140737488355328) :
    Calls Try.prog 26 #[.slice A n c1, .slice B m c2] w fun e w' => e = .returned (.bool true) ∧ Sep w0 w' R := by
  obtain ⟨h1, h2, _⟩ := Sep.pend_C S hl
  obtain ⟨h3, h4, _⟩ := Sep.pend_C S.swap hl'
  refine (samep_any w A B n m c1 c2 l l' h1 h3 h2 h4 hn hD).mono ?_
  rintro _ w' ⟨h, b⟩
  rw [decide_eq_true e] at h
  exact ⟨h, (S.drop.drop).calm b⟩
end
end Go.Proofs.Ythnbmfkmaijibaa.Help
