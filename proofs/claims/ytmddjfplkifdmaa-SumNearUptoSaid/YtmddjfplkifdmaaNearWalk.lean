/- The walk of SumNear. -/
import Derived.Test.YtmddjfplkifdmaaPSumNearx
import Derived.Test.YtmddjfplkifdmaaNearPlain
import Derived.StillTailTactics
import Derived.RegionTactic
import Derived.Outline
namespace Go.Proofs.Ytmddjfplkifdmaa.Near
open Go.RowKit Go.Proofs.YtmddjfplkifdmaaW.PrintWords Go.Proofs.YtmddjfplkifdmaaW.PrintLast Go.Proofs.YtmddjfplkifdmaaW.PrintMore Go.Proofs.Ytmddjfplkifdmaa.SumPlain Go.Proofs.Ytmddjfplkifdmaa.NearPlain Go.Proofs.Ytmddjfplkifdmaa.MendPlain Go.Proofs.Ytmddjfplkifdmaa.PSumNear
set_option linter.unusedVariables false
set_option linter.unusedSimpArgs false

theorem More_l (l : List Int) (hn : l.length ≤ 140737488351232) : ∀ (d k : Nat) (h : Int) (i : Nat), i + d = l.length → d < k → sum_More.l0 k h l (l.length : Int) (i : Int) = some (moreN h (l.drop i)) := by
  intro d
  induction d with
  | zero =>
    intro k h i hi hk
    obtain ⟨k, rfl⟩ : ∃ m, k = m + 1 := ⟨k - 1, by omega⟩
    simp only [sum_More.l0]
    rw [if_neg (by omega), List.drop_of_length_le (by omega)]
    rfl
  | succ d ih =>
    intro k h i hi hk
    obtain ⟨k, rfl⟩ : ∃ m, k = m + 1 := ⟨k - 1, by omega⟩
    have hlt : i < l.length := by omega
    simp only [sum_More.l0]
    rw [if_pos (by omega), if_pos (by omega), if_pos (by omega), rd_at l i hlt, wrap_up hlt (by omega)]
    simp only [sum_step.f, Option.bind_some]
    rw [ih k _ (i + 1) (by omega) (by omega), List.drop_eq_getElem_cons hlt]
    rfl
theorem More_is (k : Nat) (h : Int) (l : List Int) (hn : l.length ≤ 140737488351232) (hk : l.length < k) : sum_More.f k h l = some (moreN h l) := by
  unfold sum_More.f
  have := More_l l hn l.length k h 0 (by omega) hk
  simpa using this

theorem Sum_is (k : Nat) (l : List Int) (hn : l.length ≤ 140737488351232) (hk : l.length < k) : sum_Sum.f k l = some (moreN 14695981039346656037 l) := by
  unfold sum_Sum.f
  rw [More_is k _ l hn hk]
  rfl

theorem Bytes_l (l : List Int) (hn : l.length ≤ 140737488351232) : ∀ (d k : Nat) (i : Nat), i + d = l.length → d < k → annexref_Bytes.l0 k l (l.take i) (i : Int) = some l := by
  intro d
  induction d with
  | zero =>
    intro k i hi hk
    obtain ⟨k, rfl⟩ : ∃ m, k = m + 1 := ⟨k - 1, by omega⟩
    simp only [annexref_Bytes.l0]
    rw [if_neg (by omega), List.take_of_length_le (by omega)]
  | succ d ih =>
    intro k i hi hk
    obtain ⟨k, rfl⟩ : ∃ m, k = m + 1 := ⟨k - 1, by omega⟩
    have hlt : i < l.length := by omega
    have hl : (l.take i).length ≤ i := List.length_take_le _ _
    simp only [annexref_Bytes.l0]
    rw [if_pos (by omega), if_pos (by omega), if_pos (by omega), rd_at l i hlt, wrap_up hlt (by omega), ← List.take_succ_eq_append_getElem hlt]
    exact ih k (i + 1) (by omega) (by omega)
theorem Bytes_is (k : Nat) (l : List Int) (hn : l.length ≤ 140737488351232) (hk : l.length < k) : annexref_Bytes.f k l = some l := by
  unfold annexref_Bytes.f
  exact Bytes_l l hn l.length k 0 (by omega) hk

theorem placeN (at_ : Int) (n : Nat) (hn : 0 < n) (hn2 : n ≤ 1048576) (h : (Lit.int .i64 at_).wf = true) : ∃ p : Nat, p < n ∧ Int.tmod (wrap64 ((Int.tmod at_ (n : Int)) + (n : Int))) (n : Int) = (p : Int) := by
  have h1 : Int.tmod at_ (n : Int) < (n : Int) := Int.tmod_lt_of_pos _ (by omega)
  have h2 : -(n : Int) < Int.tmod at_ (n : Int) := Int.lt_tmod_of_pos _ (by omega)
  have w : wrap64 ((Int.tmod at_ (n : Int)) + (n : Int)) = (Int.tmod at_ (n : Int)) + (n : Int) := by unfold wrap64; omega
  rw [w]
  have h3 : 0 ≤ (Int.tmod at_ (n : Int)) + (n : Int) := by omega
  rw [Int.tmod_eq_emod_of_nonneg h3]
  have h4 := Int.emod_nonneg ((Int.tmod at_ (n : Int)) + (n : Int)) (show (n : Int) ≠ 0 by omega)
  have h5 := Int.emod_lt_of_pos ((Int.tmod at_ (n : Int)) + (n : Int)) (show (0 : Int) < n by omega)
  exact ⟨(((Int.tmod at_ (n : Int)) + (n : Int)) % (n : Int)).toNat, by omega, by omega⟩

theorem more_any (h : Int) (l : List Int) (A : Option Addr) (c : Nat) (w : World) (hr : Kd.C (Kd.int .u8) w A l.length l) (hc : l.length ≤ c) (hn : l.length ≤ 1048576) : Calls Try.prog 20 #[.int .u64 h, .slice A l.length c] w fun e w' => e = .returned (.int .u64 (moreN h l)) ∧ Below w.heap.size w w' :=
  (sum_More.calls (l.length + 1) h A c l _ w hr hc (More_is _ h l (by omega) (by omega))).mono fun e w' h => ⟨h.1, h.2.below⟩
theorem sum_any (l : List Int) (A : Option Addr) (c : Nat) (w : World) (hr : Kd.C (Kd.int .u8) w A l.length l) (hc : l.length ≤ c) (hn : l.length ≤ 1048576) : Calls Try.prog 17 #[.slice A l.length c] w fun e w' => e = .returned (.int .u64 (moreN 14695981039346656037 l)) ∧ Below w.heap.size w w' :=
  (sum_Sum.calls (l.length + 1) A c l _ w hr hc (Sum_is _ l (by omega) (by omega))).mono fun e w' h => ⟨h.1, h.2.below⟩
theorem bytes_any (l : List Int) (A : Option Addr) (c : Nat) (w : World) (hr : Kd.C (Kd.int .u8) w A l.length l) (hc : l.length ≤ c) (hn : l.length ≤ 1048576) : Calls Try.prog 25 #[.slice A l.length c] w fun e w' => ∃ v : Value, e = .returned v ∧ w'.ownsRow w.heap.size 5 1 v l.length (nums .u8 l) ∧ Below w.heap.size w w' :=
  (annexref_Bytes.calls (l.length + 1) A c l _ w hr hc (Bytes_is _ l (by omega) (by omega))).mono fun e w' ⟨v, h1, h2, h3⟩ => ⟨v, h1, Kd.own_of_R h2, h3⟩
/-- The four bytes. -/
def four (x0 x1 x2 x3 : Int) (j : Nat) : Int := [x0, x1, x2, x3].getD j 0
theorem below_call {w X w' : World} (k : Below X.heap.size X w') (h : Below w.heap.size w X) : Below w.heap.size w w' := h.trans (k.mono h.size)
theorem known_9 : annexlaw2_known.f 9 = some true := by decide +kernel
theorem known_any (w : World) : Calls Try.prog 15 #[] w fun e w' => e = .returned (.bool true) ∧ Below w.heap.size w w' := annexlaw2_known.calls 9 true w known_9
set_option maxHeartbeats 4000000 in
set_option maxRecDepth 100000 in
theorem near_any (h : Int) (l : List Int) (A : Option Addr) (c : Nat) (at_ : Int) (x0 x1 x2 x3 : Int) (w : World) (hr : Kd.C (Kd.int .u8) w A l.length l) (hc : l.length ≤ c) (hn : l.length ≤ 1048576) (hat : (Lit.int .i64 at_).wf = true) (hh : IsU h) (hbs : Bs l) (hxs : ∀ j, IsB (four x0 x1 x2 x3 j)) :
    Calls Try.prog 9 #[.int .u64 h, .slice A l.length c, .int .i64 at_, .agg #[.int .u8 x0, .int .u8 x1, .int .u8 x2, .int .u8 x3]] w fun e w' => e = .returned (.bool true) ∧ Below w.heap.size w w' := by
  have HR := Aside0.mk hr
  clear hr
  have hn2 : (l.length : Int) ≤ 1048576 := by omega
  by_cases h0 : l.length = 0
  · obtain rfl := List.length_eq_zero_iff.1 h0
    clear h0
    go_enter Try.func9, Try.ntmps9
    go_wp2_with (go_at_call 15; refine (known_any _).mono ?_; rintro e w' ⟨rfl, hb⟩)
    go_ret
    exact ⟨rfl, below_call hb (below_alloc (Below.refl _ _) _)⟩
  · have hpos : (0 : Int) < (l.length : Int) := by omega
    have hne : ((l.length : Int) == 0) = false := beq_eq_false_iff_ne.mpr (by omega)
    have hne2 : ((l.length : Int) != 0) = true := bne_iff_ne.mpr (by omega)
    go_enter Try.func9, Try.ntmps9
    go_wp2_with (go_at_call 15; refine (known_any _).mono ?_; rintro e w' ⟨rfl, hb⟩)
    obtain ⟨p, hp, he⟩ := placeN at_ l.length (by omega) hn hat
    rw [he]
    clear he
    obtain ⟨W1, hW1⟩ : ∃ W1, W1 = w.alloc (.cells #[.int .u8 x0, .int .u8 x1, .int .u8 x2, .int .u8 x3] 34) := ⟨_, rfl⟩
    have HW := Aside0.mk (show Below w.heap.size w W1 by rw [hW1]; exact below_alloc (Below.refl _ _) _)
    have HX : Aside0 (W1.heap[w.heap.size]? = some (.cells #[.int .u8 x0, .int .u8 x1, .int .u8 x2, .int .u8 x3] 34 (0, 0))) := ⟨by rw [hW1]; exact heap_alloc_new w _⟩
    rw [← hW1] at hb
    clear hW1
    refine (bytes_any l A c _ (Kd.C_below HR.out (below_call hb HW.out)) hc hn).mono ?_
    rintro e w1 ⟨v, rfl, hown, hb1⟩
    have HO := Aside0.mk hown
    have HB := Aside0.mk (below_call hb1 hb)
    have hsz : W1.heap.size ≤ w'.heap.size := hb.size
    clear hown hb hb1
    go_wp2
    go_loopw [11, 12] (fun u i wq => ∃ k : Nat, k ≤ 4 ∧ p + k ≤ l.length ∧ i = .int .i64 (k : Int) ∧ u = .bool (unl (four x0 x1 x2 x3) k) ∧ Aside0 (wq.ownsRow w'.heap.size 5 1 v (xl l p (four x0 x1 x2 x3) k).length (nums .u8 (xl l p (four x0 x1 x2 x3) k))) ∧ Aside0 (Below W1.heap.size W1 wq)) (fun _ i _ => 4 - (intOf i).toNat)
    case atStart => exact ⟨0, by omega, by omega, rfl, rfl, HO, HB⟩
    case round =>
      clear HO HB
      obtain ⟨k, hk, hpk, rfl, rfl, HO, HB⟩ := hrel
      obtain ⟨Ac, cc, rfl⟩ := own_slice HO.out
      have HL := Aside0.mk (xl_len l p (four x0 x1 x2 x3) k)
      by_cases hlt : k < 4 ∧ p + k < l.length
      · obtain ⟨hk4, hpl⟩ := hlt
        have d1 : decide ((k : Int) < 4) = true := decide_eq_true (by omega)
        have d2 : decide ((p : Int) + (k : Int) < (l.length : Int)) = true := decide_eq_true (by omega)
        have hs1 : IntKind.i64.wrap ((p : Int) + (k : Int)) = (p : Int) + (k : Int) := by rw [IntKind.wrap_i64]; omega
        have hs2 : (0 : Int) ≤ (p : Int) + (k : Int) := by omega
        have hs3 : (p : Int) + (k : Int) < ((xl l p (four x0 x1 x2 x3) k).length : Int) := by rw [HL.out]; omega
        have hs4 : ((p : Int) + (k : Int)).toNat = p + k := by omega
        obtain ⟨g, cap, e, hgb, hgl⟩ := HO.out.form (by rw [HL.out]; omega)
        cases e
        obtain ⟨hy, hyf⟩ := own_at HO.out ((p : Int) + (k : Int)) hs2 (by omega)
        simp only [hs4] at hy hyf
        have hxk : wr.cell? ⟨w.heap.size, k, none⟩ = some (.int .u8 (four x0 x1 x2 x3 k)) := by
          refine pw_cell_below HB.out ((blk_cell HX.out k).trans ?_)
          match k, hk4 with
          | 0, _ => rfl
          | 1, _ => rfl
          | 2, _ => rfl
          | 3, _ => rfl
        have hset : xl l p (four x0 x1 x2 x3) (k + 1) = (xl l p (four x0 x1 x2 x3) k).set (p + k) (Go.bits .xor .u8 (rd (xl l p (four x0 x1 x2 x3) k) ((p : Int) + (k : Int))) (four x0 x1 x2 x3 k)) := rfl
        have Hset := Aside0.mk hset
        clear hset
        have HO2 := own_store (pw_own_below HO.out (below_drew (Below.refl _ _))) ((p : Int) + (k : Int)) (Go.bits .xor .u8 (rd (xl l p (four x0 x1 x2 x3) k) ((p : Int) + (k : Int))) (four x0 x1 x2 x3 k))
        rw [hs4, ← Hset.out] at HO2
        have HO3 := Aside0.mk HO2.1
        have HB3 := Aside0.mk (below_set (j := p + k) (v := .int .u8 (Go.bits .xor .u8 (rd (xl l p (four x0 x1 x2 x3) k) ((p : Int) + (k : Int))) (four x0 x1 x2 x3 k))) (below_drew HB.out) (show W1.heap.size ≤ g by omega))
        have HB4 := below_set (j := p + k) (v := .int .u8 (Go.bits .xor .u8 (rd (xl l p (four x0 x1 x2 x3) k) ((p : Int) + (k : Int))) (four x0 x1 x2 x3 k))) HB.out (show W1.heap.size ≤ g by omega)
        have hxk2 : (wr.setCell ⟨g, p + k, none⟩ (.int .u8 (Go.bits .xor .u8 (rd (xl l p (four x0 x1 x2 x3) k) ((p : Int) + (k : Int))) (four x0 x1 x2 x3 k)))).cell? ⟨w.heap.size, k, none⟩ = some (.int .u8 (four x0 x1 x2 x3 k)) := by
          refine pw_cell_below HB4 ((blk_cell HX.out k).trans ?_)
          match k, hk4 with
          | 0, _ => rfl
          | 1, _ => rfl
          | 2, _ => rfl
          | 3, _ => rfl
        clear HO2 HB4
        have hkk : (k : Int) < 4 := by omega
        have hu1 : Aside0 (unl (four x0 x1 x2 x3) (k + 1) = (unl (four x0 x1 x2 x3) k || (four x0 x1 x2 x3 k != 0))) := ⟨rfl⟩
        cases hu : unl (four x0 x1 x2 x3) k with
        | true =>
          go_wp2
          go_still_tail 15, (by kernel_rfl)
          change wpList _ _ _ _ _ wr.drew
          go_wp2
          exact ⟨⟨k + 1, by omega, by omega, by go_num, by rw [hu1.out, hu]; rfl, ⟨by have h9 := HO3.out; rw [xl_len] at h9; rw [xl_len l p _ (k + 1), xl_len l p _ k]; exact h9⟩, HB3⟩, by simp [intOf]; omega⟩
        | false =>
          go_wp2
          go_still_tail 15, (by kernel_rfl)
          change wpList _ _ _ _ _ wr.drew
          go_wp2
          exact ⟨⟨k + 1, by omega, by omega, by go_num, by rw [hu1.out, hu, Bool.false_or], ⟨by have h9 := HO3.out; rw [xl_len] at h9; rw [xl_len l p _ (k + 1), xl_len l p _ k]; exact h9⟩, HB3⟩, by simp [intOf]; omega⟩
      · have hmm : k ≤ 4 := hk
        obtain ⟨hc2, hC⟩ : ((xl l p (four x0 x1 x2 x3) k).length ≤ cc) ∧ Kd.C (Kd.int .u8) wr Ac (xl l p (four x0 x1 x2 x3) k).length (xl l p (four x0 x1 x2 x3) k) := (Kd.R_reads' (Kd.R_of_own HO.out (fun _ _ => trivial) (ok := fun _ => True))).2
        have HC := Aside0.mk hC
        clear hC
        have hxn : (xl l p (four x0 x1 x2 x3) k).length ≤ 1048576 := by rw [HL.out]; exact hn
        have hR : Kd.C (Kd.int .u8) wr A l.length l := Kd.C_below HR.out (below_call HB.out HW.out)
        have HRr := Aside0.mk hR
        clear hR
        have hnear := fun g hg => near l p (four x0 x1 x2 x3) k g hg hbs hxs hmm hpk
        have n1 := Aside0.mk (hnear h hh)
        have n2 := Aside0.mk (hnear 14695981039346656037 offset_u)
        clear hnear
        have hguard : k < 4 → ¬ (p + k < l.length) := fun a b => hlt ⟨a, b⟩
        by_cases hk4 : k < 4
        · have d1 : decide ((k : Int) < 4) = true := decide_eq_true (by omega)
          have d2 : decide ((p : Int) + (k : Int) < (l.length : Int)) = false := decide_eq_false (by have := hguard hk4; omega)
          clear hguard hlt
          go_wp2_with fail
          refine (more_any h l A c _ HRr.out hc hn).mono ?_
          rintro e w2 ⟨rfl, hb2⟩
          have HB2 := Aside0.mk hb2
          clear hb2
          go_wp2_with fail
          refine (more_any h (xl l p (four x0 x1 x2 x3) k) Ac cc _ (Kd.C_below HC.out HB2.out) hc2 hxn).mono ?_
          rintro e w3 ⟨rfl, hb3⟩
          have HB3 := Aside0.mk hb3
          clear hb3
          go_wp2_with fail
          refine (sum_any l A c _ (Kd.C_below (Kd.C_below HRr.out HB2.out) HB3.out) hc hn).mono ?_
          rintro e w4 ⟨rfl, hb4⟩
          have HB4 := Aside0.mk hb4
          clear hb4
          go_wp2_with fail
          refine (sum_any (xl l p (four x0 x1 x2 x3) k) Ac cc _ (Kd.C_below (Kd.C_below (Kd.C_below HC.out HB2.out) HB3.out) HB4.out) hc2 hxn).mono ?_
          rintro e w5 ⟨rfl, hb5⟩
          have HB5 := Aside0.mk hb5
          clear hb5
          have m1 := n1.out
          have m2 := n2.out
          have m3 : (unl (four x0 x1 x2 x3) k == unl (four x0 x1 x2 x3) k) = true := beq_self_eq_true _
          go_wp2
          go_ret
          exact ⟨by simp [m1, m2], below_call HB5.out (below_call HB4.out (below_call HB3.out (below_call HB2.out (below_call HB.out HW.out))))⟩
        · obtain rfl : k = 4 := by omega
          clear hguard hlt
          go_wp2_with fail
          refine (more_any h l A c _ HRr.out hc hn).mono ?_
          rintro e w2 ⟨rfl, hb2⟩
          have HB2 := Aside0.mk hb2
          clear hb2
          go_wp2_with fail
          refine (more_any h (xl l p (four x0 x1 x2 x3) 4) Ac cc _ (Kd.C_below HC.out HB2.out) hc2 hxn).mono ?_
          rintro e w3 ⟨rfl, hb3⟩
          have HB3 := Aside0.mk hb3
          clear hb3
          go_wp2_with fail
          refine (sum_any l A c _ (Kd.C_below (Kd.C_below HRr.out HB2.out) HB3.out) hc hn).mono ?_
          rintro e w4 ⟨rfl, hb4⟩
          have HB4 := Aside0.mk hb4
          clear hb4
          go_wp2_with fail
          refine (sum_any (xl l p (four x0 x1 x2 x3) 4) Ac cc _ (Kd.C_below (Kd.C_below (Kd.C_below HC.out HB2.out) HB3.out) HB4.out) hc2 hxn).mono ?_
          rintro e w5 ⟨rfl, hb5⟩
          have HB5 := Aside0.mk hb5
          clear hb5
          have m1 := n1.out
          have m2 := n2.out
          have m3 : (unl (four x0 x1 x2 x3) 4 == unl (four x0 x1 x2 x3) 4) = true := beq_self_eq_true _
          go_wp2
          go_ret
          exact ⟨by simp [m1, m2], below_call HB5.out (below_call HB4.out (below_call HB3.out (below_call HB2.out (below_call HB.out HW.out))))⟩
end Go.Proofs.Ytmddjfplkifdmaa.Near
