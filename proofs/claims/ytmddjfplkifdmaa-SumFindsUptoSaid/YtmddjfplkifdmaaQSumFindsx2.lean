-- Written by a program of this claim: the kit's print, with contracts of this claim's own for some functions.
import Derived.Test.YtmddjfplkifdmaaQSumFindsx0
import Derived.Test.YtmddjfplkifdmaaQSumFindsx1
namespace Go.Proofs.Ytmddjfplkifdmaa.QSumFinds
open Go.RowKit Go.Proofs.YtmddjfplkifdmaaW.PrintWords Go.Proofs.YtmddjfplkifdmaaW.PrintLast Go.Proofs.YtmddjfplkifdmaaW.PrintMore
attribute [local go_sem] max2_int min2_int max_two min_two max_three min_three max_four min_four   -- for this text's walks alone
set_option linter.unusedVariables false
set_option linter.unusedSimpArgs false

/-! ### annexlaw2_SumFinds: function 13 -/
mutual
def annexlaw2_SumFinds.j0 : Nat → List Int → Int → Int → Int → Bool → List Int → Int → Bool → Option (Bool)
  | 0, _, _, _, _, _, _, _, _ => none
  | k + 1, x0, x1, x6, x7, x8, x9, x10, x33 => if x33 = true then (if x10 = x1 then (some (x7 == 0)) else (some false)) else (if x8 = true then (if x6 < 0 then (some false) else (if x6 ≥ (x0.length : Int) then (some false) else (if x10 = x1 then (some false) else (if 0 ≤ x6 then (if x6 < (x9.length : Int) then ((sum_Sum.f k (x9.set (x6 : Int).toNat x7)).bind fun t132 => (some (t132 == x1))) else (none)) else (none))))) else (annexlaw2_SumFinds.l0 k x0 x1 x6 x7 x9 x10 0))
def annexlaw2_SumFinds.l0 : Nat → List Int → Int → Int → Int → List Int → Int → Int → Option (Bool)
  | 0, _, _, _, _, _, _, _ => none
  | k + 1, x0, x1, x6, x7, x9, x10, x12 => if x12 < (x9.length : Int) then (if x12 < 64 then (annexlaw2_SumFinds.j2 k x0 x1 x6 x7 x9 x10 x12 (decide ((x9.length : Int) ≤ 1000))) else (annexlaw2_SumFinds.j2 k x0 x1 x6 x7 x9 x10 x12 false)) else (annexlaw2_SumFinds.j2 k x0 x1 x6 x7 x9 x10 x12 false)
def annexlaw2_SumFinds.j2 : Nat → List Int → Int → Int → Int → List Int → Int → Int → Bool → Option (Bool)
  | 0, _, _, _, _, _, _, _, _ => none
  | k + 1, x0, x1, x6, x7, x9, x10, x12, x76 => if x76 = true then (annexlaw2_SumFinds.l1 k x0 x1 x6 x7 x9 x10 x12 0) else (if x6 = 0 then (if x7 = 0 then (some (x10 != x1)) else (some false)) else (some false))
def annexlaw2_SumFinds.l1 : Nat → List Int → Int → Int → Int → List Int → Int → Int → Int → Option (Bool)
  | 0, _, _, _, _, _, _, _, _ => none
  | k + 1, x0, x1, x6, x7, x9, x10, x12, x13 => if x13 < 256 then (if 0 ≤ x12 then (if x12 < (x9.length : Int) then ((some (x9.set (x12 : Int).toNat ((x13) % 256) : List Int)).bind fun y133 => ((sum_Sum.f k y133).bind fun t134 => (if t134 = x1 then (some false) else (annexlaw2_SumFinds.l1 k x0 x1 x6 x7 y133 x10 x12 (wrap64 (x13 + 1)))))) else (none)) else (none)) else (if 0 ≤ x12 then (if x12 < (x0.length : Int) then (if x12 < (x9.length : Int) then (annexlaw2_SumFinds.l0 k x0 x1 x6 x7 (x9.set (x12 : Int).toNat (rd x0 x12)) x10 (wrap64 (x12 + 1))) else (none)) else (none)) else (none))
end
def annexlaw2_SumFinds.f (k : Nat) (l0 : List Int) (a1 : Int) : Option (Bool) := (annexlaw2_known.f k).bind fun t123 => (if t123 = true then ((sum_Mend.f k l0 a1).bind fun bt124 => ((annexref_Bytes.f k l0).bind fun t127 => ((sum_Sum.f k t127).bind fun t130 => (if bt124.2.2 = true then (annexlaw2_SumFinds.j0 k l0 a1 bt124.1 bt124.2.1 bt124.2.2 t127 t130 (bt124.1 == (-1))) else (annexlaw2_SumFinds.j0 k l0 a1 bt124.1 bt124.2.1 bt124.2.2 t127 t130 false))))) else (some false))
theorem annexlaw2_SumFinds.mono_l : ∀ k, (∀ y0 y1 y2 y3 y4 y5 y6 y7, LeO (annexlaw2_SumFinds.j0 k y0 y1 y2 y3 y4 y5 y6 y7) (annexlaw2_SumFinds.j0 (k + 1) y0 y1 y2 y3 y4 y5 y6 y7)) ∧ (∀ y0 y1 y2 y3 y4 y5 y6, LeO (annexlaw2_SumFinds.l0 k y0 y1 y2 y3 y4 y5 y6) (annexlaw2_SumFinds.l0 (k + 1) y0 y1 y2 y3 y4 y5 y6)) ∧ (∀ y0 y1 y2 y3 y4 y5 y6 y7, LeO (annexlaw2_SumFinds.j2 k y0 y1 y2 y3 y4 y5 y6 y7) (annexlaw2_SumFinds.j2 (k + 1) y0 y1 y2 y3 y4 y5 y6 y7)) ∧ (∀ y0 y1 y2 y3 y4 y5 y6 y7, LeO (annexlaw2_SumFinds.l1 k y0 y1 y2 y3 y4 y5 y6 y7) (annexlaw2_SumFinds.l1 (k + 1) y0 y1 y2 y3 y4 y5 y6 y7))
  | 0 => ⟨fun _ _ _ _ _ _ _ _ r h => by simp [annexlaw2_SumFinds.j0] at h, fun _ _ _ _ _ _ _ r h => by simp [annexlaw2_SumFinds.l0] at h, fun _ _ _ _ _ _ _ _ r h => by simp [annexlaw2_SumFinds.j2] at h, fun _ _ _ _ _ _ _ _ r h => by simp [annexlaw2_SumFinds.l1] at h⟩
  | k + 1 => by
    obtain ⟨ih0, ih1, ih2, ih3⟩ := annexlaw2_SumFinds.mono_l k
    refine ⟨?_, ?_, ?_, ?_⟩
    · intro y0 y1 y2 y3 y4 y5 y6 y7
      unfold annexlaw2_SumFinds.j0
      repeat' first
      | (with_reducible exact ih0 _ _ _ _ _ _ _ _)
      | (with_reducible exact ih1 _ _ _ _ _ _ _)
      | (with_reducible exact ih2 _ _ _ _ _ _ _ _)
      | (with_reducible exact ih3 _ _ _ _ _ _ _ _)
      | (with_reducible exact annexlaw2_known.mono _)
      | (with_reducible exact annexref_Bytes.mono _ _)
      | (with_reducible exact sum_Mend.mono _ _ _)
      | (with_reducible exact sum_Sum.mono _ _)
      | (with_reducible exact LeO.refl _)
      | (with_reducible exact LeO.none _)
      | (with_reducible refine LeO.ite ?_ ?_)
      | (with_reducible refine LeO.bind ?_ (fun _ => ?_))
      | exact ih0 _ _ _ _ _ _ _ _
      | exact ih1 _ _ _ _ _ _ _
      | exact ih2 _ _ _ _ _ _ _ _
      | exact ih3 _ _ _ _ _ _ _ _
      | exact annexlaw2_known.mono _
      | exact annexref_Bytes.mono _ _
      | exact sum_Mend.mono _ _ _
      | exact sum_Sum.mono _ _
      | exact LeO.none _
      | refine LeO.ite ?_ ?_
      | refine LeO.bind ?_ (fun _ => ?_)
    · intro y0 y1 y2 y3 y4 y5 y6
      unfold annexlaw2_SumFinds.l0
      repeat' first
      | (with_reducible exact ih0 _ _ _ _ _ _ _ _)
      | (with_reducible exact ih1 _ _ _ _ _ _ _)
      | (with_reducible exact ih2 _ _ _ _ _ _ _ _)
      | (with_reducible exact ih3 _ _ _ _ _ _ _ _)
      | (with_reducible exact annexlaw2_known.mono _)
      | (with_reducible exact annexref_Bytes.mono _ _)
      | (with_reducible exact sum_Mend.mono _ _ _)
      | (with_reducible exact sum_Sum.mono _ _)
      | (with_reducible exact LeO.refl _)
      | (with_reducible exact LeO.none _)
      | (with_reducible refine LeO.ite ?_ ?_)
      | (with_reducible refine LeO.bind ?_ (fun _ => ?_))
      | exact ih0 _ _ _ _ _ _ _ _
      | exact ih1 _ _ _ _ _ _ _
      | exact ih2 _ _ _ _ _ _ _ _
      | exact ih3 _ _ _ _ _ _ _ _
      | exact annexlaw2_known.mono _
      | exact annexref_Bytes.mono _ _
      | exact sum_Mend.mono _ _ _
      | exact sum_Sum.mono _ _
      | exact LeO.none _
      | refine LeO.ite ?_ ?_
      | refine LeO.bind ?_ (fun _ => ?_)
    · intro y0 y1 y2 y3 y4 y5 y6 y7
      unfold annexlaw2_SumFinds.j2
      repeat' first
      | (with_reducible exact ih0 _ _ _ _ _ _ _ _)
      | (with_reducible exact ih1 _ _ _ _ _ _ _)
      | (with_reducible exact ih2 _ _ _ _ _ _ _ _)
      | (with_reducible exact ih3 _ _ _ _ _ _ _ _)
      | (with_reducible exact annexlaw2_known.mono _)
      | (with_reducible exact annexref_Bytes.mono _ _)
      | (with_reducible exact sum_Mend.mono _ _ _)
      | (with_reducible exact sum_Sum.mono _ _)
      | (with_reducible exact LeO.refl _)
      | (with_reducible exact LeO.none _)
      | (with_reducible refine LeO.ite ?_ ?_)
      | (with_reducible refine LeO.bind ?_ (fun _ => ?_))
      | exact ih0 _ _ _ _ _ _ _ _
      | exact ih1 _ _ _ _ _ _ _
      | exact ih2 _ _ _ _ _ _ _ _
      | exact ih3 _ _ _ _ _ _ _ _
      | exact annexlaw2_known.mono _
      | exact annexref_Bytes.mono _ _
      | exact sum_Mend.mono _ _ _
      | exact sum_Sum.mono _ _
      | exact LeO.none _
      | refine LeO.ite ?_ ?_
      | refine LeO.bind ?_ (fun _ => ?_)
    · intro y0 y1 y2 y3 y4 y5 y6 y7
      unfold annexlaw2_SumFinds.l1
      repeat' first
      | (with_reducible exact ih0 _ _ _ _ _ _ _ _)
      | (with_reducible exact ih1 _ _ _ _ _ _ _)
      | (with_reducible exact ih2 _ _ _ _ _ _ _ _)
      | (with_reducible exact ih3 _ _ _ _ _ _ _ _)
      | (with_reducible exact annexlaw2_known.mono _)
      | (with_reducible exact annexref_Bytes.mono _ _)
      | (with_reducible exact sum_Mend.mono _ _ _)
      | (with_reducible exact sum_Sum.mono _ _)
      | (with_reducible exact LeO.refl _)
      | (with_reducible exact LeO.none _)
      | (with_reducible refine LeO.ite ?_ ?_)
      | (with_reducible refine LeO.bind ?_ (fun _ => ?_))
      | exact ih0 _ _ _ _ _ _ _ _
      | exact ih1 _ _ _ _ _ _ _
      | exact ih2 _ _ _ _ _ _ _ _
      | exact ih3 _ _ _ _ _ _ _ _
      | exact annexlaw2_known.mono _
      | exact annexref_Bytes.mono _ _
      | exact sum_Mend.mono _ _ _
      | exact sum_Sum.mono _ _
      | exact LeO.none _
      | refine LeO.ite ?_ ?_
      | refine LeO.bind ?_ (fun _ => ?_)
theorem annexlaw2_SumFinds.mono : ∀ a0 a1 k, LeO (annexlaw2_SumFinds.f k a0 a1) (annexlaw2_SumFinds.f (k + 1) a0 a1) := by
  intro a0 a1 k
  obtain ⟨ih0, ih1, ih2, ih3⟩ := annexlaw2_SumFinds.mono_l k
  unfold annexlaw2_SumFinds.f
  repeat' first
      | (with_reducible exact ih0 _ _ _ _ _ _ _ _)
      | (with_reducible exact ih1 _ _ _ _ _ _ _)
      | (with_reducible exact ih2 _ _ _ _ _ _ _ _)
      | (with_reducible exact ih3 _ _ _ _ _ _ _ _)
      | (with_reducible exact annexlaw2_known.mono _)
      | (with_reducible exact annexref_Bytes.mono _ _)
      | (with_reducible exact sum_Mend.mono _ _ _)
      | (with_reducible exact sum_Sum.mono _ _)
      | (with_reducible exact LeO.refl _)
      | (with_reducible exact LeO.none _)
      | (with_reducible refine LeO.ite ?_ ?_)
      | (with_reducible refine LeO.bind ?_ (fun _ => ?_))
      | exact ih0 _ _ _ _ _ _ _ _
      | exact ih1 _ _ _ _ _ _ _
      | exact ih2 _ _ _ _ _ _ _ _
      | exact ih3 _ _ _ _ _ _ _ _
      | exact annexlaw2_known.mono _
      | exact annexref_Bytes.mono _ _
      | exact sum_Mend.mono _ _ _
      | exact sum_Sum.mono _ _
      | exact LeO.none _
      | refine LeO.ite ?_ ?_
      | refine LeO.bind ?_ (fun _ => ?_)
set_option maxHeartbeats 8000000 in
set_option maxRecDepth 100000 in
theorem annexlaw2_SumFinds.calls (k : Nat) (A0 : Option Addr) (c0 : Nat) (l0 : List Int) (a1 : Int) (r : Bool) (w : World) (hr0 : Kd.C (Kd.int .u8) w A0 l0.length l0) (hc0 : l0.length ≤ c0) (h : annexlaw2_SumFinds.f k l0 a1 = some r) :
    Calls Try.prog 13 #[.slice A0 l0.length c0, .int .u64 a1] w fun e w' => e = .returned (.bool r) ∧ Below w.heap.size w w' := by
  have HR0 := Aside0.mk hr0
  have HC0 := Aside0.mk hc0
  clear hr0 hc0
  have HB := Aside0.mk (Below.refl w.heap.size w)
  have H : ((annexlaw2_known.f k).bind fun t123 => (if t123 = true then ((sum_Mend.f k l0 a1).bind fun bt124 => ((annexref_Bytes.f k l0).bind fun t127 => ((sum_Sum.f k t127).bind fun t130 => (if bt124.2.2 = true then (annexlaw2_SumFinds.j0 k l0 a1 bt124.1 bt124.2.1 bt124.2.2 t127 t130 (bt124.1 == (-1))) else (annexlaw2_SumFinds.j0 k l0 a1 bt124.1 bt124.2.1 bt124.2.2 t127 t130 false))))) else (some false))) = some r := h
  clear h
  replace H := Option.bind_eq_some_iff.mp H
  obtain ⟨t123, A30, H⟩ := H
  replace H : (if t123 = true then ((sum_Mend.f k l0 a1).bind fun bt124 => ((annexref_Bytes.f k l0).bind fun t127 => ((sum_Sum.f k t127).bind fun t130 => (if bt124.2.2 = true then (annexlaw2_SumFinds.j0 k l0 a1 bt124.1 bt124.2.1 bt124.2.2 t127 t130 (bt124.1 == (-1))) else (annexlaw2_SumFinds.j0 k l0 a1 bt124.1 bt124.2.1 bt124.2.2 t127 t130 false))))) else (some false)) = some r := H
  have A3 := Aside0.mk A30
  clear A30
  by_cases c4 : t123 = true
  · subst c4
    have H1 : ((sum_Mend.f k l0 a1).bind fun bt124 => ((annexref_Bytes.f k l0).bind fun t127 => ((sum_Sum.f k t127).bind fun t130 => (if bt124.2.2 = true then (annexlaw2_SumFinds.j0 k l0 a1 bt124.1 bt124.2.1 bt124.2.2 t127 t130 (bt124.1 == (-1))) else (annexlaw2_SumFinds.j0 k l0 a1 bt124.1 bt124.2.1 bt124.2.2 t127 t130 false))))) = some r := by rw [if_pos rfl] at H; exact H
    clear H
    have H := H1
    clear H1
    replace H := Option.bind_eq_some_iff.mp H
    obtain ⟨⟨t124, t125, t126⟩, A50, H⟩ := H
    replace H : ((annexref_Bytes.f k l0).bind fun t127 => ((sum_Sum.f k t127).bind fun t130 => (if t126 = true then (annexlaw2_SumFinds.j0 k l0 a1 t124 t125 t126 t127 t130 (t124 == (-1))) else (annexlaw2_SumFinds.j0 k l0 a1 t124 t125 t126 t127 t130 false)))) = some r := H
    have A5 := Aside0.mk A50
    clear A50
    replace H := Option.bind_eq_some_iff.mp H
    obtain ⟨t127, A60, H⟩ := H
    replace H : ((sum_Sum.f k t127).bind fun t130 => (if t126 = true then (annexlaw2_SumFinds.j0 k l0 a1 t124 t125 t126 t127 t130 (t124 == (-1))) else (annexlaw2_SumFinds.j0 k l0 a1 t124 t125 t126 t127 t130 false))) = some r := H
    have A6 := Aside0.mk A60
    clear A60
    replace H := Option.bind_eq_some_iff.mp H
    obtain ⟨t130, A70, H⟩ := H
    replace H : (if t126 = true then (annexlaw2_SumFinds.j0 k l0 a1 t124 t125 t126 t127 t130 (t124 == (-1))) else (annexlaw2_SumFinds.j0 k l0 a1 t124 t125 t126 t127 t130 false)) = some r := H
    have A7 := Aside0.mk A70
    clear A70
    have HC8 := Aside0.mk H
    clear H
    go_enter Try.func13, Try.ntmps13
    go_upto_region 7 with (first | ((with_reducible refine gate_callee (f := 15) rfl ?_); refine goesL_ (some 15) rfl rfl Try.func15 (by kernel_rfl) rfl #[] rfl (by (try simp only [List.map_toArray, List.map_cons, List.map_nil]); first | done | rfl | (simp only [List.length_drop, List.length_take]; rfl)) ?_; (with_reducible refine (annexlaw2_known.calls k  true _ A3.out).mono ?_); rintro e w9 ⟨rfl, hb⟩; refine ⟨_, rfl, ?_⟩; have n0_ := Aside0.mk (below_step (by repeat (first | (with_reducible first | exact HB.out | apply below_alloc | apply pw_below_drewN | apply below_drew1) | exact HB.out)) hb); clear HB; have HB := n0_; clear n0_; (try clear hb); (try clear hb2); (try clear hk); (try clear hi)) | ((with_reducible refine gate_callee (f := 26) rfl ?_); refine goesL_ (some 21) rfl rfl Try.func26 (by kernel_rfl) rfl #[.slice A0 l0.length c0, .int .u64 a1] rfl (by (try simp only [List.map_toArray, List.map_cons, List.map_nil]); first | done | rfl | (simp only [List.length_drop, List.length_take]; rfl)) ?_; (with_reducible refine (sum_Mend.calls k _ _ l0 a1 t124 t125 t126 _ ?side1 ?side2 A5.out).mono ?_); (case side1 => repeat (first | exact (Kd.C_below HR0.out HB.out) | (with_reducible refine Kd.C_alloc ?_ _) | (with_reducible refine Kd.C_drewN ?_ _) | (with_reducible refine Kd.C_drew ?_))); (case side2 => exact HC0.out); rintro e w10 ⟨rfl, hb⟩; refine ⟨_, rfl, ?_⟩; have n0_ := Aside0.mk (below_step (by repeat (first | (with_reducible first | exact HB.out | apply below_alloc | apply pw_below_drewN | apply below_drew1) | exact HB.out)) hb); clear HB; have HB := n0_; clear n0_; (try clear hb); (try clear hb2); (try clear hk); (try clear hi)) | ((with_reducible refine gate_callee (f := 25) rfl ?_); refine goesL_ (some 26) rfl rfl Try.func25 (by kernel_rfl) rfl #[.slice A0 l0.length c0] rfl (by (try simp only [List.map_toArray, List.map_cons, List.map_nil]); first | done | rfl | (simp only [List.length_drop, List.length_take]; rfl)) ?_; (with_reducible refine (annexref_Bytes.calls k _ _ l0 t127 _ ?side1 ?side2 A6.out).mono ?_); (case side1 => repeat (first | exact (Kd.C_below HR0.out HB.out) | (with_reducible refine Kd.C_alloc ?_ _) | (with_reducible refine Kd.C_drewN ?_ _) | (with_reducible refine Kd.C_drew ?_))); (case side2 => exact HC0.out); rintro e w11 ⟨v128, rfl, ho0, hb⟩; refine ⟨_, rfl, ?_⟩; have n0_ := Aside0.mk (Kd.R_lower ho0 (below_size (by repeat (first | (with_reducible first | exact HB.out | apply below_alloc | apply pw_below_drewN | apply below_drew1) | exact HB.out)))); have n1_ := Aside0.mk (below_step (by repeat (first | (with_reducible first | exact HB.out | apply below_alloc | apply pw_below_drewN | apply below_drew1) | exact HB.out)) hb); clear HB; have HO129 := n0_; have HB := n1_; clear n0_ n1_; (try clear hb); (try clear hb2); (try clear hk); (try clear hi); (try clear ho0); obtain ⟨Ao12, co12, eo12⟩ := Kd.R_slice HO129.out; subst eo12) | ((with_reducible refine gate_callee (f := 17) rfl ?_); refine goesL_ (some 28) rfl rfl Try.func17 (by kernel_rfl) rfl #[.slice Ao12 t127.length co12] rfl (by (try simp only [List.map_toArray, List.map_cons, List.map_nil]); first | done | rfl | (simp only [List.length_drop, List.length_take]; rfl)) ?_; (with_reducible refine (sum_Sum.calls k _ _ t127 t130 _ ?side1 ?side2 A7.out).mono ?_); (case side1 => repeat (first | exact (Kd.R_reads' HO129.out).2.2 | (with_reducible refine Kd.C_alloc ?_ _) | (with_reducible refine Kd.C_drewN ?_ _) | (with_reducible refine Kd.C_drew ?_))); (case side2 => exact (Kd.R_reads' HO129.out).2.1); rintro e w' ⟨rfl, ⟨nd, rfl⟩⟩; refine ⟨_, rfl, ?_⟩))
    (try simp only [Act.put, List.setIfInBounds_toArray, List.set_cons_zero, List.set_cons_succ])
    go_cut [33] (fun v33 wc => ∃ (kq : Nat) (x33_7 : Bool), v33 = .bool x33_7 ∧ Aside0 (annexlaw2_SumFinds.j0 kq l0 a1 t124 t125 t126 t127 t130 x33_7 = some r) ∧ Aside0 (kq ≤ k) ∧ Aside0 (Kd.R (Kd.int .u8) 5 wc w.heap.size (fun _ => True) (.slice Ao12 t127.length co12) t127) ∧ Aside0 (Below w.heap.size w wc))
    case first =>
      have H := HC8.out
      clear HC8
      by_cases c13 : t126 = true
      · subst c13
        have H1 : (annexlaw2_SumFinds.j0 k l0 a1 t124 t125 true t127 t130 (t124 == (-1))) = some r := by rw [if_pos rfl] at H; exact H
        clear H
        have H := H1
        clear H1
        have H' := Aside0.mk H
        clear H
        go_wp2
        go_meet
        case rel => exact ⟨_, ((t124 == (-1))), (by first | rfl | (simp; done) | (simp [*]; done)), H', ⟨by first | omega | exact Nat.le_refl _⟩, ⟨by (with_reducible repeat (first | apply Kd.R_alloc | apply Kd.R_drewN | apply Kd.R_drew)); exact HO129.out⟩, ⟨by repeat (first | (with_reducible first | exact HB.out | apply below_alloc | apply pw_below_drewN | apply below_drew1) | exact HB.out)⟩⟩
      · replace c13 := Bool.eq_false_iff.mpr c13
        subst c13
        have H1 : (annexlaw2_SumFinds.j0 k l0 a1 t124 t125 false t127 t130 false) = some r := by rw [if_neg (show ¬ (false = true) by decide)] at H; exact H
        clear H
        have H := H1
        clear H1
        have H' := Aside0.mk H
        clear H
        go_wp2
        go_meet
        case rel => exact ⟨_, (false), (by first | rfl | (simp; done) | (simp [*]; done)), H', ⟨by first | omega | exact Nat.le_refl _⟩, ⟨by (with_reducible repeat (first | apply Kd.R_alloc | apply Kd.R_drewN | apply Kd.R_drew)); exact HO129.out⟩, ⟨by repeat (first | (with_reducible first | exact HB.out | apply below_alloc | apply pw_below_drewN | apply below_drew1) | exact HB.out)⟩⟩
    case rest =>
      clear HC8
      try clear c1
      try clear c2
      try clear p2
      try clear c4
      try clear c13
      obtain ⟨kq, x33_7, rfl, HA, HJ7, HO_9, HB⟩ := hcut
      cases kq with
      | zero => exact absurd HA.out (by simp [annexlaw2_SumFinds.j0])
      | succ kj7 =>
        have H := HA.out
        clear HA
        simp only [annexlaw2_SumFinds.j0] at H
        by_cases c14 : x33_7 = true
        · subst c14
          have H1 : (if t130 = a1 then (some (t125 == 0)) else (some false)) = some r := by rw [if_pos rfl] at H; exact H
          clear H
          have H := H1
          clear H1
          by_cases c15 : t130 = a1
          · rw [if_pos c15] at H
            have c15b0 : (t130 == a1) = true := beq_iff_eq.mpr c15
            have c15b1 : (t130 != a1) = false := bne_eq_false_iff_eq.mpr c15
            clear c15
            obtain rfl := Option.some.inj H
            go_wp2
            go_ret
            exact ⟨by first | rfl | (simp [errW_none, errW_some] <;> rfl) | (simp [*, errW_none, errW_some] <;> rfl), by repeat (first | (with_reducible first | exact HB.out | apply below_alloc | apply pw_below_drewN | apply below_drew1) | exact HB.out)⟩
          · rw [if_neg c15] at H
            have c15b0 : (t130 == a1) = false := beq_eq_false_iff_ne.mpr c15
            have c15b1 : (t130 != a1) = true := bne_iff_ne.mpr c15
            obtain rfl := Option.some.inj H
            go_wp2
            go_ret
            exact ⟨by first | rfl | (simp [errW_none, errW_some] <;> rfl) | (simp [*, errW_none, errW_some] <;> rfl), by repeat (first | (with_reducible first | exact HB.out | apply below_alloc | apply pw_below_drewN | apply below_drew1) | exact HB.out)⟩
        · replace c14 := Bool.eq_false_iff.mpr c14
          subst c14
          have H1 : (if t126 = true then (if t124 < 0 then (some false) else (if t124 ≥ (l0.length : Int) then (some false) else (if t130 = a1 then (some false) else (if 0 ≤ t124 then (if t124 < (t127.length : Int) then ((sum_Sum.f kj7 (t127.set (t124 : Int).toNat t125)).bind fun t132 => (some (t132 == a1))) else (none)) else (none))))) else (annexlaw2_SumFinds.l0 kj7 l0 a1 t124 t125 t127 t130 0)) = some r := by rw [if_neg (show ¬ (false = true) by decide)] at H; exact H
          clear H
          have H := H1
          clear H1
          by_cases c16 : t126 = true
          · subst c16
            have H1 : (if t124 < 0 then (some false) else (if t124 ≥ (l0.length : Int) then (some false) else (if t130 = a1 then (some false) else (if 0 ≤ t124 then (if t124 < (t127.length : Int) then ((sum_Sum.f kj7 (t127.set (t124 : Int).toNat t125)).bind fun t132 => (some (t132 == a1))) else (none)) else (none))))) = some r := by rw [if_pos rfl] at H; exact H
            clear H
            have H := H1
            clear H1
            by_cases c17 : t124 < 0
            · rw [if_pos c17] at H
              have c17b0 : decide (t124 < 0) = true := decide_eq_true c17
              clear c17
              obtain rfl := Option.some.inj H
              go_wp2
              go_ret
              exact ⟨by first | rfl | (simp [errW_none, errW_some] <;> rfl) | (simp [*, errW_none, errW_some] <;> rfl), by repeat (first | (with_reducible first | exact HB.out | apply below_alloc | apply pw_below_drewN | apply below_drew1) | exact HB.out)⟩
            · rw [if_neg c17] at H
              have c17b0 : decide (t124 < 0) = false := decide_eq_false c17
              clear c17
              by_cases c18 : t124 ≥ (l0.length : Int)
              · rw [if_pos c18] at H
                have c18b0 : decide ((l0.length : Int) ≤ t124) = true := decide_eq_true c18
                clear c18
                obtain rfl := Option.some.inj H
                go_wp2
                go_ret
                exact ⟨by first | rfl | (simp [errW_none, errW_some] <;> rfl) | (simp [*, errW_none, errW_some] <;> rfl), by repeat (first | (with_reducible first | exact HB.out | apply below_alloc | apply pw_below_drewN | apply below_drew1) | exact HB.out)⟩
              · rw [if_neg c18] at H
                have c18b0 : decide ((l0.length : Int) ≤ t124) = false := decide_eq_false c18
                clear c18
                by_cases c19 : t130 = a1
                · rw [if_pos c19] at H
                  have c19b0 : (t130 == a1) = true := beq_iff_eq.mpr c19
                  have c19b1 : (t130 != a1) = false := bne_eq_false_iff_eq.mpr c19
                  clear c19
                  obtain rfl := Option.some.inj H
                  go_wp2
                  go_ret
                  exact ⟨by first | rfl | (simp [errW_none, errW_some] <;> rfl) | (simp [*, errW_none, errW_some] <;> rfl), by repeat (first | (with_reducible first | exact HB.out | apply below_alloc | apply pw_below_drewN | apply below_drew1) | exact HB.out)⟩
                · rw [if_neg c19] at H
                  have c19b0 : (t130 == a1) = false := beq_eq_false_iff_ne.mpr c19
                  have c19b1 : (t130 != a1) = true := bne_iff_ne.mpr c19
                  by_cases c20 : 0 ≤ t124
                  · rw [if_pos c20] at H
                    have c20b0 : decide (0 ≤ t124) = true := decide_eq_true c20
                    clear c20
                    by_cases c21 : t124 < (t127.length : Int)
                    · rw [if_pos c21] at H
                      have c21b0 : decide (t124 < (t127.length : Int)) = true := decide_eq_true c21
                      clear c21
                      obtain ⟨y131, hy131⟩ : ∃ y_ : List Int, y_ = (t127.set (t124 : Int).toNat t125) := ⟨_, rfl⟩
                      replace H : ((sum_Sum.f kj7 y131).bind fun t132 => (some (t132 == a1))) = some r := by first | (rw [hy131]; with_reducible exact H) | (have H2_ := (Option.bind_some _ _).symm.trans H; rw [hy131]; with_reducible exact H2_) | (have H2_ := (Option.bind_some _ _).symm.trans H; with_reducible exact H2_) | with_reducible exact H | (rw [hy131]; exact H) | exact H
                      have Ny131 := Aside0.mk hy131
                      clear hy131
                      replace H := Option.bind_eq_some_iff.mp H
                      obtain ⟨t132, A230, H⟩ := H
                      replace H : (some (t132 == a1)) = some r := H
                      have A23 := Aside0.mk A230
                      clear A230
                      obtain rfl := Option.some.inj H
                      have p22 : 0 ≤ (t124 : Int) := of_decide_eq_true (by first | (with_reducible assumption) | assumption)
                      have q22 : (t124 : Int) < ((t127.length : Int) : Int) := of_decide_eq_true (by first | (with_reducible assumption) | assumption)
                      obtain ⟨go22, co22, eo22, gb22, gl22, cl22, HG22⟩ := Kd.R_form HO_9.out (by omega)
                      (first | cases eo22 | (injection eo22 with ea_ en_ ec_; (first | subst ea_ | (injection ea_ with ea_; subst ea_)); subst ec_; clear en_))
                      have GB22 := Aside0.mk gb22
                      have GG22 := Aside0.mk HG22
                      clear gb22 gl22 HG22
                      obtain ⟨hx22_0, hf22_0⟩ := Kd.R_celln 0 HO_9.out (t124 : Int) p22 q22
                      replace p22 := eq_true p22
                      replace q22 := eq_true q22
                      have HP24 := Kd.R_putg HO_9.out (t124 : Int) t125
                      go_wp2_with (first | ((with_reducible refine gate_store (t := 5) (p := 58) rfl ?_); refine store_event (t := 5) (p := 58) (v := ?vo_w25) (w1 := (wc.setCell ⟨go22, (t124 : Int).toNat, none⟩ (.int .u8 t125))) ?hg ?ho ?hn ?hr ?_; (case ho => rfl); (case hg => rfl); (case hn => rfl); (case hr => first | (go_simp; done) | (go_simp; rfl)); intro w25 hw; have hg : wc.grownBy w25 (some go22) := (by rw [hw]; exact HP24.2); have hp_ : Kd.R (Kd.int .u8) 5 w25 w.heap.size (fun _ => True) (.slice (some ⟨go22, 0, none⟩) t127.length co12) y131 := (by rw [hw, Ny131.out]; exact HP24.1); clear HP24; have n0_ := Aside0.mk (hp_); have n1_ := Aside0.mk ((by rw [hw]; exact below_set (HB.out) GB22.out : Below w.heap.size w w25)); clear HO_9; clear HB; have HO_9 := n0_; have HB := n1_; clear n0_ n1_; clear hg hw hp_) | ((with_reducible refine gate_callee (f := 17) rfl ?_); refine goesL_ (some 60) rfl rfl Try.func17 (by kernel_rfl) rfl #[.slice (some ⟨go22, 0, none⟩) y131.length co12] rfl (by (try simp only [List.map_toArray, List.map_cons, List.map_nil]); first | done | (rw [show y131.length = t127.length from (Kd.R_reads' HO_9.out).1.symm] <;> rfl) | rfl | (simp only [List.length_drop, List.length_take]; rfl)) ?_; (with_reducible refine (sum_Sum.calls kj7 _ _ y131 t132 _ ?side1 ?side2 A23.out).mono ?_); (case side1 => repeat (first | exact (Kd.R_reads' HO_9.out).2.2 | (with_reducible refine Kd.C_alloc ?_ _) | (with_reducible refine Kd.C_drewN ?_ _) | (with_reducible refine Kd.C_drew ?_))); (case side2 => rw [show y131.length = t127.length from (Kd.R_reads' HO_9.out).1.symm]; exact (Kd.R_reads' HO_9.out).2.1); rintro e w' ⟨rfl, ⟨nd, rfl⟩⟩; refine ⟨_, rfl, ?_⟩))
                      go_ret
                      exact ⟨by first | rfl | (simp [errW_none, errW_some] <;> rfl) | (simp [*, errW_none, errW_some] <;> rfl), by repeat (first | (with_reducible first | exact HB.out | apply below_alloc | apply pw_below_drewN | apply below_drew1) | exact HB.out)⟩
                    · rw [if_neg c21] at H
                      exact absurd H (by simp)
                  · rw [if_neg c20] at H
                    exact absurd H (by simp)
          · replace c16 := Bool.eq_false_iff.mpr c16
            subst c16
            have H1 : (annexlaw2_SumFinds.l0 kj7 l0 a1 t124 t125 t127 t130 0) = some r := by rw [if_neg (show ¬ (false = true) by decide)] at H; exact H
            clear H
            have H := H1
            clear H1
            have H' := Aside0.mk H
            clear H
            go_wp2
            go_loopg [12] kj7 (fun kq v12 w' => ∃ (x9_2 : List Int) (x12_2 : Int), v12 = .int .i64 x12_2 ∧ Aside0 (annexlaw2_SumFinds.l0 kq l0 a1 t124 t125 x9_2 t130 x12_2 = some r) ∧ Aside0 (kq ≤ kj7) ∧ Aside0 (Kd.R (Kd.int .u8) 5 w' w.heap.size (fun _ => True) (.slice Ao12 t127.length co12) x9_2) ∧ Aside0 (Below w.heap.size w w'))
            case atStart => exact ⟨(t127), (0), (by first | rfl | (simp; done) | (simp [*]; done)), H', ⟨Nat.le_refl _⟩, ⟨by (with_reducible repeat (first | apply Kd.R_alloc | apply Kd.R_drewN | apply Kd.R_drew)); exact HO_9.out⟩, ⟨by repeat (first | (with_reducible first | exact HB.out | apply below_alloc | apply pw_below_drewN | apply below_drew1) | exact HB.out)⟩⟩
            case round =>
              clear H'
              try clear c1
              try clear c2
              try clear p2
              try clear q2
              try clear hx2
              try clear hf2
              try clear c4
              try clear c13
              try clear c14
              try clear c15
              try clear c15b0
              try clear c15b1
              try clear c16
              try clear c17
              try clear c17b0
              try clear c18
              try clear c18b0
              try clear c19
              try clear c19b0
              try clear c19b1
              try clear c20
              try clear c20b0
              try clear c21
              try clear c21b0
              try clear p22
              try clear q22
              try clear hx22
              try clear hf22
              try clear c25
              try clear hx22_0
              try clear p2
              try clear p22
              try clear q22
              obtain ⟨x9_2, x12_2, rfl, HA, HK2, HO_9, HB⟩ := hrel
              have hl9_2 := (Kd.R_reads' HO_9.out).1
              rw [hl9_2] at HO_9
              (try simp only [hl9_2])
              cases gk with
              | zero => exact absurd HA.out (by simp [annexlaw2_SumFinds.l0])
              | succ k2 =>
                have H := HA.out
                clear HA
                simp only [annexlaw2_SumFinds.l0] at H
                have HC26 := Aside0.mk H
                clear H
                go_upto_region 16 with (fail)
                go_cut [76] (fun v76 wc => ∃ (kq : Nat) (x76_25 : Bool), v76 = .bool x76_25 ∧ Aside0 (annexlaw2_SumFinds.j2 kq l0 a1 t124 t125 x9_2 t130 x12_2 x76_25 = some r) ∧ Aside0 (kq ≤ k2) ∧ Aside0 (Kd.R (Kd.int .u8) 5 wc w.heap.size (fun _ => True) (.slice Ao12 x9_2.length co12) x9_2) ∧ Aside0 (Below w.heap.size w wc))
                case first =>
                  have H := HC26.out
                  clear HC26
                  by_cases c27 : x12_2 < (x9_2.length : Int)
                  · rw [if_pos c27] at H
                    have c27b0 : decide (x12_2 < (x9_2.length : Int)) = true := decide_eq_true c27
                    clear c27
                    (first | rw [c27b0] | (simp only [i64_w, i32_w]; rw [c27b0]) | skip)
                    by_cases c28 : x12_2 < 64
                    · rw [if_pos c28] at H
                      have c28b0 : decide (x12_2 < 64) = true := decide_eq_true c28
                      clear c28
                      have H' := Aside0.mk H
                      clear H
                      go_wp2
                      go_meet
                      case rel => exact ⟨_, (decide ((x9_2.length : Int) ≤ 1000)), (by first | rfl | (simp; done) | (simp [*]; done)), H', ⟨by have := HJ7.out; have := HK2.out; first | omega | exact Nat.le_refl _⟩, ⟨by (try simp only [hl9_2]); (with_reducible repeat (first | apply Kd.R_alloc | apply Kd.R_drewN | apply Kd.R_drew)); exact HO_9.out⟩, ⟨by repeat (first | (with_reducible first | exact HB.out | apply below_alloc | apply pw_below_drewN | apply below_drew1) | exact HB.out)⟩⟩
                    · rw [if_neg c28] at H
                      have c28b0 : decide (x12_2 < 64) = false := decide_eq_false c28
                      clear c28
                      have H' := Aside0.mk H
                      clear H
                      go_wp2
                      go_meet
                      case rel => exact ⟨_, (false), (by first | rfl | (simp; done) | (simp [*]; done)), H', ⟨by have := HJ7.out; have := HK2.out; first | omega | exact Nat.le_refl _⟩, ⟨by (try simp only [hl9_2]); (with_reducible repeat (first | apply Kd.R_alloc | apply Kd.R_drewN | apply Kd.R_drew)); exact HO_9.out⟩, ⟨by repeat (first | (with_reducible first | exact HB.out | apply below_alloc | apply pw_below_drewN | apply below_drew1) | exact HB.out)⟩⟩
                  · rw [if_neg c27] at H
                    have c27b0 : decide (x12_2 < (x9_2.length : Int)) = false := decide_eq_false c27
                    clear c27
                    (first | rw [c27b0] | (simp only [i64_w, i32_w]; rw [c27b0]) | skip)
                    have H' := Aside0.mk H
                    clear H
                    go_wp2
                    go_meet
                    case rel => exact ⟨_, (false), (by first | rfl | (simp; done) | (simp [*]; done)), H', ⟨by have := HJ7.out; have := HK2.out; first | omega | exact Nat.le_refl _⟩, ⟨by (try simp only [hl9_2]); (with_reducible repeat (first | apply Kd.R_alloc | apply Kd.R_drewN | apply Kd.R_drew)); exact HO_9.out⟩, ⟨by repeat (first | (with_reducible first | exact HB.out | apply below_alloc | apply pw_below_drewN | apply below_drew1) | exact HB.out)⟩⟩
                case rest =>
                  clear HC26
                  try clear c1
                  try clear c2
                  try clear p2
                  try clear q2
                  try clear hx2
                  try clear hf2
                  try clear c4
                  try clear c13
                  try clear c14
                  try clear c15
                  try clear c15b0
                  try clear c15b1
                  try clear c16
                  try clear c17
                  try clear c17b0
                  try clear c18
                  try clear c18b0
                  try clear c19
                  try clear c19b0
                  try clear c19b1
                  try clear c20
                  try clear c20b0
                  try clear c21
                  try clear c21b0
                  try clear p22
                  try clear q22
                  try clear hx22
                  try clear hf22
                  try clear c25
                  try clear c26
                  try clear c27
                  try clear c27b0
                  try clear c28
                  try clear c28b0
                  try clear hx22_0
                  try clear p2
                  try clear p22
                  try clear q2
                  try clear q22
                  obtain ⟨kq, x76_25, rfl, HA, HJ25, HO_9, HB⟩ := hcut
                  cases kq with
                  | zero => exact absurd HA.out (by simp [annexlaw2_SumFinds.j2])
                  | succ kj25 =>
                    have H := HA.out
                    clear HA
                    simp only [annexlaw2_SumFinds.j2] at H
                    by_cases c29 : x76_25 = true
                    · subst c29
                      have H1 : (annexlaw2_SumFinds.l1 kj25 l0 a1 t124 t125 x9_2 t130 x12_2 0) = some r := by rw [if_pos rfl] at H; exact H
                      clear H
                      have H := H1
                      clear H1
                      have H' := Aside0.mk H
                      clear H
                      go_wp2
                      go_loopg [13] kj25 (fun kq v13 w' => ∃ (x9_4 : List Int) (x13_4 : Int), v13 = .int .i64 x13_4 ∧ Aside0 (annexlaw2_SumFinds.l1 kq l0 a1 t124 t125 x9_4 t130 x12_2 x13_4 = some r) ∧ Aside0 (kq ≤ kj25) ∧ Aside0 (Kd.R (Kd.int .u8) 5 w' w.heap.size (fun _ => True) (.slice Ao12 x9_2.length co12) x9_4) ∧ Aside0 (Below w.heap.size w w'))
                      case atStart => exact ⟨(x9_2), (0), (by first | rfl | (simp; done) | (simp [*]; done)), H', ⟨Nat.le_refl _⟩, ⟨by (try simp only [hl9_2]); (with_reducible repeat (first | apply Kd.R_alloc | apply Kd.R_drewN | apply Kd.R_drew)); exact HO_9.out⟩, ⟨by repeat (first | (with_reducible first | exact HB.out | apply below_alloc | apply pw_below_drewN | apply below_drew1) | exact HB.out)⟩⟩
                      case round =>
                        clear H'
                        try clear c1
                        try clear c2
                        try clear p2
                        try clear q2
                        try clear hx2
                        try clear hf2
                        try clear c4
                        try clear c13
                        try clear c14
                        try clear c15
                        try clear c15b0
                        try clear c15b1
                        try clear c16
                        try clear c17
                        try clear c17b0
                        try clear c18
                        try clear c18b0
                        try clear c19
                        try clear c19b0
                        try clear c19b1
                        try clear c20
                        try clear c20b0
                        try clear c21
                        try clear c21b0
                        try clear p22
                        try clear q22
                        try clear hx22
                        try clear hf22
                        try clear c25
                        try clear c26
                        try clear c27
                        try clear c27b0
                        try clear c28
                        try clear c28b0
                        try clear c29
                        try clear hx22_0
                        try clear p2
                        try clear p22
                        try clear q2
                        try clear q22
                        obtain ⟨x9_4, x13_4, rfl, HA, HK4, HO_9, HB⟩ := hrel
                        have hl9_4 := (Kd.R_reads' HO_9.out).1
                        rw [hl9_4] at HO_9
                        (try simp only [hl9_4])
                        cases gk with
                        | zero => exact absurd HA.out (by simp [annexlaw2_SumFinds.l1])
                        | succ k4 =>
                          have H := HA.out
                          clear HA
                          simp only [annexlaw2_SumFinds.l1] at H
                          by_cases c30 : x13_4 < 256
                          · rw [if_pos c30] at H
                            have c30b0 : decide (x13_4 < 256) = true := decide_eq_true c30
                            clear c30
                            by_cases c31 : 0 ≤ x12_2
                            · rw [if_pos c31] at H
                              have c31b0 : decide (0 ≤ x12_2) = true := decide_eq_true c31
                              clear c31
                              by_cases c32 : x12_2 < (x9_4.length : Int)
                              · rw [if_pos c32] at H
                                have c32b0 : decide (x12_2 < (x9_4.length : Int)) = true := decide_eq_true c32
                                clear c32
                                obtain ⟨y133, hy133⟩ : ∃ y_ : List Int, y_ = (x9_4.set (x12_2 : Int).toNat ((x13_4) % 256)) := ⟨_, rfl⟩
                                replace H : ((sum_Sum.f k4 y133).bind fun t134 => (if t134 = a1 then (some false) else (annexlaw2_SumFinds.l1 k4 l0 a1 t124 t125 y133 t130 x12_2 (wrap64 (x13_4 + 1))))) = some r := by first | (rw [hy133]; with_reducible exact H) | (have H2_ := (Option.bind_some _ _).symm.trans H; rw [hy133]; with_reducible exact H2_) | (have H2_ := (Option.bind_some _ _).symm.trans H; with_reducible exact H2_) | with_reducible exact H | (rw [hy133]; exact H) | exact H
                                have Ny133 := Aside0.mk hy133
                                clear hy133
                                replace H := Option.bind_eq_some_iff.mp H
                                obtain ⟨t134, A340, H⟩ := H
                                replace H : (if t134 = a1 then (some false) else (annexlaw2_SumFinds.l1 k4 l0 a1 t124 t125 y133 t130 x12_2 (wrap64 (x13_4 + 1)))) = some r := H
                                have A34 := Aside0.mk A340
                                clear A340
                                by_cases c35 : t134 = a1
                                · rw [if_pos c35] at H
                                  have c35b0 : (t134 == a1) = true := beq_iff_eq.mpr c35
                                  have c35b1 : (t134 != a1) = false := bne_eq_false_iff_eq.mpr c35
                                  clear c35
                                  obtain rfl := Option.some.inj H
                                  have p33 : 0 ≤ (x12_2 : Int) := of_decide_eq_true (by first | (with_reducible assumption) | assumption)
                                  have q33 : (x12_2 : Int) < ((x9_4.length : Int) : Int) := of_decide_eq_true (by first | (with_reducible assumption) | assumption)
                                  obtain ⟨go33, co33, eo33, gb33, gl33, cl33, HG33⟩ := Kd.R_form HO_9.out (by omega)
                                  (first | cases eo33 | (injection eo33 with ea_ en_ ec_; (first | subst ea_ | (injection ea_ with ea_; subst ea_)); subst ec_; clear en_))
                                  have GB33 := Aside0.mk gb33
                                  have GG33 := Aside0.mk HG33
                                  clear gb33 gl33 HG33
                                  obtain ⟨hx33_0, hf33_0⟩ := Kd.R_celln 0 HO_9.out (x12_2 : Int) p33 q33
                                  replace p33 := eq_true p33
                                  replace q33 := eq_true q33
                                  have HP36 := Kd.R_putg HO_9.out (x12_2 : Int) ((x13_4) % 256)
                                  go_wp2_with (first | ((with_reducible refine gate_store (t := 5) (p := 87) rfl ?_); refine store_event (t := 5) (p := 87) (v := ?vo_w37) (w1 := (wr.setCell ⟨go33, (x12_2 : Int).toNat, none⟩ (.int .u8 ((x13_4) % 256)))) ?hg ?ho ?hn ?hr ?_; (case ho => rfl); (case hg => rfl); (case hn => rfl); (case hr => first | (go_simp; done) | (go_simp; rfl)); intro w37 hw; have hg : wr.grownBy w37 (some go33) := (by rw [hw]; exact HP36.2); have hp_ : Kd.R (Kd.int .u8) 5 w37 w.heap.size (fun _ => True) (.slice (some ⟨go33, 0, none⟩) x9_4.length co12) y133 := (by rw [hw, Ny133.out]; exact HP36.1); clear HP36; have n0_ := Aside0.mk (hp_); have n1_ := Aside0.mk ((by rw [hw]; exact below_set (HB.out) GB33.out : Below w.heap.size w w37)); clear HO_9; clear HB; have HO_9 := n0_; have HB := n1_; clear n0_ n1_; clear hg hw hp_) | ((with_reducible refine gate_callee (f := 17) rfl ?_); refine goesL_ (some 89) rfl rfl Try.func17 (by kernel_rfl) rfl #[.slice (some ⟨go33, 0, none⟩) y133.length co12] rfl (by (try simp only [List.map_toArray, List.map_cons, List.map_nil]); first | done | (rw [show y133.length = x9_4.length from (Kd.R_reads' HO_9.out).1.symm] <;> rfl) | rfl | (simp only [List.length_drop, List.length_take]; rfl)) ?_; (with_reducible refine (sum_Sum.calls k4 _ _ y133 t134 _ ?side1 ?side2 A34.out).mono ?_); (case side1 => repeat (first | exact (Kd.R_reads' HO_9.out).2.2 | (with_reducible refine Kd.C_alloc ?_ _) | (with_reducible refine Kd.C_drewN ?_ _) | (with_reducible refine Kd.C_drew ?_))); (case side2 => rw [show y133.length = x9_4.length from (Kd.R_reads' HO_9.out).1.symm]; exact (Kd.R_reads' HO_9.out).2.1); rintro e w' ⟨rfl, ⟨nd, rfl⟩⟩; refine ⟨_, rfl, ?_⟩))
                                  go_ret
                                  exact ⟨by first | rfl | (simp [errW_none, errW_some] <;> rfl) | (simp [*, errW_none, errW_some] <;> rfl), by repeat (first | (with_reducible first | exact HB.out | apply below_alloc | apply pw_below_drewN | apply below_drew1) | exact HB.out)⟩
                                · rw [if_neg c35] at H
                                  have c35b0 : (t134 == a1) = false := beq_eq_false_iff_ne.mpr c35
                                  have c35b1 : (t134 != a1) = true := bne_iff_ne.mpr c35
                                  have H' := Aside0.mk H
                                  clear H
                                  have p33 : 0 ≤ (x12_2 : Int) := of_decide_eq_true (by first | (with_reducible assumption) | assumption)
                                  have q33 : (x12_2 : Int) < ((x9_4.length : Int) : Int) := of_decide_eq_true (by first | (with_reducible assumption) | assumption)
                                  obtain ⟨go33, co33, eo33, gb33, gl33, cl33, HG33⟩ := Kd.R_form HO_9.out (by omega)
                                  (first | cases eo33 | (injection eo33 with ea_ en_ ec_; (first | subst ea_ | (injection ea_ with ea_; subst ea_)); subst ec_; clear en_))
                                  have GB33 := Aside0.mk gb33
                                  have GG33 := Aside0.mk HG33
                                  clear gb33 gl33 HG33
                                  obtain ⟨hx33_0, hf33_0⟩ := Kd.R_celln 0 HO_9.out (x12_2 : Int) p33 q33
                                  replace p33 := eq_true p33
                                  replace q33 := eq_true q33
                                  have HP38 := Kd.R_putg HO_9.out (x12_2 : Int) ((x13_4) % 256)
                                  go_wp2_with (first | ((with_reducible refine gate_store (t := 5) (p := 87) rfl ?_); refine store_event (t := 5) (p := 87) (v := ?vo_w39) (w1 := (wr.setCell ⟨go33, (x12_2 : Int).toNat, none⟩ (.int .u8 ((x13_4) % 256)))) ?hg ?ho ?hn ?hr ?_; (case ho => rfl); (case hg => rfl); (case hn => rfl); (case hr => first | (go_simp; done) | (go_simp; rfl)); intro w39 hw; have hg : wr.grownBy w39 (some go33) := (by rw [hw]; exact HP38.2); have hp_ : Kd.R (Kd.int .u8) 5 w39 w.heap.size (fun _ => True) (.slice (some ⟨go33, 0, none⟩) x9_4.length co12) y133 := (by rw [hw, Ny133.out]; exact HP38.1); clear HP38; have n0_ := Aside0.mk (hp_); have n1_ := Aside0.mk ((by rw [hw]; exact below_set (HB.out) GB33.out : Below w.heap.size w w39)); clear HO_9; clear HB; have HO_9 := n0_; have HB := n1_; clear n0_ n1_; clear hg hw hp_) | ((with_reducible refine gate_callee (f := 17) rfl ?_); refine goesL_ (some 89) rfl rfl Try.func17 (by kernel_rfl) rfl #[.slice (some ⟨go33, 0, none⟩) y133.length co12] rfl (by (try simp only [List.map_toArray, List.map_cons, List.map_nil]); first | done | (rw [show y133.length = x9_4.length from (Kd.R_reads' HO_9.out).1.symm] <;> rfl) | rfl | (simp only [List.length_drop, List.length_take]; rfl)) ?_; (with_reducible refine (sum_Sum.calls k4 _ _ y133 t134 _ ?side1 ?side2 A34.out).mono ?_); (case side1 => repeat (first | exact (Kd.R_reads' HO_9.out).2.2 | (with_reducible refine Kd.C_alloc ?_ _) | (with_reducible refine Kd.C_drewN ?_ _) | (with_reducible refine Kd.C_drew ?_))); (case side2 => rw [show y133.length = x9_4.length from (Kd.R_reads' HO_9.out).1.symm]; exact (Kd.R_reads' HO_9.out).2.1); rintro e w' ⟨rfl, ⟨nd, rfl⟩⟩; refine ⟨_, rfl, ?_⟩))
                                  (try simp only [← hl9_4])
                                  go_roundg k4
                                  case measure => have := HJ7.out; have := HK2.out; have := HJ25.out; have := HK4.out; omega
                                  case rel => exact ⟨(y133), (wrap64 (x13_4 + 1)), (by first | rfl | (simp; done) | (simp [*]; done)), H', ⟨by have := HJ7.out; have := HK2.out; have := HJ25.out; have := HK4.out; omega⟩, ⟨by (try simp only [hl9_2]); (try simp only [hl9_4]); (with_reducible repeat (first | apply Kd.R_alloc | apply Kd.R_drewN | apply Kd.R_drew)); exact HO_9.out⟩, ⟨by repeat (first | (with_reducible first | exact HB.out | apply below_alloc | apply pw_below_drewN | apply below_drew1) | exact HB.out)⟩⟩
                              · rw [if_neg c32] at H
                                exact absurd H (by simp)
                            · rw [if_neg c31] at H
                              exact absurd H (by simp)
                          · rw [if_neg c30] at H
                            have c30b0 : decide (x13_4 < 256) = false := decide_eq_false c30
                            clear c30
                            by_cases c40 : 0 ≤ x12_2
                            · rw [if_pos c40] at H
                              have c40b0 : decide (0 ≤ x12_2) = true := decide_eq_true c40
                              clear c40
                              by_cases c41 : x12_2 < (l0.length : Int)
                              · rw [if_pos c41] at H
                                have c41b0 : decide (x12_2 < (l0.length : Int)) = true := decide_eq_true c41
                                clear c41
                                by_cases c42 : x12_2 < (x9_4.length : Int)
                                · rw [if_pos c42] at H
                                  have c42b0 : decide (x12_2 < (x9_4.length : Int)) = true := decide_eq_true c42
                                  clear c42
                                  obtain ⟨y136, hy136⟩ : ∃ y_ : List Int, y_ = (x9_4.set (x12_2 : Int).toNat (rd l0 x12_2)) := ⟨_, rfl⟩
                                  replace H : (annexlaw2_SumFinds.l0 k4 l0 a1 t124 t125 y136 t130 (wrap64 (x12_2 + 1))) = some r := by first | (rw [hy136]; with_reducible exact H) | (have H2_ := (Option.bind_some _ _).symm.trans H; rw [hy136]; with_reducible exact H2_) | (have H2_ := (Option.bind_some _ _).symm.trans H; with_reducible exact H2_) | with_reducible exact H | (rw [hy136]; exact H) | exact H
                                  have Ny136 := Aside0.mk hy136
                                  clear hy136
                                  have H' := Aside0.mk H
                                  clear H
                                  have p135 : 0 ≤ (x12_2 : Int) := of_decide_eq_true (by first | (with_reducible assumption) | assumption)
                                  have q135 : x12_2 < (l0.length : Int) := of_decide_eq_true (by first | (with_reducible assumption) | assumption)
                                  obtain ⟨ad135, e135, hx135_0⟩ := Kd.at_int HR0.out x12_2 p135 q135
                                  cases e135
                                  replace hx135_0 := (HB.out.cell (World.block_lt_of_cell? w _ hx135_0)).trans hx135_0
                                  replace p135 := eq_true p135
                                  replace q135 := eq_true q135
                                  have p43 : 0 ≤ (x12_2 : Int) := of_decide_eq_true (by first | (with_reducible assumption) | assumption)
                                  have q43 : (x12_2 : Int) < ((x9_4.length : Int) : Int) := of_decide_eq_true (by first | (with_reducible assumption) | assumption)
                                  obtain ⟨go43, co43, eo43, gb43, gl43, cl43, HG43⟩ := Kd.R_form HO_9.out (by omega)
                                  (first | cases eo43 | (injection eo43 with ea_ en_ ec_; (first | subst ea_ | (injection ea_ with ea_; subst ea_)); subst ec_; clear en_))
                                  have GB43 := Aside0.mk gb43
                                  have GG43 := Aside0.mk HG43
                                  clear gb43 gl43 HG43
                                  obtain ⟨hx43_0, hf43_0⟩ := Kd.R_celln 0 HO_9.out (x12_2 : Int) p43 q43
                                  replace p43 := eq_true p43
                                  replace q43 := eq_true q43
                                  have HP44 := Kd.R_putg HO_9.out (x12_2 : Int) (rd l0 x12_2)
                                  go_wp2_with (first | ((with_reducible refine gate_store (t := 5) (p := 99) rfl ?_); refine store_event (t := 5) (p := 99) (v := ?vo_w45) (w1 := (wr.setCell ⟨go43, (x12_2 : Int).toNat, none⟩ (.int .u8 (rd l0 x12_2)))) ?hg ?ho ?hn ?hr ?_; (case ho => rfl); (case hg => rfl); (case hn => rfl); (case hr => first | (go_simp; done) | (go_simp; rfl)); intro w45 hw; have hg : wr.grownBy w45 (some go43) := (by rw [hw]; exact HP44.2); have hp_ : Kd.R (Kd.int .u8) 5 w45 w.heap.size (fun _ => True) (.slice (some ⟨go43, 0, none⟩) x9_4.length co12) y136 := (by rw [hw, Ny136.out]; exact HP44.1); clear HP44; have n0_ := Aside0.mk (hp_); have n1_ := Aside0.mk ((by rw [hw]; exact below_set (HB.out) GB43.out : Below w.heap.size w w45)); clear HO_9; clear HB; have HO_9 := n0_; have HB := n1_; clear n0_ n1_; clear hg hw hp_))
                                  (try simp only [← hl9_2, ← hl9_4])
                                  go_roundg k4
                                  case measure => have := HJ7.out; have := HK2.out; have := HJ25.out; have := HK4.out; omega
                                  case rel => exact ⟨(y136), (wrap64 (x12_2 + 1)), (by first | rfl | (simp; done) | (simp [*]; done)), H', ⟨by have := HJ7.out; have := HK2.out; have := HJ25.out; have := HK4.out; omega⟩, ⟨by (try simp only [hl9_2]); (try simp only [hl9_4]); (with_reducible repeat (first | apply Kd.R_alloc | apply Kd.R_drewN | apply Kd.R_drew)); exact HO_9.out⟩, ⟨by repeat (first | (with_reducible first | exact HB.out | apply below_alloc | apply pw_below_drewN | apply below_drew1) | exact HB.out)⟩⟩
                                · rw [if_neg c42] at H
                                  exact absurd H (by simp)
                              · rw [if_neg c41] at H
                                exact absurd H (by simp)
                            · rw [if_neg c40] at H
                              exact absurd H (by simp)
                    · replace c29 := Bool.eq_false_iff.mpr c29
                      subst c29
                      have H1 : (if t124 = 0 then (if t125 = 0 then (some (t130 != a1)) else (some false)) else (some false)) = some r := by rw [if_neg (show ¬ (false = true) by decide)] at H; exact H
                      clear H
                      have H := H1
                      clear H1
                      by_cases c46 : t124 = 0
                      · rw [if_pos c46] at H
                        have c46b0 : (t124 == 0) = true := beq_iff_eq.mpr c46
                        have c46b1 : (t124 != 0) = false := bne_eq_false_iff_eq.mpr c46
                        clear c46
                        by_cases c47 : t125 = 0
                        · rw [if_pos c47] at H
                          have c47b0 : (t125 == 0) = true := beq_iff_eq.mpr c47
                          have c47b1 : (t125 != 0) = false := bne_eq_false_iff_eq.mpr c47
                          clear c47
                          obtain rfl := Option.some.inj H
                          go_wp2
                          go_ret
                          exact ⟨by first | rfl | (simp [errW_none, errW_some] <;> rfl) | (simp [*, errW_none, errW_some] <;> rfl), by repeat (first | (with_reducible first | exact HB.out | apply below_alloc | apply pw_below_drewN | apply below_drew1) | exact HB.out)⟩
                        · rw [if_neg c47] at H
                          have c47b0 : (t125 == 0) = false := beq_eq_false_iff_ne.mpr c47
                          have c47b1 : (t125 != 0) = true := bne_iff_ne.mpr c47
                          obtain rfl := Option.some.inj H
                          go_wp2
                          go_ret
                          exact ⟨by first | rfl | (simp [errW_none, errW_some] <;> rfl) | (simp [*, errW_none, errW_some] <;> rfl), by repeat (first | (with_reducible first | exact HB.out | apply below_alloc | apply pw_below_drewN | apply below_drew1) | exact HB.out)⟩
                      · rw [if_neg c46] at H
                        have c46b0 : (t124 == 0) = false := beq_eq_false_iff_ne.mpr c46
                        have c46b1 : (t124 != 0) = true := bne_iff_ne.mpr c46
                        obtain rfl := Option.some.inj H
                        go_wp2
                        go_ret
                        exact ⟨by first | rfl | (simp [errW_none, errW_some] <;> rfl) | (simp [*, errW_none, errW_some] <;> rfl), by repeat (first | (with_reducible first | exact HB.out | apply below_alloc | apply pw_below_drewN | apply below_drew1) | exact HB.out)⟩
  · replace c4 := Bool.eq_false_iff.mpr c4
    subst c4
    have H1 : (some false) = some r := by rw [if_neg (show ¬ (false = true) by decide)] at H; exact H
    clear H
    have H := H1
    clear H1
    obtain rfl := Option.some.inj H
    go_enter Try.func13, Try.ntmps13
    go_wp2_with (first | ((with_reducible refine gate_callee (f := 15) rfl ?_); refine goesL_ (some 15) rfl rfl Try.func15 (by kernel_rfl) rfl #[] rfl (by (try simp only [List.map_toArray, List.map_cons, List.map_nil]); first | done | rfl | (simp only [List.length_drop, List.length_take]; rfl)) ?_; (with_reducible refine (annexlaw2_known.calls k  false _ A3.out).mono ?_); rintro e w48 ⟨rfl, hb⟩; refine ⟨_, rfl, ?_⟩; have n0_ := Aside0.mk (below_step (by repeat (first | (with_reducible first | exact HB.out | apply below_alloc | apply pw_below_drewN | apply below_drew1) | exact HB.out)) hb); clear HB; have HB := n0_; clear n0_; (try clear hb); (try clear hb2); (try clear hk); (try clear hi)))
    go_ret
    exact ⟨by first | rfl | (simp [errW_none, errW_some] <;> rfl) | (simp [*, errW_none, errW_some] <;> rfl), by repeat (first | (with_reducible first | exact HB.out | apply below_alloc | apply pw_below_drewN | apply below_drew1) | exact HB.out)⟩

/-- THE ONE PURE STATEMENT of annexlaw2_SumFinds: yours. -/
def annexlaw2_SumFinds.Pure : Prop := ∀ (l0 : List Int) (a1 : Int), l0.length ≤ maxLen → l0.length * 1 ≤ 140737488351232 → (∀ x ∈ l0, (Lit.int .u8 x).wf = true) → (Lit.int .u64 a1).wf = true → ∃ k, annexlaw2_SumFinds.f k l0 a1 = some true
theorem annexlaw2_SumFinds.walk (P : annexlaw2_SumFinds.Pure) (a0 : Option Addr) (len0 cap0 : Nat) (z0 : List Int) (a1 : Int) (w : World) (w0 : (a0 = none ∧ len0 = 0 ∧ cap0 = 0 ∧ z0 = []) ∨ ∃ x, a0 = some x ∧ len0 ≤ cap0 ∧ cap0 ≤ maxLen ∧ z0.length = cap0 ∧ (∀ i, i < z0.length → w.cell? (x.add i) = some (.int .u8 (z0.getD i 0))) ∧ ∀ n ∈ z0, (Lit.int .u8 n).wf = true) (y0 : len0 * 1 ≤ 140737488351232) (w1 : (Lit.int .u64 a1).wf = true) :
    Calls Try.prog 13 #[.slice a0 len0 cap0, .int .u64 a1] w fun e w' => e = .returned (.bool true) ∧ Below w.heap.size w w' := by
  obtain ⟨l0, rfl, hr0, hm0, hw0, hc0⟩ := ReadsInt.ofRowC w0
  obtain ⟨k, h⟩ := P l0 a1 hm0 y0 hw0 w1
  refine (annexlaw2_SumFinds.calls k _ _ l0 a1 true w (Kd.C_of_reads (d := (0 : Int)) (h1 := fun _ => rfl) hr0) hc0 h).mono ?_
  rintro e w' ⟨rfl, hd⟩
  exact ⟨rfl, hd⟩

end Go.Proofs.Ytmddjfplkifdmaa.QSumFinds
