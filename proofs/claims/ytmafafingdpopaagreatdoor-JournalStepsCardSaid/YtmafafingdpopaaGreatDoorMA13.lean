/- Bytes, block, SameBytes: as the kit prints them for this seat (the print of block alone falls: too deep a recursion). -/
import Derived.Below
import Derived.Deep.Draws
import Derived.Deep.AppendLies
import Derived.Maps.AppendAt
import Derived.OwnWalk
import Derived.Laws.BytesArg
import Derived.Laws.MakeOwn
import Derived.Laws.OwnMore
import Derived.Deep.OwnRows
import Derived.Tactics
import Derived.Lib.ConvBytes
import Derived.Laws.Slices
import Derived.WalkKit
import Derived.KernelRfl
import Derived.RowKit3
import Derived.Deep.LoopGhost
import Derived.Deep.QuietTactic
import Derived.BigQuiet
import Derived.WideLaws
import Derived.Deep.DeepCutAuto
import Derived.Deep.CutBlock
import Derived.Deep.RegionHeld3
import Derived.Laws.Rows
import Derived.Lib.AppendStr
import Derived.ArgAppend
import Derived.Laws.IdiomCopy
import Derived.OrdersHeld
import Derived.Laws.BitsLemmas
import Derived.RowKit
import Derived.Test.YtmafafingdpopaaGreatDoorProg
import Derived.Test.YtmafafingdpopaaGreatDoorWWords
import Derived.Test.YtmafafingdpopaaGreatDoorWLast
import Derived.Test.YtmafafingdpopaaGreatDoorWMore
import Derived.Test.YtmafafingdpopaaGreatDoorMA11
import Derived.Test.YtmafafingdpopaaGreatDoorMA12
import Derived.Test.YtmafafingdpopaaGreatDoorMA5
import Derived.Test.YtmafafingdpopaaGreatDoorMA8
namespace Go.Proofs.YtmafafingdpopaaGreatDoor.PLaw
open Go.RowKit Go.Proofs.YtmafafingdpopaaGreatDoorW.PrintWords Go.Proofs.YtmafafingdpopaaGreatDoorW.PrintLast Go.Proofs.YtmafafingdpopaaGreatDoorW.PrintMore
attribute [local go_sem] max2_int min2_int max_two min_two max_three min_three max_four min_four   -- for this text's walks alone
set_option linter.unusedVariables false
set_option linter.unusedSimpArgs false
theorem info5 : (Tryz.prog.info? 5).map (fun i => (i.zero, i.size, i.bytes)) = some (some (.int .u8 0), 1, 1) := by kernel_rfl
/-! ### annexref_Bytes: function 59 -/
def annexref_Bytes.l0 : Nat → List Int → List Int → Int → Option (List Int)
  | 0, _, _, _ => none
  | k + 1, x0, x3, x4 => if x4 < (x0.length : Int) then (if 0 ≤ x4 then (if x3.length < 140737488355328 then (annexref_Bytes.l0 k x0 (x3 ++ [rd x0 x4]) (wrap64 (x4 + 1))) else (none)) else (none)) else (some x3)
def annexref_Bytes.f (k : Nat) (l0 : List Int) : Option (List Int) := annexref_Bytes.l0 k l0 ([] : List Int) 0
theorem annexref_Bytes.mono_l : ∀ k, (∀ y0 y1 y2, LeO (annexref_Bytes.l0 k y0 y1 y2) (annexref_Bytes.l0 (k + 1) y0 y1 y2))
  | 0 => fun _ _ _ r h => by simp [annexref_Bytes.l0] at h
  | k + 1 => by
    have ih0 := annexref_Bytes.mono_l k
    · intro y0 y1 y2
      unfold annexref_Bytes.l0
      repeat' first
      | (with_reducible exact ih0 _ _ _)
      | (with_reducible exact LeO.refl _)
      | (with_reducible exact LeO.none _)
      | (with_reducible refine LeO.ite ?_ ?_)
      | (with_reducible refine LeO.bind ?_ (fun _ => ?_))
      | exact ih0 _ _ _
      | exact LeO.none _
      | refine LeO.ite ?_ ?_
      | refine LeO.bind ?_ (fun _ => ?_)
theorem annexref_Bytes.mono : ∀ a0 k, LeO (annexref_Bytes.f k a0) (annexref_Bytes.f (k + 1) a0) := by
  intro a0 k
  have ih0 := annexref_Bytes.mono_l k
  unfold annexref_Bytes.f
  repeat' first
      | (with_reducible exact ih0 _ _ _)
      | (with_reducible exact LeO.refl _)
      | (with_reducible exact LeO.none _)
      | (with_reducible refine LeO.ite ?_ ?_)
      | (with_reducible refine LeO.bind ?_ (fun _ => ?_))
      | exact ih0 _ _ _
      | exact LeO.none _
      | refine LeO.ite ?_ ?_
      | refine LeO.bind ?_ (fun _ => ?_)
set_option maxHeartbeats 8000000 in
set_option maxRecDepth 100000 in
theorem annexref_Bytes.calls (k : Nat) (A0 : Option Addr) (c0 : Nat) (l0 : List Int) (r : List Int) (w : World) (hr0 : Kd.C (Kd.int .u8) w A0 l0.length l0) (hc0 : l0.length ≤ c0) (h : annexref_Bytes.f k l0 = some r) :
    Calls Tryz.prog 59 #[.slice A0 l0.length c0] w fun e w' => ∃ v0_ : Value, e = .returned (v0_) ∧ Kd.R (Kd.int .u8) 5 w' w.heap.size (fun _ => True) v0_ r ∧ Below w.heap.size w w' := by
  have HR0 := Aside0.mk hr0
  have HC0 := Aside0.mk hc0
  clear hr0 hc0
  have HB := Aside0.mk (Below.refl w.heap.size w)
  have H : (annexref_Bytes.l0 k l0 ([] : List Int) 0) = some r := h
  clear h
  have H' := Aside0.mk H
  clear H
  go_enter Tryz.func59, Tryz.ntmps59
  go_wp2
  go_loopg [3, 4] k (fun kq v3 v4 w' => ∃ (x3_1 : List Int) (x4_1 : Int), v4 = .int .i64 x4_1 ∧ Aside0 (annexref_Bytes.l0 kq l0 x3_1 x4_1 = some r) ∧ Aside0 (kq ≤ k) ∧ Aside0 (Kd.R (Kd.int .u8) 5 w' w.heap.size (fun _ => True) v3 x3_1) ∧ Aside0 (Below w.heap.size w w'))
  case atStart => exact ⟨(([] : List Int)), (0), (by first | rfl | (simp; done) | (simp [*]; done)), H', ⟨Nat.le_refl _⟩, ⟨by first | exact Kd.R_nil _ _ _ _ _ | exact Kd.N_nil _ _ _ _ _ | exact Kd.V_nil _ _ _ _ _ | exact Kd.Q_nil _ _ _ _ _ | exact Kd.S_nil _ _ _ _ _⟩, ⟨by repeat (first | (with_reducible first | exact HB.out | apply below_alloc | apply pw_below_drewN | apply below_drew1) | exact HB.out)⟩⟩
  case round =>
    clear H'
    obtain ⟨x3_1, x4_1, rfl, HA, HK1, HO_3, HB⟩ := hrel
    cases gk with
    | zero => exact absurd HA.out (by simp [annexref_Bytes.l0])
    | succ k1 =>
      have H := HA.out
      clear HA
      simp only [annexref_Bytes.l0] at H
      by_cases c2 : x4_1 < (l0.length : Int)
      · rw [if_pos c2] at H
        have c2b0 : decide (x4_1 < (l0.length : Int)) = true := decide_eq_true c2
        clear c2
        by_cases c3 : 0 ≤ x4_1
        · rw [if_pos c3] at H
          have c3b0 : decide (0 ≤ x4_1) = true := decide_eq_true c3
          clear c3
          by_cases c4 : x3_1.length < 140737488355328
          · rw [if_pos c4] at H
            have LMc4 := Aside0.mk c4
            clear c4
            obtain ⟨y102, hy102⟩ : ∃ y_ : List Int, y_ = (x3_1 ++ [rd l0 x4_1]) := ⟨_, rfl⟩
            replace H : (annexref_Bytes.l0 k1 l0 y102 (wrap64 (x4_1 + 1))) = some r := by first | (rw [hy102]; with_reducible exact H) | (have H2_ := (Option.bind_some _ _).symm.trans H; rw [hy102]; with_reducible exact H2_) | (have H2_ := (Option.bind_some _ _).symm.trans H; with_reducible exact H2_) | with_reducible exact H | (rw [hy102]; exact H) | exact H
            have Ny102 := Aside0.mk hy102
            clear hy102
            have H' := Aside0.mk H
            clear H
            have p101 : 0 ≤ (x4_1 : Int) := of_decide_eq_true (by first | (with_reducible assumption) | assumption)
            have q101 : x4_1 < (l0.length : Int) := of_decide_eq_true (by first | (with_reducible assumption) | assumption)
            obtain ⟨ad101, e101, hx101_0⟩ := Kd.at_int HR0.out x4_1 p101 q101
            cases e101
            replace hx101_0 := (HB.out.cell (World.block_lt_of_cell? w _ hx101_0)).trans hx101_0
            replace p101 := eq_true p101
            replace q101 := eq_true q101
            go_wp2_with (first | ((with_reducible refine gate_builtin (b := .append) (xs := #[.tmp 11, .tmp 16]) rfl ?_); at_builtin; refine Kd.R_append (Kd.int .u8) (w0 := w) w.heap.size rfl (.tmp 11) (.tmp 16) 39 5 (.int .u8 0) 1 rfl Tryz.underlying39 info5 rfl (by decide) (by omega) u3 x3_1 (rd l0 x4_1) [.int .u8 (rd l0 x4_1)] (fun _ => True) (fun _ => False) rfl rfl ?aP (fun _ hk => hk.elim) ?aF ?aO ?aB ?aS ?aL ?_; (case aP => exact rfl); (case aB => exact (by repeat (first | (with_reducible first | exact HB.out | apply below_alloc | apply pw_below_drewN | apply below_drew1) | exact HB.out))); (case aF => exact (fun _ _ => trivial)); (case aO => exact (by (with_reducible repeat (first | apply Kd.R_alloc | apply Kd.R_drewN | apply Kd.R_drew)); exact HO_3.out)); (case aS => exact (below_size (by repeat (first | (with_reducible first | exact HB.out | apply below_alloc | apply pw_below_drewN | apply below_drew1) | exact HB.out)))); (case aL => have := LMc4.out; omega); intro v103 w5 ho hb hg hat; rw [← Ny102.out] at ho; have n0_ := Aside0.mk (hb); have n1_ := Aside0.mk (ho); clear HB; clear HO_3; have HB := n0_; have HO104 := n1_; clear n0_ n1_; clear ho hb hg hat))
            go_roundg k1
            case measure => have := HK1.out; omega
            case rel => exact ⟨(y102), (wrap64 (x4_1 + 1)), (by first | rfl | (simp; done) | (simp [*]; done)), H', ⟨by have := HK1.out; omega⟩, ⟨by (with_reducible repeat (first | apply Kd.R_alloc | apply Kd.R_drewN | apply Kd.R_drew)); exact HO104.out⟩, ⟨by repeat (first | (with_reducible first | exact HB.out | apply below_alloc | apply pw_below_drewN | apply below_drew1) | exact HB.out)⟩⟩
          · rw [if_neg c4] at H
            exact absurd H (by simp)
        · rw [if_neg c3] at H
          exact absurd H (by simp)
      · rw [if_neg c2] at H
        have c2b0 : decide (x4_1 < (l0.length : Int)) = false := decide_eq_false c2
        clear c2
        obtain rfl := Option.some.inj H
        go_wp2
        go_ret
        exact ⟨_, by first | rfl | (simp [errW_none, errW_some] <;> rfl) | (simp [*, errW_none, errW_some] <;> rfl), by (with_reducible repeat (first | apply Kd.R_alloc | apply Kd.R_drewN | apply Kd.R_drew)); exact HO_3.out, by repeat (first | (with_reducible first | exact HB.out | apply below_alloc | apply pw_below_drewN | apply below_drew1) | exact HB.out)⟩

/-! ### annexlaw7_block: function 18 -/
mutual
def annexlaw7_block.j0 : Nat → List Int → Option (List Int)
  | 0, _ => none
  | k + 1, x3 => annexlaw7_block.l0 k x3
def annexlaw7_block.l0 : Nat → List Int → Option (List Int)
  | 0, _ => none
  | k + 1, x3 => if (x3.length : Int) < 512 then (if x3.length < 140737488355328 then (annexlaw7_block.l0 k (x3 ++ [0])) else (none)) else (some x3)
end
theorem block_l0 (k : Nat) (x3 : List Int) : annexlaw7_block.l0 (k + 1) x3 = if (x3.length : Int) < 512 then (if x3.length < 140737488355328 then (annexlaw7_block.l0 k (x3 ++ [0])) else (none)) else (some x3) := rfl
theorem block_j0 (k : Nat) (x3 : List Int) : annexlaw7_block.j0 (k + 1) x3 = annexlaw7_block.l0 k x3 := rfl
def annexlaw7_block.f (k : Nat) (l0 : List Int) : Option (List Int) := (annexref_Bytes.f k l0).bind fun t105 => (if (t105.length : Int) > 512 then (if 512 ≤ (t105.length : Int) then (annexlaw7_block.j0 k (t105.take (512 : Int).toNat)) else (none)) else (annexlaw7_block.j0 k t105))
set_option maxRecDepth 100000 in
theorem annexlaw7_block.mono_l : ∀ k, (∀ y0, LeO (annexlaw7_block.j0 k y0) (annexlaw7_block.j0 (k + 1) y0)) ∧ (∀ y0, LeO (annexlaw7_block.l0 k y0) (annexlaw7_block.l0 (k + 1) y0))
  | 0 => ⟨fun _ r h => (by cases h), fun _ r h => (by cases h)⟩
  | k + 1 => by
    obtain ⟨ih0, ih1⟩ := annexlaw7_block.mono_l k
    refine ⟨?_, ?_⟩
    · intro y0
      unfold annexlaw7_block.j0
      repeat' first
      | (with_reducible exact ih0 _)
      | (with_reducible exact ih1 _)
      | (with_reducible exact annexref_Bytes.mono _ _)
      | (with_reducible exact LeO.refl _)
      | (with_reducible exact LeO.none _)
      | (with_reducible refine LeO.ite ?_ ?_)
      | (with_reducible refine LeO.bind ?_ (fun _ => ?_))
      | exact ih0 _
      | exact ih1 _
      | exact annexref_Bytes.mono _ _
      | exact LeO.none _
      | refine LeO.ite ?_ ?_
      | refine LeO.bind ?_ (fun _ => ?_)
    · intro y0
      unfold annexlaw7_block.l0
      repeat' first
      | (with_reducible exact ih0 _)
      | (with_reducible exact ih1 _)
      | (with_reducible exact annexref_Bytes.mono _ _)
      | (with_reducible exact LeO.refl _)
      | (with_reducible exact LeO.none _)
      | (with_reducible refine LeO.ite ?_ ?_)
      | (with_reducible refine LeO.bind ?_ (fun _ => ?_))
      | exact ih0 _
      | exact ih1 _
      | exact annexref_Bytes.mono _ _
      | exact LeO.none _
      | refine LeO.ite ?_ ?_
      | refine LeO.bind ?_ (fun _ => ?_)
set_option maxRecDepth 100000 in
theorem annexlaw7_block.mono : ∀ a0 k, LeO (annexlaw7_block.f k a0) (annexlaw7_block.f (k + 1) a0) := by
  intro a0 k
  obtain ⟨ih0, ih1⟩ := annexlaw7_block.mono_l k
  unfold annexlaw7_block.f
  repeat' first
      | (with_reducible exact ih0 _)
      | (with_reducible exact ih1 _)
      | (with_reducible exact annexref_Bytes.mono _ _)
      | (with_reducible exact LeO.refl _)
      | (with_reducible exact LeO.none _)
      | (with_reducible refine LeO.ite ?_ ?_)
      | (with_reducible refine LeO.bind ?_ (fun _ => ?_))
      | exact ih0 _
      | exact ih1 _
      | exact annexref_Bytes.mono _ _
      | exact LeO.none _
      | refine LeO.ite ?_ ?_
      | refine LeO.bind ?_ (fun _ => ?_)
set_option maxHeartbeats 8000000 in
set_option maxRecDepth 100000 in
theorem annexlaw7_block.calls (k : Nat) (A0 : Option Addr) (c0 : Nat) (l0 : List Int) (r : List Int) (w : World) (hr0 : Kd.C (Kd.int .u8) w A0 l0.length l0) (hc0 : l0.length ≤ c0) (h : annexlaw7_block.f k l0 = some r) :
    Calls Tryz.prog 18 #[.slice A0 l0.length c0] w fun e w' => ∃ v0_ : Value, e = .returned (v0_) ∧ Kd.R (Kd.int .u8) 5 w' w.heap.size (fun _ => True) v0_ r ∧ Below w.heap.size w w' := by
  have HR0 := Aside0.mk hr0
  have HC0 := Aside0.mk hc0
  clear hr0 hc0
  have HB := Aside0.mk (Below.refl w.heap.size w)
  have H : ((annexref_Bytes.f k l0).bind fun t105 => (if (t105.length : Int) > 512 then (if 512 ≤ (t105.length : Int) then (annexlaw7_block.j0 k (t105.take (512 : Int).toNat)) else (none)) else (annexlaw7_block.j0 k t105))) = some r := h
  clear h
  replace H := Option.bind_eq_some_iff.mp H
  obtain ⟨t105, A20, H⟩ := H
  replace H : (if (t105.length : Int) > 512 then (if 512 ≤ (t105.length : Int) then (annexlaw7_block.j0 k (t105.take (512 : Int).toNat)) else (none)) else (annexlaw7_block.j0 k t105)) = some r := H
  have A2 := Aside0.mk A20
  clear A20
  have HC3 := Aside0.mk H
  clear H
  go_enter Tryz.func18, Tryz.ntmps18
  go_upto_if 8 with (first | ((with_reducible refine gate_callee (f := 59) rfl ?_); refine goesL_ (some 5) rfl rfl Tryz.func59 (by kernel_rfl) rfl #[.slice A0 l0.length c0] rfl (by (try simp only [List.map_toArray, List.map_cons, List.map_nil]); first | done | rfl | (simp only [List.length_drop, List.length_take]; rfl)) ?_; (with_reducible refine (annexref_Bytes.calls k _ _ l0 t105 _ ?side1 ?side2 A2.out).mono ?_); (case side1 => repeat (first | exact HR0.out | (with_reducible refine Kd.C_alloc ?_ _) | (with_reducible refine Kd.C_drewN ?_ _) | (with_reducible refine Kd.C_drew ?_))); (case side2 => exact HC0.out); rintro e w4 ⟨v106, rfl, ho0, hb⟩; refine ⟨_, rfl, ?_⟩; have n0_ := Aside0.mk (Kd.R_lower ho0 (below_size (by repeat (first | (with_reducible first | exact HB.out | apply below_alloc | apply pw_below_drewN | apply below_drew1) | exact HB.out)))); have n1_ := Aside0.mk (below_step (by repeat (first | (with_reducible first | exact HB.out | apply below_alloc | apply pw_below_drewN | apply below_drew1) | exact HB.out)) hb); clear HB; have HO107 := n0_; have HB := n1_; clear n0_ n1_; (try clear hb); (try clear hb2); (try clear hk); (try clear hi); (try clear ho0); obtain ⟨Ao5, co5, eo5⟩ := Kd.R_slice HO107.out; subst eo5))
  (try simp only [Act.put, List.setIfInBounds_toArray, List.set_cons_zero, List.set_cons_succ])
  go_cut [3] (fun v3 wc => ∃ (kq : Nat) (x3_2 : List Int), Aside0 (annexlaw7_block.j0 kq x3_2 = some r) ∧ Aside0 (kq ≤ k) ∧ Aside0 (Kd.R (Kd.int .u8) 5 wc w.heap.size (fun _ => True) v3 x3_2) ∧ Aside0 (Below w.heap.size w wc))
  case first =>
    have H := HC3.out
    clear HC3
    by_cases c6 : (t105.length : Int) > 512
    · rw [if_pos c6] at H
      have c6b0 : decide (512 < (t105.length : Int)) = true := decide_eq_true c6
      have c6b1 : decide (512 < t105.length) = true := decide_eq_true (by omega)
      clear c6
      (first | rw [c6b0] | (simp only [i64_w, i32_w]; rw [c6b0]) | skip)
      by_cases c7 : 512 ≤ (t105.length : Int)
      · rw [if_pos c7] at H
        have c7b0 := eq_true c7
        have c7b1 : decide (512 ≤ (t105.length : Int)) = true := decide_eq_true c7
        clear c7
        obtain ⟨y108, hy108⟩ : ∃ y_ : List Int, y_ = (t105.take (512 : Int).toNat) := ⟨_, rfl⟩
        replace H : (annexlaw7_block.j0 k y108) = some r := by first | (rw [hy108]; with_reducible exact H) | (have H2_ := (Option.bind_some _ _).symm.trans H; rw [hy108]; with_reducible exact H2_) | (have H2_ := (Option.bind_some _ _).symm.trans H; with_reducible exact H2_) | with_reducible exact H | (rw [hy108]; exact H) | exact H
        have Ny108 := Aside0.mk hy108
        clear hy108
        have H' := Aside0.mk H
        clear H
        have q8 : (512 : Int) ≤ ((t105.length : Int) : Int) := of_decide_eq_true (by first | (with_reducible assumption) | assumption)
        obtain ⟨i08, hi08, _, hsz8, _⟩ := info_parts info5
        have hcut8 := cut_to (P := Tryz.prog) 39 5 .i64 Tryz.underlying39 hi08 Ao5 t105.length co5 512 (by omega) q8 (Kd.R_reads' HO107.out).2.1
        have hr8 := Kd.R_take (m := (512 : Int).toNat) HO107.out (by omega)
        have hy8 : y108.length = (512 : Int).toNat := (by rw [Ny108.out, List.length_take]; omega)
        rw [← Ny108.out] at hr8
        rw [← hy8] at hr8 hcut8
        clear hy8 hi08 hsz8 HO107
        have HO110 := Aside0.mk hr8
        clear hr8
        replace q8 := eq_true q8
        go_wp2
        go_meet
        case rel => exact ⟨_, (y108), H', ⟨by first | omega | exact Nat.le_refl _⟩, ⟨by (with_reducible repeat (first | apply Kd.R_alloc | apply Kd.R_drewN | apply Kd.R_drew)); exact HO110.out⟩, ⟨by repeat (first | (with_reducible first | exact HB.out | apply below_alloc | apply pw_below_drewN | apply below_drew1) | exact HB.out)⟩⟩
      · rw [if_neg c7] at H
        exact absurd H (by simp)
    · rw [if_neg c6] at H
      have c6b0 : decide (512 < (t105.length : Int)) = false := decide_eq_false c6
      have c6b1 : decide (512 < t105.length) = false := decide_eq_false (by omega)
      clear c6
      (first | rw [c6b0] | (simp only [i64_w, i32_w]; rw [c6b0]) | skip)
      have H' := Aside0.mk H
      clear H
      go_wp2
      go_meet
      case rel => exact ⟨_, (t105), H', ⟨by first | omega | exact Nat.le_refl _⟩, ⟨by (with_reducible repeat (first | apply Kd.R_alloc | apply Kd.R_drewN | apply Kd.R_drew)); exact HO107.out⟩, ⟨by repeat (first | (with_reducible first | exact HB.out | apply below_alloc | apply pw_below_drewN | apply below_drew1) | exact HB.out)⟩⟩
  case rest =>
    clear HC3
    try clear c1
    try clear p2
    try clear c5
    try clear c6
    try clear c6b0
    try clear c6b1
    try clear c7
    try clear c7b0
    try clear c7b1
    try clear q8
    try clear q8
    obtain ⟨kq, x3_2, HA, HJ2, HO_3, HB⟩ := hcut
    cases kq with
    | zero => exact absurd HA.out (by intro q; cases q)
    | succ kj2 =>
      have H := HA.out
      clear HA
      rw [block_j0] at H
      have H' := Aside0.mk H
      clear H
      go_wp2
      go_loopg [3] kj2 (fun kq v3 w' => ∃ (x3_2 : List Int), Aside0 (annexlaw7_block.l0 kq x3_2 = some r) ∧ Aside0 (kq ≤ kj2) ∧ Aside0 (Kd.R (Kd.int .u8) 5 w' w.heap.size (fun _ => True) v3 x3_2) ∧ Aside0 (Below w.heap.size w w'))
      case atStart => exact ⟨(x3_2), H', ⟨Nat.le_refl _⟩, ⟨by (with_reducible repeat (first | apply Kd.R_alloc | apply Kd.R_drewN | apply Kd.R_drew)); exact HO_3.out⟩, ⟨by repeat (first | (with_reducible first | exact HB.out | apply below_alloc | apply pw_below_drewN | apply below_drew1) | exact HB.out)⟩⟩
      case round =>
        clear H'
        try clear c1
        try clear p2
        try clear c5
        try clear c6
        try clear c6b0
        try clear c6b1
        try clear c7
        try clear c7b0
        try clear c7b1
        try clear q8
        try clear p2
        try clear q8
        obtain ⟨x3_2, HA, HK2, HO_3, HB⟩ := hrel
        cases gk with
        | zero => exact absurd HA.out (by intro q; cases q)
        | succ k2 =>
          have H := HA.out
          clear HA
          rw [block_l0] at H
          by_cases c9 : (x3_2.length : Int) < 512
          · rw [if_pos c9] at H
            have c9b0 : decide ((x3_2.length : Int) < 512) = true := decide_eq_true c9
            have c9b1 : decide (x3_2.length < 512) = true := decide_eq_true (by omega)
            clear c9
            by_cases c10 : x3_2.length < 140737488355328
            · rw [if_pos c10] at H
              have LMc10 := Aside0.mk c10
              clear c10
              obtain ⟨y111, hy111⟩ : ∃ y_ : List Int, y_ = (x3_2 ++ [0]) := ⟨_, rfl⟩
              replace H : (annexlaw7_block.l0 k2 y111) = some r := by first | (rw [hy111]; with_reducible exact H) | (have H2_ := (Option.bind_some _ _).symm.trans H; rw [hy111]; with_reducible exact H2_) | (have H2_ := (Option.bind_some _ _).symm.trans H; with_reducible exact H2_) | with_reducible exact H | (rw [hy111]; exact H) | exact H
              have Ny111 := Aside0.mk hy111
              clear hy111
              have H' := Aside0.mk H
              clear H
              obtain ⟨Ao11, co11, eo11⟩ := Kd.R_slice HO_3.out
              subst eo11
              go_wp2_with (first | ((with_reducible refine gate_builtin (b := .append) (xs := #[.tmp 14, .tmp 15]) rfl ?_); at_builtin; refine Kd.R_append (Kd.int .u8) (w0 := w) w.heap.size rfl (.tmp 14) (.tmp 15) 39 5 (.int .u8 0) 1 rfl Tryz.underlying39 info5 rfl (by decide) (by omega) (.slice Ao11 x3_2.length co11) x3_2 0 [.int .u8 0] (fun _ => True) (fun _ => False) rfl rfl ?aP (fun _ hk => hk.elim) ?aF ?aO ?aB ?aS ?aL ?_; (case aP => exact rfl); (case aB => exact (by repeat (first | (with_reducible first | exact HB.out | apply below_alloc | apply pw_below_drewN | apply below_drew1) | exact HB.out))); (case aF => exact (fun _ _ => trivial)); (case aO => exact (by (with_reducible repeat (first | apply Kd.R_alloc | apply Kd.R_drewN | apply Kd.R_drew)); exact HO_3.out)); (case aS => exact (below_size (by repeat (first | (with_reducible first | exact HB.out | apply below_alloc | apply pw_below_drewN | apply below_drew1) | exact HB.out)))); (case aL => have := LMc10.out; omega); intro v112 w12 ho hb hg hat; rw [← Ny111.out] at ho; have n0_ := Aside0.mk (hb); have n1_ := Aside0.mk (ho); clear HB; clear HO_3; have HB := n0_; have HO113 := n1_; clear n0_ n1_; clear ho hb hg hat))
              go_roundg k2
              case measure => have := HJ2.out; have := HK2.out; omega
              case rel => exact ⟨(y111), H', ⟨by have := HJ2.out; have := HK2.out; omega⟩, ⟨by (with_reducible repeat (first | apply Kd.R_alloc | apply Kd.R_drewN | apply Kd.R_drew)); exact HO113.out⟩, ⟨by repeat (first | (with_reducible first | exact HB.out | apply below_alloc | apply pw_below_drewN | apply below_drew1) | exact HB.out)⟩⟩
            · rw [if_neg c10] at H
              exact absurd H (by simp)
          · rw [if_neg c9] at H
            have c9b0 : decide ((x3_2.length : Int) < 512) = false := decide_eq_false c9
            have c9b1 : decide (x3_2.length < 512) = false := decide_eq_false (by omega)
            clear c9
            obtain rfl := Option.some.inj H
            obtain ⟨Ao13, co13, eo13⟩ := Kd.R_slice HO_3.out
            subst eo13
            go_wp2
            go_ret
            exact ⟨_, by first | rfl | (simp [errW_none, errW_some] <;> rfl) | (simp [*, errW_none, errW_some] <;> rfl), by (with_reducible repeat (first | apply Kd.R_alloc | apply Kd.R_drewN | apply Kd.R_drew)); exact HO_3.out, by repeat (first | (with_reducible first | exact HB.out | apply below_alloc | apply pw_below_drewN | apply below_drew1) | exact HB.out)⟩







/-! ### annexref_SameBytes: function 21 -/
def annexref_SameBytes.l0 : Nat → List Int → List Int → Int → Option (Bool)
  | 0, _, _, _ => none
  | k + 1, x0, x1, x5 => if x5 < (x0.length : Int) then (if 0 ≤ x5 then (if x5 < (x1.length : Int) then (if (rd x0 x5) = (rd x1 x5) then (annexref_SameBytes.l0 k x0 x1 (wrap64 (x5 + 1))) else (some false)) else (none)) else (none)) else (some true)
def annexref_SameBytes.f (k : Nat) (l0 : List Int) (l1 : List Int) : Option (Bool) := if (l0.length : Int) = (l1.length : Int) then (annexref_SameBytes.l0 k l0 l1 0) else (some false)
theorem annexref_SameBytes.mono_l : ∀ k, (∀ y0 y1 y2, LeO (annexref_SameBytes.l0 k y0 y1 y2) (annexref_SameBytes.l0 (k + 1) y0 y1 y2))
  | 0 => fun _ _ _ r h => by simp [annexref_SameBytes.l0] at h
  | k + 1 => by
    have ih0 := annexref_SameBytes.mono_l k
    · intro y0 y1 y2
      unfold annexref_SameBytes.l0
      repeat' first
      | (with_reducible exact ih0 _ _ _)
      | (with_reducible exact LeO.refl _)
      | (with_reducible exact LeO.none _)
      | (with_reducible refine LeO.ite ?_ ?_)
      | (with_reducible refine LeO.bind ?_ (fun _ => ?_))
      | exact ih0 _ _ _
      | exact LeO.none _
      | refine LeO.ite ?_ ?_
      | refine LeO.bind ?_ (fun _ => ?_)
theorem annexref_SameBytes.mono : ∀ a0 a1 k, LeO (annexref_SameBytes.f k a0 a1) (annexref_SameBytes.f (k + 1) a0 a1) := by
  intro a0 a1 k
  have ih0 := annexref_SameBytes.mono_l k
  unfold annexref_SameBytes.f
  repeat' first
      | (with_reducible exact ih0 _ _ _)
      | (with_reducible exact LeO.refl _)
      | (with_reducible exact LeO.none _)
      | (with_reducible refine LeO.ite ?_ ?_)
      | (with_reducible refine LeO.bind ?_ (fun _ => ?_))
      | exact ih0 _ _ _
      | exact LeO.none _
      | refine LeO.ite ?_ ?_
      | refine LeO.bind ?_ (fun _ => ?_)
set_option maxHeartbeats 8000000 in
set_option maxRecDepth 100000 in
theorem annexref_SameBytes.calls (k : Nat) (A0 : Option Addr) (c0 : Nat) (l0 : List Int) (A1 : Option Addr) (c1 : Nat) (l1 : List Int) (r : Bool) (w : World) (hr0 : Kd.C (Kd.int .u8) w A0 l0.length l0) (hc0 : l0.length ≤ c0) (hr1 : Kd.C (Kd.int .u8) w A1 l1.length l1) (hc1 : l1.length ≤ c1) (h : annexref_SameBytes.f k l0 l1 = some r) :
    Calls Tryz.prog 21 #[.slice A0 l0.length c0, .slice A1 l1.length c1] w fun e w' => e = .returned (.bool r) ∧ Drawn0 w w' := by
  have HR0 := Aside0.mk hr0
  have HC0 := Aside0.mk hc0
  clear hr0 hc0
  have HR1 := Aside0.mk hr1
  have HC1 := Aside0.mk hc1
  clear hr1 hc1
  have H : (if (l0.length : Int) = (l1.length : Int) then (annexref_SameBytes.l0 k l0 l1 0) else (some false)) = some r := h
  clear h
  by_cases c3 : (l0.length : Int) = (l1.length : Int)
  · rw [if_pos c3] at H
    have c3b0 : ((l0.length : Int) == (l1.length : Int)) = true := beq_iff_eq.mpr c3
    have c3b1 : ((l0.length : Int) != (l1.length : Int)) = false := bne_eq_false_iff_eq.mpr c3
    have c3b2 : (l0.length == l1.length) = true := by first | simpa using c3 | (simp at c3 ⊢; omega)
    clear c3
    have H' := Aside0.mk H
    clear H
    go_enter Tryz.func21, Tryz.ntmps21
    go_wp2
    repeat (go_quiet (fail); try go_wp2)
    go_loopg [5] k (fun kq v5 w' => ∃ (x5_1 : Int), v5 = .int .i64 x5_1 ∧ Aside0 (annexref_SameBytes.l0 kq l0 l1 x5_1 = some r) ∧ Aside0 (kq ≤ k) ∧ Drawn0 w w')
    case atStart => exact ⟨(0), (by first | rfl | (simp; done) | (simp [*]; done)), H', ⟨Nat.le_refl _⟩, by repeat (first | exact Drawn0.refl _ | apply Drawn0.step)⟩
    case round =>
      clear H'
      try clear c1
      try clear c2
      try clear p2
      try clear c3
      try clear c3b0
      try clear c3b1
      try clear c3b2
      obtain ⟨x5_1, rfl, HA, HK1, ⟨m1, rfl⟩⟩ := hrel
      cases gk with
      | zero => exact absurd HA.out (by simp [annexref_SameBytes.l0])
      | succ k1 =>
        have H := HA.out
        clear HA
        simp only [annexref_SameBytes.l0] at H
        by_cases c4 : x5_1 < (l0.length : Int)
        · rw [if_pos c4] at H
          have c4b0 : decide (x5_1 < (l0.length : Int)) = true := decide_eq_true c4
          clear c4
          by_cases c5 : 0 ≤ x5_1
          · rw [if_pos c5] at H
            have c5b0 : decide (0 ≤ x5_1) = true := decide_eq_true c5
            clear c5
            by_cases c6 : x5_1 < (l1.length : Int)
            · rw [if_pos c6] at H
              have c6b0 : decide (x5_1 < (l1.length : Int)) = true := decide_eq_true c6
              clear c6
              by_cases c7 : (rd l0 x5_1) = (rd l1 x5_1)
              · rw [if_pos c7] at H
                have c7b0 : ((rd l0 x5_1) == (rd l1 x5_1)) = true := beq_iff_eq.mpr c7
                have c7b1 : ((rd l0 x5_1) != (rd l1 x5_1)) = false := bne_eq_false_iff_eq.mpr c7
                clear c7
                have H' := Aside0.mk H
                clear H
                have p117 : 0 ≤ (x5_1 : Int) := of_decide_eq_true (by first | (with_reducible assumption) | assumption)
                have q117 : x5_1 < (l0.length : Int) := of_decide_eq_true (by first | (with_reducible assumption) | assumption)
                obtain ⟨ad117, e117, hx117_0⟩ := Kd.at_int HR0.out x5_1 p117 q117
                cases e117
                replace p117 := eq_true p117
                replace q117 := eq_true q117
                have p118 : 0 ≤ (x5_1 : Int) := of_decide_eq_true (by first | (with_reducible assumption) | assumption)
                have q118 : x5_1 < (l1.length : Int) := of_decide_eq_true (by first | (with_reducible assumption) | assumption)
                obtain ⟨ad118, e118, hx118_0⟩ := Kd.at_int HR1.out x5_1 p118 q118
                cases e118
                replace p118 := eq_true p118
                replace q118 := eq_true q118
                go_wp2
                repeat (go_quiet (fail); try go_wp2)
                go_roundg k1
                case measure => have := HK1.out; omega
                case rel => exact ⟨(wrap64 (x5_1 + 1)), (by first | rfl | (simp; done) | (simp [*]; done)), H', ⟨by have := HK1.out; omega⟩, by repeat (first | exact Drawn0.refl _ | apply Drawn0.step)⟩
              · rw [if_neg c7] at H
                have c7b0 : ((rd l0 x5_1) == (rd l1 x5_1)) = false := beq_eq_false_iff_ne.mpr c7
                have c7b1 : ((rd l0 x5_1) != (rd l1 x5_1)) = true := bne_iff_ne.mpr c7
                obtain rfl := Option.some.inj H
                have p117 : 0 ≤ (x5_1 : Int) := of_decide_eq_true (by first | (with_reducible assumption) | assumption)
                have q117 : x5_1 < (l0.length : Int) := of_decide_eq_true (by first | (with_reducible assumption) | assumption)
                obtain ⟨ad117, e117, hx117_0⟩ := Kd.at_int HR0.out x5_1 p117 q117
                cases e117
                replace p117 := eq_true p117
                replace q117 := eq_true q117
                have p118 : 0 ≤ (x5_1 : Int) := of_decide_eq_true (by first | (with_reducible assumption) | assumption)
                have q118 : x5_1 < (l1.length : Int) := of_decide_eq_true (by first | (with_reducible assumption) | assumption)
                obtain ⟨ad118, e118, hx118_0⟩ := Kd.at_int HR1.out x5_1 p118 q118
                cases e118
                replace p118 := eq_true p118
                replace q118 := eq_true q118
                go_wp2
                repeat (go_quiet (fail); try go_wp2)
                go_ret
                exact ⟨by first | rfl | (simp; done) | (simp [*]; done), by repeat (first | exact Drawn0.refl _ | apply Drawn0.step)⟩
            · rw [if_neg c6] at H
              exact absurd H (by simp)
          · rw [if_neg c5] at H
            exact absurd H (by simp)
        · rw [if_neg c4] at H
          have c4b0 : decide (x5_1 < (l0.length : Int)) = false := decide_eq_false c4
          clear c4
          obtain rfl := Option.some.inj H
          go_wp2
          repeat (go_quiet (fail); try go_wp2)
          go_ret
          exact ⟨by first | rfl | (simp; done) | (simp [*]; done), by repeat (first | exact Drawn0.refl _ | apply Drawn0.step)⟩
  · rw [if_neg c3] at H
    have c3b0 : ((l0.length : Int) == (l1.length : Int)) = false := beq_eq_false_iff_ne.mpr c3
    have c3b1 : ((l0.length : Int) != (l1.length : Int)) = true := bne_iff_ne.mpr c3
    have c3b2 : (l0.length == l1.length) = false := by first | simpa using c3 | (simp at c3 ⊢; omega)
    obtain rfl := Option.some.inj H
    go_enter Tryz.func21, Tryz.ntmps21
    go_wp2
    repeat (go_quiet (fail); try go_wp2)
    go_ret
    exact ⟨by first | rfl | (simp; done) | (simp [*]; done), by repeat (first | exact Drawn0.refl _ | apply Drawn0.step)⟩




end Go.Proofs.YtmafafingdpopaaGreatDoor.PLaw
/- The laws' helpers: num, SameBytes, Bytes, block, place, open. -/
namespace Go.Proofs.YtmafafingdpopaaGreatDoor.Sep
open Go.Proofs Go.RowKit Go.ChangeMaps Go.Proofs.YtmafafingdpopaaGreatDoorW.PrintWords Go.Proofs.YtmafafingdpopaaGreatDoorW.PrintLast Go.Proofs.YtmafafingdpopaaGreatDoorW.PrintMore Go.Proofs.YtmafafingdpopaaGreatDoor.Dev Go.Proofs.YtmafafingdpopaaGreatDoor.Errs Go.Proofs.YtmafafingdpopaaGreatDoor.Jr Go.Proofs.YtmafafingdpopaaGreatDoor.Help Go.Proofs.YtmafafingdpopaaGreatDoor.IMap Go.Proofs.YtmafafingdpopaaGreatDoor.PLaw
set_option linter.unusedVariables false
set_option linter.unusedSimpArgs false
theorem lrd_at (l : List Int) (i : Nat) (h : i < l.length) : Go.Proofs.YtmafafingdpopaaGreatDoorW.PrintWords.rd l (i : Int) = l[i] := by simp [Go.Proofs.YtmafafingdpopaaGreatDoorW.PrintWords.rd, h]
theorem lwrap_up {i n : Nat} (h : i < n) (hn : n ≤ 140737488355328) : wrap64 ((i : Int) + 1) = ((i + 1 : Nat) : Int) := by unfold wrap64; omega
theorem lsame_l (a b : List Int) (hab : a.length = b.length) (hn : a.length ≤ 140737488355328) : ∀ (d k : Nat) (i : Nat), i + d = a.length → d < k → annexref_SameBytes.l0 k a b (i : Int) = some (decide (a.drop i = b.drop i)) := by
  intro d
  induction d with
  | zero =>
    intro k i hi hk
    obtain ⟨k, rfl⟩ : ∃ m, k = m + 1 := ⟨k - 1, by omega⟩
    simp only [annexref_SameBytes.l0]
    rw [if_neg (by omega), List.drop_of_length_le (by omega), List.drop_of_length_le (by omega)]
    simp
  | succ d ih =>
    intro k i hi hk
    obtain ⟨k, rfl⟩ : ∃ m, k = m + 1 := ⟨k - 1, by omega⟩
    have hlt : i < a.length := by omega
    have hlt2 : i < b.length := by omega
    simp only [annexref_SameBytes.l0]
    rw [if_pos (by omega), if_pos (by omega), if_pos (by omega), lrd_at a i hlt, lrd_at b i hlt2, lwrap_up hlt (by omega), ih k (i + 1) (by omega) (by omega), List.drop_eq_getElem_cons hlt, List.drop_eq_getElem_cons hlt2]
    by_cases e : a[i] = b[i]
    · rw [if_pos e]
      congr 1
      exact decide_eq_decide.2 ⟨fun h => by rw [e, h], fun h => (List.cons.inj h).2⟩
    · rw [if_neg e]
      congr 1
      exact (decide_eq_false fun h => e (List.cons.inj h).1).symm
theorem lsame_is (a b : List Int) (hn : a.length ≤ 140737488355328) : annexref_SameBytes.f (a.length + 1) a b = some (decide (a = b)) := by
  unfold annexref_SameBytes.f
  by_cases h : a.length = b.length
  · rw [if_pos (by omega)]
    have := lsame_l a b h hn a.length (a.length + 1) 0 (by omega) (by omega)
    simpa using this
  · rw [if_neg (by omega)]
    have : a ≠ b := fun e => h (by rw [e])
    simp [this]
theorem lbytes_l (l : List Int) (hn : l.length ≤ 140737488355328) : ∀ (d k : Nat) (i : Nat), i + d = l.length → d < k → annexref_Bytes.l0 k l (l.take i) (i : Int) = some l := by
  intro d
  induction d with
  | zero =>
    intro k i hi hk
    obtain ⟨k, rfl⟩ : ∃ m, k = m + 1 := ⟨k - 1, by omega⟩
    simp only [annexref_Bytes.l0]
    rw [if_neg (by omega), List.take_of_length_le (by omega)]
  | succ d ih =>
    intro k i hi hk
    obtain ⟨k, rfl⟩ : ∃ m, k = m + 1 := ⟨k - 1, by omega⟩
    have hlt : i < l.length := by omega
    simp only [annexref_Bytes.l0]
    rw [if_pos (by omega), if_pos (by omega), if_pos (by rw [List.length_take]; omega), lrd_at l i hlt, lwrap_up hlt hn]
    have e : l.take i ++ [l[i]] = l.take (i + 1) := (List.take_succ_eq_append_getElem hlt).symm
    rw [e]
    exact ih k (i + 1) (by omega) (by omega)
theorem lbytes_is (l : List Int) (hn : l.length ≤ 140737488355328) (k : Nat) (hk : l.length < k) : annexref_Bytes.f k l = some l := lbytes_l l hn l.length k 0 (by omega) hk
theorem lblock_l (x : List Int) : ∀ (d k : Nat), x.length + d = 512 → d < k → annexlaw7_block.l0 k x = some (x ++ List.replicate d 0)
  | 0, k, h, hk => by
    obtain ⟨k, rfl⟩ : ∃ m, k = m + 1 := ⟨k - 1, by omega⟩
    rw [block_l0]
    rw [if_neg (by omega)]
    simp
  | d + 1, k, h, hk => by
    obtain ⟨k, rfl⟩ : ∃ m, k = m + 1 := ⟨k - 1, by omega⟩
    rw [block_l0]
    rw [if_pos (by omega), if_pos (by omega), lblock_l (x ++ [0]) d k (by simp; omega) (by omega), List.append_assoc]
    rfl
theorem blk_is_pad (l : List Int) : Go.Proofs.YtmafafingdpopaaGreatDoor.Sep.blk l = l.take 512 ++ List.replicate (512 - l.length) 0 := by
  unfold Go.Proofs.YtmafafingdpopaaGreatDoor.Sep.blk splice
  rw [List.take_zero, List.nil_append, List.drop_replicate, List.length_take]
  congr 2
  omega
theorem lblock_is (l : List Int) (hn : l.length ≤ 140737488355328) : annexlaw7_block.f (l.length + 600) l = some (Go.Proofs.YtmafafingdpopaaGreatDoor.Sep.blk l) := by
  unfold annexlaw7_block.f
  rw [lbytes_is l hn _ (by omega), Option.bind_some, blk_is_pad]
  have key : ∀ (x : List Int) (k : Nat), x.length ≤ 512 → 600 ≤ k → annexlaw7_block.j0 k x = some (x ++ List.replicate (512 - x.length) 0) := fun x k h1 h2 => by
    obtain ⟨k, rfl⟩ : ∃ m, k = m + 1 := ⟨k - 1, by omega⟩
    rw [block_j0]
    exact lblock_l x (512 - x.length) k (by omega) (by omega)
  by_cases h : (l.length : Int) > 512
  · rw [if_pos h, if_pos (by omega)]
    show annexlaw7_block.j0 _ (l.take 512) = _
    have e : (l.take 512).length = 512 := by rw [List.length_take]; omega
    rw [key _ _ (by omega) (by omega), e, show 512 - l.length = 0 by omega]
  · rw [if_neg h, key _ _ (by omega) (by omega), List.take_of_length_le (by omega)]
theorem num_any (x : Int) (w : World) : Calls Tryz.prog 20 #[.int .i64 x] w fun e w' => e = .returned (.int .i64 x) ∧ w' = w := by
  go_enter Tryz.func20, Tryz.ntmps20
  go_wp2
  go_ret
  exact ⟨rfl, rfl⟩
section
variable {w0 w w' : World} {R : List Asn} {p d : Nat} {ps : List (Nat × List Int)} {v : JV} {s : DS} {sa : Addr} {G : Geo} {T : Tn} {W : Int → List Int} {hs : List VB}
theorem same_s (w : World) (A B : Option Addr) (n m c1 c2 : Nat) (a b : List Int) (ha : ReadsInt w .u8 A n a) (hb : ReadsInt w .u8 B m b) (h1 : n ≤ c1) (h2 : m ≤ c2) (hn : n ≤ 140737488355328) :
    Calls Tryz.prog 21 #[.slice A n c1, .slice B m c2] w fun e w' => e = .returned (.bool (decide (a = b))) ∧ Below w.heap.size w w' := by
  have hna := ha.1
  have hnb := hb.1
  subst hna
  subst hnb
  exact (annexref_SameBytes.calls (a.length + 1) A c1 a B c2 b _ w (Kd.C_of_reads (enc := Value.int .u8) (d := (0 : Int)) (h1 := fun _ => rfl) ha) h1 (Kd.C_of_reads (enc := Value.int .u8) (d := (0 : Int)) (h1 := fun _ => rfl) hb) h2 (lsame_is a b hn)).mono fun e w' h => ⟨h.1, h.2.below⟩
theorem block_s7 (S : Sep w0 w R) {A : Option Addr} {n c : Nat} {l : List Int} (hr : ReadsInt w .u8 A n l) (hc : n ≤ c) (hl : n ≤ 140737488351232) : Calls Tryz.prog 18 #[.slice A n c] w fun e w' => ∃ g d, e = .returned (.slice (some ⟨g, 0, none⟩) 512 d) ∧ Sep w0 w' (Byt (some ⟨g, 0, none⟩) 512 d (Go.Proofs.YtmafafingdpopaaGreatDoor.Sep.blk l) :: R) := by
  obtain rfl : l.length = n := hr.1
  refine (annexlaw7_block.calls (l.length + 600) A c l _ w (Kd.C_of_reads (enc := Value.int .u8) (d := (0 : Int)) (h1 := fun _ => rfl) hr) hc (lblock_is l (by omega))).mono ?_
  rintro e w' ⟨v, rfl, h3, b⟩
  have h5 := Kd.own_of_R h3
  rw [blk_len] at h5
  obtain ⟨B, d, rfl⟩ := own_slice h5
  have S1 := S.row_new b h5
  obtain ⟨g, rfl⟩ := S1.addr (by decide)
  exact ⟨g, d, rfl, S1⟩
theorem block_nil (S : Sep w0 w R) : Calls Tryz.prog 18 #[.slice none 0 0] w fun e w' => ∃ g d, e = .returned (.slice (some ⟨g, 0, none⟩) 512 d) ∧ Sep w0 w' (Byt (some ⟨g, 0, none⟩) 512 d (List.replicate 512 0) :: R) := by
  have h := block_s7 S (A := none) (n := 0) (c := 0) (l := []) ⟨rfl, by decide, fun h => absurd h (by decide)⟩ (Nat.le_refl _) (by decide)
  have e : Go.Proofs.YtmafafingdpopaaGreatDoor.Sep.blk [] = List.replicate 512 0 := by rw [blk_is_pad]; rfl
  rw [e] at h
  exact h
theorem Sep.town (S : Sep w0 w (TownA T :: R)) : Sep w0 w (Blk T.tp #[.pointer (some ⟨T.d, 0, none⟩), .int .i64 T.start, .int .i64 T.size, T.vo, T.vw] 47 :: Own 3 1 T.vo T.outs.length (nums .i64 T.outs) :: Own 39 1 T.vw T.ws.length (T.ws.map (·.1)) :: R) := S.openA
theorem Sep.townA (T : Tn) (S : Sep w0 w (Blk T.tp #[.pointer (some ⟨T.d, 0, none⟩), .int .i64 T.start, .int .i64 T.size, T.vo, T.vw] 47 :: Own 3 1 T.vo T.outs.length (nums .i64 T.outs) :: Own 39 1 T.vw T.ws.length (T.ws.map (·.1)) :: R)) : Sep w0 w (TownA T :: R) := Sep.closeA (l := TownL T) S
set_option maxRecDepth 100000 in
theorem place_s (S : Sep w0 w (TownA T :: R)) (h0 : 0 < T.outs.length) (h1 : T.outs.length ≤ 200) (b : Int) (hb : -9223372036854775808 ≤ b ∧ b < 9223372036854775808) : Calls Tryz.prog 16 #[.pointer (some ⟨T.tp, 0, none⟩), .int .i64 b] w fun e w' => ∃ k : Nat, k < T.outs.length ∧ e = .returned (.int .i64 (k : Int)) ∧ w' = w := by
  have S1 := S.town
  obtain ⟨Ao, co, ho⟩ := own_slice (S1.swap.row)
  have c3 := S1.cell 3 (v := T.vo) rfl
  rw [ho] at c3
  clear S1 S ho
  have a1 : Int.tmod b (T.outs.length : Int) < (T.outs.length : Int) := Int.tmod_lt_of_pos _ (by omega)
  have a2 : -(T.outs.length : Int) < Int.tmod b (T.outs.length : Int) := Int.lt_tmod_of_pos _ (by omega)
  have e1 : IntKind.i64.wrap (Int.tmod b (T.outs.length : Int)) = Int.tmod b (T.outs.length : Int) := by rw [IntKind.wrap_i64]; omega
  have e2 : IntKind.i64.wrap (Int.tmod b (T.outs.length : Int) + (T.outs.length : Int)) = Int.tmod b (T.outs.length : Int) + (T.outs.length : Int) := by rw [IntKind.wrap_i64]; omega
  obtain ⟨k, hk1, hk⟩ : ∃ k : Nat, k < T.outs.length ∧ (Int.tmod b (T.outs.length : Int) + (T.outs.length : Int)) % (T.outs.length : Int) = (k : Int) := by
    have a3 := Int.emod_nonneg (Int.tmod b (T.outs.length : Int) + (T.outs.length : Int)) (show (T.outs.length : Int) ≠ 0 by omega)
    have a4 := Int.emod_lt_of_pos (Int.tmod b (T.outs.length : Int) + (T.outs.length : Int)) (show (0 : Int) < (T.outs.length : Int) by omega)
    exact ⟨((Int.tmod b (T.outs.length : Int) + (T.outs.length : Int)) % (T.outs.length : Int)).toNat, by omega, by omega⟩
  have HK := Aside0.mk hk
  clear hk
  have hne : ¬ (T.outs.length : Int) = 0 := by omega
  go_enter Tryz.func16, Tryz.ntmps16
  go_wp2
  go_ret
  exact ⟨k, hk1, congrArg (fun x => Ending.returned (.int .i64 x)) HK.out, rfl⟩
end
end Go.Proofs.YtmafafingdpopaaGreatDoor.Sep
/- open: the town's journal, opened. -/
namespace Go.Proofs.YtmafafingdpopaaGreatDoor.Sep
open Go.Proofs Go.RowKit Go.ChangeMaps Go.Proofs.YtmafafingdpopaaGreatDoorW.PrintWords Go.Proofs.YtmafafingdpopaaGreatDoorW.PrintLast Go.Proofs.YtmafafingdpopaaGreatDoorW.PrintMore Go.Proofs.YtmafafingdpopaaGreatDoor.Dev Go.Proofs.YtmafafingdpopaaGreatDoor.Errs Go.Proofs.YtmafafingdpopaaGreatDoor.Jr Go.Proofs.YtmafafingdpopaaGreatDoor.Help Go.Proofs.YtmafafingdpopaaGreatDoor.IMap
set_option linter.unusedVariables false
set_option linter.unusedSimpArgs false
section
variable {w0 w w' : World} {R : List Asn} {p d : Nat} {ps : List (Nat × List Int)} {v : JV} {s : DS} {sa : Addr} {G : Geo} {T : Tn} {W : Int → List Int} {hs : List VB}
theorem OpenP.shape {start size : Int} {r : Int × DS × Option (JS × Int)} {e : Ending} (h : OpenP w0 R d start size r e w') : ∃ x t c, e = .returned (.tuple #[x, .int .i64 t, .int .i64 c]) := by
  rcases h with ⟨J, taken, p, v, ps, h1, h2, h3⟩ | ⟨h1, h2, S⟩
  · exact ⟨_, _, _, h2⟩
  · exact ⟨_, _, _, h2⟩
theorem OpenP.town {start size : Int} {r : Int × DS × Option (JS × Int)} {e : Ending} (h : OpenP w0 (TownA T :: R) d start size r e w') : ∃ L, Sep w0 w' (TownA T :: L) := by
  rcases h with ⟨J, taken, p, v, ps, h1, h2, _, _, _, _, _, _, S⟩ | ⟨h1, h2, S⟩
  · exact ⟨_, S.pull 4⟩
  · exact ⟨_, S.pull 1⟩
theorem OpenP.calm {start size : Int} {r : Int × DS × Option (JS × Int)} {e : Ending} (h : OpenP w0 R d start size r e w) (hb : Below w.heap.size w w') : OpenP w0 R d start size r e w' := by
  rcases h with ⟨J, taken, p, v, ps, h1, h2, h3, h4, h5, h6, h7, h8, S⟩ | ⟨h1, h2, S⟩
  · exact .inl ⟨J, taken, p, v, ps, h1, h2, h3, h4, h5, h6, h7, h8, S.calm hb⟩
  · exact .inr ⟨h1, h2, S.calm hb⟩
set_option maxRecDepth 100000 in
set_option maxHeartbeats 4000000 in
theorem topen_s (hr : Rt w0) (hsn : Sen sa w0) (S : Sep w0 w (TownA T :: DevA T.d s :: R)) (hG : (⟨(s.n : Int), T.start, T.size⟩ : Geo).Ok) (hB : DByte s) (hp : s.pend.length ≤ 80000) :
    Calls Tryz.prog 14 #[.pointer (some ⟨T.tp, 0, none⟩)] w (OpenP w0 (TownA T :: R) T.d T.start T.size (Jr.openJ ⟨(s.n : Int), T.start, T.size⟩ s)) := by
  have S1 := S.town
  have c0 := S1.cell 0 (v := .pointer (some ⟨T.d, 0, none⟩)) rfl
  have c1 := S1.cell 1 (v := .int .i64 T.start) rfl
  have c2 := S1.cell 2 (v := .int .i64 T.size) rfl
  obtain ⟨r, hrr⟩ : ∃ r, r = Jr.openJ ⟨(s.n : Int), T.start, T.size⟩ s := ⟨_, rfl⟩
  have hop := fun W (S : Sep w0 W (TownA T :: DevA T.d s :: R)) => openj_s hr hsn (S.pull 1) T.start T.size hG hB hp
  rw [← hrr] at hop ⊢
  clear S1 hrr hG hB hp
  go_enter Tryz.func14, Tryz.ntmps14
  go_wp2_with fail
  go_region_held (fun W => W.cell? ⟨T.tp, 0, none⟩ = some (.pointer (some ⟨T.d, 0, none⟩)) ∧ W.cell? ⟨T.tp, 1, none⟩ = some (.int .i64 T.start) ∧ W.cell? ⟨T.tp, 2, none⟩ = some (.int .i64 T.size)) (refine ⟨?_, ?_, ?_⟩ <;> (repeat (first | (with_reducible assumption) | (with_reducible refine kd ?_))))
    (first
      | (go_at_call 57; refine (hop _ S.drew).mono ?_; rintro e w1 hP; obtain ⟨x, tk, c, rfl⟩ := hP.shape; obtain ⟨L, SL⟩ := hP.town; have y0 := SL.town.cell 0 (v := .pointer (some ⟨T.d, 0, none⟩)) rfl; have y1 := SL.town.cell 1 (v := .int .i64 T.start) rfl; have y2 := SL.town.cell 2 (v := .int .i64 T.size) rfl; have HP := Aside0.mk hP; clear hP SL))
  clear c0 c1 c2 y0 y1 y2 hop S
  go_wp2_with (first | (go_at_call 20; refine (num_any _ _).mono ?_; rintro _ _ ⟨rfl, rfl⟩))
  go_ret3
  exact HP.out
end
end Go.Proofs.YtmafafingdpopaaGreatDoor.Sep
/- holds: all blocks outside hold what is wanted. -/
namespace Go.Proofs.YtmafafingdpopaaGreatDoor.Sep
open Go.Proofs Go.RowKit Go.ChangeMaps Go.Proofs.YtmafafingdpopaaGreatDoorW.PrintWords Go.Proofs.YtmafafingdpopaaGreatDoorW.PrintLast Go.Proofs.YtmafafingdpopaaGreatDoorW.PrintMore Go.Proofs.YtmafafingdpopaaGreatDoor.Dev Go.Proofs.YtmafafingdpopaaGreatDoor.Errs Go.Proofs.YtmafafingdpopaaGreatDoor.Jr Go.Proofs.YtmafafingdpopaaGreatDoor.Help Go.Proofs.YtmafafingdpopaaGreatDoor.IMap
set_option linter.unusedVariables false
set_option linter.unusedSimpArgs false
section
variable {w0 w w' : World} {R : List Asn} {p d : Nat} {ps : List (Nat × List Int)} {v : JV} {s : DS} {sa : Addr} {G : Geo} {T : Tn} {W : Int → List Int} {hs : List VB}
theorem Sep.outs_at (S : Sep w0 w (Own 3 1 T.vo T.outs.length (nums .i64 T.outs) :: R)) {g c : Nat} (e : T.vo = .slice (some ⟨g, 0, none⟩) T.outs.length c) (i : Nat) (hi : i < T.outs.length) : w.cell? ⟨g, i, none⟩ = some (.int .i64 T.outs[i]) := by
  rw [e] at S
  have h := S.elem i hi
  rwa [List.getD_eq_getElem?_getD, List.getElem?_eq_getElem hi] at h
theorem Sep.ws_at (S : Sep w0 w (Own 39 1 T.vw T.ws.length (T.ws.map (·.1)) :: R)) {g c : Nat} (e : T.vw = .slice (some ⟨g, 0, none⟩) T.ws.length c) (i : Nat) (hi : i < T.ws.length) : w.cell? ⟨g, i, none⟩ = some T.ws[i].1 := by
  rw [e] at S
  exact S.val i (by rw [List.getElem?_map, List.getElem?_eq_getElem hi]; rfl)
theorem tread_live {q : Nat} {t : TV} (L : LiveV G s v ps W) (S : Sep w0 w (TBlk q p t :: MapA t.bw (vals t.M) :: JBlk p d { v with tx := some q } :: MapA v.bm (vals v.M) :: PoolA ps :: DevA d s :: R)) (hIt : Ins t.M ps) (hl : ∀ x ∈ t.M, x.2.2.length = 512) {b : Int} (hb : G.out b = true) :
    Calls Tryz.prog 35 #[.pointer (some ⟨q, 0, none⟩), .int .i64 b] w fun e w' => ∃ g, e = .returned (.tuple #[.slice (some ⟨g, 0, none⟩) 512 512, .int .i64 0]) ∧
      Sep w0 w' (Byt (some ⟨g, 0, none⟩) 512 512 ((SM.lkp (dat t.M) b).getD (W b)) :: TBlk q p t :: MapA t.bw (vals t.M) :: JBlk p d { v with tx := some q } :: MapA v.bm (vals v.M) :: PoolA ps :: DevA d s :: R) := by
  have hg : ({ v with tx := some q } : JV).geo s = G := L.geo
  have ho := out_not_log L.live.fits.geo hb
  have hn := L.live.fits.geo.n1
  have hop : openB q { v with tx := some q } = true := by
    unfold openB
    rw [show ({ v with tx := some q } : JV).ended = v.ended from rfl, L.ended]
    simp
  refine (tread_s (v := { v with tx := some q }) S (oth_self w q) L.ins hIt (by rw [hg]; exact L.live.fits.geo) b ⟨hop, L.off⟩ (by rw [hg]; exact hb) (by omega)).mono ?_
  rintro e w' ⟨g, l, hl2, rfl, S1⟩
  have hr := L.read hb
  have e1 : l = (SM.lkp (dat t.M) b).getD (W b) := by
    rw [hl2]
    cases hk : SM.lkp (dat t.M) b with
    | some x =>
      obtain ⟨y, hy, he⟩ := List.mem_map.1 (SM.look_mem hk)
      cases he
      exact blk_full (hl y hy)
    | none =>
      show Go.Proofs.YtmafafingdpopaaGreatDoor.Sep.blk (committedP v s b).1 = W b
      rw [hr.1]
      exact blk_full hr.2
  rw [e1] at S1
  exact ⟨g, rfl, S1⟩
set_option maxRecDepth 100000 in
set_option maxHeartbeats 8000000 in
theorem holds_s (S : Sep w0 w (TownA T :: JBlk p d v :: MapA v.bm (vals v.M) :: PoolA ps :: DevA d s :: HeldA hs :: R)) (L : LiveV G s v ps W) (htx : v.tx = none) (H : Holds G T W) (hh : ∀ x ∈ T.ws, x ∈ hs) :
    Calls Tryz.prog 26 #[.pointer (some ⟨T.tp, 0, none⟩), .pointer (some ⟨p, 0, none⟩)] w fun e w' => e = .returned (.bool true) ∧ Sep w0 w' (TownA T :: JBlk p d v :: MapA v.bm (vals v.M) :: PoolA ps :: DevA d s :: HeldA hs :: R) := by
  have hbeg := begin_yes ((S.pull 4).pull 2) L.alive htx
  have HL := Aside0.mk L
  have HH := Aside0.mk H
  have HI := Aside0.mk hh
  have HTX := Aside0.mk htx
  have hlen : T.ws.length = T.outs.length := H.len
  have hfew : T.outs.length ≤ 200 := H.few
  have hpos : 0 < T.outs.length := H.pos
  obtain ⟨go, co, hvo⟩ : ∃ g c, T.vo = .slice (some ⟨g, 0, none⟩) T.outs.length c := by
    have S1 := S.town.swap
    obtain ⟨A, c, e⟩ := own_slice S1.row
    rw [e] at S1
    obtain ⟨g, rfl⟩ := S1.addr hpos
    exact ⟨g, c, e⟩
  obtain ⟨gw, cw, hvw⟩ : ∃ g c, T.vw = .slice (some ⟨g, 0, none⟩) T.ws.length c := by
    have S1 := S.town.p2
    obtain ⟨A, c, e⟩ := own_slice S1.row
    rw [e] at S1
    obtain ⟨g, rfl⟩ := S1.addr (by omega)
    exact ⟨g, c, e⟩
  have HLEN := Aside0.mk hlen
  have HVO := Aside0.mk hvo
  have HVW := Aside0.mk hvw
  clear L H hh htx S hlen hvo hvw
  go_enter Tryz.func26, Tryz.ntmps26
  go_wp2_with fail
  refine hbeg.mono ?_
  clear hbeg
  rintro _ w1 ⟨q, b, rfl, S⟩
  go_wp2_with fail
  go_loopw [6] (fun i wr => ∃ j : Nat, j ≤ T.outs.length ∧ i = .int .i64 (j : Int) ∧ Sep w0 wr (TBlk q p ⟨b, [], .slice none 0 0, .slice none 0 0, 0⟩ :: MapA b [] :: JBlk p d { v with tx := some q } :: MapA v.bm (vals v.M) :: PoolA ps :: DevA d s :: TownA T :: HeldA hs :: R)) (fun i _ => (T.outs.length - intOf i).toNat)
  case atStart => exact ⟨0, Nat.zero_le _, rfl, (((((S.pull 6).pull 6).pull 4).pull 4).pull 4)⟩
  case round =>
    clear S
    obtain ⟨j, hj, rfl, S⟩ := hrel
    have S1 := (S.pull 6).town
    have c3 := S1.cell 3 (v := T.vo) rfl
    have c4 := S1.cell 4 (v := T.vw) rfl
    rw [HVO.out] at c3
    rw [HVW.out, HLEN.out] at c4
    by_cases hjn : j < T.outs.length
    · have hlt : (j : Int) < (T.outs.length : Int) := by omega
      have o1 := S1.swap.outs_at HVO.out j hjn
      have hjw : j < T.ws.length := by rw [HLEN.out]; exact hjn
      have o2 := S1.p2.ws_at HVW.out j hjw
      clear S1
      have hob := HH.out.out _ (List.getElem_mem hjn)
      have hrd := tread_live HL.out S (fun x hx => by cases hx) (fun x hx => by cases hx) hob
      go_wp2_with fail
      refine hrd.mono ?_
      clear hrd S o1 o2 c3 c4
      rintro _ w2 ⟨g, rfl, S⟩
      have S1 := (S.pull 7).town
      have c3 := S1.cell 3 (v := T.vo) rfl
      have c4 := S1.cell 4 (v := T.vw) rfl
      rw [HVO.out] at c3
      rw [HVW.out, HLEN.out] at c4
      have o2 := S1.p2.ws_at HVW.out j hjw
      have hmw := HI.out _ (List.getElem_mem hjw)
      obtain ⟨A, c, hwv, hcw, hrw⟩ := (S.pull 8).held_at hmw
      have his := HH.out.is j hjn
      rw [hwv] at o2
      have hrb := S.reads
      have e1 : ((SM.lkp (dat ([] : MV)) T.outs[j]).getD (W T.outs[j])) = (T.ws[j]).2 := his.symm
      have hsm := same_s w2 (some ⟨g, 0, none⟩) A 512 512 512 c _ _ hrb hrw (Nat.le_refl _) hcw (by decide)
      rw [decide_eq_true e1] at hsm
      have S2 := S.drop
      clear S S1 hrb hrw hwv his e1 hmw
      go_wp2_with fail
      refine hsm.mono ?_
      clear hsm
      rintro _ w3 ⟨rfl, hB⟩
      have S := S2.calm hB
      clear S2 hB c3 c4 o2
      go_wp2_with (first | (go_at_call 20; refine (num_any _ _).mono ?_; rintro _ _ ⟨rfl, rfl⟩))
      exact ⟨⟨j + 1, hjn, by go_num, S⟩, by simp [intOf]; omega⟩
    · have hlt : ¬ (j : Int) < (T.outs.length : Int) := by omega
      clear S1
      have hop : openB q { v with tx := some q } = true := by
        unfold openB
        rw [show ({ v with tx := some q } : JV).ended = v.ended from rfl, HL.out.ended]
        simp
      have hdr := drop_s (v := { v with tx := some q }) ((S.pull 2).pull 1) (oth_self wr q)
      rw [if_pos hop] at hdr
      clear S hop
      go_wp2_with fail
      refine hdr.mono ?_
      clear hdr
      rintro _ w2 ⟨rfl, S⟩
      have htx := HTX.out
      have hv : ({ ({ v with tx := some q } : JV) with tx := none } : JV) = v := by
        show ({ v with tx := none } : JV) = v
        rw [← htx]
      rw [hv] at S
      have HS := Aside0.mk ((S.drop.pull 1).drop.pull 4)
      clear S hv htx c3 c4
      go_wp2_with fail
      go_ret
      exact ⟨rfl, HS.out⟩
end
end Go.Proofs.YtmafafingdpopaaGreatDoor.Sep
/- What comes in: rows of puts, of falls; a write of a transaction, done or refused. -/
namespace Go.Proofs.YtmafafingdpopaaGreatDoor.Sep
open Go.Proofs Go.RowKit Go.ChangeMaps Go.Proofs.YtmafafingdpopaaGreatDoorW.PrintWords Go.Proofs.YtmafafingdpopaaGreatDoorW.PrintLast Go.Proofs.YtmafafingdpopaaGreatDoorW.PrintMore Go.Proofs.YtmafafingdpopaaGreatDoor.Dev Go.Proofs.YtmafafingdpopaaGreatDoor.Errs Go.Proofs.YtmafafingdpopaaGreatDoor.Jr Go.Proofs.YtmafafingdpopaaGreatDoor.Help Go.Proofs.YtmafafingdpopaaGreatDoor.IMap
set_option linter.unusedVariables false
set_option linter.unusedSimpArgs false
abbrev Pt := Int × List Int
abbrev kP : Kd Pt := Kd.pair (Kd.int .i64) (Kd.slice 5 (Kd.int .u8))
abbrev Fl := Int × List Bool
abbrev kF : Kd Fl := Kd.pair (Kd.int .i64) (Kd.slice 4 Kd.bool)
abbrev kPs : Kd (List Pt) := Kd.slice 41 kP
theorem add_off (ad : Addr) (n m : Nat) (hm : 0 < m) : ad.add (n + m) = ⟨(ad.add n).block, (ad.add n).off + m, none⟩ := by
  cases n with
  | zero => unfold Addr.add; rw [if_neg (by omega), if_pos rfl]; simp
  | succ n => unfold Addr.add; rw [if_neg (by omega), if_neg (by omega)]; simp; omega
section
variable {w0 W : World} {A : Option Addr}
theorem puts_in {l : List Pt} (h : Kd.C kP w0 A l.length l) (i : Nat) (hi : i < l.length) :
    ∃ ad B c, A = some ad ∧ l[i].2.length ≤ c ∧ ∀ W : World, Below w0.heap.size w0 W → W.cell? (ad.add (i * 2)) = some (.int .i64 l[i].1) ∧ W.cell? ⟨(ad.add (i * 2)).block, (ad.add (i * 2)).off + 1, none⟩ = some (.slice B l[i].2.length c) ∧ ReadsInt W .u8 B l[i].2.length l[i].2 := by
  obtain ⟨_, _, h3⟩ := h
  obtain ⟨ad, rfl, h4⟩ := h3 (by omega)
  obtain ⟨c, hc, hK, hu⟩ := h4 i l[i] (List.getElem?_eq_getElem hi)
  obtain ⟨c1, c2, rfl, h5, h6⟩ := hK
  have e1 : c1 = [.int .i64 l[i].1] := h5
  subst e1
  obtain ⟨B, cb, rfl, hlc, hB⟩ := h6
  have k0 := hu 0 _ rfl
  have k1 := hu 1 _ rfl
  have k1 : w0.cell? (ad.add (i * 2 + 1)) = _ := k1
  rw [add_off ad (i * 2) 1 (by omega)] at k1
  exact ⟨ad, B, cb, rfl, hlc, fun W hb => ⟨pw_cell_below hb k0, pw_cell_below hb k1, (Kd.reads_of_C (d := (0 : Int)) hB).below hb⟩⟩
theorem falls_in {l : List Fl} (h : Kd.C kF w0 A l.length l) (i : Nat) (hi : i < l.length) :
    ∃ ad B c, A = some ad ∧ l[i].2.length ≤ c ∧ Kd.C Kd.bool w0 B l[i].2.length l[i].2 ∧ ∀ W : World, Below w0.heap.size w0 W → W.cell? (ad.add (i * 2)) = some (.int .i64 l[i].1) ∧ W.cell? ⟨(ad.add (i * 2)).block, (ad.add (i * 2)).off + 1, none⟩ = some (.slice B l[i].2.length c) := by
  obtain ⟨_, _, h3⟩ := h
  obtain ⟨ad, rfl, h4⟩ := h3 (by omega)
  obtain ⟨c, hc, hK, hu⟩ := h4 i l[i] (List.getElem?_eq_getElem hi)
  obtain ⟨c1, c2, rfl, h5, h6⟩ := hK
  have e1 : c1 = [.int .i64 l[i].1] := h5
  subst e1
  obtain ⟨B, cb, rfl, hlc, hB⟩ := h6
  have k0 := hu 0 _ rfl
  have k1 := hu 1 _ rfl
  have k1 : w0.cell? (ad.add (i * 2 + 1)) = _ := k1
  rw [add_off ad (i * 2) 1 (by omega)] at k1
  exact ⟨ad, B, cb, rfl, hlc, hB, fun W hb => ⟨pw_cell_below hb k0, pw_cell_below hb k1⟩⟩
theorem sl_in {α : Type} {d : Kd α} {e : Nat} {l : List (List α)} (h : Kd.C (Kd.slice e d) w0 A l.length l) (i : Nat) (hi : i < l.length) :
    ∃ ad B c, A = some ad ∧ l[i].length ≤ c ∧ Kd.C d w0 B l[i].length l[i] ∧ ∀ W : World, Below w0.heap.size w0 W → W.cell? (ad.add i) = some (.slice B l[i].length c) := by
  obtain ⟨_, _, h3⟩ := h
  obtain ⟨ad, rfl, h4⟩ := h3 (by omega)
  obtain ⟨c, hc, hK, hu⟩ := h4 i l[i] (List.getElem?_eq_getElem hi)
  obtain ⟨B, cb, rfl, hlc, hB⟩ := hK
  have k0 := hu 0 _ rfl
  have k0 : w0.cell? (ad.add (i * 1 + 0)) = _ := k0
  rw [Nat.mul_one, Nat.add_zero] at k0
  exact ⟨ad, B, cb, rfl, hlc, hB, fun W hb => pw_cell_below hb k0⟩
/-- A row of puts as it came in. -/
structure PutsIn (w0 : World) (A : Option Addr) (l : List Pt) : Prop where
  at_ : Kd.C kP w0 A l.length l
  ok : ∀ x ∈ l, Byte x.2 ∧ x.2.length ≤ 140737488351232 ∧ -9223372036854775808 ≤ x.1 ∧ x.1 < 9223372036854775808
end
section
variable {w0 w w' : World} {R : List Asn} {q p d : Nat} {ps : List (Nat × List Int)} {v : JV} {s : DS} {G : Geo} {W : Int → List Int} {t : TV} {os : List (Nat × Array Value × TypeId)} {us : List UR} {A : Option Addr} {c : Nat} {l : List Int}
theorem reads_in {Ls : List Asn} {n : Nat} (S : Sep w0 w (Ls ++ Byt A n c l :: R)) : ReadsInt w .u8 A n l := by
  obtain ⟨F, h, _⟩ := S.at_ (A := Byt A n c l) Ls.length (by simp)
  exact own_reads' h.1
/-- What a write leaves. -/
structure WrP (t t' : TV) (ps ps' : List (Nat × List Int)) (b : Int) (l : List Int) (cd : Int) : Prop where
  bw : t'.bw = t.bw
  sub : ∀ x ∈ ps, x ∈ ps'
  ins : Ins t'.M ps'
  is : if (SM.lkp t.M b).isSome = true ∨ t.M.length < 24 then cd = 0 ∧ ∃ g, t'.M = SM.ins t.M b (g, l) else cd = 72 ∧ t'.M = t.M
theorem LiveV.sub {ps' : List (Nat × List Int)} (L : LiveV G s v ps W) (h : ∀ x ∈ ps, x ∈ ps') : LiveV G s v ps' W := ⟨L.live, L.geo, L.ended, fun x hx => h _ (L.ins x hx)⟩
theorem open_live (L : LiveV G s v ps W) (q : Nat) : openB q { v with tx := some q } = true := by
  unfold openB
  rw [show ({ v with tx := some q } : JV).ended = v.ended from rfl, L.ended]
  simp
theorem twrite_any (L : LiveV G s v ps W) (S : Sep w0 w (TBlk q p t :: MapA t.bw (vals t.M) :: JBlk p d { v with tx := some q } :: MapA v.bm (vals v.M) :: PoolA ps :: DevA d s :: Own 1 1 t.un us.length (us.map UR.val) :: KeptA os :: Byt A 512 c l :: R)) (hIt : Ins t.M ps) {b : Int} (hb : G.out b = true) (hfew : t.M.length ≤ 24) (hul : us.length ≤ 1000000) :
    Calls Tryz.prog 19 #[.pointer (some ⟨q, 0, none⟩), .int .i64 b, .slice A 512 c] w fun e w' => ∃ (cd : Int) (t' : TV) (ps' : List (Nat × List Int)) (us' : List UR) (os' : List (Nat × Array Value × TypeId)), e = .returned (.int .i64 cd) ∧ WrP t t' ps ps' b l cd ∧ us'.length ≤ us.length + 1 ∧
      Sep w0 w' (TBlk q p t' :: MapA t'.bw (vals t'.M) :: JBlk p d { v with tx := some q } :: MapA v.bm (vals v.M) :: PoolA ps' :: DevA d s :: Own 1 1 t'.un us'.length (us'.map UR.val) :: KeptA os' :: Byt A 512 c l :: R) := by
  have hg : ({ v with tx := some q } : JV).geo s = G := L.geo
  have hok : (({ v with tx := some q } : JV).geo s).Ok := by rw [hg]; exact L.live.fits.geo
  have hb2 : (({ v with tx := some q } : JV).geo s).out b = true := by rw [hg]; exact hb
  by_cases hc : (SM.lkp t.M b).isSome = true ∨ t.M.length < 24
  · refine (twrite_ok (v := { v with tx := some q }) S hIt hok b ⟨open_live L q, L.off⟩ hb2 rfl (fun w' Ls S' => reads_in S') hc (by omega)).mono ?_
    rintro e w' ⟨rfl, g, un', u, _, _, S1⟩
    have hW : WrP t { t with M := SM.ins t.M b (g, l), un := un' } ps ((g, l) :: ps) b l 0 := ⟨rfl, fun x hx => List.mem_cons_of_mem _ hx, (hIt.cons (g, l)).ins b (g, l) (by simp), by
      rw [if_pos hc]
      exact ⟨rfl, g, rfl⟩⟩
    rw [show us.length + 1 = (us ++ [u]).length by simp] at S1
    exact ⟨0, { t with M := SM.ins t.M b (g, l), un := un' }, _, us ++ [u], _, rfl, hW, by simp, S1⟩
  · have h1 : SM.lkp t.M b = none := by
      cases h : SM.lkp t.M b with
      | none => rfl
      | some x => exact absurd (.inl (by rw [h]; rfl)) hc
    have h2 : t.M.length = 24 := by
      have : ¬ t.M.length < 24 := fun q => hc (.inr q)
      omega
    refine (twrite_big (v := { v with tx := some q }) S hIt hok b ⟨open_live L q, L.off⟩ hb2 rfl h1 h2).mono ?_
    rintro e w' ⟨rfl, S1⟩
    refine ⟨72, t, ps, us, os, rfl, ⟨rfl, fun x hx => hx, hIt, ?_⟩, by omega, S1⟩
    rw [if_neg hc]
    exact ⟨rfl, rfl⟩
end
end Go.Proofs.YtmafafingdpopaaGreatDoor.Sep
/- begins: the first four bytes. -/
namespace Go.Proofs.YtmafafingdpopaaGreatDoor.Sep
open Go.Proofs Go.RowKit Go.ChangeMaps Go.Proofs.YtmafafingdpopaaGreatDoorW.PrintWords Go.Proofs.YtmafafingdpopaaGreatDoorW.PrintLast Go.Proofs.YtmafafingdpopaaGreatDoorW.PrintMore Go.Proofs.YtmafafingdpopaaGreatDoor.Dev Go.Proofs.YtmafafingdpopaaGreatDoor.Jr Go.Proofs.YtmafafingdpopaaGreatDoor.Help
set_option linter.unusedVariables false
set_option linter.unusedSimpArgs false
theorem take4 {l : List Int} (h : 4 ≤ l.length) : l.take 4 = [l.getD 0 0, l.getD 1 0, l.getD 2 0, l.getD 3 0] := by
  match l, h with
  | a :: b :: c :: d :: r, _ => rfl
set_option maxRecDepth 100000 in
theorem begins_s (w : World) {g n c : Nat} {l : List Int} (hr : ReadsInt w .u8 (some ⟨g, 0, none⟩) n l) (hn : 4 ≤ n) : Calls Tryz.prog 162 #[.slice (some ⟨g, 0, none⟩) n c, .string ⟨#[65, 78, 88, 67]⟩] w fun e w' => e = .returned (.bool (decide (l.take 4 = magicC))) ∧ Below w.heap.size w w' := by
  have hl : l.length = n := hr.1
  obtain ⟨ad, e, hc⟩ := hr.2.2 (by omega)
  cases e
  simp only [add_plain] at hc
  rw [take4 (by omega)]
  have c0 := hc 0 (by omega)
  have c1 := hc 1 (by omega)
  have c2 := hc 2 (by omega)
  have c3 := hc 3 (by omega)
  clear hr hc hl
  generalize l.getD 0 0 = x0 at *
  generalize l.getD 1 0 = x1 at *
  generalize l.getD 2 0 = x2 at *
  generalize l.getD 3 0 = x3 at *
  have n0 : (0 : Int) < (n : Int) := by omega
  have n1 : (1 : Int) < (n : Int) := by omega
  have n2 : (2 : Int) < (n : Int) := by omega
  have n3 : (3 : Int) < (n : Int) := by omega
  have g0 : decide (n = 0) = false := decide_eq_false (by omega)
  have g1 : decide ((n : Int) ≤ (1 : Int)) = false := decide_eq_false (by omega)
  have g2 : decide ((n : Int) ≤ (2 : Int)) = false := decide_eq_false (by omega)
  have g3 : decide ((n : Int) ≤ (3 : Int)) = false := decide_eq_false (by omega)
  clear hn
  have HE := Aside0.mk (show magicC = [65, 78, 88, 67] from rfl)
  go_enter Tryz.func162, Tryz.ntmps162
  go_wp2_with fail
  go_loopw [5] (fun i wr => ∃ j : Nat, j ≤ 4 ∧ i = .int .i64 (j : Int) ∧ Aside0 ((1 ≤ j → x0 = 65) ∧ (2 ≤ j → x1 = 78) ∧ (3 ≤ j → x2 = 88) ∧ (4 ≤ j → x3 = 67)) ∧ ∃ k, wr = w.drewN k) (fun i _ => (4 - intOf i).toNat)
  case atStart => exact ⟨0, by omega, rfl, ⟨by omega, by omega, by omega, by omega⟩, 0, rfl⟩
  case round =>
    obtain ⟨j, hj, rfl, HX, k, rfl⟩ := hrel
    have d0 : (w.drewN k).cell? ⟨g, 0, none⟩ = some (Value.int IntKind.u8 x0) := c0
    have d1 : (w.drewN k).cell? ⟨g, 1, none⟩ = some (Value.int IntKind.u8 x1) := c1
    have d2 : (w.drewN k).cell? ⟨g, 2, none⟩ = some (Value.int IntKind.u8 x2) := c2
    have d3 : (w.drewN k).cell? ⟨g, 3, none⟩ = some (Value.int IntKind.u8 x3) := c3
    obtain rfl | rfl | rfl | rfl | rfl : j = 0 ∨ j = 1 ∨ j = 2 ∨ j = 3 ∨ j = 4 := by omega
    · rw [show ((0 : Nat) : Int) = (0 : Int) from rfl]
      by_cases e : x0 = 65
      · have HQ := Aside0.mk e
        have hb : (x0 != ((({ data := #[65, 78, 88, 67] } : ByteArray)[0]'(by decide)).toNat : Int)) = false := by rw [e]; rfl
        clear e
        go_upto_region 4 with fail
        go_quiet (fail)
        go_wp2_with fail
        exact ⟨⟨1, by omega, by go_num, ⟨fun _ => HQ.out, by omega, by omega, by omega⟩, _, rfl⟩, by simp [intOf]⟩
      · have HQ := Aside0.mk e
        have hb : (x0 != ((({ data := #[65, 78, 88, 67] } : ByteArray)[0]'(by decide)).toNat : Int)) = true := by
          have e3 : ((({ data := #[65, 78, 88, 67] } : ByteArray)[0]'(by decide)).toNat : Int) = 65 := rfl
          rw [e3]
          simpa using e
        clear e
        go_upto_region 4 with fail
        go_quiet (fail)
        go_wp2_with fail
        go_ret
        refine ⟨?_, pw_below_drewN (pw_below_drewN (Below.refl _ _) _) _⟩
        rw [HE.out]
        exact congrArg (fun b => Ending.returned (Value.bool b)) (decide_eq_false fun q => HQ.out (by simp only [List.cons.injEq] at q; exact q.1)).symm
    · rw [show ((1 : Nat) : Int) = (1 : Int) from rfl]
      by_cases e : x1 = 78
      · have HQ := Aside0.mk e
        have hb : (x1 != ((({ data := #[65, 78, 88, 67] } : ByteArray)[1]'(by decide)).toNat : Int)) = false := by rw [e]; rfl
        clear e
        go_upto_region 4 with fail
        go_quiet (fail)
        go_wp2_with fail
        exact ⟨⟨2, by omega, by go_num, ⟨fun _ => HX.out.1 (by omega), fun _ => HQ.out, by omega, by omega⟩, _, rfl⟩, by simp [intOf]⟩
      · have HQ := Aside0.mk e
        have hb : (x1 != ((({ data := #[65, 78, 88, 67] } : ByteArray)[1]'(by decide)).toNat : Int)) = true := by
          have e3 : ((({ data := #[65, 78, 88, 67] } : ByteArray)[1]'(by decide)).toNat : Int) = 78 := rfl
          rw [e3]
          simpa using e
        clear e
        go_upto_region 4 with fail
        go_quiet (fail)
        go_wp2_with fail
        go_ret
        refine ⟨?_, pw_below_drewN (pw_below_drewN (Below.refl _ _) _) _⟩
        rw [HE.out]
        exact congrArg (fun b => Ending.returned (Value.bool b)) (decide_eq_false fun q => HQ.out (by simp only [List.cons.injEq] at q; exact q.2.1)).symm
    · rw [show ((2 : Nat) : Int) = (2 : Int) from rfl]
      by_cases e : x2 = 88
      · have HQ := Aside0.mk e
        have hb : (x2 != ((({ data := #[65, 78, 88, 67] } : ByteArray)[2]'(by decide)).toNat : Int)) = false := by rw [e]; rfl
        clear e
        go_upto_region 4 with fail
        go_quiet (fail)
        go_wp2_with fail
        exact ⟨⟨3, by omega, by go_num, ⟨fun _ => HX.out.1 (by omega), fun _ => HX.out.2.1 (by omega), fun _ => HQ.out, by omega⟩, _, rfl⟩, by simp [intOf]⟩
      · have HQ := Aside0.mk e
        have hb : (x2 != ((({ data := #[65, 78, 88, 67] } : ByteArray)[2]'(by decide)).toNat : Int)) = true := by
          have e3 : ((({ data := #[65, 78, 88, 67] } : ByteArray)[2]'(by decide)).toNat : Int) = 88 := rfl
          rw [e3]
          simpa using e
        clear e
        go_upto_region 4 with fail
        go_quiet (fail)
        go_wp2_with fail
        go_ret
        refine ⟨?_, pw_below_drewN (pw_below_drewN (Below.refl _ _) _) _⟩
        rw [HE.out]
        exact congrArg (fun b => Ending.returned (Value.bool b)) (decide_eq_false fun q => HQ.out (by simp only [List.cons.injEq] at q; exact q.2.2.1)).symm
    · rw [show ((3 : Nat) : Int) = (3 : Int) from rfl]
      by_cases e : x3 = 67
      · have HQ := Aside0.mk e
        have hb : (x3 != ((({ data := #[65, 78, 88, 67] } : ByteArray)[3]'(by decide)).toNat : Int)) = false := by rw [e]; rfl
        clear e
        go_upto_region 4 with fail
        go_quiet (fail)
        go_wp2_with fail
        exact ⟨⟨4, by omega, by go_num, ⟨fun _ => HX.out.1 (by omega), fun _ => HX.out.2.1 (by omega), fun _ => HX.out.2.2.1 (by omega), fun _ => HQ.out⟩, _, rfl⟩, by simp [intOf]⟩
      · have HQ := Aside0.mk e
        have hb : (x3 != ((({ data := #[65, 78, 88, 67] } : ByteArray)[3]'(by decide)).toNat : Int)) = true := by
          have e3 : ((({ data := #[65, 78, 88, 67] } : ByteArray)[3]'(by decide)).toNat : Int) = 67 := rfl
          rw [e3]
          simpa using e
        clear e
        go_upto_region 4 with fail
        go_quiet (fail)
        go_wp2_with fail
        go_ret
        refine ⟨?_, pw_below_drewN (pw_below_drewN (Below.refl _ _) _) _⟩
        rw [HE.out]
        exact congrArg (fun b => Ending.returned (Value.bool b)) (decide_eq_false fun q => HQ.out (by simp only [List.cons.injEq] at q; exact q.2.2.2.1)).symm
    · go_wp2_with fail
      go_ret
      refine ⟨?_, pw_below_drewN (Below.refl _ _) _⟩
      obtain ⟨h1, h2, h3, h4⟩ := HX.out
      rw [HE.out, h1 (by omega), h2 (by omega), h3 (by omega), h4 (by omega)]
      rfl
end Go.Proofs.YtmafafingdpopaaGreatDoor.Sep
/- survives: is a commit of the log among what pends and survives? -/
namespace Go.Proofs.YtmafafingdpopaaGreatDoor.Sep
open Go.Proofs Go.RowKit Go.ChangeMaps Go.Proofs.YtmafafingdpopaaGreatDoorW.PrintWords Go.Proofs.YtmafafingdpopaaGreatDoorW.PrintLast Go.Proofs.YtmafafingdpopaaGreatDoorW.PrintMore Go.Proofs.YtmafafingdpopaaGreatDoor.Dev Go.Proofs.YtmafafingdpopaaGreatDoor.Errs Go.Proofs.YtmafafingdpopaaGreatDoor.Jr Go.Proofs.YtmafafingdpopaaGreatDoor.Help Go.Proofs.YtmafafingdpopaaGreatDoor.IMap
set_option linter.unusedVariables false
set_option linter.unusedSimpArgs false
section
variable {w0 w w' : World} {R : List Asn} {G : Geo} {T : Tn} {A Ak : Option Addr} {c ck : Nat} {l : List (Int × List Int)} {qs : List (Int × List Int × Value)} {ks : List Bool}
theorem survives_step {i : Nat} {x : Int × List Int} {b : Bool} (hx : l[i]? = some x) (hb : ks[i]? = some b) : Jr.survives G (l.drop i) (ks.drop i) = ((b && isCom G x) || Jr.survives G (l.drop (i + 1)) (ks.drop (i + 1))) := by
  obtain ⟨h1, e1⟩ := List.getElem?_eq_some_iff.1 hx
  obtain ⟨h2, e2⟩ := List.getElem?_eq_some_iff.1 hb
  rw [List.drop_eq_getElem_cons h1, List.drop_eq_getElem_cons h2, e1, e2]
  rfl
theorem survives_end {i : Nat} (h : l.length ≤ i ∨ ks.length ≤ i) : Jr.survives G (l.drop i) (ks.drop i) = false := by
  rcases h with h | h
  · rw [List.drop_of_length_le h]
    unfold Jr.survives
    rfl
  · rw [List.drop_of_length_le h]
    unfold Jr.survives
    cases l.drop i <;> rfl
def insB (G : Geo) (b : Int) : Bool := decide (G.start < b) && decide (b < G.start + G.size)
set_option maxRecDepth 100000 in
set_option maxHeartbeats 8000000 in
theorem survives_s (S : Sep w0 w (TownA T :: PendA (.slice A l.length c) l qs :: R)) (hK : ∀ w' : World, Below w.heap.size w w' → ReadsOf Value.bool false w' Ak ks.length ks) (hl : ∀ x ∈ l, x.2.length = 512) (hst : T.start = G.start) (hsz : T.size = G.size) (h0 : 0 ≤ T.start ∧ T.start ≤ 100000) (h1 : 0 ≤ T.size ∧ T.size ≤ 100000) (hn : l.length ≤ 1000000) :
    Calls Tryz.prog 123 #[.pointer (some ⟨T.tp, 0, none⟩), .slice A l.length c, .slice Ak ks.length ck] w fun e w' => e = .returned (.bool (Jr.survives G l ks)) ∧ Below w.heap.size w w' := by
  have HK := Aside0.mk hK
  have HL := Aside0.mk hl
  have HG := Aside0.mk (And.intro hst hsz)
  obtain ⟨sv, hsv⟩ : ∃ sv, sv = Jr.survives G l ks := ⟨_, rfl⟩
  have HSV := Aside0.mk hsv
  rw [← hsv]
  have hw : IntKind.i64.wrap (T.start + T.size) = T.start + T.size := by rw [IntKind.wrap_i64]; omega
  clear hK hl hst hsz hsv
  go_enter Tryz.func123, Tryz.ntmps123
  go_wp2_with fail
  go_loopw [7] (fun iv wr => ∃ i : Nat, i ≤ l.length ∧ i ≤ ks.length ∧ iv = .int .i64 (i : Int) ∧ Aside0 (sv = Jr.survives G (l.drop i) (ks.drop i)) ∧ Below w.heap.size w wr) (fun iv _ => (l.length - intOf iv).toNat)
  case atStart => exact ⟨0, Nat.zero_le _, Nat.zero_le _, rfl, ⟨by rw [HSV.out]; rfl⟩, Below.refl _ _⟩
  case round =>
    obtain ⟨i, hi1, hi2, rfl, HR, hB⟩ := hrel
    have S := S.calm hB
    by_cases hil : i < l.length
    · have d1 : decide ((i : Int) < (l.length : Int)) = true := decide_eq_true (by omega)
      have g1 : (i : Int) < (l.length : Int) := by omega
      by_cases hik : i < ks.length
      · have d2 : decide ((i : Int) < (ks.length : Int)) = true := decide_eq_true (by omega)
        have g2 : (i : Int) < (ks.length : Int) := by omega
        obtain ⟨g, x, rfl, hx, hlx, p0, p1, prow⟩ := S.swap.pend_at rfl i hil
        have hx512 := HL.out _ (List.mem_of_getElem? hlx)
        have hx512 : x.2.1.length = 512 := hx512
        rw [hx512] at prow
        obtain ⟨Ax, cx, hxv⟩ := own_slice prow
        rw [hxv] at prow p1
        have hrx := own_reads' prow
        obtain ⟨gx, rfl⟩ : ∃ gx, Ax = some ⟨gx, 0, none⟩ := by
          obtain ⟨g', cap, e, _, _⟩ := prow.form (by decide)
          cases e
          exact ⟨_, rfl⟩
        have c1 := S.town.cell 1 (v := .int .i64 T.start) rfl
        have c2 := S.town.cell 2 (v := .int .i64 T.size) rfl
        obtain ⟨ak, rfl, hk⟩ := (HK.out _ hB).2.2 (by omega)
        have k1 := hk i hik
        have hkb : ks[i]? = some (ks.getD i false) := by rw [List.getD_eq_getElem?_getD, List.getElem?_eq_getElem hik]; rfl
        obtain ⟨kb, hkb2⟩ : ∃ kb, kb = ks.getD i false := ⟨_, rfl⟩
        rw [← hkb2] at hkb k1
        have hst := HR.out
        rw [survives_step hlx hkb] at hst
        have hcom : isCom G (x.1, x.2.1) = (insB G x.1 && decide (x.2.1.take 4 = magicC)) := rfl
        rw [hcom] at hst
        have HST := Aside0.mk hst
        have HRX := Aside0.mk hrx
        have hii : insB G x.1 = (decide (T.start < x.1) && decide (x.1 < T.start + T.size)) := by unfold insB; rw [HG.out.1, HG.out.2]
        obtain ⟨iB, hiB⟩ : ∃ iB, iB = insB G x.1 := ⟨_, rfl⟩
        rw [← hiB] at HST hii
        have HII := Aside0.mk hii
        clear hst hcom hkb hkb2 hk prow hxv hlx hx HR hrx hii hiB
        go_upto_region 4 with fail
        go_cut [8] (fun u wx => u = .bool iB ∧ ∃ n, wx = wr.drewN n)
        case first =>
          by_cases a1 : T.start < x.1
          · have b1 : decide (T.start < x.1) = true := decide_eq_true a1
            by_cases a2 : x.1 < T.start + T.size
            · have b2 : decide (x.1 < T.start + T.size) = true := decide_eq_true a2
              have HQ := Aside0.mk (And.intro b1 b2)
              go_quiet (fail)
              go_wp2_with fail
              go_meet
              case rel => exact ⟨by rw [HII.out, HQ.out.1, HQ.out.2]; rfl, _, rfl⟩
            · have b2 : decide (x.1 < T.start + T.size) = false := decide_eq_false a2
              have HQ := Aside0.mk (And.intro b1 b2)
              go_quiet (fail)
              go_wp2_with fail
              go_meet
              case rel => exact ⟨by rw [HII.out, HQ.out.1, HQ.out.2]; rfl, _, rfl⟩
          · have b1 : decide (T.start < x.1) = false := decide_eq_false a1
            have HQ := Aside0.mk b1
            go_quiet (fail)
            go_wp2_with fail
            go_meet
            case rel => exact ⟨by rw [HII.out, HQ.out]; rfl, _, rfl⟩
        case rest =>
        obtain ⟨rfl, n, rfl⟩ := hcut
        have hB2 : Below w.heap.size w (wr.drewN n) := pw_below_drewN hB n
        have k1 : (wr.drewN n).cell? (ak.add i) = some (Value.bool kb) := k1
        have p1 : (wr.drewN n).cell? ⟨g, i * 2 + 1, none⟩ = some (.slice (some ⟨gx, 0, none⟩) 512 cx) := p1
        have hrx : ReadsInt (wr.drewN n) .u8 (some ⟨gx, 0, none⟩) 512 x.2.1 := HRX.out
        have hbg := begins_s (c := cx) (wr.drewN n) hrx (by decide)
        obtain ⟨W1, hW1⟩ : ∃ W1, W1 = wr.drewN n := ⟨_, rfl⟩
        rw [← hW1] at hB2 k1 p1 hbg ⊢
        clear hW1 hrx S p0 c1 c2 HII
        obtain ⟨mB, hmB⟩ : ∃ mB, mB = decide (x.2.1.take 4 = magicC) := ⟨_, rfl⟩
        rw [← hmB] at HST hbg
        clear hmB
        cases kb
        · go_wp2_with fail
          exact ⟨⟨i + 1, hil, hik, by go_num, ⟨by rw [HST.out]; rfl⟩, hB2⟩, by simp [intOf]; omega⟩
        · cases iB
          · go_wp2_with fail
            exact ⟨⟨i + 1, hil, hik, by go_num, ⟨by rw [HST.out]; rfl⟩, hB2⟩, by simp [intOf]; omega⟩
          · go_wp2_with fail
            refine hbg.mono ?_
            rintro _ w5 ⟨rfl, hB5⟩
            have hB5 := hB2.trans (hB5.mono hB2.size)
            cases mB
            · go_wp2_with fail
              exact ⟨⟨i + 1, hil, hik, by go_num, ⟨by rw [HST.out]; rfl⟩, hB5⟩, by simp [intOf]; omega⟩
            · go_wp2_with fail
              go_ret
              exact ⟨by rw [HST.out]; rfl, hB5⟩
      · have d2 : decide ((i : Int) < (ks.length : Int)) = false := decide_eq_false (by omega)
        have hst := HR.out
        rw [survives_end (.inr (by omega))] at hst
        have HST := Aside0.mk hst
        clear hst HR
        go_wp2_with fail
        go_ret
        exact ⟨by rw [HST.out]; rfl, hB⟩
    · have d1 : decide ((i : Int) < (l.length : Int)) = false := decide_eq_false (by omega)
      have hst := HR.out
      rw [survives_end (.inl (by omega))] at hst
      have HST := Aside0.mk hst
      clear hst HR
      go_wp2_with fail
      go_ret
      exact ⟨by rw [HST.out]; rfl, hB⟩
end
end Go.Proofs.YtmafafingdpopaaGreatDoor.Sep
