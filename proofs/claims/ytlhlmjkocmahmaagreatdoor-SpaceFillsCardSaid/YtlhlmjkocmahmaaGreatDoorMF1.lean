/- SpaceFills: all are given, rising; then none; each that is given back is the next one. -/
import Derived.Test.YtlhlmjkocmahmaaGreatDoorMB3
import Derived.BigQuiet
namespace Go.Proofs.YtlhlmjkocmahmaaGreatDoor.Sep
open Go.Proofs.YtlhlmjkocmahmaaGreatDoor Go.Proofs Go.RowKit Go.ChangeMaps Go.Proofs.YtlhlmjkocmahmaaGreatDoorW.PrintWords Go.Proofs.YtlhlmjkocmahmaaGreatDoorW.PrintLast Go.Proofs.YtlhlmjkocmahmaaGreatDoorW.PrintMore Go.Proofs.YtlhlmjkocmahmaaGreatDoor.Dev Go.Proofs.YtlhlmjkocmahmaaGreatDoor.Errs Go.Proofs.YtlhlmjkocmahmaaGreatDoor.Jr Go.Proofs.YtlhlmjkocmahmaaGreatDoor.Help Go.Proofs.YtlhlmjkocmahmaaGreatDoor.IMap
set_option linter.unusedVariables false
set_option linter.unusedSimpArgs false
section
variable {w0 w w' : World} {R : List Asn} {sa : Addr}
theorem fits8 (x : Int) (w : World) : Calls Tryz.prog 10 #[.int .i64 x] w fun e w' => e = .returned (.bool (decide (8 ≤ x ∧ x ≤ 500))) ∧ w' = w := by
  by_cases h1 : 8 ≤ x
  · by_cases h2 : x ≤ 500
    · have d1 : decide (x ≥ 8) = true := decide_eq_true h1
      have d2 : decide (x ≤ 500) = true := decide_eq_true h2
      rw [decide_eq_true (And.intro h1 h2)]
      go_enter Tryz.func10, Tryz.ntmps10
      go_wp2
      go_ret
      exact ⟨rfl, rfl⟩
    · have d1 : decide (x ≥ 8) = true := decide_eq_true h1
      have d2 : decide (x ≤ 500) = false := decide_eq_false h2
      rw [decide_eq_false (fun h => h2 h.2)]
      go_enter Tryz.func10, Tryz.ntmps10
      go_wp2
      go_ret
      exact ⟨rfl, rfl⟩
  · have d1 : decide (x ≥ 8) = false := decide_eq_false h1
    rw [decide_eq_false (fun h => h1 h.1)]
    go_enter Tryz.func10, Tryz.ntmps10
    go_wp2
    go_ret
    exact ⟨rfl, rfl⟩
theorem rem_in {D : Nat} (h : 0 < D) (x : Int) : -(D : Int) < Int.tmod x (D : Int) ∧ Int.tmod x (D : Int) < (D : Int) := by
  have h1 := Int.tmod_lt_of_pos x (show (0 : Int) < (D : Int) by omega)
  have h2 : -(D : Int) < Int.tmod x (D : Int) := by
    have e : Int.tmod x (D : Int) = -(Int.tmod (-x) (D : Int)) := by rw [Int.neg_tmod]; omega
    have h3 := Int.tmod_lt_of_pos (-x) (show (0 : Int) < (D : Int) by omega)
    omega
  exact ⟨h2, h1⟩
/-- The k-th of so many, counted round. -/
theorem round_in {D : Nat} (h : 0 < D) (x : Int) : ∃ i : Nat, i < D ∧ Int.tmod (Int.tmod x (D : Int) + (D : Int)) (D : Int) = (i : Int) := by
  obtain ⟨h1, h2⟩ := rem_in h x
  refine ⟨(Int.tmod (Int.tmod x (D : Int) + (D : Int)) (D : Int)).toNat, ?_, ?_⟩
  · have h3 := rem_in h (Int.tmod x (D : Int) + (D : Int))
    omega
  · have h3 : 0 ≤ Int.tmod (Int.tmod x (D : Int) + (D : Int)) (D : Int) := Int.tmod_nonneg _ (by omega)
    omega
set_option maxRecDepth 100000 in
set_option maxHeartbeats 8000000 in
theorem fills_s (hr : Rt w) (hsn : Sen sa w) (hB : Bds w) (x y : Int) :
    Calls Tryz.prog 3 #[.int .i64 x, .int .i64 y] w fun e w' => e = .returned (.bool true) ∧ Below w.heap.size w w' := by
  have hkn := known_s hr hsn hB (Sep.start w)
  go_enter Tryz.func3, Tryz.ntmps3
  go_wp2_with fail
  refine hkn.mono ?_
  clear hkn
  rintro _ w1 ⟨rfl, S⟩
  have HS := Aside0.mk S
  clear S
  by_cases hfit : 8 ≤ x ∧ x ≤ 500
  case neg =>
    have hft := fits8 x w1
    rw [decide_eq_false hfit] at hft
    go_wp2_with fail
    refine hft.mono ?_
    clear hft
    rintro _ _ ⟨rfl, rfl⟩
    go_wp2_with fail
    go_ret
    exact ⟨rfl, HS.out.bel⟩
  case pos =>
  have hft := fits8 x w1
  rw [decide_eq_true hfit] at hft
  obtain ⟨D, rfl⟩ : ∃ D : Nat, x = (D : Int) := ⟨x.toNat, by omega⟩
  have h0 : 8 ≤ D := by omega
  have h5 : D ≤ 500 := by omega
  have h1 : D ≤ 4000 := by omega
  clear hfit
  go_wp2_with fail
  refine hft.mono ?_
  clear hft
  rintro _ _ ⟨rfl, rfl⟩
  have hst := stood_s hr hsn hB HS.out h0 h1
  clear HS
  go_wp2_with fail
  refine hst.mono ?_
  clear hst
  rintro _ w2 ⟨wp, q, p, d, rfl, S⟩
  have c22 := S.cell 22 (v := .pointer (some ⟨q, 0, none⟩)) rfl
  have HS := Aside0.mk S
  clear S
  go_upto_block 0 with fail
  clear c22
  go_cut [8] (fun _ wx => ∃ B : List Int, Aside0 (Bm.OkL B ∧ ∀ i, i < D → Bm.bit B i = true) ∧ Sep w wx [Blk wp (worldC D q p d) 35, SpA q p d D 1 D 0 [] zeros B])
  case first =>
    go_wp2_with fail
    go_loopw [8] (fun iv wr => ∃ (j : Nat) (B : List Int), j ≤ D ∧ iv = .int .i64 (j : Int) ∧ Aside0 (Bm.OkL B ∧ (∀ i, i < j → Bm.bit B i = true) ∧ ∀ i, j ≤ i → i < D → Bm.bit B i = false) ∧ Sep w wr [Blk wp (worldC D q p d) 35, SpA q p d D 1 j 0 [] zeros B]) (fun i _ => (D - intOf i).toNat)
    case atStart => exact ⟨0, zeros, Nat.zero_le _, rfl, ⟨zeros_ok, fun i h => absurd h (Nat.not_lt_zero _), fun i _ h => zeros_bit i⟩, HS.out⟩
    case round =>
      clear HS
      obtain ⟨j, B, hj, rfl, HB, S⟩ := hrel
      have HS := Aside0.mk S
      have hlen := (S.pull 1).sp_len
      clear S
      by_cases hjD : j < D
      · have hlt : (j : Int) < (D : Int) := by omega
        have hw : IntKind.i64.wrap (35 + (j : Int)) = 35 + (j : Int) := by rw [IntKind.wrap_i64]; omega
        go_wp2_with fail
        refine wp_region_held_drew (S := fun X => X.rangeAt wp 0 (worldC D q p d).toList) (by kernel_rfl) (by simpa using HS.out.range) (fun hHeld => ?_)
        refine wpAnyH_take (i := 0) (v := .pointer (some ⟨wp, 0, none⟩)) rfl (by kernel_rfl) (by kernel_rfl) (by kernel_rfl) (fun _ _ _ h => h) (Or.inl ⟨by rfl, fun X hX => rfl⟩) hHeld ?_
        simp only [List.getElem_toArray, List.getElem_cons_zero, List.getElem_cons_succ, Act.put, List.setIfInBounds_toArray, List.set_cons_zero, List.set_cons_succ]
        refine wpAnyH_take (i := 1) (v := .pointer (some ⟨wp, 0, none⟩)) rfl (by kernel_rfl) (by kernel_rfl) (by kernel_rfl) (fun _ _ _ h => h) (Or.inl ⟨by rfl, fun X hX => run_nilOp rfl rfl⟩) hHeld ?_
        simp only [List.getElem_toArray, List.getElem_cons_zero, List.getElem_cons_succ, Act.put, List.setIfInBounds_toArray, List.set_cons_zero, List.set_cons_succ]
        refine wpAnyH_take (i := 2) (v := .pointer (some ⟨wp, 22, none⟩)) rfl (by kernel_rfl) (by kernel_rfl) (by kernel_rfl) (fun _ _ _ h => h) (Or.inl ⟨by rfl, fun X hX => run_fieldOp3 rfl rfl⟩) hHeld ?_
        simp only [List.getElem_toArray, List.getElem_cons_zero, List.getElem_cons_succ, Act.put, List.setIfInBounds_toArray, List.set_cons_zero, List.set_cons_succ]
        refine wpAnyH_take (i := 3) (v := .pointer (some ⟨q, 0, none⟩)) rfl (by kernel_rfl) (by kernel_rfl) (by kernel_rfl) (fun _ _ _ h => h) (Or.inl ⟨by rfl, fun X hX => run_loadT rfl rfl hX⟩) hHeld ?_
        simp only [List.getElem_toArray, List.getElem_cons_zero, List.getElem_cons_succ, Act.put, List.setIfInBounds_toArray, List.set_cons_zero, List.set_cons_succ]
        refine wpAnyH_take (i := 4) (v := .pointer (some ⟨wp, 0, none⟩)) rfl (by kernel_rfl) (by kernel_rfl) (by kernel_rfl) (fun _ _ _ h => h) (Or.inl ⟨by rfl, fun X hX => rfl⟩) hHeld ?_
        simp only [List.getElem_toArray, List.getElem_cons_zero, List.getElem_cons_succ, Act.put, List.setIfInBounds_toArray, List.set_cons_zero, List.set_cons_succ]
        refine wpAnyH_take (i := 5) (v := .pointer (some ⟨wp, 0, none⟩)) rfl (by kernel_rfl) (by kernel_rfl) (by kernel_rfl) (fun _ _ _ h => h) (Or.inl ⟨by rfl, fun X hX => run_nilOp rfl rfl⟩) hHeld ?_
        simp only [List.getElem_toArray, List.getElem_cons_zero, List.getElem_cons_succ, Act.put, List.setIfInBounds_toArray, List.set_cons_zero, List.set_cons_succ]
        refine wpAnyH_take (i := 6) (v := .pointer (some ⟨wp, 0, none⟩)) rfl (by kernel_rfl) (by kernel_rfl) (by kernel_rfl) (fun _ _ _ h => h) (Or.inl ⟨by rfl, fun X hX => run_fieldOp0 rfl rfl⟩) hHeld ?_
        simp only [List.getElem_toArray, List.getElem_cons_zero, List.getElem_cons_succ, Act.put, List.setIfInBounds_toArray, List.set_cons_zero, List.set_cons_succ]
        refine wpAnyH_take (i := 7) (v := .agg (layC D)) rfl (by kernel_rfl) (by kernel_rfl) (by kernel_rfl) (fun _ _ _ h => h) (Or.inl ⟨by rfl, fun X hX => run_loadOp (t := 29) (x := .tmp 54) (g := wp) rfl rfl (run_layMid (range_lay hX))⟩) hHeld ?_
        simp only [List.getElem_toArray, List.getElem_cons_zero, List.getElem_cons_succ, Act.put, List.setIfInBounds_toArray, List.set_cons_zero, List.set_cons_succ]
        refine wpAnyH_ready (rs := [8]) (by kernel_rfl) (by simp) ?_
        refine AllReadyH.cons rfl (fun K hK => ?_) AllReadyH.nil
        refine call_step Tryz.func12 (by kernel_rfl) (by rfl) #[.tmp 51, .tmp 55] #[32, 29] rfl rfl #[.pointer (some ⟨q, 0, none⟩), .agg (layC D)] (by simp [Act.eval]) ?_
        refine (alloc_yes hB (HS.out.drew.pull 1) HB.out.1 h0 h1 (by omega) j hjD HB.out.2.1 (HB.out.2.2 j (Nat.le_refl _) hjD)).mono ?_
        rintro e w5 ⟨rfl, S⟩
        have S := S.pull 1
        refine ⟨_, rfl, hK.out _ _ S.range (fun hHeld => ?_)⟩
        clear hK K
        simp only [List.getElem_toArray, List.getElem_cons_zero, List.getElem_cons_succ, Act.put, List.setIfInBounds_toArray, List.set_cons_zero, List.set_cons_succ]
        refine wpAnyH_take (i := 9) (v := .tuple #[.int .i64 (35 + (j : Int)), .int .i64 0]) rfl (by kernel_rfl) (by kernel_rfl) (by kernel_rfl) (fun _ _ _ h => h) (Or.inl ⟨by rfl, fun X hX => rfl⟩) hHeld ?_
        simp only [List.getElem_toArray, List.getElem_cons_zero, List.getElem_cons_succ, Act.put, List.setIfInBounds_toArray, List.set_cons_zero, List.set_cons_succ]
        refine wpAnyH_take (i := 10) (v := .int .i64 (35 + (j : Int))) rfl (by kernel_rfl) (by kernel_rfl) (by kernel_rfl) (fun _ _ _ h => h) (Or.inl ⟨by rfl, fun X hX => rfl⟩) hHeld ?_
        simp only [List.getElem_toArray, List.getElem_cons_zero, List.getElem_cons_succ, Act.put, List.setIfInBounds_toArray, List.set_cons_zero, List.set_cons_succ]
        refine wpAnyH_take (i := 11) (v := .int .i64 0) rfl (by kernel_rfl) (by kernel_rfl) (by kernel_rfl) (fun _ _ _ h => h) (Or.inl ⟨by rfl, fun X hX => rfl⟩) hHeld ?_
        simp only [List.getElem_toArray, List.getElem_cons_zero, List.getElem_cons_succ, Act.put, List.setIfInBounds_toArray, List.set_cons_zero, List.set_cons_succ]
        refine wpAnyH_take (i := 12) (v := .int .i64 (35 + (j : Int))) rfl (by kernel_rfl) (by kernel_rfl) (by kernel_rfl) (fun _ _ _ h => h) (Or.inl ⟨by rfl, fun X hX => rfl⟩) hHeld ?_
        simp only [List.getElem_toArray, List.getElem_cons_zero, List.getElem_cons_succ, Act.put, List.setIfInBounds_toArray, List.set_cons_zero, List.set_cons_succ]
        refine wpAnyH_take (i := 13) (v := .int .i64 0) rfl (by kernel_rfl) (by kernel_rfl) (by kernel_rfl) (fun _ _ _ h => h) (Or.inl ⟨by rfl, fun X hX => rfl⟩) hHeld ?_
        simp only [List.getElem_toArray, List.getElem_cons_zero, List.getElem_cons_succ, Act.put, List.setIfInBounds_toArray, List.set_cons_zero, List.set_cons_succ]
        refine wpAnyH_done (by kernel_rfl) ?_ _
        clear hHeld
        have c9 := S.cell 9 (v := .int .i64 35) rfl
        have HS2 := Aside0.mk S
        clear S HS
        go_wp2_with (first | (go_at_call 13; refine (num8 _ _).mono ?_; rintro _ _ ⟨rfl, rfl⟩))
        refine ⟨⟨j + 1, Bm.setB B j, hjD, by go_num, ⟨Bm.setB_ok HB.out.1 j, fun i hi => ?_, fun i hi hiD => ?_⟩, HS2.out⟩, by simp [intOf]; omega⟩
        · rw [Bm.bit_setB HB.out.1 (by rw [hlen]; omega)]
          by_cases e : i = j
          · rw [if_pos e]
          · rw [if_neg e]
            exact HB.out.2.1 i (by omega)
        · rw [Bm.bit_setB HB.out.1 (by rw [hlen]; omega), if_neg (by omega)]
          exact HB.out.2.2 i (by omega) hiD
      · obtain rfl : j = D := by omega
        have hlt : ¬ (j : Int) < (j : Int) := by omega
        go_wp2_with fail
        go_meet
        case rel => exact ⟨B, ⟨HB.out.1, HB.out.2.1⟩, HS.out⟩
  case rest =>
  clear HS
  obtain ⟨B, HB, S⟩ := hcut
  have hlen := (S.pull 1).sp_len
  have HS := Aside0.mk S
  clear S
  obtain ⟨i0, hi0, hrem⟩ := round_in (show 0 < D by omega) y
  have hri := rem_in (show 0 < D by omega) y
  have hset : ∀ i, i < D → Bm.bit (Bm.setB (Bm.clrB B i0) i0) i = true := fun i hi => by
    rw [Bm.bit_setB (Bm.clrB_ok HB.out.1 i0) (by rw [Bm.clrB_len, hlen]; omega)]
    by_cases e : i = i0
    · rw [if_pos e]
    · rw [if_neg e, Bm.bit_clrB HB.out.1 (by rw [hlen]; omega), if_neg e]
      exact HB.out.2 i hi
  have hcl : ∀ i, i < i0 → Bm.bit (Bm.clrB B i0) i = true := fun i hi => by
    rw [Bm.bit_clrB HB.out.1 (by rw [hlen]; omega), if_neg (by omega)]
    exact HB.out.2 i (by omega)
  have hcl0 : Bm.bit (Bm.clrB B i0) i0 = false := by rw [Bm.bit_clrB HB.out.1 (by rw [hlen]; omega), if_pos rfl]
  have hok2 := Bm.clrB_ok HB.out.1 i0
  have hok3 := Bm.setB_ok hok2 i0
  have HX := Aside0.mk (And.intro hset (And.intro hcl (And.intro hcl0 (And.intro hok2 hok3))))
  clear hset hcl hcl0 hok2 hok3
  go_upto_region 14 with fail
  refine wp_region_held_drew (S := fun X => X.rangeAt wp 0 (worldC D q p d).toList) (by kernel_rfl) (by simpa using HS.out.range) (fun hHeld => ?_)
  refine wpAnyH_take (i := 0) (v := .pointer (some ⟨wp, 0, none⟩)) rfl (by kernel_rfl) (by kernel_rfl) (by kernel_rfl) (fun _ _ _ h => h) (Or.inl ⟨by rfl, fun X hX => rfl⟩) hHeld ?_
  simp only [List.getElem_toArray, List.getElem_cons_zero, List.getElem_cons_succ, Act.put, List.setIfInBounds_toArray, List.set_cons_zero, List.set_cons_succ]
  refine wpAnyH_take (i := 1) (v := .pointer (some ⟨wp, 0, none⟩)) rfl (by kernel_rfl) (by kernel_rfl) (by kernel_rfl) (fun _ _ _ h => h) (Or.inl ⟨by rfl, fun X hX => run_nilOp rfl rfl⟩) hHeld ?_
  simp only [List.getElem_toArray, List.getElem_cons_zero, List.getElem_cons_succ, Act.put, List.setIfInBounds_toArray, List.set_cons_zero, List.set_cons_succ]
  refine wpAnyH_take (i := 2) (v := .pointer (some ⟨wp, 22, none⟩)) rfl (by kernel_rfl) (by kernel_rfl) (by kernel_rfl) (fun _ _ _ h => h) (Or.inl ⟨by rfl, fun X hX => run_fieldOp3 rfl rfl⟩) hHeld ?_
  simp only [List.getElem_toArray, List.getElem_cons_zero, List.getElem_cons_succ, Act.put, List.setIfInBounds_toArray, List.set_cons_zero, List.set_cons_succ]
  refine wpAnyH_take (i := 3) (v := .pointer (some ⟨q, 0, none⟩)) rfl (by kernel_rfl) (by kernel_rfl) (by kernel_rfl) (fun _ _ _ h => h) (Or.inl ⟨by rfl, fun X hX => run_loadT rfl rfl hX⟩) hHeld ?_
  simp only [List.getElem_toArray, List.getElem_cons_zero, List.getElem_cons_succ, Act.put, List.setIfInBounds_toArray, List.set_cons_zero, List.set_cons_succ]
  refine wpAnyH_take (i := 4) (v := .pointer (some ⟨wp, 0, none⟩)) rfl (by kernel_rfl) (by kernel_rfl) (by kernel_rfl) (fun _ _ _ h => h) (Or.inl ⟨by rfl, fun X hX => rfl⟩) hHeld ?_
  simp only [List.getElem_toArray, List.getElem_cons_zero, List.getElem_cons_succ, Act.put, List.setIfInBounds_toArray, List.set_cons_zero, List.set_cons_succ]
  refine wpAnyH_take (i := 5) (v := .pointer (some ⟨wp, 0, none⟩)) rfl (by kernel_rfl) (by kernel_rfl) (by kernel_rfl) (fun _ _ _ h => h) (Or.inl ⟨by rfl, fun X hX => run_nilOp rfl rfl⟩) hHeld ?_
  simp only [List.getElem_toArray, List.getElem_cons_zero, List.getElem_cons_succ, Act.put, List.setIfInBounds_toArray, List.set_cons_zero, List.set_cons_succ]
  refine wpAnyH_take (i := 6) (v := .pointer (some ⟨wp, 0, none⟩)) rfl (by kernel_rfl) (by kernel_rfl) (by kernel_rfl) (fun _ _ _ h => h) (Or.inl ⟨by rfl, fun X hX => run_fieldOp0 rfl rfl⟩) hHeld ?_
  simp only [List.getElem_toArray, List.getElem_cons_zero, List.getElem_cons_succ, Act.put, List.setIfInBounds_toArray, List.set_cons_zero, List.set_cons_succ]
  refine wpAnyH_take (i := 7) (v := .agg (layC D)) rfl (by kernel_rfl) (by kernel_rfl) (by kernel_rfl) (fun _ _ _ h => h) (Or.inl ⟨by rfl, fun X hX => run_loadOp (t := 29) (x := .tmp 80) (g := wp) rfl rfl (run_layMid (range_lay hX))⟩) hHeld ?_
  simp only [List.getElem_toArray, List.getElem_cons_zero, List.getElem_cons_succ, Act.put, List.setIfInBounds_toArray, List.set_cons_zero, List.set_cons_succ]
  refine wpAnyH_ready (rs := [8]) (by kernel_rfl) (by simp) ?_
  refine AllReadyH.cons rfl (fun K hK => ?_) AllReadyH.nil
  refine call_step Tryz.func12 (by kernel_rfl) (by rfl) #[.tmp 77, .tmp 81] #[32, 29] rfl rfl #[.pointer (some ⟨q, 0, none⟩), .agg (layC D)] (by simp [Act.eval]) ?_
  refine (alloc_no hB (HS.out.drew.pull 1) HB.out.1 h0 h1 (by omega) HB.out.2).mono ?_
  rintro e w5 ⟨rfl, S⟩
  have S := S.pull 1
  refine ⟨_, rfl, hK.out _ _ S.range (fun hHeld => ?_)⟩
  clear hK K
  simp only [List.getElem_toArray, List.getElem_cons_zero, List.getElem_cons_succ, Act.put, List.setIfInBounds_toArray, List.set_cons_zero, List.set_cons_succ]
  refine wpAnyH_take (i := 9) (v := .tuple #[.int .i64 0, .int .i64 81]) rfl (by kernel_rfl) (by kernel_rfl) (by kernel_rfl) (fun _ _ _ h => h) (Or.inl ⟨by rfl, fun X hX => rfl⟩) hHeld ?_
  simp only [List.getElem_toArray, List.getElem_cons_zero, List.getElem_cons_succ, Act.put, List.setIfInBounds_toArray, List.set_cons_zero, List.set_cons_succ]
  refine wpAnyH_take (i := 10) (v := .int .i64 0) rfl (by kernel_rfl) (by kernel_rfl) (by kernel_rfl) (fun _ _ _ h => h) (Or.inl ⟨by rfl, fun X hX => rfl⟩) hHeld ?_
  simp only [List.getElem_toArray, List.getElem_cons_zero, List.getElem_cons_succ, Act.put, List.setIfInBounds_toArray, List.set_cons_zero, List.set_cons_succ]
  refine wpAnyH_take (i := 11) (v := .int .i64 81) rfl (by kernel_rfl) (by kernel_rfl) (by kernel_rfl) (fun _ _ _ h => h) (Or.inl ⟨by rfl, fun X hX => rfl⟩) hHeld ?_
  simp only [List.getElem_toArray, List.getElem_cons_zero, List.getElem_cons_succ, Act.put, List.setIfInBounds_toArray, List.set_cons_zero, List.set_cons_succ]
  refine wpAnyH_take (i := 12) (v := .int .i64 0) rfl (by kernel_rfl) (by kernel_rfl) (by kernel_rfl) (fun _ _ _ h => h) (Or.inl ⟨by rfl, fun X hX => rfl⟩) hHeld ?_
  simp only [List.getElem_toArray, List.getElem_cons_zero, List.getElem_cons_succ, Act.put, List.setIfInBounds_toArray, List.set_cons_zero, List.set_cons_succ]
  refine wpAnyH_take (i := 13) (v := .int .i64 81) rfl (by kernel_rfl) (by kernel_rfl) (by kernel_rfl) (fun _ _ _ h => h) (Or.inl ⟨by rfl, fun X hX => rfl⟩) hHeld ?_
  simp only [List.getElem_toArray, List.getElem_cons_zero, List.getElem_cons_succ, Act.put, List.setIfInBounds_toArray, List.set_cons_zero, List.set_cons_succ]
  refine wpAnyH_done (by kernel_rfl) ?_ _
  clear hHeld
  have c9 := S.cell 9 (v := .int .i64 35) rfl
  clear HS
  have HS := Aside0.mk S
  clear S
  have hD0 : ¬ (D : Int) = 0 := by omega
  have hw1 : IntKind.i64.wrap (Int.tmod y (D : Int) + (D : Int)) = Int.tmod y (D : Int) + (D : Int) := by rw [IntKind.wrap_i64]; omega
  have hw2 : IntKind.i64.wrap (35 + (i0 : Int)) = 35 + (i0 : Int) := by rw [IntKind.wrap_i64]; omega
  have hrm : -9223372036854775808 ≤ Int.tmod y (D : Int) ∧ Int.tmod y (D : Int) < 9223372036854775808 := by omega
  go_upto_region 15 with fail
  go_quiet (fail)
  have HS2 := Aside0.mk (HS.out.drewN nq)
  obtain ⟨W5, hW5⟩ : ∃ W5, W5 = w5.drewN nq := ⟨_, rfl⟩
  rw [← hW5] at HS2 ⊢
  clear hW5 HS c9 hw1 hw2 hrm hrem hri
  have HS := HS2
  clear HS2
  go_upto_region 16 with fail
  refine wp_region_held_drew (S := fun X => X.rangeAt wp 0 (worldC D q p d).toList) (by kernel_rfl) (by simpa using HS.out.range) (fun hHeld => ?_)
  refine wpAnyH_take (i := 0) (v := .pointer (some ⟨wp, 0, none⟩)) rfl (by kernel_rfl) (by kernel_rfl) (by kernel_rfl) (fun _ _ _ h => h) (Or.inl ⟨by rfl, fun X hX => rfl⟩) hHeld ?_
  simp only [List.getElem_toArray, List.getElem_cons_zero, List.getElem_cons_succ, Act.put, List.setIfInBounds_toArray, List.set_cons_zero, List.set_cons_succ]
  refine wpAnyH_take (i := 1) (v := .pointer (some ⟨wp, 0, none⟩)) rfl (by kernel_rfl) (by kernel_rfl) (by kernel_rfl) (fun _ _ _ h => h) (Or.inl ⟨by rfl, fun X hX => run_nilOp rfl rfl⟩) hHeld ?_
  simp only [List.getElem_toArray, List.getElem_cons_zero, List.getElem_cons_succ, Act.put, List.setIfInBounds_toArray, List.set_cons_zero, List.set_cons_succ]
  refine wpAnyH_take (i := 2) (v := .pointer (some ⟨wp, 22, none⟩)) rfl (by kernel_rfl) (by kernel_rfl) (by kernel_rfl) (fun _ _ _ h => h) (Or.inl ⟨by rfl, fun X hX => run_fieldOp3 rfl rfl⟩) hHeld ?_
  simp only [List.getElem_toArray, List.getElem_cons_zero, List.getElem_cons_succ, Act.put, List.setIfInBounds_toArray, List.set_cons_zero, List.set_cons_succ]
  refine wpAnyH_take (i := 3) (v := .pointer (some ⟨q, 0, none⟩)) rfl (by kernel_rfl) (by kernel_rfl) (by kernel_rfl) (fun _ _ _ h => h) (Or.inl ⟨by rfl, fun X hX => run_loadT rfl rfl hX⟩) hHeld ?_
  simp only [List.getElem_toArray, List.getElem_cons_zero, List.getElem_cons_succ, Act.put, List.setIfInBounds_toArray, List.set_cons_zero, List.set_cons_succ]
  refine wpAnyH_take (i := 4) (v := .pointer (some ⟨wp, 0, none⟩)) rfl (by kernel_rfl) (by kernel_rfl) (by kernel_rfl) (fun _ _ _ h => h) (Or.inl ⟨by rfl, fun X hX => rfl⟩) hHeld ?_
  simp only [List.getElem_toArray, List.getElem_cons_zero, List.getElem_cons_succ, Act.put, List.setIfInBounds_toArray, List.set_cons_zero, List.set_cons_succ]
  refine wpAnyH_take (i := 5) (v := .pointer (some ⟨wp, 0, none⟩)) rfl (by kernel_rfl) (by kernel_rfl) (by kernel_rfl) (fun _ _ _ h => h) (Or.inl ⟨by rfl, fun X hX => run_nilOp rfl rfl⟩) hHeld ?_
  simp only [List.getElem_toArray, List.getElem_cons_zero, List.getElem_cons_succ, Act.put, List.setIfInBounds_toArray, List.set_cons_zero, List.set_cons_succ]
  refine wpAnyH_take (i := 6) (v := .pointer (some ⟨wp, 0, none⟩)) rfl (by kernel_rfl) (by kernel_rfl) (by kernel_rfl) (fun _ _ _ h => h) (Or.inl ⟨by rfl, fun X hX => run_fieldOp0 rfl rfl⟩) hHeld ?_
  simp only [List.getElem_toArray, List.getElem_cons_zero, List.getElem_cons_succ, Act.put, List.setIfInBounds_toArray, List.set_cons_zero, List.set_cons_succ]
  refine wpAnyH_take (i := 7) (v := .agg (layC D)) rfl (by kernel_rfl) (by kernel_rfl) (by kernel_rfl) (fun _ _ _ h => h) (Or.inl ⟨by rfl, fun X hX => run_loadOp (t := 29) (x := .tmp 104) (g := wp) rfl rfl (run_layMid (range_lay hX))⟩) hHeld ?_
  simp only [List.getElem_toArray, List.getElem_cons_zero, List.getElem_cons_succ, Act.put, List.setIfInBounds_toArray, List.set_cons_zero, List.set_cons_succ]
  refine wpAnyH_take (i := 8) (v := .int .i64 (35 + (i0 : Int))) rfl (by kernel_rfl) (by kernel_rfl) (by kernel_rfl) (fun _ _ _ h => h) (Or.inl ⟨by rfl, fun X hX => rfl⟩) hHeld ?_
  simp only [List.getElem_toArray, List.getElem_cons_zero, List.getElem_cons_succ, Act.put, List.setIfInBounds_toArray, List.set_cons_zero, List.set_cons_succ]
  refine wpAnyH_ready (rs := [9]) (by kernel_rfl) (by simp) ?_
  refine AllReadyH.cons rfl (fun K hK => ?_) AllReadyH.nil
  refine call_step Tryz.func14 (by kernel_rfl) (by rfl) #[.tmp 101, .tmp 105, .tmp 106] #[32, 29, 3] rfl rfl #[.pointer (some ⟨q, 0, none⟩), .agg (layC D), .int .i64 (35 + (i0 : Int))] (by simp [Act.eval]) ?_
  refine (free_s hB (HS.out.drew.pull 1) HB.out.1 h0 h1 (by omega) i0 hi0 (HB.out.2 i0 hi0)).mono ?_
  rintro e w6 ⟨rfl, S⟩
  have S := S.pull 1
  clear HS
  refine ⟨_, rfl, hK.out _ _ S.range (fun hHeld => ?_)⟩
  clear hK K
  simp only [List.getElem_toArray, List.getElem_cons_zero, List.getElem_cons_succ, Act.put, List.setIfInBounds_toArray, List.set_cons_zero, List.set_cons_succ]
  refine wpAnyH_take (i := 10) (v := .int .i64 0) rfl (by kernel_rfl) (by kernel_rfl) (by kernel_rfl) (fun _ _ _ h => h) (Or.inl ⟨by rfl, fun X hX => rfl⟩) hHeld ?_
  simp only [List.getElem_toArray, List.getElem_cons_zero, List.getElem_cons_succ, Act.put, List.setIfInBounds_toArray, List.set_cons_zero, List.set_cons_succ]
  refine wpAnyH_done (by kernel_rfl) ?_ _
  clear hHeld
  have HS := Aside0.mk S
  clear S
  go_upto_region 17 with fail
  refine wp_region_held_drew (S := fun X => X.rangeAt wp 0 (worldC D q p d).toList) (by kernel_rfl) (by simpa using HS.out.range) (fun hHeld => ?_)
  refine wpAnyH_take (i := 0) (v := .pointer (some ⟨wp, 0, none⟩)) rfl (by kernel_rfl) (by kernel_rfl) (by kernel_rfl) (fun _ _ _ h => h) (Or.inl ⟨by rfl, fun X hX => rfl⟩) hHeld ?_
  simp only [List.getElem_toArray, List.getElem_cons_zero, List.getElem_cons_succ, Act.put, List.setIfInBounds_toArray, List.set_cons_zero, List.set_cons_succ]
  refine wpAnyH_take (i := 1) (v := .pointer (some ⟨wp, 0, none⟩)) rfl (by kernel_rfl) (by kernel_rfl) (by kernel_rfl) (fun _ _ _ h => h) (Or.inl ⟨by rfl, fun X hX => run_nilOp rfl rfl⟩) hHeld ?_
  simp only [List.getElem_toArray, List.getElem_cons_zero, List.getElem_cons_succ, Act.put, List.setIfInBounds_toArray, List.set_cons_zero, List.set_cons_succ]
  refine wpAnyH_take (i := 2) (v := .pointer (some ⟨wp, 22, none⟩)) rfl (by kernel_rfl) (by kernel_rfl) (by kernel_rfl) (fun _ _ _ h => h) (Or.inl ⟨by rfl, fun X hX => run_fieldOp3 rfl rfl⟩) hHeld ?_
  simp only [List.getElem_toArray, List.getElem_cons_zero, List.getElem_cons_succ, Act.put, List.setIfInBounds_toArray, List.set_cons_zero, List.set_cons_succ]
  refine wpAnyH_take (i := 3) (v := .pointer (some ⟨q, 0, none⟩)) rfl (by kernel_rfl) (by kernel_rfl) (by kernel_rfl) (fun _ _ _ h => h) (Or.inl ⟨by rfl, fun X hX => run_loadT rfl rfl hX⟩) hHeld ?_
  simp only [List.getElem_toArray, List.getElem_cons_zero, List.getElem_cons_succ, Act.put, List.setIfInBounds_toArray, List.set_cons_zero, List.set_cons_succ]
  refine wpAnyH_take (i := 4) (v := .pointer (some ⟨wp, 0, none⟩)) rfl (by kernel_rfl) (by kernel_rfl) (by kernel_rfl) (fun _ _ _ h => h) (Or.inl ⟨by rfl, fun X hX => rfl⟩) hHeld ?_
  simp only [List.getElem_toArray, List.getElem_cons_zero, List.getElem_cons_succ, Act.put, List.setIfInBounds_toArray, List.set_cons_zero, List.set_cons_succ]
  refine wpAnyH_take (i := 5) (v := .pointer (some ⟨wp, 0, none⟩)) rfl (by kernel_rfl) (by kernel_rfl) (by kernel_rfl) (fun _ _ _ h => h) (Or.inl ⟨by rfl, fun X hX => run_nilOp rfl rfl⟩) hHeld ?_
  simp only [List.getElem_toArray, List.getElem_cons_zero, List.getElem_cons_succ, Act.put, List.setIfInBounds_toArray, List.set_cons_zero, List.set_cons_succ]
  refine wpAnyH_take (i := 6) (v := .pointer (some ⟨wp, 0, none⟩)) rfl (by kernel_rfl) (by kernel_rfl) (by kernel_rfl) (fun _ _ _ h => h) (Or.inl ⟨by rfl, fun X hX => run_fieldOp0 rfl rfl⟩) hHeld ?_
  simp only [List.getElem_toArray, List.getElem_cons_zero, List.getElem_cons_succ, Act.put, List.setIfInBounds_toArray, List.set_cons_zero, List.set_cons_succ]
  refine wpAnyH_take (i := 7) (v := .agg (layC D)) rfl (by kernel_rfl) (by kernel_rfl) (by kernel_rfl) (fun _ _ _ h => h) (Or.inl ⟨by rfl, fun X hX => run_loadOp (t := 29) (x := .tmp 115) (g := wp) rfl rfl (run_layMid (range_lay hX))⟩) hHeld ?_
  simp only [List.getElem_toArray, List.getElem_cons_zero, List.getElem_cons_succ, Act.put, List.setIfInBounds_toArray, List.set_cons_zero, List.set_cons_succ]
  refine wpAnyH_ready (rs := [8]) (by kernel_rfl) (by simp) ?_
  refine AllReadyH.cons rfl (fun K hK => ?_) AllReadyH.nil
  refine call_step Tryz.func12 (by kernel_rfl) (by rfl) #[.tmp 112, .tmp 116] #[32, 29] rfl rfl #[.pointer (some ⟨q, 0, none⟩), .agg (layC D)] (by simp [Act.eval]) ?_
  refine (alloc_yes hB (HS.out.drew.pull 1) HX.out.2.2.2.1 h0 h1 (by omega) i0 hi0 HX.out.2.1 HX.out.2.2.1).mono ?_
  rintro e w7 ⟨rfl, S⟩
  have S := S.pull 1
  clear HS
  refine ⟨_, rfl, hK.out _ _ S.range (fun hHeld => ?_)⟩
  clear hK K
  simp only [List.getElem_toArray, List.getElem_cons_zero, List.getElem_cons_succ, Act.put, List.setIfInBounds_toArray, List.set_cons_zero, List.set_cons_succ]
  refine wpAnyH_take (i := 9) (v := .tuple #[.int .i64 (35 + (i0 : Int)), .int .i64 0]) rfl (by kernel_rfl) (by kernel_rfl) (by kernel_rfl) (fun _ _ _ h => h) (Or.inl ⟨by rfl, fun X hX => rfl⟩) hHeld ?_
  simp only [List.getElem_toArray, List.getElem_cons_zero, List.getElem_cons_succ, Act.put, List.setIfInBounds_toArray, List.set_cons_zero, List.set_cons_succ]
  refine wpAnyH_take (i := 10) (v := .int .i64 (35 + (i0 : Int))) rfl (by kernel_rfl) (by kernel_rfl) (by kernel_rfl) (fun _ _ _ h => h) (Or.inl ⟨by rfl, fun X hX => rfl⟩) hHeld ?_
  simp only [List.getElem_toArray, List.getElem_cons_zero, List.getElem_cons_succ, Act.put, List.setIfInBounds_toArray, List.set_cons_zero, List.set_cons_succ]
  refine wpAnyH_take (i := 11) (v := .int .i64 0) rfl (by kernel_rfl) (by kernel_rfl) (by kernel_rfl) (fun _ _ _ h => h) (Or.inl ⟨by rfl, fun X hX => rfl⟩) hHeld ?_
  simp only [List.getElem_toArray, List.getElem_cons_zero, List.getElem_cons_succ, Act.put, List.setIfInBounds_toArray, List.set_cons_zero, List.set_cons_succ]
  refine wpAnyH_take (i := 12) (v := .int .i64 (35 + (i0 : Int))) rfl (by kernel_rfl) (by kernel_rfl) (by kernel_rfl) (fun _ _ _ h => h) (Or.inl ⟨by rfl, fun X hX => rfl⟩) hHeld ?_
  simp only [List.getElem_toArray, List.getElem_cons_zero, List.getElem_cons_succ, Act.put, List.setIfInBounds_toArray, List.set_cons_zero, List.set_cons_succ]
  refine wpAnyH_take (i := 13) (v := .int .i64 0) rfl (by kernel_rfl) (by kernel_rfl) (by kernel_rfl) (fun _ _ _ h => h) (Or.inl ⟨by rfl, fun X hX => rfl⟩) hHeld ?_
  simp only [List.getElem_toArray, List.getElem_cons_zero, List.getElem_cons_succ, Act.put, List.setIfInBounds_toArray, List.set_cons_zero, List.set_cons_succ]
  refine wpAnyH_done (by kernel_rfl) ?_ _
  clear hHeld
  have HS := Aside0.mk S
  clear S
  go_upto_region 18 with fail
  refine wp_region_held_drew (S := fun X => X.rangeAt wp 0 (worldC D q p d).toList) (by kernel_rfl) (by simpa using HS.out.range) (fun hHeld => ?_)
  refine wpAnyH_take (i := 0) (v := .pointer (some ⟨wp, 0, none⟩)) rfl (by kernel_rfl) (by kernel_rfl) (by kernel_rfl) (fun _ _ _ h => h) (Or.inl ⟨by rfl, fun X hX => rfl⟩) hHeld ?_
  simp only [List.getElem_toArray, List.getElem_cons_zero, List.getElem_cons_succ, Act.put, List.setIfInBounds_toArray, List.set_cons_zero, List.set_cons_succ]
  refine wpAnyH_take (i := 1) (v := .pointer (some ⟨wp, 0, none⟩)) rfl (by kernel_rfl) (by kernel_rfl) (by kernel_rfl) (fun _ _ _ h => h) (Or.inl ⟨by rfl, fun X hX => run_nilOp rfl rfl⟩) hHeld ?_
  simp only [List.getElem_toArray, List.getElem_cons_zero, List.getElem_cons_succ, Act.put, List.setIfInBounds_toArray, List.set_cons_zero, List.set_cons_succ]
  refine wpAnyH_take (i := 2) (v := .pointer (some ⟨wp, 22, none⟩)) rfl (by kernel_rfl) (by kernel_rfl) (by kernel_rfl) (fun _ _ _ h => h) (Or.inl ⟨by rfl, fun X hX => run_fieldOp3 rfl rfl⟩) hHeld ?_
  simp only [List.getElem_toArray, List.getElem_cons_zero, List.getElem_cons_succ, Act.put, List.setIfInBounds_toArray, List.set_cons_zero, List.set_cons_succ]
  refine wpAnyH_take (i := 3) (v := .pointer (some ⟨q, 0, none⟩)) rfl (by kernel_rfl) (by kernel_rfl) (by kernel_rfl) (fun _ _ _ h => h) (Or.inl ⟨by rfl, fun X hX => run_loadT rfl rfl hX⟩) hHeld ?_
  simp only [List.getElem_toArray, List.getElem_cons_zero, List.getElem_cons_succ, Act.put, List.setIfInBounds_toArray, List.set_cons_zero, List.set_cons_succ]
  refine wpAnyH_take (i := 4) (v := .pointer (some ⟨wp, 0, none⟩)) rfl (by kernel_rfl) (by kernel_rfl) (by kernel_rfl) (fun _ _ _ h => h) (Or.inl ⟨by rfl, fun X hX => rfl⟩) hHeld ?_
  simp only [List.getElem_toArray, List.getElem_cons_zero, List.getElem_cons_succ, Act.put, List.setIfInBounds_toArray, List.set_cons_zero, List.set_cons_succ]
  refine wpAnyH_take (i := 5) (v := .pointer (some ⟨wp, 0, none⟩)) rfl (by kernel_rfl) (by kernel_rfl) (by kernel_rfl) (fun _ _ _ h => h) (Or.inl ⟨by rfl, fun X hX => run_nilOp rfl rfl⟩) hHeld ?_
  simp only [List.getElem_toArray, List.getElem_cons_zero, List.getElem_cons_succ, Act.put, List.setIfInBounds_toArray, List.set_cons_zero, List.set_cons_succ]
  refine wpAnyH_take (i := 6) (v := .pointer (some ⟨wp, 0, none⟩)) rfl (by kernel_rfl) (by kernel_rfl) (by kernel_rfl) (fun _ _ _ h => h) (Or.inl ⟨by rfl, fun X hX => run_fieldOp0 rfl rfl⟩) hHeld ?_
  simp only [List.getElem_toArray, List.getElem_cons_zero, List.getElem_cons_succ, Act.put, List.setIfInBounds_toArray, List.set_cons_zero, List.set_cons_succ]
  refine wpAnyH_take (i := 7) (v := .agg (layC D)) rfl (by kernel_rfl) (by kernel_rfl) (by kernel_rfl) (fun _ _ _ h => h) (Or.inl ⟨by rfl, fun X hX => run_loadOp (t := 29) (x := .tmp 127) (g := wp) rfl rfl (run_layMid (range_lay hX))⟩) hHeld ?_
  simp only [List.getElem_toArray, List.getElem_cons_zero, List.getElem_cons_succ, Act.put, List.setIfInBounds_toArray, List.set_cons_zero, List.set_cons_succ]
  refine wpAnyH_ready (rs := [8]) (by kernel_rfl) (by simp) ?_
  refine AllReadyH.cons rfl (fun K hK => ?_) AllReadyH.nil
  refine call_step Tryz.func12 (by kernel_rfl) (by rfl) #[.tmp 124, .tmp 128] #[32, 29] rfl rfl #[.pointer (some ⟨q, 0, none⟩), .agg (layC D)] (by simp [Act.eval]) ?_
  refine (alloc_no hB (HS.out.drew.pull 1) HX.out.2.2.2.2 h0 h1 (by omega) HX.out.1).mono ?_
  rintro e w8 ⟨rfl, S⟩
  have S := S.pull 1
  clear HS
  refine ⟨_, rfl, hK.out _ _ S.range (fun hHeld => ?_)⟩
  clear hK K
  simp only [List.getElem_toArray, List.getElem_cons_zero, List.getElem_cons_succ, Act.put, List.setIfInBounds_toArray, List.set_cons_zero, List.set_cons_succ]
  refine wpAnyH_take (i := 9) (v := .tuple #[.int .i64 0, .int .i64 81]) rfl (by kernel_rfl) (by kernel_rfl) (by kernel_rfl) (fun _ _ _ h => h) (Or.inl ⟨by rfl, fun X hX => rfl⟩) hHeld ?_
  simp only [List.getElem_toArray, List.getElem_cons_zero, List.getElem_cons_succ, Act.put, List.setIfInBounds_toArray, List.set_cons_zero, List.set_cons_succ]
  refine wpAnyH_take (i := 10) (v := .int .i64 0) rfl (by kernel_rfl) (by kernel_rfl) (by kernel_rfl) (fun _ _ _ h => h) (Or.inl ⟨by rfl, fun X hX => rfl⟩) hHeld ?_
  simp only [List.getElem_toArray, List.getElem_cons_zero, List.getElem_cons_succ, Act.put, List.setIfInBounds_toArray, List.set_cons_zero, List.set_cons_succ]
  refine wpAnyH_take (i := 11) (v := .int .i64 81) rfl (by kernel_rfl) (by kernel_rfl) (by kernel_rfl) (fun _ _ _ h => h) (Or.inl ⟨by rfl, fun X hX => rfl⟩) hHeld ?_
  simp only [List.getElem_toArray, List.getElem_cons_zero, List.getElem_cons_succ, Act.put, List.setIfInBounds_toArray, List.set_cons_zero, List.set_cons_succ]
  refine wpAnyH_take (i := 12) (v := .int .i64 0) rfl (by kernel_rfl) (by kernel_rfl) (by kernel_rfl) (fun _ _ _ h => h) (Or.inl ⟨by rfl, fun X hX => rfl⟩) hHeld ?_
  simp only [List.getElem_toArray, List.getElem_cons_zero, List.getElem_cons_succ, Act.put, List.setIfInBounds_toArray, List.set_cons_zero, List.set_cons_succ]
  refine wpAnyH_take (i := 13) (v := .int .i64 81) rfl (by kernel_rfl) (by kernel_rfl) (by kernel_rfl) (fun _ _ _ h => h) (Or.inl ⟨by rfl, fun X hX => rfl⟩) hHeld ?_
  simp only [List.getElem_toArray, List.getElem_cons_zero, List.getElem_cons_succ, Act.put, List.setIfInBounds_toArray, List.set_cons_zero, List.set_cons_succ]
  refine wpAnyH_done (by kernel_rfl) ?_ _
  clear hHeld
  have HS := Aside0.mk S
  clear S
  go_upto_region 19 with fail
  refine wp_region_held_drew (S := fun X => X.rangeAt wp 0 (worldC D q p d).toList) (by kernel_rfl) (by simpa using HS.out.range) (fun hHeld => ?_)
  refine wpAnyH_take (i := 0) (v := .pointer (some ⟨wp, 0, none⟩)) rfl (by kernel_rfl) (by kernel_rfl) (by kernel_rfl) (fun _ _ _ h => h) (Or.inl ⟨by rfl, fun X hX => rfl⟩) hHeld ?_
  simp only [List.getElem_toArray, List.getElem_cons_zero, List.getElem_cons_succ, Act.put, List.setIfInBounds_toArray, List.set_cons_zero, List.set_cons_succ]
  refine wpAnyH_take (i := 1) (v := .pointer (some ⟨wp, 0, none⟩)) rfl (by kernel_rfl) (by kernel_rfl) (by kernel_rfl) (fun _ _ _ h => h) (Or.inl ⟨by rfl, fun X hX => run_nilOp rfl rfl⟩) hHeld ?_
  simp only [List.getElem_toArray, List.getElem_cons_zero, List.getElem_cons_succ, Act.put, List.setIfInBounds_toArray, List.set_cons_zero, List.set_cons_succ]
  refine wpAnyH_take (i := 2) (v := .pointer (some ⟨wp, 22, none⟩)) rfl (by kernel_rfl) (by kernel_rfl) (by kernel_rfl) (fun _ _ _ h => h) (Or.inl ⟨by rfl, fun X hX => run_fieldOp3 rfl rfl⟩) hHeld ?_
  simp only [List.getElem_toArray, List.getElem_cons_zero, List.getElem_cons_succ, Act.put, List.setIfInBounds_toArray, List.set_cons_zero, List.set_cons_succ]
  refine wpAnyH_take (i := 3) (v := .pointer (some ⟨q, 0, none⟩)) rfl (by kernel_rfl) (by kernel_rfl) (by kernel_rfl) (fun _ _ _ h => h) (Or.inl ⟨by rfl, fun X hX => run_loadT rfl rfl hX⟩) hHeld ?_
  simp only [List.getElem_toArray, List.getElem_cons_zero, List.getElem_cons_succ, Act.put, List.setIfInBounds_toArray, List.set_cons_zero, List.set_cons_succ]
  refine wpAnyH_take (i := 4) (v := .pointer (some ⟨wp, 0, none⟩)) rfl (by kernel_rfl) (by kernel_rfl) (by kernel_rfl) (fun _ _ _ h => h) (Or.inl ⟨by rfl, fun X hX => rfl⟩) hHeld ?_
  simp only [List.getElem_toArray, List.getElem_cons_zero, List.getElem_cons_succ, Act.put, List.setIfInBounds_toArray, List.set_cons_zero, List.set_cons_succ]
  refine wpAnyH_take (i := 5) (v := .pointer (some ⟨wp, 0, none⟩)) rfl (by kernel_rfl) (by kernel_rfl) (by kernel_rfl) (fun _ _ _ h => h) (Or.inl ⟨by rfl, fun X hX => run_nilOp rfl rfl⟩) hHeld ?_
  simp only [List.getElem_toArray, List.getElem_cons_zero, List.getElem_cons_succ, Act.put, List.setIfInBounds_toArray, List.set_cons_zero, List.set_cons_succ]
  refine wpAnyH_take (i := 6) (v := .pointer (some ⟨wp, 0, none⟩)) rfl (by kernel_rfl) (by kernel_rfl) (by kernel_rfl) (fun _ _ _ h => h) (Or.inl ⟨by rfl, fun X hX => run_fieldOp0 rfl rfl⟩) hHeld ?_
  simp only [List.getElem_toArray, List.getElem_cons_zero, List.getElem_cons_succ, Act.put, List.setIfInBounds_toArray, List.set_cons_zero, List.set_cons_succ]
  refine wpAnyH_take (i := 7) (v := .agg (layC D)) rfl (by kernel_rfl) (by kernel_rfl) (by kernel_rfl) (fun _ _ _ h => h) (Or.inl ⟨by rfl, fun X hX => run_loadOp (t := 29) (x := .tmp 139) (g := wp) rfl rfl (run_layMid (range_lay hX))⟩) hHeld ?_
  simp only [List.getElem_toArray, List.getElem_cons_zero, List.getElem_cons_succ, Act.put, List.setIfInBounds_toArray, List.set_cons_zero, List.set_cons_succ]
  refine wpAnyH_ready (rs := [8]) (by kernel_rfl) (by simp) ?_
  refine AllReadyH.cons rfl (fun K hK => ?_) AllReadyH.nil
  refine call_step Tryz.func15 (by kernel_rfl) (by rfl) #[.tmp 136, .tmp 140] #[32, 29] rfl rfl #[.pointer (some ⟨q, 0, none⟩), .agg (layC D)] (by simp [Act.eval]) ?_
  refine (used_s hB (HS.out.drew.pull 1) HX.out.2.2.2.2 h0 h1).mono ?_
  rintro e w9 ⟨rfl, S⟩
  rw [Bm.cnt_all HX.out.1]
  have S := S.pull 1
  clear HS
  refine ⟨_, rfl, hK.out _ _ S.range (fun hHeld => ?_)⟩
  clear hK K
  simp only [List.getElem_toArray, List.getElem_cons_zero, List.getElem_cons_succ, Act.put, List.setIfInBounds_toArray, List.set_cons_zero, List.set_cons_succ]
  refine wpAnyH_take (i := 9) (v := .tuple #[.int .i64 (D : Int), .int .i64 0]) rfl (by kernel_rfl) (by kernel_rfl) (by kernel_rfl) (fun _ _ _ h => h) (Or.inl ⟨by rfl, fun X hX => rfl⟩) hHeld ?_
  simp only [List.getElem_toArray, List.getElem_cons_zero, List.getElem_cons_succ, Act.put, List.setIfInBounds_toArray, List.set_cons_zero, List.set_cons_succ]
  refine wpAnyH_take (i := 10) (v := .int .i64 (D : Int)) rfl (by kernel_rfl) (by kernel_rfl) (by kernel_rfl) (fun _ _ _ h => h) (Or.inl ⟨by rfl, fun X hX => rfl⟩) hHeld ?_
  simp only [List.getElem_toArray, List.getElem_cons_zero, List.getElem_cons_succ, Act.put, List.setIfInBounds_toArray, List.set_cons_zero, List.set_cons_succ]
  refine wpAnyH_take (i := 11) (v := .int .i64 0) rfl (by kernel_rfl) (by kernel_rfl) (by kernel_rfl) (fun _ _ _ h => h) (Or.inl ⟨by rfl, fun X hX => rfl⟩) hHeld ?_
  simp only [List.getElem_toArray, List.getElem_cons_zero, List.getElem_cons_succ, Act.put, List.setIfInBounds_toArray, List.set_cons_zero, List.set_cons_succ]
  refine wpAnyH_take (i := 12) (v := .int .i64 (D : Int)) rfl (by kernel_rfl) (by kernel_rfl) (by kernel_rfl) (fun _ _ _ h => h) (Or.inl ⟨by rfl, fun X hX => rfl⟩) hHeld ?_
  simp only [List.getElem_toArray, List.getElem_cons_zero, List.getElem_cons_succ, Act.put, List.setIfInBounds_toArray, List.set_cons_zero, List.set_cons_succ]
  refine wpAnyH_take (i := 13) (v := .int .i64 0) rfl (by kernel_rfl) (by kernel_rfl) (by kernel_rfl) (fun _ _ _ h => h) (Or.inl ⟨by rfl, fun X hX => rfl⟩) hHeld ?_
  simp only [List.getElem_toArray, List.getElem_cons_zero, List.getElem_cons_succ, Act.put, List.setIfInBounds_toArray, List.set_cons_zero, List.set_cons_succ]
  refine wpAnyH_done (by kernel_rfl) ?_ _
  clear hHeld
  have HS := Aside0.mk S
  clear S
  go_wp2_with (first | (go_at_call 13; refine (num8 _ _).mono ?_; rintro _ _ ⟨rfl, rfl⟩))
  go_ret
  exact ⟨rfl, HS.out.bel⟩
end
end Go.Proofs.YtlhlmjkocmahmaaGreatDoor.Sep
