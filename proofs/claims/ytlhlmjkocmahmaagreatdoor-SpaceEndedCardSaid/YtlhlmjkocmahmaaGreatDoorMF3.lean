/- Behind the end of a transaction. -/
import Derived.Test.YtlhlmjkocmahmaaGreatDoorMF2
import Derived.WalkMore
import Derived.Test.YtlhlmjkocmahmaaGreatDoorMB3
import Derived.BigQuiet
namespace Go.Proofs.YtlhlmjkocmahmaaGreatDoor.Sep
open Go.Proofs.YtlhlmjkocmahmaaGreatDoor Go.Proofs Go.RowKit Go.ChangeMaps Go.Proofs.YtlhlmjkocmahmaaGreatDoorW.PrintWords Go.Proofs.YtlhlmjkocmahmaaGreatDoorW.PrintLast Go.Proofs.YtlhlmjkocmahmaaGreatDoorW.PrintMore Go.Proofs.YtlhlmjkocmahmaaGreatDoor.Dev Go.Proofs.YtlhlmjkocmahmaaGreatDoor.Errs Go.Proofs.YtlhlmjkocmahmaaGreatDoor.Jr Go.Proofs.YtlhlmjkocmahmaaGreatDoor.Help Go.Proofs.YtlhlmjkocmahmaaGreatDoor.IMap
set_option linter.unusedVariables false
set_option linter.unusedSimpArgs false
section
variable {w0 w w' : World} {R : List Asn} {q p d D n : Nat} {Bd : List Int}
set_option maxRecDepth 100000 in
set_option maxHeartbeats 8000000 in
theorem read_over (S : Sep w0 w (EndA q p :: JnA p d D n Bd :: R)) : Calls Tryz.prog 29 #[.pointer (some ⟨q, 0, none⟩), .int .i64 33] w fun e w' => e = .returned (.tuple #[.slice none 0 0, .int .i64 76]) ∧ Sep w0 w' (EndA q p :: JnA p d D n Bd :: R) := by
  obtain ⟨i, h, S1⟩ := S.swap.jn
  have S2 : Sep w0 w (JBlk p d i.v :: MapA i.v.bm (vals i.v.M) :: PoolA i.ps :: DevA d i.s :: EndA q p :: R) := S1
  obtain ⟨t, _, S3⟩ := (S2.pull 4).openE
  have S4 : Sep w0 w (TBlk q p t :: JBlk p d i.v :: DevA d i.s :: MapA i.v.bm (vals i.v.M) :: PoolA i.ps :: R) := (((S3.pull 4).pull 2).pull 2)
  have hgo : (i.v.geo i.s).Ok := by rw [h.live.geo]; exact h.live.live.fits.geo
  have hat := at_s S4 hgo 33
  rw [h.live.geo, if_pos (geoS_out D)] at hat
  have hop : openB q i.v = false := by
    unfold openB
    rw [h.tx]
    simp
  have hfe : fineE q i.v i.s 0 = 76 := by
    unfold fineE
    rw [hop, if_neg (by decide)]
  have hfv : fineV q i.v i.s 0 = i.v := by
    unfold fineV
    rw [hop]
    rfl
  have HO := Aside0.mk (And.intro hfe (And.intro hfv h))
  have htx := h.tx
  clear hfe hfv h hop S S1 S2 S3 S4 hgo
  go_enter Tryz.func29, Tryz.ntmps29
  go_wp2_with fail
  refine hat.mono ?_
  clear hat
  rintro _ w1 ⟨rfl, S⟩
  have hfi := fine_s S (by rw [htx]; exact oth_none w1 q) 0
  rw [HO.out.1, HO.out.2.1] at hfi
  clear S htx
  go_wp2_with fail
  refine hfi.mono ?_
  clear hfi
  rintro _ w2 ⟨rfl, S⟩
  have HS := Aside0.mk S
  clear S
  go_wp2_with fail
  go_ret2
  refine ⟨rfl, ?_⟩
  have S6 : Sep w0 w2 (jnL p d i ++ (TBlk q p t :: R)) := ((((HS.out.pull 2).pull 4).pull 4).pull 4)
  exact (Sep.closeE (f := fun t => TBlk q p t) t trivial (Sep.jnOf i HO.out.2.2 S6).swap)
set_option maxRecDepth 100000 in
set_option maxHeartbeats 8000000 in
theorem find_over (hB : Bds w0) (S : Sep w0 w (EndA q p :: JnA p d D n Bd :: R)) (h0 : 8 ≤ D) (h1 : D ≤ 4000) (i : Nat) (hi : i < D) :
    Calls Tryz.prog 49 #[.pointer (some ⟨q, 0, none⟩), .agg (layC D), .int .i64 (35 + (i : Int))] w fun e w' => e = .returned (.tuple #[.slice none 0 0, .int .i64 76]) ∧ Sep w0 w' (EndA q p :: JnA p d D n Bd :: R) := by
  have S0 := S.alloc (layC D) 29
  obtain ⟨p1, hp1⟩ : ∃ p1, p1 = w.heap.size := ⟨_, rfl⟩
  obtain ⟨W1, hW1⟩ : ∃ W1, W1 = w.alloc (.cells (layC D) 29) := ⟨_, rfl⟩
  rw [← hp1, ← hW1] at S0
  have hj := judge_s (bds_sep hB S0) (D : Int) (by omega) (by omega)
  go_enter Tryz.func49, Tryz.ntmps49
  go_upto_region 1 with fail
  rw [← hp1, ← hW1]
  clear hW1 hp1 S
  apply wp_region_lit
  refine wpList_wantRun (by rfl) _ _ (run_loadOp (t := 29) (x := .tmp 4) (g := p1) rfl rfl (run_layLoad S0)) ?_
  go_wp2_with fail
  refine hj.mono ?_
  clear hj
  rintro _ w2 ⟨rfl, hb2⟩
  have S1 := S0.calm hb2
  clear S0 hb2
  have c9 := S1.cell 9 (v := .int .i64 35) rfl
  have c10 := S1.cell 10 (v := .int .i64 (D : Int)) rfl
  have d1 : decide (35 + (i : Int) < 35) = false := decide_eq_false (by omega)
  have hw : IntKind.i64.wrap (35 + (D : Int)) = 35 + (D : Int) := by rw [IntKind.wrap_i64]; omega
  have d2 : decide (35 + (D : Int) ≤ 35 + (i : Int)) = false := decide_eq_false (by omega)
  have hat := at_b w2 (D : Int) i (by omega)
  have HS := Aside0.mk S1
  clear S1
  go_upto_region 6 with fail
  clear c9 c10 d1 d2 hw
  apply wp_region_lit
  refine wpList_wantRun (by rfl) _ _ (run_loadOp (t := 29) (x := .tmp 4) (g := p1) rfl rfl (run_layLoad HS.out)) ?_
  go_wp2_with fail
  refine hat.mono ?_
  clear hat
  rintro _ w3 ⟨rfl, hb3⟩
  have hrd := read_over (HS.out.calm hb3).drop
  clear hb3 HS
  go_wp2_with fail
  refine hrd.mono ?_
  clear hrd
  rintro _ w4 ⟨rfl, S⟩
  have HS := Aside0.mk S
  clear S
  go_wp2_with fail
  go_ret2
  exact ⟨rfl, HS.out⟩
set_option maxRecDepth 100000 in
set_option maxHeartbeats 8000000 in
theorem free_over (hB : Bds w0) (S : Sep w0 w (EndA q p :: JnA p d D n Bd :: R)) (h0 : 8 ≤ D) (h1 : D ≤ 4000) (i : Nat) (hi : i < D) :
    Calls Tryz.prog 14 #[.pointer (some ⟨q, 0, none⟩), .agg (layC D), .int .i64 (35 + (i : Int))] w fun e w' => e = .returned (.int .i64 76) ∧ Sep w0 w' (EndA q p :: JnA p d D n Bd :: R) := by
  have S0 := S.alloc (layC D) 29
  obtain ⟨p1, hp1⟩ : ∃ p1, p1 = w.heap.size := ⟨_, rfl⟩
  obtain ⟨W1, hW1⟩ : ∃ W1, W1 = w.alloc (.cells (layC D) 29) := ⟨_, rfl⟩
  rw [← hp1, ← hW1] at S0
  have hf := find_over hB S0.drop h0 h1 i hi
  go_enter Tryz.func14, Tryz.ntmps14
  go_upto_region 1 with fail
  rw [← hp1, ← hW1]
  clear hW1 hp1 S
  apply wp_region_lit
  iterate 3 go_step
  refine wpList_wantRun (by rfl) _ _ (run_loadOp (t := 29) (x := .tmp 4) (g := p1) rfl rfl (run_layLoad S0)) ?_
  go_wp2_with fail
  refine hf.mono ?_
  clear hf S0
  rintro _ w2 ⟨rfl, S⟩
  have HS := Aside0.mk S
  clear S
  go_wp2_with fail
  go_ret
  exact ⟨rfl, HS.out⟩
set_option maxRecDepth 100000 in
set_option maxHeartbeats 8000000 in
theorem has_over (hB : Bds w0) (S : Sep w0 w (EndA q p :: JnA p d D n Bd :: R)) (h0 : 8 ≤ D) (h1 : D ≤ 4000) (i : Nat) (hi : i < D) :
    Calls Tryz.prog 38 #[.pointer (some ⟨q, 0, none⟩), .agg (layC D), .int .i64 (35 + (i : Int))] w fun e w' => e = .returned (.tuple #[.bool false, .int .i64 76]) ∧ Sep w0 w' (EndA q p :: JnA p d D n Bd :: R) := by
  have S0 := S.alloc (layC D) 29
  obtain ⟨p1, hp1⟩ : ∃ p1, p1 = w.heap.size := ⟨_, rfl⟩
  obtain ⟨W1, hW1⟩ : ∃ W1, W1 = w.alloc (.cells (layC D) 29) := ⟨_, rfl⟩
  rw [← hp1, ← hW1] at S0
  have hf := find_over hB S0.drop h0 h1 i hi
  go_enter Tryz.func38, Tryz.ntmps38
  go_upto_region 1 with fail
  rw [← hp1, ← hW1]
  clear hW1 hp1 S
  apply wp_region_lit
  iterate 3 go_step
  refine wpList_wantRun (by rfl) _ _ (run_loadOp (t := 29) (x := .tmp 4) (g := p1) rfl rfl (run_layLoad S0)) ?_
  go_wp2_with fail
  refine hf.mono ?_
  clear hf S0
  rintro _ w2 ⟨rfl, S⟩
  have HS := Aside0.mk S
  clear S
  go_wp2_with fail
  go_ret2
  exact ⟨rfl, HS.out⟩
set_option maxRecDepth 100000 in
set_option maxHeartbeats 8000000 in
theorem alloc_over (hB : Bds w0) (S : Sep w0 w (EndA q p :: JnA p d D n Bd :: R)) (h0 : 8 ≤ D) (h1 : D ≤ 4000) :
    Calls Tryz.prog 12 #[.pointer (some ⟨q, 0, none⟩), .agg (layC D)] w fun e w' => e = .returned (.tuple #[.int .i64 0, .int .i64 76]) ∧ Sep w0 w' (EndA q p :: JnA p d D n Bd :: R) := by
  have S0 := S.alloc (layC D) 29
  obtain ⟨p1, hp1⟩ : ∃ p1, p1 = w.heap.size := ⟨_, rfl⟩
  obtain ⟨W1, hW1⟩ : ∃ W1, W1 = w.alloc (.cells (layC D) 29) := ⟨_, rfl⟩
  rw [← hp1, ← hW1] at S0
  have hj := judge_s (bds_sep hB S0) (D : Int) (by omega) (by omega)
  go_enter Tryz.func12, Tryz.ntmps12
  go_wp2_with fail
  go_step3
  rw [← hp1, ← hW1]
  go_upto_region 1 with fail
  clear hW1 hp1 S
  apply wp_region_lit
  refine wpList_wantRun (by rfl) _ _ (run_loadOp (t := 29) (x := .tmp 3) (g := p1) rfl rfl (run_layLoad S0)) ?_
  go_wp2_with fail
  refine hj.mono ?_
  clear hj
  rintro _ w2 ⟨rfl, hb2⟩
  have S1 := S0.calm hb2
  clear S0 hb2
  have e6 := S1.cell 6 (v := .int .i64 1) rfl
  have e5 := S1.cell 5 (v := .int .i64 33) rfl
  have hrd := read_over S1.drop
  have HS2 := Aside0.mk S1
  clear S1 h0
  go_wp2_with fail
  go_step3
  go_wp2_with fail
  go_loopw [7, 23] (fun fv kv wr => fv = .int .i64 0 ∧ kv = .int .i64 0 ∧ wr = w2) (fun _ _ _ => 0)
  case atStart => exact ⟨rfl, rfl, rfl⟩
  case round =>
    obtain ⟨rfl, rfl, rfl⟩ := hrel
    go_wp2_with fail
    refine hrd.mono ?_
    clear hrd HS2 e5
    rintro _ w4 ⟨rfl, S⟩
    have HS := Aside0.mk S
    clear S
    go_wp2_with fail
    rw [Exit.noGoto_ret]
    go_ret2
    exact ⟨rfl, HS.out⟩
set_option maxRecDepth 100000 in
set_option maxHeartbeats 8000000 in
theorem used_over (hB : Bds w0) (S : Sep w0 w (EndA q p :: JnA p d D n Bd :: R)) (h0 : 8 ≤ D) (h1 : D ≤ 4000) :
    Calls Tryz.prog 15 #[.pointer (some ⟨q, 0, none⟩), .agg (layC D)] w fun e w' => e = .returned (.tuple #[.int .i64 0, .int .i64 76]) ∧ Sep w0 w' (EndA q p :: JnA p d D n Bd :: R) := by
  have S0 := S.alloc (layC D) 29
  obtain ⟨p1, hp1⟩ : ∃ p1, p1 = w.heap.size := ⟨_, rfl⟩
  obtain ⟨W1, hW1⟩ : ∃ W1, W1 = w.alloc (.cells (layC D) 29) := ⟨_, rfl⟩
  rw [← hp1, ← hW1] at S0
  have hj := judge_s (bds_sep hB S0) (D : Int) (by omega) (by omega)
  go_enter Tryz.func15, Tryz.ntmps15
  go_upto_region 1 with fail
  rw [← hp1, ← hW1]
  clear hW1 hp1 S
  apply wp_region_lit
  refine wpList_wantRun (by rfl) _ _ (run_loadOp (t := 29) (x := .tmp 3) (g := p1) rfl rfl (run_layLoad S0)) ?_
  go_wp2_with fail
  refine hj.mono ?_
  clear hj
  rintro _ w2 ⟨rfl, hb2⟩
  have S1 := S0.calm hb2
  clear S0 hb2
  have c10 := S1.cell 10 (v := .int .i64 (D : Int)) rfl
  have HS := Aside0.mk S1
  clear S1
  go_upto_region 4 with fail
  go_quiet (fail)
  have HS2 := Aside0.mk (HS.out.drewN nq)
  have e6 : (w2.drewN nq).cell? ⟨p1, 6, none⟩ = some (.int .i64 1) := HS2.out.cell 6 rfl
  have e5 : (w2.drewN nq).cell? ⟨p1, 5, none⟩ = some (.int .i64 33) := HS2.out.cell 5 rfl
  obtain ⟨W3, hW3⟩ : ∃ W3, W3 = w2.drewN nq := ⟨_, rfl⟩
  rw [← hW3] at HS2 e6 e5 ⊢
  clear hW3 HS c10 w2
  have hrd := read_over HS2.out.drop
  clear h0
  go_wp2_with fail
  go_loopw [7, 8, 23] (fun nv l kv wr => kv = .int .i64 0 ∧ wr = W3) (fun _ _ _ _ => 0)
  case atStart => exact ⟨rfl, rfl⟩
  case round =>
    obtain ⟨rfl, rfl⟩ := hrel
    go_wp2_with fail
    refine hrd.mono ?_
    clear hrd HS2 e5
    rintro _ w4 ⟨rfl, S⟩
    have HS := Aside0.mk S
    clear S
    go_wp2_with fail
    go_ret2
    exact ⟨rfl, HS.out⟩
end
end Go.Proofs.YtlhlmjkocmahmaaGreatDoor.Sep
/- SpaceEnded: behind the end of the transaction. -/
namespace Go.Proofs.YtlhlmjkocmahmaaGreatDoor.Sep
open Go.Proofs.YtlhlmjkocmahmaaGreatDoor Go.Proofs Go.RowKit Go.ChangeMaps Go.Proofs.YtlhlmjkocmahmaaGreatDoorW.PrintWords Go.Proofs.YtlhlmjkocmahmaaGreatDoorW.PrintLast Go.Proofs.YtlhlmjkocmahmaaGreatDoorW.PrintMore Go.Proofs.YtlhlmjkocmahmaaGreatDoor.Dev Go.Proofs.YtlhlmjkocmahmaaGreatDoor.Errs Go.Proofs.YtlhlmjkocmahmaaGreatDoor.Jr Go.Proofs.YtlhlmjkocmahmaaGreatDoor.Help Go.Proofs.YtlhlmjkocmahmaaGreatDoor.IMap
set_option linter.unusedVariables false
set_option linter.unusedSimpArgs false
section
variable {w0 w w' : World} {R : List Asn} {sa : Addr}
set_option maxRecDepth 100000 in
set_option maxHeartbeats 8000000 in
theorem ended_s (hr : Rt w) (hsn : Sen sa w) (hB : Bds w) (x b : Int) (cm : Bool) :
    Calls Tryz.prog 7 #[.int .i64 x, .int .i64 b, .bool cm] w fun e w' => e = .returned (.bool true) ∧ Below w.heap.size w w' := by
  have hkn := known_s hr hsn hB (Sep.start w)
  go_enter Tryz.func7, Tryz.ntmps7
  go_wp2_with fail
  refine hkn.mono ?_
  clear hkn
  rintro _ w1 ⟨rfl, S⟩
  have HS := Aside0.mk S
  clear S
  by_cases hfit : 8 ≤ x ∧ x ≤ 500
  case neg =>
    have hft := fits8 x w1
    rw [decide_eq_false hfit] at hft
    go_wp2_with fail
    refine hft.mono ?_
    clear hft
    rintro _ _ ⟨rfl, rfl⟩
    go_wp2_with fail
    go_ret
    exact ⟨rfl, HS.out.bel⟩
  case pos =>
  have hft := fits8 x w1
  rw [decide_eq_true hfit] at hft
  obtain ⟨D, rfl⟩ : ∃ D : Nat, x = (D : Int) := ⟨x.toNat, by omega⟩
  have h0 : 8 ≤ D := by omega
  have h5 : D ≤ 500 := by omega
  have h1 : D ≤ 4000 := by omega
  clear hfit
  go_wp2_with fail
  refine hft.mono ?_
  clear hft
  rintro _ _ ⟨rfl, rfl⟩
  have hst := stood_s hr hsn hB HS.out h0 h1
  clear HS
  go_wp2_with fail
  refine hst.mono ?_
  clear hst
  rintro _ w2 ⟨wp, q, p, d, rfl, S⟩
  have c22 := S.cell 22 (v := .pointer (some ⟨q, 0, none⟩)) rfl
  have hcm := commit33 hr (S.pull 1) (by decide)
  have hdr := drop33 (S.pull 1)
  clear S
  go_upto_if 39 with fail
  go_cut [44] (fun _ wx => ∃ n, Sep w wx [Blk wp (worldC D q p d) 35, EndA q p, JnA p d D n zeros])
  case first =>
    cases cm with
    | true =>
      clear hdr
      go_wp2_with fail
      refine hcm.mono ?_
      clear hcm c22
      rintro _ w3 ⟨rfl, S⟩
      go_wp2_with fail
      go_meet
      case rel => exact ⟨2, S.pull 2⟩
    | false =>
      clear hcm
      go_wp2_with fail
      refine hdr.mono ?_
      clear hdr c22
      rintro _ w3 ⟨rfl, S⟩
      go_wp2_with fail
      go_meet
      case rel => exact ⟨1, S.pull 2⟩
  case rest =>
  clear hcm hdr c22
  obtain ⟨n, S⟩ := hcut
  have c9 := S.cell 9 (v := .int .i64 35) rfl
  have c10 := S.cell 10 (v := .int .i64 (D : Int)) rfl
  have hw : IntKind.i64.wrap (35 + (D : Int)) = 35 + (D : Int) := by rw [IntKind.wrap_i64]; omega
  have HS := Aside0.mk S
  clear S
  by_cases hb : b < 35 ∨ b ≥ 35 + (D : Int)
  · by_cases hlt : b < 35
    · have d1 : decide (b < 35) = true := decide_eq_true hlt
      clear hlt
      go_upto_region 12 with fail
      go_quiet (fail)
      have HS2 := Aside0.mk (HS.out.drewN nq)
      obtain ⟨W5, hW5⟩ : ∃ W5, W5 = wc.drewN nq := ⟨_, rfl⟩
      rw [← hW5] at HS2 ⊢
      clear hW5 HS c9 c10 hw
      have HS := HS2
      clear HS2
      go_upto_region 14 with fail
      refine wp_region_held_drew (S := fun X => X.rangeAt wp 0 (worldC D q p d).toList) (by kernel_rfl) (by simpa using HS.out.range) (fun hHeld => ?_)
      refine tk 0 (.pointer (some ⟨wp, 0, none⟩)) rfl (fun X hX => rfl) hHeld ?_
      simp only [List.getElem_toArray, List.getElem_cons_zero, List.getElem_cons_succ, Act.put, List.setIfInBounds_toArray, List.set_cons_zero, List.set_cons_succ]
      refine tk 1 (.pointer (some ⟨wp, 0, none⟩)) rfl (fun X hX => run_nilOp rfl rfl) hHeld ?_
      simp only [List.getElem_toArray, List.getElem_cons_zero, List.getElem_cons_succ, Act.put, List.setIfInBounds_toArray, List.set_cons_zero, List.set_cons_succ]
      refine tk 2 (.pointer (some ⟨wp, 22, none⟩)) rfl (fun X hX => run_fieldOp3 rfl rfl) hHeld ?_
      simp only [List.getElem_toArray, List.getElem_cons_zero, List.getElem_cons_succ, Act.put, List.setIfInBounds_toArray, List.set_cons_zero, List.set_cons_succ]
      refine tk 3 (.pointer (some ⟨q, 0, none⟩)) rfl (fun X hX => run_loadT rfl rfl hX) hHeld ?_
      simp only [List.getElem_toArray, List.getElem_cons_zero, List.getElem_cons_succ, Act.put, List.setIfInBounds_toArray, List.set_cons_zero, List.set_cons_succ]
      refine tk 4 (.pointer (some ⟨wp, 0, none⟩)) rfl (fun X hX => rfl) hHeld ?_
      simp only [List.getElem_toArray, List.getElem_cons_zero, List.getElem_cons_succ, Act.put, List.setIfInBounds_toArray, List.set_cons_zero, List.set_cons_succ]
      refine tk 5 (.pointer (some ⟨wp, 0, none⟩)) rfl (fun X hX => run_nilOp rfl rfl) hHeld ?_
      simp only [List.getElem_toArray, List.getElem_cons_zero, List.getElem_cons_succ, Act.put, List.setIfInBounds_toArray, List.set_cons_zero, List.set_cons_succ]
      refine tk 6 (.pointer (some ⟨wp, 0, none⟩)) rfl (fun X hX => run_fieldOp0 rfl rfl) hHeld ?_
      simp only [List.getElem_toArray, List.getElem_cons_zero, List.getElem_cons_succ, Act.put, List.setIfInBounds_toArray, List.set_cons_zero, List.set_cons_succ]
      refine tk 7 (.agg (layC D)) rfl (fun X hX => run_loadOp (t := 29) (x := .tmp 79) (g := wp) rfl rfl (run_layMid (range_lay hX))) hHeld ?_
      simp only [List.getElem_toArray, List.getElem_cons_zero, List.getElem_cons_succ, Act.put, List.setIfInBounds_toArray, List.set_cons_zero, List.set_cons_succ]
      refine wpAnyH_ready (rs := [8]) (by kernel_rfl) (by simp) ?_
      refine AllReadyH.cons rfl (fun K hK => ?_) AllReadyH.nil
      refine call_step Tryz.func12 (by kernel_rfl) (by rfl) #[.tmp 76, .tmp 80] #[32, 29] rfl rfl #[.pointer (some ⟨q, 0, none⟩), .agg (layC D)] (by simp [Act.eval]) ?_
      refine (alloc_over hB ((HS.out.drew.pull 2).pull 2) h0 h1).mono ?_
      rintro e w5 ⟨rfl, S⟩
      have S := S.pull 2
      clear HS
      refine ⟨_, rfl, hK.out _ _ S.range (fun hHeld => ?_)⟩
      clear hK K
      simp only [List.getElem_toArray, List.getElem_cons_zero, List.getElem_cons_succ, Act.put, List.setIfInBounds_toArray, List.set_cons_zero, List.set_cons_succ]
      refine tk 9 (.tuple #[.int .i64 0, .int .i64 76]) rfl (fun X hX => rfl) hHeld ?_
      simp only [List.getElem_toArray, List.getElem_cons_zero, List.getElem_cons_succ, Act.put, List.setIfInBounds_toArray, List.set_cons_zero, List.set_cons_succ]
      refine tk 10 (.int .i64 0) rfl (fun X hX => rfl) hHeld ?_
      simp only [List.getElem_toArray, List.getElem_cons_zero, List.getElem_cons_succ, Act.put, List.setIfInBounds_toArray, List.set_cons_zero, List.set_cons_succ]
      refine tk 11 (.int .i64 76) rfl (fun X hX => rfl) hHeld ?_
      simp only [List.getElem_toArray, List.getElem_cons_zero, List.getElem_cons_succ, Act.put, List.setIfInBounds_toArray, List.set_cons_zero, List.set_cons_succ]
      refine tk 12 (.int .i64 0) rfl (fun X hX => rfl) hHeld ?_
      simp only [List.getElem_toArray, List.getElem_cons_zero, List.getElem_cons_succ, Act.put, List.setIfInBounds_toArray, List.set_cons_zero, List.set_cons_succ]
      refine tk 13 (.int .i64 76) rfl (fun X hX => rfl) hHeld ?_
      simp only [List.getElem_toArray, List.getElem_cons_zero, List.getElem_cons_succ, Act.put, List.setIfInBounds_toArray, List.set_cons_zero, List.set_cons_succ]
      refine wpAnyH_done (by kernel_rfl) ?_ _
      clear hHeld
      have HS := Aside0.mk S
      clear S
      go_upto_region 15 with fail
      refine wp_region_held_drew (S := fun X => X.rangeAt wp 0 (worldC D q p d).toList) (by kernel_rfl) (by simpa using HS.out.range) (fun hHeld => ?_)
      refine tk 0 (.pointer (some ⟨wp, 0, none⟩)) rfl (fun X hX => rfl) hHeld ?_
      simp only [List.getElem_toArray, List.getElem_cons_zero, List.getElem_cons_succ, Act.put, List.setIfInBounds_toArray, List.set_cons_zero, List.set_cons_succ]
      refine tk 1 (.pointer (some ⟨wp, 0, none⟩)) rfl (fun X hX => run_nilOp rfl rfl) hHeld ?_
      simp only [List.getElem_toArray, List.getElem_cons_zero, List.getElem_cons_succ, Act.put, List.setIfInBounds_toArray, List.set_cons_zero, List.set_cons_succ]
      refine tk 2 (.pointer (some ⟨wp, 22, none⟩)) rfl (fun X hX => run_fieldOp3 rfl rfl) hHeld ?_
      simp only [List.getElem_toArray, List.getElem_cons_zero, List.getElem_cons_succ, Act.put, List.setIfInBounds_toArray, List.set_cons_zero, List.set_cons_succ]
      refine tk 3 (.pointer (some ⟨q, 0, none⟩)) rfl (fun X hX => run_loadT rfl rfl hX) hHeld ?_
      simp only [List.getElem_toArray, List.getElem_cons_zero, List.getElem_cons_succ, Act.put, List.setIfInBounds_toArray, List.set_cons_zero, List.set_cons_succ]
      refine tk 4 (.pointer (some ⟨wp, 0, none⟩)) rfl (fun X hX => rfl) hHeld ?_
      simp only [List.getElem_toArray, List.getElem_cons_zero, List.getElem_cons_succ, Act.put, List.setIfInBounds_toArray, List.set_cons_zero, List.set_cons_succ]
      refine tk 5 (.pointer (some ⟨wp, 0, none⟩)) rfl (fun X hX => run_nilOp rfl rfl) hHeld ?_
      simp only [List.getElem_toArray, List.getElem_cons_zero, List.getElem_cons_succ, Act.put, List.setIfInBounds_toArray, List.set_cons_zero, List.set_cons_succ]
      refine tk 6 (.pointer (some ⟨wp, 0, none⟩)) rfl (fun X hX => run_fieldOp0 rfl rfl) hHeld ?_
      simp only [List.getElem_toArray, List.getElem_cons_zero, List.getElem_cons_succ, Act.put, List.setIfInBounds_toArray, List.set_cons_zero, List.set_cons_succ]
      refine tk 7 (.agg (layC D)) rfl (fun X hX => run_loadOp (t := 29) (x := .tmp 90) (g := wp) rfl rfl (run_layMid (range_lay hX))) hHeld ?_
      simp only [List.getElem_toArray, List.getElem_cons_zero, List.getElem_cons_succ, Act.put, List.setIfInBounds_toArray, List.set_cons_zero, List.set_cons_succ]
      refine tk 8 (.int .i64 b) rfl (fun X hX => rfl) hHeld ?_
      simp only [List.getElem_toArray, List.getElem_cons_zero, List.getElem_cons_succ, Act.put, List.setIfInBounds_toArray, List.set_cons_zero, List.set_cons_succ]
      refine wpAnyH_ready (rs := [9]) (by kernel_rfl) (by simp) ?_
      refine AllReadyH.cons rfl (fun K hK => ?_) AllReadyH.nil
      refine call_step Tryz.func14 (by kernel_rfl) (by rfl) #[.tmp 87, .tmp 91, .tmp 92] #[32, 29, 3] rfl rfl #[.pointer (some ⟨q, 0, none⟩), .agg (layC D), .int .i64 b] (by simp [Act.eval]) ?_
      refine (free_nodata (q := q) hB HS.out.drew h0 h1 b hb).mono ?_
      rintro e w6 ⟨rfl, S⟩
      clear HS
      refine ⟨_, rfl, hK.out _ _ S.range (fun hHeld => ?_)⟩
      clear hK K
      simp only [List.getElem_toArray, List.getElem_cons_zero, List.getElem_cons_succ, Act.put, List.setIfInBounds_toArray, List.set_cons_zero, List.set_cons_succ]
      refine tk 10 (.int .i64 82) rfl (fun X hX => rfl) hHeld ?_
      simp only [List.getElem_toArray, List.getElem_cons_zero, List.getElem_cons_succ, Act.put, List.setIfInBounds_toArray, List.set_cons_zero, List.set_cons_succ]
      refine wpAnyH_done (by kernel_rfl) ?_ _
      clear hHeld
      have HS := Aside0.mk S
      clear S
      go_upto_region 16 with fail
      refine wp_region_held_drew (S := fun X => X.rangeAt wp 0 (worldC D q p d).toList) (by kernel_rfl) (by simpa using HS.out.range) (fun hHeld => ?_)
      refine tk 0 (.pointer (some ⟨wp, 0, none⟩)) rfl (fun X hX => rfl) hHeld ?_
      simp only [List.getElem_toArray, List.getElem_cons_zero, List.getElem_cons_succ, Act.put, List.setIfInBounds_toArray, List.set_cons_zero, List.set_cons_succ]
      refine tk 1 (.pointer (some ⟨wp, 0, none⟩)) rfl (fun X hX => run_nilOp rfl rfl) hHeld ?_
      simp only [List.getElem_toArray, List.getElem_cons_zero, List.getElem_cons_succ, Act.put, List.setIfInBounds_toArray, List.set_cons_zero, List.set_cons_succ]
      refine tk 2 (.pointer (some ⟨wp, 22, none⟩)) rfl (fun X hX => run_fieldOp3 rfl rfl) hHeld ?_
      simp only [List.getElem_toArray, List.getElem_cons_zero, List.getElem_cons_succ, Act.put, List.setIfInBounds_toArray, List.set_cons_zero, List.set_cons_succ]
      refine tk 3 (.pointer (some ⟨q, 0, none⟩)) rfl (fun X hX => run_loadT rfl rfl hX) hHeld ?_
      simp only [List.getElem_toArray, List.getElem_cons_zero, List.getElem_cons_succ, Act.put, List.setIfInBounds_toArray, List.set_cons_zero, List.set_cons_succ]
      refine tk 4 (.pointer (some ⟨wp, 0, none⟩)) rfl (fun X hX => rfl) hHeld ?_
      simp only [List.getElem_toArray, List.getElem_cons_zero, List.getElem_cons_succ, Act.put, List.setIfInBounds_toArray, List.set_cons_zero, List.set_cons_succ]
      refine tk 5 (.pointer (some ⟨wp, 0, none⟩)) rfl (fun X hX => run_nilOp rfl rfl) hHeld ?_
      simp only [List.getElem_toArray, List.getElem_cons_zero, List.getElem_cons_succ, Act.put, List.setIfInBounds_toArray, List.set_cons_zero, List.set_cons_succ]
      refine tk 6 (.pointer (some ⟨wp, 0, none⟩)) rfl (fun X hX => run_fieldOp0 rfl rfl) hHeld ?_
      simp only [List.getElem_toArray, List.getElem_cons_zero, List.getElem_cons_succ, Act.put, List.setIfInBounds_toArray, List.set_cons_zero, List.set_cons_succ]
      refine tk 7 (.agg (layC D)) rfl (fun X hX => run_loadOp (t := 29) (x := .tmp 101) (g := wp) rfl rfl (run_layMid (range_lay hX))) hHeld ?_
      simp only [List.getElem_toArray, List.getElem_cons_zero, List.getElem_cons_succ, Act.put, List.setIfInBounds_toArray, List.set_cons_zero, List.set_cons_succ]
      refine tk 8 (.int .i64 b) rfl (fun X hX => rfl) hHeld ?_
      simp only [List.getElem_toArray, List.getElem_cons_zero, List.getElem_cons_succ, Act.put, List.setIfInBounds_toArray, List.set_cons_zero, List.set_cons_succ]
      refine wpAnyH_ready (rs := [9]) (by kernel_rfl) (by simp) ?_
      refine AllReadyH.cons rfl (fun K hK => ?_) AllReadyH.nil
      refine call_step Tryz.func38 (by kernel_rfl) (by rfl) #[.tmp 98, .tmp 102, .tmp 103] #[32, 29, 3] rfl rfl #[.pointer (some ⟨q, 0, none⟩), .agg (layC D), .int .i64 b] (by simp [Act.eval]) ?_
      refine (has_nodata (q := q) hB HS.out.drew h0 h1 b hb).mono ?_
      rintro e w7 ⟨rfl, S⟩
      clear HS
      refine ⟨_, rfl, hK.out _ _ S.range (fun hHeld => ?_)⟩
      clear hK K
      simp only [List.getElem_toArray, List.getElem_cons_zero, List.getElem_cons_succ, Act.put, List.setIfInBounds_toArray, List.set_cons_zero, List.set_cons_succ]
      refine tk 10 (.tuple #[.bool false, .int .i64 82]) rfl (fun X hX => rfl) hHeld ?_
      simp only [List.getElem_toArray, List.getElem_cons_zero, List.getElem_cons_succ, Act.put, List.setIfInBounds_toArray, List.set_cons_zero, List.set_cons_succ]
      refine tk 11 (.bool false) rfl (fun X hX => rfl) hHeld ?_
      simp only [List.getElem_toArray, List.getElem_cons_zero, List.getElem_cons_succ, Act.put, List.setIfInBounds_toArray, List.set_cons_zero, List.set_cons_succ]
      refine tk 12 (.int .i64 82) rfl (fun X hX => rfl) hHeld ?_
      simp only [List.getElem_toArray, List.getElem_cons_zero, List.getElem_cons_succ, Act.put, List.setIfInBounds_toArray, List.set_cons_zero, List.set_cons_succ]
      refine tk 13 (.bool false) rfl (fun X hX => rfl) hHeld ?_
      simp only [List.getElem_toArray, List.getElem_cons_zero, List.getElem_cons_succ, Act.put, List.setIfInBounds_toArray, List.set_cons_zero, List.set_cons_succ]
      refine tk 14 (.int .i64 82) rfl (fun X hX => rfl) hHeld ?_
      simp only [List.getElem_toArray, List.getElem_cons_zero, List.getElem_cons_succ, Act.put, List.setIfInBounds_toArray, List.set_cons_zero, List.set_cons_succ]
      refine wpAnyH_done (by kernel_rfl) ?_ _
      clear hHeld
      have HS := Aside0.mk S
      clear S
      go_upto_region 17 with fail
      refine wp_region_held_drew (S := fun X => X.rangeAt wp 0 (worldC D q p d).toList) (by kernel_rfl) (by simpa using HS.out.range) (fun hHeld => ?_)
      refine tk 0 (.pointer (some ⟨wp, 0, none⟩)) rfl (fun X hX => rfl) hHeld ?_
      simp only [List.getElem_toArray, List.getElem_cons_zero, List.getElem_cons_succ, Act.put, List.setIfInBounds_toArray, List.set_cons_zero, List.set_cons_succ]
      refine tk 1 (.pointer (some ⟨wp, 0, none⟩)) rfl (fun X hX => run_nilOp rfl rfl) hHeld ?_
      simp only [List.getElem_toArray, List.getElem_cons_zero, List.getElem_cons_succ, Act.put, List.setIfInBounds_toArray, List.set_cons_zero, List.set_cons_succ]
      refine tk 2 (.pointer (some ⟨wp, 22, none⟩)) rfl (fun X hX => run_fieldOp3 rfl rfl) hHeld ?_
      simp only [List.getElem_toArray, List.getElem_cons_zero, List.getElem_cons_succ, Act.put, List.setIfInBounds_toArray, List.set_cons_zero, List.set_cons_succ]
      refine tk 3 (.pointer (some ⟨q, 0, none⟩)) rfl (fun X hX => run_loadT rfl rfl hX) hHeld ?_
      simp only [List.getElem_toArray, List.getElem_cons_zero, List.getElem_cons_succ, Act.put, List.setIfInBounds_toArray, List.set_cons_zero, List.set_cons_succ]
      refine tk 4 (.pointer (some ⟨wp, 0, none⟩)) rfl (fun X hX => rfl) hHeld ?_
      simp only [List.getElem_toArray, List.getElem_cons_zero, List.getElem_cons_succ, Act.put, List.setIfInBounds_toArray, List.set_cons_zero, List.set_cons_succ]
      refine tk 5 (.pointer (some ⟨wp, 0, none⟩)) rfl (fun X hX => run_nilOp rfl rfl) hHeld ?_
      simp only [List.getElem_toArray, List.getElem_cons_zero, List.getElem_cons_succ, Act.put, List.setIfInBounds_toArray, List.set_cons_zero, List.set_cons_succ]
      refine tk 6 (.pointer (some ⟨wp, 0, none⟩)) rfl (fun X hX => run_fieldOp0 rfl rfl) hHeld ?_
      simp only [List.getElem_toArray, List.getElem_cons_zero, List.getElem_cons_succ, Act.put, List.setIfInBounds_toArray, List.set_cons_zero, List.set_cons_succ]
      refine tk 7 (.agg (layC D)) rfl (fun X hX => run_loadOp (t := 29) (x := .tmp 114) (g := wp) rfl rfl (run_layMid (range_lay hX))) hHeld ?_
      simp only [List.getElem_toArray, List.getElem_cons_zero, List.getElem_cons_succ, Act.put, List.setIfInBounds_toArray, List.set_cons_zero, List.set_cons_succ]
      refine wpAnyH_ready (rs := [8]) (by kernel_rfl) (by simp) ?_
      refine AllReadyH.cons rfl (fun K hK => ?_) AllReadyH.nil
      refine call_step Tryz.func15 (by kernel_rfl) (by rfl) #[.tmp 111, .tmp 115] #[32, 29] rfl rfl #[.pointer (some ⟨q, 0, none⟩), .agg (layC D)] (by simp [Act.eval]) ?_
      refine (used_over hB ((HS.out.drew.pull 2).pull 2) h0 h1).mono ?_
      rintro e w8 ⟨rfl, S⟩
      have S := S.pull 2
      clear HS
      refine ⟨_, rfl, hK.out _ _ S.range (fun hHeld => ?_)⟩
      clear hK K
      simp only [List.getElem_toArray, List.getElem_cons_zero, List.getElem_cons_succ, Act.put, List.setIfInBounds_toArray, List.set_cons_zero, List.set_cons_succ]
      refine tk 9 (.tuple #[.int .i64 0, .int .i64 76]) rfl (fun X hX => rfl) hHeld ?_
      simp only [List.getElem_toArray, List.getElem_cons_zero, List.getElem_cons_succ, Act.put, List.setIfInBounds_toArray, List.set_cons_zero, List.set_cons_succ]
      refine tk 10 (.int .i64 0) rfl (fun X hX => rfl) hHeld ?_
      simp only [List.getElem_toArray, List.getElem_cons_zero, List.getElem_cons_succ, Act.put, List.setIfInBounds_toArray, List.set_cons_zero, List.set_cons_succ]
      refine tk 11 (.int .i64 76) rfl (fun X hX => rfl) hHeld ?_
      simp only [List.getElem_toArray, List.getElem_cons_zero, List.getElem_cons_succ, Act.put, List.setIfInBounds_toArray, List.set_cons_zero, List.set_cons_succ]
      refine tk 12 (.int .i64 0) rfl (fun X hX => rfl) hHeld ?_
      simp only [List.getElem_toArray, List.getElem_cons_zero, List.getElem_cons_succ, Act.put, List.setIfInBounds_toArray, List.set_cons_zero, List.set_cons_succ]
      refine tk 13 (.int .i64 76) rfl (fun X hX => rfl) hHeld ?_
      simp only [List.getElem_toArray, List.getElem_cons_zero, List.getElem_cons_succ, Act.put, List.setIfInBounds_toArray, List.set_cons_zero, List.set_cons_succ]
      refine wpAnyH_done (by kernel_rfl) ?_ _
      clear hHeld
      have HS := Aside0.mk S
      clear S
      go_wp2_with (first | (go_at_call 13; refine (num8 _ _).mono ?_; rintro _ _ ⟨rfl, rfl⟩))
      go_ret
      exact ⟨rfl, HS.out.bel⟩
    · have d1 : decide (b < 35) = false := decide_eq_false hlt
      have d2 : decide (35 + (D : Int) ≤ b) = true := decide_eq_true (by omega)
      clear hlt
      go_upto_region 12 with fail
      go_quiet (fail)
      have HS2 := Aside0.mk (HS.out.drewN nq)
      obtain ⟨W5, hW5⟩ : ∃ W5, W5 = wc.drewN nq := ⟨_, rfl⟩
      rw [← hW5] at HS2 ⊢
      clear hW5 HS c9 c10 hw
      have HS := HS2
      clear HS2
      go_upto_region 14 with fail
      refine wp_region_held_drew (S := fun X => X.rangeAt wp 0 (worldC D q p d).toList) (by kernel_rfl) (by simpa using HS.out.range) (fun hHeld => ?_)
      refine tk 0 (.pointer (some ⟨wp, 0, none⟩)) rfl (fun X hX => rfl) hHeld ?_
      simp only [List.getElem_toArray, List.getElem_cons_zero, List.getElem_cons_succ, Act.put, List.setIfInBounds_toArray, List.set_cons_zero, List.set_cons_succ]
      refine tk 1 (.pointer (some ⟨wp, 0, none⟩)) rfl (fun X hX => run_nilOp rfl rfl) hHeld ?_
      simp only [List.getElem_toArray, List.getElem_cons_zero, List.getElem_cons_succ, Act.put, List.setIfInBounds_toArray, List.set_cons_zero, List.set_cons_succ]
      refine tk 2 (.pointer (some ⟨wp, 22, none⟩)) rfl (fun X hX => run_fieldOp3 rfl rfl) hHeld ?_
      simp only [List.getElem_toArray, List.getElem_cons_zero, List.getElem_cons_succ, Act.put, List.setIfInBounds_toArray, List.set_cons_zero, List.set_cons_succ]
      refine tk 3 (.pointer (some ⟨q, 0, none⟩)) rfl (fun X hX => run_loadT rfl rfl hX) hHeld ?_
      simp only [List.getElem_toArray, List.getElem_cons_zero, List.getElem_cons_succ, Act.put, List.setIfInBounds_toArray, List.set_cons_zero, List.set_cons_succ]
      refine tk 4 (.pointer (some ⟨wp, 0, none⟩)) rfl (fun X hX => rfl) hHeld ?_
      simp only [List.getElem_toArray, List.getElem_cons_zero, List.getElem_cons_succ, Act.put, List.setIfInBounds_toArray, List.set_cons_zero, List.set_cons_succ]
      refine tk 5 (.pointer (some ⟨wp, 0, none⟩)) rfl (fun X hX => run_nilOp rfl rfl) hHeld ?_
      simp only [List.getElem_toArray, List.getElem_cons_zero, List.getElem_cons_succ, Act.put, List.setIfInBounds_toArray, List.set_cons_zero, List.set_cons_succ]
      refine tk 6 (.pointer (some ⟨wp, 0, none⟩)) rfl (fun X hX => run_fieldOp0 rfl rfl) hHeld ?_
      simp only [List.getElem_toArray, List.getElem_cons_zero, List.getElem_cons_succ, Act.put, List.setIfInBounds_toArray, List.set_cons_zero, List.set_cons_succ]
      refine tk 7 (.agg (layC D)) rfl (fun X hX => run_loadOp (t := 29) (x := .tmp 79) (g := wp) rfl rfl (run_layMid (range_lay hX))) hHeld ?_
      simp only [List.getElem_toArray, List.getElem_cons_zero, List.getElem_cons_succ, Act.put, List.setIfInBounds_toArray, List.set_cons_zero, List.set_cons_succ]
      refine wpAnyH_ready (rs := [8]) (by kernel_rfl) (by simp) ?_
      refine AllReadyH.cons rfl (fun K hK => ?_) AllReadyH.nil
      refine call_step Tryz.func12 (by kernel_rfl) (by rfl) #[.tmp 76, .tmp 80] #[32, 29] rfl rfl #[.pointer (some ⟨q, 0, none⟩), .agg (layC D)] (by simp [Act.eval]) ?_
      refine (alloc_over hB ((HS.out.drew.pull 2).pull 2) h0 h1).mono ?_
      rintro e w5 ⟨rfl, S⟩
      have S := S.pull 2
      clear HS
      refine ⟨_, rfl, hK.out _ _ S.range (fun hHeld => ?_)⟩
      clear hK K
      simp only [List.getElem_toArray, List.getElem_cons_zero, List.getElem_cons_succ, Act.put, List.setIfInBounds_toArray, List.set_cons_zero, List.set_cons_succ]
      refine tk 9 (.tuple #[.int .i64 0, .int .i64 76]) rfl (fun X hX => rfl) hHeld ?_
      simp only [List.getElem_toArray, List.getElem_cons_zero, List.getElem_cons_succ, Act.put, List.setIfInBounds_toArray, List.set_cons_zero, List.set_cons_succ]
      refine tk 10 (.int .i64 0) rfl (fun X hX => rfl) hHeld ?_
      simp only [List.getElem_toArray, List.getElem_cons_zero, List.getElem_cons_succ, Act.put, List.setIfInBounds_toArray, List.set_cons_zero, List.set_cons_succ]
      refine tk 11 (.int .i64 76) rfl (fun X hX => rfl) hHeld ?_
      simp only [List.getElem_toArray, List.getElem_cons_zero, List.getElem_cons_succ, Act.put, List.setIfInBounds_toArray, List.set_cons_zero, List.set_cons_succ]
      refine tk 12 (.int .i64 0) rfl (fun X hX => rfl) hHeld ?_
      simp only [List.getElem_toArray, List.getElem_cons_zero, List.getElem_cons_succ, Act.put, List.setIfInBounds_toArray, List.set_cons_zero, List.set_cons_succ]
      refine tk 13 (.int .i64 76) rfl (fun X hX => rfl) hHeld ?_
      simp only [List.getElem_toArray, List.getElem_cons_zero, List.getElem_cons_succ, Act.put, List.setIfInBounds_toArray, List.set_cons_zero, List.set_cons_succ]
      refine wpAnyH_done (by kernel_rfl) ?_ _
      clear hHeld
      have HS := Aside0.mk S
      clear S
      go_upto_region 15 with fail
      refine wp_region_held_drew (S := fun X => X.rangeAt wp 0 (worldC D q p d).toList) (by kernel_rfl) (by simpa using HS.out.range) (fun hHeld => ?_)
      refine tk 0 (.pointer (some ⟨wp, 0, none⟩)) rfl (fun X hX => rfl) hHeld ?_
      simp only [List.getElem_toArray, List.getElem_cons_zero, List.getElem_cons_succ, Act.put, List.setIfInBounds_toArray, List.set_cons_zero, List.set_cons_succ]
      refine tk 1 (.pointer (some ⟨wp, 0, none⟩)) rfl (fun X hX => run_nilOp rfl rfl) hHeld ?_
      simp only [List.getElem_toArray, List.getElem_cons_zero, List.getElem_cons_succ, Act.put, List.setIfInBounds_toArray, List.set_cons_zero, List.set_cons_succ]
      refine tk 2 (.pointer (some ⟨wp, 22, none⟩)) rfl (fun X hX => run_fieldOp3 rfl rfl) hHeld ?_
      simp only [List.getElem_toArray, List.getElem_cons_zero, List.getElem_cons_succ, Act.put, List.setIfInBounds_toArray, List.set_cons_zero, List.set_cons_succ]
      refine tk 3 (.pointer (some ⟨q, 0, none⟩)) rfl (fun X hX => run_loadT rfl rfl hX) hHeld ?_
      simp only [List.getElem_toArray, List.getElem_cons_zero, List.getElem_cons_succ, Act.put, List.setIfInBounds_toArray, List.set_cons_zero, List.set_cons_succ]
      refine tk 4 (.pointer (some ⟨wp, 0, none⟩)) rfl (fun X hX => rfl) hHeld ?_
      simp only [List.getElem_toArray, List.getElem_cons_zero, List.getElem_cons_succ, Act.put, List.setIfInBounds_toArray, List.set_cons_zero, List.set_cons_succ]
      refine tk 5 (.pointer (some ⟨wp, 0, none⟩)) rfl (fun X hX => run_nilOp rfl rfl) hHeld ?_
      simp only [List.getElem_toArray, List.getElem_cons_zero, List.getElem_cons_succ, Act.put, List.setIfInBounds_toArray, List.set_cons_zero, List.set_cons_succ]
      refine tk 6 (.pointer (some ⟨wp, 0, none⟩)) rfl (fun X hX => run_fieldOp0 rfl rfl) hHeld ?_
      simp only [List.getElem_toArray, List.getElem_cons_zero, List.getElem_cons_succ, Act.put, List.setIfInBounds_toArray, List.set_cons_zero, List.set_cons_succ]
      refine tk 7 (.agg (layC D)) rfl (fun X hX => run_loadOp (t := 29) (x := .tmp 90) (g := wp) rfl rfl (run_layMid (range_lay hX))) hHeld ?_
      simp only [List.getElem_toArray, List.getElem_cons_zero, List.getElem_cons_succ, Act.put, List.setIfInBounds_toArray, List.set_cons_zero, List.set_cons_succ]
      refine tk 8 (.int .i64 b) rfl (fun X hX => rfl) hHeld ?_
      simp only [List.getElem_toArray, List.getElem_cons_zero, List.getElem_cons_succ, Act.put, List.setIfInBounds_toArray, List.set_cons_zero, List.set_cons_succ]
      refine wpAnyH_ready (rs := [9]) (by kernel_rfl) (by simp) ?_
      refine AllReadyH.cons rfl (fun K hK => ?_) AllReadyH.nil
      refine call_step Tryz.func14 (by kernel_rfl) (by rfl) #[.tmp 87, .tmp 91, .tmp 92] #[32, 29, 3] rfl rfl #[.pointer (some ⟨q, 0, none⟩), .agg (layC D), .int .i64 b] (by simp [Act.eval]) ?_
      refine (free_nodata (q := q) hB HS.out.drew h0 h1 b hb).mono ?_
      rintro e w6 ⟨rfl, S⟩
      clear HS
      refine ⟨_, rfl, hK.out _ _ S.range (fun hHeld => ?_)⟩
      clear hK K
      simp only [List.getElem_toArray, List.getElem_cons_zero, List.getElem_cons_succ, Act.put, List.setIfInBounds_toArray, List.set_cons_zero, List.set_cons_succ]
      refine tk 10 (.int .i64 82) rfl (fun X hX => rfl) hHeld ?_
      simp only [List.getElem_toArray, List.getElem_cons_zero, List.getElem_cons_succ, Act.put, List.setIfInBounds_toArray, List.set_cons_zero, List.set_cons_succ]
      refine wpAnyH_done (by kernel_rfl) ?_ _
      clear hHeld
      have HS := Aside0.mk S
      clear S
      go_upto_region 16 with fail
      refine wp_region_held_drew (S := fun X => X.rangeAt wp 0 (worldC D q p d).toList) (by kernel_rfl) (by simpa using HS.out.range) (fun hHeld => ?_)
      refine tk 0 (.pointer (some ⟨wp, 0, none⟩)) rfl (fun X hX => rfl) hHeld ?_
      simp only [List.getElem_toArray, List.getElem_cons_zero, List.getElem_cons_succ, Act.put, List.setIfInBounds_toArray, List.set_cons_zero, List.set_cons_succ]
      refine tk 1 (.pointer (some ⟨wp, 0, none⟩)) rfl (fun X hX => run_nilOp rfl rfl) hHeld ?_
      simp only [List.getElem_toArray, List.getElem_cons_zero, List.getElem_cons_succ, Act.put, List.setIfInBounds_toArray, List.set_cons_zero, List.set_cons_succ]
      refine tk 2 (.pointer (some ⟨wp, 22, none⟩)) rfl (fun X hX => run_fieldOp3 rfl rfl) hHeld ?_
      simp only [List.getElem_toArray, List.getElem_cons_zero, List.getElem_cons_succ, Act.put, List.setIfInBounds_toArray, List.set_cons_zero, List.set_cons_succ]
      refine tk 3 (.pointer (some ⟨q, 0, none⟩)) rfl (fun X hX => run_loadT rfl rfl hX) hHeld ?_
      simp only [List.getElem_toArray, List.getElem_cons_zero, List.getElem_cons_succ, Act.put, List.setIfInBounds_toArray, List.set_cons_zero, List.set_cons_succ]
      refine tk 4 (.pointer (some ⟨wp, 0, none⟩)) rfl (fun X hX => rfl) hHeld ?_
      simp only [List.getElem_toArray, List.getElem_cons_zero, List.getElem_cons_succ, Act.put, List.setIfInBounds_toArray, List.set_cons_zero, List.set_cons_succ]
      refine tk 5 (.pointer (some ⟨wp, 0, none⟩)) rfl (fun X hX => run_nilOp rfl rfl) hHeld ?_
      simp only [List.getElem_toArray, List.getElem_cons_zero, List.getElem_cons_succ, Act.put, List.setIfInBounds_toArray, List.set_cons_zero, List.set_cons_succ]
      refine tk 6 (.pointer (some ⟨wp, 0, none⟩)) rfl (fun X hX => run_fieldOp0 rfl rfl) hHeld ?_
      simp only [List.getElem_toArray, List.getElem_cons_zero, List.getElem_cons_succ, Act.put, List.setIfInBounds_toArray, List.set_cons_zero, List.set_cons_succ]
      refine tk 7 (.agg (layC D)) rfl (fun X hX => run_loadOp (t := 29) (x := .tmp 101) (g := wp) rfl rfl (run_layMid (range_lay hX))) hHeld ?_
      simp only [List.getElem_toArray, List.getElem_cons_zero, List.getElem_cons_succ, Act.put, List.setIfInBounds_toArray, List.set_cons_zero, List.set_cons_succ]
      refine tk 8 (.int .i64 b) rfl (fun X hX => rfl) hHeld ?_
      simp only [List.getElem_toArray, List.getElem_cons_zero, List.getElem_cons_succ, Act.put, List.setIfInBounds_toArray, List.set_cons_zero, List.set_cons_succ]
      refine wpAnyH_ready (rs := [9]) (by kernel_rfl) (by simp) ?_
      refine AllReadyH.cons rfl (fun K hK => ?_) AllReadyH.nil
      refine call_step Tryz.func38 (by kernel_rfl) (by rfl) #[.tmp 98, .tmp 102, .tmp 103] #[32, 29, 3] rfl rfl #[.pointer (some ⟨q, 0, none⟩), .agg (layC D), .int .i64 b] (by simp [Act.eval]) ?_
      refine (has_nodata (q := q) hB HS.out.drew h0 h1 b hb).mono ?_
      rintro e w7 ⟨rfl, S⟩
      clear HS
      refine ⟨_, rfl, hK.out _ _ S.range (fun hHeld => ?_)⟩
      clear hK K
      simp only [List.getElem_toArray, List.getElem_cons_zero, List.getElem_cons_succ, Act.put, List.setIfInBounds_toArray, List.set_cons_zero, List.set_cons_succ]
      refine tk 10 (.tuple #[.bool false, .int .i64 82]) rfl (fun X hX => rfl) hHeld ?_
      simp only [List.getElem_toArray, List.getElem_cons_zero, List.getElem_cons_succ, Act.put, List.setIfInBounds_toArray, List.set_cons_zero, List.set_cons_succ]
      refine tk 11 (.bool false) rfl (fun X hX => rfl) hHeld ?_
      simp only [List.getElem_toArray, List.getElem_cons_zero, List.getElem_cons_succ, Act.put, List.setIfInBounds_toArray, List.set_cons_zero, List.set_cons_succ]
      refine tk 12 (.int .i64 82) rfl (fun X hX => rfl) hHeld ?_
      simp only [List.getElem_toArray, List.getElem_cons_zero, List.getElem_cons_succ, Act.put, List.setIfInBounds_toArray, List.set_cons_zero, List.set_cons_succ]
      refine tk 13 (.bool false) rfl (fun X hX => rfl) hHeld ?_
      simp only [List.getElem_toArray, List.getElem_cons_zero, List.getElem_cons_succ, Act.put, List.setIfInBounds_toArray, List.set_cons_zero, List.set_cons_succ]
      refine tk 14 (.int .i64 82) rfl (fun X hX => rfl) hHeld ?_
      simp only [List.getElem_toArray, List.getElem_cons_zero, List.getElem_cons_succ, Act.put, List.setIfInBounds_toArray, List.set_cons_zero, List.set_cons_succ]
      refine wpAnyH_done (by kernel_rfl) ?_ _
      clear hHeld
      have HS := Aside0.mk S
      clear S
      go_upto_region 17 with fail
      refine wp_region_held_drew (S := fun X => X.rangeAt wp 0 (worldC D q p d).toList) (by kernel_rfl) (by simpa using HS.out.range) (fun hHeld => ?_)
      refine tk 0 (.pointer (some ⟨wp, 0, none⟩)) rfl (fun X hX => rfl) hHeld ?_
      simp only [List.getElem_toArray, List.getElem_cons_zero, List.getElem_cons_succ, Act.put, List.setIfInBounds_toArray, List.set_cons_zero, List.set_cons_succ]
      refine tk 1 (.pointer (some ⟨wp, 0, none⟩)) rfl (fun X hX => run_nilOp rfl rfl) hHeld ?_
      simp only [List.getElem_toArray, List.getElem_cons_zero, List.getElem_cons_succ, Act.put, List.setIfInBounds_toArray, List.set_cons_zero, List.set_cons_succ]
      refine tk 2 (.pointer (some ⟨wp, 22, none⟩)) rfl (fun X hX => run_fieldOp3 rfl rfl) hHeld ?_
      simp only [List.getElem_toArray, List.getElem_cons_zero, List.getElem_cons_succ, Act.put, List.setIfInBounds_toArray, List.set_cons_zero, List.set_cons_succ]
      refine tk 3 (.pointer (some ⟨q, 0, none⟩)) rfl (fun X hX => run_loadT rfl rfl hX) hHeld ?_
      simp only [List.getElem_toArray, List.getElem_cons_zero, List.getElem_cons_succ, Act.put, List.setIfInBounds_toArray, List.set_cons_zero, List.set_cons_succ]
      refine tk 4 (.pointer (some ⟨wp, 0, none⟩)) rfl (fun X hX => rfl) hHeld ?_
      simp only [List.getElem_toArray, List.getElem_cons_zero, List.getElem_cons_succ, Act.put, List.setIfInBounds_toArray, List.set_cons_zero, List.set_cons_succ]
      refine tk 5 (.pointer (some ⟨wp, 0, none⟩)) rfl (fun X hX => run_nilOp rfl rfl) hHeld ?_
      simp only [List.getElem_toArray, List.getElem_cons_zero, List.getElem_cons_succ, Act.put, List.setIfInBounds_toArray, List.set_cons_zero, List.set_cons_succ]
      refine tk 6 (.pointer (some ⟨wp, 0, none⟩)) rfl (fun X hX => run_fieldOp0 rfl rfl) hHeld ?_
      simp only [List.getElem_toArray, List.getElem_cons_zero, List.getElem_cons_succ, Act.put, List.setIfInBounds_toArray, List.set_cons_zero, List.set_cons_succ]
      refine tk 7 (.agg (layC D)) rfl (fun X hX => run_loadOp (t := 29) (x := .tmp 114) (g := wp) rfl rfl (run_layMid (range_lay hX))) hHeld ?_
      simp only [List.getElem_toArray, List.getElem_cons_zero, List.getElem_cons_succ, Act.put, List.setIfInBounds_toArray, List.set_cons_zero, List.set_cons_succ]
      refine wpAnyH_ready (rs := [8]) (by kernel_rfl) (by simp) ?_
      refine AllReadyH.cons rfl (fun K hK => ?_) AllReadyH.nil
      refine call_step Tryz.func15 (by kernel_rfl) (by rfl) #[.tmp 111, .tmp 115] #[32, 29] rfl rfl #[.pointer (some ⟨q, 0, none⟩), .agg (layC D)] (by simp [Act.eval]) ?_
      refine (used_over hB ((HS.out.drew.pull 2).pull 2) h0 h1).mono ?_
      rintro e w8 ⟨rfl, S⟩
      have S := S.pull 2
      clear HS
      refine ⟨_, rfl, hK.out _ _ S.range (fun hHeld => ?_)⟩
      clear hK K
      simp only [List.getElem_toArray, List.getElem_cons_zero, List.getElem_cons_succ, Act.put, List.setIfInBounds_toArray, List.set_cons_zero, List.set_cons_succ]
      refine tk 9 (.tuple #[.int .i64 0, .int .i64 76]) rfl (fun X hX => rfl) hHeld ?_
      simp only [List.getElem_toArray, List.getElem_cons_zero, List.getElem_cons_succ, Act.put, List.setIfInBounds_toArray, List.set_cons_zero, List.set_cons_succ]
      refine tk 10 (.int .i64 0) rfl (fun X hX => rfl) hHeld ?_
      simp only [List.getElem_toArray, List.getElem_cons_zero, List.getElem_cons_succ, Act.put, List.setIfInBounds_toArray, List.set_cons_zero, List.set_cons_succ]
      refine tk 11 (.int .i64 76) rfl (fun X hX => rfl) hHeld ?_
      simp only [List.getElem_toArray, List.getElem_cons_zero, List.getElem_cons_succ, Act.put, List.setIfInBounds_toArray, List.set_cons_zero, List.set_cons_succ]
      refine tk 12 (.int .i64 0) rfl (fun X hX => rfl) hHeld ?_
      simp only [List.getElem_toArray, List.getElem_cons_zero, List.getElem_cons_succ, Act.put, List.setIfInBounds_toArray, List.set_cons_zero, List.set_cons_succ]
      refine tk 13 (.int .i64 76) rfl (fun X hX => rfl) hHeld ?_
      simp only [List.getElem_toArray, List.getElem_cons_zero, List.getElem_cons_succ, Act.put, List.setIfInBounds_toArray, List.set_cons_zero, List.set_cons_succ]
      refine wpAnyH_done (by kernel_rfl) ?_ _
      clear hHeld
      have HS := Aside0.mk S
      clear S
      go_wp2_with (first | (go_at_call 13; refine (num8 _ _).mono ?_; rintro _ _ ⟨rfl, rfl⟩))
      go_ret
      exact ⟨rfl, HS.out.bel⟩
  · obtain ⟨i, rfl⟩ : ∃ i : Nat, b = 35 + (i : Int) := ⟨(b - 35).toNat, by omega⟩
    have hi : i < D := by omega
    have d1 : decide (35 + (i : Int) < 35) = false := decide_eq_false (by omega)
    have d2 : decide (35 + (D : Int) ≤ 35 + (i : Int)) = false := decide_eq_false (by omega)
    clear hb
    go_upto_region 12 with fail
    go_quiet (fail)
    have HS2 := Aside0.mk (HS.out.drewN nq)
    obtain ⟨W5, hW5⟩ : ∃ W5, W5 = wc.drewN nq := ⟨_, rfl⟩
    rw [← hW5] at HS2 ⊢
    clear hW5 HS c9 c10 hw
    have HS := HS2
    clear HS2
    go_upto_region 14 with fail
    refine wp_region_held_drew (S := fun X => X.rangeAt wp 0 (worldC D q p d).toList) (by kernel_rfl) (by simpa using HS.out.range) (fun hHeld => ?_)
    refine tk 0 (.pointer (some ⟨wp, 0, none⟩)) rfl (fun X hX => rfl) hHeld ?_
    simp only [List.getElem_toArray, List.getElem_cons_zero, List.getElem_cons_succ, Act.put, List.setIfInBounds_toArray, List.set_cons_zero, List.set_cons_succ]
    refine tk 1 (.pointer (some ⟨wp, 0, none⟩)) rfl (fun X hX => run_nilOp rfl rfl) hHeld ?_
    simp only [List.getElem_toArray, List.getElem_cons_zero, List.getElem_cons_succ, Act.put, List.setIfInBounds_toArray, List.set_cons_zero, List.set_cons_succ]
    refine tk 2 (.pointer (some ⟨wp, 22, none⟩)) rfl (fun X hX => run_fieldOp3 rfl rfl) hHeld ?_
    simp only [List.getElem_toArray, List.getElem_cons_zero, List.getElem_cons_succ, Act.put, List.setIfInBounds_toArray, List.set_cons_zero, List.set_cons_succ]
    refine tk 3 (.pointer (some ⟨q, 0, none⟩)) rfl (fun X hX => run_loadT rfl rfl hX) hHeld ?_
    simp only [List.getElem_toArray, List.getElem_cons_zero, List.getElem_cons_succ, Act.put, List.setIfInBounds_toArray, List.set_cons_zero, List.set_cons_succ]
    refine tk 4 (.pointer (some ⟨wp, 0, none⟩)) rfl (fun X hX => rfl) hHeld ?_
    simp only [List.getElem_toArray, List.getElem_cons_zero, List.getElem_cons_succ, Act.put, List.setIfInBounds_toArray, List.set_cons_zero, List.set_cons_succ]
    refine tk 5 (.pointer (some ⟨wp, 0, none⟩)) rfl (fun X hX => run_nilOp rfl rfl) hHeld ?_
    simp only [List.getElem_toArray, List.getElem_cons_zero, List.getElem_cons_succ, Act.put, List.setIfInBounds_toArray, List.set_cons_zero, List.set_cons_succ]
    refine tk 6 (.pointer (some ⟨wp, 0, none⟩)) rfl (fun X hX => run_fieldOp0 rfl rfl) hHeld ?_
    simp only [List.getElem_toArray, List.getElem_cons_zero, List.getElem_cons_succ, Act.put, List.setIfInBounds_toArray, List.set_cons_zero, List.set_cons_succ]
    refine tk 7 (.agg (layC D)) rfl (fun X hX => run_loadOp (t := 29) (x := .tmp 79) (g := wp) rfl rfl (run_layMid (range_lay hX))) hHeld ?_
    simp only [List.getElem_toArray, List.getElem_cons_zero, List.getElem_cons_succ, Act.put, List.setIfInBounds_toArray, List.set_cons_zero, List.set_cons_succ]
    refine wpAnyH_ready (rs := [8]) (by kernel_rfl) (by simp) ?_
    refine AllReadyH.cons rfl (fun K hK => ?_) AllReadyH.nil
    refine call_step Tryz.func12 (by kernel_rfl) (by rfl) #[.tmp 76, .tmp 80] #[32, 29] rfl rfl #[.pointer (some ⟨q, 0, none⟩), .agg (layC D)] (by simp [Act.eval]) ?_
    refine (alloc_over hB ((HS.out.drew.pull 2).pull 2) h0 h1).mono ?_
    rintro e w5 ⟨rfl, S⟩
    have S := S.pull 2
    clear HS
    refine ⟨_, rfl, hK.out _ _ S.range (fun hHeld => ?_)⟩
    clear hK K
    simp only [List.getElem_toArray, List.getElem_cons_zero, List.getElem_cons_succ, Act.put, List.setIfInBounds_toArray, List.set_cons_zero, List.set_cons_succ]
    refine tk 9 (.tuple #[.int .i64 0, .int .i64 76]) rfl (fun X hX => rfl) hHeld ?_
    simp only [List.getElem_toArray, List.getElem_cons_zero, List.getElem_cons_succ, Act.put, List.setIfInBounds_toArray, List.set_cons_zero, List.set_cons_succ]
    refine tk 10 (.int .i64 0) rfl (fun X hX => rfl) hHeld ?_
    simp only [List.getElem_toArray, List.getElem_cons_zero, List.getElem_cons_succ, Act.put, List.setIfInBounds_toArray, List.set_cons_zero, List.set_cons_succ]
    refine tk 11 (.int .i64 76) rfl (fun X hX => rfl) hHeld ?_
    simp only [List.getElem_toArray, List.getElem_cons_zero, List.getElem_cons_succ, Act.put, List.setIfInBounds_toArray, List.set_cons_zero, List.set_cons_succ]
    refine tk 12 (.int .i64 0) rfl (fun X hX => rfl) hHeld ?_
    simp only [List.getElem_toArray, List.getElem_cons_zero, List.getElem_cons_succ, Act.put, List.setIfInBounds_toArray, List.set_cons_zero, List.set_cons_succ]
    refine tk 13 (.int .i64 76) rfl (fun X hX => rfl) hHeld ?_
    simp only [List.getElem_toArray, List.getElem_cons_zero, List.getElem_cons_succ, Act.put, List.setIfInBounds_toArray, List.set_cons_zero, List.set_cons_succ]
    refine wpAnyH_done (by kernel_rfl) ?_ _
    clear hHeld
    have HS := Aside0.mk S
    clear S
    go_upto_region 15 with fail
    refine wp_region_held_drew (S := fun X => X.rangeAt wp 0 (worldC D q p d).toList) (by kernel_rfl) (by simpa using HS.out.range) (fun hHeld => ?_)
    refine tk 0 (.pointer (some ⟨wp, 0, none⟩)) rfl (fun X hX => rfl) hHeld ?_
    simp only [List.getElem_toArray, List.getElem_cons_zero, List.getElem_cons_succ, Act.put, List.setIfInBounds_toArray, List.set_cons_zero, List.set_cons_succ]
    refine tk 1 (.pointer (some ⟨wp, 0, none⟩)) rfl (fun X hX => run_nilOp rfl rfl) hHeld ?_
    simp only [List.getElem_toArray, List.getElem_cons_zero, List.getElem_cons_succ, Act.put, List.setIfInBounds_toArray, List.set_cons_zero, List.set_cons_succ]
    refine tk 2 (.pointer (some ⟨wp, 22, none⟩)) rfl (fun X hX => run_fieldOp3 rfl rfl) hHeld ?_
    simp only [List.getElem_toArray, List.getElem_cons_zero, List.getElem_cons_succ, Act.put, List.setIfInBounds_toArray, List.set_cons_zero, List.set_cons_succ]
    refine tk 3 (.pointer (some ⟨q, 0, none⟩)) rfl (fun X hX => run_loadT rfl rfl hX) hHeld ?_
    simp only [List.getElem_toArray, List.getElem_cons_zero, List.getElem_cons_succ, Act.put, List.setIfInBounds_toArray, List.set_cons_zero, List.set_cons_succ]
    refine tk 4 (.pointer (some ⟨wp, 0, none⟩)) rfl (fun X hX => rfl) hHeld ?_
    simp only [List.getElem_toArray, List.getElem_cons_zero, List.getElem_cons_succ, Act.put, List.setIfInBounds_toArray, List.set_cons_zero, List.set_cons_succ]
    refine tk 5 (.pointer (some ⟨wp, 0, none⟩)) rfl (fun X hX => run_nilOp rfl rfl) hHeld ?_
    simp only [List.getElem_toArray, List.getElem_cons_zero, List.getElem_cons_succ, Act.put, List.setIfInBounds_toArray, List.set_cons_zero, List.set_cons_succ]
    refine tk 6 (.pointer (some ⟨wp, 0, none⟩)) rfl (fun X hX => run_fieldOp0 rfl rfl) hHeld ?_
    simp only [List.getElem_toArray, List.getElem_cons_zero, List.getElem_cons_succ, Act.put, List.setIfInBounds_toArray, List.set_cons_zero, List.set_cons_succ]
    refine tk 7 (.agg (layC D)) rfl (fun X hX => run_loadOp (t := 29) (x := .tmp 90) (g := wp) rfl rfl (run_layMid (range_lay hX))) hHeld ?_
    simp only [List.getElem_toArray, List.getElem_cons_zero, List.getElem_cons_succ, Act.put, List.setIfInBounds_toArray, List.set_cons_zero, List.set_cons_succ]
    refine tk 8 (.int .i64 (35 + (i : Int))) rfl (fun X hX => rfl) hHeld ?_
    simp only [List.getElem_toArray, List.getElem_cons_zero, List.getElem_cons_succ, Act.put, List.setIfInBounds_toArray, List.set_cons_zero, List.set_cons_succ]
    refine wpAnyH_ready (rs := [9]) (by kernel_rfl) (by simp) ?_
    refine AllReadyH.cons rfl (fun K hK => ?_) AllReadyH.nil
    refine call_step Tryz.func14 (by kernel_rfl) (by rfl) #[.tmp 87, .tmp 91, .tmp 92] #[32, 29, 3] rfl rfl #[.pointer (some ⟨q, 0, none⟩), .agg (layC D), .int .i64 (35 + (i : Int))] (by simp [Act.eval]) ?_
    refine (free_over hB ((HS.out.drew.pull 2).pull 2) h0 h1 i hi).mono ?_
    rintro e w6 ⟨rfl, S⟩
    have S := S.pull 2
    clear HS
    refine ⟨_, rfl, hK.out _ _ S.range (fun hHeld => ?_)⟩
    clear hK K
    simp only [List.getElem_toArray, List.getElem_cons_zero, List.getElem_cons_succ, Act.put, List.setIfInBounds_toArray, List.set_cons_zero, List.set_cons_succ]
    refine tk 10 (.int .i64 76) rfl (fun X hX => rfl) hHeld ?_
    simp only [List.getElem_toArray, List.getElem_cons_zero, List.getElem_cons_succ, Act.put, List.setIfInBounds_toArray, List.set_cons_zero, List.set_cons_succ]
    refine wpAnyH_done (by kernel_rfl) ?_ _
    clear hHeld
    have HS := Aside0.mk S
    clear S
    go_upto_region 16 with fail
    refine wp_region_held_drew (S := fun X => X.rangeAt wp 0 (worldC D q p d).toList) (by kernel_rfl) (by simpa using HS.out.range) (fun hHeld => ?_)
    refine tk 0 (.pointer (some ⟨wp, 0, none⟩)) rfl (fun X hX => rfl) hHeld ?_
    simp only [List.getElem_toArray, List.getElem_cons_zero, List.getElem_cons_succ, Act.put, List.setIfInBounds_toArray, List.set_cons_zero, List.set_cons_succ]
    refine tk 1 (.pointer (some ⟨wp, 0, none⟩)) rfl (fun X hX => run_nilOp rfl rfl) hHeld ?_
    simp only [List.getElem_toArray, List.getElem_cons_zero, List.getElem_cons_succ, Act.put, List.setIfInBounds_toArray, List.set_cons_zero, List.set_cons_succ]
    refine tk 2 (.pointer (some ⟨wp, 22, none⟩)) rfl (fun X hX => run_fieldOp3 rfl rfl) hHeld ?_
    simp only [List.getElem_toArray, List.getElem_cons_zero, List.getElem_cons_succ, Act.put, List.setIfInBounds_toArray, List.set_cons_zero, List.set_cons_succ]
    refine tk 3 (.pointer (some ⟨q, 0, none⟩)) rfl (fun X hX => run_loadT rfl rfl hX) hHeld ?_
    simp only [List.getElem_toArray, List.getElem_cons_zero, List.getElem_cons_succ, Act.put, List.setIfInBounds_toArray, List.set_cons_zero, List.set_cons_succ]
    refine tk 4 (.pointer (some ⟨wp, 0, none⟩)) rfl (fun X hX => rfl) hHeld ?_
    simp only [List.getElem_toArray, List.getElem_cons_zero, List.getElem_cons_succ, Act.put, List.setIfInBounds_toArray, List.set_cons_zero, List.set_cons_succ]
    refine tk 5 (.pointer (some ⟨wp, 0, none⟩)) rfl (fun X hX => run_nilOp rfl rfl) hHeld ?_
    simp only [List.getElem_toArray, List.getElem_cons_zero, List.getElem_cons_succ, Act.put, List.setIfInBounds_toArray, List.set_cons_zero, List.set_cons_succ]
    refine tk 6 (.pointer (some ⟨wp, 0, none⟩)) rfl (fun X hX => run_fieldOp0 rfl rfl) hHeld ?_
    simp only [List.getElem_toArray, List.getElem_cons_zero, List.getElem_cons_succ, Act.put, List.setIfInBounds_toArray, List.set_cons_zero, List.set_cons_succ]
    refine tk 7 (.agg (layC D)) rfl (fun X hX => run_loadOp (t := 29) (x := .tmp 101) (g := wp) rfl rfl (run_layMid (range_lay hX))) hHeld ?_
    simp only [List.getElem_toArray, List.getElem_cons_zero, List.getElem_cons_succ, Act.put, List.setIfInBounds_toArray, List.set_cons_zero, List.set_cons_succ]
    refine tk 8 (.int .i64 (35 + (i : Int))) rfl (fun X hX => rfl) hHeld ?_
    simp only [List.getElem_toArray, List.getElem_cons_zero, List.getElem_cons_succ, Act.put, List.setIfInBounds_toArray, List.set_cons_zero, List.set_cons_succ]
    refine wpAnyH_ready (rs := [9]) (by kernel_rfl) (by simp) ?_
    refine AllReadyH.cons rfl (fun K hK => ?_) AllReadyH.nil
    refine call_step Tryz.func38 (by kernel_rfl) (by rfl) #[.tmp 98, .tmp 102, .tmp 103] #[32, 29, 3] rfl rfl #[.pointer (some ⟨q, 0, none⟩), .agg (layC D), .int .i64 (35 + (i : Int))] (by simp [Act.eval]) ?_
    refine (has_over hB ((HS.out.drew.pull 2).pull 2) h0 h1 i hi).mono ?_
    rintro e w7 ⟨rfl, S⟩
    have S := S.pull 2
    clear HS
    refine ⟨_, rfl, hK.out _ _ S.range (fun hHeld => ?_)⟩
    clear hK K
    simp only [List.getElem_toArray, List.getElem_cons_zero, List.getElem_cons_succ, Act.put, List.setIfInBounds_toArray, List.set_cons_zero, List.set_cons_succ]
    refine tk 10 (.tuple #[.bool false, .int .i64 76]) rfl (fun X hX => rfl) hHeld ?_
    simp only [List.getElem_toArray, List.getElem_cons_zero, List.getElem_cons_succ, Act.put, List.setIfInBounds_toArray, List.set_cons_zero, List.set_cons_succ]
    refine tk 11 (.bool false) rfl (fun X hX => rfl) hHeld ?_
    simp only [List.getElem_toArray, List.getElem_cons_zero, List.getElem_cons_succ, Act.put, List.setIfInBounds_toArray, List.set_cons_zero, List.set_cons_succ]
    refine tk 12 (.int .i64 76) rfl (fun X hX => rfl) hHeld ?_
    simp only [List.getElem_toArray, List.getElem_cons_zero, List.getElem_cons_succ, Act.put, List.setIfInBounds_toArray, List.set_cons_zero, List.set_cons_succ]
    refine tk 13 (.bool false) rfl (fun X hX => rfl) hHeld ?_
    simp only [List.getElem_toArray, List.getElem_cons_zero, List.getElem_cons_succ, Act.put, List.setIfInBounds_toArray, List.set_cons_zero, List.set_cons_succ]
    refine tk 14 (.int .i64 76) rfl (fun X hX => rfl) hHeld ?_
    simp only [List.getElem_toArray, List.getElem_cons_zero, List.getElem_cons_succ, Act.put, List.setIfInBounds_toArray, List.set_cons_zero, List.set_cons_succ]
    refine wpAnyH_done (by kernel_rfl) ?_ _
    clear hHeld
    have HS := Aside0.mk S
    clear S
    go_upto_region 17 with fail
    refine wp_region_held_drew (S := fun X => X.rangeAt wp 0 (worldC D q p d).toList) (by kernel_rfl) (by simpa using HS.out.range) (fun hHeld => ?_)
    refine tk 0 (.pointer (some ⟨wp, 0, none⟩)) rfl (fun X hX => rfl) hHeld ?_
    simp only [List.getElem_toArray, List.getElem_cons_zero, List.getElem_cons_succ, Act.put, List.setIfInBounds_toArray, List.set_cons_zero, List.set_cons_succ]
    refine tk 1 (.pointer (some ⟨wp, 0, none⟩)) rfl (fun X hX => run_nilOp rfl rfl) hHeld ?_
    simp only [List.getElem_toArray, List.getElem_cons_zero, List.getElem_cons_succ, Act.put, List.setIfInBounds_toArray, List.set_cons_zero, List.set_cons_succ]
    refine tk 2 (.pointer (some ⟨wp, 22, none⟩)) rfl (fun X hX => run_fieldOp3 rfl rfl) hHeld ?_
    simp only [List.getElem_toArray, List.getElem_cons_zero, List.getElem_cons_succ, Act.put, List.setIfInBounds_toArray, List.set_cons_zero, List.set_cons_succ]
    refine tk 3 (.pointer (some ⟨q, 0, none⟩)) rfl (fun X hX => run_loadT rfl rfl hX) hHeld ?_
    simp only [List.getElem_toArray, List.getElem_cons_zero, List.getElem_cons_succ, Act.put, List.setIfInBounds_toArray, List.set_cons_zero, List.set_cons_succ]
    refine tk 4 (.pointer (some ⟨wp, 0, none⟩)) rfl (fun X hX => rfl) hHeld ?_
    simp only [List.getElem_toArray, List.getElem_cons_zero, List.getElem_cons_succ, Act.put, List.setIfInBounds_toArray, List.set_cons_zero, List.set_cons_succ]
    refine tk 5 (.pointer (some ⟨wp, 0, none⟩)) rfl (fun X hX => run_nilOp rfl rfl) hHeld ?_
    simp only [List.getElem_toArray, List.getElem_cons_zero, List.getElem_cons_succ, Act.put, List.setIfInBounds_toArray, List.set_cons_zero, List.set_cons_succ]
    refine tk 6 (.pointer (some ⟨wp, 0, none⟩)) rfl (fun X hX => run_fieldOp0 rfl rfl) hHeld ?_
    simp only [List.getElem_toArray, List.getElem_cons_zero, List.getElem_cons_succ, Act.put, List.setIfInBounds_toArray, List.set_cons_zero, List.set_cons_succ]
    refine tk 7 (.agg (layC D)) rfl (fun X hX => run_loadOp (t := 29) (x := .tmp 114) (g := wp) rfl rfl (run_layMid (range_lay hX))) hHeld ?_
    simp only [List.getElem_toArray, List.getElem_cons_zero, List.getElem_cons_succ, Act.put, List.setIfInBounds_toArray, List.set_cons_zero, List.set_cons_succ]
    refine wpAnyH_ready (rs := [8]) (by kernel_rfl) (by simp) ?_
    refine AllReadyH.cons rfl (fun K hK => ?_) AllReadyH.nil
    refine call_step Tryz.func15 (by kernel_rfl) (by rfl) #[.tmp 111, .tmp 115] #[32, 29] rfl rfl #[.pointer (some ⟨q, 0, none⟩), .agg (layC D)] (by simp [Act.eval]) ?_
    refine (used_over hB ((HS.out.drew.pull 2).pull 2) h0 h1).mono ?_
    rintro e w8 ⟨rfl, S⟩
    have S := S.pull 2
    clear HS
    refine ⟨_, rfl, hK.out _ _ S.range (fun hHeld => ?_)⟩
    clear hK K
    simp only [List.getElem_toArray, List.getElem_cons_zero, List.getElem_cons_succ, Act.put, List.setIfInBounds_toArray, List.set_cons_zero, List.set_cons_succ]
    refine tk 9 (.tuple #[.int .i64 0, .int .i64 76]) rfl (fun X hX => rfl) hHeld ?_
    simp only [List.getElem_toArray, List.getElem_cons_zero, List.getElem_cons_succ, Act.put, List.setIfInBounds_toArray, List.set_cons_zero, List.set_cons_succ]
    refine tk 10 (.int .i64 0) rfl (fun X hX => rfl) hHeld ?_
    simp only [List.getElem_toArray, List.getElem_cons_zero, List.getElem_cons_succ, Act.put, List.setIfInBounds_toArray, List.set_cons_zero, List.set_cons_succ]
    refine tk 11 (.int .i64 76) rfl (fun X hX => rfl) hHeld ?_
    simp only [List.getElem_toArray, List.getElem_cons_zero, List.getElem_cons_succ, Act.put, List.setIfInBounds_toArray, List.set_cons_zero, List.set_cons_succ]
    refine tk 12 (.int .i64 0) rfl (fun X hX => rfl) hHeld ?_
    simp only [List.getElem_toArray, List.getElem_cons_zero, List.getElem_cons_succ, Act.put, List.setIfInBounds_toArray, List.set_cons_zero, List.set_cons_succ]
    refine tk 13 (.int .i64 76) rfl (fun X hX => rfl) hHeld ?_
    simp only [List.getElem_toArray, List.getElem_cons_zero, List.getElem_cons_succ, Act.put, List.setIfInBounds_toArray, List.set_cons_zero, List.set_cons_succ]
    refine wpAnyH_done (by kernel_rfl) ?_ _
    clear hHeld
    have HS := Aside0.mk S
    clear S
    go_wp2_with (first | (go_at_call 13; refine (num8 _ _).mono ?_; rintro _ _ ⟨rfl, rfl⟩))
    go_ret
    exact ⟨rfl, HS.out.bel⟩
end
end Go.Proofs.YtlhlmjkocmahmaaGreatDoor.Sep
