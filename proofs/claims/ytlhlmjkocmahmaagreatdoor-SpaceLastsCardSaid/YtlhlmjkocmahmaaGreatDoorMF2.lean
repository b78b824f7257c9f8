/- Blocks that are no data blocks. -/
import Derived.Test.YtlhlmjkocmahmaaGreatDoorMB3
import Derived.WalkMore
namespace Go.Proofs.YtlhlmjkocmahmaaGreatDoor.Sep
open Go.Proofs.YtlhlmjkocmahmaaGreatDoor Go.Proofs Go.RowKit Go.ChangeMaps Go.Proofs.YtlhlmjkocmahmaaGreatDoorW.PrintWords Go.Proofs.YtlhlmjkocmahmaaGreatDoorW.PrintLast Go.Proofs.YtlhlmjkocmahmaaGreatDoorW.PrintMore Go.Proofs.YtlhlmjkocmahmaaGreatDoor.Dev Go.Proofs.YtlhlmjkocmahmaaGreatDoor.Errs Go.Proofs.YtlhlmjkocmahmaaGreatDoor.Jr Go.Proofs.YtlhlmjkocmahmaaGreatDoor.Help Go.Proofs.YtlhlmjkocmahmaaGreatDoor.IMap
set_option linter.unusedVariables false
set_option linter.unusedSimpArgs false
section
variable {w0 w w' : World} {R : List Asn} {q p d D n : Nat} {Bd : List Int}
set_option maxRecDepth 100000 in
set_option maxHeartbeats 8000000 in
theorem find_nodata (hB : Bds w0) (S : Sep w0 w R) (h0 : 8 ≤ D) (h1 : D ≤ 4000) (b : Int) (hb : b < 35 ∨ b ≥ 35 + (D : Int)) :
    Calls Tryz.prog 49 #[.pointer (some ⟨q, 0, none⟩), .agg (layC D), .int .i64 b] w fun e w' => e = .returned (.tuple #[.slice none 0 0, .int .i64 82]) ∧ Sep w0 w' R := by
  have S0 := S.alloc (layC D) 29
  obtain ⟨p1, hp1⟩ : ∃ p1, p1 = w.heap.size := ⟨_, rfl⟩
  obtain ⟨W1, hW1⟩ : ∃ W1, W1 = w.alloc (.cells (layC D) 29) := ⟨_, rfl⟩
  rw [← hp1, ← hW1] at S0
  have hj := judge_s (bds_sep hB S0) (D : Int) (by omega) (by omega)
  go_enter Tryz.func49, Tryz.ntmps49
  go_upto_region 1 with fail
  rw [← hp1, ← hW1]
  clear hW1 hp1 S
  apply wp_region_lit
  refine wpList_wantRun (by rfl) _ _ (run_loadOp (t := 29) (x := .tmp 4) (g := p1) rfl rfl (run_layLoad S0)) ?_
  go_wp2_with fail
  refine hj.mono ?_
  clear hj
  rintro _ w2 ⟨rfl, hb2⟩
  have S1 := S0.calm hb2
  clear S0 hb2
  have c9 := S1.cell 9 (v := .int .i64 35) rfl
  have c10 := S1.cell 10 (v := .int .i64 (D : Int)) rfl
  have hw : IntKind.i64.wrap (35 + (D : Int)) = 35 + (D : Int) := by rw [IntKind.wrap_i64]; omega
  have HS := Aside0.mk S1
  clear S1
  by_cases hlt : b < 35
  · have d1 : decide (b < 35) = true := decide_eq_true hlt
    clear hb hlt
    go_wp2_with fail
    go_ret2
    exact ⟨rfl, HS.out.drop⟩
  · have d1 : decide (b < 35) = false := decide_eq_false hlt
    have d2 : decide (35 + (D : Int) ≤ b) = true := decide_eq_true (by omega)
    clear hb hlt
    go_wp2_with fail
    go_ret2
    exact ⟨rfl, HS.out.drop⟩
set_option maxRecDepth 100000 in
set_option maxHeartbeats 8000000 in
theorem free_nodata (hB : Bds w0) (S : Sep w0 w (R)) (h0 : 8 ≤ D) (h1 : D ≤ 4000) (b : Int) (hb : b < 35 ∨ b ≥ 35 + (D : Int)) :
    Calls Tryz.prog 14 #[.pointer (some ⟨q, 0, none⟩), .agg (layC D), .int .i64 b] w fun e w' => e = .returned (.int .i64 82) ∧ Sep w0 w' (R) := by
  have S0 := S.alloc (layC D) 29
  obtain ⟨p1, hp1⟩ : ∃ p1, p1 = w.heap.size := ⟨_, rfl⟩
  obtain ⟨W1, hW1⟩ : ∃ W1, W1 = w.alloc (.cells (layC D) 29) := ⟨_, rfl⟩
  rw [← hp1, ← hW1] at S0
  have hf := find_nodata (q := q) hB S0.drop h0 h1 b hb
  go_enter Tryz.func14, Tryz.ntmps14
  go_upto_region 1 with fail
  rw [← hp1, ← hW1]
  clear hW1 hp1 S
  apply wp_region_lit
  iterate 3 go_step
  refine wpList_wantRun (by rfl) _ _ (run_loadOp (t := 29) (x := .tmp 4) (g := p1) rfl rfl (run_layLoad S0)) ?_
  go_wp2_with fail
  refine hf.mono ?_
  clear hf S0
  rintro _ w2 ⟨rfl, S⟩
  have HS := Aside0.mk S
  clear S
  go_wp2_with fail
  go_ret
  exact ⟨rfl, HS.out⟩
set_option maxRecDepth 100000 in
set_option maxHeartbeats 8000000 in
theorem has_nodata (hB : Bds w0) (S : Sep w0 w (R)) (h0 : 8 ≤ D) (h1 : D ≤ 4000) (b : Int) (hb : b < 35 ∨ b ≥ 35 + (D : Int)) :
    Calls Tryz.prog 38 #[.pointer (some ⟨q, 0, none⟩), .agg (layC D), .int .i64 b] w fun e w' => e = .returned (.tuple #[.bool false, .int .i64 82]) ∧ Sep w0 w' (R) := by
  have S0 := S.alloc (layC D) 29
  obtain ⟨p1, hp1⟩ : ∃ p1, p1 = w.heap.size := ⟨_, rfl⟩
  obtain ⟨W1, hW1⟩ : ∃ W1, W1 = w.alloc (.cells (layC D) 29) := ⟨_, rfl⟩
  rw [← hp1, ← hW1] at S0
  have hf := find_nodata (q := q) hB S0.drop h0 h1 b hb
  go_enter Tryz.func38, Tryz.ntmps38
  go_upto_region 1 with fail
  rw [← hp1, ← hW1]
  clear hW1 hp1 S
  apply wp_region_lit
  iterate 3 go_step
  refine wpList_wantRun (by rfl) _ _ (run_loadOp (t := 29) (x := .tmp 4) (g := p1) rfl rfl (run_layLoad S0)) ?_
  go_wp2_with fail
  refine hf.mono ?_
  clear hf S0
  rintro _ w2 ⟨rfl, S⟩
  have HS := Aside0.mk S
  clear S
  go_wp2_with fail
  go_ret2
  exact ⟨rfl, HS.out⟩
end
end Go.Proofs.YtlhlmjkocmahmaaGreatDoor.Sep
