/- The plain list of the statements: which blocks are in use; count, lowest. -/
import Derived.Test.YtlhlmjkocmahmaaGreatDoorMB3
import Derived.Test.YtlhlmjkocmahmaaGreatDoorMF2
namespace Go.Proofs.YtlhlmjkocmahmaaGreatDoor.Sep
open Go.Proofs.YtlhlmjkocmahmaaGreatDoor Go.Proofs Go.RowKit Go.ChangeMaps Go.Proofs.YtlhlmjkocmahmaaGreatDoorW.PrintWords Go.Proofs.YtlhlmjkocmahmaaGreatDoorW.PrintLast Go.Proofs.YtlhlmjkocmahmaaGreatDoorW.PrintMore Go.Proofs.YtlhlmjkocmahmaaGreatDoor.Dev Go.Proofs.YtlhlmjkocmahmaaGreatDoor.Errs Go.Proofs.YtlhlmjkocmahmaaGreatDoor.Jr Go.Proofs.YtlhlmjkocmahmaaGreatDoor.Help Go.Proofs.YtlhlmjkocmahmaaGreatDoor.IMap
set_option linter.unusedVariables false
set_option linter.unusedSimpArgs false
theorem run_lenOp {o : Oper} {ρ : Operand → Value} {x : Operand} {X : World} {A : Option Addr} {n c : Nat} (ho : o.op = .call { callee := .builtin .len, args := #[x], argTypes := #[84] }) (hx : ρ x = .slice A n c) : (execOp ρ o).run Tryz.prog X = .ok (.value (.int .i64 (n : Int))) X := by
  unfold execOp
  simp [ho, hx, go_sem, resolve, invoke, builtin]
def useL (B : List Int) (D : Nat) : List Value := (List.range D).map fun i => Value.bool (Bm.bit B i)
theorem useL_len (B : List Int) (D : Nat) : (useL B D).length = D := by simp [useL]
theorem useL_get (B : List Int) {D i : Nat} (h : i < D) : (useL B D)[i]? = some (.bool (Bm.bit B i)) := by
  unfold useL
  rw [List.getElem?_map, List.getElem?_range h]
  rfl
theorem useL_put {B C : List Int} {D m : Nat} {b : Bool} (h : ∀ k, Bm.bit C k = if k = m then b else Bm.bit B k) : (useL B D).set m (.bool b) = useL C D := by
  refine List.ext_getElem? fun i => ?_
  rw [List.getElem?_set]
  by_cases hi : i < D
  · rw [useL_get C hi, h i]
    by_cases e : m = i
    · rw [if_pos e, if_pos (by rw [useL_len]; omega), if_pos e.symm]
    · rw [if_neg e, useL_get B hi, if_neg (fun q => e q.symm)]
  · rw [List.getElem?_eq_none (by rw [useL_len]; omega), List.getElem?_eq_none (by rw [useL_len]; omega)]
    split
    · rw [if_neg (by rw [useL_len]; omega)]
    · rfl
theorem useL_zeros (D : Nat) : useL zeros D = List.replicate D (.bool false) := by
  refine List.ext_getElem? fun i => ?_
  by_cases hi : i < D
  · rw [useL_get _ hi, zeros_bit, List.getElem?_replicate, if_pos hi]
  · rw [List.getElem?_eq_none (by rw [useL_len]; omega), List.getElem?_eq_none (by rw [List.length_replicate]; omega)]
abbrev Use (g c D : Nat) (B : List Int) : Asn := Own 4 1 (.slice (some ⟨g, 0, none⟩) D c) D (useL B D)
section
variable {w0 w w' : World} {R : List Asn} {g c D : Nat} {B : List Int}
set_option maxRecDepth 100000 in
set_option maxHeartbeats 4000000 in
theorem count_s (S : Sep w0 w (Use g c D B :: R)) (h1 : D ≤ 4000) : Calls Tryz.prog 73 #[.slice (some ⟨g, 0, none⟩) D c] w fun e w' => e = .returned (.int .i64 (Bm.cnt B D)) ∧ w' = w := by
  have HS := Aside0.mk S
  clear S
  go_enter Tryz.func73, Tryz.ntmps73
  go_wp2_with fail
  go_loopw [3, 4] (fun nv iv wr => ∃ j : Nat, j ≤ D ∧ nv = .int .i64 (Bm.cnt B j) ∧ iv = .int .i64 (j : Int) ∧ wr = w) (fun _ i _ => (D - intOf i).toNat)
  case atStart => exact ⟨0, Nat.zero_le _, rfl, rfl, rfl⟩
  case round =>
    obtain ⟨j, hj, rfl, rfl, rfl⟩ := hrel
    by_cases hjD : j < D
    · have hlt : (j : Int) < (D : Int) := by omega
      have c0 := HS.out.val j (useL_get B hjD)
      have hcp := Bm.cnt_pos B j
      have hw : IntKind.i64.wrap (Bm.cnt B j + 1) = Bm.cnt B j + 1 := by rw [IntKind.wrap_i64]; omega
      have hc1 : Bm.cnt B (j + 1) = Bm.cnt B j + if Bm.bit B j then 1 else 0 := rfl
      cases hb : Bm.bit B j
      · rw [hb] at c0 hc1
        have HC := Aside0.mk hc1
        clear hc1
        go_wp2_with fail
        refine ⟨⟨j + 1, hjD, ?_, by go_num, trivial⟩, by simp [intOf]; omega⟩
        rw [HC.out]
        simp
      · rw [hb] at c0 hc1
        have HC := Aside0.mk hc1
        clear hc1
        go_wp2_with fail
        refine ⟨⟨j + 1, hjD, ?_, by go_num, trivial⟩, by simp [intOf]; omega⟩
        rw [HC.out]
        simp
    · have hlt : ¬ (j : Int) < (D : Int) := by omega
      obtain rfl : j = D := by omega
      go_wp2_with fail
      go_ret
      exact ⟨rfl, rfl⟩
set_option maxRecDepth 100000 in
set_option maxHeartbeats 4000000 in
theorem lowest_s (S : Sep w0 w (Use g c D B :: R)) (h1 : D ≤ 4000) (m : Nat) (hm : m ≤ D) (hall : ∀ i, i < m → Bm.bit B i = true) (hfr : m < D → Bm.bit B m = false) : Calls Tryz.prog 74 #[.int .i64 (D : Int), .slice (some ⟨g, 0, none⟩) D c] w fun e w' => e = .returned (.int .i64 (if m < D then (m : Int) else -1)) ∧ w' = w := by
  have HS := Aside0.mk S
  have HA := Aside0.mk (And.intro hall hfr)
  clear S hall hfr
  go_enter Tryz.func74, Tryz.ntmps74
  go_wp2_with fail
  go_loopw [5] (fun iv wr => ∃ j : Nat, j ≤ m ∧ iv = .int .i64 (j : Int) ∧ wr = w) (fun i _ => (D - intOf i).toNat)
  case atStart => exact ⟨0, Nat.zero_le _, rfl, rfl⟩
  case round =>
    obtain ⟨j, hj, rfl, rfl⟩ := hrel
    by_cases hjD : j < D
    · have hlt : (j : Int) < (D : Int) := by omega
      have c0 := HS.out.val j (useL_get B hjD)
      by_cases hjm : j < m
      · rw [HA.out.1 j hjm] at c0
        go_wp2_with fail
        exact ⟨⟨j + 1, hjm, by go_num, trivial⟩, by simp [intOf]; omega⟩
      · obtain rfl : j = m := by omega
        rw [HA.out.2 hjD] at c0
        go_wp2_with fail
        go_ret
        exact ⟨rfl, rfl⟩
    · have hlt : ¬ (j : Int) < (D : Int) := by omega
      have hmd : ¬ m < D := by omega
      go_wp2_with fail
      go_ret
      exact ⟨rfl, rfl⟩
end
end Go.Proofs.YtlhlmjkocmahmaaGreatDoor.Sep
/- does: a deed on the world and on the plain list. -/
namespace Go.Proofs.YtlhlmjkocmahmaaGreatDoor.Sep
open Go.Proofs.YtlhlmjkocmahmaaGreatDoor Go.Proofs Go.RowKit Go.ChangeMaps Go.Proofs.YtlhlmjkocmahmaaGreatDoorW.PrintWords Go.Proofs.YtlhlmjkocmahmaaGreatDoorW.PrintLast Go.Proofs.YtlhlmjkocmahmaaGreatDoorW.PrintMore Go.Proofs.YtlhlmjkocmahmaaGreatDoor.Dev Go.Proofs.YtlhlmjkocmahmaaGreatDoor.Errs Go.Proofs.YtlhlmjkocmahmaaGreatDoor.Jr Go.Proofs.YtlhlmjkocmahmaaGreatDoor.Help Go.Proofs.YtlhlmjkocmahmaaGreatDoor.IMap
set_option linter.unusedVariables false
set_option linter.unusedSimpArgs false
section
variable {w0 w w' : World} {R : List Asn} {sa : Addr}
set_option maxRecDepth 100000 in
set_option maxHeartbeats 8000000 in
theorem does_s {wp q p d D n k g c : Nat} {mk : Int} {sv : List (Int × Nat)} {Bd B : List Int} (hB : Bds w0) (S : Sep w0 w (Blk wp (worldC D q p d) 35 :: SpA q p d D n k mk sv Bd B :: Use g c D B :: R)) (hok : Bm.OkL B) (h0 : 8 ≤ D) (h5 : D ≤ 500) (hk : k ≤ 800000) (fr : Bool) (K : Int) :
    Calls Tryz.prog 39 #[.pointer (some ⟨wp, 0, none⟩), .slice (some ⟨g, 0, none⟩) D c, .agg #[.bool fr, .int .i64 K]] w fun e w' => e = .returned (.bool true) ∧ ∃ B', Bm.OkL B' ∧ Sep w0 w' (Blk wp (worldC D q p d) 35 :: SpA q p d D n (k + 1) mk sv Bd B' :: Use g c D B' :: R) := by
  have h1 : D ≤ 4000 := by omega
  have hlen := (S.pull 1).sp_len
  have S0 := S.alloc #[.bool fr, .int .i64 K] 87
  obtain ⟨p5, hp5⟩ : ∃ p5, p5 = w.heap.size := ⟨_, rfl⟩
  obtain ⟨W1, hW1⟩ : ∃ W1, W1 = w.alloc (.cells #[.bool fr, .int .i64 K] 87) := ⟨_, rfl⟩
  rw [← hp5, ← hW1] at S0
  go_enter Tryz.func39, Tryz.ntmps39
  go_upto_region 1 with fail
  rw [← hp5, ← hW1]
  clear hW1 hp5 S
  have c0 := S0.cell 0 (v := .bool fr) rfl
  have c1 := S0.cell 1 (v := .int .i64 K) rfl
  have S := S0.drop
  cases fr with
  | true =>
    have hct := count_s (S0.pull 3) h1
    have hcp := Bm.cnt_pos B D
    obtain ⟨N, hN⟩ : ∃ N : Nat, Bm.cnt B D = (N : Int) := ⟨(Bm.cnt B D).toNat, by omega⟩
    rw [hN] at hct
    have HS := Aside0.mk S
    clear S S0
    by_cases hz : N = 0
    · subst hz
      clear c1
      go_wp2_with fail
      refine hct.mono ?_
      clear hct
      rintro _ _ ⟨rfl, rfl⟩
      go_wp2_with fail
      go_ret
      exact ⟨rfl, B, hok, (((HS.out.pull 1).sp_more (Nat.le_succ k)).swap)⟩
    · obtain ⟨k0, hk0, hrem⟩ := round_in (show 0 < N by omega) K
      have hri := rem_in (show 0 < N by omega) K
      have hN0 : ¬ (N : Int) = 0 := by omega
      have hw1 : IntKind.i64.wrap (Int.tmod K (N : Int) + (N : Int)) = Int.tmod K (N : Int) + (N : Int) := by rw [IntKind.wrap_i64]; omega
      have hND : (N : Int) ≤ 500 := by omega
      have HN := Aside0.mk hN
      clear hN
      go_wp2_with fail
      refine hct.mono ?_
      clear hct
      rintro _ W2 ⟨rfl, rfl⟩
      go_wp2_with fail
      clear c0 c1 hrem hri hw1
      go_loopw [8, 9] (fun kv iv wr => ∃ j : Nat, j ≤ D ∧ Bm.cnt B j ≤ (k0 : Int) ∧ kv = .int .i64 ((k0 : Int) - Bm.cnt B j) ∧ iv = .int .i64 (j : Int) ∧ wr = W2) (fun _ i _ => (D - intOf i).toNat)
      case atStart => exact ⟨0, Nat.zero_le _, by show (0 : Int) ≤ _; omega, by simp [Bm.cnt], rfl, rfl⟩
      case round =>
        obtain ⟨j, hj, hjk, rfl, rfl, rfl⟩ := hrel
        by_cases hjD : j < D
        · have hlt : (j : Int) < (D : Int) := by omega
          have c0 := (HS.out.pull 2).val j (useL_get B hjD)
          have hc1 : Bm.cnt B (j + 1) = Bm.cnt B j + if Bm.bit B j then 1 else 0 := rfl
          have hcj := Bm.cnt_pos B j
          cases hb : Bm.bit B j
          · rw [hb, if_neg (by decide)] at hc1
            rw [hb] at c0
            have HC := Aside0.mk hc1
            clear hc1
            go_wp2_with fail
            refine ⟨⟨j + 1, hjD, by have := HC.out; omega, ?_, by go_num, trivial⟩, by simp [intOf]; omega⟩
            rw [HC.out, Int.add_zero]
          · rw [hb, if_pos rfl] at hc1
            rw [hb] at c0
            have HC := Aside0.mk hc1
            clear hc1
            by_cases hz0 : (k0 : Int) - Bm.cnt B j = 0
            · have d1 : ((k0 : Int) - Bm.cnt B j == 0) = true := by simp; omega
              have hw : IntKind.i64.wrap (35 + (j : Int)) = 35 + (j : Int) := by rw [IntKind.wrap_i64]; omega
              have HB := Aside0.mk hb
              clear hb hjk
              go_upto_region 11 with fail
              refine wp_region_held_drew (S := fun X => X.rangeAt wp 0 (worldC D q p d).toList) (by kernel_rfl) (by simpa using HS.out.range) (fun hHeld => ?_)
              refine tk 0 (.pointer (some ⟨wp, 0, none⟩)) rfl (fun X hX => rfl) hHeld ?_
              simp only [List.getElem_toArray, List.getElem_cons_zero, List.getElem_cons_succ, Act.put, List.setIfInBounds_toArray, List.set_cons_zero, List.set_cons_succ]
              refine tk 1 (.pointer (some ⟨wp, 0, none⟩)) rfl (fun X hX => run_nilOp rfl rfl) hHeld ?_
              simp only [List.getElem_toArray, List.getElem_cons_zero, List.getElem_cons_succ, Act.put, List.setIfInBounds_toArray, List.set_cons_zero, List.set_cons_succ]
              refine tk 2 (.pointer (some ⟨wp, 22, none⟩)) rfl (fun X hX => run_fieldOp3 rfl rfl) hHeld ?_
              simp only [List.getElem_toArray, List.getElem_cons_zero, List.getElem_cons_succ, Act.put, List.setIfInBounds_toArray, List.set_cons_zero, List.set_cons_succ]
              refine tk 3 (.pointer (some ⟨q, 0, none⟩)) rfl (fun X hX => run_loadT rfl rfl hX) hHeld ?_
              simp only [List.getElem_toArray, List.getElem_cons_zero, List.getElem_cons_succ, Act.put, List.setIfInBounds_toArray, List.set_cons_zero, List.set_cons_succ]
              refine tk 4 (.pointer (some ⟨wp, 0, none⟩)) rfl (fun X hX => rfl) hHeld ?_
              simp only [List.getElem_toArray, List.getElem_cons_zero, List.getElem_cons_succ, Act.put, List.setIfInBounds_toArray, List.set_cons_zero, List.set_cons_succ]
              refine tk 5 (.pointer (some ⟨wp, 0, none⟩)) rfl (fun X hX => run_nilOp rfl rfl) hHeld ?_
              simp only [List.getElem_toArray, List.getElem_cons_zero, List.getElem_cons_succ, Act.put, List.setIfInBounds_toArray, List.set_cons_zero, List.set_cons_succ]
              refine tk 6 (.pointer (some ⟨wp, 0, none⟩)) rfl (fun X hX => run_fieldOp0 rfl rfl) hHeld ?_
              simp only [List.getElem_toArray, List.getElem_cons_zero, List.getElem_cons_succ, Act.put, List.setIfInBounds_toArray, List.set_cons_zero, List.set_cons_succ]
              refine tk 7 (.agg (layC D)) rfl (fun X hX => run_loadOp (t := 29) (x := .tmp 48) (g := wp) rfl rfl (run_layMid (range_lay hX))) hHeld ?_
              simp only [List.getElem_toArray, List.getElem_cons_zero, List.getElem_cons_succ, Act.put, List.setIfInBounds_toArray, List.set_cons_zero, List.set_cons_succ]
              refine tk 8 (.pointer (some ⟨wp, 0, none⟩)) rfl (fun X hX => rfl) hHeld ?_
              simp only [List.getElem_toArray, List.getElem_cons_zero, List.getElem_cons_succ, Act.put, List.setIfInBounds_toArray, List.set_cons_zero, List.set_cons_succ]
              refine tk 9 (.pointer (some ⟨wp, 0, none⟩)) rfl (fun X hX => run_nilOp rfl rfl) hHeld ?_
              simp only [List.getElem_toArray, List.getElem_cons_zero, List.getElem_cons_succ, Act.put, List.setIfInBounds_toArray, List.set_cons_zero, List.set_cons_succ]
              refine tk 10 (.pointer (some ⟨wp, 0, none⟩)) rfl (fun X hX => run_fieldOp0 rfl rfl) hHeld ?_
              simp only [List.getElem_toArray, List.getElem_cons_zero, List.getElem_cons_succ, Act.put, List.setIfInBounds_toArray, List.set_cons_zero, List.set_cons_succ]
              refine tk 11 (.pointer (some ⟨wp, 9, none⟩)) rfl (fun X hX => run_fieldOpL rfl rfl) hHeld ?_
              simp only [List.getElem_toArray, List.getElem_cons_zero, List.getElem_cons_succ, Act.put, List.setIfInBounds_toArray, List.set_cons_zero, List.set_cons_succ]
              refine tk 12 (.int .i64 35) rfl (fun X hX => run_loadI9 rfl rfl hX) hHeld ?_
              simp only [List.getElem_toArray, List.getElem_cons_zero, List.getElem_cons_succ, Act.put, List.setIfInBounds_toArray, List.set_cons_zero, List.set_cons_succ]
              refine tk 13 (.int .i64 (j : Int)) rfl (fun X hX => rfl) hHeld ?_
              simp only [List.getElem_toArray, List.getElem_cons_zero, List.getElem_cons_succ, Act.put, List.setIfInBounds_toArray, List.set_cons_zero, List.set_cons_succ]
              refine tk 14 (.int .i64 (35 + (j : Int))) rfl (fun X hX => run_addOp hw rfl rfl rfl) hHeld ?_
              simp only [List.getElem_toArray, List.getElem_cons_zero, List.getElem_cons_succ, Act.put, List.setIfInBounds_toArray, List.set_cons_zero, List.set_cons_succ]
              refine wpAnyH_ready (rs := [15]) (by kernel_rfl) (by simp) ?_
              refine AllReadyH.cons rfl (fun K hK => ?_) AllReadyH.nil
              refine call_step Tryz.func14 (by kernel_rfl) (by rfl) #[.tmp 45, .tmp 49, .tmp 56] #[32, 29, 3] rfl rfl #[.pointer (some ⟨q, 0, none⟩), .agg (layC D), .int .i64 (35 + (j : Int))] (by simp [Act.eval]) ?_
              refine (free_s hB (HS.out.drew.pull 1) hok h0 h1 (by omega) j hjD HB.out).mono ?_
              rintro e w5 ⟨rfl, S⟩
              have S := S.pull 1
              clear HS
              refine ⟨_, rfl, hK.out _ _ S.range (fun hHeld => ?_)⟩
              clear hK K
              simp only [List.getElem_toArray, List.getElem_cons_zero, List.getElem_cons_succ, Act.put, List.setIfInBounds_toArray, List.set_cons_zero, List.set_cons_succ]
              refine tk 16 (.int .i64 0) rfl (fun X hX => rfl) hHeld ?_
              simp only [List.getElem_toArray, List.getElem_cons_zero, List.getElem_cons_succ, Act.put, List.setIfInBounds_toArray, List.set_cons_zero, List.set_cons_succ]
              refine wpAnyH_done (by kernel_rfl) ?_ _
              clear hHeld
              have HS := Aside0.mk S
              clear S
              go_upto_region 12 with fail
              refine wp_region_held_drew (S := fun X => X.rangeAt wp 0 (worldC D q p d).toList) (by kernel_rfl) (by simpa using HS.out.range) (fun hHeld => ?_)
              refine tk 0 (.pointer (some ⟨wp, 0, none⟩)) rfl (fun X hX => rfl) hHeld ?_
              simp only [List.getElem_toArray, List.getElem_cons_zero, List.getElem_cons_succ, Act.put, List.setIfInBounds_toArray, List.set_cons_zero, List.set_cons_succ]
              refine tk 1 (.pointer (some ⟨wp, 0, none⟩)) rfl (fun X hX => run_nilOp rfl rfl) hHeld ?_
              simp only [List.getElem_toArray, List.getElem_cons_zero, List.getElem_cons_succ, Act.put, List.setIfInBounds_toArray, List.set_cons_zero, List.set_cons_succ]
              refine tk 2 (.pointer (some ⟨wp, 22, none⟩)) rfl (fun X hX => run_fieldOp3 rfl rfl) hHeld ?_
              simp only [List.getElem_toArray, List.getElem_cons_zero, List.getElem_cons_succ, Act.put, List.setIfInBounds_toArray, List.set_cons_zero, List.set_cons_succ]
              refine tk 3 (.pointer (some ⟨q, 0, none⟩)) rfl (fun X hX => run_loadT rfl rfl hX) hHeld ?_
              simp only [List.getElem_toArray, List.getElem_cons_zero, List.getElem_cons_succ, Act.put, List.setIfInBounds_toArray, List.set_cons_zero, List.set_cons_succ]
              refine tk 4 (.pointer (some ⟨wp, 0, none⟩)) rfl (fun X hX => rfl) hHeld ?_
              simp only [List.getElem_toArray, List.getElem_cons_zero, List.getElem_cons_succ, Act.put, List.setIfInBounds_toArray, List.set_cons_zero, List.set_cons_succ]
              refine tk 5 (.pointer (some ⟨wp, 0, none⟩)) rfl (fun X hX => run_nilOp rfl rfl) hHeld ?_
              simp only [List.getElem_toArray, List.getElem_cons_zero, List.getElem_cons_succ, Act.put, List.setIfInBounds_toArray, List.set_cons_zero, List.set_cons_succ]
              refine tk 6 (.pointer (some ⟨wp, 0, none⟩)) rfl (fun X hX => run_fieldOp0 rfl rfl) hHeld ?_
              simp only [List.getElem_toArray, List.getElem_cons_zero, List.getElem_cons_succ, Act.put, List.setIfInBounds_toArray, List.set_cons_zero, List.set_cons_succ]
              refine tk 7 (.agg (layC D)) rfl (fun X hX => run_loadOp (t := 29) (x := .tmp 64) (g := wp) rfl rfl (run_layMid (range_lay hX))) hHeld ?_
              simp only [List.getElem_toArray, List.getElem_cons_zero, List.getElem_cons_succ, Act.put, List.setIfInBounds_toArray, List.set_cons_zero, List.set_cons_succ]
              refine tk 8 (.pointer (some ⟨wp, 0, none⟩)) rfl (fun X hX => rfl) hHeld ?_
              simp only [List.getElem_toArray, List.getElem_cons_zero, List.getElem_cons_succ, Act.put, List.setIfInBounds_toArray, List.set_cons_zero, List.set_cons_succ]
              refine tk 9 (.pointer (some ⟨wp, 0, none⟩)) rfl (fun X hX => run_nilOp rfl rfl) hHeld ?_
              simp only [List.getElem_toArray, List.getElem_cons_zero, List.getElem_cons_succ, Act.put, List.setIfInBounds_toArray, List.set_cons_zero, List.set_cons_succ]
              refine tk 10 (.pointer (some ⟨wp, 0, none⟩)) rfl (fun X hX => run_fieldOp0 rfl rfl) hHeld ?_
              simp only [List.getElem_toArray, List.getElem_cons_zero, List.getElem_cons_succ, Act.put, List.setIfInBounds_toArray, List.set_cons_zero, List.set_cons_succ]
              refine tk 11 (.pointer (some ⟨wp, 9, none⟩)) rfl (fun X hX => run_fieldOpL rfl rfl) hHeld ?_
              simp only [List.getElem_toArray, List.getElem_cons_zero, List.getElem_cons_succ, Act.put, List.setIfInBounds_toArray, List.set_cons_zero, List.set_cons_succ]
              refine tk 12 (.int .i64 35) rfl (fun X hX => run_loadI9 rfl rfl hX) hHeld ?_
              simp only [List.getElem_toArray, List.getElem_cons_zero, List.getElem_cons_succ, Act.put, List.setIfInBounds_toArray, List.set_cons_zero, List.set_cons_succ]
              refine tk 13 (.int .i64 (j : Int)) rfl (fun X hX => rfl) hHeld ?_
              simp only [List.getElem_toArray, List.getElem_cons_zero, List.getElem_cons_succ, Act.put, List.setIfInBounds_toArray, List.set_cons_zero, List.set_cons_succ]
              refine tk 14 (.int .i64 (35 + (j : Int))) rfl (fun X hX => run_addOp hw rfl rfl rfl) hHeld ?_
              simp only [List.getElem_toArray, List.getElem_cons_zero, List.getElem_cons_succ, Act.put, List.setIfInBounds_toArray, List.set_cons_zero, List.set_cons_succ]
              refine wpAnyH_ready (rs := [15]) (by kernel_rfl) (by simp) ?_
              refine AllReadyH.cons rfl (fun K hK => ?_) AllReadyH.nil
              refine call_step Tryz.func14 (by kernel_rfl) (by rfl) #[.tmp 61, .tmp 65, .tmp 72] #[32, 29, 3] rfl rfl #[.pointer (some ⟨q, 0, none⟩), .agg (layC D), .int .i64 (35 + (j : Int))] (by simp [Act.eval]) ?_
              refine (free_no hB (HS.out.drew.pull 1) (Bm.clrB_ok hok j) h0 h1 j hjD (by rw [Bm.bit_clrB hok (by rw [hlen]; omega), if_pos rfl])).mono ?_
              rintro e w6 ⟨rfl, S⟩
              have S := S.pull 1
              clear HS
              refine ⟨_, rfl, hK.out _ _ S.range (fun hHeld => ?_)⟩
              clear hK K
              simp only [List.getElem_toArray, List.getElem_cons_zero, List.getElem_cons_succ, Act.put, List.setIfInBounds_toArray, List.set_cons_zero, List.set_cons_succ]
              refine tk 16 (.int .i64 83) rfl (fun X hX => rfl) hHeld ?_
              simp only [List.getElem_toArray, List.getElem_cons_zero, List.getElem_cons_succ, Act.put, List.setIfInBounds_toArray, List.set_cons_zero, List.set_cons_succ]
              refine wpAnyH_done (by kernel_rfl) ?_ _
              clear hHeld
              have e0 := (S.pull 2).val j (useL_get B hjD)
              have f0 := (S.pull 2).row_free (by omega) j
              have S7 := (S.pull 2).put j (.bool false)
              rw [useL_put (C := Bm.clrB B j) (fun i => Bm.bit_clrB hok (by rw [hlen]; omega) i)] at S7
              have HS := Aside0.mk S7
              clear S S7
              go_wp2_with (first | (go_at_call 13; refine (num8 _ _).mono ?_; rintro _ _ ⟨rfl, rfl⟩))
              go_ret
              exact ⟨rfl, Bm.clrB B j, Bm.clrB_ok hok j, ((HS.out.pull 2).pull 2)⟩
            · have d1 : ((k0 : Int) - Bm.cnt B j == 0) = false := by simp; omega
              have hw : IntKind.i64.wrap ((k0 : Int) - Bm.cnt B j - 1) = (k0 : Int) - Bm.cnt B j - 1 := by rw [IntKind.wrap_i64]; omega
              go_wp2_with fail
              refine ⟨⟨j + 1, hjD, by have := HC.out; omega, ?_, by go_num, trivial⟩, by simp [intOf]; omega⟩
              rw [HC.out]
              congr 1
              omega
        · obtain rfl : j = D := by omega
          rw [HN.out] at hjk
          omega
  | false =>
    obtain ⟨m, hm, hall, hfr⟩ := Bm.lowest B D
    have hlo := lowest_s (S0.pull 3) h1 m hm hall hfr
    have HS := Aside0.mk S
    clear S S0 c1
    go_upto_region 17 with fail
    clear c0
    go_wp2_with fail
    refine hlo.mono ?_
    clear hlo
    rintro _ W2 ⟨rfl, rfl⟩
    by_cases hmD : m < D
    · have hw : IntKind.i64.wrap (35 + (m : Int)) = 35 + (m : Int) := by rw [IntKind.wrap_i64]; omega
      rw [if_pos hmD]
      go_wp2_with fail
      refine wp_region_held_drew (S := fun X => X.rangeAt wp 0 (worldC D q p d).toList) (by kernel_rfl) (by simpa using HS.out.range) (fun hHeld => ?_)
      refine tk 0 (.pointer (some ⟨wp, 0, none⟩)) rfl (fun X hX => rfl) hHeld ?_
      simp only [List.getElem_toArray, List.getElem_cons_zero, List.getElem_cons_succ, Act.put, List.setIfInBounds_toArray, List.set_cons_zero, List.set_cons_succ]
      refine tk 1 (.pointer (some ⟨wp, 0, none⟩)) rfl (fun X hX => run_nilOp rfl rfl) hHeld ?_
      simp only [List.getElem_toArray, List.getElem_cons_zero, List.getElem_cons_succ, Act.put, List.setIfInBounds_toArray, List.set_cons_zero, List.set_cons_succ]
      refine tk 2 (.pointer (some ⟨wp, 22, none⟩)) rfl (fun X hX => run_fieldOp3 rfl rfl) hHeld ?_
      simp only [List.getElem_toArray, List.getElem_cons_zero, List.getElem_cons_succ, Act.put, List.setIfInBounds_toArray, List.set_cons_zero, List.set_cons_succ]
      refine tk 3 (.pointer (some ⟨q, 0, none⟩)) rfl (fun X hX => run_loadT rfl rfl hX) hHeld ?_
      simp only [List.getElem_toArray, List.getElem_cons_zero, List.getElem_cons_succ, Act.put, List.setIfInBounds_toArray, List.set_cons_zero, List.set_cons_succ]
      refine tk 4 (.pointer (some ⟨wp, 0, none⟩)) rfl (fun X hX => rfl) hHeld ?_
      simp only [List.getElem_toArray, List.getElem_cons_zero, List.getElem_cons_succ, Act.put, List.setIfInBounds_toArray, List.set_cons_zero, List.set_cons_succ]
      refine tk 5 (.pointer (some ⟨wp, 0, none⟩)) rfl (fun X hX => run_nilOp rfl rfl) hHeld ?_
      simp only [List.getElem_toArray, List.getElem_cons_zero, List.getElem_cons_succ, Act.put, List.setIfInBounds_toArray, List.set_cons_zero, List.set_cons_succ]
      refine tk 6 (.pointer (some ⟨wp, 0, none⟩)) rfl (fun X hX => run_fieldOp0 rfl rfl) hHeld ?_
      simp only [List.getElem_toArray, List.getElem_cons_zero, List.getElem_cons_succ, Act.put, List.setIfInBounds_toArray, List.set_cons_zero, List.set_cons_succ]
      refine tk 7 (.agg (layC D)) rfl (fun X hX => run_loadOp (t := 29) (x := .tmp 98) (g := wp) rfl rfl (run_layMid (range_lay hX))) hHeld ?_
      simp only [List.getElem_toArray, List.getElem_cons_zero, List.getElem_cons_succ, Act.put, List.setIfInBounds_toArray, List.set_cons_zero, List.set_cons_succ]
      refine wpAnyH_ready (rs := [8]) (by kernel_rfl) (by simp) ?_
      refine AllReadyH.cons rfl (fun K hK => ?_) AllReadyH.nil
      refine call_step Tryz.func12 (by kernel_rfl) (by rfl) #[.tmp 95, .tmp 99] #[32, 29] rfl rfl #[.pointer (some ⟨q, 0, none⟩), .agg (layC D)] (by simp [Act.eval]) ?_
      refine (alloc_yes hB (HS.out.drew.pull 1) hok h0 h1 (by omega) m hmD hall (hfr hmD)).mono ?_
      rintro e w5 ⟨rfl, S⟩
      have S := S.pull 1
      clear HS
      refine ⟨_, rfl, hK.out _ _ S.range (fun hHeld => ?_)⟩
      clear hK K
      simp only [List.getElem_toArray, List.getElem_cons_zero, List.getElem_cons_succ, Act.put, List.setIfInBounds_toArray, List.set_cons_zero, List.set_cons_succ]
      refine tk 9 (.tuple #[.int .i64 (35 + (m : Int)), .int .i64 0]) rfl (fun X hX => rfl) hHeld ?_
      simp only [List.getElem_toArray, List.getElem_cons_zero, List.getElem_cons_succ, Act.put, List.setIfInBounds_toArray, List.set_cons_zero, List.set_cons_succ]
      refine tk 10 (.int .i64 (35 + (m : Int))) rfl (fun X hX => rfl) hHeld ?_
      simp only [List.getElem_toArray, List.getElem_cons_zero, List.getElem_cons_succ, Act.put, List.setIfInBounds_toArray, List.set_cons_zero, List.set_cons_succ]
      refine tk 11 (.int .i64 0) rfl (fun X hX => rfl) hHeld ?_
      simp only [List.getElem_toArray, List.getElem_cons_zero, List.getElem_cons_succ, Act.put, List.setIfInBounds_toArray, List.set_cons_zero, List.set_cons_succ]
      refine tk 12 (.int .i64 (35 + (m : Int))) rfl (fun X hX => rfl) hHeld ?_
      simp only [List.getElem_toArray, List.getElem_cons_zero, List.getElem_cons_succ, Act.put, List.setIfInBounds_toArray, List.set_cons_zero, List.set_cons_succ]
      refine tk 13 (.int .i64 0) rfl (fun X hX => rfl) hHeld ?_
      simp only [List.getElem_toArray, List.getElem_cons_zero, List.getElem_cons_succ, Act.put, List.setIfInBounds_toArray, List.set_cons_zero, List.set_cons_succ]
      refine wpAnyH_done (by kernel_rfl) ?_ _
      clear hHeld
      have e0 := (S.pull 2).val m (useL_get B hmD)
      have f0 := (S.pull 2).row_free (by omega) m
      have S7 := (S.pull 2).put m (.bool true)
      rw [useL_put (C := Bm.setB B m) (fun i => Bm.bit_setB hok (by rw [hlen]; omega) i)] at S7
      have c9 := (S7.pull 1).cell 9 (v := .int .i64 35) rfl
      have HS := Aside0.mk S7
      have hlt : (m : Int) < (D : Int) := by omega
      clear S S7
      go_wp2_with (first | (go_at_call 13; refine (num8 _ _).mono ?_; rintro _ _ ⟨rfl, rfl⟩))
      go_ret
      exact ⟨rfl, Bm.setB B m, Bm.setB_ok hok m, ((HS.out.pull 2).pull 2)⟩
    · rw [if_neg hmD]
      go_wp2_with fail
      refine wp_region_held_drew (S := fun X => X.rangeAt wp 0 (worldC D q p d).toList) (by kernel_rfl) (by simpa using HS.out.range) (fun hHeld => ?_)
      refine tk 0 (.pointer (some ⟨wp, 0, none⟩)) rfl (fun X hX => rfl) hHeld ?_
      simp only [List.getElem_toArray, List.getElem_cons_zero, List.getElem_cons_succ, Act.put, List.setIfInBounds_toArray, List.set_cons_zero, List.set_cons_succ]
      refine tk 1 (.pointer (some ⟨wp, 0, none⟩)) rfl (fun X hX => run_nilOp rfl rfl) hHeld ?_
      simp only [List.getElem_toArray, List.getElem_cons_zero, List.getElem_cons_succ, Act.put, List.setIfInBounds_toArray, List.set_cons_zero, List.set_cons_succ]
      refine tk 2 (.pointer (some ⟨wp, 22, none⟩)) rfl (fun X hX => run_fieldOp3 rfl rfl) hHeld ?_
      simp only [List.getElem_toArray, List.getElem_cons_zero, List.getElem_cons_succ, Act.put, List.setIfInBounds_toArray, List.set_cons_zero, List.set_cons_succ]
      refine tk 3 (.pointer (some ⟨q, 0, none⟩)) rfl (fun X hX => run_loadT rfl rfl hX) hHeld ?_
      simp only [List.getElem_toArray, List.getElem_cons_zero, List.getElem_cons_succ, Act.put, List.setIfInBounds_toArray, List.set_cons_zero, List.set_cons_succ]
      refine tk 4 (.pointer (some ⟨wp, 0, none⟩)) rfl (fun X hX => rfl) hHeld ?_
      simp only [List.getElem_toArray, List.getElem_cons_zero, List.getElem_cons_succ, Act.put, List.setIfInBounds_toArray, List.set_cons_zero, List.set_cons_succ]
      refine tk 5 (.pointer (some ⟨wp, 0, none⟩)) rfl (fun X hX => run_nilOp rfl rfl) hHeld ?_
      simp only [List.getElem_toArray, List.getElem_cons_zero, List.getElem_cons_succ, Act.put, List.setIfInBounds_toArray, List.set_cons_zero, List.set_cons_succ]
      refine tk 6 (.pointer (some ⟨wp, 0, none⟩)) rfl (fun X hX => run_fieldOp0 rfl rfl) hHeld ?_
      simp only [List.getElem_toArray, List.getElem_cons_zero, List.getElem_cons_succ, Act.put, List.setIfInBounds_toArray, List.set_cons_zero, List.set_cons_succ]
      refine tk 7 (.agg (layC D)) rfl (fun X hX => run_loadOp (t := 29) (x := .tmp 98) (g := wp) rfl rfl (run_layMid (range_lay hX))) hHeld ?_
      simp only [List.getElem_toArray, List.getElem_cons_zero, List.getElem_cons_succ, Act.put, List.setIfInBounds_toArray, List.set_cons_zero, List.set_cons_succ]
      refine wpAnyH_ready (rs := [8]) (by kernel_rfl) (by simp) ?_
      refine AllReadyH.cons rfl (fun K hK => ?_) AllReadyH.nil
      refine call_step Tryz.func12 (by kernel_rfl) (by rfl) #[.tmp 95, .tmp 99] #[32, 29] rfl rfl #[.pointer (some ⟨q, 0, none⟩), .agg (layC D)] (by simp [Act.eval]) ?_
      refine (alloc_no hB (HS.out.drew.pull 1) hok h0 h1 (by omega) (fun i hi => hall i (by omega))).mono ?_
      rintro e w5 ⟨rfl, S⟩
      have S := S.pull 1
      clear HS
      refine ⟨_, rfl, hK.out _ _ S.range (fun hHeld => ?_)⟩
      clear hK K
      simp only [List.getElem_toArray, List.getElem_cons_zero, List.getElem_cons_succ, Act.put, List.setIfInBounds_toArray, List.set_cons_zero, List.set_cons_succ]
      refine tk 9 (.tuple #[.int .i64 0, .int .i64 81]) rfl (fun X hX => rfl) hHeld ?_
      simp only [List.getElem_toArray, List.getElem_cons_zero, List.getElem_cons_succ, Act.put, List.setIfInBounds_toArray, List.set_cons_zero, List.set_cons_succ]
      refine tk 10 (.int .i64 0) rfl (fun X hX => rfl) hHeld ?_
      simp only [List.getElem_toArray, List.getElem_cons_zero, List.getElem_cons_succ, Act.put, List.setIfInBounds_toArray, List.set_cons_zero, List.set_cons_succ]
      refine tk 11 (.int .i64 81) rfl (fun X hX => rfl) hHeld ?_
      simp only [List.getElem_toArray, List.getElem_cons_zero, List.getElem_cons_succ, Act.put, List.setIfInBounds_toArray, List.set_cons_zero, List.set_cons_succ]
      refine tk 12 (.int .i64 0) rfl (fun X hX => rfl) hHeld ?_
      simp only [List.getElem_toArray, List.getElem_cons_zero, List.getElem_cons_succ, Act.put, List.setIfInBounds_toArray, List.set_cons_zero, List.set_cons_succ]
      refine tk 13 (.int .i64 81) rfl (fun X hX => rfl) hHeld ?_
      simp only [List.getElem_toArray, List.getElem_cons_zero, List.getElem_cons_succ, Act.put, List.setIfInBounds_toArray, List.set_cons_zero, List.set_cons_succ]
      refine wpAnyH_done (by kernel_rfl) ?_ _
      clear hHeld
      have HS := Aside0.mk S
      clear S
      go_wp2_with (first | (go_at_call 13; refine (num8 _ _).mono ?_; rintro _ _ ⟨rfl, rfl⟩))
      go_ret
      exact ⟨rfl, B, hok, (((HS.out.pull 1).sp_more (Nat.le_succ k)).swap)⟩
end
end Go.Proofs.YtlhlmjkocmahmaaGreatDoor.Sep
/- agrees: Has and Used tell the plain list. -/
namespace Go.Proofs.YtlhlmjkocmahmaaGreatDoor.Sep
open Go.Proofs.YtlhlmjkocmahmaaGreatDoor Go.Proofs Go.RowKit Go.ChangeMaps Go.Proofs.YtlhlmjkocmahmaaGreatDoorW.PrintWords Go.Proofs.YtlhlmjkocmahmaaGreatDoorW.PrintLast Go.Proofs.YtlhlmjkocmahmaaGreatDoorW.PrintMore Go.Proofs.YtlhlmjkocmahmaaGreatDoor.Dev Go.Proofs.YtlhlmjkocmahmaaGreatDoor.Errs Go.Proofs.YtlhlmjkocmahmaaGreatDoor.Jr Go.Proofs.YtlhlmjkocmahmaaGreatDoor.Help Go.Proofs.YtlhlmjkocmahmaaGreatDoor.IMap
set_option linter.unusedVariables false
set_option linter.unusedSimpArgs false
section
variable {w0 w w' : World} {R : List Asn} {sa : Addr}
set_option maxRecDepth 100000 in
set_option maxHeartbeats 8000000 in
theorem agrees_s {wp q p d D n k g c : Nat} {mk : Int} {sv : List (Int × Nat)} {Bd B : List Int} (hB : Bds w0) (S : Sep w0 w (Blk wp (worldC D q p d) 35 :: SpA q p d D n k mk sv Bd B :: Use g c D B :: R)) (hok : Bm.OkL B) (h0 : 8 ≤ D) (h5 : D ≤ 500) :
    Calls Tryz.prog 40 #[.pointer (some ⟨wp, 0, none⟩), .slice (some ⟨g, 0, none⟩) D c] w fun e w' => e = .returned (.bool true) ∧ Sep w0 w' (Blk wp (worldC D q p d) 35 :: SpA q p d D n k mk sv Bd B :: Use g c D B :: R) := by
  have h1 : D ≤ 4000 := by omega
  have HS := Aside0.mk S
  clear S
  go_enter Tryz.func40, Tryz.ntmps40
  go_upto_region 1 with fail
  refine wp_region_held_drew (S := fun X => X.rangeAt wp 0 (worldC D q p d).toList) (by kernel_rfl) (by simpa using HS.out.range) (fun hHeld => ?_)
  refine tk 0 (.pointer (some ⟨wp, 0, none⟩)) rfl (fun X hX => rfl) hHeld ?_
  simp only [List.getElem_toArray, List.getElem_cons_zero, List.getElem_cons_succ, Act.put, List.setIfInBounds_toArray, List.set_cons_zero, List.set_cons_succ]
  refine tk 1 (.pointer (some ⟨wp, 0, none⟩)) rfl (fun X hX => run_nilOp rfl rfl) hHeld ?_
  simp only [List.getElem_toArray, List.getElem_cons_zero, List.getElem_cons_succ, Act.put, List.setIfInBounds_toArray, List.set_cons_zero, List.set_cons_succ]
  refine tk 2 (.pointer (some ⟨wp, 22, none⟩)) rfl (fun X hX => run_fieldOp3 rfl rfl) hHeld ?_
  simp only [List.getElem_toArray, List.getElem_cons_zero, List.getElem_cons_succ, Act.put, List.setIfInBounds_toArray, List.set_cons_zero, List.set_cons_succ]
  refine tk 3 (.pointer (some ⟨q, 0, none⟩)) rfl (fun X hX => run_loadT rfl rfl hX) hHeld ?_
  simp only [List.getElem_toArray, List.getElem_cons_zero, List.getElem_cons_succ, Act.put, List.setIfInBounds_toArray, List.set_cons_zero, List.set_cons_succ]
  refine tk 4 (.pointer (some ⟨wp, 0, none⟩)) rfl (fun X hX => rfl) hHeld ?_
  simp only [List.getElem_toArray, List.getElem_cons_zero, List.getElem_cons_succ, Act.put, List.setIfInBounds_toArray, List.set_cons_zero, List.set_cons_succ]
  refine tk 5 (.pointer (some ⟨wp, 0, none⟩)) rfl (fun X hX => run_nilOp rfl rfl) hHeld ?_
  simp only [List.getElem_toArray, List.getElem_cons_zero, List.getElem_cons_succ, Act.put, List.setIfInBounds_toArray, List.set_cons_zero, List.set_cons_succ]
  refine tk 6 (.pointer (some ⟨wp, 0, none⟩)) rfl (fun X hX => run_fieldOp0 rfl rfl) hHeld ?_
  simp only [List.getElem_toArray, List.getElem_cons_zero, List.getElem_cons_succ, Act.put, List.setIfInBounds_toArray, List.set_cons_zero, List.set_cons_succ]
  refine tk 7 (.agg (layC D)) rfl (fun X hX => run_loadOp (t := 29) (x := .tmp 22) (g := wp) rfl rfl (run_layMid (range_lay hX))) hHeld ?_
  simp only [List.getElem_toArray, List.getElem_cons_zero, List.getElem_cons_succ, Act.put, List.setIfInBounds_toArray, List.set_cons_zero, List.set_cons_succ]
  refine wpAnyH_ready (rs := [8]) (by kernel_rfl) (by simp) ?_
  refine AllReadyH.cons rfl (fun K hK => ?_) AllReadyH.nil
  refine call_step Tryz.func15 (by kernel_rfl) (by rfl) #[.tmp 19, .tmp 23] #[32, 29] rfl rfl #[.pointer (some ⟨q, 0, none⟩), .agg (layC D)] (by simp [Act.eval]) ?_
  refine (used_s hB (HS.out.drew.pull 1) hok h0 h1).mono ?_
  rintro e w5 ⟨rfl, S⟩
  have S := S.pull 1
  clear HS
  refine ⟨_, rfl, hK.out _ _ S.range (fun hHeld => ?_)⟩
  clear hK K
  simp only [List.getElem_toArray, List.getElem_cons_zero, List.getElem_cons_succ, Act.put, List.setIfInBounds_toArray, List.set_cons_zero, List.set_cons_succ]
  refine tk 9 (.tuple #[.int .i64 (Bm.cnt B D), .int .i64 0]) rfl (fun X hX => rfl) hHeld ?_
  simp only [List.getElem_toArray, List.getElem_cons_zero, List.getElem_cons_succ, Act.put, List.setIfInBounds_toArray, List.set_cons_zero, List.set_cons_succ]
  refine tk 10 (.int .i64 (Bm.cnt B D)) rfl (fun X hX => rfl) hHeld ?_
  simp only [List.getElem_toArray, List.getElem_cons_zero, List.getElem_cons_succ, Act.put, List.setIfInBounds_toArray, List.set_cons_zero, List.set_cons_succ]
  refine tk 11 (.int .i64 0) rfl (fun X hX => rfl) hHeld ?_
  simp only [List.getElem_toArray, List.getElem_cons_zero, List.getElem_cons_succ, Act.put, List.setIfInBounds_toArray, List.set_cons_zero, List.set_cons_succ]
  refine tk 12 (.int .i64 (Bm.cnt B D)) rfl (fun X hX => rfl) hHeld ?_
  simp only [List.getElem_toArray, List.getElem_cons_zero, List.getElem_cons_succ, Act.put, List.setIfInBounds_toArray, List.set_cons_zero, List.set_cons_succ]
  refine tk 13 (.int .i64 0) rfl (fun X hX => rfl) hHeld ?_
  simp only [List.getElem_toArray, List.getElem_cons_zero, List.getElem_cons_succ, Act.put, List.setIfInBounds_toArray, List.set_cons_zero, List.set_cons_succ]
  refine wpAnyH_done (by kernel_rfl) ?_ _
  clear hHeld
  have hct := count_s (S.pull 2) h1
  have hcp := Bm.cnt_pos B D
  have HS := Aside0.mk S
  clear S
  obtain ⟨N, hN⟩ : ∃ N, N = Bm.cnt B D := ⟨_, rfl⟩
  rw [← hN] at hct ⊢
  clear hN hcp
  go_upto_block 0 with (first | (go_at_call 13; refine (num8 _ _).mono ?_; rintro _ _ ⟨rfl, rfl⟩) | (refine hct.mono ?_; clear hct; rintro _ _ ⟨rfl, rfl⟩))
  go_cut [7] (fun _ wx => Sep w0 wx (Blk wp (worldC D q p d) 35 :: SpA q p d D n k mk sv Bd B :: Use g c D B :: R))
  case first =>
    go_wp2_with fail
    go_loopw [7] (fun iv wr => ∃ j : Nat, j ≤ D ∧ iv = .int .i64 (j : Int) ∧ Sep w0 wr (Blk wp (worldC D q p d) 35 :: SpA q p d D n k mk sv Bd B :: Use g c D B :: R)) (fun i _ => (D - intOf i).toNat)
    case atStart => exact ⟨0, Nat.zero_le _, rfl, HS.out⟩
    case round =>
      clear HS
      obtain ⟨j, hj, rfl, S⟩ := hrel
      have HS := Aside0.mk S
      clear S
      by_cases hjD : j < D
      · have hlt : (j : Int) < (D : Int) := by omega
        have hw : IntKind.i64.wrap (35 + (j : Int)) = 35 + (j : Int) := by rw [IntKind.wrap_i64]; omega
        go_wp2_with fail
        refine wp_region_held_drew (S := fun X => X.rangeAt wp 0 (worldC D q p d).toList) (by kernel_rfl) (by simpa using HS.out.range) (fun hHeld => ?_)
        refine tk 0 (.pointer (some ⟨wp, 0, none⟩)) rfl (fun X hX => rfl) hHeld ?_
        simp only [List.getElem_toArray, List.getElem_cons_zero, List.getElem_cons_succ, Act.put, List.setIfInBounds_toArray, List.set_cons_zero, List.set_cons_succ]
        refine tk 1 (.pointer (some ⟨wp, 0, none⟩)) rfl (fun X hX => run_nilOp rfl rfl) hHeld ?_
        simp only [List.getElem_toArray, List.getElem_cons_zero, List.getElem_cons_succ, Act.put, List.setIfInBounds_toArray, List.set_cons_zero, List.set_cons_succ]
        refine tk 2 (.pointer (some ⟨wp, 22, none⟩)) rfl (fun X hX => run_fieldOp3 rfl rfl) hHeld ?_
        simp only [List.getElem_toArray, List.getElem_cons_zero, List.getElem_cons_succ, Act.put, List.setIfInBounds_toArray, List.set_cons_zero, List.set_cons_succ]
        refine tk 3 (.pointer (some ⟨q, 0, none⟩)) rfl (fun X hX => run_loadT rfl rfl hX) hHeld ?_
        simp only [List.getElem_toArray, List.getElem_cons_zero, List.getElem_cons_succ, Act.put, List.setIfInBounds_toArray, List.set_cons_zero, List.set_cons_succ]
        refine tk 4 (.pointer (some ⟨wp, 0, none⟩)) rfl (fun X hX => rfl) hHeld ?_
        simp only [List.getElem_toArray, List.getElem_cons_zero, List.getElem_cons_succ, Act.put, List.setIfInBounds_toArray, List.set_cons_zero, List.set_cons_succ]
        refine tk 5 (.pointer (some ⟨wp, 0, none⟩)) rfl (fun X hX => run_nilOp rfl rfl) hHeld ?_
        simp only [List.getElem_toArray, List.getElem_cons_zero, List.getElem_cons_succ, Act.put, List.setIfInBounds_toArray, List.set_cons_zero, List.set_cons_succ]
        refine tk 6 (.pointer (some ⟨wp, 0, none⟩)) rfl (fun X hX => run_fieldOp0 rfl rfl) hHeld ?_
        simp only [List.getElem_toArray, List.getElem_cons_zero, List.getElem_cons_succ, Act.put, List.setIfInBounds_toArray, List.set_cons_zero, List.set_cons_succ]
        refine tk 7 (.agg (layC D)) rfl (fun X hX => run_loadOp (t := 29) (x := .tmp 49) (g := wp) rfl rfl (run_layMid (range_lay hX))) hHeld ?_
        simp only [List.getElem_toArray, List.getElem_cons_zero, List.getElem_cons_succ, Act.put, List.setIfInBounds_toArray, List.set_cons_zero, List.set_cons_succ]
        refine tk 8 (.pointer (some ⟨wp, 0, none⟩)) rfl (fun X hX => rfl) hHeld ?_
        simp only [List.getElem_toArray, List.getElem_cons_zero, List.getElem_cons_succ, Act.put, List.setIfInBounds_toArray, List.set_cons_zero, List.set_cons_succ]
        refine tk 9 (.pointer (some ⟨wp, 0, none⟩)) rfl (fun X hX => run_nilOp rfl rfl) hHeld ?_
        simp only [List.getElem_toArray, List.getElem_cons_zero, List.getElem_cons_succ, Act.put, List.setIfInBounds_toArray, List.set_cons_zero, List.set_cons_succ]
        refine tk 10 (.pointer (some ⟨wp, 0, none⟩)) rfl (fun X hX => run_fieldOp0 rfl rfl) hHeld ?_
        simp only [List.getElem_toArray, List.getElem_cons_zero, List.getElem_cons_succ, Act.put, List.setIfInBounds_toArray, List.set_cons_zero, List.set_cons_succ]
        refine tk 11 (.pointer (some ⟨wp, 9, none⟩)) rfl (fun X hX => run_fieldOpL rfl rfl) hHeld ?_
        simp only [List.getElem_toArray, List.getElem_cons_zero, List.getElem_cons_succ, Act.put, List.setIfInBounds_toArray, List.set_cons_zero, List.set_cons_succ]
        refine tk 12 (.int .i64 35) rfl (fun X hX => run_loadI9 rfl rfl hX) hHeld ?_
        simp only [List.getElem_toArray, List.getElem_cons_zero, List.getElem_cons_succ, Act.put, List.setIfInBounds_toArray, List.set_cons_zero, List.set_cons_succ]
        refine tk 13 (.int .i64 (j : Int)) rfl (fun X hX => rfl) hHeld ?_
        simp only [List.getElem_toArray, List.getElem_cons_zero, List.getElem_cons_succ, Act.put, List.setIfInBounds_toArray, List.set_cons_zero, List.set_cons_succ]
        refine tk 14 (.int .i64 (35 + (j : Int))) rfl (fun X hX => run_addOp hw rfl rfl rfl) hHeld ?_
        simp only [List.getElem_toArray, List.getElem_cons_zero, List.getElem_cons_succ, Act.put, List.setIfInBounds_toArray, List.set_cons_zero, List.set_cons_succ]
        refine wpAnyH_ready (rs := [15]) (by kernel_rfl) (by simp) ?_
        refine AllReadyH.cons rfl (fun K hK => ?_) AllReadyH.nil
        refine call_step Tryz.func38 (by kernel_rfl) (by rfl) #[.tmp 46, .tmp 50, .tmp 57] #[32, 29, 3] rfl rfl #[.pointer (some ⟨q, 0, none⟩), .agg (layC D), .int .i64 (35 + (j : Int))] (by simp [Act.eval]) ?_
        refine (has_s hB (HS.out.drew.pull 1) hok h0 h1 j hjD).mono ?_
        rintro e w6 ⟨rfl, S⟩
        have S := S.pull 1
        clear HS
        refine ⟨_, rfl, hK.out _ _ S.range (fun hHeld => ?_)⟩
        clear hK K
        simp only [List.getElem_toArray, List.getElem_cons_zero, List.getElem_cons_succ, Act.put, List.setIfInBounds_toArray, List.set_cons_zero, List.set_cons_succ]
        refine tk 16 (.tuple #[.bool (Bm.bit B j), .int .i64 0]) rfl (fun X hX => rfl) hHeld ?_
        simp only [List.getElem_toArray, List.getElem_cons_zero, List.getElem_cons_succ, Act.put, List.setIfInBounds_toArray, List.set_cons_zero, List.set_cons_succ]
        refine tk 17 (.bool (Bm.bit B j)) rfl (fun X hX => rfl) hHeld ?_
        simp only [List.getElem_toArray, List.getElem_cons_zero, List.getElem_cons_succ, Act.put, List.setIfInBounds_toArray, List.set_cons_zero, List.set_cons_succ]
        refine tk 18 (.int .i64 0) rfl (fun X hX => rfl) hHeld ?_
        simp only [List.getElem_toArray, List.getElem_cons_zero, List.getElem_cons_succ, Act.put, List.setIfInBounds_toArray, List.set_cons_zero, List.set_cons_succ]
        refine tk 19 (.bool (Bm.bit B j)) rfl (fun X hX => rfl) hHeld ?_
        simp only [List.getElem_toArray, List.getElem_cons_zero, List.getElem_cons_succ, Act.put, List.setIfInBounds_toArray, List.set_cons_zero, List.set_cons_succ]
        refine tk 20 (.int .i64 0) rfl (fun X hX => rfl) hHeld ?_
        simp only [List.getElem_toArray, List.getElem_cons_zero, List.getElem_cons_succ, Act.put, List.setIfInBounds_toArray, List.set_cons_zero, List.set_cons_succ]
        refine wpAnyH_done (by kernel_rfl) ?_ _
        clear hHeld
        have c0 := (S.pull 2).val j (useL_get B hjD)
        have HS := Aside0.mk S
        clear S
        cases hb : Bm.bit B j
        · rw [hb] at c0
          clear hb
          go_wp2_with (first | (go_at_call 13; refine (num8 _ _).mono ?_; rintro _ _ ⟨rfl, rfl⟩))
          exact ⟨⟨j + 1, hjD, by go_num, HS.out⟩, by simp [intOf]; omega⟩
        · rw [hb] at c0
          clear hb
          go_wp2_with (first | (go_at_call 13; refine (num8 _ _).mono ?_; rintro _ _ ⟨rfl, rfl⟩))
          exact ⟨⟨j + 1, hjD, by go_num, HS.out⟩, by simp [intOf]; omega⟩
      · have hlt : ¬ (j : Int) < (D : Int) := by omega
        go_wp2_with fail
        go_meet
        case rel => exact HS.out
  case rest =>
  clear HS
  have HS := Aside0.mk hcut
  clear hcut
  have hw : IntKind.i64.wrap (35 + (D : Int)) = 35 + (D : Int) := by rw [IntKind.wrap_i64]; omega
  have hw34 : IntKind.i64.wrap (35 - 1) = 34 := by decide
  go_upto_region 10 with fail
  refine wp_region_held_drew (S := fun X => X.rangeAt wp 0 (worldC D q p d).toList) (by kernel_rfl) (by simpa using HS.out.range) (fun hHeld => ?_)
  refine tk 0 (.pointer (some ⟨wp, 0, none⟩)) rfl (fun X hX => rfl) hHeld ?_
  simp only [List.getElem_toArray, List.getElem_cons_zero, List.getElem_cons_succ, Act.put, List.setIfInBounds_toArray, List.set_cons_zero, List.set_cons_succ]
  refine tk 1 (.pointer (some ⟨wp, 0, none⟩)) rfl (fun X hX => run_nilOp rfl rfl) hHeld ?_
  simp only [List.getElem_toArray, List.getElem_cons_zero, List.getElem_cons_succ, Act.put, List.setIfInBounds_toArray, List.set_cons_zero, List.set_cons_succ]
  refine tk 2 (.pointer (some ⟨wp, 22, none⟩)) rfl (fun X hX => run_fieldOp3 rfl rfl) hHeld ?_
  simp only [List.getElem_toArray, List.getElem_cons_zero, List.getElem_cons_succ, Act.put, List.setIfInBounds_toArray, List.set_cons_zero, List.set_cons_succ]
  refine tk 3 (.pointer (some ⟨q, 0, none⟩)) rfl (fun X hX => run_loadT rfl rfl hX) hHeld ?_
  simp only [List.getElem_toArray, List.getElem_cons_zero, List.getElem_cons_succ, Act.put, List.setIfInBounds_toArray, List.set_cons_zero, List.set_cons_succ]
  refine tk 4 (.pointer (some ⟨wp, 0, none⟩)) rfl (fun X hX => rfl) hHeld ?_
  simp only [List.getElem_toArray, List.getElem_cons_zero, List.getElem_cons_succ, Act.put, List.setIfInBounds_toArray, List.set_cons_zero, List.set_cons_succ]
  refine tk 5 (.pointer (some ⟨wp, 0, none⟩)) rfl (fun X hX => run_nilOp rfl rfl) hHeld ?_
  simp only [List.getElem_toArray, List.getElem_cons_zero, List.getElem_cons_succ, Act.put, List.setIfInBounds_toArray, List.set_cons_zero, List.set_cons_succ]
  refine tk 6 (.pointer (some ⟨wp, 0, none⟩)) rfl (fun X hX => run_fieldOp0 rfl rfl) hHeld ?_
  simp only [List.getElem_toArray, List.getElem_cons_zero, List.getElem_cons_succ, Act.put, List.setIfInBounds_toArray, List.set_cons_zero, List.set_cons_succ]
  refine tk 7 (.agg (layC D)) rfl (fun X hX => run_loadOp (t := 29) (x := .tmp 79) (g := wp) rfl rfl (run_layMid (range_lay hX))) hHeld ?_
  simp only [List.getElem_toArray, List.getElem_cons_zero, List.getElem_cons_succ, Act.put, List.setIfInBounds_toArray, List.set_cons_zero, List.set_cons_succ]
  refine tk 8 (.pointer (some ⟨wp, 0, none⟩)) rfl (fun X hX => rfl) hHeld ?_
  simp only [List.getElem_toArray, List.getElem_cons_zero, List.getElem_cons_succ, Act.put, List.setIfInBounds_toArray, List.set_cons_zero, List.set_cons_succ]
  refine tk 9 (.pointer (some ⟨wp, 0, none⟩)) rfl (fun X hX => run_nilOp rfl rfl) hHeld ?_
  simp only [List.getElem_toArray, List.getElem_cons_zero, List.getElem_cons_succ, Act.put, List.setIfInBounds_toArray, List.set_cons_zero, List.set_cons_succ]
  refine tk 10 (.pointer (some ⟨wp, 0, none⟩)) rfl (fun X hX => run_fieldOp0 rfl rfl) hHeld ?_
  simp only [List.getElem_toArray, List.getElem_cons_zero, List.getElem_cons_succ, Act.put, List.setIfInBounds_toArray, List.set_cons_zero, List.set_cons_succ]
  refine tk 11 (.pointer (some ⟨wp, 9, none⟩)) rfl (fun X hX => run_fieldOpL rfl rfl) hHeld ?_
  simp only [List.getElem_toArray, List.getElem_cons_zero, List.getElem_cons_succ, Act.put, List.setIfInBounds_toArray, List.set_cons_zero, List.set_cons_succ]
  refine tk 12 (.int .i64 35) rfl (fun X hX => run_loadI9 rfl rfl hX) hHeld ?_
  simp only [List.getElem_toArray, List.getElem_cons_zero, List.getElem_cons_succ, Act.put, List.setIfInBounds_toArray, List.set_cons_zero, List.set_cons_succ]
  refine tk 13 (.int .i64 34) rfl (fun X hX => run_subOp hw34 rfl rfl rfl) hHeld ?_
  simp only [List.getElem_toArray, List.getElem_cons_zero, List.getElem_cons_succ, Act.put, List.setIfInBounds_toArray, List.set_cons_zero, List.set_cons_succ]
  refine wpAnyH_ready (rs := [14]) (by kernel_rfl) (by simp) ?_
  refine AllReadyH.cons rfl (fun K hK => ?_) AllReadyH.nil
  refine call_step Tryz.func38 (by kernel_rfl) (by rfl) #[.tmp 76, .tmp 80, .tmp 86] #[32, 29, 3] rfl rfl #[.pointer (some ⟨q, 0, none⟩), .agg (layC D), .int .i64 34] (by simp [Act.eval]) ?_
  refine (has_nodata (q := q) hB HS.out.drew h0 h1 34 (by omega)).mono ?_
  rintro e w7 ⟨rfl, S⟩
  clear HS
  refine ⟨_, rfl, hK.out _ _ S.range (fun hHeld => ?_)⟩
  clear hK K
  simp only [List.getElem_toArray, List.getElem_cons_zero, List.getElem_cons_succ, Act.put, List.setIfInBounds_toArray, List.set_cons_zero, List.set_cons_succ]
  refine tk 15 (.tuple #[.bool false, .int .i64 82]) rfl (fun X hX => rfl) hHeld ?_
  simp only [List.getElem_toArray, List.getElem_cons_zero, List.getElem_cons_succ, Act.put, List.setIfInBounds_toArray, List.set_cons_zero, List.set_cons_succ]
  refine tk 16 (.bool false) rfl (fun X hX => rfl) hHeld ?_
  simp only [List.getElem_toArray, List.getElem_cons_zero, List.getElem_cons_succ, Act.put, List.setIfInBounds_toArray, List.set_cons_zero, List.set_cons_succ]
  refine tk 17 (.int .i64 82) rfl (fun X hX => rfl) hHeld ?_
  simp only [List.getElem_toArray, List.getElem_cons_zero, List.getElem_cons_succ, Act.put, List.setIfInBounds_toArray, List.set_cons_zero, List.set_cons_succ]
  refine tk 18 (.bool false) rfl (fun X hX => rfl) hHeld ?_
  simp only [List.getElem_toArray, List.getElem_cons_zero, List.getElem_cons_succ, Act.put, List.setIfInBounds_toArray, List.set_cons_zero, List.set_cons_succ]
  refine tk 19 (.int .i64 82) rfl (fun X hX => rfl) hHeld ?_
  simp only [List.getElem_toArray, List.getElem_cons_zero, List.getElem_cons_succ, Act.put, List.setIfInBounds_toArray, List.set_cons_zero, List.set_cons_succ]
  refine wpAnyH_done (by kernel_rfl) ?_ _
  clear hHeld
  have HS := Aside0.mk S
  clear S
  go_upto_region 11 with fail
  refine wp_region_held_drew (S := fun X => X.rangeAt wp 0 (worldC D q p d).toList) (by kernel_rfl) (by simpa using HS.out.range) (fun hHeld => ?_)
  refine tk 0 (.pointer (some ⟨wp, 0, none⟩)) rfl (fun X hX => rfl) hHeld ?_
  simp only [List.getElem_toArray, List.getElem_cons_zero, List.getElem_cons_succ, Act.put, List.setIfInBounds_toArray, List.set_cons_zero, List.set_cons_succ]
  refine tk 1 (.pointer (some ⟨wp, 0, none⟩)) rfl (fun X hX => run_nilOp rfl rfl) hHeld ?_
  simp only [List.getElem_toArray, List.getElem_cons_zero, List.getElem_cons_succ, Act.put, List.setIfInBounds_toArray, List.set_cons_zero, List.set_cons_succ]
  refine tk 2 (.pointer (some ⟨wp, 22, none⟩)) rfl (fun X hX => run_fieldOp3 rfl rfl) hHeld ?_
  simp only [List.getElem_toArray, List.getElem_cons_zero, List.getElem_cons_succ, Act.put, List.setIfInBounds_toArray, List.set_cons_zero, List.set_cons_succ]
  refine tk 3 (.pointer (some ⟨q, 0, none⟩)) rfl (fun X hX => run_loadT rfl rfl hX) hHeld ?_
  simp only [List.getElem_toArray, List.getElem_cons_zero, List.getElem_cons_succ, Act.put, List.setIfInBounds_toArray, List.set_cons_zero, List.set_cons_succ]
  refine tk 4 (.pointer (some ⟨wp, 0, none⟩)) rfl (fun X hX => rfl) hHeld ?_
  simp only [List.getElem_toArray, List.getElem_cons_zero, List.getElem_cons_succ, Act.put, List.setIfInBounds_toArray, List.set_cons_zero, List.set_cons_succ]
  refine tk 5 (.pointer (some ⟨wp, 0, none⟩)) rfl (fun X hX => run_nilOp rfl rfl) hHeld ?_
  simp only [List.getElem_toArray, List.getElem_cons_zero, List.getElem_cons_succ, Act.put, List.setIfInBounds_toArray, List.set_cons_zero, List.set_cons_succ]
  refine tk 6 (.pointer (some ⟨wp, 0, none⟩)) rfl (fun X hX => run_fieldOp0 rfl rfl) hHeld ?_
  simp only [List.getElem_toArray, List.getElem_cons_zero, List.getElem_cons_succ, Act.put, List.setIfInBounds_toArray, List.set_cons_zero, List.set_cons_succ]
  refine tk 7 (.agg (layC D)) rfl (fun X hX => run_loadOp (t := 29) (x := .tmp 97) (g := wp) rfl rfl (run_layMid (range_lay hX))) hHeld ?_
  simp only [List.getElem_toArray, List.getElem_cons_zero, List.getElem_cons_succ, Act.put, List.setIfInBounds_toArray, List.set_cons_zero, List.set_cons_succ]
  refine tk 8 (.pointer (some ⟨wp, 0, none⟩)) rfl (fun X hX => rfl) hHeld ?_
  simp only [List.getElem_toArray, List.getElem_cons_zero, List.getElem_cons_succ, Act.put, List.setIfInBounds_toArray, List.set_cons_zero, List.set_cons_succ]
  refine tk 9 (.pointer (some ⟨wp, 0, none⟩)) rfl (fun X hX => run_nilOp rfl rfl) hHeld ?_
  simp only [List.getElem_toArray, List.getElem_cons_zero, List.getElem_cons_succ, Act.put, List.setIfInBounds_toArray, List.set_cons_zero, List.set_cons_succ]
  refine tk 10 (.pointer (some ⟨wp, 0, none⟩)) rfl (fun X hX => run_fieldOp0 rfl rfl) hHeld ?_
  simp only [List.getElem_toArray, List.getElem_cons_zero, List.getElem_cons_succ, Act.put, List.setIfInBounds_toArray, List.set_cons_zero, List.set_cons_succ]
  refine tk 11 (.pointer (some ⟨wp, 9, none⟩)) rfl (fun X hX => run_fieldOpL rfl rfl) hHeld ?_
  simp only [List.getElem_toArray, List.getElem_cons_zero, List.getElem_cons_succ, Act.put, List.setIfInBounds_toArray, List.set_cons_zero, List.set_cons_succ]
  refine tk 12 (.int .i64 35) rfl (fun X hX => run_loadI9 rfl rfl hX) hHeld ?_
  simp only [List.getElem_toArray, List.getElem_cons_zero, List.getElem_cons_succ, Act.put, List.setIfInBounds_toArray, List.set_cons_zero, List.set_cons_succ]
  refine tk 13 (.slice (some ⟨g, 0, none⟩) D c) rfl (fun X hX => rfl) hHeld ?_
  simp only [List.getElem_toArray, List.getElem_cons_zero, List.getElem_cons_succ, Act.put, List.setIfInBounds_toArray, List.set_cons_zero, List.set_cons_succ]
  refine tk 14 (.int .i64 (D : Int)) rfl (fun X hX => run_lenOp rfl rfl) hHeld ?_
  simp only [List.getElem_toArray, List.getElem_cons_zero, List.getElem_cons_succ, Act.put, List.setIfInBounds_toArray, List.set_cons_zero, List.set_cons_succ]
  refine tk 15 (.int .i64 (35 + (D : Int))) rfl (fun X hX => run_addOp hw rfl rfl rfl) hHeld ?_
  simp only [List.getElem_toArray, List.getElem_cons_zero, List.getElem_cons_succ, Act.put, List.setIfInBounds_toArray, List.set_cons_zero, List.set_cons_succ]
  refine wpAnyH_ready (rs := [16]) (by kernel_rfl) (by simp) ?_
  refine AllReadyH.cons rfl (fun K hK => ?_) AllReadyH.nil
  refine call_step Tryz.func38 (by kernel_rfl) (by rfl) #[.tmp 94, .tmp 98, .tmp 106] #[32, 29, 3] rfl rfl #[.pointer (some ⟨q, 0, none⟩), .agg (layC D), .int .i64 (35 + (D : Int))] (by simp [Act.eval]) ?_
  refine (has_nodata (q := q) hB HS.out.drew h0 h1 (35 + (D : Int)) (by omega)).mono ?_
  rintro e w8 ⟨rfl, S⟩
  clear HS
  refine ⟨_, rfl, hK.out _ _ S.range (fun hHeld => ?_)⟩
  clear hK K
  simp only [List.getElem_toArray, List.getElem_cons_zero, List.getElem_cons_succ, Act.put, List.setIfInBounds_toArray, List.set_cons_zero, List.set_cons_succ]
  refine tk 17 (.tuple #[.bool false, .int .i64 82]) rfl (fun X hX => rfl) hHeld ?_
  simp only [List.getElem_toArray, List.getElem_cons_zero, List.getElem_cons_succ, Act.put, List.setIfInBounds_toArray, List.set_cons_zero, List.set_cons_succ]
  refine tk 18 (.bool false) rfl (fun X hX => rfl) hHeld ?_
  simp only [List.getElem_toArray, List.getElem_cons_zero, List.getElem_cons_succ, Act.put, List.setIfInBounds_toArray, List.set_cons_zero, List.set_cons_succ]
  refine tk 19 (.int .i64 82) rfl (fun X hX => rfl) hHeld ?_
  simp only [List.getElem_toArray, List.getElem_cons_zero, List.getElem_cons_succ, Act.put, List.setIfInBounds_toArray, List.set_cons_zero, List.set_cons_succ]
  refine tk 20 (.bool false) rfl (fun X hX => rfl) hHeld ?_
  simp only [List.getElem_toArray, List.getElem_cons_zero, List.getElem_cons_succ, Act.put, List.setIfInBounds_toArray, List.set_cons_zero, List.set_cons_succ]
  refine tk 21 (.int .i64 82) rfl (fun X hX => rfl) hHeld ?_
  simp only [List.getElem_toArray, List.getElem_cons_zero, List.getElem_cons_succ, Act.put, List.setIfInBounds_toArray, List.set_cons_zero, List.set_cons_succ]
  refine wpAnyH_done (by kernel_rfl) ?_ _
  clear hHeld
  have HS := Aside0.mk S
  clear S
  go_upto_region 12 with fail
  refine wp_region_held_drew (S := fun X => X.rangeAt wp 0 (worldC D q p d).toList) (by kernel_rfl) (by simpa using HS.out.range) (fun hHeld => ?_)
  refine tk 0 (.pointer (some ⟨wp, 0, none⟩)) rfl (fun X hX => rfl) hHeld ?_
  simp only [List.getElem_toArray, List.getElem_cons_zero, List.getElem_cons_succ, Act.put, List.setIfInBounds_toArray, List.set_cons_zero, List.set_cons_succ]
  refine tk 1 (.pointer (some ⟨wp, 0, none⟩)) rfl (fun X hX => run_nilOp rfl rfl) hHeld ?_
  simp only [List.getElem_toArray, List.getElem_cons_zero, List.getElem_cons_succ, Act.put, List.setIfInBounds_toArray, List.set_cons_zero, List.set_cons_succ]
  refine tk 2 (.pointer (some ⟨wp, 22, none⟩)) rfl (fun X hX => run_fieldOp3 rfl rfl) hHeld ?_
  simp only [List.getElem_toArray, List.getElem_cons_zero, List.getElem_cons_succ, Act.put, List.setIfInBounds_toArray, List.set_cons_zero, List.set_cons_succ]
  refine tk 3 (.pointer (some ⟨q, 0, none⟩)) rfl (fun X hX => run_loadT rfl rfl hX) hHeld ?_
  simp only [List.getElem_toArray, List.getElem_cons_zero, List.getElem_cons_succ, Act.put, List.setIfInBounds_toArray, List.set_cons_zero, List.set_cons_succ]
  refine tk 4 (.pointer (some ⟨wp, 0, none⟩)) rfl (fun X hX => rfl) hHeld ?_
  simp only [List.getElem_toArray, List.getElem_cons_zero, List.getElem_cons_succ, Act.put, List.setIfInBounds_toArray, List.set_cons_zero, List.set_cons_succ]
  refine tk 5 (.pointer (some ⟨wp, 0, none⟩)) rfl (fun X hX => run_nilOp rfl rfl) hHeld ?_
  simp only [List.getElem_toArray, List.getElem_cons_zero, List.getElem_cons_succ, Act.put, List.setIfInBounds_toArray, List.set_cons_zero, List.set_cons_succ]
  refine tk 6 (.pointer (some ⟨wp, 0, none⟩)) rfl (fun X hX => run_fieldOp0 rfl rfl) hHeld ?_
  simp only [List.getElem_toArray, List.getElem_cons_zero, List.getElem_cons_succ, Act.put, List.setIfInBounds_toArray, List.set_cons_zero, List.set_cons_succ]
  refine tk 7 (.agg (layC D)) rfl (fun X hX => run_loadOp (t := 29) (x := .tmp 116) (g := wp) rfl rfl (run_layMid (range_lay hX))) hHeld ?_
  simp only [List.getElem_toArray, List.getElem_cons_zero, List.getElem_cons_succ, Act.put, List.setIfInBounds_toArray, List.set_cons_zero, List.set_cons_succ]
  refine tk 8 (.pointer (some ⟨wp, 0, none⟩)) rfl (fun X hX => rfl) hHeld ?_
  simp only [List.getElem_toArray, List.getElem_cons_zero, List.getElem_cons_succ, Act.put, List.setIfInBounds_toArray, List.set_cons_zero, List.set_cons_succ]
  refine tk 9 (.pointer (some ⟨wp, 0, none⟩)) rfl (fun X hX => run_nilOp rfl rfl) hHeld ?_
  simp only [List.getElem_toArray, List.getElem_cons_zero, List.getElem_cons_succ, Act.put, List.setIfInBounds_toArray, List.set_cons_zero, List.set_cons_succ]
  refine tk 10 (.pointer (some ⟨wp, 0, none⟩)) rfl (fun X hX => run_fieldOp0 rfl rfl) hHeld ?_
  simp only [List.getElem_toArray, List.getElem_cons_zero, List.getElem_cons_succ, Act.put, List.setIfInBounds_toArray, List.set_cons_zero, List.set_cons_succ]
  refine tk 11 (.pointer (some ⟨wp, 9, none⟩)) rfl (fun X hX => run_fieldOpL rfl rfl) hHeld ?_
  simp only [List.getElem_toArray, List.getElem_cons_zero, List.getElem_cons_succ, Act.put, List.setIfInBounds_toArray, List.set_cons_zero, List.set_cons_succ]
  refine tk 12 (.int .i64 35) rfl (fun X hX => run_loadI9 rfl rfl hX) hHeld ?_
  simp only [List.getElem_toArray, List.getElem_cons_zero, List.getElem_cons_succ, Act.put, List.setIfInBounds_toArray, List.set_cons_zero, List.set_cons_succ]
  refine tk 13 (.slice (some ⟨g, 0, none⟩) D c) rfl (fun X hX => rfl) hHeld ?_
  simp only [List.getElem_toArray, List.getElem_cons_zero, List.getElem_cons_succ, Act.put, List.setIfInBounds_toArray, List.set_cons_zero, List.set_cons_succ]
  refine tk 14 (.int .i64 (D : Int)) rfl (fun X hX => run_lenOp rfl rfl) hHeld ?_
  simp only [List.getElem_toArray, List.getElem_cons_zero, List.getElem_cons_succ, Act.put, List.setIfInBounds_toArray, List.set_cons_zero, List.set_cons_succ]
  refine tk 15 (.int .i64 (35 + (D : Int))) rfl (fun X hX => run_addOp hw rfl rfl rfl) hHeld ?_
  simp only [List.getElem_toArray, List.getElem_cons_zero, List.getElem_cons_succ, Act.put, List.setIfInBounds_toArray, List.set_cons_zero, List.set_cons_succ]
  refine wpAnyH_ready (rs := [16]) (by kernel_rfl) (by simp) ?_
  refine AllReadyH.cons rfl (fun K hK => ?_) AllReadyH.nil
  refine call_step Tryz.func14 (by kernel_rfl) (by rfl) #[.tmp 113, .tmp 117, .tmp 125] #[32, 29, 3] rfl rfl #[.pointer (some ⟨q, 0, none⟩), .agg (layC D), .int .i64 (35 + (D : Int))] (by simp [Act.eval]) ?_
  refine (free_nodata (q := q) hB HS.out.drew h0 h1 (35 + (D : Int)) (by omega)).mono ?_
  rintro e w9 ⟨rfl, S⟩
  clear HS
  refine ⟨_, rfl, hK.out _ _ S.range (fun hHeld => ?_)⟩
  clear hK K
  simp only [List.getElem_toArray, List.getElem_cons_zero, List.getElem_cons_succ, Act.put, List.setIfInBounds_toArray, List.set_cons_zero, List.set_cons_succ]
  refine tk 17 (.int .i64 82) rfl (fun X hX => rfl) hHeld ?_
  simp only [List.getElem_toArray, List.getElem_cons_zero, List.getElem_cons_succ, Act.put, List.setIfInBounds_toArray, List.set_cons_zero, List.set_cons_succ]
  refine wpAnyH_done (by kernel_rfl) ?_ _
  clear hHeld
  have HS := Aside0.mk S
  clear S
  go_wp2_with (first | (go_at_call 13; refine (num8 _ _).mono ?_; rintro _ _ ⟨rfl, rfl⟩))
  go_ret
  exact ⟨rfl, HS.out⟩
end
end Go.Proofs.YtlhlmjkocmahmaaGreatDoor.Sep
/- Rows of deeds as they come in. -/
namespace Go.Proofs.YtlhlmjkocmahmaaGreatDoor.Sep
open Go.Proofs.YtlhlmjkocmahmaaGreatDoor Go.Proofs Go.RowKit Go.ChangeMaps Go.Proofs.YtlhlmjkocmahmaaGreatDoorW.PrintWords Go.Proofs.YtlhlmjkocmahmaaGreatDoorW.PrintLast Go.Proofs.YtlhlmjkocmahmaaGreatDoorW.PrintMore Go.Proofs.YtlhlmjkocmahmaaGreatDoor.Dev Go.Proofs.YtlhlmjkocmahmaaGreatDoor.Errs Go.Proofs.YtlhlmjkocmahmaaGreatDoor.Jr Go.Proofs.YtlhlmjkocmahmaaGreatDoor.Help Go.Proofs.YtlhlmjkocmahmaaGreatDoor.IMap
set_option linter.unusedVariables false
set_option linter.unusedSimpArgs false
section
variable {w0 w w' : World} {R : List Asn} {sa : Addr}
abbrev kDeed : Kd (Bool × Int) := Kd.pair Kd.bool (Kd.int .i64)
theorem add_off' (ad : Addr) (n m : Nat) (hm : 0 < m) : ad.add (n + m) = ⟨(ad.add n).block, (ad.add n).off + m, none⟩ := by
  cases n with
  | zero => unfold Addr.add; rw [if_neg (by omega), if_pos rfl]; simp
  | succ n => unfold Addr.add; rw [if_neg (by omega), if_neg (by omega)]; simp; omega
/-- A row of deeds as it came in. -/
theorem deeds_in {A : Option Addr} {l : List (Bool × Int)} (h : Kd.C kDeed w0 A l.length l) (i : Nat) (hi : i < l.length) :
    ∃ ad, A = some ad ∧ ∀ W : World, Below w0.heap.size w0 W → W.cell? (ad.add (i * 2)) = some (.bool l[i].1) ∧ W.cell? ⟨(ad.add (i * 2)).block, (ad.add (i * 2)).off + 1, none⟩ = some (.int .i64 l[i].2) := by
  obtain ⟨_, _, h3⟩ := h
  obtain ⟨ad, rfl, h4⟩ := h3 (by omega)
  obtain ⟨c, hc, hK, hu⟩ := h4 i l[i] (List.getElem?_eq_getElem hi)
  obtain ⟨c1, c2, rfl, h5, h6⟩ := hK
  have e1 : c1 = [.bool l[i].1] := h5
  have e2 : c2 = [.int .i64 l[i].2] := h6
  subst e1
  subst e2
  have k0 := hu 0 _ rfl
  have k1 := hu 1 _ rfl
  have k1 : w0.cell? (ad.add (i * 2 + 1)) = _ := k1
  rw [add_off' ad (i * 2) 1 (by omega)] at k1
  exact ⟨ad, rfl, fun W hb => ⟨pw_cell_below hb k0, pw_cell_below hb k1⟩⟩
end
end Go.Proofs.YtlhlmjkocmahmaaGreatDoor.Sep
