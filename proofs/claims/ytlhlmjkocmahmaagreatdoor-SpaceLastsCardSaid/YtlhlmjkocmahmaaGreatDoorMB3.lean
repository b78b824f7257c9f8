/- space.Alloc: the lowest that is free. -/
import Derived.Test.YtlhlmjkocmahmaaGreatDoorMB2
import Derived.WalkMore
import Derived.StillTailTactics
import Derived.Test.YtlhlmjkocmahmaaGreatDoorMA8
import Derived.Deep.RegionHeld3
namespace Go.Proofs.YtlhlmjkocmahmaaGreatDoor.Sep
open Go.Proofs.YtlhlmjkocmahmaaGreatDoor Go.Proofs Go.RowKit Go.ChangeMaps Go.Proofs.YtlhlmjkocmahmaaGreatDoorW.PrintWords Go.Proofs.YtlhlmjkocmahmaaGreatDoorW.PrintLast Go.Proofs.YtlhlmjkocmahmaaGreatDoorW.PrintMore
set_option linter.unusedVariables false
set_option linter.unusedSimpArgs false
theorem b_test {x : Int} (hx : Bm.OkB x) {j : Nat} (hj : j < 8) : (bits .and .u8 (x / 2 ^ j) 1 == 1) = Bm.bt x j :=
  Bm.fin8 (P := fun j => (bits .and .u8 (x / 2 ^ j) 1 == 1) = Bm.bt x j) (Bm.fin_all (P := fun x => ∀ j : Fin 8, (bits .and .u8 (x / 2 ^ j.val) 1 == 1) = Bm.bt x j.val) (by decide +kernel) hx) hj
theorem bit_at (B : List Int) (j t : Nat) (ht : t < 8) : Bm.bit B (8 * j + t) = Bm.bt (Bm.at_ B j) t := by
  unfold Bm.bit
  rw [show (8 * j + t) / 8 = j by omega, show (8 * j + t) % 8 = t by omega]
section
variable {w0 w w' : World} {R : List Asn}
set_option maxRecDepth 100000 in
set_option maxHeartbeats 8000000 in
theorem alloc_s {q p d D n k : Nat} {mk : Int} {sv : List (Int × Nat)} {Bd B : List Int} (hB : Bds w0) (S : Sep w0 w (SpA q p d D n k mk sv Bd B :: R)) (hok : Bm.OkL B) (h0 : 8 ≤ D) (h1 : D ≤ 4000) (hk : k ≤ 900000) (m : Nat) (hm : m ≤ D) (hall : ∀ i, i < m → Bm.bit B i = true) (hfr : m < D → Bm.bit B m = false) :
    Calls Tryz.prog 12 #[.pointer (some ⟨q, 0, none⟩), .agg (layC D)] w fun e w' => if m < D then e = .returned (.tuple #[.int .i64 (35 + (m : Int)), .int .i64 0]) ∧ Sep w0 w' (SpA q p d D n (k + 1) mk sv Bd (Bm.setB B m) :: R) else e = .returned (.tuple #[.int .i64 0, .int .i64 81]) ∧ Sep w0 w' (SpA q p d D n k mk sv Bd B :: R) := by
  have S0 := S.alloc (layC D) 29
  obtain ⟨p1, hp1⟩ : ∃ p1, p1 = w.heap.size := ⟨_, rfl⟩
  obtain ⟨W1, hW1⟩ : ∃ W1, W1 = w.alloc (.cells (layC D) 29) := ⟨_, rfl⟩
  rw [← hp1, ← hW1] at S0
  have hj := judge_s (bds_sep hB S0) (D : Int) (by omega) (by omega)
  go_enter Tryz.func12, Tryz.ntmps12
  go_wp2_with fail
  go_step3
  rw [← hp1, ← hW1]
  go_upto_region 1 with fail
  clear hW1 hp1 S
  apply wp_region_lit
  refine wpList_wantRun (by rfl) _ _ (run_loadOp (t := 29) (x := .tmp 3) (g := p1) rfl rfl (run_layLoad S0)) ?_
  go_wp2_with fail
  refine hj.mono ?_
  clear hj
  rintro _ w2 ⟨rfl, hb2⟩
  have S1 := S0.calm hb2
  clear S0 hb2
  have e6 := S1.cell 6 (v := .int .i64 1) rfl
  have e5 := S1.cell 5 (v := .int .i64 33) rfl
  have hrd := read33 (S1.pull 1)
  have HS2 := Aside0.mk S1
  have HA := Aside0.mk (And.intro hall hfr)
  clear S1 h0 hall hfr
  go_wp2_with fail
  go_step3
  go_upto_block 0 with fail
  go_cut [7] (fun fv wx => if m < D then fv = .int .i64 (35 + (m : Int)) ∧ Sep w0 wx (SpA q p d D n (k + 1) mk sv Bd (Bm.setB B m) :: R) else fv = .int .i64 0 ∧ Sep w0 wx (SpA q p d D n k mk sv Bd B :: R))
  case first =>
    clear e6
    go_wp2_with fail
    go_loopw [7, 23] (fun fv kv wr => fv = .int .i64 0 ∧ kv = .int .i64 0 ∧ wr = w2) (fun _ _ _ => 0)
    case atStart => exact ⟨rfl, rfl, rfl⟩
    case round =>
      obtain ⟨rfl, rfl, rfl⟩ := hrel
      go_wp2_with fail
      refine hrd.mono ?_
      clear hrd HS2 e5
      rintro _ w4 ⟨g, rfl, hl, S4⟩
      have c9 := (S4.pull 2).cell 9 (v := .int .i64 35) rfl
      have c10 := (S4.pull 2).cell 10 (v := .int .i64 (D : Int)) rfl
      have HS := Aside0.mk S4
      clear S4
      go_wp2_with fail
      go_loopw [7, 40] (fun fv iv wq => ∃ j : Nat, 8 * j ≤ m ∧ fv = .int .i64 0 ∧ iv = .int .i64 (j : Int) ∧ wq = w4) (fun _ i _ => (512 - intOf i).toNat)
      case atStart => exact ⟨0, Nat.zero_le _, rfl, rfl, rfl⟩
      case round =>
        obtain ⟨j, hj, rfl, rfl, rfl⟩ := hrel
        have hj2 : j < 512 := by omega
        have hlt : (j : Int) < 512 := by omega
        have he := HS.out.elem j hj2
        have hx : B[j]'(by omega) = Bm.at_ B j := (at_is (by omega)).symm
        go_wp2_with fail
        go_loopw [7, 45] (fun fv bv wz => ∃ t : Nat, t ≤ 8 ∧ 8 * j + t ≤ m ∧ fv = .int .i64 0 ∧ bv = .int .i64 (t : Int) ∧ wz = wr) (fun _ b _ => (8 - intOf b).toNat)
        case atStart => exact ⟨0, Nat.zero_le _, hj, rfl, rfl, rfl⟩
        case round =>
          obtain ⟨t, ht, htm, rfl, rfl, rfl⟩ := hrel
          by_cases ht8 : t < 8
          · have htl : (t : Int) < 8 := by omega
            have hw1 : IntKind.i64.wrap (8 * (j : Int)) = 8 * (j : Int) := by rw [IntKind.wrap_i64]; omega
            have hw2 : IntKind.i64.wrap (35 + 8 * (j : Int)) = 35 + 8 * (j : Int) := by rw [IntKind.wrap_i64]; omega
            have hw3 : IntKind.i64.wrap (35 + 8 * (j : Int) + (t : Int)) = 35 + 8 * (j : Int) + (t : Int) := by rw [IntKind.wrap_i64]; omega
            have hw4 : IntKind.i64.wrap (35 + (D : Int)) = 35 + (D : Int) := by rw [IntKind.wrap_i64]; omega
            by_cases hd : D ≤ 8 * j + t
            · have d1 : decide (35 + (D : Int) ≤ 35 + 8 * (j : Int) + (t : Int)) = true := decide_eq_true (by omega)
              have HM := Aside0.mk (show ¬ m < D by omega)
              go_wp2_with fail
              go_meet
              case rel =>
                rw [if_neg HM.out]
                exact ⟨rfl, (HS.out.drop.pull 1).drop⟩
            · have d1 : decide (35 + (D : Int) ≤ 35 + 8 * (j : Int) + (t : Int)) = false := decide_eq_false (by omega)
              have hmin : min t 8 = t := by omega
              have htst := b_test (Bm.at_ok hok j) ht8
              have hba := bit_at B j t ht8
              cases hbt : Bm.bt (Bm.at_ B j) t
              · rw [hbt] at htst hba
                have hmm : m = 8 * j + t := by
                  rcases Nat.lt_or_ge (8 * j + t) m with h | h
                  · rw [HA.out.1 _ h] at hba
                    cases hba
                  · omega
                have hor := b_or (Bm.at_ok hok j) ht8
                have hp : (2 : Int) ^ t % 256 = 2 ^ t := Bm.fin8 (P := fun j => (2 : Int) ^ j % 256 = 2 ^ j) (by decide +kernel) ht8
                have S5 := (HS.out.store j (Bm.bset (Bm.at_ B j) t)).drew
                have hset : B.set j (Bm.bset (Bm.at_ B j) t) = Bm.setB B m := by
                  rw [hmm]
                  unfold Bm.setB
                  rw [show (8 * j + t) / 8 = j by omega, show (8 * j + t) % 8 = t by omega]
                rw [hset] at S5
                have hby : Jr.Byte (Bm.setB B m) := fun y hy => by
                  have := Bm.setB_ok hok m y hy
                  have h1 := this.1
                  have h2 := this.2
                  omega
                have c5 := (S5.pull 2).cell 5 (v := .int .i64 33) rfl
                have hwr := write33 S5 hby hk
                have hed : wr.drew.cell? ⟨g, j, none⟩ = some (.int .u8 (B.getD j 0)) := he
                have hfd : wr.drew.frozen? ⟨g, j, none⟩ = false := HS.out.drew.row_free (by decide) j
                have HM := Aside0.mk hmm
                clear S5 hset hby hmm hba hbt
                go_wp2_with fail
                go_still_tail 8, (by kernel_rfl)
                change wpList _ _ _ _ _ wr.drew
                go_wp2_with fail
                refine hwr.mono ?_
                clear hwr c5 hed hfd hor hp
                rintro _ w5 ⟨rfl, S6⟩
                have HS6 := Aside0.mk S6
                clear S6
                go_wp2_with fail
                go_meet
                case rel =>
                  rw [if_pos (by have := HM.out; omega)]
                  refine ⟨?_, (HS6.out.drop.pull 1).drop⟩
                  rw [HM.out]
                  simp
                  omega
              · rw [hbt] at htst hba
                have hmm : 8 * j + t < m := by
                  rcases Nat.lt_or_ge (8 * j + t) m with h | h
                  · exact h
                  · obtain rfl : m = 8 * j + t := by omega
                    rw [HA.out.2 (by omega)] at hba
                    cases hba
                go_wp2_with fail
                exact ⟨⟨t + 1, ht8, by omega, rfl, by go_num, trivial⟩, by simp [intOf]; omega⟩
          · have htl : ¬ (t : Int) < 8 := by omega
            go_wp2_with fail
            exact ⟨⟨j + 1, by omega, rfl, by go_num, trivial⟩, by simp [intOf]; omega⟩
  case rest =>
  clear HS2 HA
  by_cases hmd : m < D
  · rw [if_pos hmd] at hcut
    obtain ⟨rfl, S⟩ := hcut
    have HS := Aside0.mk S
    have d1 : (35 + (m : Int) == 0) = false := by simp; omega
    clear S
    go_wp2_with fail
    rw [Exit.noGoto_ret]
    go_ret2
    rw [if_pos hmd]
    exact ⟨rfl, HS.out⟩
  · rw [if_neg hmd] at hcut
    obtain ⟨rfl, S⟩ := hcut
    have HS := Aside0.mk S
    clear S
    go_wp2_with fail
    rw [Exit.noGoto_ret]
    go_ret2
    rw [if_neg hmd]
    exact ⟨rfl, HS.out⟩
end
end Go.Proofs.YtlhlmjkocmahmaaGreatDoor.Sep
/- stood: a journal on a fresh device, and a transaction over its empty bitmap. -/
namespace Go.Proofs.YtlhlmjkocmahmaaGreatDoor.Sep
open Go.Proofs.YtlhlmjkocmahmaaGreatDoor Go.Proofs Go.RowKit Go.ChangeMaps Go.Proofs.YtlhlmjkocmahmaaGreatDoorW.PrintWords Go.Proofs.YtlhlmjkocmahmaaGreatDoorW.PrintLast Go.Proofs.YtlhlmjkocmahmaaGreatDoorW.PrintMore Go.Proofs.YtlhlmjkocmahmaaGreatDoor.Dev Go.Proofs.YtlhlmjkocmahmaaGreatDoor.Errs Go.Proofs.YtlhlmjkocmahmaaGreatDoor.Jr Go.Proofs.YtlhlmjkocmahmaaGreatDoor.Help Go.Proofs.YtlhlmjkocmahmaaGreatDoor.IMap
set_option linter.unusedVariables false
set_option linter.unusedSimpArgs false
theorem num8 (x : Int) (w : World) : Calls Tryz.prog 13 #[.int .i64 x] w fun e w' => e = .returned (.int .i64 x) ∧ w' = w := by
  go_enter Tryz.func13, Tryz.ntmps13
  go_wp2
  go_ret
  exact ⟨rfl, rfl⟩
abbrev worldC (D : Nat) (q p d : Nat) : Array Value := #[.int .i64 1, .int .i64 2, .int .i64 27, .int .i64 29, .int .i64 4, .int .i64 33, .int .i64 1, .int .i64 34, .int .i64 1, .int .i64 35, .int .i64 (D : Int), .int .i64 (35 + (D : Int)), .int .i64 1, .int .i64 1, .int .i64 1, .int .i64 1, .int .i64 2, .int .i64 0, .int .i64 (D : Int), .int .i64 27, .pointer (some ⟨d, 0, none⟩), .pointer (some ⟨p, 0, none⟩), .pointer (some ⟨q, 0, none⟩), .slice none 0 0]
abbrev zeros : List Int := List.replicate 512 0
theorem stood_calm {D : Nat} (h0 : 8 ≤ D) (h1 : D ≤ 4000) :
    (formatP (DS.made (List.replicate (512 * (35 + D)) 0)) 2 27).1 = 0 ∧ Calm (geoS D) (formatP (DS.made (List.replicate (512 * (35 + D)) 0)) 2 27).2 zeroW := by
  have hn : (DS.made (List.replicate (512 * (35 + D)) 0)).n = 35 + D := by
    show (List.replicate (512 * (35 + D)) (0 : Int)).length / 512 = 35 + D
    rw [List.length_replicate]
    omega
  have hok : (DS.made (List.replicate (512 * (35 + D)) 0)).Ok := made_ok (by omega) (by omega) (List.length_replicate ..)
  have hG : (geoS D).Ok := ⟨by show (0 : Int) ≤ 2; omega, by show (27 : Int) ≤ 27; omega, by show (27 : Int) ≤ 35 + (D : Int) - 2; omega, by show 35 + (D : Int) ≤ 4096; omega⟩
  have hfb : fitsB ((DS.made (List.replicate (512 * (35 + D)) 0)).n : Int) 2 27 = true := by
    unfold fitsB
    rw [hn, decide_eq_true (show (2 : Int) ≥ 0 by omega), decide_eq_true (show (27 : Int) ≥ 27 by omega), decide_eq_true (show (27 : Int) ≤ ((35 + D : Nat) : Int) - 2 by omega)]
    rfl
  have h := format_new (G := geoS D) (s := DS.made (List.replicate (512 * (35 + D)) 0)) hG (by rw [hn]; show 35 + (D : Int) = ((35 + D : Nat) : Int); omega) (by rw [hn]) hok
  have e : formatP (DS.made (List.replicate (512 * (35 + D)) 0)) 2 27 = Jr.format (geoS D) (DS.made (List.replicate (512 * (35 + D)) 0)) := by
    unfold formatP
    rw [if_pos hfb, hn]
    show Jr.format ⟨((35 + D : Nat) : Int), 2, 27⟩ _ = Jr.format ⟨35 + (D : Int), 2, 27⟩ _
    rw [show ((35 + D : Nat) : Int) = 35 + (D : Int) by omega]
  rw [e]
  exact ⟨h.1, h.2.2.1, h.2.2.2.1, h.2.2.2.2.1, h.2.1, 1, 0, [], h.2.2.2.2.2⟩
theorem Sep.range {w0 w : World} {R : List Asn} {p : Nat} {cs : Array Value} {t : TypeId} (S : Sep w0 w (Blk p cs t :: R)) : w.rangeAt p 0 cs.toList := fun j v hv => by
  have h := S.cell j (v := v) (by simpa using hv)
  rwa [Nat.zero_add]
theorem run_layMid {X : World} {b : Nat} {x : Int} (h : X.rangeAt b 0 (layC x).toList) : (loadVar 29 ⟨b, 0, none⟩).run Tryz.prog X = .ok (.agg (layC x)) X :=
  run_loadVar_mid X b 0 29 (layC x).toList _ h Tryz.underlying29 rfl (by kernel_rfl)
theorem run_buildOp {o : Oper} {ρ : Operand → Value} {t : TypeId} {parts : Array (Nat × Operand)} {cs : Array Value} {w : World} (ho : o.op = .build t parts) (vs : List (Nat × Value)) (hv : (parts.map fun (i, x) => (i, ρ x)).toList = vs) (h : Tryz.prog.built t vs = some cs) :
    (execOp ρ o).run Tryz.prog w = .ok (.value (.agg cs)) w := by
  unfold execOp
  rw [← hv] at h
  simp only [ho, Sem.run_bind, run_build (P := Tryz.prog) w t _ cs h, Result.andThen_ok]
  rfl
theorem built_world (D q p d : Nat) : Tryz.prog.built 35 [(0, .agg (layC D)), (1, .pointer (some ⟨d, 0, none⟩)), (2, .pointer (some ⟨p, 0, none⟩)), (3, .pointer (some ⟨q, 0, none⟩))] = some (worldC D q p d) := by kernel_rfl
theorem wp_boxOp {o : Oper} {a : Act} {w : World} {K : Act → World → Prop} {Q : Exit → Act → World → Prop} (t : TypeId) (x : Operand) (ho : o.op = .box t x) (cs : Array Value) (hx : a.eval x = .agg cs)
    (h : K (a.put o.dst (.pointer (some ⟨w.heap.size, 0, none⟩))) (w.alloc (.cells cs t))) : o.wp Tryz.prog a w K Q := by
  unfold Oper.wp
  have hrun : (execOp a.eval o).run Tryz.prog w = .ok (.value (.pointer (some ⟨w.heap.size, 0, none⟩))) (w.alloc (.cells cs t)) := by
    unfold execOp
    simp only [ho, hx]
    rfl
  rw [hrun, Oper.upon_value]
  exact h
section
variable {w0 w w' : World} {R : List Asn} {sa : Addr}
theorem open33 {d D n : Nat} {s : DS} {W : Int → List Int} (hr : Rt w0) (hsn : Sen sa w0) (S : Sep w0 w (DevA d s :: R)) (C : Calm (geoS D) s W) (hW : (W (-1)).length ≤ n) :
    Calls Tryz.prog 44 #[.pointer (some ⟨d, 0, none⟩), .int .i64 2, .int .i64 27] w fun e w' => ∃ (p : Nat) (taken : Int), e = .returned (.tuple #[.pointer (some ⟨p, 0, none⟩), .int .i64 taken, .int .i64 0]) ∧ Sep w0 w' (JnA p d D n (W 33) :: R) := by
  have hg : geoS D = ⟨(s.n : Int), 2, 27⟩ := by
    have h := C.fits.n
    unfold geoS at h ⊢
    rw [← h]
  have h := openj_s hr hsn S 2 27 (by rw [← hg]; exact C.fits.geo) C.fits.byte (by rw [C.pend]; exact Nat.zero_le _)
  rw [← hg] at h
  obtain ⟨h1, ⟨J, m, h2, h3, hfr, haw⟩, h4⟩ := open_calm C
  refine h.mono fun e w' hP => ?_
  rcases hP with ⟨J', tk, p, v, ps, e1, e2, hst, hsz, hj, htx, hend, hins, S1⟩ | ⟨e1, _, _⟩
  · rw [h2] at e1
    obtain ⟨rfl, rfl⟩ := Prod.mk.inj (Option.some.inj e1)
    refine ⟨p, _, e2, Sep.jnOf ⟨v, ps, _, W⟩ ⟨⟨by rw [hj]; exact h3, ?_, hend, hins⟩, h4, htx, rfl, hW⟩ S1⟩
    unfold JV.geo
    rw [hst, hsz]
    have hn := h3.fits.n
    unfold geoS at hn ⊢
    rw [← hn]
  · rw [h2] at e1
    cases e1
set_option maxRecDepth 100000 in
set_option maxHeartbeats 8000000 in
theorem stood_s (hr : Rt w0) (hsn : Sen sa w0) (hB : Bds w0) (S : Sep w0 w R) {D : Nat} (h0 : 8 ≤ D) (h1 : D ≤ 4000) :
    Calls Tryz.prog 11 #[.int .i64 (D : Int), .slice none 0 0] w fun e w' => ∃ wp q p d, e = .returned (.pointer (some ⟨wp, 0, none⟩)) ∧ Sep w0 w' (Blk wp (worldC D q p d) 35 :: SpA q p d D 1 0 0 [] zeros zeros :: R) := by
  have hsh := shape_s w (D : Int)
  obtain ⟨Z, hZ⟩ : ∃ Z : Array Value, Z = zeroC := ⟨_, rfl⟩
  unfold zeroC at hZ
  go_enter Tryz.func11, Tryz.ntmps11
  go_wp2_with fail
  refine hsh.mono ?_
  clear hsh
  rintro _ w1 ⟨rfl, hb1⟩
  have S1 := S.calm hb1
  clear S hb1
  have hpl := plan_yes (bds_sep hB S1) (D : Int) (by omega) (by omega)
  go_wp2_with fail
  refine hpl.mono ?_
  clear hpl
  rintro _ w2 ⟨rfl, hb2⟩
  have S := S1.calm hb2
  clear S1 hb2
  dsimp only
  iterate 13 go_step
  have S := S.alloc zeroC 29
  unfold zeroC at S
  rw [← hZ] at S
  obtain ⟨b5, hb5⟩ : ∃ b5, b5 = w2.heap.size := ⟨_, rfl⟩
  obtain ⟨W6, hW⟩ : ∃ W6, W6 = w2.alloc (.cells Z 29) := ⟨_, rfl⟩
  rw [← hb5, ← hW] at S
  rw [← hZ, ← hb5, ← hW]
  refine wpList_store_row rfl 29 (.tmp 5) (.tmp 19) rfl b5 _ rfl rfl 29 Z S.blk (by kernel_rfl) (by rw [hZ]; rfl) (by simp [Value.oneCell']) ?_
  have S := S.setRow (layC D)
  obtain ⟨W, hW9⟩ : ∃ W, W = W6.setRow b5 (layC D) := ⟨_, rfl⟩
  have HS : Aside0 (Sep w0 W (Blk b5 (layC D) 29 :: R)) := ⟨by rw [hW9]; exact S⟩
  rw [← hW9]
  clear hW9 hW hb5 S hZ
  have c11 := HS.out.cell 11 (v := .int .i64 (35 + (D : Int))) rfl
  have d1 : decide (35 + (D : Int) < 1) = false := decide_eq_false (by omega)
  have hw : IntKind.i64.wrap (512 * (35 + (D : Int))) = 512 * (35 + (D : Int)) := by rw [IntKind.wrap_i64]; omega
  have hmk := print_make (P := Tryz.prog) 57 5 .u8 1 Tryz.underlying57 info5 (by decide) (512 * (35 + D)) (by omega)
  go_upto_region 4 with (first | (go_at_call 13; refine (num8 _ _).mono ?_; rintro _ W ⟨rfl, rfl⟩))
  have hmk2 : ∀ W : World, (Instr.makeSlice 57 (.int .i64 (512 * (35 + (D : Int)))) (.int .i64 (512 * (35 + (D : Int))))).run Tryz.prog W = .ok (.slice (some ⟨W.heap.size, 0, none⟩) (512 * (35 + D)) (512 * (35 + D))) (W.alloc (.cells (madeCells #[.int .u8 0] (512 * (35 + D))) 5)) := fun W => by simpa using hmk W
  clear hmk
  have S2 := HS.out.made (512 * (35 + D)) 0 (by omega)
  rw [Nat.add_zero] at S2
  go_upto_region 5 with fail
  obtain ⟨bi, hbi⟩ : ∃ bi, bi = W.heap.size := ⟨_, rfl⟩
  obtain ⟨W3, hW3⟩ : ∃ W3, W3 = W.alloc (.cells (madeCells #[.int .u8 0] (512 * (35 + D))) 5) := ⟨_, rfl⟩
  rw [← hbi, ← hW3] at S2
  rw [← hbi, ← hW3]
  have HS3 := Aside0.mk S2
  clear hbi hW3 S2 HS c11 hmk2 hw
  go_wp2_with fail
  go_loopw [8] (fun iv wr => iv = .int .i64 0 ∧ wr = W3) (fun _ _ => 0)
  case atStart => exact ⟨rfl, rfl⟩
  case round =>
    obtain ⟨rfl, rfl⟩ := hrel
    have hNl : (List.replicate (512 * (35 + D)) (0 : Int)).length = 512 * (35 + D) := List.length_replicate ..
    have him := image_yes_s HS3.out (some ⟨bi, 0, none⟩) (512 * (35 + D)) (512 * (35 + D)) (List.replicate (512 * (35 + D)) 0) hNl HS3.out.reads (by
      unfold fit
      rw [hNl]
      simp
      omega)
    go_wp2_with fail
    refine him.mono ?_
    clear him HS3 hNl
    rintro _ w4 ⟨d, rfl, S4⟩
    obtain ⟨hf1, hf2⟩ := stood_calm h0 h1
    have hfm := format_s hr S4 2 27 (by omega) (Nat.zero_le _)
    rw [hf1] at hfm
    have HCA := Aside0.mk hf2
    obtain ⟨sd, hsd⟩ : ∃ sd, sd = (formatP (DS.made (List.replicate (512 * (35 + D)) 0)) 2 27).2 := ⟨_, rfl⟩
    rw [← hsd] at hfm HCA
    clear hf1 hf2 hsd
    have c1 := (S4.pull 2).cell 1 (v := .int .i64 2) rfl
    have c2 := (S4.pull 2).cell 2 (v := .int .i64 27) rfl
    clear S4
    go_wp2_with (first | (go_at_call 13; refine (num8 _ _).mono ?_; rintro _ _ ⟨rfl, rfl⟩))
    refine hfm.mono ?_
    clear hfm c1 c2
    rintro _ w5 ⟨rfl, S5⟩
    have hop := open33 hr hsn S5 HCA.out (n := 1) (Nat.le_refl _)
    have c1 := (S5.pull 2).cell 1 (v := .int .i64 2) rfl
    have c2 := (S5.pull 2).cell 2 (v := .int .i64 27) rfl
    clear S5 HCA
    go_wp2_with fail
    refine hop.mono ?_
    clear hop c1 c2
    rintro _ w6 ⟨p, tk, rfl, S6⟩
    have S7 := S6.swap.drop
    have HS := Aside0.mk S7
    clear S6 S7
    go_wp2_with (first | (go_at_call 13; refine (num8 _ _).mono ?_; rintro _ W ⟨rfl, rfl⟩))
    have hbg := fun (X : World) (S : Sep w0 X (JnA p d D 1 (zeroW 33) :: Blk b5 (layC D) 29 :: R)) => begin33 S
    have hra : W.rangeAt b5 0 (layC D).toList := (HS.out.pull 1).range
    refine wp_region_held_drew (S := fun X => X.rangeAt b5 0 (layC D).toList) (by kernel_rfl) (by simpa using hra) (fun hHeld => ?_)
    refine wpAnyH_take (i := 0) (v := .agg (layC D)) rfl (by kernel_rfl) (by kernel_rfl) (by kernel_rfl) (fun _ _ _ h => h) (Or.inl ⟨by rfl, fun X hX => run_loadOp (t := 29) (x := .tmp 5) (g := b5) rfl rfl (run_layMid hX)⟩) hHeld ?_
    simp only [List.getElem_toArray, List.getElem_cons_zero, List.getElem_cons_succ, Act.put, List.setIfInBounds_toArray, List.set_cons_zero, List.set_cons_succ]
    refine wpAnyH_take (i := 1) (v := .pointer (some ⟨d, 0, none⟩)) rfl (by kernel_rfl) (by kernel_rfl) (by kernel_rfl) (fun _ _ _ h => h) (Or.inl ⟨by rfl, fun X hX => rfl⟩) hHeld ?_
    simp only [List.getElem_toArray, List.getElem_cons_zero, List.getElem_cons_succ, Act.put, List.setIfInBounds_toArray, List.set_cons_zero, List.set_cons_succ]
    refine wpAnyH_take (i := 2) (v := .pointer (some ⟨p, 0, none⟩)) rfl (by kernel_rfl) (by kernel_rfl) (by kernel_rfl) (fun _ _ _ h => h) (Or.inl ⟨by rfl, fun X hX => rfl⟩) hHeld ?_
    simp only [List.getElem_toArray, List.getElem_cons_zero, List.getElem_cons_succ, Act.put, List.setIfInBounds_toArray, List.set_cons_zero, List.set_cons_succ]
    refine wpAnyH_take (i := 3) (v := .pointer (some ⟨p, 0, none⟩)) rfl (by kernel_rfl) (by kernel_rfl) (by kernel_rfl) (fun _ _ _ h => h) (Or.inl ⟨by rfl, fun X hX => rfl⟩) hHeld ?_
    simp only [List.getElem_toArray, List.getElem_cons_zero, List.getElem_cons_succ, Act.put, List.setIfInBounds_toArray, List.set_cons_zero, List.set_cons_succ]
    refine wpAnyH_ready (rs := [4]) (by kernel_rfl) (by simp) ?_
    refine AllReadyH.cons rfl (fun K hK => ?_) AllReadyH.nil
    refine call_step Tryz.func19 (by kernel_rfl) (by rfl) #[.tmp 97] #[31] rfl rfl #[.pointer (some ⟨p, 0, none⟩)] (by simp [Act.eval]) ?_
    refine (hbg _ HS.out.drew).mono ?_
    rintro e w8 ⟨q, rfl, S8⟩
    have HS8 := Aside0.mk S8
    refine ⟨_, rfl, hK.out _ _ (S8.pull 1).range (fun hHeld => ?_)⟩
    clear S8
    clear hK K
    simp only [List.getElem_toArray, List.getElem_cons_zero, List.getElem_cons_succ, Act.put, List.setIfInBounds_toArray, List.set_cons_zero, List.set_cons_succ]
    refine wpAnyH_take (i := 5) (v := .agg (worldC D q p d)) rfl (by kernel_rfl) (by kernel_rfl) (by kernel_rfl) (fun _ _ _ h => h) (Or.inl ⟨by rfl, fun X hX => run_buildOp (t := 35) (parts := #[(0, .tmp 94), (1, .tmp 95), (2, .tmp 96), (3, .tmp 98)]) rfl [(0, .agg (layC D)), (1, .pointer (some ⟨d, 0, none⟩)), (2, .pointer (some ⟨p, 0, none⟩)), (3, .pointer (some ⟨q, 0, none⟩))] (by simp [Act.eval]) (built_world D q p d)⟩) hHeld ?_
    simp only [List.getElem_toArray, List.getElem_cons_zero, List.getElem_cons_succ, Act.put, List.setIfInBounds_toArray, List.set_cons_zero, List.set_cons_succ]
    refine wpAnyH_ready (rs := [6]) (by kernel_rfl) (by simp) ?_
    refine AllReadyH.cons rfl (fun K hK => ?_) AllReadyH.nil
    rw [if_pos (by rfl)]
    refine wp_boxOp 35 (.tmp 99) rfl (worldC D q p d) rfl ?_
    have S9 := (HS8.out.alloc (worldC D q p d) 35)
    refine hK.out _ _ (S9.pull 2).range (fun hHeld => ?_)
    clear hK K
    simp only [List.getElem_toArray, List.getElem_cons_zero, List.getElem_cons_succ, Act.put, List.setIfInBounds_toArray, List.set_cons_zero, List.set_cons_succ]
    refine wpAnyH_take (i := 7) (v := .pointer (some ⟨w8.heap.size, 0, none⟩)) rfl (by kernel_rfl) (by kernel_rfl) (by kernel_rfl) (fun _ _ _ h => h) (Or.inl ⟨by rfl, fun X hX => rfl⟩) hHeld ?_
    simp only [List.getElem_toArray, List.getElem_cons_zero, List.getElem_cons_succ, Act.put, List.setIfInBounds_toArray, List.set_cons_zero, List.set_cons_succ]
    refine wpAnyH_done (by kernel_rfl) ?_ _
    clear hHeld
    have HS9 := Aside0.mk S9
    clear S9
    go_wp2_with fail
    go_ret
    refine ⟨w8.heap.size, rfl, q, p, d, ?_⟩
    have S := (HS9.out.pull 2).drop
    exact S
end
end Go.Proofs.YtlhlmjkocmahmaaGreatDoor.Sep
/- What the drawn regions of the bitmap's laws are made of; the calls' contracts as they are met there. -/
namespace Go.Proofs.YtlhlmjkocmahmaaGreatDoor.Sep
open Go.Proofs.YtlhlmjkocmahmaaGreatDoor Go.Proofs Go.RowKit Go.ChangeMaps Go.Proofs.YtlhlmjkocmahmaaGreatDoorW.PrintWords Go.Proofs.YtlhlmjkocmahmaaGreatDoorW.PrintLast Go.Proofs.YtlhlmjkocmahmaaGreatDoorW.PrintMore Go.Proofs.YtlhlmjkocmahmaaGreatDoor.Dev Go.Proofs.YtlhlmjkocmahmaaGreatDoor.Errs Go.Proofs.YtlhlmjkocmahmaaGreatDoor.Jr Go.Proofs.YtlhlmjkocmahmaaGreatDoor.Help Go.Proofs.YtlhlmjkocmahmaaGreatDoor.IMap
set_option linter.unusedVariables false
set_option linter.unusedSimpArgs false
/-- A quiet operation of a drawn region, taken first. -/
theorem tk {P : Program} {md : Region.Mode} {ops : Array Oper} {Q : Exit → Act → World → Prop} {S : World → Prop} {fuel : Nat} {listed : Array Bool} {a : Act} {w : World} (i : Nat) (v : Value) {oi : Oper} (hi : ops[i]? = some oi) (hr : ∀ X, S X → (execOp a.eval oi).run P X = .ok (.value v) X) (hS : S w)
    (h : wpAnyH P md ops Q S fuel (listed.setIfInBounds i true) (a.put oi.dst v) w) (hs : Region.noSelect ops = true := by kernel_rfl) (hf : Region.free md ops listed i = true := by kernel_rfl) (hd : (Region.ready md ops listed).contains i = true := by kernel_rfl) (hw : Region.wanted oi (yielded ops a.tmps) = true := by rfl) (hQ : ∀ c a' w', Q (.panic c) (a'.put oi.dst v) w' → Q (.panic c) a' w' := by exact fun _ _ _ h => h) :
    wpAnyH P md ops Q S (fuel + 1) listed a w :=
  wpAnyH_take hi hs hf hd hQ (Or.inl ⟨hw, hr⟩) hS h
section
variable {w0 w w' X : World} {R : List Asn} {o : Oper} {ρ : Operand → Value} {x : Operand} {wp q p d D : Nat}
theorem run_nilOp (ho : o.op = .nilCheck x) (hx : ρ x = .pointer (some ⟨wp, 0, none⟩)) : (execOp ρ o).run Tryz.prog X = .ok (.value (.pointer (some ⟨wp, 0, none⟩))) X := by
  unfold execOp
  simp only [ho, hx]
  rfl
theorem run_fieldOp3 (ho : o.op = .fieldAddr 35 x 3) (hx : ρ x = .pointer (some ⟨wp, 0, none⟩)) : (execOp ρ o).run Tryz.prog X = .ok (.value (.pointer (some ⟨wp, 22, none⟩))) X := by
  unfold execOp
  simp only [ho, hx]
  kernel_rfl
theorem run_fieldOp0 (ho : o.op = .fieldAddr 35 x 0) (hx : ρ x = .pointer (some ⟨wp, 0, none⟩)) : (execOp ρ o).run Tryz.prog X = .ok (.value (.pointer (some ⟨wp, 0, none⟩))) X := by
  unfold execOp
  simp only [ho, hx]
  kernel_rfl
theorem run_loadT (ho : o.op = .load 32 x) (hx : ρ x = .pointer (some ⟨wp, 22, none⟩)) (hX : X.rangeAt wp 0 (worldC D q p d).toList) : (execOp ρ o).run Tryz.prog X = .ok (.value (.pointer (some ⟨q, 0, none⟩))) X := by
  have hc : X.cell? ⟨wp, 22, none⟩ = some (.pointer (some ⟨q, 0, none⟩)) := by
    have h := hX 22 (.pointer (some ⟨q, 0, none⟩)) rfl
    rwa [Nat.zero_add] at h
  unfold execOp
  simp [ho, hx, go_sem, hc]
theorem run_fieldOpL (ho : o.op = .fieldAddr 29 x 9) (hx : ρ x = .pointer (some ⟨wp, 0, none⟩)) : (execOp ρ o).run Tryz.prog X = .ok (.value (.pointer (some ⟨wp, 9, none⟩))) X := by
  unfold execOp
  simp only [ho, hx]
  kernel_rfl
theorem run_loadI9 (ho : o.op = .load 3 x) (hx : ρ x = .pointer (some ⟨wp, 9, none⟩)) (hX : X.rangeAt wp 0 (worldC D q p d).toList) : (execOp ρ o).run Tryz.prog X = .ok (.value (.int .i64 35)) X := by
  have hc : X.cell? ⟨wp, 9, none⟩ = some (.int .i64 35) := by
    have h := hX 9 (.int .i64 35) rfl
    rwa [Nat.zero_add] at h
  unfold execOp
  simp [ho, hx, go_sem, hc]
theorem run_addOp {y : Operand} {t2 : TypeId} {a b c : Int} (hw : IntKind.i64.wrap (a + b) = c) (ho : o.op = .binOp .add 3 x y t2) (hx : ρ x = .int .i64 a) (hy : ρ y = .int .i64 b) : (execOp ρ o).run Tryz.prog X = .ok (.value (.int .i64 c)) X := by
  subst hw
  unfold execOp
  simp only [ho, hx, hy]
  rfl
theorem run_subOp {y : Operand} {t2 : TypeId} {a b c : Int} (hw : IntKind.i64.wrap (a - b) = c) (ho : o.op = .binOp .sub 3 x y t2) (hx : ρ x = .int .i64 a) (hy : ρ y = .int .i64 b) : (execOp ρ o).run Tryz.prog X = .ok (.value (.int .i64 c)) X := by
  subst hw
  unfold execOp
  simp only [ho, hx, hy]
  rfl
theorem range_lay (hX : X.rangeAt wp 0 (worldC D q p d).toList) : X.rangeAt wp 0 (layC D).toList := fun j v hv => hX j v (by
  have hj : j < 20 := (List.getElem?_eq_some_iff.1 hv).1
  rw [← hv]
  have : j = 0 ∨ j = 1 ∨ j = 2 ∨ j = 3 ∨ j = 4 ∨ j = 5 ∨ j = 6 ∨ j = 7 ∨ j = 8 ∨ j = 9 ∨ j = 10 ∨ j = 11 ∨ j = 12 ∨ j = 13 ∨ j = 14 ∨ j = 15 ∨ j = 16 ∨ j = 17 ∨ j = 18 ∨ j = 19 := by omega
  rcases this with rfl | rfl | rfl | rfl | rfl | rfl | rfl | rfl | rfl | rfl | rfl | rfl | rfl | rfl | rfl | rfl | rfl | rfl | rfl | rfl <;> rfl)
end
theorem zeros_ok : Bm.OkL zeros := fun x hx => by
  rw [List.eq_of_mem_replicate hx]
  exact ⟨by decide, by decide⟩
theorem zeros_bit (i : Nat) : Bm.bit zeros i = false := by
  unfold Bm.bit
  have h : Bm.at_ zeros (i / 8) = 0 := by
    unfold Bm.at_
    rw [List.getD_eq_getElem?_getD]
    by_cases h : i / 8 < 512
    · rw [List.getElem?_replicate, if_pos h]
      rfl
    · rw [List.getElem?_replicate, if_neg h]
      rfl
  rw [h]
  unfold Bm.bt
  simp
/-- More writes may have been than were. -/
theorem Sep.sp_more {w0 w : World} {R : List Asn} {q p d D n k k' : Nat} {mk : Int} {sv : List (Int × Nat)} {Bd B : List Int} (S : Sep w0 w (SpA q p d D n k mk sv Bd B :: R)) (h : k ≤ k') : Sep w0 w (SpA q p d D n k' mk sv Bd B :: R) := by
  obtain ⟨i, h1, h2, h3, S⟩ := S.sp
  exact Sep.spOf i ⟨h1.live, h1.fuse, h1.ins, h1.ok, h1.only, h1.bits, Nat.le_trans h1.few h, h1.und, h1.box, h1.seq⟩ h2 h3 S
section
variable {w0 w w' : World} {R : List Asn} {q p d D n k : Nat} {mk : Int} {sv : List (Int × Nat)} {Bd B : List Int}
theorem alloc_yes (hB : Bds w0) (S : Sep w0 w (SpA q p d D n k mk sv Bd B :: R)) (hok : Bm.OkL B) (h0 : 8 ≤ D) (h1 : D ≤ 4000) (hk : k ≤ 900000) (m : Nat) (hm : m < D) (hall : ∀ i, i < m → Bm.bit B i = true) (hfr : Bm.bit B m = false) :
    Calls Tryz.prog 12 #[.pointer (some ⟨q, 0, none⟩), .agg (layC D)] w fun e w' => e = .returned (.tuple #[.int .i64 (35 + (m : Int)), .int .i64 0]) ∧ Sep w0 w' (SpA q p d D n (k + 1) mk sv Bd (Bm.setB B m) :: R) :=
  (alloc_s hB S hok h0 h1 hk m (by omega) hall fun _ => hfr).mono fun e w' h => by
    rwa [if_pos hm] at h
theorem alloc_no (hB : Bds w0) (S : Sep w0 w (SpA q p d D n k mk sv Bd B :: R)) (hok : Bm.OkL B) (h0 : 8 ≤ D) (h1 : D ≤ 4000) (hk : k ≤ 900000) (hall : ∀ i, i < D → Bm.bit B i = true) :
    Calls Tryz.prog 12 #[.pointer (some ⟨q, 0, none⟩), .agg (layC D)] w fun e w' => e = .returned (.tuple #[.int .i64 0, .int .i64 81]) ∧ Sep w0 w' (SpA q p d D n k mk sv Bd B :: R) :=
  (alloc_s hB S hok h0 h1 hk D (Nat.le_refl _) hall fun h => absurd h (Nat.lt_irrefl _)).mono fun e w' h => by
    rwa [if_neg (Nat.lt_irrefl _)] at h
end
end Go.Proofs.YtlhlmjkocmahmaaGreatDoor.Sep
/- known: three blocks are taken, one is given back and taken again. -/
namespace Go.Proofs.YtlhlmjkocmahmaaGreatDoor.Sep
open Go.Proofs.YtlhlmjkocmahmaaGreatDoor Go.Proofs Go.RowKit Go.ChangeMaps Go.Proofs.YtlhlmjkocmahmaaGreatDoorW.PrintWords Go.Proofs.YtlhlmjkocmahmaaGreatDoorW.PrintLast Go.Proofs.YtlhlmjkocmahmaaGreatDoorW.PrintMore Go.Proofs.YtlhlmjkocmahmaaGreatDoor.Dev Go.Proofs.YtlhlmjkocmahmaaGreatDoor.Errs Go.Proofs.YtlhlmjkocmahmaaGreatDoor.Jr Go.Proofs.YtlhlmjkocmahmaaGreatDoor.Help Go.Proofs.YtlhlmjkocmahmaaGreatDoor.IMap
set_option linter.unusedVariables false
set_option linter.unusedSimpArgs false
section
variable {w0 w w' : World} {R : List Asn} {sa : Addr}
set_option maxRecDepth 100000 in
set_option maxHeartbeats 8000000 in
theorem known_s (hr : Rt w0) (hsn : Sen sa w0) (hB : Bds w0) (S : Sep w0 w R) :
    Calls Tryz.prog 9 #[] w fun e w' => e = .returned (.bool true) ∧ Sep w0 w' R := by
  have hst := stood_s hr hsn hB S (D := 20) (by decide) (by decide)
  clear S
  go_enter Tryz.func9, Tryz.ntmps9
  go_wp2_with fail
  refine hst.mono ?_
  clear hst
  rintro _ w1 ⟨wp, q, p, d, rfl, S⟩
  have c22 := S.cell 22 (v := .pointer (some ⟨q, 0, none⟩)) rfl
  have HS := Aside0.mk S
  clear S
  go_upto_region 4 with fail
  clear c22
  refine wp_region_held_drew (S := fun X => X.rangeAt wp 0 (worldC 20 q p d).toList) (by kernel_rfl) (by simpa using HS.out.range) (fun hHeld => ?_)
  refine tk 0 (.pointer (some ⟨wp, 0, none⟩)) rfl (fun X hX => rfl) hHeld ?_
  simp only [List.getElem_toArray, List.getElem_cons_zero, List.getElem_cons_succ, Act.put, List.setIfInBounds_toArray, List.set_cons_zero, List.set_cons_succ]
  refine tk 1 (.pointer (some ⟨wp, 0, none⟩)) rfl (fun X hX => run_nilOp rfl rfl) hHeld ?_
  simp only [List.getElem_toArray, List.getElem_cons_zero, List.getElem_cons_succ, Act.put, List.setIfInBounds_toArray, List.set_cons_zero, List.set_cons_succ]
  refine tk 2 (.pointer (some ⟨wp, 22, none⟩)) rfl (fun X hX => run_fieldOp3 rfl rfl) hHeld ?_
  simp only [List.getElem_toArray, List.getElem_cons_zero, List.getElem_cons_succ, Act.put, List.setIfInBounds_toArray, List.set_cons_zero, List.set_cons_succ]
  refine tk 3 (.pointer (some ⟨q, 0, none⟩)) rfl (fun X hX => run_loadT rfl rfl hX) hHeld ?_
  simp only [List.getElem_toArray, List.getElem_cons_zero, List.getElem_cons_succ, Act.put, List.setIfInBounds_toArray, List.set_cons_zero, List.set_cons_succ]
  refine tk 4 (.pointer (some ⟨wp, 0, none⟩)) rfl (fun X hX => rfl) hHeld ?_
  simp only [List.getElem_toArray, List.getElem_cons_zero, List.getElem_cons_succ, Act.put, List.setIfInBounds_toArray, List.set_cons_zero, List.set_cons_succ]
  refine tk 5 (.pointer (some ⟨wp, 0, none⟩)) rfl (fun X hX => run_nilOp rfl rfl) hHeld ?_
  simp only [List.getElem_toArray, List.getElem_cons_zero, List.getElem_cons_succ, Act.put, List.setIfInBounds_toArray, List.set_cons_zero, List.set_cons_succ]
  refine tk 6 (.pointer (some ⟨wp, 0, none⟩)) rfl (fun X hX => run_fieldOp0 rfl rfl) hHeld ?_
  simp only [List.getElem_toArray, List.getElem_cons_zero, List.getElem_cons_succ, Act.put, List.setIfInBounds_toArray, List.set_cons_zero, List.set_cons_succ]
  refine tk 7 (.agg (layC 20)) rfl (fun X hX => run_loadOp (t := 29) (x := .tmp 28) (g := wp) rfl rfl (run_layMid (range_lay hX))) hHeld ?_
  simp only [List.getElem_toArray, List.getElem_cons_zero, List.getElem_cons_succ, Act.put, List.setIfInBounds_toArray, List.set_cons_zero, List.set_cons_succ]
  refine wpAnyH_ready (rs := [8]) (by kernel_rfl) (by simp) ?_
  refine AllReadyH.cons rfl (fun K hK => ?_) AllReadyH.nil
  refine call_step Tryz.func12 (by kernel_rfl) (by rfl) #[.tmp 25, .tmp 29] #[32, 29] rfl rfl #[.pointer (some ⟨q, 0, none⟩), .agg (layC 20)] (by simp [Act.eval]) ?_
  refine (alloc_yes (D := 20) (k := 0) hB (HS.out.drew.pull 1) zeros_ok (by decide) (by decide) (by decide) 0 (by decide) (by decide +kernel) (by decide +kernel)).mono ?_
  rintro e w2 ⟨rfl, S⟩
  rw [show (35 + ((0 : Nat) : Int)) = 35 from rfl]
  have S := S.pull 1
  refine ⟨_, rfl, hK.out _ _ S.range (fun hHeld => ?_)⟩
  clear hK K
  simp only [List.getElem_toArray, List.getElem_cons_zero, List.getElem_cons_succ, Act.put, List.setIfInBounds_toArray, List.set_cons_zero, List.set_cons_succ]
  refine tk 9 (.tuple #[.int .i64 35, .int .i64 0]) rfl (fun X hX => rfl) hHeld ?_
  simp only [List.getElem_toArray, List.getElem_cons_zero, List.getElem_cons_succ, Act.put, List.setIfInBounds_toArray, List.set_cons_zero, List.set_cons_succ]
  refine tk 10 (.int .i64 35) rfl (fun X hX => rfl) hHeld ?_
  simp only [List.getElem_toArray, List.getElem_cons_zero, List.getElem_cons_succ, Act.put, List.setIfInBounds_toArray, List.set_cons_zero, List.set_cons_succ]
  refine tk 11 (.int .i64 0) rfl (fun X hX => rfl) hHeld ?_
  simp only [List.getElem_toArray, List.getElem_cons_zero, List.getElem_cons_succ, Act.put, List.setIfInBounds_toArray, List.set_cons_zero, List.set_cons_succ]
  refine tk 12 (.int .i64 35) rfl (fun X hX => rfl) hHeld ?_
  simp only [List.getElem_toArray, List.getElem_cons_zero, List.getElem_cons_succ, Act.put, List.setIfInBounds_toArray, List.set_cons_zero, List.set_cons_succ]
  refine tk 13 (.int .i64 0) rfl (fun X hX => rfl) hHeld ?_
  simp only [List.getElem_toArray, List.getElem_cons_zero, List.getElem_cons_succ, Act.put, List.setIfInBounds_toArray, List.set_cons_zero, List.set_cons_succ]
  refine wpAnyH_done (by kernel_rfl) ?_ _
  clear hHeld
  have HS := Aside0.mk S
  clear S
  go_upto_region 5 with fail
  refine wp_region_held_drew (S := fun X => X.rangeAt wp 0 (worldC 20 q p d).toList) (by kernel_rfl) (by simpa using HS.out.range) (fun hHeld => ?_)
  refine tk 0 (.pointer (some ⟨wp, 0, none⟩)) rfl (fun X hX => rfl) hHeld ?_
  simp only [List.getElem_toArray, List.getElem_cons_zero, List.getElem_cons_succ, Act.put, List.setIfInBounds_toArray, List.set_cons_zero, List.set_cons_succ]
  refine tk 1 (.pointer (some ⟨wp, 0, none⟩)) rfl (fun X hX => run_nilOp rfl rfl) hHeld ?_
  simp only [List.getElem_toArray, List.getElem_cons_zero, List.getElem_cons_succ, Act.put, List.setIfInBounds_toArray, List.set_cons_zero, List.set_cons_succ]
  refine tk 2 (.pointer (some ⟨wp, 22, none⟩)) rfl (fun X hX => run_fieldOp3 rfl rfl) hHeld ?_
  simp only [List.getElem_toArray, List.getElem_cons_zero, List.getElem_cons_succ, Act.put, List.setIfInBounds_toArray, List.set_cons_zero, List.set_cons_succ]
  refine tk 3 (.pointer (some ⟨q, 0, none⟩)) rfl (fun X hX => run_loadT rfl rfl hX) hHeld ?_
  simp only [List.getElem_toArray, List.getElem_cons_zero, List.getElem_cons_succ, Act.put, List.setIfInBounds_toArray, List.set_cons_zero, List.set_cons_succ]
  refine tk 4 (.pointer (some ⟨wp, 0, none⟩)) rfl (fun X hX => rfl) hHeld ?_
  simp only [List.getElem_toArray, List.getElem_cons_zero, List.getElem_cons_succ, Act.put, List.setIfInBounds_toArray, List.set_cons_zero, List.set_cons_succ]
  refine tk 5 (.pointer (some ⟨wp, 0, none⟩)) rfl (fun X hX => run_nilOp rfl rfl) hHeld ?_
  simp only [List.getElem_toArray, List.getElem_cons_zero, List.getElem_cons_succ, Act.put, List.setIfInBounds_toArray, List.set_cons_zero, List.set_cons_succ]
  refine tk 6 (.pointer (some ⟨wp, 0, none⟩)) rfl (fun X hX => run_fieldOp0 rfl rfl) hHeld ?_
  simp only [List.getElem_toArray, List.getElem_cons_zero, List.getElem_cons_succ, Act.put, List.setIfInBounds_toArray, List.set_cons_zero, List.set_cons_succ]
  refine tk 7 (.agg (layC 20)) rfl (fun X hX => run_loadOp (t := 29) (x := .tmp 40) (g := wp) rfl rfl (run_layMid (range_lay hX))) hHeld ?_
  simp only [List.getElem_toArray, List.getElem_cons_zero, List.getElem_cons_succ, Act.put, List.setIfInBounds_toArray, List.set_cons_zero, List.set_cons_succ]
  refine wpAnyH_ready (rs := [8]) (by kernel_rfl) (by simp) ?_
  refine AllReadyH.cons rfl (fun K hK => ?_) AllReadyH.nil
  refine call_step Tryz.func12 (by kernel_rfl) (by rfl) #[.tmp 37, .tmp 41] #[32, 29] rfl rfl #[.pointer (some ⟨q, 0, none⟩), .agg (layC 20)] (by simp [Act.eval]) ?_
  refine (alloc_yes (D := 20) (k := 1) hB (HS.out.drew.pull 1) (Bm.setB_ok zeros_ok 0) (by decide) (by decide) (by decide) 1 (by decide) (by decide +kernel) (by decide +kernel)).mono ?_
  rintro e w3 ⟨rfl, S⟩
  rw [show (35 + ((1 : Nat) : Int)) = 36 from rfl]
  have S := S.pull 1
  refine ⟨_, rfl, hK.out _ _ S.range (fun hHeld => ?_)⟩
  clear hK K
  simp only [List.getElem_toArray, List.getElem_cons_zero, List.getElem_cons_succ, Act.put, List.setIfInBounds_toArray, List.set_cons_zero, List.set_cons_succ]
  refine tk 9 (.tuple #[.int .i64 36, .int .i64 0]) rfl (fun X hX => rfl) hHeld ?_
  simp only [List.getElem_toArray, List.getElem_cons_zero, List.getElem_cons_succ, Act.put, List.setIfInBounds_toArray, List.set_cons_zero, List.set_cons_succ]
  refine tk 10 (.int .i64 36) rfl (fun X hX => rfl) hHeld ?_
  simp only [List.getElem_toArray, List.getElem_cons_zero, List.getElem_cons_succ, Act.put, List.setIfInBounds_toArray, List.set_cons_zero, List.set_cons_succ]
  refine tk 11 (.int .i64 0) rfl (fun X hX => rfl) hHeld ?_
  simp only [List.getElem_toArray, List.getElem_cons_zero, List.getElem_cons_succ, Act.put, List.setIfInBounds_toArray, List.set_cons_zero, List.set_cons_succ]
  refine tk 12 (.int .i64 36) rfl (fun X hX => rfl) hHeld ?_
  simp only [List.getElem_toArray, List.getElem_cons_zero, List.getElem_cons_succ, Act.put, List.setIfInBounds_toArray, List.set_cons_zero, List.set_cons_succ]
  refine tk 13 (.int .i64 0) rfl (fun X hX => rfl) hHeld ?_
  simp only [List.getElem_toArray, List.getElem_cons_zero, List.getElem_cons_succ, Act.put, List.setIfInBounds_toArray, List.set_cons_zero, List.set_cons_succ]
  refine wpAnyH_done (by kernel_rfl) ?_ _
  clear hHeld
  have HS := Aside0.mk S
  clear S
  go_upto_region 6 with fail
  refine wp_region_held_drew (S := fun X => X.rangeAt wp 0 (worldC 20 q p d).toList) (by kernel_rfl) (by simpa using HS.out.range) (fun hHeld => ?_)
  refine tk 0 (.pointer (some ⟨wp, 0, none⟩)) rfl (fun X hX => rfl) hHeld ?_
  simp only [List.getElem_toArray, List.getElem_cons_zero, List.getElem_cons_succ, Act.put, List.setIfInBounds_toArray, List.set_cons_zero, List.set_cons_succ]
  refine tk 1 (.pointer (some ⟨wp, 0, none⟩)) rfl (fun X hX => run_nilOp rfl rfl) hHeld ?_
  simp only [List.getElem_toArray, List.getElem_cons_zero, List.getElem_cons_succ, Act.put, List.setIfInBounds_toArray, List.set_cons_zero, List.set_cons_succ]
  refine tk 2 (.pointer (some ⟨wp, 22, none⟩)) rfl (fun X hX => run_fieldOp3 rfl rfl) hHeld ?_
  simp only [List.getElem_toArray, List.getElem_cons_zero, List.getElem_cons_succ, Act.put, List.setIfInBounds_toArray, List.set_cons_zero, List.set_cons_succ]
  refine tk 3 (.pointer (some ⟨q, 0, none⟩)) rfl (fun X hX => run_loadT rfl rfl hX) hHeld ?_
  simp only [List.getElem_toArray, List.getElem_cons_zero, List.getElem_cons_succ, Act.put, List.setIfInBounds_toArray, List.set_cons_zero, List.set_cons_succ]
  refine tk 4 (.pointer (some ⟨wp, 0, none⟩)) rfl (fun X hX => rfl) hHeld ?_
  simp only [List.getElem_toArray, List.getElem_cons_zero, List.getElem_cons_succ, Act.put, List.setIfInBounds_toArray, List.set_cons_zero, List.set_cons_succ]
  refine tk 5 (.pointer (some ⟨wp, 0, none⟩)) rfl (fun X hX => run_nilOp rfl rfl) hHeld ?_
  simp only [List.getElem_toArray, List.getElem_cons_zero, List.getElem_cons_succ, Act.put, List.setIfInBounds_toArray, List.set_cons_zero, List.set_cons_succ]
  refine tk 6 (.pointer (some ⟨wp, 0, none⟩)) rfl (fun X hX => run_fieldOp0 rfl rfl) hHeld ?_
  simp only [List.getElem_toArray, List.getElem_cons_zero, List.getElem_cons_succ, Act.put, List.setIfInBounds_toArray, List.set_cons_zero, List.set_cons_succ]
  refine tk 7 (.agg (layC 20)) rfl (fun X hX => run_loadOp (t := 29) (x := .tmp 51) (g := wp) rfl rfl (run_layMid (range_lay hX))) hHeld ?_
  simp only [List.getElem_toArray, List.getElem_cons_zero, List.getElem_cons_succ, Act.put, List.setIfInBounds_toArray, List.set_cons_zero, List.set_cons_succ]
  refine tk 8 (.int .i64 35) rfl (fun X hX => rfl) hHeld ?_
  simp only [List.getElem_toArray, List.getElem_cons_zero, List.getElem_cons_succ, Act.put, List.setIfInBounds_toArray, List.set_cons_zero, List.set_cons_succ]
  refine wpAnyH_ready (rs := [9]) (by kernel_rfl) (by simp) ?_
  refine AllReadyH.cons rfl (fun K hK => ?_) AllReadyH.nil
  refine call_step Tryz.func14 (by kernel_rfl) (by rfl) #[.tmp 48, .tmp 52, .tmp 53] #[32, 29, 3] rfl rfl #[.pointer (some ⟨q, 0, none⟩), .agg (layC 20), .int .i64 35] (by simp [Act.eval]) ?_
  refine (free_s (D := 20) (k := 2) hB (HS.out.drew.pull 1) (Bm.setB_ok (Bm.setB_ok zeros_ok 0) 1) (by decide) (by decide) (by decide) 0 (by decide) (by decide +kernel)).mono ?_
  rintro e w4 ⟨rfl, S⟩
  have S := S.pull 1
  refine ⟨_, rfl, hK.out _ _ S.range (fun hHeld => ?_)⟩
  clear hK K
  simp only [List.getElem_toArray, List.getElem_cons_zero, List.getElem_cons_succ, Act.put, List.setIfInBounds_toArray, List.set_cons_zero, List.set_cons_succ]
  refine tk 10 (.int .i64 0) rfl (fun X hX => rfl) hHeld ?_
  simp only [List.getElem_toArray, List.getElem_cons_zero, List.getElem_cons_succ, Act.put, List.setIfInBounds_toArray, List.set_cons_zero, List.set_cons_succ]
  refine wpAnyH_done (by kernel_rfl) ?_ _
  clear hHeld
  have HS := Aside0.mk S
  clear S
  go_upto_region 7 with fail
  refine wp_region_held_drew (S := fun X => X.rangeAt wp 0 (worldC 20 q p d).toList) (by kernel_rfl) (by simpa using HS.out.range) (fun hHeld => ?_)
  refine tk 0 (.pointer (some ⟨wp, 0, none⟩)) rfl (fun X hX => rfl) hHeld ?_
  simp only [List.getElem_toArray, List.getElem_cons_zero, List.getElem_cons_succ, Act.put, List.setIfInBounds_toArray, List.set_cons_zero, List.set_cons_succ]
  refine tk 1 (.pointer (some ⟨wp, 0, none⟩)) rfl (fun X hX => run_nilOp rfl rfl) hHeld ?_
  simp only [List.getElem_toArray, List.getElem_cons_zero, List.getElem_cons_succ, Act.put, List.setIfInBounds_toArray, List.set_cons_zero, List.set_cons_succ]
  refine tk 2 (.pointer (some ⟨wp, 22, none⟩)) rfl (fun X hX => run_fieldOp3 rfl rfl) hHeld ?_
  simp only [List.getElem_toArray, List.getElem_cons_zero, List.getElem_cons_succ, Act.put, List.setIfInBounds_toArray, List.set_cons_zero, List.set_cons_succ]
  refine tk 3 (.pointer (some ⟨q, 0, none⟩)) rfl (fun X hX => run_loadT rfl rfl hX) hHeld ?_
  simp only [List.getElem_toArray, List.getElem_cons_zero, List.getElem_cons_succ, Act.put, List.setIfInBounds_toArray, List.set_cons_zero, List.set_cons_succ]
  refine tk 4 (.pointer (some ⟨wp, 0, none⟩)) rfl (fun X hX => rfl) hHeld ?_
  simp only [List.getElem_toArray, List.getElem_cons_zero, List.getElem_cons_succ, Act.put, List.setIfInBounds_toArray, List.set_cons_zero, List.set_cons_succ]
  refine tk 5 (.pointer (some ⟨wp, 0, none⟩)) rfl (fun X hX => run_nilOp rfl rfl) hHeld ?_
  simp only [List.getElem_toArray, List.getElem_cons_zero, List.getElem_cons_succ, Act.put, List.setIfInBounds_toArray, List.set_cons_zero, List.set_cons_succ]
  refine tk 6 (.pointer (some ⟨wp, 0, none⟩)) rfl (fun X hX => run_fieldOp0 rfl rfl) hHeld ?_
  simp only [List.getElem_toArray, List.getElem_cons_zero, List.getElem_cons_succ, Act.put, List.setIfInBounds_toArray, List.set_cons_zero, List.set_cons_succ]
  refine tk 7 (.agg (layC 20)) rfl (fun X hX => run_loadOp (t := 29) (x := .tmp 62) (g := wp) rfl rfl (run_layMid (range_lay hX))) hHeld ?_
  simp only [List.getElem_toArray, List.getElem_cons_zero, List.getElem_cons_succ, Act.put, List.setIfInBounds_toArray, List.set_cons_zero, List.set_cons_succ]
  refine wpAnyH_ready (rs := [8]) (by kernel_rfl) (by simp) ?_
  refine AllReadyH.cons rfl (fun K hK => ?_) AllReadyH.nil
  refine call_step Tryz.func12 (by kernel_rfl) (by rfl) #[.tmp 59, .tmp 63] #[32, 29] rfl rfl #[.pointer (some ⟨q, 0, none⟩), .agg (layC 20)] (by simp [Act.eval]) ?_
  refine (alloc_yes (D := 20) (k := 3) hB (HS.out.drew.pull 1) (Bm.clrB_ok (Bm.setB_ok (Bm.setB_ok zeros_ok 0) 1) 0) (by decide) (by decide) (by decide) 0 (by decide) (by decide +kernel) (by decide +kernel)).mono ?_
  rintro e w5 ⟨rfl, S⟩
  rw [show (35 + ((0 : Nat) : Int)) = 35 from rfl]
  have S := S.pull 1
  refine ⟨_, rfl, hK.out _ _ S.range (fun hHeld => ?_)⟩
  clear hK K
  simp only [List.getElem_toArray, List.getElem_cons_zero, List.getElem_cons_succ, Act.put, List.setIfInBounds_toArray, List.set_cons_zero, List.set_cons_succ]
  refine tk 9 (.tuple #[.int .i64 35, .int .i64 0]) rfl (fun X hX => rfl) hHeld ?_
  simp only [List.getElem_toArray, List.getElem_cons_zero, List.getElem_cons_succ, Act.put, List.setIfInBounds_toArray, List.set_cons_zero, List.set_cons_succ]
  refine tk 10 (.int .i64 35) rfl (fun X hX => rfl) hHeld ?_
  simp only [List.getElem_toArray, List.getElem_cons_zero, List.getElem_cons_succ, Act.put, List.setIfInBounds_toArray, List.set_cons_zero, List.set_cons_succ]
  refine tk 11 (.int .i64 0) rfl (fun X hX => rfl) hHeld ?_
  simp only [List.getElem_toArray, List.getElem_cons_zero, List.getElem_cons_succ, Act.put, List.setIfInBounds_toArray, List.set_cons_zero, List.set_cons_succ]
  refine tk 12 (.int .i64 35) rfl (fun X hX => rfl) hHeld ?_
  simp only [List.getElem_toArray, List.getElem_cons_zero, List.getElem_cons_succ, Act.put, List.setIfInBounds_toArray, List.set_cons_zero, List.set_cons_succ]
  refine tk 13 (.int .i64 0) rfl (fun X hX => rfl) hHeld ?_
  simp only [List.getElem_toArray, List.getElem_cons_zero, List.getElem_cons_succ, Act.put, List.setIfInBounds_toArray, List.set_cons_zero, List.set_cons_succ]
  refine wpAnyH_done (by kernel_rfl) ?_ _
  clear hHeld
  have HS := Aside0.mk S
  clear S
  go_upto_region 8 with fail
  refine wp_region_held_drew (S := fun X => X.rangeAt wp 0 (worldC 20 q p d).toList) (by kernel_rfl) (by simpa using HS.out.range) (fun hHeld => ?_)
  refine tk 0 (.pointer (some ⟨wp, 0, none⟩)) rfl (fun X hX => rfl) hHeld ?_
  simp only [List.getElem_toArray, List.getElem_cons_zero, List.getElem_cons_succ, Act.put, List.setIfInBounds_toArray, List.set_cons_zero, List.set_cons_succ]
  refine tk 1 (.pointer (some ⟨wp, 0, none⟩)) rfl (fun X hX => run_nilOp rfl rfl) hHeld ?_
  simp only [List.getElem_toArray, List.getElem_cons_zero, List.getElem_cons_succ, Act.put, List.setIfInBounds_toArray, List.set_cons_zero, List.set_cons_succ]
  refine tk 2 (.pointer (some ⟨wp, 22, none⟩)) rfl (fun X hX => run_fieldOp3 rfl rfl) hHeld ?_
  simp only [List.getElem_toArray, List.getElem_cons_zero, List.getElem_cons_succ, Act.put, List.setIfInBounds_toArray, List.set_cons_zero, List.set_cons_succ]
  refine tk 3 (.pointer (some ⟨q, 0, none⟩)) rfl (fun X hX => run_loadT rfl rfl hX) hHeld ?_
  simp only [List.getElem_toArray, List.getElem_cons_zero, List.getElem_cons_succ, Act.put, List.setIfInBounds_toArray, List.set_cons_zero, List.set_cons_succ]
  refine tk 4 (.pointer (some ⟨wp, 0, none⟩)) rfl (fun X hX => rfl) hHeld ?_
  simp only [List.getElem_toArray, List.getElem_cons_zero, List.getElem_cons_succ, Act.put, List.setIfInBounds_toArray, List.set_cons_zero, List.set_cons_succ]
  refine tk 5 (.pointer (some ⟨wp, 0, none⟩)) rfl (fun X hX => run_nilOp rfl rfl) hHeld ?_
  simp only [List.getElem_toArray, List.getElem_cons_zero, List.getElem_cons_succ, Act.put, List.setIfInBounds_toArray, List.set_cons_zero, List.set_cons_succ]
  refine tk 6 (.pointer (some ⟨wp, 0, none⟩)) rfl (fun X hX => run_fieldOp0 rfl rfl) hHeld ?_
  simp only [List.getElem_toArray, List.getElem_cons_zero, List.getElem_cons_succ, Act.put, List.setIfInBounds_toArray, List.set_cons_zero, List.set_cons_succ]
  refine tk 7 (.agg (layC 20)) rfl (fun X hX => run_loadOp (t := 29) (x := .tmp 74) (g := wp) rfl rfl (run_layMid (range_lay hX))) hHeld ?_
  simp only [List.getElem_toArray, List.getElem_cons_zero, List.getElem_cons_succ, Act.put, List.setIfInBounds_toArray, List.set_cons_zero, List.set_cons_succ]
  refine wpAnyH_ready (rs := [8]) (by kernel_rfl) (by simp) ?_
  refine AllReadyH.cons rfl (fun K hK => ?_) AllReadyH.nil
  refine call_step Tryz.func15 (by kernel_rfl) (by rfl) #[.tmp 71, .tmp 75] #[32, 29] rfl rfl #[.pointer (some ⟨q, 0, none⟩), .agg (layC 20)] (by simp [Act.eval]) ?_
  refine (used_s (D := 20) hB (HS.out.drew.pull 1) (Bm.setB_ok (Bm.clrB_ok (Bm.setB_ok (Bm.setB_ok zeros_ok 0) 1) 0) 0) (by decide) (by decide)).mono ?_
  rintro e w6 ⟨rfl, S⟩
  rw [show Bm.cnt (Bm.setB (Bm.clrB (Bm.setB (Bm.setB zeros 0) 1) 0) 0) 20 = 2 by decide +kernel]
  have S := S.pull 1
  refine ⟨_, rfl, hK.out _ _ S.range (fun hHeld => ?_)⟩
  clear hK K
  simp only [List.getElem_toArray, List.getElem_cons_zero, List.getElem_cons_succ, Act.put, List.setIfInBounds_toArray, List.set_cons_zero, List.set_cons_succ]
  refine tk 9 (.tuple #[.int .i64 2, .int .i64 0]) rfl (fun X hX => rfl) hHeld ?_
  simp only [List.getElem_toArray, List.getElem_cons_zero, List.getElem_cons_succ, Act.put, List.setIfInBounds_toArray, List.set_cons_zero, List.set_cons_succ]
  refine tk 10 (.int .i64 2) rfl (fun X hX => rfl) hHeld ?_
  simp only [List.getElem_toArray, List.getElem_cons_zero, List.getElem_cons_succ, Act.put, List.setIfInBounds_toArray, List.set_cons_zero, List.set_cons_succ]
  refine tk 11 (.int .i64 0) rfl (fun X hX => rfl) hHeld ?_
  simp only [List.getElem_toArray, List.getElem_cons_zero, List.getElem_cons_succ, Act.put, List.setIfInBounds_toArray, List.set_cons_zero, List.set_cons_succ]
  refine tk 12 (.int .i64 2) rfl (fun X hX => rfl) hHeld ?_
  simp only [List.getElem_toArray, List.getElem_cons_zero, List.getElem_cons_succ, Act.put, List.setIfInBounds_toArray, List.set_cons_zero, List.set_cons_succ]
  refine tk 13 (.int .i64 0) rfl (fun X hX => rfl) hHeld ?_
  simp only [List.getElem_toArray, List.getElem_cons_zero, List.getElem_cons_succ, Act.put, List.setIfInBounds_toArray, List.set_cons_zero, List.set_cons_succ]
  refine wpAnyH_done (by kernel_rfl) ?_ _
  clear hHeld
  have HS := Aside0.mk S
  clear S
  have c9 := HS.out.cell 9 (v := .int .i64 35) rfl
  go_wp2_with (first | (go_at_call 13; refine (num8 _ _).mono ?_; rintro _ _ ⟨rfl, rfl⟩))
  go_ret
  exact ⟨rfl, HS.out.drop.drop⟩
end
end Go.Proofs.YtlhlmjkocmahmaaGreatDoor.Sep
/- fits; numbers counted round. -/
namespace Go.Proofs.YtlhlmjkocmahmaaGreatDoor.Sep
open Go.Proofs.YtlhlmjkocmahmaaGreatDoor Go.Proofs Go.RowKit Go.ChangeMaps Go.Proofs.YtlhlmjkocmahmaaGreatDoorW.PrintWords Go.Proofs.YtlhlmjkocmahmaaGreatDoorW.PrintLast Go.Proofs.YtlhlmjkocmahmaaGreatDoorW.PrintMore Go.Proofs.YtlhlmjkocmahmaaGreatDoor.Dev Go.Proofs.YtlhlmjkocmahmaaGreatDoor.Errs Go.Proofs.YtlhlmjkocmahmaaGreatDoor.Jr Go.Proofs.YtlhlmjkocmahmaaGreatDoor.Help Go.Proofs.YtlhlmjkocmahmaaGreatDoor.IMap
set_option linter.unusedVariables false
set_option linter.unusedSimpArgs false
section
variable {w0 w w' : World} {R : List Asn} {sa : Addr}
theorem fits8 (x : Int) (w : World) : Calls Tryz.prog 10 #[.int .i64 x] w fun e w' => e = .returned (.bool (decide (8 ≤ x ∧ x ≤ 500))) ∧ w' = w := by
  by_cases h1 : 8 ≤ x
  · by_cases h2 : x ≤ 500
    · have d1 : decide (x ≥ 8) = true := decide_eq_true h1
      have d2 : decide (x ≤ 500) = true := decide_eq_true h2
      rw [decide_eq_true (And.intro h1 h2)]
      go_enter Tryz.func10, Tryz.ntmps10
      go_wp2
      go_ret
      exact ⟨rfl, rfl⟩
    · have d1 : decide (x ≥ 8) = true := decide_eq_true h1
      have d2 : decide (x ≤ 500) = false := decide_eq_false h2
      rw [decide_eq_false (fun h => h2 h.2)]
      go_enter Tryz.func10, Tryz.ntmps10
      go_wp2
      go_ret
      exact ⟨rfl, rfl⟩
  · have d1 : decide (x ≥ 8) = false := decide_eq_false h1
    rw [decide_eq_false (fun h => h1 h.1)]
    go_enter Tryz.func10, Tryz.ntmps10
    go_wp2
    go_ret
    exact ⟨rfl, rfl⟩
theorem rem_in {D : Nat} (h : 0 < D) (x : Int) : -(D : Int) < Int.tmod x (D : Int) ∧ Int.tmod x (D : Int) < (D : Int) := by
  have h1 := Int.tmod_lt_of_pos x (show (0 : Int) < (D : Int) by omega)
  have h2 : -(D : Int) < Int.tmod x (D : Int) := by
    have e : Int.tmod x (D : Int) = -(Int.tmod (-x) (D : Int)) := by rw [Int.neg_tmod]; omega
    have h3 := Int.tmod_lt_of_pos (-x) (show (0 : Int) < (D : Int) by omega)
    omega
  exact ⟨h2, h1⟩
/-- The k-th of so many, counted round. -/
theorem round_in {D : Nat} (h : 0 < D) (x : Int) : ∃ i : Nat, i < D ∧ Int.tmod (Int.tmod x (D : Int) + (D : Int)) (D : Int) = (i : Int) := by
  obtain ⟨h1, h2⟩ := rem_in h x
  refine ⟨(Int.tmod (Int.tmod x (D : Int) + (D : Int)) (D : Int)).toNat, ?_, ?_⟩
  · have h3 := rem_in h (Int.tmod x (D : Int) + (D : Int))
    omega
  · have h3 : 0 ≤ Int.tmod (Int.tmod x (D : Int) + (D : Int)) (D : Int) := Int.tmod_nonneg _ (by omega)
    omega
end
end Go.Proofs.YtlhlmjkocmahmaaGreatDoor.Sep
