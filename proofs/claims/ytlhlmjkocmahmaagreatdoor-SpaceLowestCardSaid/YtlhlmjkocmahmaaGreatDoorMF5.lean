/- SpaceLowest: the lowest that is not in use; only the bitmap is written. -/
import Derived.Test.YtlhlmjkocmahmaaGreatDoorMF4
import Derived.BigQuiet
namespace Go.Proofs.YtlhlmjkocmahmaaGreatDoor.Sep
open Go.Proofs.YtlhlmjkocmahmaaGreatDoor Go.Proofs Go.RowKit Go.ChangeMaps Go.Proofs.YtlhlmjkocmahmaaGreatDoorW.PrintWords Go.Proofs.YtlhlmjkocmahmaaGreatDoorW.PrintLast Go.Proofs.YtlhlmjkocmahmaaGreatDoorW.PrintMore Go.Proofs.YtlhlmjkocmahmaaGreatDoor.Dev Go.Proofs.YtlhlmjkocmahmaaGreatDoor.Errs Go.Proofs.YtlhlmjkocmahmaaGreatDoor.Jr Go.Proofs.YtlhlmjkocmahmaaGreatDoor.Help Go.Proofs.YtlhlmjkocmahmaaGreatDoor.IMap
set_option linter.unusedVariables false
set_option linter.unusedSimpArgs false
section
variable {w0 w w' : World} {R : List Asn} {sa : Addr}
/-- The blocks that the transaction has written. -/
theorem blocks33 {q p d D n k : Nat} {mk : Int} {sv : List (Int × Nat)} {Bd B : List Int} (S : Sep w0 w (SpA q p d D n k mk sv Bd B :: R)) : Calls Tryz.prog 32 #[.pointer (some ⟨q, 0, none⟩)] w fun e w' => ∃ A m c l, e = .returned (.slice A m c) ∧ m ≤ 1 ∧ (∀ x ∈ l, x = 33) ∧ Sep w0 w' (Ints A m c l :: SpA q p d D n k mk sv Bd B :: R) := by
  obtain ⟨i, h, h2, h3, S⟩ := S.sp
  have hf := h.few1
  refine (blocks_s (v := { i.v with tx := some q }) S (oth_self w q) (by omega)).mono ?_
  rintro e w' ⟨A, m, c, rfl, S1⟩
  rw [open_live h.live q, if_pos rfl] at S1
  have hl := S1.len
  have hk : (SM.keys (dat i.t.M)).length = i.t.M.length := by
    unfold SM.keys
    rw [List.length_map]
    exact SM.len_on _ _
  refine ⟨A, m, c, _, rfl, by omega, fun x hx => ?_, (Sep.spOf i h h2 h3 (Sep.past (i := i) S1)).swap⟩
  unfold SM.keys at hx
  obtain ⟨y, hy, rfl⟩ := List.mem_map.1 hx
  obtain ⟨z, hz, rfl⟩ := List.mem_map.1 hy
  exact h.only z hz
set_option maxRecDepth 100000 in
set_option maxHeartbeats 8000000 in
theorem lowlaw_s (hr : Rt w) (hsn : Sen sa w) (hB : Bds w) (x : Int) {Ad : Option Addr} {cd : Nat} {ds : List (Bool × Int)} (hds : Kd.C kDeed w Ad ds.length ds) :
    Calls Tryz.prog 6 #[.int .i64 x, .slice Ad ds.length cd] w fun e w' => e = .returned (.bool true) ∧ Below w.heap.size w w' := by
  have HDS := Aside0.mk hds
  clear hds
  have hkn := known_s hr hsn hB (Sep.start w)
  go_enter Tryz.func6, Tryz.ntmps6
  go_wp2_with fail
  refine hkn.mono ?_
  clear hkn
  rintro _ w1 ⟨rfl, S⟩
  have HS := Aside0.mk S
  clear S
  by_cases hfit : 8 ≤ x ∧ x ≤ 500
  case neg =>
    have hft := fits8 x w1
    rw [decide_eq_false hfit] at hft
    go_wp2_with fail
    refine hft.mono ?_
    clear hft
    rintro _ _ ⟨rfl, rfl⟩
    go_wp2_with fail
    go_ret
    exact ⟨rfl, HS.out.bel⟩
  case pos =>
  have hft := fits8 x w1
  rw [decide_eq_true hfit] at hft
  obtain ⟨D, rfl⟩ : ∃ D : Nat, x = (D : Int) := ⟨x.toNat, by omega⟩
  have h0 : 8 ≤ D := by omega
  have h5 : D ≤ 500 := by omega
  have h1 : D ≤ 4000 := by omega
  clear hfit
  go_wp2_with fail
  refine hft.mono ?_
  clear hft
  rintro _ _ ⟨rfl, rfl⟩
  have hst := stood_s hr hsn hB HS.out h0 h1
  clear HS
  go_wp2_with fail
  refine hst.mono ?_
  clear hst
  rintro _ w2 ⟨wp, q, p, d, rfl, S⟩
  have c22 := S.cell 22 (v := .pointer (some ⟨q, 0, none⟩)) rfl
  have HS := Aside0.mk S
  clear S
  have hmk := print_make_of (P := Tryz.prog) 84 4 (.bool false) 1 Tryz.underlying84 (by kernel_rfl) rfl (by decide) D (by omega)
  have hmk2 := hmk w2
  go_upto_region 9 with fail
  have S2 : Sep w (w2.alloc (.cells (madeCells #[.bool false] D) 4)) (Use w2.heap.size D D zeros :: [Blk wp (worldC D q p d) 35, SpA q p d D 1 0 0 [] zeros zeros]) := by
    refine HS.out.row_new (below_alloc (Below.refl _ _) _) ?_
    have h := own_made_of (enc := Value.bool) (d := false) w2 w2.heap.size 4 D (Nat.le_refl _) (by omega)
    have e : encs Value.bool (List.replicate D false) = useL zeros D := by
      rw [useL_zeros]
      unfold encs
      rw [List.map_replicate]
    rwa [e] at h
  obtain ⟨g, hg⟩ : ∃ g, g = w2.heap.size := ⟨_, rfl⟩
  obtain ⟨W3, hW3⟩ : ∃ W3, W3 = w2.alloc (.cells (madeCells #[.bool false] D) 4) := ⟨_, rfl⟩
  rw [← hg, ← hW3] at S2
  rw [← hg, ← hW3]
  clear hg hW3 HS hmk hmk2 c22
  have HS := Aside0.mk ((S2.pull 2).pull 2)
  clear S2
  go_upto_block 0 with fail
  go_cut [9] (fun _ wx => ∃ (k : Nat) (B : List Int), Bm.OkL B ∧ Sep w wx [Blk wp (worldC D q p d) 35, SpA q p d D 1 k 0 [] zeros B, Use g D D B])
  case first =>
    go_wp2_with fail
    go_loopw [9] (fun iv wr => ∃ (j : Nat) (B : List Int), j ≤ ds.length ∧ j ≤ 1000 ∧ iv = .int .i64 (j : Int) ∧ Aside0 (Bm.OkL B) ∧ Sep w wr [Blk wp (worldC D q p d) 35, SpA q p d D 1 j 0 [] zeros B, Use g D D B]) (fun i _ => (1000 - intOf i).toNat)
    case atStart => exact ⟨0, zeros, Nat.zero_le _, Nat.zero_le _, rfl, ⟨zeros_ok⟩, HS.out⟩
    case round =>
      clear HS
      obtain ⟨j, B, hj, hjt, rfl, HB, S⟩ := hrel
      by_cases hlt : j < ds.length ∧ j < 1000
      · obtain ⟨g1, g2⟩ := hlt
        have d1 : decide ((j : Int) < (ds.length : Int)) = true := decide_eq_true (by omega)
        have d2 : decide ((j : Int) < 1000) = true := decide_eq_true (by omega)
        have g1' : (j : Int) < (ds.length : Int) := by omega
        obtain ⟨ad, rfl, hX⟩ := deeds_in HDS.out j g1
        obtain ⟨x0, x1⟩ := hX _ S.bel
        have hdo := does_s hB S HB.out h0 h5 (by omega) ds[j].1 ds[j].2
        clear S hX
        go_wp2_with fail
        refine hdo.mono ?_
        clear hdo x0 x1
        rintro _ w5 ⟨rfl, B', hB', S⟩
        have HS := Aside0.mk S
        clear S
        go_wp2_with fail
        exact ⟨⟨j + 1, B', g1, g2, by go_num, ⟨hB'⟩, HS.out⟩, by simp [intOf]; omega⟩
      · have HS := Aside0.mk S
        clear S
        by_cases g1 : j < ds.length
        · have d1 : decide ((j : Int) < (ds.length : Int)) = true := decide_eq_true (by omega)
          have d2 : decide ((j : Int) < 1000) = false := decide_eq_false (by omega)
          go_wp2_with fail
          go_meet
          case rel => exact ⟨j, B, HB.out, HS.out⟩
        · have d1 : decide ((j : Int) < (ds.length : Int)) = false := decide_eq_false (by omega)
          go_wp2_with fail
          go_meet
          case rel => exact ⟨j, B, HB.out, HS.out⟩
  case rest =>
  clear HS HDS
  obtain ⟨k, B, hok, S⟩ := hcut
  have c22 := S.cell 22 (v := .pointer (some ⟨q, 0, none⟩)) rfl
  have hbl := blocks33 (S.pull 1)
  clear S
  go_wp2_with fail
  refine hbl.mono ?_
  clear hbl c22
  rintro _ w6 ⟨A, m, c, l, rfl, hm1, hall, S⟩
  have HS := Aside0.mk S
  have HA := Aside0.mk hall
  clear S hall
  go_upto_block 2 with fail
  go_cut [12] (fun _ wx => Sep w wx [Ints A m c l, SpA q p d D 1 k 0 [] zeros B, Blk wp (worldC D q p d) 35, Use g D D B])
  case first =>
    go_wp2_with fail
    go_loopw [12] (fun iv wr => ∃ j : Nat, j ≤ m ∧ iv = .int .i64 (j : Int) ∧ Sep w wr [Ints A m c l, SpA q p d D 1 k 0 [] zeros B, Blk wp (worldC D q p d) 35, Use g D D B]) (fun i _ => (m - intOf i).toNat)
    case atStart => exact ⟨0, Nat.zero_le _, rfl, HS.out⟩
    case round =>
      clear HS
      obtain ⟨j, hj, rfl, S⟩ := hrel
      by_cases hjm : j < m
      · have hlt : (j : Int) < (m : Int) := by omega
        obtain ⟨gl, rfl⟩ := S.addr (by omega)
        have hlen := S.len
        have e0 := S.elem j hjm
        have e1 : l.getD j 0 = 33 := by
          rw [List.getD_eq_getElem?_getD, List.getElem?_eq_getElem (by omega)]
          exact HA.out _ (List.getElem_mem _)
        rw [e1] at e0
        have c5 := (S.pull 2).cell 5 (v := .int .i64 33) rfl
        have c6 := (S.pull 2).cell 6 (v := .int .i64 1) rfl
        have HS := Aside0.mk S
        clear S e1
        go_wp2_with fail
        go_quiet (fail)
        have HS2 := Aside0.mk (HS.out.drewN nq)
        clear HS e0 c5 c6
        go_wp2_with fail
        exact ⟨⟨j + 1, hjm, by go_num, HS2.out⟩, by simp [intOf]; omega⟩
      · have hlt : ¬ (j : Int) < (m : Int) := by omega
        have HS := Aside0.mk S
        clear S
        go_wp2_with fail
        go_meet
        case rel => exact HS.out
  case rest =>
  clear HS
  have hag := agrees_s hB ((hcut.drop.pull 1)) hok h0 h5
  clear hcut
  go_wp2_with fail
  refine hag.mono ?_
  clear hag
  rintro _ w7 ⟨rfl, S⟩
  have HS := Aside0.mk S
  clear S
  go_wp2_with fail
  go_ret
  exact ⟨rfl, HS.out.bel⟩
end
end Go.Proofs.YtlhlmjkocmahmaaGreatDoor.Sep
