/- SpaceLasts: what was committed is in use behind crashes; what was dropped or taken back is not. -/
import Derived.Test.YtlhlmjkocmahmaaGreatDoorMF4
namespace Go.Proofs.YtlhlmjkocmahmaaGreatDoor.Sep
open Go.Proofs.YtlhlmjkocmahmaaGreatDoor Go.Proofs Go.RowKit Go.ChangeMaps Go.Proofs.YtlhlmjkocmahmaaGreatDoorW.PrintWords Go.Proofs.YtlhlmjkocmahmaaGreatDoorW.PrintLast Go.Proofs.YtlhlmjkocmahmaaGreatDoorW.PrintMore Go.Proofs.YtlhlmjkocmahmaaGreatDoor.Dev Go.Proofs.YtlhlmjkocmahmaaGreatDoor.Errs Go.Proofs.YtlhlmjkocmahmaaGreatDoor.Jr Go.Proofs.YtlhlmjkocmahmaaGreatDoor.Help Go.Proofs.YtlhlmjkocmahmaaGreatDoor.IMap
set_option linter.unusedVariables false
set_option linter.unusedSimpArgs false
section
variable {w0 w w' : World} {R : List Asn} {sa : Addr}
abbrev kPart : Kd (List (Bool × Int) × (Int × List Bool)) := Kd.pair (Kd.slice 87 kDeed) (Kd.pair (Kd.int .i64) (Kd.slice 4 Kd.bool))
/-- A row of parts as it came in. -/
theorem parts_in {A : Option Addr} {l : List (List (Bool × Int) × (Int × List Bool))} (h : Kd.C kPart w0 A l.length l) (i : Nat) (hi : i < l.length) :
    ∃ ad Ad cd Ak ck, A = some ad ∧ Kd.C kDeed w0 Ad l[i].1.length l[i].1 ∧ Kd.C Kd.bool w0 Ak l[i].2.2.length l[i].2.2 ∧ ∀ W : World, Below w0.heap.size w0 W →
      W.cell? (ad.add (i * 3)) = some (.slice Ad l[i].1.length cd) ∧ W.cell? ⟨(ad.add (i * 3)).block, (ad.add (i * 3)).off + 1, none⟩ = some (.int .i64 l[i].2.1) ∧ W.cell? ⟨(ad.add (i * 3)).block, (ad.add (i * 3)).off + 2, none⟩ = some (.slice Ak l[i].2.2.length ck) := by
  obtain ⟨_, _, h3⟩ := h
  obtain ⟨ad, rfl, h4⟩ := h3 (by omega)
  obtain ⟨c, hc, hK, hu⟩ := h4 i l[i] (List.getElem?_eq_getElem hi)
  obtain ⟨c1, c2, rfl, h5, c3, c4, rfl, h7, h8⟩ := hK
  obtain ⟨Ad, cd, rfl, hlc, hB⟩ := h5
  have e3 : c3 = [.int .i64 l[i].2.1] := h7
  subst e3
  obtain ⟨Ak, ck, rfl, hlk, hC⟩ := h8
  have k0 := hu 0 _ rfl
  have k1 := hu 1 _ rfl
  have k2 := hu 2 _ rfl
  have k0 : w0.cell? (ad.add (i * 3)) = _ := k0
  have k1 : w0.cell? (ad.add (i * 3 + 1)) = _ := k1
  have k2 : w0.cell? (ad.add (i * 3 + 2)) = _ := k2
  rw [add_off' ad (i * 3) 1 (by omega)] at k1
  rw [add_off' ad (i * 3) 2 (by omega)] at k2
  exact ⟨ad, Ad, cd, Ak, ck, rfl, hB, hC, fun W hb => ⟨pw_cell_below hb k0, pw_cell_below hb k1, pw_cell_below hb k2⟩⟩
/-- What lasts, made a device again and crashed. -/
theorem again_calm {D n : Nat} {Bd : List Int} {i : JnI} (h : JnG D n Bd i) (ks : List Bool) : fit i.s.dur = true ∧ Calm (geoS D) ((DS.made i.s.dur).crash ks) i.W := by
  have hf := h.live.live.fits
  have hok := hf.ok
  have hlen := hok.len
  have hn0 := hok.n0
  have hn1 := hok.n1
  have hfit : fit i.s.dur = true := by
    unfold fit
    have e1 : i.s.dur.length % 512 = 0 := by omega
    have e2 : i.s.dur.length / 512 = i.s.n := rfl
    rw [e2, decide_eq_true e1, decide_eq_true hn0, decide_eq_true hn1]
    rfl
  have hF : Fits (geoS D) (DS.made i.s.dur) := ⟨hf.geo, hf.n, fit_ok hfit, ⟨hf.byte.dur, fun x hx => by cases hx⟩⟩
  refine ⟨hfit, hF.crash ks, rfl, rfl, rfl, ?_⟩
  obtain ⟨s0, p0, Ts, hR, _⟩ := h.live.live.is
  refine ⟨s0, p0, Ts, ?_⟩
  rw [crash_none (s := DS.made i.s.dur) rfl ks, blk_fun (s := DS.made i.s.dur) (t := i.s) rfl]
  exact hR
set_option maxRecDepth 100000 in
set_option maxHeartbeats 8000000 in
theorem lasts_s (hr : Rt w) (hsn : Sen sa w) (hB : Bds w) (x : Int) {Ap : Option Addr} {cp : Nat} {ps : List (List (Bool × Int) × (Int × List Bool))} (hps : Kd.C kPart w Ap ps.length ps) :
    Calls Tryz.prog 8 #[.int .i64 x, .slice Ap ps.length cp] w fun e w' => e = .returned (.bool true) ∧ Below w.heap.size w w' := by
  have HPS := Aside0.mk hps
  clear hps
  have hkn := known_s hr hsn hB (Sep.start w)
  go_enter Tryz.func8, Tryz.ntmps8
  go_wp2_with fail
  refine hkn.mono ?_
  clear hkn
  rintro _ w1 ⟨rfl, S⟩
  have HS := Aside0.mk S
  clear S
  by_cases hfit : 8 ≤ x ∧ x ≤ 500
  case neg =>
    have hft := fits8 x w1
    rw [decide_eq_false hfit] at hft
    go_wp2_with fail
    refine hft.mono ?_
    clear hft
    rintro _ _ ⟨rfl, rfl⟩
    go_wp2_with fail
    go_ret
    exact ⟨rfl, HS.out.bel⟩
  case pos =>
  have hft := fits8 x w1
  rw [decide_eq_true hfit] at hft
  obtain ⟨D, rfl⟩ : ∃ D : Nat, x = (D : Int) := ⟨x.toNat, by omega⟩
  have h0 : 8 ≤ D := by omega
  have h5 : D ≤ 500 := by omega
  have h1 : D ≤ 4000 := by omega
  clear hfit
  go_wp2_with fail
  refine hft.mono ?_
  clear hft
  rintro _ _ ⟨rfl, rfl⟩
  have hst := stood_s hr hsn hB HS.out h0 h1
  clear HS
  go_wp2_with fail
  refine hst.mono ?_
  clear hst
  rintro _ w2 ⟨wp, q, p, d, rfl, S⟩
  have c22 := S.cell 22 (v := .pointer (some ⟨q, 0, none⟩)) rfl
  have HS := Aside0.mk S
  clear S
  have hmk := print_make_of (P := Tryz.prog) 84 4 (.bool false) 1 Tryz.underlying84 (by kernel_rfl) rfl (by decide) D (by omega)
  have hmk2 := hmk w2
  go_upto_region 9 with fail
  have S2 : Sep w (w2.alloc (.cells (madeCells #[.bool false] D) 4)) (Use w2.heap.size D D zeros :: [Blk wp (worldC D q p d) 35, SpA q p d D 1 0 0 [] zeros zeros]) := by
    refine HS.out.row_new (below_alloc (Below.refl _ _) _) ?_
    have h := own_made_of (enc := Value.bool) (d := false) w2 w2.heap.size 4 D (Nat.le_refl _) (by omega)
    have e : encs Value.bool (List.replicate D false) = useL zeros D := by
      rw [useL_zeros]
      unfold encs
      rw [List.map_replicate]
    rwa [e] at h
  obtain ⟨g, hg⟩ : ∃ g, g = w2.heap.size := ⟨_, rfl⟩
  obtain ⟨W3, hW3⟩ : ∃ W3, W3 = w2.alloc (.cells (madeCells #[.bool false] D) 4) := ⟨_, rfl⟩
  rw [← hg, ← hW3] at S2
  rw [← hg, ← hW3]
  clear hg hW3 HS hmk hmk2 c22
  have HS := Aside0.mk ((S2.pull 2).pull 2)
  clear S2
  go_wp2_with fail
  go_loopw [8, 9] (fun uv iv wr => ∃ (j n g c q p d : Nat) (B : List Int), j ≤ ps.length ∧ j ≤ 40 ∧ n ≤ 1 + 2 * j ∧ iv = .int .i64 (j : Int) ∧ uv = .slice (some ⟨g, 0, none⟩) D c ∧ Aside0 (Bm.OkL B) ∧ Sep w wr [Blk wp (worldC D q p d) 35, SpA q p d D n 0 0 [] B B, Use g c D B]) (fun _ i _ => (40 - intOf i).toNat)
  case atStart => exact ⟨0, 1, g, D, q, p, d, zeros, Nat.zero_le _, Nat.zero_le _, Nat.le_refl _, rfl, rfl, ⟨zeros_ok⟩, HS.out⟩
  case round =>
    clear HS
    obtain ⟨j, n, g, c, q, p, d, B, hj, hj40, hn, rfl, rfl, HB, S⟩ := hrel
    by_cases hlt : j < ps.length ∧ j < 40
    case neg =>
      have HS := Aside0.mk S
      clear S
      by_cases g1 : j < ps.length
      · have d1 : decide ((j : Int) < (ps.length : Int)) = true := decide_eq_true (by omega)
        have d2 : decide ((j : Int) < 40) = false := decide_eq_false (by omega)
        go_wp2_with fail
        go_ret
        exact ⟨rfl, HS.out.bel⟩
      · have d1 : decide ((j : Int) < (ps.length : Int)) = false := decide_eq_false (by omega)
        go_wp2_with fail
        go_ret
        exact ⟨rfl, HS.out.bel⟩
    case pos =>
    obtain ⟨g1, g2⟩ := hlt
    have d1 : decide ((j : Int) < (ps.length : Int)) = true := decide_eq_true (by omega)
    have d2 : decide ((j : Int) < 40) = true := decide_eq_true (by omega)
    have g1' : (j : Int) < (ps.length : Int) := by omega
    obtain ⟨ap, Ad, cd, Ak, ck, rfl, hD, hKp, hX⟩ := parts_in HPS.out j g1
    have HX := Aside0.mk (And.intro hD (And.intro hKp hX))
    clear hD hKp hX
    have HS := Aside0.mk S
    clear S
    go_upto_region 12 with fail
    apply wp_region_lit
    iterate 3 go_step
    refine append_rows (v := .slice none 0 0) (xs := []) (n := 0) (HS.out.nils 4 1) rfl _ _ 84 (.bool false) 1 rfl Tryz.underlying84 (by kernel_rfl) rfl (by decide) (by decide) (useL B D) (some ⟨g, 0, none⟩) D c rfl rfl (by rw [useL_len, Nat.mul_one]) ?hA ?h1 ?hl ?_
    case hA =>
      have h := (HS.out.pull 2).lies 0 D
      rw [Nat.zero_mul, List.drop_zero, List.take_of_length_le (by rw [useL_len]; exact Nat.le_refl _)] at h
      exact h
    case h1 =>
      intro u hu
      unfold useL at hu
      obtain ⟨i, _, rfl⟩ := List.mem_map.1 hu
      rfl
    case hl => omega
    intro A1 c1 w3 S3
    rw [List.nil_append, Nat.zero_add] at S3
    obtain ⟨g3, rfl⟩ := S3.addr (by omega)
    have c22 := (S3.pull 1).cell 22 (v := .pointer (some ⟨q, 0, none⟩)) rfl
    have hsv := save33 (S3.pull 2) (by decide) (by decide)
    rw [Nat.zero_add]
    clear S3 HS
    go_wp2_with fail
    refine hsv.mono ?_
    clear hsv c22
    rintro _ w4 ⟨rfl, S⟩
    have S : Sep w w4 [Blk wp (worldC D q p d) 35, SpA q p d D n 0 1 [(1, 0)] B B, Use g3 c1 D B, Use g c D B] := S.pull 2
    have HS := Aside0.mk S
    clear S
    go_upto_block 2 with (first | (go_at_call 13; refine (num8 _ _).mono ?_; rintro _ _ ⟨rfl, rfl⟩))
    go_cut [13] (fun _ wx => ∃ (k : Nat) (B' : List Int), k ≤ 60 ∧ Bm.OkL B' ∧ Sep w wx [Blk wp (worldC D q p d) 35, SpA q p d D n k 1 [(1, 0)] B B', Use g3 c1 D B', Use g c D B])
    case first =>
      go_wp2_with fail
      go_loopw [13] (fun iv wr => ∃ (t : Nat) (B' : List Int), t ≤ ps[j].1.length ∧ t ≤ 60 ∧ iv = .int .i64 (t : Int) ∧ Aside0 (Bm.OkL B') ∧ Sep w wr [Blk wp (worldC D q p d) 35, SpA q p d D n t 1 [(1, 0)] B B', Use g3 c1 D B', Use g c D B]) (fun i _ => (60 - intOf i).toNat)
      case atStart => exact ⟨0, B, Nat.zero_le _, Nat.zero_le _, rfl, HB, HS.out⟩
      case round =>
        clear HS
        obtain ⟨t, B', htl, ht60, rfl, HB', S⟩ := hrel
        obtain ⟨y0, _, _⟩ := HX.out.2.2 _ S.bel
        obtain ⟨nd, hnd⟩ : ∃ nd, nd = ps[j].1.length := ⟨_, rfl⟩
        by_cases hlt : t < nd ∧ t < 60
        · obtain ⟨q1, q2⟩ := hlt
          have e1 : decide ((t : Int) < (nd : Int)) = true := decide_eq_true (by omega)
          have e2 : decide ((t : Int) < 60) = true := decide_eq_true (by omega)
          have q1' : (t : Int) < (nd : Int) := by omega
          have hql : t < ps[j].1.length := by omega
          obtain ⟨ad, rfl, hY⟩ := deeds_in HX.out.1 t hql
          obtain ⟨x0, x1⟩ := hY _ S.bel
          have hdo := does_s hB S HB'.out h0 h5 (by omega) (ps[j].1[t]'hql).1 (ps[j].1[t]'hql).2
          rw [← hnd] at y0
          have HND := Aside0.mk hnd
          clear S hY hnd
          go_wp2_with fail
          refine hdo.mono ?_
          clear hdo x0 x1 y0
          rintro _ w5 ⟨rfl, B'', hB'', S⟩
          have HS := Aside0.mk S
          clear S
          go_wp2_with fail
          exact ⟨⟨t + 1, B'', by have := HND.out; omega, q2, by go_num, ⟨hB''⟩, HS.out⟩, by simp [intOf]; omega⟩
        · have HS := Aside0.mk S
          rw [← hnd] at y0
          clear S hnd
          by_cases q1 : t < nd
          · have e1 : decide ((t : Int) < (nd : Int)) = true := decide_eq_true (by omega)
            have e2 : decide ((t : Int) < 60) = false := decide_eq_false (by omega)
            go_wp2_with fail
            go_meet
            case rel => exact ⟨t, B', ht60, HB'.out, HS.out⟩
          · have e1 : decide ((t : Int) < (nd : Int)) = false := decide_eq_false (by omega)
            go_wp2_with fail
            go_meet
            case rel => exact ⟨t, B', ht60, HB'.out, HS.out⟩
    case rest =>
    clear HS
    obtain ⟨k, B', hk60, hok', S⟩ := hcut
    obtain ⟨_, y1, _⟩ := HX.out.2.2 _ S.bel
    have HS := Aside0.mk S
    have HB' := Aside0.mk hok'
    clear S hok'
    go_upto_block 4 with fail
    go_cut [10] (fun nv wx => ∃ (g' c' n' : Nat) (B' : List Int), nv = .slice (some ⟨g', 0, none⟩) D c' ∧ n' ≤ n + 1 ∧ Bm.OkL B' ∧ Sep w wx [Blk wp (worldC D q p d) 35, JnA p d D n' B', Use g' c' D B'])
    case first =>
      clear y1
      by_cases e2 : ps[j].2.1 = 2
      · have f2 : (ps[j].2.1 == 2) = true := by simp [e2]
        clear e2
        have c22 := HS.out.cell 22 (v := .pointer (some ⟨q, 0, none⟩)) rfl
        have hdr := drop33 (HS.out.pull 1)
        go_wp2_with fail
        refine hdr.mono ?_
        clear hdr c22 HS
        rintro _ w6 ⟨rfl, S⟩
        have S : Sep w w6 [Blk wp (worldC D q p d) 35, JnA p d D n B, Use g c D B] := ((S.drop.pull 2).drop.pull 1)
        have HS := Aside0.mk S
        clear S
        go_wp2_with fail
        go_meet
        case rel => exact ⟨g, c, n, B, rfl, by omega, HB.out, HS.out⟩
      · have f2 : (ps[j].2.1 == 2) = false := by simp [e2]
        clear e2
        by_cases e3 : ps[j].2.1 = 3
        · have f3 : (ps[j].2.1 == 3) = true := by simp [e3]
          clear e3
          have c22 := HS.out.cell 22 (v := .pointer (some ⟨q, 0, none⟩)) rfl
          have hbk := back33 (HS.out.pull 1) (by omega)
          go_wp2_with fail
          refine hbk.mono ?_
          clear hbk c22 HS
          rintro _ w6 ⟨rfl, S⟩
          have c22 := (S.pull 1).cell 22 (v := .pointer (some ⟨q, 0, none⟩)) rfl
          have hcm := commit33 hr S (by omega)
          clear S
          go_wp2_with fail
          refine hcm.mono ?_
          clear hcm c22
          rintro _ w7 ⟨rfl, S⟩
          have HS := Aside0.mk S
          clear S
          go_wp2_with (first | (go_at_call 13; refine (num8 _ _).mono ?_; rintro _ _ ⟨rfl, rfl⟩))
          go_meet
          case rel => exact ⟨g, c, n + 1, B, rfl, by omega, HB.out, by
            have S := HS.out.drop
            exact ((S.pull 2).drop.pull 1)⟩
        · have f3 : (ps[j].2.1 == 3) = false := by simp [e3]
          clear e3
          have c22 := HS.out.cell 22 (v := .pointer (some ⟨q, 0, none⟩)) rfl
          have hcm := commit33 hr (HS.out.pull 1) (by omega)
          go_wp2_with fail
          refine hcm.mono ?_
          clear hcm c22 HS
          rintro _ w7 ⟨rfl, S⟩
          have HS := Aside0.mk S
          clear S
          go_wp2_with (first | (go_at_call 13; refine (num8 _ _).mono ?_; rintro _ _ ⟨rfl, rfl⟩))
          go_meet
          case rel => exact ⟨g3, c1, n + 1, B', rfl, by omega, HB'.out, by
            have S := HS.out.drop
            exact ((S.pull 3).drop.pull 1)⟩
    case rest =>
    clear HS HB HB' y1
    obtain ⟨g, c, n', B, rfl, hn', hokB, S⟩ := hcut
    have HB := Aside0.mk hokB
    obtain ⟨_, y1, y2⟩ := HX.out.2.2 _ S.bel
    have HS := Aside0.mk S
    clear S hokB
    obtain ⟨b4, hb4⟩ : ∃ b4, (ps[j].2.1 == 4) = b4 := ⟨_, rfl⟩
    go_upto_if 146 with fail
    clear hb4
    go_cut [147] (fun _ wx => ∃ (q' p' d' : Nat), Sep w wx [Blk wp (worldC D q' p' d') 35, JnA p' d' D n' B, Use g c D B])
    case first =>
      cases b4 with
      | false =>
        clear y1 y2
        go_wp2_with fail
        go_meet
        case rel => exact ⟨q, p, d, HS.out⟩
      | true =>
        clear y1
        obtain ⟨i, hi, S⟩ := (HS.out.pull 1).jn
        have S : Sep w wc [DevA d i.s, Blk wp (worldC D q p d) 35, JBlk p d i.v, MapA i.v.bm (vals i.v.M), PoolA i.ps, Use g c D B] := ((S.pull 4).pull 4)
        have c20 := (S.pull 1).cell 20 (v := .pointer (some ⟨d, 0, none⟩)) rfl
        have hdu := durable_s S
        obtain ⟨hfit, hcalm⟩ := again_calm hi ps[j].2.2
        have HC := Aside0.mk (And.intro hi hcalm)
        clear S HS hi hcalm y2
        go_wp2_with fail
        refine hdu.mono ?_
        clear hdu c20
        rintro _ w8 ⟨Ab, cb, rfl, S⟩
        have him := image_yes_s S Ab i.s.dur.length cb i.s.dur rfl S.reads hfit
        clear S
        go_wp2_with fail
        refine him.mono ?_
        clear him hfit
        rintro _ w9 ⟨dn, rfl, S⟩
        have e20 := (S.pull 3).cell 20 (v := .pointer (some ⟨d, 0, none⟩)) rfl
        have f20 := (S.pull 3).free 20
        have S2 := (S.pull 3).set 20 (.pointer (some ⟨dn, 0, none⟩))
        have S2 : Sep w (w9.setCell ⟨wp, 20, none⟩ (.pointer (some ⟨dn, 0, none⟩))) [Blk wp (worldC D q p dn) 35, DevA dn (DS.made i.s.dur), Use g c D B] := (((((S2.pull 2).drop.pull 2).drop.pull 2).drop.pull 2).drop.pull 2).drop
        have HS := Aside0.mk S2
        clear S S2
        go_upto_region 41 with (first | (go_at_call 13; refine (num8 _ _).mono ?_; rintro _ _ ⟨rfl, rfl⟩))
        have c20 := HS.out.cell 20 (v := .pointer (some ⟨dn, 0, none⟩)) rfl
        have y2 := (HX.out.2.2 _ HS.out.bel).2.2
        have hcr := fun (X : World) (S : Sep w X [Blk wp (worldC D q p dn) 35, DevA dn (DS.made i.s.dur), Use g c D B]) => crash_old (S.pull 1) Ak ck ps[j].2.2 (bools_in HX.out.2.1 S.bel).1 (bools_in HX.out.2.1 S.bel).2
        go_region_held (fun X => X.cell? ⟨wp, 20, none⟩ = some (.pointer (some ⟨dn, 0, none⟩)) ∧ X.cell? ⟨(ap.add (j * 3)).block, (ap.add (j * 3)).off + 2, none⟩ = some (.slice Ak ps[j].2.2.length ck)) (refine ⟨?_, ?_⟩ <;> (repeat (first | (with_reducible assumption) | (with_reducible refine kd ?_))))
          (first
            | (go_at_call 43; refine (hcr _ HS.out.drew).mono ?_; rintro e w10 ⟨rfl, S10⟩; have z20 := (S10.pull 1).cell 20 (v := .pointer (some ⟨dn, 0, none⟩)) rfl; have z2 := (HX.out.2.2 _ S10.bel).2.2; have HS10 := Aside0.mk (S10.pull 1); clear S10))
        clear c20 y2 hcr z2 HS
        have HS := HS10
        clear HS10
        go_upto_region 42 with fail
        have c1 := HS.out.cell 1 (v := .int .i64 2) rfl
        have c2 := HS.out.cell 2 (v := .int .i64 27) rfl
        have hop := fun (X : World) (S : Sep w X [Blk wp (worldC D q p dn) 35, DevA dn ((DS.made i.s.dur).crash ps[j].2.2), Use g c D B]) => open33 hr hsn (S.pull 1) HC.out.2 HC.out.1.seq
        go_region_held (fun X => X.cell? ⟨wp, 20, none⟩ = some (.pointer (some ⟨dn, 0, none⟩)) ∧ X.cell? ⟨wp, 1, none⟩ = some (.int .i64 2) ∧ X.cell? ⟨wp, 2, none⟩ = some (.int .i64 27)) (refine ⟨?_, ?_, ?_⟩ <;> (repeat (first | (with_reducible assumption) | (with_reducible refine kd ?_))))
          (first
            | (go_at_call 44; refine (hop _ HS.out.drew).mono ?_; rintro e w11 ⟨p2, tk, rfl, S11⟩; have v20 := (S11.pull 1).cell 20 (v := .pointer (some ⟨dn, 0, none⟩)) rfl; have v1 := (S11.pull 1).cell 1 (v := .int .i64 2) rfl; have v2 := (S11.pull 1).cell 2 (v := .int .i64 27) rfl; have HS11 := Aside0.mk (S11.pull 1); clear S11))
        clear z20 c1 c2 hop HS v20 v1 v2
        have S := HS11.out
        rw [HC.out.1.bits] at S
        have e21 := S.cell 21 (v := .pointer (some ⟨p, 0, none⟩)) rfl
        have f21 := S.free 21
        have S2 := S.set 21 (.pointer (some ⟨p2, 0, none⟩))
        have HS := Aside0.mk S2
        clear S S2 HS11 HC
        go_wp2_with (first | (go_at_call 13; refine (num8 _ _).mono ?_; rintro _ _ ⟨rfl, rfl⟩))
        go_meet
        case rel => exact ⟨q, p2, dn, HS.out⟩
    case rest =>
    clear HS y1 y2
    obtain ⟨q', p', d', S⟩ := hcut
    have c21 := S.cell 21 (v := .pointer (some ⟨p', 0, none⟩)) rfl
    have hbg := begin33 (S.pull 1)
    clear S
    go_wp2_with fail
    refine hbg.mono ?_
    clear hbg c21
    rintro _ w12 ⟨q2, rfl, S⟩
    have e22 := (S.pull 1).cell 22 (v := .pointer (some ⟨q', 0, none⟩)) rfl
    have f22 := (S.pull 1).free 22
    have S2 := (S.pull 1).set 22 (.pointer (some ⟨q2, 0, none⟩))
    have S2 : Sep w (w12.setCell ⟨wp, 22, none⟩ (.pointer (some ⟨q2, 0, none⟩))) [Blk wp (worldC D q2 p' d') 35, SpA q2 p' d' D n' 0 0 [] B B, Use g c D B] := S2
    have hag := agrees_s hB S2 HB.out h0 h5
    clear S S2
    go_wp2_with fail
    refine hag.mono ?_
    clear hag e22 f22
    rintro _ w13 ⟨rfl, S⟩
    have HS := Aside0.mk S
    clear S
    go_wp2_with fail
    exact ⟨⟨j + 1, n', g, c, q2, p', d', B, g1, g2, by omega, by go_num, rfl, HB, HS.out⟩, by simp [intOf]; omega⟩
end
end Go.Proofs.YtlhlmjkocmahmaaGreatDoor.Sep
