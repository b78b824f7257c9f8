/- DeviceArms: the walk. -/
import Derived.Test.YthnbmfkmaijibaaArmPlain
import Derived.Test.YthnbmfkmaijibaaAllWalk
import Derived.Test.YthnbmfkmaijibaaSamePend
import Derived.Deep.CutBlock
namespace Go.Proofs.Ythnbmfkmaijibaa.Help
open Go.Proofs Go.RowKit Go.Proofs.YthnbmfkmaijibaaW.PrintWords Go.Proofs.YthnbmfkmaijibaaW.PrintLast Go.Proofs.YthnbmfkmaijibaaW.PrintMore Go.Proofs.Ythnbmfkmaijibaa.IMap Go.Proofs.Ythnbmfkmaijibaa.Dev Go.Proofs.Ythnbmfkmaijibaa.PDeviceReads Go.Proofs.Ythnbmfkmaijibaa.Sep
set_option linter.unusedVariables false
set_option linter.unusedSimpArgs false
set_option maxHeartbeats 4000000 in
set_option maxRecDepth 100000 in
theorem arms_any (n k0 : Int) (l : List Wr) (A : Option Addr) (c : Nat) (w : World) (hr : Kd.C kW w A l.length l) (hc : l.length ≤ c) (hl : l.length ≤ 1048576) :
    Calls Try.prog 8 #[.int .i64 n, .int .i64 k0, .slice A l.length c] w fun e w' => e = .returned (.bool true) ∧ Below w.heap.size w w' := by
  have HR := Aside0.mk hr
  clear hr
  obtain ⟨hN0, hN1, _⟩ := sz_in n
  obtain ⟨K, hK0, hK1, hK⟩ : ∃ K : Nat, 1 ≤ K ∧ K ≤ 200 ∧ wrap64 (1 + Int.tmod (wrap64 (Int.tmod k0 200 + 200)) 200) = (K : Int) := by
    have a1 : Int.tmod k0 200 < 200 := Int.tmod_lt_of_pos _ (by omega)
    have a2 : -200 < Int.tmod k0 200 := Int.lt_tmod_of_pos _ (by omega)
    have w : wrap64 (Int.tmod k0 200 + 200) = Int.tmod k0 200 + 200 := by unfold wrap64; omega
    rw [w, Int.tmod_eq_emod_of_nonneg (by omega)]
    have a3 := Int.emod_nonneg (Int.tmod k0 200 + 200) (show (200 : Int) ≠ 0 by omega)
    have a4 := Int.emod_lt_of_pos (Int.tmod k0 200 + 200) (show (0 : Int) < 200 by omega)
    refine ⟨(1 + (Int.tmod k0 200 + 200) % 200).toNat, by omega, by omega, ?_⟩
    unfold wrap64
    omega
  go_enter Try.func8, Try.ntmps8
  go_wp2_with fail
  refine (known_s (Sep.start w)).mono ?_
  rintro e w1 ⟨rfl, S⟩
  go_wp2_with fail
  refine (size_any n w1).mono ?_
  rintro e w2 ⟨rfl, b2⟩
  replace S := S.calm b2
  clear b2
  go_wp2_with fail
  refine (new_s S (sz n) hN0 (by omega)).mono ?_
  clear S
  rintro e w3 ⟨p, rfl, S⟩
  go_wp2_with fail
  refine (new_s S (sz n) hN0 (by omega)).mono ?_
  clear S
  rintro e w4 ⟨q, rfl, S⟩
  go_wp2_with fail
  rw [hK]
  clear hK
  have hA := armed_start hN0 (by omega) hK0 hK1 l
  have P := arm_s S.swap (K : Int) (by omega)
  rw [show DS.made (List.replicate (512 * sz n) 0) = Help.run (sz n) l 0 from rfl, hA.1] at P
  refine P.mono ?_
  clear P S
  rintro e w5 ⟨rfl, S⟩
  have IA := Aside0.mk hA.2
  clear hA
  go_upto_block 0 with (go_at_call 19; refine (num_any _ _).mono ?_; rintro e w' ⟨rfl, rfl⟩)
  go_cut [11, 12, 13, 14, 15, 16] (fun d _ _ _ _ _ wx => ∃ (m : Nat) (D C : DS), m ≤ 400 ∧ d = .int .i64 (m : Int) ∧ Aside0 (Armed (sz n) K m D C) ∧ Sep w wx [DevA p D, DevA q C])
  case first =>
    go_wp2_with fail
    go_loopw [11, 12] (fun d i wr => ∃ (k : Nat) (D C : DS), k ≤ l.length ∧ k ≤ 400 ∧ d = .int .i64 (k : Int) ∧ i = .int .i64 (k : Int) ∧ Armed (sz n) K k D C ∧ Sep w wr [DevA p D, DevA q C]) (fun _ i _ => 400 - (intOf i).toNat)
    case atStart => exact ⟨0, _, _, Nat.zero_le _, Nat.zero_le _, rfl, rfl, IA.out, S⟩
    case round =>
      clear S IA
      obtain ⟨k, D, C, hk, hk2, rfl, rfl, IA, S⟩ := hrel
      have IA := Aside0.mk IA
      have IC := Aside0.mk IA.out.live.fit
      by_cases hlt : k < l.length ∧ k < 400
      · obtain ⟨g1, g2⟩ := hlt
        have d1 : decide ((k : Int) < (l.length : Int)) = true := decide_eq_true (by omega)
        have d2 : decide ((k : Int) < 400) = true := decide_eq_true (by omega)
        have g1' : (k : Int) < (l.length : Int) := by omega
        obtain ⟨ad, rfl, x0, x1, x2⟩ := ws_in HR.out k g1 S.bel
        obtain ⟨x, hx⟩ : ∃ x, x = l.getD k (0, 0, false) := ⟨_, rfl⟩
        rw [← hx] at x0 x1 x2
        have X : Aside0 (∀ W : World, Below w.heap.size w W → W.cell? (ad.add (k * 3)) = some (.int .i64 x.1)) := ⟨fun W hW => by obtain ⟨ad', e', z0, _, _⟩ := ws_in HR.out k g1 hW; cases e'; rw [← hx] at z0; exact z0⟩
        have Y : Aside0 (∀ W : World, Below w.heap.size w W → W.cell? ⟨(ad.add (k * 3)).block, (ad.add (k * 3)).off + 1, none⟩ = some (.int .u8 x.2.1) ∧ W.cell? ⟨(ad.add (k * 3)).block, (ad.add (k * 3)).off + 2, none⟩ = some (.bool x.2.2)) := ⟨fun W hW => by obtain ⟨ad', e', _, z0, z1⟩ := ws_in HR.out k g1 hW; cases e'; rw [← hx] at z0 z1; exact ⟨z0, z1⟩⟩
        clear hx x0 x1 x2
        go_wp2_with fail
        refine (full_s S 1).mono ?_
        clear S
        rintro e v1 ⟨A1, c1, rfl, S⟩
        go_wp2_with fail
        have P := write_s S.swap ((sz n : Nat) : Int) (IA.out.fit.few_ (by omega))
        rw [IA.out.fit.out] at P
        refine P.mono ?_
        clear P S
        rintro e v2 ⟨rfl, S⟩
        replace S := S.drop2
        go_wp2_with fail
        have P := write_nil S 0 (IA.out.fit.few_ (by omega))
        rw [IA.out.fit.short] at P
        refine P.mono ?_
        clear P S
        rintro e v3 ⟨rfl, S⟩
        have x0 := X.out v3 S.bel
        go_wp2_with (go_at_call 19; refine (num_any _ _).mono ?_; rintro e w' ⟨rfl, rfl⟩)
        refine (place_any x.1 (sz n) hN0 _).mono ?_
        rintro e v4 ⟨rfl, b1⟩
        replace S := S.calm b1
        clear b1 x0
        obtain ⟨x1, x2⟩ := Y.out v4 S.bel
        by_cases hi : k + 1 < K
        · have di : decide ((k : Int) + 1 < (K : Int)) = true := decide_eq_true (by omega)
          cases hb : x.2.2 with
          | true =>
            have hbb := Aside0.mk hb
            rw [hb] at x2
            clear hb
            have hst := IA.out.flush hi
            go_wp2_with fail
            have P := flush_s S
            rw [hst.1] at P
            refine P.mono ?_
            clear P S
            rintro e v5 ⟨rfl, S⟩
            clear x1 x2
            have IA2 := Aside0.mk hst.2
            clear hst IA
            obtain ⟨D2, hD2⟩ : ∃ D2, D2 = (D.flush).2 := ⟨_, rfl⟩
            rw [← hD2] at S IA2
            clear hD2
            go_wp2_with (go_at_call 19; refine (num_any _ _).mono ?_; rintro e w' ⟨rfl, rfl⟩)
            have P := power_s S
            rw [IA2.out.1] at P
            refine P.mono ?_
            clear P S
            rintro e v6 ⟨rfl, S⟩
            obtain ⟨x1, x2⟩ := Y.out v6 S.bel
            rw [hbb.out] at x2
            go_wp2_with fail
            refine (flush_s S.swap).mono ?_
            clear S
            rintro e v7 ⟨rfl, S⟩
            replace S := S.swap
            clear x1 x2
            obtain ⟨x1, x2⟩ := Y.out v7 S.bel
            rw [hbb.out] at x2
            clear x1
            go_wp2
            exact ⟨⟨k + 1, _, _, by omega, by omega, by go_num, by go_num, IA2.out.2, S⟩, by simp [intOf]; omega⟩
          | false =>
            have hbb := Aside0.mk hb
            rw [hb] at x2
            clear hb
            have hst := IA.out.write hN0 (by omega) hi x.1 x.2.1
            go_wp2_with fail
            refine (full_s S x.2.1).mono ?_
            clear S
            rintro e v4 ⟨Af, cf, rfl, S⟩
            go_wp2_with fail
            have P := write_s S.swap (plc x.1 (sz n)) (IA.out.fit.few_ (by omega))
            rw [hst.1] at P
            refine P.mono ?_
            clear P S
            rintro e v5 ⟨rfl, S⟩
            replace S := S.drop2
            clear x1 x2
            have IA2 := Aside0.mk hst.2
            clear hst IA
            obtain ⟨D2, hD2⟩ : ∃ D2, D2 = (D.write (plc x.1 (sz n)) (r x.2.1)).2 := ⟨_, rfl⟩
            rw [← hD2] at S IA2
            clear hD2
            go_wp2_with (go_at_call 19; refine (num_any _ _).mono ?_; rintro e w' ⟨rfl, rfl⟩)
            have P := power_s S
            rw [IA2.out.1] at P
            refine P.mono ?_
            clear P S
            rintro e v6 ⟨rfl, S⟩
            obtain ⟨x1, x2⟩ := Y.out v6 S.bel
            rw [hbb.out] at x2
            go_wp2_with fail
            refine (full_s S x.2.1).mono ?_
            clear S
            rintro e v7 ⟨Ag, cg, rfl, S⟩
            clear x1 x2
            go_wp2_with fail
            refine (write_s (S.pull 2) (plc x.1 (sz n)) (IC.out.few_ (by omega))).mono ?_
            clear S
            rintro e v8 ⟨rfl, S⟩
            replace S := S.drop2.swap
            go_wp2
            exact ⟨⟨k + 1, _, _, by omega, by omega, by go_num, by go_num, IA2.out.2, S⟩, by simp [intOf]; omega⟩
        · replace hi : K ≤ k + 1 := by omega
          have di : decide ((k : Int) + 1 < (K : Int)) = false := decide_eq_false (by omega)
          cases hb : x.2.2 with
          | true =>
            have hbb := Aside0.mk hb
            rw [hb] at x2
            clear hb
            have hst := IA.out.flush_no hi
            go_wp2_with fail
            have P := flush_s S
            rw [hst.1] at P
            refine P.mono ?_
            clear P S
            rintro e v5 ⟨rfl, S⟩
            clear x1 x2
            have IA2 := Aside0.mk hst.2
            clear hst IA
            obtain ⟨D2, hD2⟩ : ∃ D2, D2 = (D.flush).2 := ⟨_, rfl⟩
            rw [← hD2] at S IA2
            clear hD2
            go_wp2_with (go_at_call 19; refine (num_any _ _).mono ?_; rintro e w' ⟨rfl, rfl⟩)
            have P := power_s S
            rw [IA2.out.1] at P
            refine P.mono ?_
            clear P S
            rintro e v6 ⟨rfl, S⟩
            obtain ⟨x1, x2⟩ := Y.out v6 S.bel
            clear x1 x2
            go_wp2
            exact ⟨⟨k + 1, _, _, by omega, by omega, by go_num, by go_num, IA2.out.2, S⟩, by simp [intOf]; omega⟩
          | false =>
            have hbb := Aside0.mk hb
            rw [hb] at x2
            clear hb
            have hst := IA.out.write_no hN0 (by omega) hi x.1 x.2.1
            go_wp2_with fail
            refine (full_s S x.2.1).mono ?_
            clear S
            rintro e v4 ⟨Af, cf, rfl, S⟩
            go_wp2_with fail
            have P := write_s S.swap (plc x.1 (sz n)) (IA.out.fit.few_ (by omega))
            rw [hst.1] at P
            refine P.mono ?_
            clear P S
            rintro e v5 ⟨rfl, S⟩
            replace S := S.drop2
            clear x1 x2
            have IA2 := Aside0.mk hst.2
            clear hst IA
            obtain ⟨D2, hD2⟩ : ∃ D2, D2 = (D.write (plc x.1 (sz n)) (r x.2.1)).2 := ⟨_, rfl⟩
            rw [← hD2] at S IA2
            clear hD2
            go_wp2_with (go_at_call 19; refine (num_any _ _).mono ?_; rintro e w' ⟨rfl, rfl⟩)
            have P := power_s S
            rw [IA2.out.1] at P
            refine P.mono ?_
            clear P S
            rintro e v6 ⟨rfl, S⟩
            obtain ⟨x1, x2⟩ := Y.out v6 S.bel
            clear x1 x2
            go_wp2
            exact ⟨⟨k + 1, _, _, by omega, by omega, by go_num, by go_num, IA2.out.2, S⟩, by simp [intOf]; omega⟩
      · have hcs : (decide ((k : Int) < (l.length : Int)) = true ∧ ((k : Int) < (l.length : Int)) ∧ ¬ (k : Int) < 400 ∧ decide ((k : Int) < 400) = false) ∨ (¬ ((k : Int) < (l.length : Int)) ∧ decide ((k : Int) < (l.length : Int)) = false) := by
          by_cases h : (k : Int) < (l.length : Int)
          · exact .inl ⟨decide_eq_true h, h, by omega, decide_eq_false (by omega)⟩
          · exact .inr ⟨h, decide_eq_false h⟩
        have hS := Aside0.mk S
        clear S hlt
        rcases hcs with ⟨e1, e2, e3, e4⟩ | ⟨e1, e2⟩ <;> (
          go_wp2_with fail
          go_meet
          exact ⟨k, D, C, hk2, rfl, IA, hS.out⟩)
  case rest =>
    clear S IA
    obtain ⟨m, D, C, hm, rfl, IA, S⟩ := hcut
    have IC := Aside0.mk IA.out.live.fit
    go_wp2_with fail
    refine (durable_s S).mono ?_
    clear S
    rintro e y1 ⟨Ax, cx, rfl, S⟩
    go_wp2_with fail
    refine (durable_s (S.pull 2)).mono ?_
    clear S
    rintro e y2 ⟨Ay, cy, rfl, S⟩
    go_wp2_with fail
    refine (same_t S _ _ _ _ _ _ D.dur C.dur IA.out.dur (S.pull 2).reads S.reads (S.pull 2).cap S.cap (by have := IA.out.fit.dur; omega)).mono ?_
    clear S
    rintro e y3 ⟨rfl, S⟩
    replace S := S.drop.drop2.swap
    go_wp2_with fail
    refine (pending_s S (IA.out.fit.few_ (by omega))).mono ?_
    clear S
    rintro e v4 ⟨Ap, cp, qs, rfl, S⟩
    go_wp2_with fail
    refine (pending_s (S.pull 2) (IC.out.few_ (by omega))).mono ?_
    clear S
    rintro e v5 ⟨Aq, cq, qs', rfl, S⟩
    go_wp2_with fail
    refine (samep_t (S.pull 2) rfl rfl IA.out.pend (by have := IA.out.fit.few; omega) IA.out.fit.pend_lens).mono ?_
    replace S := (S.pull 2).drop.drop
    rintro e v6 ⟨rfl, S'⟩
    clear S
    have S := S'.swap
    clear S'
    have hfin : Aside0 ((D.crash []).write 0 (r 3) = (0, { D.crash [] with pend := [(0, r 3)] }) ∧ (D.crash []).dur = (C.crash []).dur ∧ (D.crash []).dur.length = 512 * sz n ∧ (D.crash []).pend.length ≤ 1000000000000) := by
      rw [crash_nil_is, crash_nil_is]
      refine ⟨write_yes (s := DS.made D.dur) ⟨by omega, ?_⟩ (er _) rfl rfl, IA.out.dur, IA.out.fit.dur, Nat.zero_le _⟩
      have h1 : (DS.made D.dur).n = D.n := rfl
      rw [h1, IA.out.n]
      omega
    by_cases hge : K ≤ m
    · have hno := IA.out.read_no hge
      have dge : decide ((m : Int) ≥ (K : Int)) = true := decide_eq_true (by omega)
      go_wp2_with fail
      have P := read_s S 0
      rw [hno.1] at P
      refine P.mono ?_
      clear P S
      rintro e v7 ⟨Az, cz, rfl, S⟩
      go_wp2_with fail
      go_wp2_with (go_at_call 19; refine (num_any _ _).mono ?_; rintro e w' ⟨rfl, rfl⟩)
      have P := arm_s S.drop 0 (by omega)
      rw [hno.2] at P
      refine P.mono ?_
      clear P S hno
      rintro e v8 ⟨rfl, S⟩
      go_wp2_with (go_at_call 19; refine (num_any _ _).mono ?_; rintro e w' ⟨rfl, rfl⟩)
      refine (crash_nil S).mono ?_
      clear S
      rintro e v9 ⟨rfl, S⟩
      go_wp2_with fail
      refine (crash_nil S.swap).mono ?_
      clear S
      rintro e v10 ⟨rfl, S⟩
      replace S := S.swap
      go_wp2_with fail
      refine (durable_s S).mono ?_
      clear S
      rintro e y1 ⟨Ax, cx, rfl, S⟩
      go_wp2_with fail
      refine (durable_s (S.pull 2)).mono ?_
      clear S
      rintro e y2 ⟨Ay, cy, rfl, S⟩
      go_wp2_with fail
      refine (same_t S _ _ _ _ _ _ (D.crash []).dur (C.crash []).dur hfin.out.2.1 (S.pull 2).reads S.reads (S.pull 2).cap S.cap (by have := hfin.out.2.2.1; omega)).mono ?_
      clear S
      rintro e y3 ⟨rfl, S⟩
      replace S := S.drop.drop2.swap
      go_wp2_with fail
      refine (full_s S 3).mono ?_
      clear S
      rintro e v11 ⟨Af, cf, rfl, S⟩
      go_wp2_with fail
      have P := write_s S.swap 0 hfin.out.2.2.2
      rw [hfin.out.1] at P
      refine P.mono ?_
      clear P S
      rintro e v12 ⟨rfl, S⟩
      have hB := S.bel
      clear S
      go_wp2_with (go_at_call 19; refine (num_any _ _).mono ?_; rintro e w' ⟨rfl, rfl⟩)
      go_ret
      exact ⟨rfl, hB⟩
    · have dge : decide ((m : Int) ≥ (K : Int)) = false := decide_eq_false (by omega)
      go_wp2_with fail
      refine (read_s S 0).mono ?_
      clear S
      rintro e v7 ⟨Az, cz, rfl, S⟩
      replace S := S.drop
      go_wp2_with fail
      refine (crash_nil S).mono ?_
      clear S
      rintro e v9 ⟨rfl, S⟩
      go_wp2_with fail
      refine (crash_nil S.swap).mono ?_
      clear S
      rintro e v10 ⟨rfl, S⟩
      replace S := S.swap
      go_wp2_with fail
      refine (durable_s S).mono ?_
      clear S
      rintro e y1 ⟨Ax, cx, rfl, S⟩
      go_wp2_with fail
      refine (durable_s (S.pull 2)).mono ?_
      clear S
      rintro e y2 ⟨Ay, cy, rfl, S⟩
      go_wp2_with fail
      refine (same_t S _ _ _ _ _ _ (D.crash []).dur (C.crash []).dur hfin.out.2.1 (S.pull 2).reads S.reads (S.pull 2).cap S.cap (by have := hfin.out.2.2.1; omega)).mono ?_
      clear S
      rintro e y3 ⟨rfl, S⟩
      replace S := S.drop.drop2.swap
      go_wp2_with fail
      refine (full_s S 3).mono ?_
      clear S
      rintro e v11 ⟨Af, cf, rfl, S⟩
      go_wp2_with fail
      have P := write_s S.swap 0 hfin.out.2.2.2
      rw [hfin.out.1] at P
      refine P.mono ?_
      clear P S
      rintro e v12 ⟨rfl, S⟩
      have hB := S.bel
      clear S
      go_wp2_with (go_at_call 19; refine (num_any _ _).mono ?_; rintro e w' ⟨rfl, rfl⟩)
      go_ret
      exact ⟨rfl, hB⟩
end Go.Proofs.Ythnbmfkmaijibaa.Help
