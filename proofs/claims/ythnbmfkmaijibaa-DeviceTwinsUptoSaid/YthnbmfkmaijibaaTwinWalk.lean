/- DeviceTwins: the walk. -/
import Derived.Test.YthnbmfkmaijibaaCrashPlain
import Derived.Test.YthnbmfkmaijibaaAllWalk
import Derived.Test.YthnbmfkmaijibaaSamePend
import Derived.Deep.CutBlock
namespace Go.Proofs.Ythnbmfkmaijibaa.Help
open Go.Proofs Go.RowKit Go.Proofs.YthnbmfkmaijibaaW.PrintWords Go.Proofs.YthnbmfkmaijibaaW.PrintLast Go.Proofs.YthnbmfkmaijibaaW.PrintMore Go.Proofs.Ythnbmfkmaijibaa.IMap Go.Proofs.Ythnbmfkmaijibaa.Dev Go.Proofs.Ythnbmfkmaijibaa.PDeviceReads Go.Proofs.Ythnbmfkmaijibaa.Sep
set_option linter.unusedVariables false
set_option linter.unusedSimpArgs false
set_option maxHeartbeats 4000000 in
set_option maxRecDepth 100000 in
theorem twins_any (n : Int) (l : List Wr) (A : Option Addr) (c : Nat) (l2 : List Wr) (B : Option Addr) (d : Nat) (arm : Int) (w : World) (hr : Kd.C kW w A l.length l) (hc : l.length ≤ c) (hl : l.length ≤ 1048576) (hr2 : Kd.C kW w B l2.length l2) (hc2 : l2.length ≤ d) (hl2 : l2.length ≤ 1048576) :
    Calls Try.prog 11 #[.int .i64 n, .slice A l.length c, .slice B l2.length d, .int .i64 arm] w fun e w' => e = .returned (.bool true) ∧ Below w.heap.size w w' := by
  have HR := Aside0.mk hr
  have HR2 := Aside0.mk hr2
  clear hr hr2
  obtain ⟨hN0, hN1, _⟩ := sz_in n
  go_enter Try.func11, Try.ntmps11
  go_wp2_with fail
  refine (known_s (Sep.start w)).mono ?_
  rintro e w1 ⟨rfl, S⟩
  go_wp2_with fail
  refine (size_any n w1).mono ?_
  rintro e w2 ⟨rfl, b2⟩
  replace S := S.calm b2
  clear b2
  go_wp2_with fail
  refine (new_s S (sz n) hN0 (by omega)).mono ?_
  clear S
  rintro e w3 ⟨p, rfl, S⟩
  go_upto_block 0 with fail
  go_cut [11] (fun _ wx => Sep w wx [DevA p (Help.run (sz n) l (min l.length 200))])
  case first =>
    go_wp2_with fail
    go_loopw [11] (fun i wr => ∃ k : Nat, k ≤ l.length ∧ k ≤ 200 ∧ i = .int .i64 (k : Int) ∧ Sep w wr [DevA p (Help.run (sz n) l k)]) (fun i _ => 200 - (intOf i).toNat)
    case atStart => exact ⟨0, Nat.zero_le _, Nat.zero_le _, rfl, S⟩
    case round =>
      clear S
      obtain ⟨k, hk, hk2, rfl, S⟩ := hrel
      by_cases hlt : k < l.length ∧ k < 200
      · obtain ⟨g1, g2⟩ := hlt
        have d1 : decide ((k : Int) < (l.length : Int)) = true := decide_eq_true (by omega)
        have d2 : decide ((k : Int) < 200) = true := decide_eq_true (by omega)
        have g1' : (k : Int) < (l.length : Int) := by omega
        obtain ⟨ad, rfl, x0, x1, x2⟩ := ws_in HR.out k g1 S.bel
        obtain ⟨x, hx⟩ : ∃ x, x = l.getD k (0, 0, false) := ⟨_, rfl⟩
        rw [← hx] at x0 x1 x2
        have Y : Aside0 (∀ W : World, Below w.heap.size w W → W.cell? (ad.add (k * 3)) = some (.int .i64 x.1) ∧ W.cell? ⟨(ad.add (k * 3)).block, (ad.add (k * 3)).off + 1, none⟩ = some (.int .u8 x.2.1)) := ⟨fun W hW => by obtain ⟨ad', e', z0, z1, _⟩ := ws_in HR.out k g1 hW; cases e'; rw [← hx] at z0 z1; exact ⟨z0, z1⟩⟩
        have hv := run_live (sz n) hN0 (by omega) l k
        have HP : Aside0 ((Help.run (sz n) l k).pend.length ≤ 1000000000000) := ⟨by have := hv.few; omega⟩
        clear hv
        cases hb : x.2.2 with
        | true =>
          rw [hb] at x2
          have HX := Aside0.mk (run_flush (N := sz n) hx hb)
          clear hx hb
          go_wp2_with fail
          refine (flush_s S).mono ?_
          clear S
          rintro e v1 ⟨rfl, S⟩
          rw [← HX.out] at S
          go_wp2
          refine ⟨⟨k + 1, by omega, by omega, by go_num, S⟩, by simp [intOf]; omega⟩
        | false =>
          rw [hb] at x2
          have HX := Aside0.mk (run_write (N := sz n) hx hb)
          clear hx hb
          go_wp2
          go_region_held3 (fun W => W.cell? (ad.add (k * 3)) = some (.int .i64 x.1) ∧ W.cell? ⟨(ad.add (k * 3)).block, (ad.add (k * 3)).off + 1, none⟩ = some (.int .u8 x.2.1)) (first | exact Y.out _ S2.bel | (refine ⟨?_, ?_⟩ <;> (repeat (first | (with_reducible exact x0) | (with_reducible exact x1) | (with_reducible refine kd ?_) | (with_reducible refine pw_cell_below (by assumption) ?_)))))
            (first | (go_at_call 17; refine (place_any x.1 (sz n) hN0 _).mono ?_; rintro e w8 ⟨rfl, hb8⟩) | (go_at_call 21; refine (full_r x.2.1 _).mono ?_; rintro e w9 ⟨vf, rfl, hvf, hb9⟩; obtain ⟨Af, cf, rfl⟩ := own_slice hvf) | (go_at_call 20; refine (write_s (Sep.swap (by first | exact (S.drew.calm hb8).row_new hb9 hvf | exact (S.drew.row_new hb9 hvf).calm hb8)) (plc x.1 (sz n)) HP.out).mono ?_; rintro e w10 ⟨rfl, S2⟩))
          all_goals (
            rw [← HX.out] at S2
            go_wp2
            refine ⟨⟨k + 1, by omega, by omega, by go_num, S2.drop2⟩, by simp [intOf]; omega⟩)
      · have hmin : k = min l.length 200 := by omega
        have hcs : (decide ((k : Int) < (l.length : Int)) = true ∧ ((k : Int) < (l.length : Int)) ∧ ¬ (k : Int) < 200 ∧ decide ((k : Int) < 200) = false) ∨ (¬ ((k : Int) < (l.length : Int)) ∧ decide ((k : Int) < (l.length : Int)) = false) := by
          by_cases h : (k : Int) < (l.length : Int)
          · exact .inl ⟨decide_eq_true h, h, by omega, decide_eq_false (by omega)⟩
          · exact .inr ⟨h, decide_eq_false h⟩
        rw [hmin] at S
        have hS := Aside0.mk S
        clear S hmin hlt
        rcases hcs with ⟨e1, e2, e3, e4⟩ | ⟨e1, e2⟩ <;> (
          go_wp2_with fail
          go_meet
          exact hS.out)
  case rest =>
    clear S
    have S := hcut
    clear hcut
    have hv := Aside0.mk (run_live (sz n) hN0 (by omega) l (min l.length 200)).fit
    obtain ⟨s, hs⟩ : ∃ s, s = Help.run (sz n) l (min l.length 200) := ⟨_, rfl⟩
    rw [← hs] at S hv
    clear hs
    go_wp2_with fail
    refine (durable_s S).mono ?_
    clear S
    rintro e w4 ⟨Aw, cw, rfl, S⟩
    go_wp2_with fail
    refine (image_yes_s S Aw _ cw s.dur rfl S.reads (fit_of hv.out)).mono ?_
    clear S
    rintro e w5 ⟨q, rfl, S⟩
    replace S := S.drop2
    go_wp2_with (go_at_call 19; refine (num_any _ _).mono ?_; rintro e w' ⟨rfl, rfl⟩)
    have P := crash_nil S.swap
    rw [crash_nil_is] at P
    refine P.mono ?_
    clear S P
    rintro e w6 ⟨rfl, S⟩
    have hm : Aside0 (Fit (sz n) (DS.made s.dur) 0) := ⟨⟨fit_ok (fit_of hv.out), hv.out.n, Nat.le_refl _⟩⟩
    obtain ⟨s', hs'⟩ : ∃ s', s' = DS.made s.dur := ⟨_, rfl⟩
    rw [← hs'] at S hm
    clear hs' hv
    obtain ⟨a, ha0, ha1, ha⟩ : ∃ a : Int, 0 ≤ a ∧ a < 300 ∧ Int.tmod (wrap64 (Int.tmod arm 300 + 300)) 300 = a := by
      have a1 : Int.tmod arm 300 < 300 := Int.tmod_lt_of_pos _ (by omega)
      have a2 : -300 < Int.tmod arm 300 := Int.lt_tmod_of_pos _ (by omega)
      have w : wrap64 (Int.tmod arm 300 + 300) = Int.tmod arm 300 + 300 := by unfold wrap64; omega
      rw [w, Int.tmod_eq_emod_of_nonneg (by omega)]
      exact ⟨_, Int.emod_nonneg _ (by omega), Int.emod_lt_of_pos _ (by omega), rfl⟩
    go_wp2_with fail
    clear ha
    refine (arm_s S a (by omega)).mono ?_
    clear S
    rintro e w7 ⟨rfl, S⟩
    go_wp2_with (go_at_call 19; refine (num_any _ _).mono ?_; rintro e w' ⟨rfl, rfl⟩)
    refine (arm_s S.swap a (by omega)).mono ?_
    clear S
    rintro e w8 ⟨rfl, S⟩
    replace S := S.swap
    have hm := Aside0.mk (hm.out.arm a (by omega))
    obtain ⟨s0, hs0⟩ : ∃ s0, s0 = (s'.arm a).2 := ⟨_, rfl⟩
    obtain ⟨r0, hr0⟩ : ∃ r0, r0 = (s'.arm a).1 := ⟨_, rfl⟩
    rw [← hs0] at S hm
    rw [← hr0]
    clear hs0 hr0
    go_upto_block 2 with (go_at_call 19; refine (num_any _ _).mono ?_; rintro e w' ⟨rfl, rfl⟩)
    go_cut [14, 15, 16, 17, 18, 19, 20, 21, 22] (fun _ _ _ _ _ _ _ _ _ wx => ∃ s1, Fit (sz n) s1 200 ∧ Sep w wx [DevA p s1, DevA q s1])
    case first =>
      go_wp2_with fail
      go_loopw [14] (fun i wr => ∃ (k : Nat) (s1 : DS), k ≤ l2.length ∧ k ≤ 200 ∧ i = .int .i64 (k : Int) ∧ Fit (sz n) s1 k ∧ Sep w wr [DevA p s1, DevA q s1]) (fun i _ => 200 - (intOf i).toNat)
      case atStart => exact ⟨0, s0, Nat.zero_le _, Nat.zero_le _, rfl, hm.out, S⟩
      case round =>
        clear S hm
        obtain ⟨k, s1, hk, hk2, rfl, hf, S⟩ := hrel
        have hf := Aside0.mk hf
        by_cases hlt : k < l2.length ∧ k < 200
        · obtain ⟨g1, g2⟩ := hlt
          have d1 : decide ((k : Int) < (l2.length : Int)) = true := decide_eq_true (by omega)
          have d2 : decide ((k : Int) < 200) = true := decide_eq_true (by omega)
          have g1' : (k : Int) < (l2.length : Int) := by omega
          obtain ⟨ad, rfl, x0, x1, x2⟩ := ws_in HR2.out k g1 S.bel
          obtain ⟨x, hx⟩ : ∃ x, x = l2.getD k (0, 0, false) := ⟨_, rfl⟩
          rw [← hx] at x0 x1 x2
          have Y : Aside0 (∀ W : World, Below w.heap.size w W → W.cell? ⟨(ad.add (k * 3)).block, (ad.add (k * 3)).off + 1, none⟩ = some (.int .u8 x.2.1) ∧ W.cell? ⟨(ad.add (k * 3)).block, (ad.add (k * 3)).off + 2, none⟩ = some (.bool x.2.2)) := ⟨fun W hW => by obtain ⟨ad', e', _, z0, z1⟩ := ws_in HR2.out k g1 hW; cases e'; rw [← hx] at z0 z1; exact ⟨z0, z1⟩⟩
          clear hx x1 x2
          go_wp2_with fail
          refine (place_any x.1 (sz n) hN0 _).mono ?_
          rintro e v1 ⟨rfl, b1⟩
          replace S := S.calm b1
          clear b1 x0
          obtain ⟨x1, x2⟩ := Y.out v1 S.bel
          cases hb : x.2.2 with
          | true =>
            rw [hb] at x2
            clear hb x1
            go_wp2_with fail
            refine (flush_s S).mono ?_
            clear S x2
            rintro e v2 ⟨rfl, S⟩
            go_wp2_with fail
            refine (flush_s S.swap).mono ?_
            clear S
            rintro e v3 ⟨rfl, S⟩
            replace S := S.swap
            have hf := Aside0.mk hf.out.flush
            obtain ⟨s2, hs2⟩ : ∃ s2, s2 = s1.flush.2 := ⟨_, rfl⟩
            obtain ⟨r2, hr2⟩ : ∃ r2, r2 = s1.flush.1 := ⟨_, rfl⟩
            rw [← hs2] at S hf
            rw [← hr2]
            clear hs2 hr2
            go_wp2_with fail
            refine (read_s S (plc x.1 (sz n))).mono ?_
            clear S
            rintro e v5 ⟨Ax, cx, rfl, S⟩
            go_wp2_with fail
            refine (read_s (S.pull 2) (plc x.1 (sz n))).mono ?_
            clear S
            rintro e v6 ⟨Ay, cy, rfl, S⟩
            go_wp2_with fail
            refine (same_t S _ _ _ _ _ _ (s2.read (plc x.1 (sz n))).1 (s2.read (plc x.1 (sz n))).1 rfl (S.pull 2).reads S.reads (S.pull 2).cap S.cap (by have := read_len hf.out.ok (plc x.1 (sz n)); omega)).mono ?_
            clear S
            rintro e v7 ⟨rfl, S⟩
            replace S := S.drop.drop2.swap
            have HF := hf
            clear hf
            go_wp2_with (go_at_call 19; refine (num_any _ _).mono ?_; rintro e w' ⟨rfl, rfl⟩)
            exact ⟨⟨k + 1, s2, by omega, by omega, by go_num, HF.out, S⟩, by simp [intOf]; omega⟩
          | false =>
            rw [hb] at x2
            clear hb
            go_wp2_with fail
            refine (full_s S x.2.1).mono ?_
            clear S
            rintro e v2 ⟨Af, cf, rfl, S⟩
            go_wp2_with fail
            refine (write_s S.swap _ (hf.out.few_ (by omega))).mono ?_
            clear S
            rintro e v3 ⟨rfl, S⟩
            replace S := S.drop2
            replace x1 := (Y.out v3 S.bel).1
            clear x2
            go_wp2_with fail
            refine (full_s S x.2.1).mono ?_
            clear S
            rintro e v4 ⟨Ag, cg, rfl, S⟩
            clear x1
            go_wp2_with fail
            refine (write_s (S.pull 2) _ (hf.out.few_ (by omega))).mono ?_
            clear S
            rintro e v3 ⟨rfl, S⟩
            replace S := S.drop2.swap
            have hf := Aside0.mk (hf.out.write (plc x.1 (sz n)) (r x.2.1))
            obtain ⟨s2, hs2⟩ : ∃ s2, s2 = (s1.write (plc x.1 (sz n)) (r x.2.1)).2 := ⟨_, rfl⟩
            obtain ⟨r2, hr2⟩ : ∃ r2, r2 = (s1.write (plc x.1 (sz n)) (r x.2.1)).1 := ⟨_, rfl⟩
            rw [← hs2] at S hf
            rw [← hr2]
            clear hs2 hr2
            go_wp2_with fail
            refine (read_s S (plc x.1 (sz n))).mono ?_
            clear S
            rintro e v5 ⟨Ax, cx, rfl, S⟩
            go_wp2_with fail
            refine (read_s (S.pull 2) (plc x.1 (sz n))).mono ?_
            clear S
            rintro e v6 ⟨Ay, cy, rfl, S⟩
            go_wp2_with fail
            refine (same_t S _ _ _ _ _ _ (s2.read (plc x.1 (sz n))).1 (s2.read (plc x.1 (sz n))).1 rfl (S.pull 2).reads S.reads (S.pull 2).cap S.cap (by have := read_len hf.out.ok (plc x.1 (sz n)); omega)).mono ?_
            clear S
            rintro e v7 ⟨rfl, S⟩
            replace S := S.drop.drop2.swap
            have HF := hf
            clear hf
            go_wp2_with (go_at_call 19; refine (num_any _ _).mono ?_; rintro e w' ⟨rfl, rfl⟩)
            exact ⟨⟨k + 1, s2, by omega, by omega, by go_num, HF.out, S⟩, by simp [intOf]; omega⟩
        · have hcs : (decide ((k : Int) < (l2.length : Int)) = true ∧ ((k : Int) < (l2.length : Int)) ∧ ¬ (k : Int) < 200 ∧ decide ((k : Int) < 200) = false) ∨ (¬ ((k : Int) < (l2.length : Int)) ∧ decide ((k : Int) < (l2.length : Int)) = false) := by
            by_cases h : (k : Int) < (l2.length : Int)
            · exact .inl ⟨decide_eq_true h, h, by omega, decide_eq_false (by omega)⟩
            · exact .inr ⟨h, decide_eq_false h⟩
          have hS := Aside0.mk S
          clear S hlt
          rcases hcs with ⟨e1, e2, e3, e4⟩ | ⟨e1, e2⟩ <;> (
            go_wp2_with fail
            go_meet
            exact ⟨s1, hf.out.up (by omega), hS.out⟩)
    case rest =>
      clear S hm
      obtain ⟨s1, hf, S⟩ := hcut
      have hf := Aside0.mk hf
      go_wp2_with fail
      refine (durable_s S).mono ?_
      clear S
      rintro e v1 ⟨Ax, cx, rfl, S⟩
      go_wp2_with fail
      refine (durable_s (S.pull 2)).mono ?_
      clear S
      rintro e v2 ⟨Ay, cy, rfl, S⟩
      go_wp2_with fail
      refine (same_t S _ _ _ _ _ _ s1.dur s1.dur rfl (S.pull 2).reads S.reads (S.pull 2).cap S.cap (by have := hf.out.dur; omega)).mono ?_
      clear S
      rintro e v3 ⟨rfl, S⟩
      replace S := S.drop.drop2.swap
      go_wp2_with fail
      refine (pending_s S (hf.out.few_ (by omega))).mono ?_
      clear S
      rintro e v4 ⟨Ap, cp, qs, rfl, S⟩
      go_wp2_with fail
      refine (pending_s (S.pull 2) (hf.out.few_ (by omega))).mono ?_
      clear S
      rintro e v5 ⟨Aq, cq, qs', rfl, S⟩
      go_wp2_with fail
      refine (samep_t (S.pull 2) rfl rfl rfl (by have := hf.out.few; omega) hf.out.pend_lens).mono ?_
      replace S := (S.pull 2).drop.drop
      rintro e v6 ⟨rfl, S'⟩
      clear S
      have S := S'
      clear S'
      go_wp2_with fail
      refine (power_s S.swap).mono ?_
      clear S
      rintro e v7 ⟨rfl, S⟩
      go_wp2_with fail
      refine (power_s S.swap).mono ?_
      clear S
      rintro e v8 ⟨rfl, S⟩
      go_wp2_with fail
      refine (size_s S.swap).mono ?_
      rintro e w' ⟨rfl, rfl⟩
      go_wp2_with fail
      refine (size_s S).mono ?_
      rintro e w' ⟨rfl, rfl⟩
      have hB := S.bel
      clear S
      go_wp2
      go_ret
      exact ⟨by simp, hB⟩
end Go.Proofs.Ythnbmfkmaijibaa.Help
