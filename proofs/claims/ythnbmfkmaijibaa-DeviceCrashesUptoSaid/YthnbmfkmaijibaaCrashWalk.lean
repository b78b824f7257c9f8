/- DeviceCrashes: the walk. -/
import Derived.Test.YthnbmfkmaijibaaCrashPlain
import Derived.Test.YthnbmfkmaijibaaAllWalk
import Derived.Deep.CutBlock
namespace Go.Proofs.Ythnbmfkmaijibaa.Help
open Go.Proofs Go.RowKit Go.Proofs.YthnbmfkmaijibaaW.PrintWords Go.Proofs.YthnbmfkmaijibaaW.PrintLast Go.Proofs.YthnbmfkmaijibaaW.PrintMore Go.Proofs.Ythnbmfkmaijibaa.IMap Go.Proofs.Ythnbmfkmaijibaa.Dev Go.Proofs.Ythnbmfkmaijibaa.PDeviceReads Go.Proofs.Ythnbmfkmaijibaa.Sep
set_option linter.unusedVariables false
set_option linter.unusedSimpArgs false
set_option maxHeartbeats 4000000 in
set_option maxRecDepth 100000 in
theorem crashes_any (n : Int) (l : List Wr) (A : Option Addr) (c : Nat) (ks : List Bool) (B : Option Addr) (d : Nat) (w : World) (hr : Kd.C kW w A l.length l) (hc : l.length ≤ c) (hl : l.length ≤ 1048576) (hk : Kd.C Kd.bool w B ks.length ks) (hkc : ks.length ≤ d) (hkl : ks.length ≤ 1048576) :
    Calls Try.prog 6 #[.int .i64 n, .slice A l.length c, .slice B ks.length d] w fun e w' => e = .returned (.bool true) ∧ Below w.heap.size w w' := by
  have HR := Aside0.mk hr
  have HK := Aside0.mk hk
  clear hr hk
  obtain ⟨hN0, hN1, _⟩ := sz_in n
  go_enter Try.func6, Try.ntmps6
  go_wp2_with fail
  refine (known_s (Sep.start w)).mono ?_
  rintro e w1 ⟨rfl, S⟩
  go_wp2_with fail
  refine (size_any n w1).mono ?_
  rintro e w2 ⟨rfl, b2⟩
  replace S := S.calm b2
  clear b2
  go_wp2_with fail
  refine (new_s S (sz n) hN0 (by omega)).mono ?_
  clear S
  rintro e w3 ⟨p, rfl, S⟩
  go_upto_block 0 with fail
  go_cut [9] (fun _ wx => Sep w wx [DevA p (Help.run (sz n) l (min l.length 400))])
  case first =>
    go_wp2_with fail
    go_loopw [9] (fun i wr => ∃ k : Nat, k ≤ l.length ∧ k ≤ 400 ∧ i = .int .i64 (k : Int) ∧ Sep w wr [DevA p (Help.run (sz n) l k)]) (fun i _ => 400 - (intOf i).toNat)
    case atStart => exact ⟨0, Nat.zero_le _, Nat.zero_le _, rfl, S⟩
    case round =>
      clear S
      obtain ⟨k, hk, hk2, rfl, S⟩ := hrel
      by_cases hlt : k < l.length ∧ k < 400
      · obtain ⟨g1, g2⟩ := hlt
        have d1 : decide ((k : Int) < (l.length : Int)) = true := decide_eq_true (by omega)
        have d2 : decide ((k : Int) < 400) = true := decide_eq_true (by omega)
        have g1' : (k : Int) < (l.length : Int) := by omega
        obtain ⟨ad, rfl, x0, x1, x2⟩ := ws_in HR.out k g1 S.bel
        obtain ⟨x, hx⟩ : ∃ x, x = l.getD k (0, 0, false) := ⟨_, rfl⟩
        rw [← hx] at x0 x1 x2
        have Y : Aside0 (∀ W : World, Below w.heap.size w W → W.cell? (ad.add (k * 3)) = some (.int .i64 x.1) ∧ W.cell? ⟨(ad.add (k * 3)).block, (ad.add (k * 3)).off + 1, none⟩ = some (.int .u8 x.2.1)) := ⟨fun W hW => by obtain ⟨ad', e', z0, z1, _⟩ := ws_in HR.out k g1 hW; cases e'; rw [← hx] at z0 z1; exact ⟨z0, z1⟩⟩
        have hv := run_live (sz n) hN0 (by omega) l k
        have HP : Aside0 ((Help.run (sz n) l k).pend.length ≤ 1000000000000) := ⟨by have := hv.few; omega⟩
        clear hv
        cases hb : x.2.2 with
        | true =>
          rw [hb] at x2
          have HX := Aside0.mk (run_flush (N := sz n) hx hb)
          clear hx hb
          go_wp2_with fail
          refine (flush_s S).mono ?_
          clear S
          rintro e v1 ⟨rfl, S⟩
          rw [← HX.out] at S
          go_wp2
          refine ⟨⟨k + 1, by omega, by omega, by go_num, S⟩, by simp [intOf]; omega⟩
        | false =>
          rw [hb] at x2
          have HX := Aside0.mk (run_write (N := sz n) hx hb)
          clear hx hb
          go_wp2
          go_region_held3 (fun W => W.cell? (ad.add (k * 3)) = some (.int .i64 x.1) ∧ W.cell? ⟨(ad.add (k * 3)).block, (ad.add (k * 3)).off + 1, none⟩ = some (.int .u8 x.2.1)) (first | exact Y.out _ S2.bel | (refine ⟨?_, ?_⟩ <;> (repeat (first | (with_reducible exact x0) | (with_reducible exact x1) | (with_reducible refine kd ?_) | (with_reducible refine pw_cell_below (by assumption) ?_)))))
            (first | (go_at_call 17; refine (place_any x.1 (sz n) hN0 _).mono ?_; rintro e w8 ⟨rfl, hb8⟩) | (go_at_call 21; refine (full_r x.2.1 _).mono ?_; rintro e w9 ⟨vf, rfl, hvf, hb9⟩; obtain ⟨Af, cf, rfl⟩ := own_slice hvf) | (go_at_call 20; refine (write_s (Sep.swap (by first | exact (S.drew.calm hb8).row_new hb9 hvf | exact (S.drew.row_new hb9 hvf).calm hb8)) (plc x.1 (sz n)) HP.out).mono ?_; rintro e w10 ⟨rfl, S2⟩))
          all_goals (
            rw [← HX.out] at S2
            go_wp2
            refine ⟨⟨k + 1, by omega, by omega, by go_num, S2.drop2⟩, by simp [intOf]; omega⟩)
      · have hmin : k = min l.length 400 := by omega
        have hcs : (decide ((k : Int) < (l.length : Int)) = true ∧ ((k : Int) < (l.length : Int)) ∧ ¬ (k : Int) < 400 ∧ decide ((k : Int) < 400) = false) ∨ (¬ ((k : Int) < (l.length : Int)) ∧ decide ((k : Int) < (l.length : Int)) = false) := by
          by_cases h : (k : Int) < (l.length : Int)
          · exact .inl ⟨decide_eq_true h, h, by omega, decide_eq_false (by omega)⟩
          · exact .inr ⟨h, decide_eq_false h⟩
        rw [hmin] at S
        have hS := Aside0.mk S
        clear S hmin hlt
        rcases hcs with ⟨e1, e2, e3, e4⟩ | ⟨e1, e2⟩ <;> (
          go_wp2_with fail
          go_meet
          exact hS.out)
  case rest =>
    clear S
    have S := hcut
    clear hcut
    have hv := Aside0.mk (run_live (sz n) hN0 (by omega) l (min l.length 400))
    obtain ⟨s, hs⟩ : ∃ s, s = Help.run (sz n) l (min l.length 400) := ⟨_, rfl⟩
    rw [← hs] at S hv
    clear hs
    have hd : s.dur.length = 512 * sz n := by have h1 := hv.out.ok.len; rw [hv.out.n] at h1; exact h1
    have hD := Aside0.mk hd
    go_wp2_with fail
    have P := durable_s S
    rw [hd] at P
    refine P.mono ?_
    clear P S hd
    rintro e w4 ⟨Aw, cw, rfl, S⟩
    go_wp2_with fail
    refine (pending_s S.swap (by have := hv.out.few; omega)).mono ?_
    clear S
    rintro e w5 ⟨Ap, cp, qs, rfl, S⟩
    have hm : ((512 : Int) * ((sz n : Nat) : Int) != ((sz n : Nat) : Int) * 512) = false := by simp; omega
    go_upto_block 2 with fail
    go_wp2_with fail
    go_loop [12] (fun i => ∃ k : Nat, k ≤ s.pend.length ∧ i = .int .i64 (k : Int)) (fun i => s.pend.length - (intOf i).toNat)
    case atStart => exact ⟨0, Nat.zero_le _, rfl⟩
    case round =>
      obtain ⟨k, hk, rfl⟩ := hrel
      have hpl : Aside0 (s.pend.length ≤ 400) := ⟨by have := hv.out.few; omega⟩
      by_cases hlt : k < s.pend.length
      · obtain ⟨g, x, rfl, hq, hx, x0, x1, ho⟩ := S.pend_at rfl k hlt
        obtain ⟨b0, b1, b2⟩ := hv.out.ok.pend _ (List.mem_of_getElem? hx)
        rw [hv.out.n] at b1
        rw [b2] at ho
        obtain ⟨Ax, cx, ex⟩ := own_slice ho
        rw [ex] at x1
        simp only at b0 b1
        have t1 : ¬ x.1 < 0 := by omega
        have t2 : ¬ x.1 ≥ ((sz n : Nat) : Int) := by omega
        have hk63 : (k : Int) < 400 := by have := hpl.out; omega
        clear hq hx ho ex
        go_wp2
        go_round
        case rel => exact ⟨k + 1, by omega, by go_num⟩
        case measure => simp [intOf]; omega
      · have hnl : ¬ ((k : Int) < (s.pend.length : Int)) := by omega
        clear hlt
        have hkb := Aside0.mk (bools_in HK.out S.bel)
        go_wp2_with fail
        refine (crash_old (S.pull 1) B d ks hkb.out.1 hkb.out.2).mono ?_
        clear S hkb
        rintro e w6 ⟨rfl, S⟩
        obtain ⟨gw, rfl⟩ := (S.pull 2).addr (by omega)
        have hlen : ∀ i, i ≤ s.pend.length → (settled (fun j => ks.getD j false) s.pend s.dur i).length = 512 * sz n := fun i hi => (length_settled hv.out.ok.len hv.out.ok.pend i hi).trans hD.out
        have HL := Aside0.mk hlen
        clear hlen
        go_upto_block 4 with fail
        go_cut [13, 14] (fun _ _ wx => Sep w wx [Byt (some ⟨gw, 0, none⟩) (512 * sz n) cw (s.crash ks).dur, DevA p (s.crash ks), PendA (.slice Ap s.pend.length cp) s.pend qs])
        case first =>
          go_wp2_with fail
          go_loopw [13] (fun i wr => ∃ k : Nat, k ≤ s.pend.length ∧ k ≤ ks.length ∧ i = .int .i64 (k : Int) ∧ Sep w wr [Byt (some ⟨gw, 0, none⟩) (512 * sz n) cw (settled (fun j => ks.getD j false) s.pend s.dur k), DevA p (s.crash ks), PendA (.slice Ap s.pend.length cp) s.pend qs]) (fun i _ => s.pend.length - (intOf i).toNat)
          case atStart => exact ⟨0, Nat.zero_le _, Nat.zero_le _, rfl, S.pull 2⟩
          case round =>
            clear S hk
            obtain ⟨k, hk, hk2, rfl, S⟩ := hrel
            by_cases hlt : k < s.pend.length ∧ k < ks.length
            · obtain ⟨g1, g2⟩ := hlt
              have d1 : decide ((k : Int) < (s.pend.length : Int)) = true := decide_eq_true (by omega)
              have d2 : decide ((k : Int) < (ks.length : Int)) = true := decide_eq_true (by omega)
              have hk63 : (k : Int) < 400 := by have := hpl.out; omega
              have g1' : (k : Int) < (s.pend.length : Int) := by omega
              have g2' : (k : Int) < (ks.length : Int) := by omega
              have HX : Aside0 (∃ x : Int × List Int × Value, qs[k]? = some x ∧ s.pend[k]? = some (x.1, x.2.1) ∧ 0 ≤ x.1 ∧ x.1 < (sz n : Int) ∧ x.2.1.length = 512) := by
                obtain ⟨g, x, _, hq, hx, _⟩ := (S.pull 2).pend_at rfl k g1
                obtain ⟨b0, b1, b2⟩ := hv.out.ok.pend _ (List.mem_of_getElem? hx)
                rw [hv.out.n] at b1
                exact ⟨x, hq, hx, b0, b1, b2⟩
              obtain ⟨x, hq, hx, b0, b1, b2⟩ := HX.out
              clear HX
              have HQ := Aside0.mk hq
              have HX := Aside0.mk hx
              have HB := Aside0.mk b2
              clear hq hx b2
              obtain ⟨wo, rfl⟩ : ∃ wo : World, wo = wr := ⟨_, rfl⟩
              cases hkk : ks.getD k false with
              | false =>
                have HS := Aside0.mk (settled_no (ps := s.pend) (d := s.dur) hkk)
                have HKK := Aside0.mk hkk
                clear hkk
                go_wp2
                go_loop [14] (fun i => i = .int .i64 0) (fun i => 512 - (intOf i).toNat)
                case atStart => exact rfl
                case round =>
                  subst hrel
                  obtain ⟨ad, rfl, hkc'⟩ := (bools_in HK.out S.bel).1.2.2 (by omega)
                  have y0 := hkc' k g2
                  rw [HKK.out] at y0
                  clear hkc'
                  have hS := Aside0.mk S
                  clear S
                  go_wp2
                  refine ⟨⟨k + 1, by omega, by omega, by go_num, ?_⟩, by simp [intOf]; omega⟩
                  rw [HS.out]
                  exact hS.out
              | true =>
                have HS := Aside0.mk (settled_yes (d := s.dur) hkk HX.out)
                have HKK := Aside0.mk hkk
                clear hkk
                go_wp2
                go_loopw [14] (fun i wq => ∃ m : Nat, m ≤ 512 ∧ i = .int .i64 (m : Int) ∧ Sep w wq [Byt (some ⟨gw, 0, none⟩) (512 * sz n) cw (splice (settled (fun j => ks.getD j false) s.pend s.dur k) (x.1.toNat * 512) (x.2.1.take m)), DevA p (s.crash ks), PendA (.slice Ap s.pend.length cp) s.pend qs]) (fun i _ => 512 - (intOf i).toNat)
                case atStart => exact ⟨0, Nat.zero_le _, rfl, by rw [List.take_zero, splice_nil]; exact S⟩
                case round =>
                  clear S
                  obtain ⟨m, hm5, rfl, S⟩ := hrel
                  obtain ⟨g, x', rfl, hq', hx', x0, x1, ho⟩ := (S.pull 2).pend_at rfl k g1
                  obtain rfl : x = x' := by have := HQ.out; rw [hq'] at this; exact (Option.some.inj this).symm
                  rw [HB.out] at ho
                  obtain ⟨gx, cx, ex, _, _⟩ := ho.form (by decide)
                  rw [ex] at x1 ho
                  obtain ⟨ad, rfl, hkc'⟩ := (bools_in HK.out S.bel).1.2.2 (by omega)
                  have y0 := hkc' k g2
                  rw [HKK.out] at y0
                  clear hq' hx' hkc' ex
                  by_cases hlt : m < 512
                  · have d3 : decide ((m : Int) < 512) = true := decide_eq_true (by omega)
                    have z0 := ho.cells (g := gx) rfl m (.int .u8 (x.2.1.getD m 0)) (by simp [nums, List.getD_eq_getElem?_getD, List.getElem?_eq_getElem (show m < x.2.1.length by have := HB.out; omega)])
                    rw [add_plain] at z0
                    have i1 : IntKind.i64.wrap (512 * x.1) = 512 * x.1 := by rw [IntKind.wrap_i64]; omega
                    have i2 : IntKind.i64.wrap (512 * x.1 + (m : Int)) = 512 * x.1 + (m : Int) := by rw [IntKind.wrap_i64]; omega
                    have i3 : (512 * x.1 + (m : Int)).toNat = x.1.toNat * 512 + m := by omega
                    have i4 : (0 : Int) ≤ 512 * x.1 + (m : Int) := by omega
                    have i5 : 512 * x.1 + (m : Int) < 512 * ((sz n : Nat) : Int) := by omega
                    have i6 : (m : Int) < 512 := by omega
                    have ce := S.elem (x.1.toNat * 512 + m) (by omega)
                    have fr := S.row_free (by omega) (x.1.toNat * 512 + m)
                    have hst := S.drew.store (x.1.toNat * 512 + m) (x.2.1.getD m 0)
                    rw [splice_step _ _ _ _ (by rw [HB.out]; exact hlt) (by rw [HB.out, HL.out k hk]; omega)] at hst
                    have HST := Aside0.mk hst
                    clear hst ho S
                    go_wp2
                    go_still_tail 18, (by kernel_rfl)
                    change wpList _ _ _ _ _ wr.drew
                    go_wp2
                    refine ⟨⟨m + 1, by omega, by go_num, HST.out⟩, by simp [intOf]; omega⟩
                  · obtain rfl : m = 512 := by omega
                    have hS := Aside0.mk S
                    clear S hlt
                    go_wp2
                    refine ⟨⟨k + 1, by omega, by omega, by go_num, ?_⟩, by simp [intOf]; omega⟩
                    rw [HS.out]
                    have := hS.out
                    rw [List.take_of_length_le (by have := HB.out; omega)] at this
                    exact this
            · have hcs : (decide ((k : Int) < (s.pend.length : Int)) = true ∧ ((k : Int) < (s.pend.length : Int)) ∧ ¬ (k : Int) < (ks.length : Int) ∧ decide ((k : Int) < (ks.length : Int)) = false) ∨ (¬ ((k : Int) < (s.pend.length : Int)) ∧ decide ((k : Int) < (s.pend.length : Int)) = false) := by
                by_cases h : (k : Int) < (s.pend.length : Int)
                · exact .inl ⟨decide_eq_true h, h, by omega, decide_eq_false (by omega)⟩
                · exact .inr ⟨h, decide_eq_false h⟩
              have he : settled (fun j => ks.getD j false) s.pend s.dur k = (s.crash ks).dur := by
                rw [crash_dur]
                exact settled_end (by omega)
              rw [he] at S
              have hS := Aside0.mk S
              clear S hlt he
              rcases hcs with ⟨e1, e2, e3, e4⟩ | ⟨e1, e2⟩ <;> (
                go_wp2_with fail
                go_meet
                exact hS.out)
        case rest =>
          clear S
          have S := hcut
          clear hcut
          have hcl : (s.crash ks).dur.length = 512 * sz n := HL.out _ (Nat.le_refl _)
          have hcn : (s.crash ks).n = sz n := by unfold DS.n; rw [hcl]; omega
          have hcp : (s.crash ks).pend = [] := rfl
          have hco : (s.crash ks).off = false := rfl
          have hblk : ∀ b : Nat, b < sz n → (s.crash ks).read (b : Int) = (((s.crash ks).dur.drop (b * 512)).take 512, 0) := by
            intro b hb
            unfold DS.read
            rw [if_pos (hasB_iff.2 ⟨by omega, by rw [hcn]; omega⟩), hco, if_neg (by simp)]
            unfold DS.lastD
            rw [hcp]
            rfl
          have HC := Aside0.mk (And.intro hcl hblk)
          obtain ⟨s', hs'⟩ : ∃ s', s' = s.crash ks := ⟨_, rfl⟩
          rw [← hs'] at S HC hco hcp hcl
          clear hblk hcn hs'
          go_wp2_with fail
          have P := durable_s (S.pull 1)
          rw [hcl] at P
          refine P.mono ?_
          clear P S
          rintro e w8 ⟨An, cn, rfl, S⟩
          go_wp2_with fail
          refine (same_t S _ _ _ _ _ _ s'.dur s'.dur rfl S.reads (S.pull 2).reads S.cap (S.pull 2).cap (by omega)).mono ?_
          clear S
          rintro e w9 ⟨rfl, S⟩
          go_wp2_with fail
          have P := power_s (S.pull 1)
          rw [hco] at P
          refine P.mono ?_
          clear P S
          rintro e w10 ⟨rfl, S⟩
          go_wp2_with fail
          have P := pending_s S (by rw [hcp]; decide)
          rw [hcp] at P
          refine P.mono ?_
          clear P S
          rintro e w11 ⟨Aq, cq, qs', rfl, S⟩
          replace S := (S.drop.drop2.pull 1)
          go_wp2
          go_loopw [17] (fun i wr => ∃ k : Nat, k ≤ sz n ∧ i = .int .i64 (k : Int) ∧ Sep w wr [Byt (some ⟨gw, 0, none⟩) (512 * sz n) cw s'.dur, DevA p s', PendA (.slice Ap s.pend.length cp) s.pend qs]) (fun i _ => sz n - (intOf i).toNat)
          case atStart => exact ⟨0, Nat.zero_le _, rfl, S⟩
          case round =>
            clear S
            obtain ⟨k, hk, rfl, S⟩ := hrel
            by_cases hlt : k < sz n
            · have d1 : ((k : Int) < ((sz n : Nat) : Int)) := by omega
              have hrd := HC.out.2 k hlt
              have hb : ((s'.dur.drop (k * 512)).take 512).length = 512 := by simp; have := HC.out.1; omega
              go_wp2_with fail
              have P := read_s (S.pull 1) (k : Int)
              rw [hrd] at P
              simp only [hb] at P
              refine P.mono ?_
              clear P S hrd
              rintro e w12 ⟨Ar, cr, rfl, S⟩
              have hcap := (S.pull 2).cap
              have i1 : IntKind.i64.wrap (512 * (k : Int)) = 512 * (k : Int) := by rw [IntKind.wrap_i64]; omega
              have i2 : IntKind.i64.wrap ((k : Int) + 1) = (k : Int) + 1 := by rw [IntKind.wrap_i64]; omega
              have i3 : IntKind.i64.wrap (512 * ((k : Int) + 1)) = 512 * ((k : Int) + 1) := by rw [IntKind.wrap_i64]; omega
              go_wp2_with fail
              rw [show 512 * (k + 1) - 512 * k = 512 by omega]
              refine (same_t S _ _ _ _ _ _ ((s'.dur.drop (k * 512)).take 512) ((s'.dur.drop (512 * k)).take 512) (by rw [Nat.mul_comm]) S.reads ((S.pull 2).part (512 * k) 512 (by omega)) S.cap (by omega) (by decide)).mono ?_
              replace S := S.drop
              rintro e w13 ⟨rfl, S'⟩
              clear S
              go_wp2_with (go_at_call 19; refine (num_any _ _).mono ?_; rintro e w' ⟨rfl, rfl⟩)
              refine ⟨⟨k + 1, by omega, by go_num, S'.drop.pull 1⟩, by simp [intOf]; omega⟩
            · have d1 : ¬ ((k : Int) < ((sz n : Nat) : Int)) := by omega
              have hB := S.bel
              clear S hlt
              go_wp2
              go_ret
              exact ⟨rfl, hB⟩
end Go.Proofs.Ythnbmfkmaijibaa.Help
