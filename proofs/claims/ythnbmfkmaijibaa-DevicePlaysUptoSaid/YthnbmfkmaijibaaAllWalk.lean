/- DeviceAll: the walk. -/
import Derived.Test.YthnbmfkmaijibaaAllPlain
namespace Go.Proofs.Ythnbmfkmaijibaa.Help
open Go.Proofs Go.RowKit Go.Proofs.YthnbmfkmaijibaaW.PrintWords Go.Proofs.YthnbmfkmaijibaaW.PrintLast Go.Proofs.YthnbmfkmaijibaaW.PrintMore Go.Proofs.Ythnbmfkmaijibaa.IMap Go.Proofs.Ythnbmfkmaijibaa.Dev Go.Proofs.Ythnbmfkmaijibaa.PDeviceReads
set_option linter.unusedVariables false
set_option linter.unusedSimpArgs false
attribute [local go_sem] max2_int min2_int max_two min_two max_three min_three max_four min_four
theorem At.new' {w0 w w' : World} {p : Nat} {s : DS} (d : Dev w' p s (fun k => w.heap.size ≤ k ∧ k < w'.heap.size)) (b : Below w.heap.size w w') (h0 : Below w0.heap.size w0 w) : At w0 w' p s (fun k => w.heap.size ≤ k ∧ k < w'.heap.size) :=
  ⟨d, fun _ h => Nat.le_trans h0.size h.1, below_call2 b h0⟩
theorem ws_in {w : World} {A : Option Addr} {l : List Wr} (h : Kd.C kW w A l.length l) (i : Nat) (hi : i < l.length) {W : World} (hb : Below w.heap.size w W) :
    ∃ ad, A = some ad ∧ W.cell? (ad.add (i * 3)) = some (.int .i64 (l.getD i (0, 0, false)).1) ∧ W.cell? ⟨(ad.add (i * 3)).block, (ad.add (i * 3)).off + 1, none⟩ = some (.int .u8 (l.getD i (0, 0, false)).2.1) ∧ W.cell? ⟨(ad.add (i * 3)).block, (ad.add (i * 3)).off + 2, none⟩ = some (.bool (l.getD i (0, 0, false)).2.2) := by
  obtain ⟨ad, e, h1, h2, h3⟩ := ws_at h i hi
  have eg : l.getD i (0, 0, false) = l[i] := by rw [List.getD_eq_getElem?_getD, List.getElem?_eq_getElem hi]; rfl
  have a1 : ∀ n m : Nat, 0 < m → ad.add (n + m) = ⟨(ad.add n).block, (ad.add n).off + m, none⟩ := by
    intro n m hm
    cases n with
    | zero => unfold Addr.add; rw [if_neg (by omega), if_pos rfl]; simp
    | succ n => unfold Addr.add; rw [if_neg (by omega), if_neg (by omega)]; simp; omega
  rw [a1 _ 1 (by omega)] at h2
  rw [a1 _ 2 (by omega)] at h3
  rw [eg]
  exact ⟨ad, e, pw_cell_below hb h1, pw_cell_below hb h2, pw_cell_below hb h3⟩
def lenOf : Value → Nat
  | .slice _ n _ => n
  | _ => 0
theorem info4 : (Try.prog.info? 4).map (fun i => (i.zero, i.size, i.bytes)) = some (some (.bool false), 1, 1) := by kernel_rfl
set_option maxHeartbeats 4000000 in
set_option maxRecDepth 100000 in
theorem all_any (n : Int) (l : List Wr) (A : Option Addr) (c : Nat) (extra : Int) (w : World) (hr : Kd.C kW w A l.length l) (hc : l.length ≤ c) (hl : l.length ≤ 1048576) :
    Calls Try.prog 4 #[.int .i64 n, .slice A l.length c, .int .i64 extra] w fun e w' => e = .returned (.bool true) ∧ Below w.heap.size w w' := by
  have HR := Aside0.mk hr
  clear hr
  obtain ⟨hN0, hN1, _⟩ := sz_in n
  go_enter Try.func4, Try.ntmps4
  go_wp2_with fail
  refine (known_any w).mono ?_
  rintro e w1 ⟨rfl, b1⟩
  go_wp2_with fail
  refine (size_any n w1).mono ?_
  rintro e w2 ⟨rfl, b2⟩
  have b2 := below_call2 b2 b1
  clear b1
  go_wp2_with fail
  refine (new_any w2 (sz n) hN0 (by omega)).mono ?_
  rintro e w3 ⟨p, rfl, d3, b3⟩
  have A3 := At.new' d3 b3 b2
  clear d3 b3 b2
  go_wp2_with fail
  refine (new_any w3 (sz n) hN0 (by omega)).mono ?_
  rintro e w4 ⟨q, rfl, d4, b4⟩
  have hsep : Aside0 (∀ k, (w3.heap.size ≤ k ∧ k < w4.heap.size) → ¬ (w2.heap.size ≤ k ∧ k < w3.heap.size)) := ⟨fun k h1 h2 => by omega⟩
  have A4 := Aside0.mk (A3.calm b4)
  have C4 := Aside0.mk (At.new' d4 b4 A3.bel)
  clear A3 d4 b4
  go_wp2
  go_loopw [10] (fun i wr => ∃ (k : Nat) (F G : Nat → Prop), k ≤ l.length ∧ k ≤ 300 ∧ i = .int .i64 (k : Int) ∧ Aside0 (At w wr p (st (sz n) l k) F) ∧ Aside0 (At w wr q (st (sz n) l k) G) ∧ Aside0 (∀ k, G k → ¬ F k)) (fun i _ => 300 - (intOf i).toNat)
  case atStart => exact ⟨0, _, _, Nat.zero_le _, Nat.zero_le _, rfl, A4, C4, hsep⟩
  case round =>
    clear A4 C4 hsep
    obtain ⟨k, F, G, hk, hk2, rfl, HD, HC, HS⟩ := hrel
    by_cases hlt : k < l.length ∧ k < 300
    · obtain ⟨g1, g2⟩ := hlt
      have d1 : decide ((k : Int) < (l.length : Int)) = true := decide_eq_true (by omega)
      have d2 : decide ((k : Int) < 300) = true := decide_eq_true (by omega)
      have g1' : (k : Int) < (l.length : Int) := by omega
      obtain ⟨ad, rfl, x0, x1, x2⟩ := ws_in HR.out k g1 HD.out.bel
      obtain ⟨x, hx⟩ : ∃ x, x = l.getD k (0, 0, false) := ⟨_, rfl⟩
      rw [← hx] at x0 x1 x2
      have HX := Aside0.mk hx
      clear hx x2
      have hst := st_is (sz n) hN0 (by omega) l k
      have HW := Aside0.mk (write_yes (s := st (sz n) l k) (d := r x.2.1) (by rw [hst.2.2.1]; exact plc_in (b := x.1) hN0 (by omega)) (er _) hst.1 hst.2.1)
      have HP : Aside0 ((st (sz n) l k).pend.length ≤ 1000000000000) := ⟨by rw [hst.2.2.2]; omega⟩
      clear hst
      go_wp2_with fail
      refine (place_any x.1 (sz n) hN0 wr).mono ?_
      rintro e v1 ⟨rfl, c1⟩
      have HD1 := Aside0.mk (HD.out.calm c1)
      have HC1 := Aside0.mk (HC.out.calm c1)
      replace x1 := pw_cell_below c1 x1
      clear HD HC c1 x0
      go_wp2_with fail
      refine (full_any x.2.1 v1).mono ?_
      rintro e v2 ⟨vv, rfl, hv, c2⟩
      obtain ⟨Av, cv, rfl⟩ := own_slice hv
      have na := na_new hv HD1.out.dev
      have HD2 := Aside0.mk (HD1.out.calm c2)
      have HC2 := Aside0.mk (HC1.out.calm c2)
      replace x1 := pw_cell_below c2 x1
      clear HD1 HC1 c2
      go_wp2_with fail
      have P := write_512 HD2.out.dev (plc x.1 (sz n)) Av cv (r x.2.1) (er _) (reads_own hv) (blk_own hv na) HP.out
      refine P.mono ?_
      clear P
      rintro e v3 ⟨rfl, d3, k3⟩
      have HD3 := Aside0.mk (HD2.out.grown d3 k3)
      have HC3 := Aside0.mk (HC2.out.other k3 HD2.out.low HS.out)
      have HS3 := Aside0.mk (far_grow (w' := v3) HC2.out HS.out)
      have x1 : v3.cell? ⟨(ad.add (k * 3)).block, (ad.add (k * 3)).off + 1, none⟩ = some (.int .u8 x.2.1) := by
        obtain ⟨ad', e', _, h1, _⟩ := ws_in HR.out k g1 HD3.out.bel
        cases e'
        rw [← HX.out] at h1
        exact h1
      clear HD2 HC2 d3 k3 hv na HS
      generalize grow F v2 v3 = F3 at HD3 HS3
      go_wp2_with fail
      refine (full_any x.2.1 v3).mono ?_
      rintro e v4 ⟨vv, rfl, hv, c4⟩
      obtain ⟨Aw, cw, rfl⟩ := own_slice hv
      have na := na_new hv HC3.out.dev
      have HD4 := Aside0.mk (HD3.out.calm c4)
      have HC4 := Aside0.mk (HC3.out.calm c4)
      clear HD3 HC3 c4 x1
      go_wp2_with fail
      have P := write_512 HC4.out.dev (plc x.1 (sz n)) Aw cw (r x.2.1) (er _) (reads_own hv) (blk_own hv na) HP.out
      refine P.mono ?_
      clear P
      rintro e v5 ⟨rfl, d5, k5⟩
      have HC5 : Aside0 (At w v5 q (st (sz n) l (k + 1)) (grow G v4 v5)) := ⟨by
        have := HC4.out.grown d5 k5
        unfold st
        rw [← HX.out]
        exact this⟩
      have HD5 : Aside0 (At w v5 p (st (sz n) l (k + 1)) F3) := ⟨by
        have := HD4.out.other k5 HC4.out.low (fun q h1 h2 => HS3.out q h2 h1)
        unfold st
        rw [← HX.out]
        exact this⟩
      have HS5 : Aside0 (∀ k, grow G v4 v5 k → ¬ F3 k) := ⟨fun q h1 h2 => far_grow (w' := v5) HD4.out (fun q h1 h2 => HS3.out q h2 h1) q h2 h1⟩
      clear HD4 HC4 d5 k5 hv na HS3
      go_wp2
      exact ⟨⟨k + 1, _, _, by omega, by omega, by go_num, HD5, HC5, HS5⟩, by simp [intOf]; omega⟩
    · have hk3 : Aside0 (k = min l.length 300) := ⟨by omega⟩
      have hcs : (k < l.length ∧ (k : Int) < (l.length : Int) ∧ ¬ (k : Int) < 300 ∧ decide ((k : Int) < (l.length : Int)) = true ∧ decide ((k : Int) < 300) = false) ∨ (¬ k < l.length ∧ ¬ (k : Int) < (l.length : Int) ∧ decide ((k : Int) < (l.length : Int)) = false) := by
        by_cases h : k < l.length
        · exact .inl ⟨h, by omega, by omega, decide_eq_true (by omega), decide_eq_false (by omega)⟩
        · exact .inr ⟨h, by omega, decide_eq_false (by omega)⟩
      have hst := st_is (sz n) hN0 (by omega) l k
      have HST := Aside0.mk hst
      have hlF := HD.out.dev.lt
      have HF : Aside0 (∀ q, wr.heap.size ≤ q → ¬ F q) := ⟨fun q h1 h2 => by have := HD.out.dev.lt q h2; omega⟩
      have hw1 : wrap64 ((l.length : Int) + Int.tmod extra 7) = (l.length : Int) + Int.tmod extra 7 := by
        have a1 : Int.tmod extra 7 < 7 := Int.tmod_lt_of_pos _ (by omega)
        have a2 : -7 < Int.tmod extra 7 := Int.lt_tmod_of_pos _ (by omega)
        unfold wrap64
        omega
      clear hst hlF
      clear hlt
      rcases hcs with ⟨q1, q2, q3, d1, d2⟩ | ⟨q1, q2, d1⟩ <;> (
        go_wp2
        obtain ⟨wl, rfl⟩ : ∃ x : World, x = wr := ⟨_, rfl⟩
        go_loopw [13, 12] (fun i v wq => ∃ j : Nat, j ≤ 400 ∧ i = .int .i64 (j : Int) ∧ Aside0 (wq.ownsRow wl.heap.size 4 1 v (List.replicate j true).length (encs Value.bool (List.replicate j true))) ∧ Aside0 (Below wl.heap.size wl wq)) (fun i _ _ => 400 - (intOf i).toNat)
        case atStart => exact ⟨0, Nat.zero_le _, rfl, ⟨own_nil _ _ _ _⟩, ⟨Below.refl _ _⟩⟩
        case round =>
          obtain ⟨j, hj, rfl, HO, HB⟩ := hrel
          by_cases hlt : (j : Int) < (l.length : Int) + Int.tmod extra 7 ∧ (j : Int) < 400
          · obtain ⟨h1, h2⟩ := hlt
            have e1 : decide ((j : Int) < (l.length : Int) + Int.tmod extra 7) = true := decide_eq_true h1
            have e2 : decide ((j : Int) < 400) = true := decide_eq_true h2
            have hbs : wl.heap.size ≤ wr.heap.size := HB.out.size
            go_wp2_with ((with_reducible refine gate_builtin (b := .append) (xs := #[.tmp 82, .tmp 83]) rfl ?_); at_builtin; go_must (refine print_append_of (w0 := wl) Value.bool wl.heap.size rfl (.tmp 82) (.tmp 83) 50 4 (.bool false) 1 rfl Try.underlying50 info4 rfl (by decide) u12 (List.replicate j true) true ?ahs ?ahx rfl ?aO ?aB ?aS ?aL ?_); (case ahs => rfl); (case ahx => rfl); (case aO => exact HO.out); (case aB => exact HB.out); (case aS => exact hbs); (case aL => rw [List.length_replicate]; omega); intro v9 w9 hown hB2 hg2 hat; have HO2 := Aside0.mk hown; have HB2 := Aside0.mk hB2; clear hown hB2 hg2 hat)
            refine ⟨⟨j + 1, by omega, by go_num, ⟨?_⟩, HB2⟩, by simp [intOf]; omega⟩
            rw [List.replicate_succ']
            exact HO2.out
          · have hcs2 : (decide ((j : Int) < (l.length : Int) + Int.tmod extra 7) = true ∧ ((j : Int) < (l.length : Int) + Int.tmod extra 7) ∧ ¬ (j : Int) < 400 ∧ decide ((j : Int) < 400) = false) ∨ (¬ ((j : Int) < (l.length : Int) + Int.tmod extra 7) ∧ decide ((j : Int) < (l.length : Int) + Int.tmod extra 7) = false) := by
              by_cases h : (j : Int) < (l.length : Int) + Int.tmod extra 7
              · exact .inl ⟨decide_eq_true h, h, by omega, decide_eq_false (by omega)⟩
              · exact .inr ⟨h, decide_eq_false h⟩
            clear hlt
            have HDw := Aside0.mk (HD.out.calm HB.out)
            have HCw := Aside0.mk (HC.out.calm HB.out)
            rcases hcs2 with ⟨e1, e2, e3, e4⟩ | ⟨e1, e2⟩ <;> (
              go_wp2_with fail
              refine (pending_any HDw.out.dev (by rw [HST.out.2.2.2]; omega)).mono ?_
              rintro e w5 ⟨vp, qs, rfl, hP, d5, c5⟩
              have hql : qs.length = k := by
                have := congrArg List.length hP.is
                rw [HST.out.2.2.2, List.length_map] at this
                exact this.symm
              have hrow := hP.row
              rw [hql] at hrow
              obtain ⟨Ap, cp, rfl⟩ := own_slice hrow
              have hlow : Aside0 (w.heap.size ≤ wl.heap.size) := ⟨HD.out.bel.size⟩
              have HG : Aside0 (∀ q, wl.heap.size ≤ q → ¬ G q) := ⟨fun q h1 h2 => by have := HC.out.dev.lt q h2; omega⟩
              have HO5 := Aside0.mk (own_chg HO.out (fun q hq => HF.out q (own_base HO.out q hq)) c5)
              have HC5 := Aside0.mk (HCw.out.other c5 HDw.out.low HS.out)
              have HD5 := Aside0.mk (HDw.out.step d5 c5)
              have hs5 : Aside0 (wl.heap.size ≤ w5.heap.size) := ⟨Nat.le_trans HB.out.size c5.size⟩
              clear hP hrow d5 c5 HO HB HDw HCw
              go_wp2
              go_loopw [12] (fun v wq => ∃ j : Nat, j ≤ 800 ∧ Aside0 (wq.ownsRow wl.heap.size 4 1 v (List.replicate j true).length (encs Value.bool (List.replicate j true))) ∧ Aside0 (At w wq p (st (sz n) l k) F) ∧ Aside0 (At w wq q (st (sz n) l k) G) ∧ Aside0 (wl.heap.size ≤ wq.heap.size)) (fun v _ => 800 - lenOf v)
              case atStart => exact ⟨j, by omega, HO5, HD5, HC5, hs5⟩
              case round =>
                clear HO5 HD5 HC5 hs5
                clear hj
                obtain ⟨j, hj, HO, HD, HC, hs⟩ := hrel
                have hO := HO.out
                rw [List.length_replicate] at hO
                obtain ⟨Ak, ck, rfl⟩ := own_slice hO
                clear hO
                by_cases hlt : j < k
                · have hlti : (j : Int) < (k : Int) := by omega
                  have e9 : decide ((j : Int) < (k : Int)) = true := decide_eq_true hlti
                  go_wp2_with ((with_reducible refine gate_builtin (b := .append) (xs := #[.tmp 92, .tmp 93]) rfl ?_); at_builtin; go_must (refine print_append_of (w0 := wr) Value.bool wl.heap.size rfl (.tmp 92) (.tmp 93) 50 4 (.bool false) 1 rfl Try.underlying50 info4 rfl (by decide) (.slice Ak j ck) (List.replicate j true) true ?ahs ?ahx rfl ?aO ?aB ?aS ?aL ?_); (case ahs => rfl); (case ahx => rfl); (case aO => exact HO.out); (case aB => exact Below.refl _ _); (case aS => exact hs.out); (case aL => rw [List.length_replicate]; omega); intro v9 w9 hown hB2 hg2 hat; have HO2 := Aside0.mk hown; have HG2 := Aside0.mk hg2; clear hown hB2 hg2 hat)
                  have cg : Chg (fun q => wl.heap.size ≤ q) wr w9 := Chg.grown HG2.out fun q e => own_base HO.out q e
                  have lw : ∀ q, wl.heap.size ≤ q → w.heap.size ≤ q := fun q h => Nat.le_trans hlow.out h
                  have hlen : lenOf v9 = j + 1 := by
                    obtain ⟨A9, c9, rfl⟩ := own_slice HO2.out
                    show (List.replicate j true ++ [true]).length = j + 1
                    simp
                  refine ⟨⟨j + 1, by omega, ⟨?_⟩, ⟨HD.out.other cg lw (fun q h1 h2 => HF.out q h2 h1)⟩, ⟨HC.out.other cg lw (fun q h1 h2 => HG.out q h2 h1)⟩, ⟨Nat.le_trans hs.out cg.size⟩⟩, ?_⟩
                  · rw [List.replicate_succ']
                    exact HO2.out
                  · have e8 : lenOf (Value.slice Ak j ck) = j := rfl
                    have e7 : (j : Nat) < 800 := by omega
                    rw [hlen, e8]
                    omega
                · have hnj : ¬ (j : Int) < (k : Int) := by omega
                  have e9 : decide ((j : Int) < (k : Int)) = false := decide_eq_false hnj
                  have hkj : k ≤ j := by omega
                  clear hlt
                  have hO := HO.out
                  have hrb : ReadsOf Value.bool false wr Ak (List.replicate j true).length (List.replicate j true) := own_reads_of' (c := ck) (e := 4) (base := wl.heap.size) (by rw [List.length_replicate] at hO ⊢; exact hO)
                  have hAk : ∀ a, Ak = some a → 0 < (List.replicate j true).length → ¬ F a.block := fun a e _ => HF.out a.block (own_base hO a.block (by rw [e]; rfl))
                  have HRB := Aside0.mk hrb
                  clear hO hrb
                  go_wp2_with fail
                  have P := crash_any HD.out.dev Ak ck (List.replicate j true) HRB.out hAk
                  rw [List.length_replicate] at P
                  refine P.mono ?_
                  clear P hAk HRB
                  rintro e w6 ⟨rfl, d6, c6⟩
                  have HC6 := Aside0.mk (HC.out.other c6 HD.out.low HS.out)
                  have HD6 := Aside0.mk (HD.out.step d6 c6)
                  clear HD HC d6 c6 HO
                  go_wp2_with fail
                  have hall := all_is HST.out.1 HST.out.2.1 j (by rw [HST.out.2.2.2]; exact hkj)
                  have P := flush_any HC6.out.dev
                  rw [hall.1] at P
                  refine P.mono ?_
                  clear P
                  rintro e w7 ⟨rfl, d7, c7⟩
                  have HS' : Aside0 (∀ q, F q → ¬ G q) := ⟨fun q h1 h2 => HS.out q h2 h1⟩
                  have HD7 := Aside0.mk (HD6.out.other c7 HC6.out.low HS'.out)
                  have HC7 := Aside0.mk (HC6.out.step d7 c7)
                  have HA := Aside0.mk hall.2
                  clear HD6 HC6 d7 c7 hall
                  go_wp2_with fail
                  refine (durable_any HD7.out.dev).mono ?_
                  rintro e w8 ⟨v8, rfl, ho8, d8, c8⟩
                  have HC8 := Aside0.mk (HC7.out.other c8 HD7.out.low HS.out)
                  have na8 := na_new ho8 HC7.out.dev
                  have HB8 := Aside0.mk (HD7.out.step d8 c8)
                  clear HD7 HC7 d8 c8
                  obtain ⟨A8, c8, rfl⟩ := own_slice ho8
                  go_wp2_with fail
                  refine (durable_any HC8.out.dev).mono ?_
                  rintro e w9 ⟨v9, rfl, ho9, d9, c9⟩
                  have ho8 := own_chg ho8 na8 c9
                  have HB9 := Aside0.mk (HC8.out.step d9 c9)
                  clear HC8 d9 c9
                  obtain ⟨A9, c9, rfl⟩ := own_slice ho9
                  go_wp2_with fail
                  have P := same_any w9 A8 A9 _ _ c8 c9 _ _ rfl rfl (reads_own ho8) (reads_own ho9) (own_cap ho8) (own_cap ho9) (by have h1 := HB8.out.dev.ok.len; have h2 := HB8.out.dev.ok.n1; omega)
                  rw [decide_eq_true HA.out] at P
                  refine P.mono ?_
                  clear P
                  rintro e w10 ⟨rfl, b10⟩
                  have B10 := Aside0.mk (below_call2 b10 HB9.out.bel)
                  clear HB9 HB8 ho8 ho9 na8 HA b10
                  have hmin : ((k : Int) == min (l.length : Int) 300) = true := beq_iff_eq.2 (by have := hk3.out; omega)
                  go_wp2_with (go_at_call 19; refine (num_any _ _).mono ?_; rintro e w' ⟨rfl, rfl⟩)
                  go_ret
                  exact ⟨by simp [hmin]; omega, B10.out⟩))
end Go.Proofs.Ythnbmfkmaijibaa.Help
