/- DeviceOwns: the walk. -/
import Derived.Test.YthnbmfkmaijibaaApart
import Derived.Test.YthnbmfkmaijibaaCrashPlain
import Derived.Deep.CutBlock
namespace Go.Proofs.Ythnbmfkmaijibaa.Help
open Go.Proofs Go.RowKit Go.Proofs.YthnbmfkmaijibaaW.PrintWords Go.Proofs.YthnbmfkmaijibaaW.PrintLast Go.Proofs.YthnbmfkmaijibaaW.PrintMore Go.Proofs.Ythnbmfkmaijibaa.IMap Go.Proofs.Ythnbmfkmaijibaa.Dev Go.Proofs.Ythnbmfkmaijibaa.PDeviceReads Go.Proofs.Ythnbmfkmaijibaa.Sep
set_option linter.unusedVariables false
set_option linter.unusedSimpArgs false
theorem roundIn (n : Int) (K : Nat) (h1 : 1 ≤ K) (h2 : K ≤ 100) : ∃ N : Nat, 1 ≤ N ∧ N ≤ K ∧ wrap64 (1 + Int.tmod (wrap64 (Int.tmod n K + K)) K) = (N : Int) := by
  have a1 : Int.tmod n K < K := Int.tmod_lt_of_pos _ (by omega)
  have a2 : -(K : Int) < Int.tmod n K := Int.lt_tmod_of_pos _ (by omega)
  have w : wrap64 (Int.tmod n K + K) = Int.tmod n K + K := by unfold wrap64; omega
  rw [w, Int.tmod_eq_emod_of_nonneg (by omega)]
  have a3 := Int.emod_nonneg (Int.tmod n K + K) (show (K : Int) ≠ 0 by omega)
  have a4 := Int.emod_lt_of_pos (Int.tmod n K + K) (show (0 : Int) < K by omega)
  refine ⟨(1 + (Int.tmod n K + K) % K).toNat, by omega, by omega, ?_⟩
  unfold wrap64
  omega
theorem hoard0 {w0 w : World} {R : List Asn} (S : Sep w0 w R) : Sep w0 (w.alloc (.cells #[.slice none 0 0, .slice none 0 0] 55)) (HoardA w.heap.size 0 :: R) := by
  have S1 := (((S.alloc #[.slice none 0 0, .slice none 0 0] 55).nils 29 1).nils 29 1).p2
  refine Sep.hclose (L := ⟨none, none, 0, 0⟩) (P := []) rfl (fun p hp => by cases hp) ?_
  rw [List.map_nil, List.append_nil]
  exact S1
theorem psA0 {w0 w : World} {R : List Asn} (S : Sep w0 w R) : Sep w0 w (PsA none 0 0 :: R) :=
  Sep.closeE (P := fun Q : List Q3 => Q.length = 0 ∧ ∀ q ∈ Q, q.2.1 ≤ 60) (f := fun Q : List Q3 => All (Own 31 1 (.slice none 0 0) 0 (Q.map fun q : Q3 => q.1) :: Q.map qv)) ([] : List Q3) ⟨rfl, fun q hq => by cases hq⟩ (Sep.closeA (l := [Own 31 1 (.slice none 0 0) 0 []]) (S.nils 31 1))
theorem alloc_size1 (w : World) (o : Obj) : (w.alloc o).heap.size = w.heap.size + 1 := by simp
set_option maxHeartbeats 4000000 in
set_option maxRecDepth 100000 in
theorem owns_any (n at0 : Int) (l : List Wr) (A : Option Addr) (c : Nat) (w : World) (hr : Kd.C kW w A l.length l) (hc : l.length ≤ c) (hl : l.length ≤ 1048576) :
    Calls Try.prog 5 #[.int .i64 n, .slice A l.length c, .int .i64 at0] w fun e w' => e = .returned (.bool true) ∧ Below w.heap.size w w' := by
  have HR := Aside0.mk hr
  clear hr
  obtain ⟨N, hN0, hN1, hN⟩ := roundIn n 8 (by omega) (by omega)
  obtain ⟨T, hT0, hT1, hT⟩ := roundIn at0 7 (by omega) (by omega)
  rw [show ((8 : Nat) : Int) = 8 from rfl] at hN
  rw [show ((7 : Nat) : Int) = 7 from rfl] at hT
  have hmk : ∀ W : World, (Instr.makeSlice 29 (.int .i64 512) (.int .i64 512)).run Try.prog W = .ok (.slice (some ⟨W.heap.size, 0, none⟩) 512 512) (W.alloc (.cells (madeCells #[.int .u8 0] 512) 5)) := print_make (P := Try.prog) 29 5 .u8 1 Try.underlying29 Dev.info5 (by decide) 512 (by omega)
  have HT := Aside0.mk hT
  clear hT
  go_enter Try.func5, Try.ntmps5
  go_wp2_with fail
  refine (known_s (Sep.start w)).mono ?_
  rintro e w1 ⟨rfl, S⟩
  go_upto_region 3 with fail
  rw [hN]
  clear hN
  go_wp2_with fail
  refine (new_s S N hN0 (by omega)).mono ?_
  clear S
  rintro e w2 ⟨p, rfl, S⟩
  have HL0 := Aside0.mk (run_live N hN0 (by omega) l 0)
  go_upto_region 10 with fail
  rw [HT.out]
  have S1 := hoard0 S
  have S2 := psA0 (S1.row_new (below_alloc (Below.refl _ _) _) (own_made _ _ 5 .u8 512 (Nat.le_refl _) (by omega)))
  rw [alloc_size1] at S2
  obtain ⟨h, hh⟩ : ∃ h, h = w2.heap.size := ⟨_, rfl⟩
  obtain ⟨gb, hgb⟩ : ∃ gb, gb = w2.heap.size + 1 := ⟨_, rfl⟩
  rw [← hgb, ← hh] at S2
  rw [← hgb, ← hh]
  obtain ⟨w3, hw3⟩ : ∃ w3, w3 = (w2.alloc (.cells #[.slice none 0 0, .slice none 0 0] 55)).alloc (.cells (madeCells #[.int .u8 0] 512) 5) := ⟨_, rfl⟩
  rw [← hw3] at S2 ⊢
  clear S S1 hh hgb hw3 hmk
  go_upto_block 0 with fail
  go_cut [10, 12, 13, 14, 15, 16] (fun ps _ _ _ _ _ wx => ∃ (k m : Nat) (s : DS) (A' : Option Addr) (c' : Nat), ps = .slice A' m c' ∧ m ≤ 10 ∧ k ≤ 60 ∧ Aside0 (Live N s 60) ∧ Sep w wx [DevA p s, HoardA h k, PsA A' m c'])
  case first =>
    go_wp2_with fail
    go_loopw [10, 12, 13] (fun ps lk i wr => ∃ (i0 q k m : Nat) (s : DS) (lb : List Int) (A' : Option Addr) (c' : Nat), i0 ≤ l.length ∧ i0 ≤ 60 ∧ i = .int .i64 (i0 : Int) ∧ lk = .int .i64 (q : Int) ∧ q ≤ 5 ∧ m ≤ 2 * q ∧ k ≤ 12 * q ∧ ps = .slice A' m c' ∧ Aside0 (Live N s i0) ∧ Sep w wr [DevA p s, Byt (some ⟨gb, 0, none⟩) 512 512 lb, HoardA h k, PsA A' m c']) (fun _ _ i _ => 60 - (intOf i).toNat)
    case atStart => exact ⟨0, 0, 0, 0, _, _, none, 0, Nat.zero_le _, Nat.zero_le _, rfl, rfl, Nat.zero_le _, Nat.zero_le _, Nat.zero_le _, rfl, HL0, S2.p2.p2.p3⟩
    case round =>
      clear S2 HL0
      obtain ⟨i0, q, k, m, s, lb, A', c', hi, hi2, rfl, rfl, hq, hm, hk, rfl, HV, S⟩ := hrel
      by_cases hlt : i0 < l.length ∧ i0 < 60
      · obtain ⟨g1, g2⟩ := hlt
        have d1 : decide ((i0 : Int) < (l.length : Int)) = true := decide_eq_true (by omega)
        have d2 : decide ((i0 : Int) < 60) = true := decide_eq_true (by omega)
        have g1' : (i0 : Int) < (l.length : Int) := by omega
        obtain ⟨ad, rfl, x0, x1, x2⟩ := ws_in HR.out i0 g1 S.bel
        obtain ⟨x, hx⟩ : ∃ x, x = l.getD i0 (0, 0, false) := ⟨_, rfl⟩
        rw [← hx] at x0 x1 x2
        have HX := Aside0.mk hx
        clear hx
        go_wp2_with fail
        refine (writes_s S HV.out hN0 hN1 (by omega) x.1 x.2.1 x.2.2).mono ?_
        clear S x0 x1 x2 HV
        rintro e w4 ⟨s', lb', rfl, hv2, S⟩
        have HV2 := Aside0.mk hv2
        clear hv2
        have tz : ((T : Int)) ≠ 0 := by omega
        have HS := Aside0.mk S
        by_cases hz : Int.tmod (i0 : Int) (T : Int) = 0
        · by_cases hq5 : q < 5
          · have hq5' : (q : Int) < 5 := by omega
            obtain ⟨ad', e', y0, y1, y2⟩ := ws_in HR.out i0 g1 S.bel
            cases e'
            rw [← HX.out] at y0
            clear y1 y2 S
            go_wp2_with fail
            refine (place_any x.1 N hN0 _).mono ?_
            rintro e w5 ⟨rfl, b5⟩
            have S5 := HS.out.calm b5
            obtain ⟨b, hb, hpl⟩ : ∃ b : Nat, b < N ∧ plc x.1 N = (b : Int) := by
              obtain ⟨p0, p1⟩ := plc_in (b := x.1) hN0 (show N ≤ 4096 by omega)
              exact ⟨(plc x.1 N).toNat, by omega, by omega⟩
            rw [hpl]
            clear b5 y0 HS hpl
            go_wp2_with fail
            refine (looks_s S5.p1.p3.p2.p3 HV2.out hN1 (by omega) (by omega) (by omega) b hb).mono ?_
            clear S5
            rintro e w6 ⟨A2, c2, k2, hk2, rfl, S⟩
            have HS := Aside0.mk S.p2.p1.p3.p3
            clear S
            go_wp2
            exact ⟨⟨i0 + 1, q + 1, k2, m + 2, s', lb', A2, c2, by omega, by omega, by go_num, by go_num, by omega, by omega, by omega, rfl, HV2, HS.out⟩, by simp [intOf]; omega⟩
          · have hq5' : ¬ (q : Int) < 5 := by omega
            clear S
            go_wp2
            exact ⟨⟨i0 + 1, q, k, m, s', lb', A', c', by omega, by omega, by go_num, rfl, hq, hm, hk, rfl, HV2, HS.out⟩, by simp [intOf]; omega⟩
        · clear S
          go_wp2
          exact ⟨⟨i0 + 1, q, k, m, s', lb', A', c', by omega, by omega, by go_num, rfl, hq, hm, hk, rfl, HV2, HS.out⟩, by simp [intOf]; omega⟩
      · have hcs : (decide ((i0 : Int) < (l.length : Int)) = true ∧ ((i0 : Int) < (l.length : Int)) ∧ ¬ (i0 : Int) < 60 ∧ decide ((i0 : Int) < 60) = false) ∨ (¬ ((i0 : Int) < (l.length : Int)) ∧ decide ((i0 : Int) < (l.length : Int)) = false) := by
          by_cases h : (i0 : Int) < (l.length : Int)
          · exact .inl ⟨decide_eq_true h, h, by omega, decide_eq_false (by omega)⟩
          · exact .inr ⟨h, decide_eq_false h⟩
        have hS := Aside0.mk S.d1
        clear S hlt
        rcases hcs with ⟨e1, e2, e3, e4⟩ | ⟨e1, e2⟩ <;> (
          go_wp2_with fail
          go_meet
          exact ⟨k, m, s, A', c', rfl, by omega, by omega, ⟨⟨HV.out.ok, HV.out.on, HV.out.fuse, HV.out.n, by have := HV.out.few; omega⟩⟩, hS.out⟩)
  case rest =>
    clear S2 HL0
    obtain ⟨k, m, s, A', c', rfl, hm, hk, HV, S⟩ := hcut
    have hp60 := HV.out.few
    have HP := Aside0.mk hp60
    clear hp60
    go_wp2_with fail
    refine (durable_s S).mono ?_
    clear S
    rintro e w4 ⟨Ad, cd, rfl, S⟩
    go_wp2_with fail
    refine (pending_s S.p1 (by have := HP.out; omega)).mono ?_
    clear S
    rintro e w5 ⟨Ap, cp, qs, rfl, S⟩
    go_wp2_with fail
    refine (whole_s S.p3 (by omega)).mono ?_
    clear S
    rintro e w6 ⟨rfl, S⟩
    go_wp2_with fail
    refine (apart_s S (by omega)).mono ?_
    clear S
    rintro e w7 ⟨rfl, S⟩
    go_wp2_with fail
    refine (apartPending_s S.p3 (by omega)).mono ?_
    clear S
    rintro e w8 ⟨rfl, S⟩
    go_wp2_with fail
    refine (durable_s S.p1).mono ?_
    clear S
    rintro e w9 ⟨Ae, ce, rfl, S⟩
    have hdl : s.dur.length ≤ 140737488355328 := by
      have h1 := HV.out.ok.len
      have h2 := HV.out.n
      unfold DS.n at h2
      omega
    go_wp2_with fail
    refine (same_yes _ Ae Ad s.dur.length ce cd s.dur rfl S.reads S.p3.reads S.cap S.p3.cap hdl).mono ?_
    clear hdl
    rintro e w10 ⟨rfl, b10⟩
    replace S := S.drop.calm b10
    clear b10
    go_wp2_with fail
    refine (pending_s S (by have := HP.out; omega)).mono ?_
    clear S
    rintro e w11 ⟨Aq, cq, qs2, rfl, S⟩
    have hD : ∀ y ∈ s.pend, y.2.length ≤ 140737488355328 := fun y hy => by
      have := (HV.out.ok.pend y hy).2.2
      omega
    have HDD := Aside0.mk hD
    clear hD
    go_wp2_with fail
    refine (samep_t S.d1 rfl rfl rfl (by have := HP.out; omega) HDD.out).mono ?_
    clear S
    rintro e w12 ⟨rfl, S⟩
    have hB := S.bel
    clear S
    go_wp2
    go_ret
    exact ⟨rfl, hB⟩
end Go.Proofs.Ythnbmfkmaijibaa.Help
