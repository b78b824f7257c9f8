/- DeviceReads: the walk. -/
import Derived.Test.YthnbmfkmaijibaaReadHelp
import Derived.Test.YthnbmfkmaijibaaAllWalk
import Derived.Deep.CutBlock
namespace Go.Proofs.Ythnbmfkmaijibaa.Help
open Go.Proofs Go.RowKit Go.Proofs.YthnbmfkmaijibaaW.PrintWords Go.Proofs.YthnbmfkmaijibaaW.PrintLast Go.Proofs.YthnbmfkmaijibaaW.PrintMore Go.Proofs.Ythnbmfkmaijibaa.IMap Go.Proofs.Ythnbmfkmaijibaa.Dev Go.Proofs.Ythnbmfkmaijibaa.PDeviceReads Go.Proofs.Ythnbmfkmaijibaa.Sep
set_option linter.unusedVariables false
set_option linter.unusedSimpArgs false
/-- The writes that wait, each in memory of its own. -/
def wdat (x : Int × List Int × Value) : Asn := Own 5 1 x.2.2 512 (nums .u8 x.2.1)
abbrev pairs (qs : List (Int × List Int × Value)) : List (Int × List Int) := qs.map fun x => (x.1, x.2.1)
theorem waits_C {w0 w : World} {R : List Asn} {A : Option Addr} {n c : Nat} {qs : List (Int × List Int × Value)} (S : Sep w0 w (All (Own 41 2 (.slice A n c) n (pcells qs) :: qs.map wdat) :: R)) (hq : qs.length = n) : Kd.C k41 w A n ((pairs qs).map sp) ∧ n ≤ c := by
  have S1 := S.spread
  have hrow := S1.row
  have hcap : n ≤ c ∧ n ≤ 9223372036854775807 := by
    rcases hrow.2 with ⟨h1, h2⟩ | ⟨g, cap, cur, h1, _, _, h2, h3, _⟩
    · cases h1; omega
    · cases h1
      unfold maxLen at h3
      omega
  refine ⟨⟨by rw [List.length_map, List.length_map]; exact hq, hcap.2, fun hn => ?_⟩, hcap.1⟩
  obtain ⟨g, rfl⟩ := S1.addr hn
  refine ⟨_, rfl, fun j p hp => ?_⟩
  have hj : j < qs.length := by
    have := (List.getElem?_eq_some_iff.1 hp).1
    rw [List.length_map, List.length_map] at this
    omega
  have hx : qs[j]? = some qs[j] := List.getElem?_eq_getElem hj
  have c0 := hrow.cells (g := g) rfl _ _ (pcells_at hx).1
  have c1 := hrow.cells (g := g) rfl _ _ (pcells_at hx).2
  rw [add_plain] at c0 c1
  have hp' : p = sp (qs[j].1, qs[j].2.1) := by
    rw [List.getElem?_map, List.getElem?_map, hx] at hp
    exact (Option.some.inj hp).symm
  subst hp'
  have S2 : Sep w0 w (Own 5 1 qs[j].2.2 512 (nums .u8 qs[j].2.1) :: _) := S1.focus (f := wdat) j hj
  obtain ⟨A1, c2, e1⟩ := own_slice S2.row
  rw [e1] at c1 S2
  have hl := S2.len
  have hcp := S2.cap
  have hrd := S2.reads
  rw [← hl] at c1 hcp hrd
  refine ⟨[.int .i64 qs[j].1, .slice A1 qs[j].2.1.length c2], rfl, k41_mk w (sp (qs[j].1, qs[j].2.1)) hcp (Kd.C_of_reads (enc := Value.int .u8) (d := (0 : Int)) (h1 := fun _ => rfl) hrd), fun i u hu => ?_⟩
  rw [add_plain]
  match i, hu with
  | 0, hu => cases hu; exact c0
  | 1, hu => cases hu; exact c1
  | i + 2, hu => simp at hu
theorem samep_w {w0 w : World} {R : List Asn} {A B : Option Addr} {n m c1 c2 : Nat} {l : List (Int × List Int)} {qs qs' : List (Int × List Int × Value)} (S : Sep w0 w (PendA (.slice A n c1) l qs :: All (Own 41 2 (.slice B m c2) m (pcells qs') :: qs'.map wdat) :: R)) (hl : l.length = n) (hl' : qs'.length = m) (e : l = pairs qs') (hn : n ≤ 140737488355328) (hD : ∀ x ∈ l, x.2.length ≤ 140737488355328) :
    Calls Try.prog 26 #[.slice A n c1, .slice B m c2] w fun e w' => e = .returned (.bool true) ∧ Sep w0 w' R := by
  obtain ⟨h1, h2, _⟩ := Sep.pend_C S hl
  obtain ⟨h3, h4⟩ := waits_C S.swap hl'
  refine (samep_any w A B n m c1 c2 l (pairs qs') h1 h3 h2 h4 hn hD).mono ?_
  rintro _ w' ⟨h, b⟩
  rw [decide_eq_true e] at h
  exact ⟨h, (S.drop.drop).calm b⟩
set_option maxHeartbeats 4000000 in
set_option maxRecDepth 100000 in
theorem reads_any (n : Int) (l : List Wr) (A : Option Addr) (c : Nat) (w : World) (hr : Kd.C kW w A l.length l) (hc : l.length ≤ c) (hl : l.length ≤ 1048576) :
    Calls Try.prog 3 #[.int .i64 n, .slice A l.length c] w fun e w' => e = .returned (.bool true) ∧ Below w.heap.size w w' := by
  have HR := Aside0.mk hr
  clear hr
  have hN0 := (sz_in n).1
  have hN1 := (sz_in n).2.1
  go_enter Try.func3, Try.ntmps3
  go_wp2_with fail
  refine (known_s (Sep.start w)).mono ?_
  rintro e w1 ⟨rfl, S⟩
  go_wp2_with fail
  refine (size_any n w1).mono ?_
  rintro e w2 ⟨rfl, b2⟩
  replace S := S.calm b2
  clear b2
  go_wp2_with fail
  refine (new_s S (sz n) hN0 (by omega)).mono ?_
  clear S
  rintro e w3 ⟨p, rfl, S⟩
  go_wp2_with fail
  refine (zeros_s S (sz n) (by omega)).mono ?_
  clear S
  rintro e w4 ⟨An, cn, L, rfl, hL, hZ, S⟩
  have HL := Aside0.mk hL
  have HZ := Aside0.mk (hZ.trans (nows_made (sz n)).symm)
  have hfl : (blks L).flatten = List.replicate (512 * sz n) 0 := by rw [hZ, flat_rep]
  have hflen : (blks L).flatten.length = 512 * sz n := by rw [hfl, List.length_replicate]
  clear hL hZ
  go_wp2_with fail
  have P := flat_s S HL.out (by omega) (512 * sz n) hflen (by omega)
  rw [hfl] at P
  refine P.mono ?_
  clear P S hfl hflen
  rintro e w5 ⟨As, cs, rfl, S⟩
  obtain ⟨g, rfl⟩ := S.p1.spread.addr (by omega)
  go_upto_block 0 with fail
  go_cut [8, 9, 10, 11, 12, 13, 14, 15, 16] (fun sf wt _ _ _ _ _ _ _ wx => ∃ (m : Nat) (s : DS) (L : List Blk5) (qs : List (Int × List Int × Value)) (As Aq : Option Addr) (cs cq : Nat), sf = .slice As (512 * sz n) cs ∧ wt = .slice Aq m cq ∧ Aside0 (qs.length = m) ∧ Aside0 (Live (sz n) s 400) ∧ Aside0 (L.length = sz n) ∧ Aside0 (blks L = nows (sz n) s) ∧ Aside0 (pairs qs = s.pend) ∧ Sep w wx [Byt As (512 * sz n) cs s.dur, All (Own 29 1 (.slice (some ⟨g, 0, none⟩) (sz n) cn) (sz n) (vals L) :: L.map dat), DevA p s, All (Own 41 2 (.slice Aq m cq) m (pcells qs) :: qs.map wdat)])
  case first =>
    go_wp2_with fail
    go_loopw [8, 9, 10] (fun sf wt i wr => ∃ (k m : Nat) (s : DS) (L : List Blk5) (qs : List (Int × List Int × Value)) (As Aq : Option Addr) (cs cq : Nat), k ≤ l.length ∧ k ≤ 400 ∧ i = .int .i64 (k : Int) ∧ sf = .slice As (512 * sz n) cs ∧ wt = .slice Aq m cq ∧ Aside0 (qs.length = m) ∧ Aside0 (Live (sz n) s k) ∧ Aside0 (L.length = sz n) ∧ Aside0 (blks L = nows (sz n) s) ∧ Aside0 (pairs qs = s.pend) ∧ Sep w wr [Byt As (512 * sz n) cs s.dur, All (Own 29 1 (.slice (some ⟨g, 0, none⟩) (sz n) cn) (sz n) (vals L) :: L.map dat), DevA p s, All (Own 41 2 (.slice Aq m cq) m (pcells qs) :: qs.map wdat)]) (fun _ _ i _ => 400 - (intOf i).toNat)
    case atStart => exact ⟨0, 0, DS.made (List.replicate (512 * sz n) 0), L, [], As, none, cs, 0, Nat.zero_le _, Nat.zero_le _, rfl, rfl, rfl, ⟨rfl⟩, ⟨run_live (sz n) hN0 (by omega) l 0⟩, HL, HZ, ⟨rfl⟩, ((S.nils 41 2).closeA (l := [_])).p3 |>.p3 |>.p3⟩
    case round =>
      clear S HL HZ
      obtain ⟨k, m, s, L, qs, As, Aq, cs, cq, hk, hk2, rfl, rfl, rfl, HQL, HV, HL, HB, HQ, S⟩ := hrel
      by_cases hlt : k < l.length ∧ k < 400
      · obtain ⟨g1, g2⟩ := hlt
        have d1 : decide ((k : Int) < (l.length : Int)) = true := decide_eq_true (by omega)
        have d2 : decide ((k : Int) < 400) = true := decide_eq_true (by omega)
        have g1' : (k : Int) < (l.length : Int) := by omega
        obtain ⟨ad, rfl, x0, x1, x2⟩ := ws_in HR.out k g1 S.bel
        obtain ⟨x, hx⟩ : ∃ x, x = l.getD k (0, 0, false) := ⟨_, rfl⟩
        rw [← hx] at x0 x1 x2
        have Y : Aside0 (∀ W : World, Below w.heap.size w W → W.cell? ⟨(ad.add (k * 3)).block, (ad.add (k * 3)).off + 1, none⟩ = some (.int .u8 x.2.1) ∧ W.cell? ⟨(ad.add (k * 3)).block, (ad.add (k * 3)).off + 2, none⟩ = some (.bool x.2.2)) := ⟨fun W hW => by obtain ⟨ad', e', _, z0, z1⟩ := ws_in HR.out k g1 hW; cases e'; rw [← hx] at z0 z1; exact ⟨z0, z1⟩⟩
        clear hx x1 x2
        obtain ⟨b, hb, hbN⟩ : ∃ b : Nat, plc x.1 (sz n) = (b : Int) ∧ b < sz n := by
          have := plc_in (b := x.1) hN0 (by omega)
          exact ⟨(plc x.1 (sz n)).toNat, by omega, by omega⟩
        have P := place_any x.1 (sz n) hN0
        rw [hb] at P
        have HP := Aside0.mk P
        have HBB := Aside0.mk hb
        clear P hb
        have hbi : (b : Int) < ((sz n : Nat) : Int) := by omega
        go_wp2_with fail
        refine (HP.out _).mono ?_
        rintro e v1 ⟨rfl, b1⟩
        replace S := S.calm b1
        clear b1 x0
        obtain ⟨x1, x2⟩ := Y.out v1 S.bel
        cases hbb : x.2.2 with
        | true =>
          rw [hbb] at x2
          clear hbb x1
          have hfl := HV.out.flush
          have hnf := nows_flush HV.out
          go_wp2_with fail
          have P := flush_s S.p2
          rw [hfl.1] at P
          refine P.mono ?_
          clear P S x2
          rintro e v2 ⟨rfl, S⟩
          have HV2 : Aside0 (Live (sz n) (s.settle fun _ => true) (k + 1)) := ⟨⟨hfl.2.ok, hfl.2.on, hfl.2.fuse, hfl.2.n, Nat.le_succ_of_le hfl.2.few⟩⟩
          have HL2 := HL
          have HB2 : Aside0 (blks L = nows (sz n) (s.settle fun _ => true)) := ⟨HB.out.trans hnf.1⟩
          have hfd : (blks L).flatten = (s.settle fun _ => true).dur := by rw [HB.out]; exact hnf.2
          have hfdl : (blks L).flatten.length = 512 * sz n := by rw [hfd]; exact hfl.2.fit.dur
          have HFD := Aside0.mk (And.intro hfd hfdl)
          clear hfl hnf hfd hfdl
          obtain ⟨s2, hs2⟩ : ∃ s2, s2 = s.settle fun _ => true := ⟨_, rfl⟩
          have HQ2 : Aside0 (pairs [] = s2.pend) := ⟨by rw [hs2]; rfl⟩
          rw [← hs2] at S HV2 HB2 HFD
          clear hs2
          go_wp2_with (go_at_call 19; refine (num_any _ _).mono ?_; rintro e w' ⟨rfl, rfl⟩)
          have P := flat_s S.p2 HL.out (by omega) (512 * sz n) HFD.out.2 (by omega)
          rw [HFD.out.1] at P
          refine P.mono ?_
          clear P S
          rintro e v3 ⟨As2, cs2, rfl, S⟩
          replace S := (S.p3.drop.p3).drop
          replace S := ((((S.nils 41 2).closeA (l := [_])).p3).p3).p3
          have HQL2 : Aside0 (([] : List (Int × List Int × Value)).length = 0) := ⟨rfl⟩
          have S2 := S.p1.spread
          have hbl : b < L.length := by rw [HL.out]; exact hbN
          have hv := S2.val b (v := L[b].1) (by rw [List.getElem?_map, List.getElem?_eq_getElem hbl]; rfl)
          obtain ⟨A', c', e', h1, h2, h3⟩ := Sep.dat_C (S2.focus (f := dat) b hbl)
          have hlast : L[b].2 = lastOf s2.pend s2.dur b := by
            have h4 : (blks L)[b]? = some L[b].2 := by rw [List.getElem?_map, List.getElem?_eq_getElem hbl]; rfl
            rw [HB2.out, nows_at _ _ _ hbN] at h4
            exact (Option.some.inj h4).symm
          have hrd := read_is HV2.out.fit HV2.out.on b hbN
          rw [← hlast] at hrd
          have HE := Aside0.mk e'
          have HN2 := Aside0.mk h2
          clear S2 hv e' h1 h2 h3 hlast
          go_wp2_with fail
          have P := read_s S.p2 (b : Int)
          rw [hrd] at P
          simp only [HN2.out] at P
          refine P.mono ?_
          clear P S hrd
          rintro e v8 ⟨Ar, cr, rfl, S⟩
          have S2 := S.p3.spread
          have hv := S2.val b (v := L[b].1) (by rw [List.getElem?_map, List.getElem?_eq_getElem hbl]; rfl)
          rw [HE.out] at hv
          obtain ⟨A'', c'', e'', h1, _, h3⟩ := Sep.dat_C (S2.focus (f := dat) b hbl)
          rw [HE.out] at e''
          cases e''
          have HM := Aside0.mk (And.intro h1 h3)
          clear S2 h1 h3
          go_wp2_with fail
          refine (same_t S _ _ _ _ _ _ L[b].2 L[b].2 rfl S.reads HM.out.2 S.cap HM.out.1 (by decide)).mono ?_
          replace S := (S.drop.p2).p1
          rintro e v9 ⟨rfl, S'⟩
          clear S hv HM
          go_wp2_with (go_at_call 19; refine (num_any _ _).mono ?_; rintro e w' ⟨rfl, rfl⟩)
          exact ⟨⟨k + 1, 0, s2, L, [], As2, none, cs2, 0, by omega, by omega, by go_num, rfl, rfl, HQL2, HV2, HL, HB2, HQ2, (S'.drop.p2).p2⟩, by simp [intOf]; omega⟩
        | false =>
          rw [hbb] at x2
          clear hbb
          have hw := HV.out.write hN0 (by omega) x.1 x.2.1
          rw [HBB.out] at hw
          have hnw := nows_write (s := s) (r x.2.1) hbN
          go_wp2_with fail
          refine (full_s S x.2.1).mono ?_
          clear S
          rintro e v2 ⟨Af, cf, rfl, S⟩
          go_wp2_with fail
          have P := write_s S.p3 (b : Int) (HV.out.fit.few_ (by omega))
          rw [hw.1] at P
          refine P.mono ?_
          clear P S x1 x2
          rintro e v3 ⟨rfl, S⟩
          replace S := S.drop2
          have HV2 := Aside0.mk hw.2
          have HB0 : Aside0 ((blks L).set b (r x.2.1) = nows (sz n) { s with pend := s.pend ++ [((b : Int), r x.2.1)] }) := ⟨by rw [HB.out, hnw]⟩
          have HQ2 : Aside0 (s.pend ++ [((b : Int), r x.2.1)] = ({ s with pend := s.pend ++ [((b : Int), r x.2.1)] } : DS).pend) := ⟨rfl⟩
          clear hw hnw
          have HD2 : Aside0 (({ s with pend := s.pend ++ [((b : Int), r x.2.1)] } : DS).dur = s.dur) := ⟨rfl⟩
          obtain ⟨s2, hs2⟩ : ∃ s2 : DS, s2 = { s with pend := s.pend ++ [((b : Int), r x.2.1)] } := ⟨_, rfl⟩
          rw [← hs2] at S HV2 HB0 HQ2 HD2
          clear hs2
          obtain ⟨x1, x2⟩ := Y.out v3 S.bel
          go_wp2_with (go_at_call 19; refine (num_any _ _).mono ?_; rintro e w' ⟨rfl, rfl⟩)
          refine (full_s S x.2.1).mono ?_
          clear S x1 x2
          rintro e v4 ⟨Ag, cg, rfl, S⟩
          have hbl0 : b < L.length := by rw [HL.out]; exact hbN
          have S2 := S.p3.spread
          have hv := S2.val b (v := L[b].1) (by rw [List.getElem?_map, List.getElem?_eq_getElem hbl0]; rfl)
          have hfr := S2.row_free (by omega) b
          have S3 := S2.put b (.slice Ag 512 cg)
          have S4 : Sep w (v4.setCell ⟨g, b, none⟩ (.slice Ag 512 cg)) (All (Own 29 1 (.slice (some ⟨g, 0, none⟩) (sz n) cn) (sz n) (vals (L.set b (.slice Ag 512 cg, r x.2.1))) :: (L.set b (.slice Ag 512 cg, r x.2.1)).map dat) :: [DevA p s2, Byt As (512 * sz n) cs s.dur, All (Own 41 2 (.slice Aq m cq) m (pcells qs) :: qs.map wdat)]) := by
            have S5 := Sep.focus (f := dat) (R := [Own 29 1 (.slice (some ⟨g, 0, none⟩) (sz n) cn) (sz n) ((vals L).set b (.slice Ag 512 cg)), Byt Ag 512 cg (r x.2.1), DevA p s2, Byt As (512 * sz n) cs s.dur, All (Own 41 2 (.slice Aq m cq) m (pcells qs) :: qs.map wdat)]) S3 b hbl0
            have S6 := S5.drop.swap
            have S7 := Sep.unfocus (f := dat) (R := [Own 29 1 (.slice (some ⟨g, 0, none⟩) (sz n) cn) (sz n) ((vals L).set b (.slice Ag 512 cg)), DevA p s2, Byt As (512 * sz n) cs s.dur, All (Own 41 2 (.slice Aq m cq) m (pcells qs) :: qs.map wdat)]) (y := (.slice Ag 512 cg, r x.2.1)) (i := b) S6 hbl0
            rw [show vals (L.set b (.slice Ag 512 cg, r x.2.1)) = (vals L).set b (.slice Ag 512 cg) from List.map_set]
            exact Sep.gather (R := [DevA p s2, Byt As (512 * sz n) cs s.dur, All (Own 41 2 (.slice Aq m cq) m (pcells qs) :: qs.map wdat)]) S7
          clear S S2 S3
          have S := S4
          clear S4
          obtain ⟨x1, x2⟩ := Y.out _ S.bel
          clear x2
          go_wp2_with fail
          refine (full_s S x.2.1).mono ?_
          clear S x1 hv hfr
          rintro e v5 ⟨Ah, ch, rfl, S⟩
          have HML : Aside0 (m ≤ 400) := ⟨by have h1 := HV.out.few; rw [← HQ.out, List.length_map, HQL.out] at h1; omega⟩
          go_wp2_with ((with_reducible refine gate_builtin (b := .append) (xs := #[.tmp 85, .tmp 94]) rfl ?_); at_builtin; go_must (refine append_s S.p4.spread rfl (.tmp 85) (.tmp 94) 31 (.agg #[.int .i64 0, .slice none 0 0]) 32 rfl Try.underlying31 Dev.infoPend rfl (by decide) (by decide) [.int .i64 (b : Int), .slice Ah 512 ch] rfl rfl rfl ?a1 ?aL ?_); (case a1 => (intro u hu; simp only [List.mem_cons, List.not_mem_nil, or_false] at hu; rcases hu with rfl | rfl <;> rfl)); (case aL => (have := HML.out; omega)); intro Aq2 cq2 w9 S9; clear S; have S := S9; clear S9)
          have HB2 : Aside0 (blks (L.set b (Value.slice Ag 512 cg, r x.2.1)) = nows (sz n) s2) := ⟨by rw [show blks (L.set b (Value.slice Ag 512 cg, r x.2.1)) = (blks L).set b (r x.2.1) from List.map_set, HB0.out]⟩
          have HL2 : Aside0 ((L.set b (Value.slice Ag 512 cg, r x.2.1)).length = sz n) := ⟨by rw [List.length_set]; exact HL.out⟩
          have HQ3 : Aside0 (pairs (qs ++ [((b : Int), r x.2.1, .slice Ah 512 ch)]) = s2.pend) := ⟨by rw [show pairs (qs ++ [((b : Int), r x.2.1, .slice Ah 512 ch)]) = pairs qs ++ [((b : Int), r x.2.1)] from List.map_append, HQ.out]; exact HQ2.out⟩
          have HQL2 : Aside0 ((qs ++ [((b : Int), r x.2.1, Value.slice Ah 512 ch)]).length = m + 1) := ⟨by rw [List.length_append, HQL.out]; rfl⟩
          have S4 := Sep.snoc (f := wdat) (R := [Own 41 2 (.slice Aq2 (m + 1) cq2) (m + 1) (pcells qs ++ [.int .i64 (b : Int), .slice Ah 512 ch]), All (Own 29 1 (.slice (some ⟨g, 0, none⟩) (sz n) cn) (sz n) (vals (L.set b (Value.slice Ag 512 cg, r x.2.1))) :: (L.set b (Value.slice Ag 512 cg, r x.2.1)).map dat), DevA p s2, Byt As (512 * sz n) cs s.dur]) (y := ((b : Int), r x.2.1, .slice Ah 512 ch)) (L := qs) S.swap
          rw [← HD2.out, show pcells qs ++ [.int .i64 (b : Int), .slice Ah 512 ch] = pcells (qs ++ [((b : Int), r x.2.1, .slice Ah 512 ch)]) from (pcells_append qs [((b : Int), r x.2.1, .slice Ah 512 ch)]).symm] at S4
          clear S
          have S := S4.gather.p3.p2.p3.p2.p2.p1
          clear S4
          have S2 := S.p1.spread
          have hbl : b < (L.set b (Value.slice Ag 512 cg, r x.2.1)).length := by rw [HL2.out]; exact hbN
          have hv := S2.val b (v := (L.set b (Value.slice Ag 512 cg, r x.2.1))[b].1) (by rw [List.getElem?_map, List.getElem?_eq_getElem hbl]; rfl)
          obtain ⟨A', c', e', h1, h2, h3⟩ := Sep.dat_C (S2.focus (f := dat) b hbl)
          have hlast : (L.set b (Value.slice Ag 512 cg, r x.2.1))[b].2 = lastOf s2.pend s2.dur b := by
            have h4 : (blks (L.set b (Value.slice Ag 512 cg, r x.2.1)))[b]? = some (L.set b (Value.slice Ag 512 cg, r x.2.1))[b].2 := by rw [List.getElem?_map, List.getElem?_eq_getElem hbl]; rfl
            rw [HB2.out, nows_at _ _ _ hbN] at h4
            exact (Option.some.inj h4).symm
          have hrd := read_is HV2.out.fit HV2.out.on b hbN
          rw [← hlast] at hrd
          have HE := Aside0.mk e'
          have HN2 := Aside0.mk h2
          clear S2 hv e' h1 h2 h3 hlast
          go_wp2_with fail
          have P := read_s S.p2 (b : Int)
          rw [hrd] at P
          simp only [HN2.out] at P
          refine P.mono ?_
          clear P S hrd
          rintro e v8 ⟨Ar, cr, rfl, S⟩
          have S2 := S.p3.spread
          have hv := S2.val b (v := (L.set b (Value.slice Ag 512 cg, r x.2.1))[b].1) (by rw [List.getElem?_map, List.getElem?_eq_getElem hbl]; rfl)
          rw [HE.out] at hv
          obtain ⟨A'', c'', e'', h1, _, h3⟩ := Sep.dat_C (S2.focus (f := dat) b hbl)
          rw [HE.out] at e''
          cases e''
          have HM := Aside0.mk (And.intro h1 h3)
          clear S2 h1 h3
          go_wp2_with fail
          refine (same_t S _ _ _ _ _ _ (L.set b (Value.slice Ag 512 cg, r x.2.1))[b].2 (L.set b (Value.slice Ag 512 cg, r x.2.1))[b].2 rfl S.reads HM.out.2 S.cap HM.out.1 (by decide)).mono ?_
          replace S := (S.drop.p2).p1
          rintro e v9 ⟨rfl, S'⟩
          clear S hv HM
          go_wp2_with (go_at_call 19; refine (num_any _ _).mono ?_; rintro e w' ⟨rfl, rfl⟩)
          exact ⟨⟨k + 1, (m + 1), s2, (L.set b (Value.slice Ag 512 cg, r x.2.1)), (qs ++ [((b : Int), r x.2.1, .slice Ah 512 ch)]), As, Aq2, cs, cq2, by omega, by omega, by go_num, rfl, rfl, HQL2, HV2, HL2, HB2, HQ3, (S'.drop.p2).p2⟩, by simp [intOf]; omega⟩
      · have hcs : (decide ((k : Int) < (l.length : Int)) = true ∧ ((k : Int) < (l.length : Int)) ∧ ¬ (k : Int) < 400 ∧ decide ((k : Int) < 400) = false) ∨ (¬ ((k : Int) < (l.length : Int)) ∧ decide ((k : Int) < (l.length : Int)) = false) := by
          by_cases h : (k : Int) < (l.length : Int)
          · exact .inl ⟨decide_eq_true h, h, by omega, decide_eq_false (by omega)⟩
          · exact .inr ⟨h, decide_eq_false h⟩
        have hS := Aside0.mk S
        clear S hlt
        rcases hcs with ⟨e1, e2, e3, e4⟩ | ⟨e1, e2⟩ <;> (
          go_wp2_with fail
          go_meet
          have h := HV.out
          exact ⟨m, s, L, qs, As, Aq, cs, cq, rfl, rfl, HQL, ⟨⟨h.ok, h.on, h.fuse, h.n, Nat.le_trans h.few hk2⟩⟩, HL, HB, HQ, hS.out⟩)
  case rest =>
    clear S HL HZ
    obtain ⟨m, s, L, qs, As, Aq, cs, cq, rfl, rfl, HQL, HV, HL, HB, HQ, S⟩ := hcut
    have hall : ∀ b (h : b < L.length), s.read (b : Int) = (L[b].2, 0) := fun b h => by
      have hb : b < sz n := by rw [← HL.out]; exact h
      have h4 : (blks L)[b]? = some L[b].2 := by rw [List.getElem?_map, List.getElem?_eq_getElem h]; rfl
      rw [HB.out, nows_at _ _ _ hb] at h4
      rw [read_is HV.out.fit HV.out.on b hb, Option.some.inj h4]
    have HA := Aside0.mk hall
    clear hall
    go_wp2_with fail
    refine (sameAll_s S.p1.p2.p1 HL.out (by omega) HA.out).mono ?_
    clear S HA
    rintro e v1 ⟨rfl, S⟩
    go_wp2_with fail
    have P := durable_s S.p1
    rw [HV.out.fit.dur] at P
    refine P.mono ?_
    clear P S
    rintro e v2 ⟨Ad, cd, rfl, S⟩
    go_wp2_with fail
    refine (same_t S _ _ _ _ _ _ s.dur s.dur rfl S.reads S.p3.reads S.cap S.p3.cap (by omega)).mono ?_
    clear S
    rintro e v3 ⟨rfl, S⟩
    go_wp2_with fail
    refine (pending_s S.drop (HV.out.fit.few_ (by omega))).mono ?_
    clear S
    rintro e v4 ⟨Ap, cp, qs', rfl, S⟩
    go_wp2_with fail
    refine (samep_w S.p4.p1 rfl HQL.out HQ.out.symm (by have := HV.out.few; omega) HV.out.fit.pend_lens).mono ?_
    clear S
    rintro e v5 ⟨rfl, S⟩
    have hB := S.bel
    clear S
    go_wp2
    go_ret
    exact ⟨rfl, hB⟩
end Go.Proofs.Ythnbmfkmaijibaa.Help
