/- JournalWhole: the walk. -/
import Derived.Test.YtmafafingdpopaaGreatDoorMA15
namespace Go.Proofs.YtmafafingdpopaaGreatDoor.Sep
open Go.Proofs Go.RowKit Go.ChangeMaps Go.Proofs.YtmafafingdpopaaGreatDoorW.PrintWords Go.Proofs.YtmafafingdpopaaGreatDoorW.PrintLast Go.Proofs.YtmafafingdpopaaGreatDoorW.PrintMore Go.Proofs.YtmafafingdpopaaGreatDoor.Dev Go.Proofs.YtmafafingdpopaaGreatDoor.Errs Go.Proofs.YtmafafingdpopaaGreatDoor.Jr Go.Proofs.YtmafafingdpopaaGreatDoor.Help Go.Proofs.YtmafafingdpopaaGreatDoor.IMap
set_option linter.unusedVariables false
set_option linter.unusedSimpArgs false
abbrev kRuns : Kd (List (List Pt)) := Kd.slice 22 kPs
abbrev kFs : Kd (List Fl) := Kd.slice 60 kF
section
variable {w0 w w' : World} {R : List Asn} {p d : Nat} {ps : List (Nat × List Int)} {v : JV} {s : DS} {sa : Addr} {G : Geo} {T : Tn} {W : Int → List Int} {hs : List VB} {J : JS}
theorem Live.calmly (L : Live G s J W) (h0 : s.fuse = 0) : Calm G s W := by
  obtain ⟨s0, p0, Ts, hR, _⟩ := L.is
  exact ⟨L.fits, L.off, L.pend, h0, s0, p0, Ts, hR⟩
structure RunsIn (w0 : World) (A : Option Addr) (ls : List (List (List Pt))) : Prop where
  at_ : Kd.C kRuns w0 A ls.length ls
  ok : ∀ ts ∈ ls, ∀ l ∈ ts, ∀ x ∈ l, Byte x.2 ∧ x.2.length ≤ 140737488351232 ∧ -9223372036854775808 ≤ x.1 ∧ x.1 < 9223372036854775808
structure FssIn (w0 : World) (A : Option Addr) (ls : List (List Fl)) : Prop where
  at_ : Kd.C kFs w0 A ls.length ls
  ok : ∀ l ∈ ls, ∀ x ∈ l, x.1 < 9223372036854775808
theorem RunsIn.get {A : Option Addr} {ls : List (List (List Pt))} (h : RunsIn w0 A ls) (i : Nat) (hi : i < ls.length) : ∃ ad B c, A = some ad ∧ TxsIn w0 B ls[i] ∧ ∀ W : World, Below w0.heap.size w0 W → W.cell? (ad.add i) = some (.slice B ls[i].length c) := by
  obtain ⟨ad, B, c, e, hl, hK, hW⟩ := sl_in h.at_ i hi
  exact ⟨ad, B, c, e, ⟨hK, h.ok _ (List.getElem_mem hi)⟩, hW⟩
theorem FssIn.get {A : Option Addr} {ls : List (List Fl)} (h : FssIn w0 A ls) (i : Nat) (hi : i < ls.length) : ∃ ad B c, A = some ad ∧ FallsIn w0 B ls[i] ∧ ∀ W : World, Below w0.heap.size w0 W → W.cell? (ad.add i) = some (.slice B ls[i].length c) := by
  obtain ⟨ad, B, c, e, hl, hK, hW⟩ := sl_in h.at_ i hi
  exact ⟨ad, B, c, e, ⟨hK, h.ok _ (List.getElem_mem hi)⟩, hW⟩
set_option maxRecDepth 100000 in
set_option maxHeartbeats 16000000 in
theorem whole_s (hr : Rt w) (hsn : Sen sa w) (n start size : Int) {Ar Af Ao : Option Addr} {cr cf co : Nat} {runs : List (List (List Pt))} {falls : List Fl} {opens : List (List Fl)} (XR : RunsIn w Ar runs) (XF : FallsIn w Af falls) (XO : FssIn w Ao opens) :
    Calls Tryz.prog 4 #[.int .i64 n, .int .i64 start, .int .i64 size, .slice Ar runs.length cr, .slice Af falls.length cf, .slice Ao opens.length co] w fun e w' => e = .returned (.bool true) ∧ Below w.heap.size w w' := by
  have HXR := Aside0.mk XR
  have HXF := Aside0.mk XF
  have HXO := Aside0.mk XO
  have hhd := head_s hr hsn (Sep.start w)
  clear XR XF XO
  go_enter Tryz.func4, Tryz.ntmps4
  go_wp2_with fail
  refine hhd.mono ?_
  clear hhd
  rintro _ w1 ⟨rfl, S⟩
  have htw := town_s hr S n start size
  clear S
  go_wp2_with fail
  refine htw.mono ?_
  clear htw
  rintro e w2 ⟨T, s, G, hs, rfl, C, H, hh, S⟩
  have HC := Aside0.mk (And.intro C (And.intro H hh))
  clear C H hh
  go_wp2_with fail
  go_loopw [16] (fun iv wr => ∃ (j : Nat) (T' : Tn) (s' : DS) (hs' : List VB) (W' : Int → List Int), j ≤ runs.length ∧ j ≤ 6 ∧ iv = .int .i64 (j : Int) ∧ T'.tp = T.tp ∧ T'.d = T.d ∧ Aside0 (Calm G s' W' ∧ Holds G T' W' ∧ (∀ x ∈ T'.ws, x ∈ hs') ∧ (W' (-1)).length ≤ 1 + 30 * j) ∧ Sep w wr (TownA T' :: DevA T.d s' :: HeldA hs' :: [])) (fun i _ => (6 - intOf i).toNat)
  case atStart => exact ⟨0, T, s, hs, zeroW, Nat.zero_le _, Nat.zero_le _, rfl, rfl, rfl, ⟨HC.out.1, HC.out.2.1, HC.out.2.2, Nat.le_refl _⟩, S⟩
  case round =>
    clear S HC
    obtain ⟨j, T', s', hs', W', hj, hj6, rfl, htp, hd, HF, S⟩ := hrel
    by_cases hlt : j < runs.length ∧ j < 6
    · obtain ⟨g1, g2⟩ := hlt
      have d1 : decide ((j : Int) < (runs.length : Int)) = true := decide_eq_true (by omega)
      have d2 : decide ((j : Int) < 6) = true := decide_eq_true (by omega)
      have g1' : (j : Int) < (runs.length : Int) := by omega
      obtain ⟨ar, Br, cBr, rfl, hTX, hXr⟩ := HXR.out.get j g1
      have HTX := Aside0.mk hTX
      have S1 := S.alloc #[.int .i64 0, .slice none 0 0] 60
      obtain ⟨bx, hbx⟩ : ∃ bx, bx = wr.heap.size := ⟨_, rfl⟩
      obtain ⟨W1, hW1⟩ : ∃ W1, W1 = wr.alloc (.cells #[.int .i64 0, .slice none 0 0] 60) := ⟨_, rfl⟩
      rw [← hbx, ← hW1] at S1
      go_upto_region 9 with fail
      rw [← hbx, ← hW1]
      clear hbx hW1 S hTX
      have HXr := Aside0.mk hXr
      clear hXr
      go_upto_if 51 with fail
      go_cut [] (fun wx => ∃ (x : Fl) (Bk : Option Addr) (ck : Nat), Aside0 (x.1 < 9223372036854775808 ∧ ∀ R, KeepIn w R Bk x.2) ∧ Sep w wx (Blk bx #[.int .i64 x.1, .slice Bk x.2.length ck] 60 :: TownA T' :: DevA T.d s' :: HeldA hs' :: []))
      case first =>
        have f0 := S1.free 0
        have f1 := S1.free 1
        have k0 := S1.cell 0 (v := .int .i64 0) rfl
        have k1 := S1.cell 1 (v := .slice none 0 0) rfl
        by_cases gf : j < falls.length
        · have gf' : (j : Int) < (falls.length : Int) := by omega
          obtain ⟨ad, B, cB, rfl, hcB, hkd, hX⟩ := falls_in HXF.out.at_ j gf
          have hkk := HXF.out.ok _ (List.getElem_mem gf)
          obtain ⟨x, hx⟩ : ∃ x, x = falls[j] := ⟨_, rfl⟩
          rw [← hx] at hcB hkd hX hkk
          obtain ⟨x0, x1⟩ := hX _ S1.bel
          have S2 := (S1.set 0 (.int .i64 x.1)).set 1 (.slice B x.2.length cB)
          have S2 : Sep w ((W1.setCell ⟨bx, 0, none⟩ (.int .i64 x.1)).setCell ⟨bx, 1, none⟩ (.slice B x.2.length cB)) (Blk bx #[.int .i64 x.1, .slice B x.2.length cB] 60 :: TownA T' :: DevA T.d s' :: HeldA hs' :: []) := S2
          have HS2 := Aside0.mk S2
          have HKD : Aside0 (x.1 < 9223372036854775808 ∧ ∀ R, KeepIn w R B x.2) := ⟨hkk, fun R => KeepIn.old hkd⟩
          clear S2 hx hkd hX hkk
          go_wp2_with fail
          go_meet
          case rel => exact ⟨x, B, cB, HKD, HS2.out⟩
        · have gf' : ¬ (j : Int) < (falls.length : Int) := by omega
          go_wp2_with fail
          go_meet
          case rel => exact ⟨(0, []), none, 0, ⟨by decide, fun R => keep_nil⟩, S1⟩
      case rest =>
      obtain ⟨x, Bk, ck, HK, S⟩ := hcut
      have b0 := S.cell 0 (v := .int .i64 x.1) rfl
      have b1 := S.cell 1 (v := .slice Bk x.2.length ck) rfl
      have x0 := HXr.out _ S.bel
      have hWl := HF.out.2.2.2
      have SR := (((S.pull 3).pull 3).pull 3)
      have hrun := fun W (S : Sep w W (TownA T' :: DevA T'.d s' :: HeldA hs' :: [Blk bx #[.int .i64 x.1, .slice Bk x.2.length ck] 60])) => run_s (ct := cBr) (ck := ck) hr hsn S HF.out.1 HF.out.2.1 HF.out.2.2.1 (HTX.out.r _) (HK.out.2 _) x.1 HK.out.1 (by omega)
      rw [htp, hd] at hrun
      clear S1
      go_wp2_with fail
      go_region_held (fun W => W.cell? ⟨bx, 0, none⟩ = some (.int .i64 x.1) ∧ W.cell? ⟨bx, 1, none⟩ = some (.slice Bk x.2.length ck) ∧ W.cell? (ar.add j) = some (.slice Br runs[j].length cBr)) (refine ⟨?_, ?_, ?_⟩ <;> (repeat (first | (with_reducible assumption) | (with_reducible refine kd ?_))))
        (first
          | (go_at_call 29; refine (hrun _ SR.drew).mono ?_; rintro _ w5 ⟨T3, s3, W3, hs3, rfl, htd3, C3, H3, hh3, hl3, S3⟩; have y0 := (S3.pull 3).cell 0 (v := .int .i64 x.1) rfl; have y1 := (S3.pull 3).cell 1 (v := .slice Bk x.2.length ck) rfl; have y2 := HXr.out _ S3.bel; have HC3 := Aside0.mk (And.intro C3 (And.intro H3 (And.intro hh3 hl3))); clear C3 H3 hh3 hl3))
      clear b0 b1 x0 y0 y1 y2 S SR hrun
      obtain ⟨htp3, hd3⟩ := htd3
      rw [htp] at htp3
      rw [hd] at hd3
      have S := (S3.pull 3).drop
      rw [hd] at S
      have hW3 := HC3.out.2.2.2
      clear S3 HF HTX HK HXr
      go_upto_if 68 with fail
      go_cut [13] (fun u wx => ∃ s4, u = .bool true ∧ Aside0 (Calm G s4 W3) ∧ Sep w wx (TownA T3 :: DevA T.d s4 :: HeldA hs3 :: []))
      case first =>
        by_cases go : j < opens.length
        · have go' : (j : Int) < (opens.length : Int) := by omega
          obtain ⟨ao, Bo, cBo, rfl, hFI, hXo⟩ := HXO.out.get j go
          have x0 := hXo _ S.bel
          have hag := again_s (T := T3) (c := cBo) hr hsn (by rw [hd3]; exact S) HC3.out.1 HC3.out.2.1 hFI
          rw [htp3, hd3] at hag
          clear S hXo hFI
          go_wp2_with fail
          refine hag.mono ?_
          clear hag
          rintro _ w6 ⟨rfl, s4, C4, S⟩
          have HC4 := Aside0.mk C4
          have HS := Aside0.mk S
          clear C4 S
          go_wp2_with fail
          go_meet
          case rel => exact ⟨s4, rfl, HC4, HS.out⟩
        · have go' : ¬ (j : Int) < (opens.length : Int) := by omega
          have HC4 := Aside0.mk HC3.out.1
          have HS := Aside0.mk S
          clear S
          go_wp2_with fail
          go_meet
          case rel => exact ⟨s3, rfl, HC4, HS.out⟩
      case rest =>
      obtain ⟨s4, rfl, HC4, S⟩ := hcut
      have hop := topen_calm (T := T3) hr hsn (by rw [hd3]; exact S) HC4.out HC3.out.2.1
      rw [htp3, hd3] at hop
      clear S
      go_wp2_with fail
      refine hop.mono ?_
      clear hop
      rintro e w7 ⟨s5, hf5, taken, p, v, ps, rfl, L, htx, S⟩
      have hho := holds_s (T := T3) (S.pull 4) L htx HC3.out.2.1 HC3.out.2.2.1
      rw [htp3] at hho
      have HC5 := Aside0.mk (Live.calmly L.live hf5)
      clear S L htx hf5
      go_wp2_with fail
      refine hho.mono ?_
      clear hho
      rintro _ w8 ⟨rfl, S⟩
      have HS := Aside0.mk ((((S.pull 1).drop.pull 1).drop.pull 1).drop)
      clear S
      go_wp2_with fail
      exact ⟨⟨j + 1, T3, s5, hs3, W3, g1, by omega, by go_num, htp3, hd3, ⟨HC5.out, HC3.out.2.1, HC3.out.2.2.1, by omega⟩, HS.out⟩, by simp [intOf]; omega⟩
    · have key : ∀ (hcond : True), True := fun _ => trivial
      have hop := topen_calm (T := T') hr hsn (by rw [hd]; exact S) HF.out.1 HF.out.2.1
      rw [htp, hd] at hop
      clear S key
      by_cases g1 : j < runs.length
      · have d1 : decide ((j : Int) < (runs.length : Int)) = true := decide_eq_true (by omega)
        have d2 : decide ((j : Int) < 6) = false := decide_eq_false (by omega)
        go_wp2_with fail
        refine hop.mono ?_
        clear hop
        rintro e w7 ⟨s5, hf5, taken, p, v, ps, rfl, L, htx, S⟩
        have hho := holds_s (T := T') (S.pull 4) L htx HF.out.2.1 HF.out.2.2.1
        rw [htp] at hho
        clear S L htx hf5
        go_wp2_with fail
        refine hho.mono ?_
        clear hho
        rintro _ w8 ⟨rfl, S⟩
        have HB := Aside0.mk S.bel
        clear S
        go_wp2_with fail
        go_ret
        exact ⟨rfl, HB.out⟩
      · have d1 : decide ((j : Int) < (runs.length : Int)) = false := decide_eq_false (by omega)
        go_wp2_with fail
        refine hop.mono ?_
        clear hop
        rintro e w7 ⟨s5, hf5, taken, p, v, ps, rfl, L, htx, S⟩
        have hho := holds_s (T := T') (S.pull 4) L htx HF.out.2.1 HF.out.2.2.1
        rw [htp] at hho
        clear S L htx hf5
        go_wp2_with fail
        refine hho.mono ?_
        clear hho
        rintro _ w8 ⟨rfl, S⟩
        have HB := Aside0.mk S.bel
        clear S
        go_wp2_with fail
        go_ret
        exact ⟨rfl, HB.out⟩
end
end Go.Proofs.YtmafafingdpopaaGreatDoor.Sep
/- JournalAgain: the walk. -/
namespace Go.Proofs.YtmafafingdpopaaGreatDoor.Sep
open Go.Proofs Go.RowKit Go.ChangeMaps Go.Proofs.YtmafafingdpopaaGreatDoorW.PrintWords Go.Proofs.YtmafafingdpopaaGreatDoorW.PrintLast Go.Proofs.YtmafafingdpopaaGreatDoorW.PrintMore Go.Proofs.YtmafafingdpopaaGreatDoor.Dev Go.Proofs.YtmafafingdpopaaGreatDoor.Errs Go.Proofs.YtmafafingdpopaaGreatDoor.Jr Go.Proofs.YtmafafingdpopaaGreatDoor.Help Go.Proofs.YtmafafingdpopaaGreatDoor.IMap
set_option linter.unusedVariables false
set_option linter.unusedSimpArgs false
section
variable {w0 w w' : World} {R : List Asn} {p d : Nat} {ps : List (Nat × List Int)} {v : JV} {s : DS} {sa : Addr} {G : Geo} {T : Tn} {W : Int → List Int} {hs : List VB} {J : JS}
/-- Open of a device that lies calm, and what is left in its log: nothing. -/
theorem topen_home (hr : Rt w0) (hsn : Sen sa w0) (S : Sep w0 w (TownA T :: DevA T.d s :: R)) (C : Calm G s W) (H : Holds G T W) :
    Calls Tryz.prog 14 #[.pointer (some ⟨T.tp, 0, none⟩)] w fun e w' => ∃ s1, s1.fuse = 0 ∧ (∃ a b, Rec G s1.blk a b [] W) ∧ OpenedP w0 (TownA T :: R) T.d G W s1 e w' := by
  have hg := geo_is C.fits H
  have h := topen_s hr hsn S (by rw [hg]; exact C.fits.geo) C.fits.byte (by rw [C.pend]; exact Nat.zero_le _)
  rw [hg] at h
  obtain ⟨s0, p0, Ts, hR⟩ := C.recs
  have hst := Still.openJ (G := G) (s := s) ⟨C.off, C.fuse⟩
  refine h.mono fun e w' hP => ⟨_, hst.2, ?_⟩
  rcases open_rec C.fits C.off C.pend hR with ⟨h1, ⟨J, h2, h3, h4, h5⟩, h6, h7⟩ | ⟨h1, h2, h3, h4, h5, h6⟩
  · exact ⟨h6, opened H.start H.size hP h2 h3⟩
  · exact absurd (hst.1.symm.trans h4) (by decide)
/-- Opened again with a fuse of one: nothing is taken, nothing burns. -/
theorem topen_twice (hr : Rt w0) (hsn : Sen sa w0) (S : Sep w0 w (TownA T :: DevA T.d s :: R)) (L : Live G s J W) (ha : ∃ a b, Rec G s.blk a b [] W) (H : Holds G T W) :
    Calls Tryz.prog 14 #[.pointer (some ⟨T.tp, 0, none⟩)] w fun e w' => ∃ (p : Nat) (v : JV) (ps : List (Nat × List Int)), e = .returned (.tuple #[.pointer (some ⟨p, 0, none⟩), .int .i64 0, .int .i64 0]) ∧ LiveV G s v ps W ∧ v.tx = none ∧ Sep w0 w' (JBlk p T.d v :: MapA v.bm (vals v.M) :: PoolA ps :: DevA T.d s :: TownA T :: R) := by
  have hg := geo_is L.fits H
  have h := topen_s hr hsn S (by rw [hg]; exact L.fits.geo) L.fits.byte (by rw [L.pend]; exact Nat.zero_le _)
  rw [hg] at h
  obtain ⟨h1, ⟨J', h2, h3, h4, h5⟩, h6⟩ := open_again L ha
  refine h.mono fun e w' hP => ?_
  rcases hP with ⟨J2, taken, p, v, ps, g1, rfl, g3, g4, g5, g6, g7, g8, S1⟩ | ⟨g1, _, _⟩
  · rw [h2] at g1
    cases g1
    rw [h6] at S1
    refine ⟨p, v, ps, rfl, ⟨by rw [g5]; exact h3, ?_, g7, g8⟩, g6, S1⟩
    have hn := L.fits.n
    show (⟨(s.n : Int), v.start, v.size⟩ : Geo) = G
    rw [← hn, g3, g4, H.start, H.size]
  · rw [h2] at g1
    cases g1
set_option maxRecDepth 100000 in
set_option maxHeartbeats 16000000 in
theorem againLaw_s (hr : Rt w) (hsn : Sen sa w) (n start size : Int) {At Ak : Option Addr} {ct ck : Nat} {txs : List (List Pt)} {ks : List Bool} (XT : TxsIn w At txs) (arm : Int) (ha : arm < 9223372036854775808) (hK : ∀ R, KeepIn w R Ak ks) :
    Calls Tryz.prog 8 #[.int .i64 n, .int .i64 start, .int .i64 size, .slice At txs.length ct, .agg #[.int .i64 arm, .slice Ak ks.length ck]] w fun e w' => e = .returned (.bool true) ∧ Below w.heap.size w w' := by
  have HXT := Aside0.mk XT
  have HK := Aside0.mk hK
  have S0 := (Sep.start w).alloc #[.int .i64 arm, .slice Ak ks.length ck] 60
  obtain ⟨bx, hbx⟩ : ∃ bx, bx = w.heap.size := ⟨_, rfl⟩
  obtain ⟨W1, hW1⟩ : ∃ W1, W1 = w.alloc (.cells #[.int .i64 arm, .slice Ak ks.length ck] 60) := ⟨_, rfl⟩
  rw [← hbx, ← hW1] at S0
  have hhd := head_s hr hsn S0
  clear XT hK S0
  go_enter Tryz.func8, Tryz.ntmps8
  go_upto_region 1 with fail
  rw [← hbx, ← hW1]
  clear hbx hW1
  go_wp2_with fail
  refine hhd.mono ?_
  clear hhd
  rintro _ w1 ⟨rfl, S⟩
  have htw := town_s hr S n start size
  clear S
  go_wp2_with fail
  refine htw.mono ?_
  clear htw
  rintro e w2 ⟨T, s, G, hs, rfl, C, H, hh, S⟩
  have b0 := (S.pull 3).cell 0 (v := .int .i64 arm) rfl
  have b1 := (S.pull 3).cell 1 (v := .slice Ak ks.length ck) rfl
  have hrun := run_s (ct := ct) (ck := ck) hr hsn S C H hh (HXT.out.r _) (HK.out _) arm ha (by decide)
  clear S C H hh
  go_wp2_with fail
  refine hrun.mono ?_
  clear hrun
  rintro e w3 ⟨T2, s2, W2, hs2, rfl, ⟨htp, hd⟩, C, H, hh, hl, S⟩
  have hop := topen_home (T := T2) hr hsn (by rw [hd]; exact S) C H
  rw [htp, hd] at hop
  have HH := Aside0.mk (And.intro H hh)
  clear S C H hh hl b0 b1
  go_wp2_with fail
  refine hop.mono ?_
  clear hop
  rintro e w4 ⟨s3, hf3, hrec, taken, p, v, ps, rfl, L, htx, S⟩
  have S := S.drop.drop.drop
  have c0 := (S.pull 1).town.cell 0 (v := .pointer (some ⟨T2.d, 0, none⟩)) rfl
  rw [htp, hd] at c0
  have hdu := durable_s S
  have HL := Aside0.mk (And.intro L.live (And.intro hrec hf3))
  have HJ : Aside0 (∃ J, Live G s3 J W2) := ⟨⟨_, L.live⟩⟩
  clear S L htx hrec hf3
  go_wp2_with fail
  refine hdu.mono ?_
  clear hdu c0
  rintro _ w5 ⟨A5, c5, rfl, S⟩
  have c0 := (S.pull 2).town.cell 0 (v := .pointer (some ⟨T2.d, 0, none⟩)) rfl
  rw [htp, hd] at c0
  have har := arm_s (S.pull 1) 1 (by decide)
  clear S
  go_wp2_with fail
  refine har.mono ?_
  clear har c0
  rintro _ w6 ⟨rfl, S⟩
  obtain ⟨s4, hs4⟩ : ∃ s4, s4 = (s3.arm 1).2 := ⟨_, rfl⟩
  have har4 := arm_is (s := s3) 1
  rw [← hs4] at S har4
  have L4 : Live G s4 (jsOf v) W2 := by rw [hs4]; exact Live.arm HL.out.1 1 (by decide)
  have hrec4 : ∃ a b, Rec G s4.blk a b [] W2 := by
    obtain ⟨a, b, hR⟩ := HL.out.2.1
    exact ⟨a, b, by rw [blk_fun har4.1]; exact hR⟩
  have hlen : s3.dur.length ≤ 140737488355328 := by
    have h1 := HL.out.1.fits.ok.len
    have h2 := HL.out.1.fits.ok.n1
    omega
  have hop2 := topen_twice (T := T2) hr hsn (by rw [hd]; exact (S.pull 2)) L4 hrec4 HH.out.1
  rw [htp, hd] at hop2
  have HDUR := Aside0.mk (And.intro har4.1 hlen)
  clear S L4 hrec4 hs4 har4 hlen HL HJ
  go_wp2_with fail
  refine hop2.mono ?_
  clear hop2
  rintro _ w7 ⟨p2, v2, ps2, rfl, L, htx, S⟩
  have S := ((((((S.pull 6).pull 5).pull 4).pull 4).pull 4).pull 5)
  have c0 := (S.pull 4).town.cell 0 (v := .pointer (some ⟨T2.d, 0, none⟩)) rfl
  rw [htp, hd] at c0
  have hpw := power_s S
  rw [L.off] at hpw
  have HL := Aside0.mk (And.intro L htx)
  clear S L htx
  go_wp2_with fail
  refine hpw.mono ?_
  clear hpw c0
  rintro _ w8 ⟨rfl, S⟩
  have c0 := (S.pull 4).town.cell 0 (v := .pointer (some ⟨T2.d, 0, none⟩)) rfl
  rw [htp, hd] at c0
  have har := arm_s S 0 (by decide)
  clear S
  go_wp2_with fail
  refine har.mono ?_
  clear har c0
  rintro _ w9 ⟨rfl, S⟩
  obtain ⟨s5, hs5⟩ : ∃ s5, s5 = (s4.arm 0).2 := ⟨_, rfl⟩
  have har5 := arm_is (s := s4) 0
  rw [← hs5] at S har5
  have L5 : LiveV G s5 v2 ps2 W2 := by rw [hs5]; exact HL.out.1.arm 0 (by decide)
  have hdur : s5.dur = s3.dur := har5.1.trans HDUR.out.1
  have c0 := (S.pull 4).town.cell 0 (v := .pointer (some ⟨T2.d, 0, none⟩)) rfl
  rw [htp, hd] at c0
  have hpe := pending_s S (by rw [L5.live.pend]; exact Nat.zero_le _)
  rw [L5.live.pend, List.length_nil] at hpe
  have HL5 := Aside0.mk (And.intro L5 hdur)
  clear S L5 hs5 har5 hdur
  go_wp2_with fail
  refine hpe.mono ?_
  clear hpe c0
  rintro _ w10 ⟨Ap, cp, qs, rfl, S⟩
  have S := S.drop
  have c0 := (S.pull 4).town.cell 0 (v := .pointer (some ⟨T2.d, 0, none⟩)) rfl
  rw [htp, hd] at c0
  have hdu := durable_s S
  rw [HL5.out.2] at hdu
  clear S
  go_wp2_with fail
  refine hdu.mono ?_
  clear hdu c0
  rintro _ w11 ⟨A11, c11, rfl, S⟩
  have r11 := S.reads
  have k11 := S.cap
  have r5 := (S.pull 7).reads
  have k5 := (S.pull 7).cap
  have hsm := same_s w11 A5 A11 s3.dur.length s3.dur.length c5 c11 _ _ r5 r11 k5 k11 HDUR.out.2
  rw [decide_eq_true rfl] at hsm
  have S := S.drop
  clear r11 k11 r5 k5
  go_wp2_with fail
  refine hsm.mono ?_
  clear hsm
  rintro _ w12 ⟨rfl, hB⟩
  have S := S.calm hB
  have hho := holds_s (T := T2) (((((S.pull 3).pull 3).pull 3).pull 4)) HL5.out.1 HL.out.2 HH.out.1 HH.out.2
  rw [htp] at hho
  clear S hB
  go_wp2_with fail
  refine hho.mono ?_
  clear hho
  rintro _ w13 ⟨rfl, S⟩
  have HB := Aside0.mk S.bel
  clear S
  go_wp2_with fail
  go_ret
  exact ⟨rfl, HB.out⟩
end
end Go.Proofs.YtmafafingdpopaaGreatDoor.Sep
/- JournalEvery: the walk. -/
namespace Go.Proofs.YtmafafingdpopaaGreatDoor.Sep
open Go.Proofs Go.RowKit Go.ChangeMaps Go.Proofs.YtmafafingdpopaaGreatDoorW.PrintWords Go.Proofs.YtmafafingdpopaaGreatDoorW.PrintLast Go.Proofs.YtmafafingdpopaaGreatDoorW.PrintMore Go.Proofs.YtmafafingdpopaaGreatDoor.Dev Go.Proofs.YtmafafingdpopaaGreatDoor.Errs Go.Proofs.YtmafafingdpopaaGreatDoor.Jr Go.Proofs.YtmafafingdpopaaGreatDoor.Help Go.Proofs.YtmafafingdpopaaGreatDoor.IMap
set_option linter.unusedVariables false
set_option linter.unusedSimpArgs false
theorem infoBo : (Tryz.prog.info? 4).map (fun i => (i.zero, i.size, i.bytes)) = some (some (.bool false), 1, 1) := by kernel_rfl
section
variable {w0 w w' : World} {R : List Asn} {p d : Nat} {ps : List (Nat × List Int)} {v : JV} {s : DS} {sa : Addr} {G : Geo} {T : Tn} {W : Int → List Int} {hs : List VB} {J : JS}
set_option maxRecDepth 100000 in
set_option maxHeartbeats 16000000 in
theorem every_s (hr : Rt w) (hsn : Sen sa w) {At Al Ak : Option Addr} {ct cl ck : Nat} {txs : List (List Pt)} {l : List Pt} {ks : List Bool} (XT : TxsIn w At txs) (XL : PutsIn w Al l) (hK : Kd.C Kd.bool w Ak ks.length ks) :
    Calls Tryz.prog 5 #[.slice At txs.length ct, .slice Al l.length cl, .slice Ak ks.length ck] w fun e w' => e = .returned (.bool true) ∧ Below w.heap.size w w' := by
  have HXT := Aside0.mk XT
  have HXL := Aside0.mk XL
  have HK := Aside0.mk hK
  have hhd := head_s hr hsn (Sep.start w)
  clear XT XL hK
  go_enter Tryz.func5, Tryz.ntmps5
  go_wp2_with fail
  refine hhd.mono ?_
  clear hhd
  rintro _ w1 ⟨rfl, S⟩
  go_wp2_with fail
  go_loopw [8] (fun kv wr => ∃ k : Nat, 1 ≤ k ∧ k ≤ 61 ∧ kv = .int .i64 (k : Int) ∧ Sep w wr []) (fun kv _ => (61 - intOf kv).toNat)
  case atStart => exact ⟨1, Nat.le_refl _, by decide, rfl, S⟩
  case round =>
    clear S
    obtain ⟨k, hk1, hk, rfl, S⟩ := hrel
    by_cases hlt : k ≤ 60
    · have d1 : (k : Int) ≤ 60 := by omega
      go_wp2_with fail
      go_loopw [9] (fun pv wr => ∃ j : Nat, j ≤ 3 ∧ pv = .int .i64 (j : Int) ∧ Sep w wr []) (fun pv _ => (3 - intOf pv).toNat)
      case atStart => exact ⟨0, Nat.zero_le _, rfl, S⟩
      case round =>
        clear S
        obtain ⟨j, hj, rfl, S⟩ := hrel
        by_cases hj3 : j < 3
        · have e1 : (j : Int) < 3 := by omega
          have htw := town_s hr S 0 0 0
          clear S
          go_wp2_with fail
          refine htw.mono ?_
          clear htw
          rintro e w2 ⟨T, s, G, hs, rfl, C, H, hh, S⟩
          have hrun := run_s (ct := ct) (ck := 0) (ks := []) (Ak := none) (R := []) hr hsn S C H hh (HXT.out.r _) keep_nil 0 (by decide) (by decide)
          clear S C H hh
          go_wp2_with fail
          refine hrun.mono ?_
          clear hrun
          rintro e w3 ⟨T2, s2, W2, hs2, rfl, ⟨htp, hd⟩, C, H, hh, hl, S⟩
          have HC := Aside0.mk (And.intro C (And.intro H (And.intro hh hl)))
          clear C H hh hl
          have S2 := S.alloc #[.int .i64 (k : Int), .slice Ak ks.length ck] 60
          have HS2 := Aside0.mk S2
          clear S S2
          go_upto_if 44 with fail
          obtain ⟨bx, hbx⟩ : ∃ bx, bx = w3.heap.size := ⟨_, rfl⟩
          obtain ⟨wf, hwf⟩ : ∃ wf, wf = w3.alloc (.cells #[.int .i64 (k : Int), .slice Ak ks.length ck] 60) := ⟨_, rfl⟩
          have S := HS2.out
          rw [← hwf, ← hbx] at S
          rw [← hwf, ← hbx]
          clear HS2 hwf hbx
          go_cut [] (fun wx => ∃ (kk : List Bool) (Bk : Option Addr) (cb : Nat) (L : List Asn), Aside0 (KeepIn w L Bk kk) ∧ Sep w wx (Blk bx #[.int .i64 (k : Int), .slice Bk kk.length cb] 60 :: TownA T2 :: DevA T.d s2 :: HeldA hs2 :: L))
          case first =>
            obtain rfl | rfl | rfl : j = 0 ∨ j = 1 ∨ j = 2 := by omega
            · go_wp2_with fail
              go_meet
              case rel => exact ⟨ks, Ak, ck, [], ⟨KeepIn.old HK.out⟩, S⟩
            · rw [show ((1 : Nat) : Int) = 1 from rfl, show decide (0 < 1) = true from rfl]
              have S := S.nils 4 1
              have S := (S.pull 1)
              have f1 := S.free 1
              have k1 := S.cell 1 (v := .slice Ak ks.length ck) rfl
              have S3 : Sep w (wf.setCell ⟨bx, 1, none⟩ (.slice none 0 0)) (Blk bx #[.int .i64 (k : Int), .slice none 0 0] 60 :: Own 4 1 (.slice none 0 0) 0 [] :: TownA T2 :: DevA T.d s2 :: HeldA hs2 :: []) := S.set 1 (.slice none 0 0)
              have HS3 := Aside0.mk S3
              clear S3
              go_wp2_with fail
              go_loopw [13] (fun iv wr2 => ∃ (i : Nat) (vk : Value), i ≤ 60 ∧ iv = .int .i64 (i : Int) ∧ Sep w wr2 (Blk bx #[.int .i64 (k : Int), vk] 60 :: Own 4 1 vk i ((List.replicate i true).map Value.bool) :: TownA T2 :: DevA T.d s2 :: HeldA hs2 :: [])) (fun i _ => (60 - intOf i).toNat)
              case atStart => exact ⟨0, .slice none 0 0, Nat.zero_le _, rfl, HS3.out⟩
              case round =>
                clear S HS3 f1 k1
                obtain ⟨i, vk, hi, rfl, S⟩ := hrel
                by_cases hi6 : i < 60
                · have h6 : (i : Int) < 60 := by omega
                  obtain ⟨Ai, ci, rfl⟩ := own_slice (S.pull 1).row
                  have c1 := S.cell 1 (v := .slice Ai i ci) rfl
                  have hrep : (List.replicate i true).map Value.bool ++ [Value.bool true] = (List.replicate (i + 1) true).map Value.bool := by rw [List.replicate_succ', List.map_append]; rfl
                  have HREP := Aside0.mk hrep
                  clear hrep
                  go_wp2_with (first | ((with_reducible refine gate_builtin (b := .append) (xs := #[.tmp 51, .tmp 54]) rfl ?_); at_builtin; go_must (refine append_s (S.pull 1) rfl (.tmp 51) (.tmp 54) 58 (.bool false) 1 rfl Tryz.underlying58 infoBo rfl (by decide) (by decide) [.bool true] rfl rfl rfl ?a1 ?aL ?_); (case a1 => (intro u hu; rw [List.mem_singleton.1 hu]; rfl)); (case aL => omega); intro A9 c9 w9 S9; have d1 := (S9.pull 1).cell 1 (v := .slice Ai i ci) rfl; have g1 := (S9.pull 1).free 1))
                  have S10 := (S9.pull 1).set 1 (.slice A9 (i + 1) c9)
                  rw [HREP.out] at S10
                  exact ⟨⟨i + 1, .slice A9 (i + 1) c9, hi6, by go_num, S10⟩, by simp [intOf]; omega⟩
                · have h6 : ¬ (i : Int) < 60 := by omega
                  have hi60 : i = 60 := by omega
                  subst hi60
                  go_wp2_with fail
                  go_meet
                  case rel =>
                    obtain ⟨Ai, ci, rfl⟩ := own_slice (S.pull 1).row
                    obtain ⟨gi, rfl⟩ := (S.pull 1).addr (by decide)
                    have hlr : (List.replicate 60 true).length = 60 := List.length_replicate ..
                    exact ⟨List.replicate 60 true, some ⟨gi, 0, none⟩, ci, [Own 4 1 (.slice (some ⟨gi, 0, none⟩) (List.replicate 60 true).length ci) (List.replicate 60 true).length ((List.replicate 60 true).map Value.bool)], ⟨KeepIn.own⟩, by rw [hlr]; exact ((((S.pull 4).pull 4).pull 4).pull 3)⟩
            · rw [show ((2 : Nat) : Int) = 2 from rfl, show decide (0 < 2) = true from rfl]
              have S := S.nils 4 1
              have S := (S.pull 1)
              have f1 := S.free 1
              have k1 := S.cell 1 (v := .slice Ak ks.length ck) rfl
              have S3 : Sep w (wf.setCell ⟨bx, 1, none⟩ (.slice none 0 0)) (Blk bx #[.int .i64 (k : Int), .slice none 0 0] 60 :: Own 4 1 (.slice none 0 0) 0 [] :: TownA T2 :: DevA T.d s2 :: HeldA hs2 :: []) := S.set 1 (.slice none 0 0)
              have HS3 := Aside0.mk S3
              clear S3
              go_wp2_with fail
              go_loopw [13] (fun iv wr2 => ∃ (i : Nat) (vk : Value), i ≤ 60 ∧ iv = .int .i64 (i : Int) ∧ Sep w wr2 (Blk bx #[.int .i64 (k : Int), vk] 60 :: Own 4 1 vk i ((List.replicate i false).map Value.bool) :: TownA T2 :: DevA T.d s2 :: HeldA hs2 :: [])) (fun i _ => (60 - intOf i).toNat)
              case atStart => exact ⟨0, .slice none 0 0, Nat.zero_le _, rfl, HS3.out⟩
              case round =>
                clear S HS3 f1 k1
                obtain ⟨i, vk, hi, rfl, S⟩ := hrel
                by_cases hi6 : i < 60
                · have h6 : (i : Int) < 60 := by omega
                  obtain ⟨Ai, ci, rfl⟩ := own_slice (S.pull 1).row
                  have c1 := S.cell 1 (v := .slice Ai i ci) rfl
                  have hrep : (List.replicate i false).map Value.bool ++ [Value.bool false] = (List.replicate (i + 1) false).map Value.bool := by rw [List.replicate_succ', List.map_append]; rfl
                  have HREP := Aside0.mk hrep
                  clear hrep
                  go_wp2_with (first | ((with_reducible refine gate_builtin (b := .append) (xs := #[.tmp 51, .tmp 54]) rfl ?_); at_builtin; go_must (refine append_s (S.pull 1) rfl (.tmp 51) (.tmp 54) 58 (.bool false) 1 rfl Tryz.underlying58 infoBo rfl (by decide) (by decide) [.bool false] rfl rfl rfl ?a1 ?aL ?_); (case a1 => (intro u hu; rw [List.mem_singleton.1 hu]; rfl)); (case aL => omega); intro A9 c9 w9 S9; have d1 := (S9.pull 1).cell 1 (v := .slice Ai i ci) rfl; have g1 := (S9.pull 1).free 1))
                  have S10 := (S9.pull 1).set 1 (.slice A9 (i + 1) c9)
                  rw [HREP.out] at S10
                  exact ⟨⟨i + 1, .slice A9 (i + 1) c9, hi6, by go_num, S10⟩, by simp [intOf]; omega⟩
                · have h6 : ¬ (i : Int) < 60 := by omega
                  have hi60 : i = 60 := by omega
                  subst hi60
                  go_wp2_with fail
                  go_meet
                  case rel =>
                    obtain ⟨Ai, ci, rfl⟩ := own_slice (S.pull 1).row
                    obtain ⟨gi, rfl⟩ := (S.pull 1).addr (by decide)
                    have hlr : (List.replicate 60 false).length = 60 := List.length_replicate ..
                    exact ⟨List.replicate 60 false, some ⟨gi, 0, none⟩, ci, [Own 4 1 (.slice (some ⟨gi, 0, none⟩) (List.replicate 60 false).length ci) (List.replicate 60 false).length ((List.replicate 60 false).map Value.bool)], ⟨KeepIn.own⟩, by rw [hlr]; exact ((((S.pull 4).pull 4).pull 4).pull 3)⟩
          case rest =>
          obtain ⟨kk, Bk, cb, L, HKP, S⟩ := hcut
          have hl4 : (zeroW (-1)).length = 1 := rfl
          have hl5 := HC.out.2.2.2
          have S2 := S.lit 22 [.slice Al l.length cl] (show (1 : Nat) ≤ 9223372036854775807 by decide)
          have S2 : Sep w (wc.alloc (.cells #[.slice Al l.length cl] 22)) (Own 22 1 (.slice (some ⟨wc.heap.size, 0, none⟩) 1 1) 1 [.slice Al l.length cl] :: Blk bx #[.int .i64 (k : Int), .slice Bk kk.length cb] 60 :: TownA T2 :: DevA T.d s2 :: HeldA hs2 :: L) := S2
          have b0 := (S2.pull 1).cell 0 (v := .int .i64 (k : Int)) rfl
          have b1 := (S2.pull 1).cell 1 (v := .slice Bk kk.length cb) rfl
          have S3 := (((S2.pull 4).pull 4).pull 4)
          have hrun := run_s (T := T2) (ct := 1) (ck := cb) (txs := [l]) (ks := kk) (Ak := Bk) hr hsn (by rw [hd]; exact S3) HC.out.1 HC.out.2.1 HC.out.2.2.1 (TxsR.one HXL.out) ((HKP.out.cons _).cons _) (k : Int) (by omega) (by omega)
          rw [htp, show ([l] : List (List Pt)).length = 1 from rfl] at hrun
          clear S2 S3 HXL hl4 hl5 HC
          go_wp2_with fail
          refine hrun.mono ?_
          clear hrun b0 b1 S
          rintro e w5 ⟨T3, s3, W3, hs3, rfl, ⟨htp3, hd3⟩, C3, H3, hh3, hl3, S⟩
          rw [htp] at htp3
          rw [hd] at hd3 S
          have hop := topen_calm (T := T3) hr hsn (by rw [hd3]; exact S) C3 H3
          rw [htp3, hd3] at hop
          clear S C3 hl3
          go_wp2_with fail
          refine hop.mono ?_
          clear hop
          rintro e w6 ⟨s5, hf5, taken, p, v, ps, rfl, L5, htx, S⟩
          have hho := holds_s (T := T3) (S.pull 4) L5 htx H3 hh3
          rw [htp3] at hho
          clear S L5 htx hf5 H3 hh3
          go_wp2_with fail
          refine hho.mono ?_
          clear hho
          rintro _ w7 ⟨rfl, S⟩
          have HS := Aside0.mk S.empty
          clear S
          go_wp2_with fail
          exact ⟨⟨j + 1, by omega, by go_num, HS.out⟩, by simp [intOf]; omega⟩
        · have e1 : ¬ (j : Int) < 3 := by omega
          go_wp2_with fail
          exact ⟨⟨k + 1, by omega, by omega, by go_num, S⟩, by simp [intOf]; omega⟩
    · have d1 : ¬ (k : Int) ≤ 60 := by omega
      have HB := Aside0.mk S.bel
      clear S
      go_wp2_with fail
      go_ret
      exact ⟨rfl, HB.out⟩
end
end Go.Proofs.YtmafafingdpopaaGreatDoor.Sep
