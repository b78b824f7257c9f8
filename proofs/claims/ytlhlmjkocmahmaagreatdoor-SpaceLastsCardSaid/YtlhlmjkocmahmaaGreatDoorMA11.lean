/- Commit. -/
import Derived.Test.YtlhlmjkocmahmaaGreatDoorMA10
import Derived.StillTailTactics
import Derived.BigRegion
import Derived.Deep.RegionHeld3
import Derived.Deep.RegionLaw
import Derived.Deep.DeepCutAuto
namespace Go.Proofs.YtlhlmjkocmahmaaGreatDoor.Sep
open Go.Proofs Go.RowKit Go.ChangeMaps Go.Proofs.YtlhlmjkocmahmaaGreatDoorW.PrintWords Go.Proofs.YtlhlmjkocmahmaaGreatDoorW.PrintLast Go.Proofs.YtlhlmjkocmahmaaGreatDoorW.PrintMore Go.Proofs.YtlhlmjkocmahmaaGreatDoor.Dev Go.Proofs.YtlhlmjkocmahmaaGreatDoor.Errs Go.Proofs.YtlhlmjkocmahmaaGreatDoor.Jr Go.Proofs.YtlhlmjkocmahmaaGreatDoor.Help Go.Proofs.YtlhlmjkocmahmaaGreatDoor.IMap
set_option linter.unusedVariables false
set_option linter.unusedSimpArgs false
/-- The journal behind a Commit. -/
def commitV (v : JV) (s : DS) (M : MV) : JV :=
  if (loggedE v s (dat M)).1 = 0 then { roomV { v with tx := none } s M.length with seq := v.seq + 1, place := (v.place + (M.length : Int) + 2) % (v.size - 1), free := (roomV { v with tx := none } s M.length).free - ((M.length : Int) + 2), M := SM.over (roomV { v with tx := none } s M.length).M M }
  else { roomV { v with tx := none } s M.length with tx := none, ended := true }
theorem roomV_free (v : JV) (s : DS) (k : Nat) : (roomV v s k).free = v.free ∨ (roomV v s k).free = v.size - 1 := by
  unfold roomV cpV
  repeat' split
  all_goals first | exact .inl rfl | exact .inr rfl
theorem up_of_vals {M : MV} (h : SM.Up (vals M)) : SM.Up M := by
  unfold vals SM.on SM.Up at h
  rw [List.pairwise_map] at h
  exact h
section
variable {w0 w w' : World} {R : List Asn} {q p d : Nat} {ps : List (Nat × List Int)} {v : JV} {t : TV} {s : DS}
set_option maxRecDepth 100000 in
set_option maxHeartbeats 8000000 in
theorem commit_s (hr : Rt w0) (S : Sep w0 w (TBlk q p t :: MapA t.bw (vals t.M) :: JBlk p d v :: MapA v.bm (vals v.M) :: PoolA ps :: DevA d s :: R)) (hI : Ins v.M ps) (hIt : Ins t.M ps) (hG : (v.geo s).Ok) (hp : s.pend.length ≤ 90000) (hm : v.M.length ≤ 100000) (hk : ∀ x ∈ v.M, 0 ≤ x.1 ∧ x.1 ≤ 4096)
    (hn1 : 1 ≤ t.M.length) (hn2 : t.M.length ≤ 24) (htk : ∀ x ∈ t.M, 0 ≤ x.1 ∧ x.1 ≤ 4096 ∧ Byte x.2.2) (hpl : 0 ≤ v.place ∧ v.place ≤ 4096) (hal : openB q v = true ∧ s.off = false) (hsq : 0 ≤ v.seq ∧ v.seq ≤ 4000000000000) (hfr : -100000 ≤ v.free ∧ v.free ≤ 100000) :
    Calls Tryz.prog 33 #[.pointer (some ⟨q, 0, none⟩)] w fun e w' => e = .returned (.int .i64 (loggedE v s (dat t.M)).1) ∧
      Sep w0 w' (TBlk q p t :: MapA t.bw (vals t.M) :: JBlk p d (commitV v s t.M) :: MapA v.bm (vals (commitV v s t.M).M) :: PoolA ps :: DevA d (loggedE v s (dat t.M)).2 :: R) := by
  have h1 := hal.1
  unfold openB at h1
  simp at h1
  have hal0 : aliveE v s = 0 := by
    unfold aliveE
    rw [h1.1, hal.2]
    rfl
  have hf0 : fineE q v s 0 = 0 := by
    unfold fineE
    rw [if_pos hal.1, if_pos rfl, hal0]
  have hfv := (fineV_0 hf0).1
  have hoth : Oth w q v.tx := by rw [h1.2]; exact oth_self w q
  have hfi := fine_s S.toL hoth 0
  rw [hf0, hfv] at hfi
  have hvl : (vals t.M).length = t.M.length := SM.len_on _ _
  have hgs : 27 ≤ v.size := hG.size0
  have hgs2 : v.size ≤ 4096 := by
    have g2 : v.size ≤ (s.n : Int) - v.start := hG.fit
    have g3 : (s.n : Int) ≤ 4096 := hG.n1
    have g0 : 0 ≤ v.start := hG.start0
    omega
  obtain ⟨v0, hv0⟩ : ∃ v0, v0 = ({ v with tx := none } : JV) := ⟨_, rfl⟩
  have hgv := roomV_geo v0 s s t.M.length
  have hfz := roomV_free v0 s t.M.length
  have hupT : SM.Up t.M := up_of_vals S.swap.map.up
  have hupV : SM.Up v.M := up_of_vals (S.pull 3).map.up
  have hcV : commitV v s t.M = if (loggedE v s (dat t.M)).1 = 0 then { roomV v0 s t.M.length with seq := v.seq + 1, place := (v.place + (t.M.length : Int) + 2) % (v.size - 1), free := (roomV v0 s t.M.length).free - ((t.M.length : Int) + 2), M := SM.over (roomV v0 s t.M.length).M t.M } else { roomV v0 s t.M.length with tx := none, ended := true } := by rw [hv0]; rfl
  have hlo := fun w1 (S1 : Sep w0 w1 (TBlk q p t :: MapA t.bw (vals t.M) :: JBlk p d v0 :: MapA v0.bm (vals v0.M) :: PoolA ps :: DevA d s :: R)) => logged_s S1 (by rw [hv0]; exact hI) hIt (by rw [hv0]; exact hG) hp (by rw [hv0]; exact hm) (by rw [hv0]; exact hk) hn1 hn2 htk (by rw [hv0]; exact hpl)
  have hlE : loggedE v0 s (dat t.M) = loggedE v s (dat t.M) := by rw [hv0]; rfl
  rw [hlE] at hlo
  have HLO := Aside0.mk hlo
  have HCV := Aside0.mk hcV
  have HGV := Aside0.mk hgv
  have HFZ := Aside0.mk hfz
  have HUPT := Aside0.mk hupT
  have HUPV := Aside0.mk hupV
  have HIT := Aside0.mk hIt
  have HI := Aside0.mk hI
  have HVL := Aside0.mk hvl
  have HV0 := Aside0.mk hv0
  obtain ⟨c, hc⟩ : ∃ c, c = loggedE v s (dat t.M) := ⟨_, rfl⟩
  rw [← hc] at HLO HCV ⊢
  clear hlo hcV hgv hfz hupT hupV hIt hI hvl hlE hoth hfv hf0 hal0 h1 hal htk hk hG S hc hm hp
  go_enter Tryz.func33, Tryz.ntmps33
  go_wp2_with fail
  refine hfi.mono ?_
  clear hfi
  rintro _ w1 ⟨rfl, S⟩
  have S := S.ofL
  have c0 := S.cell 0 (v := .pointer (some ⟨p, 0, none⟩)) rfl
  have d7 := (S.pull 2).cell 7 (v := ptrO v.tx) rfl
  have f7 := (S.pull 2).free 7
  have S1 := (((S.pull 2).set 7 (.pointer none)).pull 2).pull 2
  have y1 := S1.cell 1 (v := .map (some t.bw)) rfl
  have y3 := (S1.pull 2).cell 3 (v := .int .i64 v.seq) rfl
  have hlen := fun ty => (S1.pull 1).map.len (P := Tryz.prog) Tryz.underlying113 ty
  rw [HVL.out] at hlen
  have hsz : ¬ ((t.M.length : Int) = 0) := by omega
  have hsq2 : ¬ v.seq > 4611686018427387904 := by omega
  have HS1 := Aside0.mk S1
  clear S S1
  go_wp2_with fail
  refine (HLO.out _ (by rw [HV0.out]; exact HS1.out)).mono ?_
  clear hlen y1 y3 c0 d7 f7 HS1 HLO
  obtain ⟨v1, hv1⟩ : ∃ v1, v1 = roomV v0 s t.M.length := ⟨_, rfl⟩
  rw [← hv1] at HCV HGV HFZ
  rintro _ w3 ⟨what, rfl, S⟩
  rw [← hv1] at S
  have eb : v0.bm = v.bm := by rw [HV0.out]
  have est : v1.start = v.start := by rw [HGV.out.2.1, HV0.out]
  have esz : v1.size = v.size := by rw [HGV.out.2.2.1, HV0.out]
  have esq : v1.seq = v.seq := by rw [HGV.out.2.2.2.1, HV0.out]
  have epl : v1.place = v.place := by rw [HGV.out.2.2.2.2.1, HV0.out]
  have eb1 : v1.bm = v.bm := by rw [HGV.out.2.2.2.2.2.1, HV0.out]
  have efr : v1.free = v.free ∨ v1.free = v.size - 1 := by rw [HV0.out] at HFZ; exact HFZ.out
  have hI1 : Ins v1.M ps := by
    have h := HGV.out.2.2.2.2.2.2.2.2
    rcases h with h | h
    · rw [h, HV0.out]
      exact HI.out
    · rw [h]
      exact fun x hx => absurd hx (List.not_mem_nil)
  have hup1 : SM.Up v1.M := by
    have h := HGV.out.2.2.2.2.2.2.2.2
    rcases h with h | h
    · rw [h, HV0.out]
      exact HUPV.out
    · rw [h]
      exact List.Pairwise.nil
  have HI1 := Aside0.mk hI1
  have HUP1 := Aside0.mk hup1
  have HSQ := Aside0.mk esq
  have HPL := Aside0.mk epl
  have HSZ := Aside0.mk esz
  have HB1 := Aside0.mk eb1
  have hfr1 : -100000 ≤ v1.free ∧ v1.free ≤ 100000 := by
    rcases efr with h | h
    · rw [h]; exact hfr
    · rw [h]; omega
  rw [eb] at S
  clear eb est esz esq epl eb1 efr hI1 hup1 hv1 HFZ HV0 HGV HI HUPV
  by_cases h0 : c.1 = 0
  · rw [errV_0 _ h0]
    have hcv := HCV.out
    rw [if_pos h0] at hcv
    have HCV2 := Aside0.mk hcv
    have H0 := Aside0.mk h0
    clear hcv h0 HCV
    have z1 := S.cell 1 (v := .map (some t.bw)) rfl
    go_wp2_with (first | (at_range; refine range_m (S.pull 1) rfl (.tmp 42) rfl Tryz.underlying113 rfl ?_; intro w4 S4))
    go_frame
    obtain ⟨r, hr⟩ : ∃ r, r = w3.heap.size := ⟨_, rfl⟩
    rw [← hr] at S4 ⊢
    clear S hr z1
    go_loopw [6] (fun _ wr => ∃ (X : MV) (left : Int → Bool) (cnt : Nat), Aside0 (SM.Up X ∧ Ins X ps ∧ ∀ k, SM.lkp X k = if left k = true then SM.lkp v1.M k else (SM.lkp t.M k).or (SM.lkp v1.M k)) ∧ Sep w0 wr (RngA t.bw r (vals t.M) left cnt :: MapA v.bm (vals X) :: JBlk p d v1 :: TBlk q p t :: PoolA ps :: DevA d c.2 :: R)) (fun _ wr => wr.rangeLeft t.bw r)
    case atStart =>
      refine ⟨v1.M, _, _, ⟨HUP1.out, HI1.out, fun k => ?_⟩, ((S4.pull 2).pull 3).pull 2⟩
      rw [vals_look]
      cases h : SM.lkp t.M k <;> simp
    case round =>
      clear S4
      obtain ⟨X, left, cnt, HX, S⟩ := hrel
      have hml := S.rng.left_eq
      go_wp2_with (first | (at_next; refine next_m S rfl (.tmp 43) rfl rfl ?_ ?_))
      · intro h0 hl0
        have hXe : X = SM.over v1.M t.M := SM.ext HX.out.1 (SM.Up.over HUP1.out t.M) fun k => by
          rw [HX.out.2.2 k, SM.look_over _ _ HUPT.out, hl0 k]
          rfl
        subst hXe
        have S := S.rng_end
        obtain ⟨X, hX⟩ : ∃ X, X = SM.over v1.M t.M := ⟨_, rfl⟩
        rw [← hX] at S HCV2
        clear hX HX hl0 hml h0
        have k3 := (S.pull 2).cell 3 (v := .int .i64 v.seq) (by rw [← HSQ.out]; rfl)
        have g3 := (S.pull 2).free 3
        have hw0 : IntKind.i64.wrap (v.seq + 1) = v.seq + 1 := by rw [IntKind.wrap_i64]; omega
        have hw1 : IntKind.i64.wrap (v.place + (t.M.length : Int)) = v.place + (t.M.length : Int) := by rw [IntKind.wrap_i64]; omega
        have hw2 : IntKind.i64.wrap (v.place + (t.M.length : Int) + 2) = v.place + (t.M.length : Int) + 2 := by rw [IntKind.wrap_i64]; omega
        have hm0 := Int.emod_nonneg (v.place + (t.M.length : Int) + 2) (show v.size - 1 ≠ 0 by omega)
        have hm1 := Int.emod_lt_of_pos (v.place + (t.M.length : Int) + 2) (show 0 < v.size - 1 by omega)
        have hw3 : IntKind.i64.wrap ((v.place + (t.M.length : Int) + 2).tmod (v.size - 1)) = (v.place + (t.M.length : Int) + 2) % (v.size - 1) := by
          rw [Int.tmod_eq_emod_of_nonneg (by omega), IntKind.wrap_i64]
          omega
        have hne : ¬ v.size - 1 = 0 := by omega
        have hw4 : IntKind.i64.wrap ((t.M.length : Int) + 2) = (t.M.length : Int) + 2 := by rw [IntKind.wrap_i64]; omega
        have hw5 : IntKind.i64.wrap (v1.free - ((t.M.length : Int) + 2)) = v1.free - ((t.M.length : Int) + 2) := by rw [IntKind.wrap_i64]; omega
        have SA : Sep w0 (wr.setCell ⟨p, 3, none⟩ (.int .i64 (v.seq + 1))) (JBlk p d { v1 with seq := v.seq + 1 } :: MapA t.bw (vals t.M) :: MapA v.bm (vals X) :: TBlk q p t :: PoolA ps :: DevA d c.2 :: R) := (S.pull 2).set 3 (.int .i64 (v.seq + 1))
        have HSA := Aside0.mk SA
        clear S SA hm0 hm1
        go_wp2_with fail
        have SA := HSA.out
        obtain ⟨WA, hWA⟩ : ∃ WA, WA = wr.setCell ⟨p, 3, none⟩ (.int .i64 (v.seq + 1)) := ⟨_, rfl⟩
        rw [← hWA] at SA ⊢
        clear hWA HSA k3 g3
        have a4 := SA.cell 4 (v := .int .i64 v.place) (by rw [← HPL.out]; rfl)
        have g4 := SA.free 4
        have b1 := (SA.pull 3).cell 1 (v := .map (some t.bw)) rfl
        have hlen := fun ty => (SA.drew.pull 1).map.len (P := Tryz.prog) Tryz.underlying113 ty
        rw [HVL.out] at hlen
        have hpc : Calls Tryz.prog 68 #[.pointer (some ⟨p, 0, none⟩)] WA.drew fun e w' => e = .returned (.int .i64 (v.size - 1)) ∧ w' = WA.drew := by
          have h := places_s SA.drew (by show 0 ≤ v1.size; rw [HSZ.out]; omega) (by show v1.size ≤ 4096; rw [HSZ.out]; omega)
          rw [← HSZ.out]
          exact h
        have SB : Sep w0 ((WA.setCell ⟨p, 4, none⟩ (.int .i64 ((v.place + (t.M.length : Int) + 2) % (v.size - 1)))).drew) (JBlk p d { v1 with seq := v.seq + 1, place := (v.place + (t.M.length : Int) + 2) % (v.size - 1) } :: MapA t.bw (vals t.M) :: MapA v.bm (vals X) :: TBlk q p t :: PoolA ps :: DevA d c.2 :: R) := (SA.set 4 (.int .i64 ((v.place + (t.M.length : Int) + 2) % (v.size - 1)))).drew
        have HSB := Aside0.mk SB
        clear SA SB
        go_still_tail 17, (by kernel_rfl)
        still_call hpc
        repeat still_step
        refine wpStill_nil ?_
        change wpList _ _ _ _ _ WA.drew
        go_wp2_with fail
        have SB := HSB.out
        obtain ⟨WB, hWB⟩ : ∃ WB, WB = (WA.setCell ⟨p, 4, none⟩ (.int .i64 ((v.place + (t.M.length : Int) + 2) % (v.size - 1)))).drew := ⟨_, rfl⟩
        rw [← hWB] at SB ⊢
        clear hWB HSB a4 g4 b1 hlen hpc
        have a5 := SB.cell 5 (v := .int .i64 v1.free) rfl
        have g5 := SB.free 5
        have b1 := (SB.pull 3).cell 1 (v := .map (some t.bw)) rfl
        have hlen := fun ty => (SB.drew.pull 1).map.len (P := Tryz.prog) Tryz.underlying113 ty
        rw [HVL.out] at hlen
        have SC : Sep w0 ((WB.setCell ⟨p, 5, none⟩ (.int .i64 (v1.free - ((t.M.length : Int) + 2)))).drew) (JBlk p d (commitV v s t.M) :: MapA t.bw (vals t.M) :: MapA v.bm (vals (commitV v s t.M).M) :: TBlk q p t :: PoolA ps :: DevA d c.2 :: R) := by
          rw [HCV2.out]
          exact (SB.set 5 (.int .i64 (v1.free - ((t.M.length : Int) + 2)))).drew
        have HSC := Aside0.mk SC
        clear SB SC HCV2
        go_still_tail 13, (by kernel_rfl)
        change wpList _ _ _ _ _ WB.drew
        go_wp2_with fail
        go_ret
        have h0 : (0 : Int) = c.1 := H0.out.symm
        refine ⟨congrArg (fun x => Ending.returned (.int .i64 x)) h0, ?_⟩
        have S := HSC.out
        exact ((S.pull 1).pull 3)
      · intro y v2 w2 cnt2 hv hly hwf S2 hlt hen
        rw [vals_look] at hv
        obtain ⟨x, hx, rfl⟩ := Option.map_eq_some_iff.1 hv
        obtain ⟨w5, hst, S5⟩ := (S2.pull 1).store_eq (P := Tryz.prog) Tryz.underlying113 Tryz.underlying3 hwf (rowV x.1)
        have k6 := (S2.pull 2).cell 6 (v := .map (some v.bm)) (by rw [← HB1.out]; rfl)
        have eX : SM.ins (vals X) y (rowV x.1) = vals (SM.ins X y x) := (SM.ins_on (fun x : Nat × List Int => rowV x.1) X y x).symm
        rw [eX] at S5
        have HS5 := Aside0.mk S5
        have HV := Aside0.mk hx
        have hle := S5.swap.rng.left_eq
        clear S S2 S5 hv hx eX
        go_wp2_with fail
        refine ⟨⟨SM.ins X y x, fun z => left z && !decide (z = y), cnt2, ⟨HX.out.1.ins y x, HX.out.2.1.ins y x (HIT.out _ (SM.look_mem HV.out)), fun k => ?_⟩, HS5.out.swap⟩, by rw [hle, hml]; exact hlt⟩
        rw [SM.look_ins]
        by_cases e : k = y
        · subst e
          simp [HV.out]
        · rw [if_neg e, HX.out.2.2 k]
          simp [e]
  · rw [errV_1 _ h0]
    have hcv := HCV.out
    rw [if_neg h0] at hcv
    have HCV2 := Aside0.mk hcv
    have hcd := fun w4 (S4 : Sep w0 w4 (JBlk p d { v1 with tx := none, ended := true } :: TBlk q p t :: MapA t.bw (vals t.M) :: MapA v.bm (vals v1.M) :: PoolA ps :: DevA d c.2 :: R)) => code_s hr S4 what c.1
    rw [errV_1 _ h0] at hcd
    have HCD := Aside0.mk hcd
    clear hcv h0 HCV hcd
    go_wp2_with fail
    refine (end_s (S.pull 2)).mono ?_
    clear S
    rintro _ w4 ⟨rfl, S⟩
    go_wp2_with fail
    refine (HCD.out _ S).mono ?_
    clear S
    rintro _ w5 ⟨rfl, S⟩
    go_wp2_with fail
    go_ret
    rw [HCV2.out]
    exact ⟨rfl, (S.pull 2).pull 2⟩
end
end Go.Proofs.YtlhlmjkocmahmaaGreatDoor.Sep
/- An open journal that lives, as the walks have it; what a crash leaves; what is opened then. -/
namespace Go.Proofs.YtlhlmjkocmahmaaGreatDoor.Sep
open Go.Proofs Go.RowKit Go.ChangeMaps Go.Proofs.YtlhlmjkocmahmaaGreatDoorW.PrintWords Go.Proofs.YtlhlmjkocmahmaaGreatDoorW.PrintLast Go.Proofs.YtlhlmjkocmahmaaGreatDoorW.PrintMore Go.Proofs.YtlhlmjkocmahmaaGreatDoor.Dev Go.Proofs.YtlhlmjkocmahmaaGreatDoor.Errs Go.Proofs.YtlhlmjkocmahmaaGreatDoor.Jr Go.Proofs.YtlhlmjkocmahmaaGreatDoor.Help Go.Proofs.YtlhlmjkocmahmaaGreatDoor.IMap
set_option linter.unusedVariables false
set_option linter.unusedSimpArgs false
/-! ### no fuse burns -/
def Still (s : DS) : Prop := s.off = false ∧ s.fuse = 0
section
variable {G : Geo} {s : DS} {J : JS} {W : Int → List Int}
theorem Still.write (h : Still s) (b : Int) (d : List Int) : Still (s.write b d).2 := by
  obtain ⟨h1, h2⟩ := h
  have hp : s.powered = (true, s) := by unfold DS.powered; rw [h1, h2]; rfl
  unfold DS.write
  rw [hp]
  repeat' split
  all_goals exact ⟨h1, h2⟩
theorem Still.flush (h : Still s) : Still s.flush.2 := by
  obtain ⟨h1, h2⟩ := h
  have hp : s.powered = (true, s) := by unfold DS.powered; rw [h1, h2]; rfl
  unfold DS.flush
  rw [hp]
  repeat' split
  all_goals exact ⟨h1, h2⟩
theorem Still.writes : ∀ (l : List (Int × List Int)) {s : DS} (h : Still s), Still (Jr.writes s l).2
  | [], _, h => h
  | x :: r, s, h => by
    unfold Jr.writes
    split
    · exact Still.writes r (h.write _ _)
    · exact h.write _ _
theorem Still.headed (h : Still s) (a b : Int) : Still (Jr.headed G s a b).2 := by
  unfold Jr.headed
  split
  · split
    · exact (h.flush.write _ _).flush
    · exact h.flush.write _ _
  · exact h.flush
theorem Still.checkpoint (h : Still s) (also : Bool) : Still (Jr.checkpoint G s J also).2.1 := by
  unfold Jr.checkpoint
  repeat' split
  · exact h
  · exact (Still.writes _ h).headed _ _
  · exact (Still.writes _ h).headed _ _
  · exact Still.writes _ h
theorem Still.openJ (h : Still s) : Still (Jr.openJ G s).2.1 := by
  unfold Jr.openJ
  dsimp only
  repeat' split
  · exact h
  · exact h.checkpoint _
  · exact h.checkpoint _
  · exact h
/-! ### what a crash leaves -/
/-- A device that lies calm; what is opened there is W. -/
structure Calm (G : Geo) (s : DS) (W : Int → List Int) : Prop where
  fits : Fits G s
  off : s.off = false
  pend : s.pend = []
  fuse : s.fuse = 0
  recs : Recs G s W
theorem crash_none (hp : s.pend = []) (ks : List Bool) : (s.crash ks).blk = s.blk := by
  refine blk_fun ?_
  show settled _ s.pend s.dur s.pend.length = s.dur
  rw [hp]
  rfl
theorem Live.calm (h : Live G s J W) (ks : List Bool) : Calm G (s.crash ks) W := by
  obtain ⟨s0, p0, Ts, hR, _⟩ := h.is
  exact ⟨h.fits.crash ks, rfl, rfl, rfl, s0, p0, Ts, by rw [crash_none h.pend]; exact hR⟩
theorem Doubt.calm {W' : Int → List Int} (h : Doubt G s W W') (ks : List Bool) : Calm G (s.crash ks) (if survives G s.pend ks = true then W' else W) := by
  refine ⟨h.fits.crash ks, rfl, rfl, rfl, ?_⟩
  cases hs : survives G s.pend ks
  · rw [if_neg (by decide)]
    exact h.no ks hs
  · rw [if_pos rfl]
    exact h.yes ks hs
theorem safe_calm (h : Jr.Safe G s W) (hf : Fits G s) (ks : List Bool) : Calm G (s.crash ks) W := ⟨hf.crash ks, rfl, rfl, rfl, h.1 ks⟩
theorem Fits.arm (h : Fits G s) (k : Int) (hk : k < 9223372036854775808) : Fits G (s.arm k).2 := by
  unfold DS.arm
  repeat' split
  · exact h
  · exact h
  · exact ⟨h.geo, h.n, ⟨h.ok.n0, h.ok.n1, h.ok.len, h.ok.pend, by show 0 ≤ k; omega, by show k < _; omega⟩, ⟨h.byte.dur, h.byte.pend⟩⟩
theorem arm_is (k : Int) : (s.arm k).2.dur = s.dur ∧ (s.arm k).2.pend = s.pend ∧ (s.arm k).2.off = s.off := by
  unfold DS.arm
  repeat' split
  all_goals exact ⟨rfl, rfl, rfl⟩
theorem Live.arm (h : Live G s J W) (k : Int) (hk : k < 9223372036854775808) : Live G (s.arm k).2 J W := by
  have e := arm_is (s := s) k
  refine ⟨Fits.arm h.fits k hk, by rw [e.2.2]; exact h.off, by rw [e.2.1]; exact h.pend, ?_⟩
  rw [blk_fun e.1]
  exact h.is
theorem Live.seq (h : Live G s J W) : J.seq = ((W (-1)).length : Int) := by
  obtain ⟨s0, p0, Ts, hR, h1, _⟩ := h.is
  rw [h1]
  exact hR.cnt
/-! ### what is opened -/
theorem open_calm (h : Calm G s W) : (Jr.openJ G s).1 = 0 ∧ (∃ J n, (Jr.openJ G s).2.2 = some (J, n) ∧ Live G (Jr.openJ G s).2.1 J W ∧ J.free = G.places ∧ J.away = []) ∧ (Jr.openJ G s).2.1.fuse = 0 := by
  obtain ⟨s0, p0, Ts, hR⟩ := h.recs
  have hst := Still.openJ (G := G) (s := s) ⟨h.off, h.fuse⟩
  rcases open_rec h.fits h.off h.pend hR with ⟨h1, ⟨J, h2, h3, h4, h5⟩, h6, h7⟩ | ⟨h1, h2, h3, h4, h5, h6⟩
  · exact ⟨h1, ⟨J, _, h2, h3, h4, h5⟩, hst.2⟩
  · exact absurd (hst.1.symm.trans h4) (by decide)
/-- Opened while a fuse may burn. -/
theorem open_armed (hf : Fits G s) (ho : s.off = false) (hp : s.pend = []) (hR : Recs G s W) :
    ((Jr.openJ G s).1 = 0 ∧ ∃ J n, (Jr.openJ G s).2.2 = some (J, n) ∧ Live G (Jr.openJ G s).2.1 J W) ∨
    ((Jr.openJ G s).1 = 3 ∧ (Jr.openJ G s).2.2 = none ∧ Fits G (Jr.openJ G s).2.1 ∧ Jr.Safe G (Jr.openJ G s).2.1 W) := by
  obtain ⟨s0, p0, Ts, hR⟩ := hR
  rcases open_rec hf ho hp hR with ⟨h1, ⟨J, h2, h3, h4, h5⟩, h6, h7⟩ | ⟨h1, h2, h3, h4, h5, h6⟩
  · exact .inl ⟨h1, J, _, h2, h3⟩
  · exact .inr ⟨h1, h2, h3, h5⟩
/-- Opened a second time: nothing is written. -/
theorem open_again (h : Live G s J W) (ha : ∃ s1 p1, Rec G s.blk s1 p1 [] W) : (Jr.openJ G s).1 = 0 ∧ (∃ J', (Jr.openJ G s).2.2 = some (J', 0) ∧ Live G s J' W ∧ J'.free = G.places ∧ J'.away = []) ∧ (Jr.openJ G s).2.1 = s := by
  obtain ⟨s1, p1, hR⟩ := ha
  rcases open_rec h.fits h.off h.pend hR with ⟨h1, ⟨J, h2, h3, h4, h5⟩, h6, h7⟩ | ⟨h1, h2, h3, h4, h5, h6⟩
  · refine ⟨h1, ⟨J, h2, ?_, h4, h5⟩, h7 rfl⟩
    rw [h7 rfl] at h3
    exact h3
  · exact absurd rfl h6
end
theorem overs_len : ∀ (Ts : List SMb) (A : SMb), ((overs A Ts).length : Int) ≤ (A.length : Int) + tot Ts
  | [], A => by show (A.length : Int) ≤ (A.length : Int) + 0; omega
  | m :: r, A => by
    have h1 := overs_len r (SM.over A m)
    have h2 : (SM.over A m).length ≤ A.length + m.length := by
      clear h1
      induction m generalizing A with
      | nil => exact Nat.le_refl _
      | cons y m ih =>
        have h3 : ∀ l : SMb, (SM.ins l y.1 y.2).length ≤ l.length + 1 := fun l => by
          induction l with
          | nil => exact Nat.le_refl _
          | cons z l ih2 =>
            unfold SM.ins
            split
            · simp
            · split
              · simp
              · simp only [List.length_cons]
                omega
        have h4 := ih (SM.ins A y.1 y.2)
        have h5 := h3 A
        show (SM.over (SM.ins A y.1 y.2) m).length ≤ _
        rw [List.length_cons]
        omega
    show ((overs (SM.over A m) r).length : Int) ≤ (A.length : Int) + ((m.length : Int) + 2 + tot r)
    omega
/-! ### an open journal -/
structure LiveV (G : Geo) (s : DS) (v : JV) (ps : List (Nat × List Int)) (W : Int → List Int) : Prop where
  live : Live G s (jsOf v) W
  geo : v.geo s = G
  ended : v.ended = false
  ins : Ins v.M ps
section
variable {G : Geo} {s : DS} {v : JV} {ps : List (Nat × List Int)} {W : Int → List Int} {t : TV}
theorem LiveV.ok (h : LiveV G s v ps W) : (v.geo s).Ok := by rw [h.geo]; exact h.live.fits.geo
theorem LiveV.pend (h : LiveV G s v ps W) : s.pend.length ≤ 80000 := by rw [h.live.pend]; exact Nat.zero_le _
theorem LiveV.off (h : LiveV G s v ps W) : s.off = false := h.live.off
theorem LiveV.alive (h : LiveV G s v ps W) : aliveE v s = 0 := by
  unfold aliveE
  rw [h.ended, h.live.off]
  rfl
theorem LiveV.few (h : LiveV G s v ps W) : v.M.length ≤ 4096 := by
  obtain ⟨s0, p0, Ts, hR, _, _, _, h4⟩ := h.live.is
  have h1 := overs_len Ts []
  have h2 := hR.tot_
  have h3 : (dat v.M).length = v.M.length := SM.len_on _ _
  have h5 : dat v.M = overs [] Ts := h4
  rw [h5] at h3
  have h6 := h.live.fits.geo
  have h7 := h6.n1
  have h8 := h6.fit
  have h9 := h6.start0
  unfold Geo.places at h2
  rw [List.length_nil] at h1
  omega
theorem LiveV.keys (h : LiveV G s v ps W) : ∀ x ∈ v.M, 0 ≤ x.1 ∧ x.1 ≤ 4096 := fun x hx => by
  obtain ⟨s0, p0, Ts, hR, _, _, _, h4⟩ := h.live.is
  have h5 : dat v.M = overs [] Ts := h4
  have h1 : (x.1, x.2.2) ∈ dat v.M := List.mem_map.2 ⟨x, hx, rfl⟩
  rw [h5] at h1
  have h2 := out_in h.live.fits.geo ((live_away h.live.fits.geo hR).2 _ h1).1
  have h3 := h.live.fits.geo.n1
  exact ⟨h2.1, by have := h2.2; omega⟩
theorem LiveV.place (h : LiveV G s v ps W) : 0 ≤ v.place ∧ v.place ≤ 4096 := by
  obtain ⟨s0, p0, Ts, hR, _, h2, _, _⟩ := h.live.is
  have h3 := places_pos h.live.fits.geo
  have h4 := Int.emod_nonneg (p0 + tot Ts) (show G.places ≠ 0 by omega)
  have h5 := Int.emod_lt_of_pos (p0 + tot Ts) (show 0 < G.places by omega)
  have h6 := h.live.fits.geo
  have h7 := h6.n1
  have h8 := h6.fit
  have h9 := h6.start0
  have h10 : v.place = (p0 + tot Ts) % G.places := h2
  have h11 : G.places = G.size - 1 := rfl
  rw [h10]
  omega
theorem LiveV.free (h : LiveV G s v ps W) : 0 ≤ v.free ∧ v.free ≤ 4096 := by
  have h1 := live_free h.live
  have h6 := h.live.fits.geo
  have h7 := h6.n1
  have h8 := h6.fit
  have h9 := h6.start0
  have h11 : G.places = G.size - 1 := rfl
  have h12 : (jsOf v).free = v.free := rfl
  omega
theorem LiveV.seq (h : LiveV G s v ps W) : v.seq = ((W (-1)).length : Int) := Live.seq h.live
theorem LiveV.read (h : LiveV G s v ps W) {b : Int} (hb : G.out b = true) : committedP v s b = (W b, 0) ∧ (W b).length = 512 := by
  obtain ⟨s0, p0, Ts, hR, _, _, _, h4⟩ := h.live.is
  have h5 : dat v.M = overs [] Ts := h4
  have hi := out_in h.live.fits.geo hb
  have hw := hR.want b hb
  have hrd := read_vw (s := s) h.off (b := b) ⟨hi.1, by rw [← h.live.fits.n]; exact hi.2⟩
  rw [vw_nil h.live.pend] at hrd
  unfold committedP
  rw [h5, hrd]
  cases hl : SM.lkp (overs [] Ts) b with
  | none =>
    rw [hl] at hw
    have : W b = s.blk b := hw
    rw [this]
    exact ⟨rfl, blk_len' h.live.fits hi.1 hi.2⟩
  | some l =>
    rw [hl] at hw
    have : W b = l := hw
    rw [this]
    exact ⟨rfl, ((live_away h.live.fits.geo hR).2 _ (SM.look_mem hl)).2.1⟩
/-- Commit of the blocks M, there being some. -/
theorem LiveV.commit (h : LiveV G s v ps W) {M : MV} (hI : Ins M ps) (hm : Jr.Good G (dat M)) (hseq : v.seq ≤ 4000000000000) :
    ((loggedE v s (dat M)).1 = 0 ∧ LiveV G (loggedE v s (dat M)).2 (commitV v s M) ps (laid W (dat M)) ∧ (commitV v s M).tx = none ∧ (commitV v s M).bm = v.bm) ∨ ((loggedE v s (dat M)).1 = 3 ∧ Doubt G (loggedE v s (dat M)).2 W (laid W (dat M))) := by
  have hdl : (dat M).length = M.length := SM.len_on _ _
  have hrj := room_js v s (dat M)
  rw [hdl] at hrj
  have hgv := roomV_geo v s s M.length
  have hgv0 := roomV_geo { v with tx := none } s s M.length
  have er : roomV { v with tx := none } s M.length = { roomV v s M.length with tx := none } := by
    unfold roomV cpV
    show (if _ then (if _ then _ else if _ then _ else _) else _) = _
    by_cases h1 : (M.length : Int) + 2 > v.free
    · rw [if_pos h1, if_pos h1]
      by_cases h2 : v.M = [] ∧ false = false
      · rw [if_pos h2, if_pos h2]
      · rw [if_neg h2, if_neg h2]
        by_cases h3 : (Jr.checkpoint (v.geo s) s ⟨v.seq, v.place, v.free, dat v.M⟩ false).1 = 0
        · rw [if_pos h3]
          exact (if_pos h3).trans rfl
        · rw [if_neg h3]
          exact (if_neg h3).trans rfl
    · rw [if_neg h1, if_neg h1]
  have hc1 : (Jr.commit G s (jsOf v) (dat M)).1 = (loggedE v s (dat M)).1 ∧ (Jr.commit G s (jsOf v) (dat M)).2.1 = (loggedE v s (dat M)).2 ∧ ((loggedE v s (dat M)).1 = 0 → (Jr.commit G s (jsOf v) (dat M)).2.2 = Jr.after G (jsOf (roomV v s M.length)) (dat M)) := by
    unfold Jr.commit loggedE
    rw [h.geo]
    rw [h.geo] at hrj
    rw [hrj]
    have e1 : (jsOf (roomV v s M.length)).seq = v.seq := hgv.2.2.2.1
    have e2 : (jsOf (roomV v s M.length)).place = v.place := hgv.2.2.2.2.1
    rw [e1, e2]
    by_cases h1 : (Jr.room G s (jsOf v) (dat M)).1 = 0
    · rw [if_pos h1, if_pos h1]
      by_cases h2 : (Jr.logged G (Jr.room G s (jsOf v) (dat M)).2.1 v.seq v.place (dat M)).1 = 0
      · rw [if_pos h2]
        exact ⟨h2.symm, rfl, fun _ => rfl⟩
      · rw [if_neg h2]
        exact ⟨rfl, rfl, fun q => absurd q h2⟩
    · rw [if_neg h1, if_neg h1]
      exact ⟨rfl, rfl, fun q => absurd q h1⟩
  have hlive := commit_live h.live hm (by show v.seq ≤ 4611686018427387904; omega)
  rw [hc1.1, hc1.2.1] at hlive
  rcases hlive with ⟨h1, h2, h3⟩ | ⟨h1, h2⟩
  · left
    have ecv : commitV v s M = { roomV v s M.length with tx := none, seq := v.seq + 1, place := (v.place + (M.length : Int) + 2) % (v.size - 1), free := (roomV v s M.length).free - ((M.length : Int) + 2), M := SM.over (roomV v s M.length).M M } := by
      unfold commitV
      rw [if_pos h1, er]
    have ejs : jsOf (commitV v s M) = Jr.after G (jsOf (roomV v s M.length)) (dat M) := by
      rw [ecv]
      unfold Jr.after jsOf
      have e1 : (roomV v s M.length).seq = v.seq := hgv.2.2.2.1
      have e2 : (roomV v s M.length).place = v.place := hgv.2.2.2.2.1
      have e3 : G.places = v.size - 1 := by rw [← h.geo]; rfl
      have e4 : dat (SM.over (roomV v s M.length).M M) = SM.over (dat (roomV v s M.length).M) (dat M) := SM.over_on _ _ _
      dsimp only
      rw [e1, e2, e3, e4, hdl]
    have hgeo : (commitV v s M).geo (loggedE v s (dat M)).2 = G := by
      have hn := h2.fits.n
      rw [ecv]
      show (⟨((loggedE v s (dat M)).2.n : Int), (roomV v s M.length).start, (roomV v s M.length).size⟩ : Geo) = G
      rw [← hn, hgv.2.1, hgv.2.2.1]
      have := h.geo
      rw [← this]
      rfl
    refine ⟨h1, ⟨?_, hgeo, ?_, ?_⟩, ?_, ?_⟩
    · rw [ejs, ← hc1.2.2 h1]
      exact h2
    · rw [ecv]
      exact hgv.2.2.2.2.2.2.2.1.trans h.ended
    · rw [ecv]
      intro x hx
      have hx2 : x ∈ SM.over (roomV v s M.length).M M := hx
      have hmo : ∀ (m l : MV), x ∈ SM.over l m → x ∈ l ∨ x ∈ m := fun m => by
        induction m with
        | nil => exact fun l h => .inl h
        | cons z r ih =>
          intro l h
          rcases ih (SM.ins l z.1 z.2) h with q | q
          · rcases SM.mem_ins q with e | q
            · exact .inr (by rw [e]; exact List.mem_cons_self)
            · exact .inl q
          · exact .inr (List.mem_cons_of_mem _ q)
      rcases hmo _ _ hx2 with q | q
      · rcases hgv.2.2.2.2.2.2.2.2 with e | e
        · rw [e] at q
          exact h.ins x q
        · rw [e] at q
          cases q
      · exact hI x q
    · rw [ecv]
    · rw [ecv]
      exact hgv.2.2.2.2.2.1
  · exact .inr ⟨h1, h2⟩
/-- Check. -/
theorem LiveV.check (h : LiveV G s v ps W) (ht : v.tx = none) :
    (checkE v s = 0 ∧ LiveV G (checkD v s) (checkV v s) ps W ∧ (checkV v s).tx = none ∧ (checkV v s).bm = v.bm ∧ (checkV v s).M = [] ∧ (checkV v s).free = G.places) ∨ (checkE v s = 3 ∧ Fits G (checkD v s) ∧ Jr.Safe G (checkD v s) W) := by
  have ha := h.alive
  unfold checkE checkV checkD
  rw [if_pos ha, if_pos ha, if_pos ha]
  have hc := checkpoint_live h.live
  have hjs : (⟨v.seq, v.place, v.free, dat v.M⟩ : JS) = jsOf v := rfl
  rw [hjs]
  have hcj := cpV_js v s
  have hcg := cpV_geo v s (Jr.checkpoint G s (jsOf v) false).2.1 false
  rw [h.geo] at hcj ⊢
  rcases hc with ⟨h1, h2, h3⟩ | ⟨h1, h2, h3, h4⟩
  · left
    rw [if_pos h1]
    rw [hcj] at h2 h3
    have hM : dat (cpV v s false).M = [] := congrArg JS.away h3
    have hM2 : (cpV v s false).M = [] := List.length_eq_zero_iff.1 (by
      have : (dat (cpV v s false).M).length = (cpV v s false).M.length := SM.len_on _ _
      rw [← this, hM]
      rfl)
    refine ⟨h1, ⟨h2, ?_, hcg.2.2.2.2.2.2.2.1.trans h.ended, by rw [hM2]; exact fun x hx => by cases hx⟩, hcg.2.2.2.2.2.2.1.trans ht, hcg.2.2.2.2.2.1, hM2, congrArg JS.free h3⟩
    have hn := h2.fits.n
    rw [hcg.1]
    show (⟨((Jr.checkpoint G s (jsOf v) false).2.1.n : Int), v.start, v.size⟩ : Geo) = G
    rw [← hn]
    have := h.geo
    rw [← this]
    rfl
  · right
    exact ⟨h1, h2, h4⟩
end
end Go.Proofs.YtlhlmjkocmahmaaGreatDoor.Sep
/- A second Begin; Commit of nothing; Write refused. -/
namespace Go.Proofs.YtlhlmjkocmahmaaGreatDoor.Sep
open Go.Proofs Go.RowKit Go.ChangeMaps Go.Proofs.YtlhlmjkocmahmaaGreatDoorW.PrintWords Go.Proofs.YtlhlmjkocmahmaaGreatDoorW.PrintLast Go.Proofs.YtlhlmjkocmahmaaGreatDoorW.PrintMore Go.Proofs.YtlhlmjkocmahmaaGreatDoor.Dev Go.Proofs.YtlhlmjkocmahmaaGreatDoor.Errs Go.Proofs.YtlhlmjkocmahmaaGreatDoor.Jr Go.Proofs.YtlhlmjkocmahmaaGreatDoor.Help Go.Proofs.YtlhlmjkocmahmaaGreatDoor.IMap
set_option linter.unusedVariables false
set_option linter.unusedSimpArgs false
section
variable {w0 w w' : World} {R : List Asn} {q p d : Nat} {ps : List (Nat × List Int)} {v : JV} {t : TV} {s : DS} {os : List (Nat × Array Value × TypeId)} {A : Option Addr} {n c : Nat} {l : List Int} {us : List UR}
set_option maxRecDepth 100000 in
set_option maxHeartbeats 4000000 in
theorem begin_busy (S : Sep w0 w (JBlk p d v :: DevA d s :: R)) (ha : aliveE v s = 0) (ht : v.tx = some q) :
    Calls Tryz.prog 19 #[.pointer (some ⟨p, 0, none⟩)] w fun e w' => e = .returned (.pointer none) ∧ Sep w0 w' (JBlk p d v :: DevA d s :: R) := by
  have hal := alive_s S
  rw [aliveV_0 ha, ha] at hal
  clear S
  go_enter Tryz.func19, Tryz.ntmps19
  go_wp2_with fail
  refine hal.mono ?_
  clear hal
  rintro _ w1 ⟨rfl, S⟩
  have c7 := S.cell 7 (v := ptrO v.tx) rfl
  rw [ht] at c7
  simp only [ptrO, Option.map_some] at c7
  have HS := Aside0.mk S
  clear S
  go_wp2_with fail
  go_ret
  exact ⟨rfl, HS.out⟩
set_option maxRecDepth 100000 in
set_option maxHeartbeats 4000000 in
theorem commit_none (S : Sep w0 w (TBlk q p t :: MapA t.bw (vals t.M) :: JBlk p d v :: MapA v.bm (vals v.M) :: PoolA ps :: DevA d s :: R)) (hM : t.M = []) (hal : openB q v = true ∧ s.off = false) :
    Calls Tryz.prog 33 #[.pointer (some ⟨q, 0, none⟩)] w fun e w' => e = .returned (.int .i64 0) ∧
      Sep w0 w' (TBlk q p t :: MapA t.bw (vals t.M) :: JBlk p d { v with tx := none } :: MapA v.bm (vals v.M) :: PoolA ps :: DevA d s :: R) := by
  have h1 := hal.1
  unfold openB at h1
  simp at h1
  have hal0 : aliveE v s = 0 := by
    unfold aliveE
    rw [h1.1, hal.2]
    rfl
  have hf0 : fineE q v s 0 = 0 := by
    unfold fineE
    rw [if_pos hal.1, if_pos rfl, hal0]
  have hfv := (fineV_0 hf0).1
  have hoth : Oth w q v.tx := by rw [h1.2]; exact oth_self w q
  have hfi := fine_s S.toL hoth 0
  rw [hf0, hfv] at hfi
  have hvl : (vals t.M).length = 0 := by rw [hM]; rfl
  have HVL := Aside0.mk hvl
  clear hoth hfv hf0 hal0 h1 hal hvl hM S
  go_enter Tryz.func33, Tryz.ntmps33
  go_wp2_with fail
  refine hfi.mono ?_
  clear hfi
  rintro _ w1 ⟨rfl, S⟩
  have S := S.ofL
  have c0 := S.cell 0 (v := .pointer (some ⟨p, 0, none⟩)) rfl
  have d7 := (S.pull 2).cell 7 (v := ptrO v.tx) rfl
  have f7 := (S.pull 2).free 7
  have S1 := (((S.pull 2).set 7 (.pointer none)).pull 2).pull 2
  have y1 := S1.cell 1 (v := .map (some t.bw)) rfl
  have hlen := fun ty => (S1.pull 1).map.len (P := Tryz.prog) Tryz.underlying113 ty
  rw [HVL.out] at hlen
  have HS1 := Aside0.mk S1
  clear S S1
  go_wp2_with fail
  go_ret
  exact ⟨rfl, HS1.out⟩
set_option maxRecDepth 100000 in
set_option maxHeartbeats 4000000 in
theorem twrite_big (S : Sep w0 w (TBlk q p t :: MapA t.bw (vals t.M) :: JBlk p d v :: MapA v.bm (vals v.M) :: PoolA ps :: DevA d s :: Own 1 1 t.un us.length (us.map UR.val) :: KeptA os :: R)) (hIt : Ins t.M ps) (hG : (v.geo s).Ok) (b : Int) (hal : openB q v = true ∧ s.off = false) (hb : (v.geo s).out b = true) (hl : n = 512)
    (hno : SM.lkp t.M b = none) (hbig : t.M.length = 24) :
    Calls Tryz.prog 22 #[.pointer (some ⟨q, 0, none⟩), .int .i64 b, .slice A n c] w fun e w' => e = .returned (.int .i64 72) ∧
      Sep w0 w' (TBlk q p t :: MapA t.bw (vals t.M) :: JBlk p d v :: MapA v.bm (vals v.M) :: PoolA ps :: DevA d s :: Own 1 1 t.un us.length (us.map UR.val) :: KeptA os :: R) := by
  subst hl
  have hob := out_not_log hG hb
  have hbn : b ≤ 4096 := by have := hG.n1; omega
  have hb0 : 0 ≤ b := hob.2.2.1
  have hwf : (Lit.int .i64 b).wf = true := WalkArith.wf_i64 (by omega)
  have h1 := hal.1
  unfold openB at h1
  simp at h1
  have hal0 : aliveE v s = 0 := by
    unfold aliveE
    rw [h1.1, hal.2]
    rfl
  have hf0 : fineE q v s 0 = 0 := by
    unfold fineE
    rw [if_pos hal.1, if_pos rfl, hal0]
  have hfv := (fineV_0 hf0).1
  have hoth : ∀ w2, Oth w2 q v.tx := fun w2 => by rw [h1.2]; exact oth_self w2 q
  have HO := Aside0.mk hoth
  have HF := Aside0.mk hf0
  have HFV := Aside0.mk hfv
  clear hob hal h1 hal0 hf0 hfv hoth hbn hb0
  have S1 := S.alloc #[.pointer (some ⟨q, 0, none⟩)] 32
  have S2 := S1.alloc #[.int .i64 b] 3
  have hsz : (w.alloc (.cells #[.pointer (some ⟨q, 0, none⟩)] 32)).heap.size = w.heap.size + 1 := by simp
  rw [hsz] at S2
  have e3 := S2.swap.cell 0 (v := .pointer (some ⟨q, 0, none⟩)) rfl
  have e4 := S2.cell 0 (v := .int .i64 b) rfl
  have S3 := S2.boxes
  have hat := at_s S3.toL hG b
  rw [hb, if_pos rfl] at hat
  clear S S1 S2 hsz S3
  go_enter Tryz.func22, Tryz.ntmps22
  go_wp2_with fail
  refine hat.mono ?_
  clear hat e3 e4
  rintro _ w1 ⟨rfl, S⟩
  have e3 := (S.pull 7).cell 0 (v := .pointer (some ⟨q, 0, none⟩)) rfl
  have e4 := (S.pull 6).cell 0 (v := .int .i64 b) rfl
  go_wp2_with fail
  refine (fine_s S (HO.out _) 0).mono ?_
  clear S e3 e4
  rw [HF.out, HFV.out]
  rintro _ w2 ⟨rfl, S⟩
  have e3 := (S.pull 7).cell 0 (v := .pointer (some ⟨q, 0, none⟩)) rfl
  have e4 := (S.pull 6).cell 0 (v := .int .i64 b) rfl
  have c1 := S.cell 1 (v := .map (some t.bw)) rfl
  have hmp := S.p3.map
  have hvl : SM.lkp (vals t.M) b = (SM.lkp t.M b).map fun x => rowV x.1 := vals_look _ _
  have hlk := fun W (h : MapS W t.bw (vals t.M)) => (MapS.at_ h).look (P := Tryz.prog) Tryz.underlying113 Tryz.underlying3 (zeroBytes W) hwf
  have hwv : ((SM.lkp (vals t.M) b).getD (.slice none 0 0)) = wasV (SM.lkp t.M b) := by
    rw [hvl]
    cases SM.lkp t.M b <;> rfl
  have hok : (SM.lkp (vals t.M) b).isSome = (SM.lkp t.M b).isSome := by rw [hvl]; cases SM.lkp t.M b <;> rfl
  rw [hwv, hok] at hlk
  clear hvl hwv hok
  obtain ⟨Aw, nw, cw, hwvE⟩ : ∃ Aw nw cw, Value.slice Aw nw cw = wasV (SM.lkp t.M b) := by
    cases SM.lkp t.M b with
    | none => exact ⟨_, _, _, rfl⟩
    | some x => exact ⟨_, _, _, rfl⟩
  obtain ⟨ok, hokE⟩ : ∃ ok, ok = (SM.lkp t.M b).isSome := ⟨_, rfl⟩
  rw [← hwvE, ← hokE] at hlk
  have HW := Aside0.mk hwvE
  have HOK := Aside0.mk hokE
  clear hwvE hokE
  go_wp2_with fail
  go_cut [8, 9] (fun bw bo wx => ∃ aw ao, bw = .pointer (some ⟨aw, 0, none⟩) ∧ bo = .pointer (some ⟨ao, 0, none⟩) ∧ Sep w0 wx (TBlk q p t :: MapA t.bw (vals t.M) :: Own 1 1 t.un us.length (us.map UR.val) :: PoolA ps :: JBlk p d v :: MapA v.bm (vals v.M) :: DevA d s :: KeptA os :: Blk ao #[.bool ok] 4 :: Blk aw #[.slice Aw nw cw] 57 :: Blk w.heap.size #[.pointer (some ⟨q, 0, none⟩)] 32 :: Blk (w.heap.size + 1) #[.int .i64 b] 3 :: R))
  case first =>
    have hl0 := hlk w2.drew hmp.drew
    have hl1 := fun o => hlk (w2.alloc o).drew (hmp.allocd o).drew
    have hl2 := fun o o' => hlk ((w2.alloc o).alloc o').drew ((hmp.allocd o).allocd o').drew
    have a3 := fun o => ka e3 o
    have b3 := fun o o' => ka (ka e3 o) o'
    have a4 := fun o => ka e4 o
    have b4 := fun o o' => ka (ka e4 o) o'
    have a1 := fun o => ka c1 o
    have b1 := fun o o' => ka (ka c1 o) o'
    go_region
    · have SX := ((S.alloc #[.slice Aw nw cw] 57).alloc #[.bool ok] 4).drew
      have hsx : (w2.alloc (.cells #[.slice Aw nw cw] 57)).heap.size = w2.heap.size + 1 := by simp
      rw [hsx] at SX
      go_wp2_with fail
      go_meet
      case rel => exact ⟨_, _, rfl, rfl, (((((((((((SX.pull 8).pull 9).pull 3).pull 3).pull 11).pull 7).pull 9).pull 8).pull 10).pull 11).pull 11).pull 11⟩
    · have SX := ((S.alloc #[.bool ok] 4).alloc #[.slice Aw nw cw] 57).drew
      have hsx : (w2.alloc (.cells #[.bool ok] 4)).heap.size = w2.heap.size + 1 := by simp
      rw [hsx] at SX
      go_wp2_with fail
      go_meet
      case rel => exact ⟨_, _, rfl, rfl, (((((((((((SX.swap.pull 8).pull 9).pull 3).pull 3).pull 11).pull 7).pull 9).pull 8).pull 10).pull 11).pull 11).pull 11⟩
  case rest =>
  obtain ⟨aw, ao, rfl, rfl, SZ⟩ := hcut
  clear e3 e4 c1 hmp S hlk
  have hlen := fun ty => SZ.swap.map.len (P := Tryz.prog) Tryz.underlying113 ty
  have hvl : (vals t.M).length = t.M.length := SM.len_on _ _
  rw [hvl] at hlen
  have e3 := (SZ.pull 10).cell 0 (v := .pointer (some ⟨q, 0, none⟩)) rfl
  have e4 := (SZ.pull 11).cell 0 (v := .int .i64 b) rfl
  have c1 := SZ.cell 1 (v := .map (some t.bw)) rfl
  have c2 := SZ.cell 2 (v := t.un) rfl
  have f2 := SZ.free 2
  have e9 := (SZ.pull 8).cell 0 (v := .bool ok) rfl
  have hgef : (t.M.length : Int) ≥ 24 := by omega
  have hokf : ok = false := by rw [HOK.out, hno]; rfl
  subst hokf
  have HSZ := Aside0.mk SZ
  clear SZ hvl
  go_upto_region 8 with fail
  go_cut [44] (fun s44 wx => s44 = .bool true ∧ wx = wc)
  case first =>
    go_wp2_with fail
    go_meet
    case rel => exact ⟨rfl, rfl⟩
  case rest =>
  obtain ⟨rfl, rfl⟩ := hcut
  go_wp2_with fail
  go_ret
  have S := HSZ.out
  have S := (((S.pull 8).drop.pull 8).drop.pull 8).drop.pull 8
  have S := S.drop
  exact ⟨rfl, ((((((S.pull 6).pull 4).pull 6).pull 6).pull 5).pull 5)⟩
end
end Go.Proofs.YtlhlmjkocmahmaaGreatDoor.Sep
