/- How many of a device's operations a commit takes: the plain law. -/
import Derived.Test.YtmafafingdpopaaGreatDoorMA15
import Derived.Test.YtmafafingdpopaaGreatDoorMA14
namespace Go.Proofs.YtmafafingdpopaaGreatDoor.Jr
open Go.Proofs Go.RowKit Go.Proofs.YtmafafingdpopaaGreatDoorW.PrintWords Go.Proofs.YtmafafingdpopaaGreatDoor.Dev Go.Proofs.YtmafafingdpopaaGreatDoor.Help
open Go.Proofs.YtmafafingdpopaaGreatDoor.SM (lkp ins over Up)
set_option linter.unusedVariables false
set_option linter.unusedSimpArgs false
section
variable {G : Geo} {s : DS} {J : JS} {W : Int → List Int} {m : SMb}
/-- k operations done, the fuse burning still. -/
def Burn (k : Int) (s : DS) (r : Int × DS) : Prop := r.1 = 0 ∧ r.2.off = false ∧ r.2.fuse = s.fuse - k
theorem powered_burn (ho : s.off = false) (hf : 1 < s.fuse) : s.powered = (true, { s with fuse := s.fuse - 1, off := false }) := by
  unfold DS.powered
  have h : (s.fuse - 1 == 0) = false := by
    rw [beq_eq_false_iff_ne]
    omega
  rw [ho, if_neg (by decide), if_pos (by omega), h]
  rfl
theorem write_burn (ho : s.off = false) (hf : 1 < s.fuse) {b : Int} {d : List Int} (hb : 0 ≤ b ∧ b < (s.n : Int)) (hd : d.length = 512) : Burn 1 s (s.write b d) := by
  have e : s.write b d = (0, { s with fuse := s.fuse - 1, off := false, pend := s.pend ++ [(b, d)] }) := by
    unfold DS.write
    rw [if_pos (hasB_iff.2 hb), if_pos hd, powered_burn ho hf]
    rfl
  rw [e]
  exact ⟨rfl, rfl, rfl⟩
theorem flush_burn (ho : s.off = false) (hf : 1 < s.fuse) : Burn 1 s s.flush := by
  unfold DS.flush
  rw [powered_burn ho hf]
  exact ⟨rfl, rfl, rfl⟩
theorem flush_last (ho : s.off = false) (hf : s.fuse = 1) : s.flush = (3, { s with fuse := 0, off := true }) := by
  have e : s.powered = (false, { s with fuse := 0, off := true }) := by
    unfold DS.powered
    rw [ho, hf]
    rfl
  unfold DS.flush
  rw [e]
  rfl
theorem writes_burn : ∀ (l : List (Int × List Int)) {s : DS} (h : Fits G s) (ho : s.off = false) (hf : (l.length : Int) < s.fuse) (hl : InB G l), Burn (l.length : Int) s (Jr.writes s l)
  | [], s, h, ho, _, _ => ⟨rfl, ho, (Int.sub_zero _).symm⟩
  | x :: r, s, h, ho, hf, hl => by
    have hx := hl x (by simp)
    rw [List.length_cons] at hf
    obtain ⟨h1, h2, h3⟩ := write_burn (s := s) ho (by omega) (b := x.1) (d := x.2) ⟨hx.1, by rw [← h.n]; exact hx.2.1⟩ hx.2.2.1
    obtain ⟨k1, k2, k3⟩ := writes_burn r (h.write hx.2.2.2) h2 (by omega) fun y hy => hl y (by simp [hy])
    unfold Jr.writes
    rw [if_pos h1]
    refine ⟨k1, k2, ?_⟩
    rw [k3, h3, List.length_cons]
    omega
theorem head_byte (seq place : Int) : Byte (headB seq place) := by
  unfold headB
  refine blk_byte (by rw [List.length_append, headHead_len, Go.Proofs.YtmafafingdpopaaGreatDoor.Sep.be_len]; decide) ?_
  unfold headHead magicH
  refine Byte.app (Byte.app (Byte.app (Byte.app ?_ (be_byte _ _)) (be_byte _ _)) (be_byte _ _)) (be_byte _ _)
  intro y hy
  simp at hy
  omega
theorem headed_burn (h : Fits G s) (ho : s.off = false) (hf : 3 < s.fuse) (seq place : Int) : Burn 3 s (Jr.headed G s seq place) := by
  obtain ⟨h1, h2, h3⟩ := flush_burn (s := s) ho (by omega)
  have hF := h.flush
  have hst := start_in_ h.geo
  obtain ⟨k1, k2, k3⟩ := write_burn (s := s.flush.2) h2 (by omega) (b := G.start) (d := headB seq place) ⟨hst.1, by rw [← hF.n]; exact hst.2⟩ (headB_len _ _)
  obtain ⟨j1, j2, j3⟩ := flush_burn (s := (s.flush.2.write G.start (headB seq place)).2) k2 (by omega)
  unfold Jr.headed
  rw [if_pos h1, if_pos k1]
  exact ⟨j1, j2, by omega⟩
theorem checkpoint_burn (h : Fits G s) (ho : s.off = false) (hl : InB G J.away) (hf : (J.away.length : Int) + 3 < s.fuse) (hn : J.away ≠ []) : (checkpoint G s J false).1 = 0 ∧ (checkpoint G s J false).2.1.off = false ∧ (checkpoint G s J false).2.1.fuse = s.fuse - ((J.away.length : Int) + 3) := by
  obtain ⟨h1, h2, h3⟩ := writes_burn J.away h ho (by omega) hl
  have hF := Fits.writes J.away h fun x hx => (hl x hx).2.2.2
  obtain ⟨k1, k2, k3⟩ := headed_burn hF h2 (by omega) J.seq J.place
  unfold checkpoint
  rw [if_neg (fun q => hn q.1), if_pos h1, if_pos k1]
  exact ⟨rfl, k2, by show _ = _; rw [k3, h3]; omega⟩
theorem logged_burn (h : Fits G s) (ho : s.off = false) (hm : Good G m) (seq place : Int) (hf : (m.length : Int) + 4 < s.fuse) : Burn ((m.length : Int) + 4) s (Jr.logged G s seq place m) := by
  have hIB : InB G (logW G place 0 (images seq m)) := fun x hx => by
    obtain ⟨j, hj⟩ := List.getElem?_of_mem hx
    rw [logW_get] at hj
    cases hi : (images seq m)[j]? with
    | none => rw [hi] at hj; cases hj
    | some d =>
      rw [hi] at hj
      have e := Option.some.inj hj
      rw [← e]
      have h1 := images_ok (seq := seq) hm d (List.mem_of_getElem? hi)
      have h2 := at_range h.geo (place + (0 + (j : Int)))
      exact ⟨h2.2.2.1, h2.2.2.2, h1.1, h1.2.1⟩
  have hl : (logW G place 0 (images seq m)).length = m.length + 1 := by rw [logW_len, images_len]
  obtain ⟨h1, h2, h3⟩ := writes_burn _ h ho (by rw [hl]; omega) hIB
  rw [hl] at h3
  have hF := Fits.writes _ h fun x hx => (hIB x hx).2.2.2
  obtain ⟨k1, k2, k3⟩ := flush_burn h2 (by omega)
  have hF2 := hF.flush
  have hat := at_range h.geo (place + ((m.length : Int) + 1))
  obtain ⟨j1, j2, j3⟩ := write_burn (b := G.at_ (place + ((m.length : Int) + 1))) (d := commitB seq) k2 (by omega) ⟨hat.2.2.1, by rw [← hF2.n]; exact hat.2.2.2⟩ (commitB_len _)
  obtain ⟨i1, i2, i3⟩ := flush_burn j2 (by omega)
  unfold Jr.logged
  dsimp only
  rw [if_pos h1, if_pos k1, if_pos j1]
  exact ⟨i1, i2, by omega⟩
/-- The operations of a commit of k blocks, with so many free and so many away. -/
def stepsOf (k free away : Int) : Int := if k + 2 > free then k + 4 + away + 3 else k + 4
theorem Live.away_in (L : Live G s J W) : InB G J.away := by
  obtain ⟨hf, ho, hp, s0, p0, Ts, hR, j1, j2, j3, j4⟩ := L
  obtain ⟨hu, hin⟩ := live_away hf.geo hR
  rw [j4]
  exact fun x hx => ⟨(out_in hf.geo (hin x hx).1).1, (out_in hf.geo (hin x hx).1).2, (hin x hx).2⟩
theorem Live.all_home (L : Live G s J W) (h : J.away = []) : J.free = G.places := by
  obtain ⟨hf, ho, hp, s0, p0, Ts, hR, j1, j2, j3, j4⟩ := L
  rw [h] at j4
  have hT := overs_nil (fun m hm => (chain_good Ts s0 p0 hR.chain m hm).len0) j4.symm
  rw [j3, hT]
  show G.places - 0 = _
  omega
theorem room_burn (L : Live G s J W) (hm : Good G m) (hf : stepsOf (m.length : Int) J.free (J.away.length : Int) < s.fuse) :
    (room G s J m).1 = 0 ∧ (room G s J m).2.1.off = false ∧ Fits G (room G s J m).2.1 ∧ (room G s J m).2.1.fuse = s.fuse - (stepsOf (m.length : Int) J.free (J.away.length : Int) - ((m.length : Int) + 4)) := by
  unfold stepsOf at hf ⊢
  unfold room
  by_cases h : (m.length : Int) + 2 > J.free
  · rw [if_pos h] at hf ⊢
    rw [if_pos h]
    have hn : J.away ≠ [] := fun q => by
      have h1 := Live.all_home L q
      have h2 := L.fits.geo.size0
      have h3 := hm.len1
      unfold Geo.places at h1
      omega
    obtain ⟨h1, h2, h3⟩ := checkpoint_burn (J := J) L.fits L.off (Live.away_in L) (by omega) hn
    have hF : Fits G (checkpoint G s J false).2.1 := by
      rcases checkpoint_live L with ⟨_, k, _⟩ | ⟨k, _⟩
      · exact k.fits
      · rw [h1] at k
        cases k
    exact ⟨h1, h2, hF, by omega⟩
  · rw [if_neg h] at hf ⊢
    rw [if_neg h]
    exact ⟨rfl, L.off, L.fits, by show s.fuse = _; omega⟩
end
end Go.Proofs.YtmafafingdpopaaGreatDoor.Jr
/- How many of a device's operations a commit takes: the journal that is walked. -/
namespace Go.Proofs.YtmafafingdpopaaGreatDoor.Sep
open Go.Proofs Go.RowKit Go.ChangeMaps Go.Proofs.YtmafafingdpopaaGreatDoorW.PrintWords Go.Proofs.YtmafafingdpopaaGreatDoorW.PrintLast Go.Proofs.YtmafafingdpopaaGreatDoorW.PrintMore Go.Proofs.YtmafafingdpopaaGreatDoor.Dev Go.Proofs.YtmafafingdpopaaGreatDoor.Errs Go.Proofs.YtmafafingdpopaaGreatDoor.Jr Go.Proofs.YtmafafingdpopaaGreatDoor.Help Go.Proofs.YtmafafingdpopaaGreatDoor.IMap
set_option linter.unusedVariables false
set_option linter.unusedSimpArgs false
section
variable {w0 w w' : World} {R : List Asn} {q p d : Nat} {ps : List (Nat × List Int)} {v : JV} {t : TV} {s : DS} {sa : Addr} {G : Geo} {T : Tn} {W : Int → List Int} {hs : List VB} {J : JS} {M : MV}
/-- The device behind a commit of M. -/
def comD (v : JV) (s : DS) (M : MV) : DS := if M = [] then s else (loggedE v s (dat M)).2
def stepsN (k free away : Int) : Int := if k = 0 then 0 else Jr.stepsOf k free away
theorem com_still (L : LiveV G s v ps W) (h0 : s.fuse = 0) (hI : Ins M ps) (X : TxOk G M) (hseq : (W (-1)).length ≤ 1000000) : (M ≠ [] → (loggedE v s (dat M)).1 = 0) ∧ (comD v s M).fuse = 0 := by
  have h5 := Still.loggedE (s := s) ⟨L.off, h0⟩ v (dat M)
  have hsq := L.seq
  unfold comD
  by_cases hM : M = []
  · rw [if_pos hM]
    exact ⟨fun h => absurd hM h, h0⟩
  · rw [if_neg hM]
    refine ⟨fun _ => ?_, h5.2⟩
    rcases L.commit hI (X.good hM) (by omega) with ⟨h1, _⟩ | ⟨h1, h2⟩
    · exact h1
    · exact absurd (h5.1.symm.trans h2.off) (by decide)
theorem com_steps (L : LiveV G s v ps W) (X : TxOk G M) (hf : s.fuse = stepsN (M.length : Int) v.free (v.M.length : Int) + 1) : (M ≠ [] → (loggedE v s (dat M)).1 = 0) ∧ (comD v s M).fuse = 1 := by
  unfold comD
  unfold stepsN at hf
  by_cases hM : M = []
  · rw [if_pos hM]
    rw [hM, if_pos (show ((([] : MV).length : Nat) : Int) = 0 from rfl)] at hf
    exact ⟨fun h => absurd hM h, hf⟩
  · have hl : M.length ≠ 0 := fun h => hM (List.length_eq_zero_iff.1 h)
    rw [if_neg hM]
    rw [if_neg (by omega)] at hf
    have hg := X.good hM
    have hdl : (dat M).length = M.length := SM.len_on _ _
    have hdv : (jsOf v).away.length = v.M.length := SM.len_on _ _
    have hfr : (jsOf v).free = v.free := rfl
    obtain ⟨h1, h2, h3, h4⟩ := Jr.room_burn (J := jsOf v) L.live hg (by rw [hdl, hdv, hfr]; omega)
    rw [hdl, hdv, hfr] at h4
    obtain ⟨k1, k2, k3⟩ := Jr.logged_burn h3 h2 hg v.seq v.place (by rw [hdl]; omega)
    rw [hdl] at k3
    unfold loggedE
    rw [L.geo, if_pos h1]
    exact ⟨fun _ => k1, by rw [k3, h4]; omega⟩
/-- Commit that is known to go well. -/
theorem tcommit_x (hr : Rt w0) (L : LiveV G s v ps W) (S : Sep w0 w (TBlk q p t :: MapA t.bw (vals t.M) :: JBlk p d { v with tx := some q } :: MapA v.bm (vals v.M) :: PoolA ps :: DevA d s :: R)) (hIt : Ins t.M ps) (X : TxOk G t.M) (hseq : (W (-1)).length ≤ 1000000) (h0 : t.M ≠ [] → (loggedE v s (dat t.M)).1 = 0) :
    Calls Tryz.prog 24 #[.pointer (some ⟨q, 0, none⟩)] w fun e w' => ∃ v' : JV, e = .returned (.int .i64 0) ∧ LiveV G (comD v s t.M) v' ps (if t.M = [] then W else laid W (dat t.M)) ∧ v'.tx = none ∧ v'.bm = v.bm ∧
      Sep w0 w' (TBlk q p t :: MapA t.bw (vals t.M) :: JBlk p d v' :: MapA v'.bm (vals v'.M) :: PoolA ps :: DevA d (comD v s t.M) :: R) := by
  have hg : ({ v with tx := some q } : JV).geo s = G := L.geo
  have hok : (({ v with tx := some q } : JV).geo s).Ok := by rw [hg]; exact L.live.fits.geo
  have hsq := L.seq
  unfold comD
  by_cases hM : t.M = []
  · rw [if_pos hM, if_pos hM]
    refine (commit_none (v := { v with tx := some q }) S hM ⟨open_live L q, L.off⟩).mono ?_
    rintro e w' ⟨rfl, S1⟩
    exact ⟨{ v with tx := none }, rfl, ⟨L.live, L.geo, L.ended, L.ins⟩, rfl, rfl, S1⟩
  · rw [if_neg hM, if_neg hM]
    have hgd := X.good hM
    have hl1 : 1 ≤ t.M.length := by
      cases h : t.M with
      | nil => exact absurd h hM
      | cons a r => exact Nat.succ_le_succ (Nat.zero_le _)
    have hfr := L.free
    have hpd := L.pend
    have hfw := L.few
    refine (commit_s (v := { v with tx := some q }) hr S L.ins hIt hok (by omega) (show v.M.length ≤ 100000 by omega) L.keys hl1 X.few (fun x hx => ?_) L.place ⟨open_live L q, L.off⟩ (show 0 ≤ v.seq ∧ v.seq ≤ 4000000000000 by omega) (show -100000 ≤ v.free ∧ v.free ≤ 100000 by omega)).mono ?_
    · have h1 := X.ok x hx
      have h2 := out_in L.live.fits.geo h1.1
      have h3 := L.live.fits.geo.n1
      exact ⟨h2.1, by omega, h1.2.2⟩
    · rintro e w' ⟨rfl, S1⟩
      have S2 : Sep w0 w' (TBlk q p t :: MapA t.bw (vals t.M) :: JBlk p d (commitV v s t.M) :: MapA v.bm (vals (commitV v s t.M).M) :: PoolA ps :: DevA d (loggedE v s (dat t.M)).2 :: R) := S1
      have c1 : (loggedE ({ v with tx := some q } : JV) s (dat t.M)).1 = 0 := h0 hM
      rcases L.commit hIt hgd (by omega) with ⟨_, k2, k3, k4⟩ | ⟨k1, _⟩
      · rw [← k4] at S2
        exact ⟨commitV v s t.M, by rw [c1], k2, k3, k4, S2⟩
      · rw [h0 hM] at k1
        cases k1
/-- Open of a device that lies calm: nothing is away. -/
theorem topen_empty (hr : Rt w0) (hsn : Sen sa w0) (S : Sep w0 w (TownA T :: DevA T.d s :: R)) (C : Calm G s W) (H : Holds G T W) :
    Calls Tryz.prog 14 #[.pointer (some ⟨T.tp, 0, none⟩)] w fun e w' => ∃ (s1 : DS) (taken : Int) (p : Nat) (v : JV) (ps : List (Nat × List Int)), s1.fuse = 0 ∧ e = .returned (.tuple #[.pointer (some ⟨p, 0, none⟩), .int .i64 taken, .int .i64 0]) ∧ LiveV G s1 v ps W ∧ v.tx = none ∧ v.M = [] ∧ v.free = T.size - 1 ∧ Sep w0 w' (JBlk p T.d v :: MapA v.bm (vals v.M) :: PoolA ps :: DevA T.d s1 :: TownA T :: R) := by
  have hg := geo_is C.fits H
  have h := topen_s hr hsn S (by rw [hg]; exact C.fits.geo) C.fits.byte (by rw [C.pend]; exact Nat.zero_le _)
  rw [hg] at h
  obtain ⟨h1, ⟨J, n, h2, h3, hfr, haw⟩, h4⟩ := open_calm C
  refine h.mono fun e w' hP => ?_
  rcases hP with ⟨J', taken, p, v, ps, g1, rfl, g3, g4, g5, g6, g7, g8, S1⟩ | ⟨g1, _, _⟩
  · rw [h2] at g1
    cases g1
    refine ⟨_, n, p, v, ps, h4, rfl, ⟨by rw [g5]; exact h3, ?_, g7, g8⟩, g6, ?_, ?_, S1⟩
    · have hn := h3.fits.n
      show (⟨((Jr.openJ G s).2.1.n : Int), v.start, v.size⟩ : Geo) = G
      rw [← hn, g3, g4, H.start, H.size]
    · have h9 : dat v.M = [] := (congrArg JS.away g5).trans haw
      exact List.length_eq_zero_iff.1 (by
        have h10 : (dat v.M).length = v.M.length := SM.len_on _ _
        rw [← h10, h9]
        rfl)
    · have h9 : v.free = J.free := congrArg JS.free g5
      rw [h9, hfr, H.size]
      rfl
  · rw [h2] at g1
    cases g1
/-- Check of what is home. -/
theorem check_none (L : LiveV G s v ps W) (hM : v.M = []) : checkE v s = 0 ∧ checkV v s = v ∧ checkD v s = s := by
  have ha := L.alive
  have hd : dat v.M = [] := by rw [hM]; rfl
  have hc : Jr.checkpoint (v.geo s) s ⟨v.seq, v.place, v.free, dat v.M⟩ false = (0, s, ⟨v.seq, v.place, v.free, dat v.M⟩) := by
    unfold Jr.checkpoint
    rw [if_pos ⟨hd, rfl⟩]
  unfold checkE checkV checkD
  rw [if_pos ha, if_pos ha, if_pos ha, hc]
  refine ⟨rfl, ?_, rfl⟩
  rw [if_pos rfl]
  unfold cpV
  rw [if_pos ⟨hM, rfl⟩]
theorem wantN_ge {t : TV} {W Wn : Int → List Int} (h : Wn = (if t.M = [] then W else laid W (dat t.M))) : (W (-1)).length ≤ (Wn (-1)).length := by
  rw [h]
  split
  · exact Nat.le_refl _
  · unfold laid
    rw [if_pos rfl, List.length_cons]
    omega
/-- The last operation of a fuse, and the crash. -/
theorem LiveV.end_ (L : LiveV G s v ps W) (hf : s.fuse = 1) : s.flush.1 = 3 ∧ Calm G (s.flush.2.crash []) W := by
  have e := Jr.flush_last L.off hf
  rw [e]
  exact ⟨rfl, Live.calm L.live []⟩
end
end Go.Proofs.YtmafafingdpopaaGreatDoor.Sep
/- JournalSteps: the walk. -/
namespace Go.Proofs.YtmafafingdpopaaGreatDoor.Sep
open Go.Proofs Go.RowKit Go.ChangeMaps Go.Proofs.YtmafafingdpopaaGreatDoorW.PrintWords Go.Proofs.YtmafafingdpopaaGreatDoorW.PrintLast Go.Proofs.YtmafafingdpopaaGreatDoorW.PrintMore Go.Proofs.YtmafafingdpopaaGreatDoor.Dev Go.Proofs.YtmafafingdpopaaGreatDoor.Errs Go.Proofs.YtmafafingdpopaaGreatDoor.Jr Go.Proofs.YtmafafingdpopaaGreatDoor.Help Go.Proofs.YtmafafingdpopaaGreatDoor.IMap
set_option linter.unusedVariables false
set_option linter.unusedSimpArgs false
section
variable {w0 w w' : World} {R : List Asn} {p d : Nat} {ps : List (Nat × List Int)} {v : JV} {s : DS} {sa : Addr} {G : Geo} {T : Tn} {W : Int → List Int} {hs : List VB} {J : JS}
set_option maxRecDepth 100000 in
set_option maxHeartbeats 16000000 in
theorem steps_s (hr : Rt w) (hsn : Sen sa w) (n start size : Int) {At Al : Option Addr} {ct cl : Nat} {txs : List (List Pt)} {l : List Pt} (XT : TxsIn w At txs) (XL : PutsIn w Al l) :
    Calls Tryz.prog 7 #[.int .i64 n, .int .i64 start, .int .i64 size, .slice At txs.length ct, .slice Al l.length cl] w fun e w' => e = .returned (.bool true) ∧ Below w.heap.size w w' := by
  have HXT := Aside0.mk XT
  have HXL := Aside0.mk XL
  have hhd := head_s hr hsn (Sep.start w)
  clear XT XL
  go_enter Tryz.func7, Tryz.ntmps7
  go_wp2_with fail
  refine hhd.mono ?_
  clear hhd
  rintro _ w1 ⟨rfl, S⟩
  have htw := town_s hr S n start size
  clear S
  go_wp2_with fail
  refine htw.mono ?_
  clear htw
  rintro e w2 ⟨T, s, G, hs, rfl, C, H, hh, S⟩
  have hop := topen_empty hr hsn S C H
  have HH := Aside0.mk (And.intro H hh)
  clear S C H hh
  go_wp2_with fail
  refine hop.mono ?_
  clear hop
  rintro e w3 ⟨s1, taken, p, v, ps, hf0, rfl, L, htx, _, _, S⟩
  have S := (((S.pull 5).pull 4).pull 5)
  have HL := Aside0.mk (And.intro L hf0)
  clear L hf0
  go_upto_block 0 with fail
  go_cut [17] (fun _ wx => ∃ (T' : Tn) (s' : DS) (v' : JV) (ps' : List (Nat × List Int)) (hs' : List VB) (W' : Int → List Int), T'.tp = T.tp ∧ T'.d = T.d ∧ v'.tx = none ∧ Aside0 (LiveV G s' v' ps' W' ∧ s'.fuse = 0 ∧ Holds G T' W' ∧ (∀ x ∈ T'.ws, x ∈ hs') ∧ (W' (-1)).length ≤ 21) ∧
    Sep w wx [TownA T', DevA T.d s', HeldA hs', JBlk p T.d v', MapA v'.bm (vals v'.M), PoolA ps'])
  case first =>
    go_wp2_with fail
    go_loopw [17] (fun iv wr => ∃ (j : Nat) (T' : Tn) (s' : DS) (v' : JV) (ps' : List (Nat × List Int)) (hs' : List VB) (W' : Int → List Int), j ≤ txs.length ∧ j ≤ 20 ∧ iv = .int .i64 (j : Int) ∧ T'.tp = T.tp ∧ T'.d = T.d ∧ v'.tx = none ∧ Aside0 (LiveV G s' v' ps' W' ∧ s'.fuse = 0 ∧ Holds G T' W' ∧ (∀ x ∈ T'.ws, x ∈ hs') ∧ (W' (-1)).length ≤ 1 + j) ∧
      Sep w wr [TownA T', DevA T.d s', HeldA hs', JBlk p T.d v', MapA v'.bm (vals v'.M), PoolA ps']) (fun i _ => (20 - intOf i).toNat)
    case atStart => exact ⟨0, T, s1, v, ps, hs, zeroW, Nat.zero_le _, Nat.zero_le _, rfl, rfl, rfl, htx, ⟨HL.out.1, HL.out.2, HH.out.1, HH.out.2, Nat.le_refl _⟩, S⟩
    case round =>
      clear S HL HH htx
      obtain ⟨j, T', s', v', ps', hs', W', hj, hj20, rfl, htp, hd, htx, HF, S⟩ := hrel
      by_cases hlt : j < txs.length ∧ j < 20
      · obtain ⟨g1, g2⟩ := hlt
        have d1 : decide ((j : Int) < (txs.length : Int)) = true := decide_eq_true (by omega)
        have d2 : decide ((j : Int) < 20) = true := decide_eq_true (by omega)
        have g1' : (j : Int) < (txs.length : Int) := by omega
        obtain ⟨ad, B, cB, rfl, hPT, hX⟩ := HXT.out.get j g1
        have HPT := Aside0.mk hPT
        have hbeg := begin_yes ((S.pull 1).pull 3) HF.out.1.alive htx
        clear hPT S
        go_wp2_with fail
        refine hbeg.mono ?_
        clear hbeg
        rintro _ w4 ⟨q, b, rfl, S⟩
        have S := (((((S.pull 7).pull 7).pull 4).pull 4).pull 4)
        have x0 := hX _ S.bel
        have hfl := fill_s (T := T') (c := cB) S HF.out.1 HF.out.2.2.1 HF.out.2.2.2.1 HPT.out
        rw [htp] at hfl
        clear S HPT
        go_wp2_with fail
        refine hfl.mono ?_
        clear hfl x0 hX
        rintro e w5 ⟨t', ps2, hs2, nx, a, cn, sn, rfl, F, hsp, hsh, S⟩
        have hWl := HF.out.2.2.2.2
        obtain ⟨Wn, hWn⟩ := wantN t' W'
        have hwn := wantN_len hWn
        have hcs := com_still (HF.out.1.sub hsp) HF.out.2.1 F.ins F.tx (by omega)
        have hco := tcommit_x hr (HF.out.1.sub hsp) S F.ins F.tx (by omega) hcs.1
        rw [← hWn] at hco
        have hHn := F.holds HF.out.2.2.1 (.slice (some a) T'.outs.length cn)
        rw [← hWn] at hHn
        obtain ⟨s3, hs3⟩ : ∃ s3, s3 = comD v' s' t'.M := ⟨_, rfl⟩
        rw [← hs3] at hco hcs
        have HHN := Aside0.mk (And.intro hHn hcs.2)
        have HFF := Aside0.mk F
        clear S F hWn hHn hsp hsh hs3 hcs
        go_wp2_with fail
        refine hco.mono ?_
        clear hco
        rintro e w6 ⟨v2, rfl, L2, htx2, hbm, S⟩
        have S := ((((S.drop.drop.pull 5).pull 4).pull 6).pull 6)
        have S1 := S.town
        have c4 := S1.cell 4 (v := T'.vw) rfl
        have f4 := S1.free 4
        rw [htp] at c4 f4
        have S2 := S1.set 4 (.slice (some a) T'.outs.length cn)
        have S3 := (S2.pull 2).drop
        have S4 : Sep w (w6.setCell ⟨T.tp, 4, none⟩ (.slice (some a) T'.outs.length cn)) (TownA { T' with vw := .slice (some a) T'.outs.length cn, ws := nx } :: DevA T.d s3 :: HeldA hs2 :: JBlk p T.d v2 :: MapA v2.bm (vals v2.M) :: PoolA ps2 :: []) := by
          rw [← htp]
          have S6 := ((own_len (S3.pull 2) HFF.out.nlen.symm).pull 2).pull 2
          exact Sep.townA { T' with vw := .slice (some a) T'.outs.length cn, ws := nx } S6
        obtain ⟨T2, hT2⟩ : ∃ T2, T2 = ({ T' with vw := .slice (some a) T'.outs.length cn, ws := nx } : Tn) := ⟨_, rfl⟩
        have hH2 := HHN.out.1
        have hin2 : ∀ x ∈ ({ T' with vw := .slice (some a) T'.outs.length cn, ws := nx } : Tn).ws, x ∈ hs2 := HFF.out.held
        have htp2 : ({ T' with vw := .slice (some a) T'.outs.length cn, ws := nx } : Tn).tp = T.tp := htp
        have hd2 : ({ T' with vw := .slice (some a) T'.outs.length cn, ws := nx } : Tn).d = T.d := hd
        rw [← hT2] at S4 hH2 hin2 htp2 hd2
        have HS4 := Aside0.mk S4
        have HF2 := Aside0.mk (And.intro L2 (And.intro HHN.out.2 (And.intro hH2 hin2)))
        clear S S1 S2 S3 S4 hT2 hH2 hin2 HHN HFF L2 HF
        go_wp2_with (first | (go_at_call 20; refine (num_any _ _).mono ?_; rintro _ _ ⟨rfl, rfl⟩))
        exact ⟨⟨j + 1, T2, s3, v2, ps2, hs2, Wn, g1, g2, by go_num, htp2, hd2, htx2, ⟨HF2.out.1, HF2.out.2.1, HF2.out.2.2.1, HF2.out.2.2.2, by omega⟩, HS4.out⟩, by simp [intOf]; omega⟩
      · have hend : ∃ (T' : Tn) (s' : DS) (v' : JV) (ps' : List (Nat × List Int)) (hs' : List VB) (W' : Int → List Int), T'.tp = T.tp ∧ T'.d = T.d ∧ v'.tx = none ∧ Aside0 (LiveV G s' v' ps' W' ∧ s'.fuse = 0 ∧ Holds G T' W' ∧ (∀ x ∈ T'.ws, x ∈ hs') ∧ (W' (-1)).length ≤ 21) ∧ Sep w wr [TownA T', DevA T.d s', HeldA hs', JBlk p T.d v', MapA v'.bm (vals v'.M), PoolA ps'] :=
          ⟨T', s', v', ps', hs', W', htp, hd, htx, ⟨HF.out.1, HF.out.2.1, HF.out.2.2.1, HF.out.2.2.2.1, by have := HF.out.2.2.2.2; omega⟩, S⟩
        have HE := Aside0.mk hend
        clear hend S HF htx htp hd
        by_cases g1 : j < txs.length
        · have d1 : decide ((j : Int) < (txs.length : Int)) = true := decide_eq_true (by omega)
          have d2 : decide ((j : Int) < 20) = false := decide_eq_false (by omega)
          go_wp2_with fail
          go_meet
          case rel => exact HE.out
        · have d1 : decide ((j : Int) < (txs.length : Int)) = false := decide_eq_false (by omega)
          go_wp2_with fail
          go_meet
          case rel => exact HE.out
  case rest =>
  clear S HL HH htx
  obtain ⟨T', s', v', ps', hs', W', htp, hd, htx, HF, S⟩ := hcut
  have hbeg := begin_yes ((S.pull 1).pull 3) HF.out.1.alive htx
  clear S
  go_wp2_with fail
  refine hbeg.mono ?_
  clear hbeg
  rintro _ w4 ⟨q, b, rfl, S⟩
  have S := (((((S.pull 7).pull 7).pull 4).pull 4).pull 4)
  have hfl := fill_s (T := T') (c := cl) S HF.out.1 HF.out.2.2.1 HF.out.2.2.2.1 HXL.out
  rw [htp] at hfl
  clear S HXL HXT
  go_wp2_with fail
  refine hfl.mono ?_
  clear hfl
  rintro e w5 ⟨t', ps2, hs2, nx, a, cn, sn, rfl, F, hsp, hsh, S⟩
  have L := HF.out.1.sub hsp
  have hbl := blocks_s (v := { v' with tx := some q }) S (oth_self _ _) (by have := F.few; omega)
  have hop1 : openB q { v' with tx := some q } = true := open_live HF.out.1 q
  rw [hop1, if_pos rfl] at hbl
  clear S
  go_wp2_with fail
  refine hbl.mono ?_
  clear hbl
  rintro _ w6 ⟨A6, n6, c6, rfl, S⟩
  have hn6 : n6 = t'.M.length := by
    have h1 := S.len
    rw [SM.keys_len] at h1
    have h2 : (dat t'.M).length = t'.M.length := SM.len_on _ _
    omega
  subst hn6
  have S := S.drop
  have hst : Calls Tryz.prog 39 #[.pointer (some ⟨p, 0, none⟩)] w6 fun e w' => e = .returned (.tuple #[.int .i64 v'.seq, .int .i64 v'.free, .int .i64 (v'.M.length : Int)]) ∧ Sep w w' [JBlk p T.d { v' with tx := some q }, MapA v'.bm (vals v'.M), TBlk q p t', MapA t'.bw (vals t'.M), PoolA ps2, DevA T.d s', TownA T', HeldA hs2, Own 39 1 (.slice (some a) T'.outs.length cn) T'.outs.length (nx.map (·.1))] := by
    refine (state_s (v := { v' with tx := some q }) (((S.pull 3).pull 3))).mono ?_
    rintro e w' ⟨h1, S⟩
    rw [show ({ v' with tx := some q } : JV).ended = false from HF.out.1.ended, if_neg (by decide)] at h1
    exact ⟨h1, S⟩
  have HS := Aside0.mk S
  have HFF := Aside0.mk F
  have HL := Aside0.mk L
  have hbnd : 27 ≤ T'.size ∧ T'.size ≤ 4096 ∧ 0 ≤ v'.free ∧ v'.free ≤ T'.size - 1 ∧ v'.M.length ≤ 4096 ∧ t'.M.length ≤ 24 := by
    have h1 := HF.out.2.2.1.size
    have h2 := HF.out.1.live.fits.geo
    have h3 := h2.size0
    have h4 := Jr.live_free HF.out.1.live
    have h5 : (jsOf v').free = v'.free := rfl
    rw [h5] at h4
    unfold Geo.places at h4
    have h6 := h2.n1
    have h7 := h2.fit
    have h8 := h2.start0
    exact ⟨by omega, by omega, by omega, by omega, HF.out.1.few, F.few⟩
  obtain ⟨b1, b2, b3, b4, b5, b6⟩ := hbnd
  clear S F L
  go_wp2_with fail
  refine hst.mono ?_
  clear hst
  rintro _ w7 ⟨rfl, S⟩
  have hts := tseq_s (S.pull 2) (oth_self _ _)
  rw [hop1, if_pos rfl] at hts
  have c2 := (S.pull 6).town.cell 2 (v := .int .i64 T'.size) rfl
  rw [htp] at c2
  have f1 : decide (v'.free < 0) = false := decide_eq_false (by omega)
  have f2 : decide (v'.free > T'.size - 1) = false := decide_eq_false (by omega)
  have f3 : decide ((v'.M.length : Int) < 0) = false := decide_eq_false (by omega)
  clear HS
  have HS := Aside0.mk S
  clear S
  obtain ⟨st, hst⟩ : ∃ st, st = stepsN (t'.M.length : Int) v'.free (v'.M.length : Int) := ⟨_, rfl⟩
  have b7 : 0 ≤ st ∧ st ≤ 5000 := by
    rw [hst]
    unfold stepsN Jr.stepsOf
    split
    · omega
    · split <;> omega
  have HST := Aside0.mk hst
  clear hst
  go_upto_if 149 with (first | (go_at_call 40; refine hts.mono ?_; rintro _ w8 ⟨rfl, rfl⟩))
  go_cut [29] (fun u wx => u = .int .i64 (Jr.stepsOf (t'.M.length : Int) v'.free (v'.M.length : Int)) ∧ wx = w8)
  case first =>
    by_cases g : (t'.M.length : Int) + 2 > v'.free
    · have e1 : decide ((t'.M.length : Int) + 2 > v'.free) = true := decide_eq_true g
      have e2 : Jr.stepsOf (t'.M.length : Int) v'.free (v'.M.length : Int) = (t'.M.length : Int) + 4 + (v'.M.length : Int) + 3 := by
        unfold Jr.stepsOf
        rw [if_pos g]
      have HE := Aside0.mk e2
      have g' : v'.free < (t'.M.length : Int) + 2 := by omega
      clear e2 g
      go_wp2_with fail
      go_meet
      case rel => exact ⟨by rw [HE.out], rfl⟩
    · have e1 : decide ((t'.M.length : Int) + 2 > v'.free) = false := decide_eq_false g
      have e2 : Jr.stepsOf (t'.M.length : Int) v'.free (v'.M.length : Int) = (t'.M.length : Int) + 4 := by
        unfold Jr.stepsOf
        rw [if_neg g]
      have HE := Aside0.mk e2
      have g' : ¬ v'.free < (t'.M.length : Int) + 2 := by omega
      clear e2 g
      go_wp2_with fail
      go_meet
      case rel => exact ⟨by rw [HE.out], rfl⟩
  case rest =>
  obtain ⟨rfl, rfl⟩ := hcut
  go_upto_if 155 with fail
  go_cut [29] (fun u wx => u = .int .i64 st ∧ wx = wc)
  case first =>
    by_cases g : (t'.M.length : Int) = 0
    · have e2 : st = 0 := by
        rw [HST.out]
        unfold stepsN
        rw [if_pos g]
      have e1 : ((t'.M.length : Int) == 0) = true := by rw [g]; rfl
      have e3 : decide ((t'.M.length : Int) = 0) = true := decide_eq_true g
      have HE := Aside0.mk e2
      clear g e2
      go_wp2_with fail
      go_meet
      case rel => exact ⟨by rw [HE.out], rfl⟩
    · have e2 : Jr.stepsOf (t'.M.length : Int) v'.free (v'.M.length : Int) = st := by
        rw [HST.out]
        unfold stepsN
        rw [if_neg g]
      have e1 : ((t'.M.length : Int) == 0) = false := beq_eq_false_iff_ne.2 g
      have e3 : decide ((t'.M.length : Int) = 0) = false := decide_eq_false g
      have HE := Aside0.mk e2
      clear g e2
      go_wp2_with fail
      go_meet
      case rel => exact ⟨by rw [HE.out], rfl⟩
  case rest =>
  obtain ⟨rfl, rfl⟩ := hcut
  have S := HS.out
  have c0 := (S.pull 6).town.cell 0 (v := .pointer (some ⟨T'.d, 0, none⟩)) rfl
  rw [htp, hd] at c0
  have har := arm_s (S.pull 5) (st + 1) (by omega)
  clear S hts c2 f1 f2 f3
  go_wp2_with fail
  refine har.mono ?_
  clear har c0
  rintro _ w9 ⟨rfl, S⟩
  obtain ⟨s4, hs4⟩ : ∃ s4, s4 = (s'.arm (st + 1)).2 := ⟨_, rfl⟩
  have L4 : LiveV G s4 v' ps2 W' := by rw [hs4]; exact HL.out.arm (st + 1) (by omega)
  have h4 : s4.fuse = st + 1 := by
    rw [hs4]
    unfold DS.arm
    rw [if_neg (by omega), HL.out.off, if_neg (by decide)]
  rw [← hs4] at S
  have S := (((((S.pull 5).pull 3).pull 3).pull 5).pull 5)
  have hWl := HF.out.2.2.2.2
  obtain ⟨Wn, hWn⟩ := wantN t' W'
  have hge := wantN_ge hWn
  have hcs := com_steps L4 HFF.out.tx (by rw [h4, HST.out])
  have hco := tcommit_x hr L4 S HFF.out.ins HFF.out.tx (by omega) hcs.1
  rw [← hWn] at hco
  have hHn := HFF.out.holds HF.out.2.2.1 (.slice (some a) T'.outs.length cn)
  rw [← hWn] at hHn
  obtain ⟨s5, hs5⟩ : ∃ s5, s5 = comD v' s4 t'.M := ⟨_, rfl⟩
  rw [← hs5] at hco hcs
  have HHN := Aside0.mk (And.intro hHn (And.intro hcs.2 (And.intro hge HL.out.seq)))
  clear S hs4 L4 h4 hWl hWn hge hcs hs5 hHn
  go_wp2_with fail
  refine hco.mono ?_
  clear hco
  rintro e w10 ⟨v2, rfl, L2, htx2, hbm, S⟩
  have hen := L2.end_ HHN.out.2.1
  have c0 := (S.pull 6).town.cell 0 (v := .pointer (some ⟨T'.d, 0, none⟩)) rfl
  rw [htp, hd] at c0
  have hfl := flush_s (S.pull 5)
  rw [hen.1] at hfl
  have HEN := Aside0.mk hen.2
  clear S L2 hen
  go_wp2_with fail
  refine hfl.mono ?_
  clear hfl c0
  rintro _ w11 ⟨rfl, S⟩
  have S := (((((((S.pull 1).drop.pull 1).drop.pull 1).drop.pull 1).drop.pull 1).drop.pull 3).pull 2)
  have S1 := S.town
  have c4 := S1.cell 4 (v := T'.vw) rfl
  have c0 := S1.cell 0 (v := .pointer (some ⟨T'.d, 0, none⟩)) rfl
  have f4 := S1.free 4
  rw [htp] at c4 f4 c0
  rw [hd] at c0
  have S2 := S1.set 4 (.slice (some a) T'.outs.length cn)
  have S3 := (S2.pull 2).drop
  have S4 : Sep w (w11.setCell ⟨T.tp, 4, none⟩ (.slice (some a) T'.outs.length cn)) (TownA { T' with vw := .slice (some a) T'.outs.length cn, ws := nx } :: DevA T.d s5.flush.2 :: HeldA hs2 :: []) := by
    rw [← htp]
    have S6 := ((own_len (S3.pull 2) HFF.out.nlen.symm).pull 2).pull 2
    exact Sep.townA { T' with vw := .slice (some a) T'.outs.length cn, ws := nx } S6
  obtain ⟨T2, hT2⟩ : ∃ T2, T2 = ({ T' with vw := .slice (some a) T'.outs.length cn, ws := nx } : Tn) := ⟨_, rfl⟩
  have hH2 := HHN.out.1
  have hin2 : ∀ x ∈ ({ T' with vw := .slice (some a) T'.outs.length cn, ws := nx } : Tn).ws, x ∈ hs2 := HFF.out.held
  have htp2 : ({ T' with vw := .slice (some a) T'.outs.length cn, ws := nx } : Tn).tp = T.tp := htp
  have hd2 : ({ T' with vw := .slice (some a) T'.outs.length cn, ws := nx } : Tn).d = T.d := hd
  have hsz2 : ({ T' with vw := .slice (some a) T'.outs.length cn, ws := nx } : Tn).size = T'.size := rfl
  rw [← hT2] at S4 hH2 hin2 htp2 hd2 hsz2
  have k0 := S4.town.cell 0 (v := .pointer (some ⟨T2.d, 0, none⟩)) rfl
  rw [htp2, hd2] at k0
  have hcr := crash_nil (S4.pull 1)
  have HF2 := Aside0.mk (And.intro hH2 hin2)
  clear S S1 S2 S3 S4 hT2 hH2 hin2 HF
  go_wp2_with (first | (go_at_call 20; refine (num_any _ _).mono ?_; rintro _ _ ⟨rfl, rfl⟩))
  refine hcr.mono ?_
  clear hcr k0 c0 c4 f4
  rintro _ w12 ⟨rfl, S⟩
  have hop := topen_empty (T := T2) hr hsn (by rw [hd2]; exact (S.pull 1)) HEN.out HF2.out.1
  rw [htp2, hd2, hsz2] at hop
  clear S
  go_wp2_with fail
  refine hop.mono ?_
  clear hop
  rintro e w13 ⟨s7, taken2, p2, v3, ps3, hf7, rfl, L3, htx3, hM3, hfr3, S⟩
  have hho := holds_s (T := T2) (S.pull 4) L3 htx3 HF2.out.1 HF2.out.2
  rw [htp2] at hho
  clear S
  go_wp2_with fail
  refine hho.mono ?_
  clear hho
  rintro _ w14 ⟨rfl, S⟩
  have c0 := S.town.cell 0 (v := .pointer (some ⟨T2.d, 0, none⟩)) rfl
  rw [htp2, hd2] at c0
  have har := arm_s (S.pull 4) 1 (by decide)
  clear S
  go_wp2_with fail
  refine har.mono ?_
  clear har c0
  rintro _ w15 ⟨rfl, S⟩
  have S := (((S.pull 4).pull 4).pull 4)
  obtain ⟨s8, hs8⟩ : ∃ s8, s8 = (s7.arm 1).2 := ⟨_, rfl⟩
  have L8 : LiveV G s8 v3 ps3 Wn := by rw [hs8]; exact L3.arm 1 (by decide)
  rw [← hs8] at S
  obtain ⟨k1, k2, k3⟩ := check_none L8 hM3
  have hck := check_s hr S L8.ins L8.ok (by have := L8.pend; omega) (by have := L8.few; omega) L8.keys
  rw [k1, k2, k3] at hck
  have hsq3 : decide (v3.seq ≥ v'.seq) = true := decide_eq_true (by
    have h1 := L3.seq
    have h2 := HHN.out.2.2.1
    have h3 := HHN.out.2.2.2
    omega)
  have hsq4 : v'.seq ≤ v3.seq := of_decide_eq_true hsq3
  have HL8 := Aside0.mk L8
  clear S L3 L8 k1 k2 k3 hs8 hf7
  go_wp2_with fail
  refine hck.mono ?_
  clear hck
  rintro _ w16 ⟨rfl, S⟩
  have hst : Calls Tryz.prog 39 #[.pointer (some ⟨p2, 0, none⟩)] w16 fun e w' => e = .returned (.tuple #[.int .i64 v3.seq, .int .i64 (T'.size - 1), .int .i64 0]) ∧ Sep w w' [JBlk p2 T.d v3, MapA v3.bm (vals v3.M), PoolA ps3, DevA T.d s8, TownA T2, HeldA hs2] := by
    refine (state_s S).mono ?_
    rintro e w' ⟨h1, S⟩
    rw [show v3.ended = false from HL8.out.ended, if_neg (by decide), hfr3, hM3] at h1
    rw [hM3] at S
    rw [hM3]
    exact ⟨h1, S⟩
  clear S hfr3
  go_wp2_with fail
  refine hst.mono ?_
  clear hst
  rintro _ w17 ⟨rfl, S⟩
  have c0 := (S.pull 4).town.cell 0 (v := .pointer (some ⟨T2.d, 0, none⟩)) rfl
  have c2 := (S.pull 4).town.cell 2 (v := .int .i64 T2.size) rfl
  rw [htp2, hd2] at c0
  rw [htp2, hsz2] at c2
  have hpw := power_s (S.pull 3)
  rw [HL8.out.off] at hpw
  have e5 : decide (T'.size - 1 = T'.size - 1) = true := decide_eq_true rfl
  have e6 : (T'.size - 1 == T'.size - 1) = true := beq_self_eq_true _
  clear S hM3
  go_wp2_with (first | (go_at_call 20; refine (num_any _ _).mono ?_; rintro _ _ ⟨rfl, rfl⟩) | (go_at_call 45; refine hpw.mono ?_; rintro _ w18 ⟨rfl, S⟩; have y2 := (S.pull 4).town.cell 2 (v := .int .i64 T2.size) rfl; rw [htp2, hsz2] at y2; have HB := Aside0.mk S.bel; clear S))
  go_ret
  exact ⟨rfl, HB.out⟩
end
end Go.Proofs.YtmafafingdpopaaGreatDoor.Sep
