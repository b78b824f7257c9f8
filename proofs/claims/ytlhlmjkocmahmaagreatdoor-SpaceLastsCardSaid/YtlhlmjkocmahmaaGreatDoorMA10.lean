/- logged: a transaction into the log. -/
import Derived.Test.YtlhlmjkocmahmaaGreatDoorMA9
import Derived.Test.YtlhlmjkocmahmaaGreatDoorMA3
import Derived.Deep.CutBlock
namespace Go.Proofs.YtlhlmjkocmahmaaGreatDoor.Sep
open Go.Proofs Go.RowKit Go.ChangeMaps Go.Proofs.YtlhlmjkocmahmaaGreatDoorW.PrintWords Go.Proofs.YtlhlmjkocmahmaaGreatDoorW.PrintLast Go.Proofs.YtlhlmjkocmahmaaGreatDoorW.PrintMore Go.Proofs.YtlhlmjkocmahmaaGreatDoor.Dev Go.Proofs.YtlhlmjkocmahmaaGreatDoor.Errs Go.Proofs.YtlhlmjkocmahmaaGreatDoor.Jr Go.Proofs.YtlhlmjkocmahmaaGreatDoor.Help Go.Proofs.YtlhlmjkocmahmaaGreatDoor.IMap
set_option linter.unusedVariables false
set_option linter.unusedSimpArgs false
abbrev jsOf (v : JV) : JS := ⟨v.seq, v.place, v.free, dat v.M⟩
/-- The journal when there is room. -/
def roomV (v : JV) (s : DS) (k : Nat) : JV := if (k : Int) + 2 > v.free then cpV v s false else v
theorem cp_ne {G : Geo} {s : DS} {J : JS} {also : Bool} (h : ¬ (J.away = [] ∧ also = false)) : Jr.checkpoint G s J also = if (Jr.writes s J.away).1 = 0 then (if (Jr.headed G (Jr.writes s J.away).2 J.seq J.place).1 = 0 then (0, (Jr.headed G (Jr.writes s J.away).2 J.seq J.place).2, { J with away := [], free := G.places }) else ((Jr.headed G (Jr.writes s J.away).2 J.seq J.place).1, (Jr.headed G (Jr.writes s J.away).2 J.seq J.place).2, J)) else ((Jr.writes s J.away).1, (Jr.writes s J.away).2, J) := by
  unfold Jr.checkpoint
  rw [if_neg h]
theorem headed_few (G : Geo) (s : DS) (seq place : Int) : (Jr.headed G s seq place).2.pend.length ≤ s.pend.length + 1 := by
  unfold Jr.headed
  have h1 := flush_few s
  have h2 := write_few s.flush.2 G.start (headB seq place)
  have h3 := flush_few (s.flush.2.write G.start (headB seq place)).2
  split
  · split
    · omega
    · omega
  · omega
theorem cp_few (G : Geo) (s : DS) (J : JS) (also : Bool) : (Jr.checkpoint G s J also).2.1.pend.length ≤ s.pend.length + J.away.length + 1 := by
  by_cases h : J.away = [] ∧ also = false
  · unfold Jr.checkpoint
    rw [if_pos h]
    show s.pend.length ≤ _
    omega
  · rw [cp_ne h]
    have h1 := writes_few J.away s
    have h2 := headed_few G (Jr.writes s J.away).2 J.seq J.place
    split
    · split
      · show (Jr.headed G (Jr.writes s J.away).2 J.seq J.place).2.pend.length ≤ _
        omega
      · show (Jr.headed G (Jr.writes s J.away).2 J.seq J.place).2.pend.length ≤ _
        omega
    · show (Jr.writes s J.away).2.pend.length ≤ _
      omega
theorem cpV_js (v : JV) (s : DS) : (Jr.checkpoint (v.geo s) s (jsOf v) false).2.2 = jsOf (cpV v s false) := by
  by_cases hM : v.M = []
  · have h1 : (jsOf v).away = [] := by show dat v.M = []; rw [hM]; rfl
    have hc : Jr.checkpoint (v.geo s) s (jsOf v) false = (0, s, jsOf v) := by
      unfold Jr.checkpoint
      rw [if_pos ⟨h1, rfl⟩]
    rw [hc]
    unfold cpV
    rw [if_pos ⟨hM, rfl⟩]
  · have h1 : ¬ ((jsOf v).away = [] ∧ false = false) := fun q => hM (List.length_eq_zero_iff.1 (by
      have h2 : (dat v.M).length = v.M.length := SM.len_on _ _
      rw [← h2, show dat v.M = [] from q.1]
      rfl))
    have hv : cpV v s false = if (Jr.checkpoint (v.geo s) s (jsOf v) false).1 = 0 then { v with free := v.size - 1, M := [] } else v := by
      unfold cpV
      rw [if_neg (fun q => hM q.1)]
    rw [hv, cp_ne h1]
    by_cases hw : (Jr.writes s (jsOf v).away).1 = 0
    · rw [if_pos hw]
      by_cases hh : (Jr.headed (v.geo s) (Jr.writes s (jsOf v).away).2 (jsOf v).seq (jsOf v).place).1 = 0
      · rw [if_pos hh, if_pos (show (0 : Int) = 0 from rfl)]
        rfl
      · rw [if_neg hh, if_neg hh]
    · rw [if_neg hw, if_neg hw]
theorem room_js (v : JV) (s : DS) (m : SMb) : (Jr.room (v.geo s) s (jsOf v) m).2.2 = jsOf (roomV v s m.length) := by
  unfold Jr.room roomV
  show (if (m.length : Int) + 2 > v.free then _ else _ : Int × DS × JS).2.2 = _
  split
  · exact cpV_js v s
  · rfl
theorem cpV_geo (v : JV) (s t : DS) (a : Bool) : (cpV v s a).geo t = v.geo t ∧ (cpV v s a).start = v.start ∧ (cpV v s a).size = v.size ∧ (cpV v s a).seq = v.seq ∧ (cpV v s a).place = v.place ∧ (cpV v s a).bm = v.bm ∧ (cpV v s a).tx = v.tx ∧ (cpV v s a).ended = v.ended ∧ ((cpV v s a).M = v.M ∨ (cpV v s a).M = []) := by
  unfold cpV
  split
  · exact ⟨rfl, rfl, rfl, rfl, rfl, rfl, rfl, rfl, .inl rfl⟩
  · split
    · exact ⟨rfl, rfl, rfl, rfl, rfl, rfl, rfl, rfl, .inr rfl⟩
    · exact ⟨rfl, rfl, rfl, rfl, rfl, rfl, rfl, rfl, .inl rfl⟩
theorem roomV_geo (v : JV) (s t : DS) (k : Nat) : (roomV v s k).geo t = v.geo t ∧ (roomV v s k).start = v.start ∧ (roomV v s k).size = v.size ∧ (roomV v s k).seq = v.seq ∧ (roomV v s k).place = v.place ∧ (roomV v s k).bm = v.bm ∧ (roomV v s k).tx = v.tx ∧ (roomV v s k).ended = v.ended ∧ ((roomV v s k).M = v.M ∨ (roomV v s k).M = []) := by
  unfold roomV
  split
  · exact cpV_geo v s t false
  · exact ⟨rfl, rfl, rfl, rfl, rfl, rfl, rfl, rfl, .inl rfl⟩
/-- A row that was laid out: of whatever cells. -/
theorem Sep.lit {w0 w : World} {R : List Asn} (S : Sep w0 w R) (e : TypeId) (xs : List Value) (hm : xs.length ≤ 9223372036854775807) : Sep w0 (w.alloc (.cells xs.toArray e)) (Own e 1 (.slice (some ⟨w.heap.size, 0, none⟩) xs.length xs.length) xs.length xs :: R) := by
  have h := World.ownsRow_lit (base := w.heap.size) (e := e) (size := 1) w xs.toArray xs.length (Nat.le_refl _) (by simpa [maxLen] using hm) (by simp)
  refine S.row_new (below_alloc (Below.refl _ _) _) ?_
  simpa using h
theorem logW_at (G : Geo) (place : Int) : ∀ (l : List (List Int)) (i : Int) (j : Nat) (x : List Int), l[j]? = some x → (logW G place i l)[j]? = some (G.at_ (place + (i + (j : Int))), x)
  | [], i, j, x, h => by cases h
  | y :: r, i, 0, x, h => by
    cases h
    show some (G.at_ (place + i), y) = _
    rw [show i + ((0 : Nat) : Int) = i from Int.add_zero i]
  | y :: r, i, j + 1, x, h => by
    show (logW G place (i + 1) r)[j]? = _
    rw [logW_at G place r (i + 1) j x h, show i + 1 + (j : Int) = i + ((j + 1 : Nat) : Int) by omega]
theorem logW_len (G : Geo) (place : Int) : ∀ (l : List (List Int)) (i : Int), (logW G place i l).length = l.length
  | [], i => rfl
  | y :: r, i => by
    show (logW G place (i + 1) r).length + 1 = _
    rw [logW_len G place r]
    rfl
section
variable {G : Geo} {s : DS} {seq place : Int} {m : SMb}
theorem logged_a (h : ¬ (Jr.writes s (logW G place 0 (images seq m))).1 = 0) : Jr.logged G s seq place m = Jr.writes s (logW G place 0 (images seq m)) := by
  unfold Jr.logged
  dsimp only
  rw [if_neg h]
theorem logged_b {a : Int × DS} (ha : Jr.writes s (logW G place 0 (images seq m)) = a) (h : a.1 = 0) : Jr.logged G s seq place m = if a.2.flush.1 = 0 then (if (a.2.flush.2.write (G.at_ (place + ((m.length : Int) + 1))) (commitB seq)).1 = 0 then (a.2.flush.2.write (G.at_ (place + ((m.length : Int) + 1))) (commitB seq)).2.flush else a.2.flush.2.write (G.at_ (place + ((m.length : Int) + 1))) (commitB seq)) else a.2.flush := by
  unfold Jr.logged
  dsimp only
  rw [ha, if_pos h]
end
/-- What logged comes to. -/
def loggedE (v : JV) (s : DS) (m : SMb) : Int × DS :=
  if (Jr.room (v.geo s) s (jsOf v) m).1 = 0 then Jr.logged (v.geo s) (Jr.room (v.geo s) s (jsOf v) m).2.1 v.seq v.place m else ((Jr.room (v.geo s) s (jsOf v) m).1, (Jr.room (v.geo s) s (jsOf v) m).2.1)
theorem infoEn : (Tryz.prog.info? 171).map (fun i => (i.zero, i.size, i.bytes)) = some (some (.agg #[.int .i64 0, .int .i64 0]), 2, 16) := by kernel_rfl
theorem infoBs : (Tryz.prog.info? 57).map (fun i => (i.zero, i.size, i.bytes)) = some (some (.slice none 0 0), 1, 24) := by kernel_rfl
section
variable {w0 w w' : World} {R : List Asn} {q p d : Nat} {ps : List (Nat × List Int)} {v : JV} {t : TV} {s : DS}
set_option maxRecDepth 100000 in
set_option maxHeartbeats 8000000 in
theorem logged_s (S : Sep w0 w (TBlk q p t :: MapA t.bw (vals t.M) :: JBlk p d v :: MapA v.bm (vals v.M) :: PoolA ps :: DevA d s :: R)) (hI : Ins v.M ps) (hIt : Ins t.M ps) (hG : (v.geo s).Ok) (hp : s.pend.length ≤ 90000) (hm : v.M.length ≤ 100000) (hk : ∀ x ∈ v.M, 0 ≤ x.1 ∧ x.1 ≤ 4096)
    (hn1 : 1 ≤ t.M.length) (hn2 : t.M.length ≤ 24) (htk : ∀ x ∈ t.M, 0 ≤ x.1 ∧ x.1 ≤ 4096 ∧ Byte x.2.2) (hpl : 0 ≤ v.place ∧ v.place ≤ 4096) :
    Calls Tryz.prog 67 #[.pointer (some ⟨q, 0, none⟩)] w fun e w' => ∃ what, e = .returned (errV what (loggedE v s (dat t.M)).1) ∧
      Sep w0 w' (TBlk q p t :: MapA t.bw (vals t.M) :: JBlk p d (roomV v s t.M.length) :: MapA v.bm (vals (roomV v s t.M.length).M) :: PoolA ps :: DevA d (loggedE v s (dat t.M)).2 :: R) := by
  have hvl : (vals t.M).length = t.M.length := SM.len_on _ _
  have hdl : (dat t.M).length = t.M.length := SM.len_on _ _
  have hup := S.swap.map.up
  have hris := rising_s S.swap (by rw [hvl]; omega)
  rw [hvl] at hris
  have c0 := S.cell 0 (v := .pointer (some ⟨p, 0, none⟩)) rfl
  have c1 := S.cell 1 (v := .map (some t.bw)) rfl
  have hrj := room_js v s (dat t.M)
  rw [hdl] at hrj
  obtain ⟨r, hr⟩ : ∃ r, r = Jr.room (v.geo s) s (jsOf v) (dat t.M) := ⟨_, rfl⟩
  have hlE : loggedE v s (dat t.M) = if r.1 = 0 then Jr.logged (v.geo s) r.2.1 v.seq v.place (dat t.M) else (r.1, r.2.1) := by rw [hr]; rfl
  rw [← hr] at hrj
  have hgv := roomV_geo v s s t.M.length
  have hrY : (t.M.length : Int) + 2 > v.free → r = Jr.checkpoint (v.geo s) s (jsOf v) false ∧ roomV v s t.M.length = cpV v s false := fun h => by
    constructor
    · rw [hr]
      unfold Jr.room
      rw [hdl]
      exact if_pos h
    · unfold roomV
      rw [if_pos h]
  have hrN : (t.M.length : Int) + 2 ≤ v.free → r = (0, s, jsOf v) ∧ roomV v s t.M.length = v := fun h => by
    constructor
    · rw [hr]
      unfold Jr.room
      rw [hdl]
      exact if_neg (by show ¬ (t.M.length : Int) + 2 > v.free; omega)
    · unfold roomV
      rw [if_neg (by omega)]
  obtain ⟨v1, hv1⟩ : ∃ v1, v1 = roomV v s t.M.length := ⟨_, rfl⟩
  rw [← hv1] at hgv hrY hrN hrj ⊢
  have HUP := Aside0.mk hup
  have HLE := Aside0.mk hlE
  have HGV := Aside0.mk hgv
  have HI := Aside0.mk hI
  have HIT := Aside0.mk hIt
  have HK := Aside0.mk hk
  have HTK := Aside0.mk htk
  have HDL := Aside0.mk hdl
  have HRY := Aside0.mk hrY
  have HRN := Aside0.mk hrN
  have HG := Aside0.mk hG
  clear hup hlE hgv hI hIt hk htk hdl hvl hrY hrN hr hv1 hG S
  obtain ⟨n, hn⟩ : ∃ n, n = t.M.length := ⟨_, rfl⟩
  rw [← hn] at hris hn1 hn2 HRY HRN
  have HN := Aside0.mk hn
  clear hn hrj
  go_enter Tryz.func67, Tryz.ntmps67
  go_wp2_with fail
  refine hris.mono ?_
  clear hris c0 c1
  rintro _ w1 ⟨Ak, ck, rfl, S⟩
  have S := (((S.pull 6).pull 6).pull 6).pull 6
  have k5 := S.cell 5 (v := .int .i64 v.free) rfl
  go_upto_if 33 with fail
  go_cut [5] (fun _ wx => r.1 = 0 ∧ r.2.1.pend.length ≤ 200000 ∧ Sep w0 wx (JBlk p d v1 :: MapA v.bm (vals v1.M) :: PoolA ps :: DevA d r.2.1 :: Ints Ak n ck (SM.keys (vals t.M)) :: MapA t.bw (vals t.M) :: TBlk q p t :: R))
  case first =>
    by_cases hro : (n : Int) + 2 > v.free
    · obtain ⟨hr, hv1⟩ := HRY.out hro
      go_wp2_with fail
      refine (checkpoint_s S HI.out HG.out (by omega) hm HK.out false).mono ?_
      clear S
      rintro _ w2 ⟨what, rfl, S2⟩
      have hfw := cp_few (v.geo s) s (jsOf v) false
      have hdv : (jsOf v).away.length = v.M.length := SM.len_on _ _
      rw [← hr, ← hv1] at S2
      rw [← hr] at hfw ⊢
      rw [hdv] at hfw
      clear hr hv1
      by_cases h0 : r.1 = 0
      · rw [errV_0 _ h0]
        go_wp2_with fail
        go_meet
        case rel => exact ⟨h0, by omega, S2⟩
      · rw [errV_1 _ h0]
        have e1 := HLE.out
        rw [if_neg h0] at e1
        have HE := Aside0.mk e1
        have HF := Aside0.mk h0
        have HS := Aside0.mk S2
        clear e1 h0 S2
        go_wp2_with fail
        go_ret
        rw [HE.out]
        exact ⟨what, congrArg Ending.returned (errV_1 _ HF.out).symm, (((HS.out.pull 4).drop).pull 4).pull 5⟩
    · obtain ⟨rfl, rfl⟩ := HRN.out (by omega)
      go_wp2_with fail
      go_meet
      case rel => exact ⟨by first | rfl | trivial, by show s.pend.length ≤ _; omega, S⟩
  case rest =>
  obtain ⟨hr0, hpe, S⟩ := hcut
  have HPE := Aside0.mk hpe
  have HR0 := Aside0.mk hr0
  have e1 := HLE.out
  rw [if_pos hr0] at e1
  have HLG := Aside0.mk e1
  clear e1 hpe hr0
  go_wp2_with fail
  go_loopw [41, 6, 7] (fun i en im wr => ∃ (j : Nat) (Ae Ai : Option Addr) (ce ci : Nat) (qs : List (Nat × List Int)), j ≤ n ∧ i = .int .i64 (j : Int) ∧ en = .slice Ae j ce ∧ im = .slice Ai j ci ∧ Aside0 (qs.map (fun x => x.2) = ((dat t.M).take j).map fun x => esc x.2) ∧
    Sep w0 wr (EntA Ae j ce (ents ((dat t.M).take j)) :: Own 57 1 (.slice Ai j ci) j (qs.map fun x => rowV x.1) :: PoolA qs.reverse :: JBlk p d v1 :: MapA v.bm (vals v1.M) :: PoolA ps :: DevA d r.2.1 :: Ints Ak n ck (SM.keys (vals t.M)) :: MapA t.bw (vals t.M) :: TBlk q p t :: R)) (fun i _ _ _ => ((n : Int) - intOf i).toNat)
  case atStart => exact ⟨0, none, none, 0, 0, [], Nat.zero_le _, rfl, rfl, rfl, ⟨rfl⟩, ((S.pool_nil).nils _ _).nils _ _⟩
  case round =>
    clear S
    obtain ⟨j, Ae, Ai, ce, ci, qs, hj, rfl, rfl, rfl, HQ, S⟩ := hrel
    by_cases hjn : j < n
    · have hi : (j : Int) < (n : Int) := by omega
      obtain ⟨gk, rfl⟩ := (S.pull 7).addr (by omega)
      obtain ⟨x, hx⟩ : ∃ x, t.M[j]? = some x := ⟨_, List.getElem?_eq_getElem (by rw [← HN.out]; exact hjn)⟩
      have hxm := List.mem_of_getElem? hx
      have hxp : (x.2.1, x.2.2) ∈ ps := HIT.out x hxm
      obtain ⟨hxk0, hxk1, hxB⟩ := HTK.out x hxm
      have hva := vals_at hx
      have hkey := (S.pull 7).elem j hjn
      have hke : (SM.keys (vals t.M)).getD j 0 = x.1 := by
        unfold SM.keys
        rw [List.getD_eq_getElem?_getD, List.getElem?_map, hva.1]
        rfl
      rw [hke] at hkey
      have hwf : (Lit.int .i64 x.1).wf = true := WalkArith.wf_i64 (by omega)
      have hlk0 : SM.lkp (vals t.M) x.1 = some (rowV x.2.1) := SM.look_at HUP.out hva.1
      have hlk := MapS.look0 (P := Tryz.prog) (S.pull 8).map Tryz.underlying113 Tryz.underlying3 hwf hlk0
      unfold rowV at hlk
      have c1 := (S.pull 9).cell 1 (v := .map (some t.bw)) rfl
      have hrd := (S.pull 5).pool_reads hxp
      have hes := escaped_s (c := 512) S hrd hxB
      have htk : (dat t.M).take (j + 1) = (dat t.M).take j ++ [(x.1, x.2.2)] := by
        rw [List.take_add_one, hva.2]
        rfl
      have HT := Aside0.mk htk
      have HX := Aside0.mk hxB
      clear hx hva hke hlk0 hxm hxp hrd htk hxB S
      go_wp2_with fail
      refine hes.mono ?_
      clear hes hlk c1 hkey
      rintro _ w4 ⟨g, rfl, S⟩
      go_wp2_with (first
        | ((with_reducible refine gate_builtin (b := .append) (xs := #[.tmp 55, .tmp 59]) rfl ?_); at_builtin; go_must (refine append_s (n := j) (v := .slice Ae j ce) (xs := ecells (ents ((dat t.M).take j))) S.swap rfl (.tmp 55) (.tmp 59) 167 (.agg #[.int .i64 0, .int .i64 0]) 16 rfl Tryz.underlying167 infoEn rfl (by decide) (by decide) [.int .i64 x.1, .int .i64 (flagOf x.2.2)] rfl rfl rfl ?a1 ?aL ?_); (case a1 => (intro u hu; rcases List.mem_cons.1 hu with e | hu; (rw [e]; rfl); (rw [List.mem_singleton.1 hu]; rfl))); (case aL => omega); intro A5 c5 w5 S5)
        | ((with_reducible refine gate_builtin (b := .append) (xs := #[.tmp 61, .tmp 63]) rfl ?_); at_builtin; go_must (refine append_s (n := j) (v := .slice Ai j ci) (xs := qs.map fun x => rowV x.1) S5.p2 rfl (.tmp 61) (.tmp 63) 49 (.slice none 0 0) 24 rfl Tryz.underlying49 infoBs rfl (by decide) (by decide) [.slice (some ⟨g, 0, none⟩) 512 512] rfl rfl rfl ?a1 ?aL ?_); (case a1 => (intro u hu; rw [List.mem_singleton.1 hu]; rfl)); (case aL => omega); intro A6 c6 w6 S6))
      have e1 : ents ((dat t.M).take (j + 1)) = ents ((dat t.M).take j) ++ [(x.1, flagOf x.2.2)] := by
        rw [HT.out]
        exact List.map_append
      have e2 : ecells (ents ((dat t.M).take j) ++ [(x.1, flagOf x.2.2)]) = ecells (ents ((dat t.M).take j)) ++ [.int .i64 x.1, .int .i64 (flagOf x.2.2)] := by
        unfold ecells
        rw [List.flatMap_append]
        rfl
      have e3 : (qs ++ [(g, esc x.2.2)]).map (fun x => rowV x.1) = (qs.map fun x => rowV x.1) ++ [.slice (some ⟨g, 0, none⟩) 512 512] := by
        rw [List.map_append]
        rfl
      have e4 : (qs ++ [(g, esc x.2.2)]).reverse = (g, esc x.2.2) :: qs.reverse := by
        rw [List.reverse_append]
        rfl
      have e5 : (qs ++ [(g, esc x.2.2)]).map (fun x => x.2) = ((dat t.M).take (j + 1)).map fun x => esc x.2 := by
        rw [List.map_append, HQ.out, HT.out, List.map_append]
        rfl
      rw [← e2, ← e1, ← e3] at S6
      have S7 := ((S6.pull 3).pull 3).pool_add
      rw [← e4] at S7
      exact ⟨⟨j + 1, A5, A6, c5, c6, _, by omega, by go_num, rfl, rfl, ⟨e5⟩, (S7.pull 1).pull 2⟩, by simp [intOf]; omega⟩
    · have hjn2 : n = j := by omega
      subst hjn2
      have hi : ¬ ((n : Int) < (n : Int)) := by omega
      have e1 : (dat t.M).take n = dat t.M := by rw [HN.out, ← HDL.out]; exact List.take_length
      have hq := HQ.out
      rw [e1] at S hq
      obtain ⟨gi, rfl⟩ := (S.pull 1).addr (by omega)
      have k3 := (S.pull 3).cell 3 (v := .int .i64 v1.seq) rfl
      have hqn : qs.length = n := by
        have := congrArg List.length hq
        rw [List.length_map, List.length_map, HDL.out, ← HN.out] at this
        exact this
      have HQ2 := Aside0.mk hq
      have HQN := Aside0.mk hqn
      clear e1 hq hqn HQ hj hjn hi
      go_wp2_with fail
      refine (descriptorBlock_s S (by omega) v1.seq).mono ?_
      clear S k3
      rintro _ w4 ⟨gd, rfl, S4⟩
      have SL : Sep w0 (w4.alloc (.cells #[.slice (some ⟨gd, 0, none⟩) 512 512] 57)) (Own 57 1 (.slice (some ⟨w4.heap.size, 0, none⟩) 1 1) 1 [.slice (some ⟨gd, 0, none⟩) 512 512] :: _) := S4.lit 57 [.slice (some ⟨gd, 0, none⟩) 512 512] (Nat.succ_le_succ (Nat.zero_le _))
      have hli := (SL.pull 3).lies 0 n
      have e6 : ((qs.map fun x => rowV x.1).drop (0 * 1)).take n = qs.map fun x => rowV x.1 := by
        rw [Nat.zero_mul, List.drop_zero, List.take_of_length_le (by rw [List.length_map, HQN.out]; exact Nat.le_refl _)]
      rw [e6] at hli
      have hli2 : Lies (w4.alloc (.cells #[.slice (some ⟨gd, 0, none⟩) 512 512] 57)) (some ⟨gi, 0, none⟩) (qs.map fun x => rowV x.1) := hli
      clear hli e6
      go_wp2_with ((with_reducible refine gate_builtin (b := .append) (xs := #[.tmp 72, .tmp 73]) rfl ?_); at_builtin; go_must (refine append_rows SL rfl (.tmp 72) (.tmp 73) 49 (.slice none 0 0) 24 rfl Tryz.underlying49 infoBs rfl (by decide) (by decide) (qs.map fun x => rowV x.1) (some ⟨gi, 0, none⟩) n ci rfl rfl ?ay hli2 ?a1 ?aL ?_); (case ay => (rw [List.length_map, HQN.out, Nat.mul_one])); (case a1 => (intro u hu; obtain ⟨y, _, rfl⟩ := List.mem_map.1 hu; rfl)); (case aL => omega); intro A7 c7 w7 S7; generalize hN : 1 + n = N at S7 ⊢)
      obtain ⟨q2, hq2⟩ : ∃ q2, q2 = (gd, descB v1.seq (ents (dat t.M))) :: qs := ⟨_, rfl⟩
      have e7 : [.slice (some ⟨gd, 0, none⟩) 512 512] ++ qs.map (fun x => rowV x.1) = q2.map fun x => rowV x.1 := by rw [hq2]; rfl
      rw [e7] at S7
      have S8 := ((S7.pull 4).pull 2).pool_add
      obtain ⟨Q, hQ⟩ : ∃ Q, Q = (gd, descB v1.seq (ents (dat t.M))) :: qs.reverse := ⟨_, rfl⟩
      rw [← hQ] at S8
      have hqQ : ∀ x ∈ q2, (x.1, x.2) ∈ Q := fun x hx => by
        rw [hQ]
        rw [hq2] at hx
        rcases List.mem_cons.1 hx with e | hx
        · rw [e]
          exact List.mem_cons_self
        · exact List.mem_cons_of_mem _ (List.mem_reverse.2 hx)
      have hqi : q2.map (fun x => x.2) = images v.seq (dat t.M) := by
        rw [hq2]
        show descB v1.seq (ents (dat t.M)) :: qs.map (fun x => x.2) = descB v.seq (ents (dat t.M)) :: _
        rw [HQ2.out, HGV.out.2.2.2.1]
      have hqN : q2.length = N := by
        rw [hq2, List.length_cons, HQN.out]
        omega
      obtain ⟨L, hL⟩ : ∃ L, L = logW (v.geo s) v.place 0 (images v.seq (dat t.M)) := ⟨_, rfl⟩
      have hLl : L.length = N := by
        rw [hL, logW_len, ← hqi, List.length_map]
        exact hqN
      have hLj : ∀ (j : Nat) (x : Nat × List Int), q2[j]? = some x → L[j]? = some ((v.geo s).at_ (v.place + (j : Int)), x.2) := fun j x hx => by
        rw [hL, logW_at (v.geo s) v.place _ 0 j x.2 (by rw [← hqi, List.getElem?_map, hx]; rfl), show (0 : Int) + (j : Int) = (j : Int) from Int.zero_add _]
      have hNn : N ≤ 25 := by omega
      have hN1 : 1 ≤ N := by omega
      have hNi : (N : Int) = (n : Int) + 1 := by omega
      obtain ⟨g7, rfl⟩ := (S8.pull 1).addr (by omega)
      have SB : Sep w0 w7 (JBlk p d v1 :: DevA d r.2.1 :: PoolA Q :: Own 57 1 (.slice (some ⟨g7, 0, none⟩) N c7) N (q2.map fun x => rowV x.1) :: MapA v.bm (vals v1.M) :: PoolA ps :: MapA t.bw (vals t.M) :: TBlk q p t :: R) := ((((((((S8.pull 2).drop).pull 2).drop).pull 6).drop).pull 5).pull 3)
      have e8 : (v1.geo s) = v.geo s := HGV.out.1
      have hG1 : (v1.geo s).Ok := by rw [e8]; exact HG.out
      have ep : v1.place = v.place := HGV.out.2.2.2.2.1
      have es : v1.seq = v.seq := HGV.out.2.2.2.1
      have HQQ := Aside0.mk hqQ
      have HLL := Aside0.mk hLl
      have HLJ := Aside0.mk hLj
      have HQ3 := Aside0.mk hqN
      have HL := Aside0.mk hL
      have HG1 := Aside0.mk hG1
      have HNI := Aside0.mk hNi
      have HE8 := Aside0.mk e8
      have HEP := Aside0.mk ep
      have HES := Aside0.mk es
      clear S hq2 e7 S7 S8 hQ hqQ hqi hqN hL hLl hLj SL hli2 S4 hG1 hNi hN e8 ep es
      go_loopw [77] (fun i wr => ∃ j : Nat, j ≤ N ∧ i = .int .i64 (j : Int) ∧ Aside0 ((Jr.writes r.2.1 (L.take j)).1 = 0) ∧ Sep w0 wr (JBlk p d v1 :: DevA d (Jr.writes r.2.1 (L.take j)).2 :: PoolA Q :: Own 57 1 (.slice (some ⟨g7, 0, none⟩) N c7) N (q2.map fun x => rowV x.1) :: MapA v.bm (vals v1.M) :: PoolA ps :: MapA t.bw (vals t.M) :: TBlk q p t :: R)) (fun i _ => ((N : Int) - intOf i).toNat)
      case atStart => exact ⟨0, Nat.zero_le _, rfl, ⟨rfl⟩, SB⟩
      case round =>
        clear SB
        obtain ⟨j, hj, rfl, H0, S⟩ := hrel
        by_cases hjn : j < N
        · have hi : (j : Int) < (N : Int) := by omega
          obtain ⟨x, hx⟩ : ∃ x, q2[j]? = some x := ⟨_, List.getElem?_eq_getElem (by rw [HQ3.out]; exact hjn)⟩
          have hxQ := HQQ.out x (List.mem_of_getElem? hx)
          have hcell := (S.pull 3).row.cells (g := g7) rfl j (rowV x.1) (by rw [List.getElem?_map, hx]; rfl)
          rw [add_plain] at hcell
          unfold rowV at hcell
          have hnx := writes_next (HLJ.out j x hx) H0.out
          have hpj : (Jr.writes r.2.1 (L.take j)).2.pend.length ≤ 1000000000000 := by
            have h1 := writes_few (L.take j) r.2.1
            have h2 := HPE.out
            rw [List.length_take] at h1
            have := Nat.min_le_left j L.length
            omega
          have HNX := Aside0.mk hnx
          have d0 := S.cell 0 (v := .pointer (some ⟨d, 0, none⟩)) rfl
          have d4 := S.cell 4 (v := .int .i64 v.place) (by rw [← HEP.out]; rfl)
          have hbp : 0 ≤ v.place + (j : Int) ∧ v.place + (j : Int) ≤ 100000 := by omega
          have hwr : IntKind.i64.wrap (v.place + (j : Int)) = v.place + (j : Int) := by rw [IntKind.wrap_i64]; omega
          have HBP := Aside0.mk hbp
          obtain ⟨a, ha⟩ : ∃ a, a = Jr.writes r.2.1 (L.take j) := ⟨_, rfl⟩
          rw [← ha] at S hpj HNX H0
          clear hx hnx hbp ha
          go_wp2_with fail
          go_region_held (fun W => W.cell? ⟨p, 0, none⟩ = some (.pointer (some ⟨d, 0, none⟩)) ∧ W.cell? ⟨p, 4, none⟩ = some (.int .i64 v.place)) (refine ⟨?_, ?_⟩ <;> (repeat (first | (with_reducible assumption) | (with_reducible refine kd ?_))))
            (first
              | (go_at_call 88; refine (block_s S.drew HG1.out (v.place + (j : Int)) HBP.out.1 HBP.out.2).mono ?_; rintro _ _ ⟨rfl, k, rfl⟩; rw [HE8.out]; have Sb := S.drewN (1 + k); have z0 := Sb.cell 0 (v := .pointer (some ⟨d, 0, none⟩)) rfl; have z4 := Sb.cell 4 (v := .int .i64 v.place) (by rw [← HEP.out]; rfl))
              | (go_at_call 87; refine (write_pool ((Sb.pull 2).pull 2) ((v.geo s).at_ (v.place + (j : Int))) hxQ hpj).mono ?_; rintro _ w4 ⟨rfl, S4⟩; have y0 := (S4.pull 2).cell 0 (v := .pointer (some ⟨d, 0, none⟩)) rfl; have y4 := (S4.pull 2).cell 4 (v := .int .i64 v.place) (by rw [← HEP.out]; rfl))
              | (go_at_call 92; refine (wrapped_s S4 _ _).mono ?_; rintro _ w5 ⟨rfl, S5⟩; have x0 := (S5.pull 2).cell 0 (v := .pointer (some ⟨d, 0, none⟩)) rfl; have x4 := (S5.pull 2).cell 4 (v := .int .i64 v.place) (by rw [← HEP.out]; rfl)))
          clear d0 d4 z0 z4 y0 y4 x0 x4 hcell Sb S4 S
          by_cases hw : (a.2.write ((v.geo s).at_ (v.place + (j : Int))) x.2).1 = 0
          · rw [errV_0 _ hw]
            have e1 := HNX.out.1 hw
            have E1 := Aside0.mk e1
            have HS := Aside0.mk S5
            clear e1 hw S5 HNX
            go_wp2_with fail
            exact ⟨⟨j + 1, by omega, by go_num, ⟨by rw [E1.out]⟩, by rw [E1.out]; exact HS.out.pull 2⟩, by simp [intOf]; omega⟩
          · rw [errV_1 _ hw]
            have e2 : Jr.logged (v.geo s) r.2.1 v.seq v.place (dat t.M) = a.2.write ((v.geo s).at_ (v.place + (j : Int))) x.2 := by
              have h3 := HNX.out.2 hw
              rw [HL.out] at h3
              rw [logged_a (by rw [h3]; exact hw), h3]
            have E2 := Aside0.mk e2
            have HW := Aside0.mk hw
            have HS := Aside0.mk ((((S5.pull 1).drop).pull 2).drop)
            clear e2 hw S5 HNX
            go_wp2_with fail
            go_ret
            rw [HLG.out, E2.out]
            exact ⟨_, congrArg Ending.returned (errV_1 _ HW.out).symm, ((((((HS.out).pull 3).pull 3).pull 3).pull 4).pull 5)⟩
        · have hjn2 : N = j := by omega
          subst hjn2
          have hi : ¬ ((N : Int) < (N : Int)) := by omega
          have e1 : L.take N = L := by rw [← HLL.out]; exact List.take_length
          have h0 := H0.out
          rw [e1] at S h0
          obtain ⟨a, ha⟩ : ∃ a, a = Jr.writes r.2.1 L := ⟨_, rfl⟩
          rw [← ha] at S h0
          have hmN : ((dat t.M).length : Int) + 1 = (N : Int) := by rw [HDL.out, ← HN.out, HNI.out]
          have hlg := logged_b (G := v.geo s) (s := r.2.1) (seq := v.seq) (place := v.place) (m := dat t.M) (a := a) (by rw [← HL.out]; exact ha.symm) h0
          rw [hmN] at hlg
          have hpa : a.2.pend.length ≤ 300000 := by
            have h1 := writes_few L r.2.1
            have h2 := HPE.out
            rw [← ha, HLL.out] at h1
            omega
          obtain ⟨c, hc⟩ : ∃ c, c = a.2.flush.2.write ((v.geo s).at_ (v.place + (N : Int))) (commitB v.seq) := ⟨_, rfl⟩
          rw [← hc] at hlg
          have HC := Aside0.mk hc
          have HLG2 := Aside0.mk hlg
          have hff := flush_few a.2
          have d0 := S.cell 0 (v := .pointer (some ⟨d, 0, none⟩)) rfl
          clear hlg hmN ha h0 e1 hj hjn H0 hc
          go_wp2_with fail
          refine (flush_s (S.pull 1)).mono ?_
          clear S d0
          rintro _ w5 ⟨rfl, S5⟩
          go_wp2_with fail
          refine (wrapped_s S5 _ _).mono ?_
          clear S5
          rintro _ w6 ⟨rfl, S⟩
          by_cases hf : a.2.flush.1 = 0
          · rw [errV_0 _ hf]
            have hlg := HLG2.out
            rw [if_pos hf] at hlg
            have HLG3 := Aside0.mk hlg
            have hpw : a.2.flush.2.pend.length ≤ 1000000000000 := by omega
            have d0 := (S.pull 1).cell 0 (v := .pointer (some ⟨d, 0, none⟩)) rfl
            have d3 := (S.pull 1).cell 3 (v := .int .i64 v.seq) (by rw [← HES.out]; rfl)
            have d4 := (S.pull 1).cell 4 (v := .int .i64 v.place) (by rw [← HEP.out]; rfl)
            have hwr : IntKind.i64.wrap (v.place + (N : Int)) = v.place + (N : Int) := by rw [IntKind.wrap_i64]; omega
            have hbp : 0 ≤ v.place + (N : Int) ∧ v.place + (N : Int) ≤ 100000 := by omega
            have HBP := Aside0.mk hbp
            clear hlg hf HLG2 hbp
            go_wp2_with fail
            go_cut [16] (fun u wx => ∃ what, u = errV what c.1 ∧ Sep w0 wx (DevA d c.2 :: JBlk p d v1 :: MapA v.bm (vals v1.M) :: PoolA ps :: MapA t.bw (vals t.M) :: TBlk q p t :: R))
            case first =>
              have ta : True := trivial
              have tc : True := trivial
              go_region_held (fun W => W.cell? ⟨p, 0, none⟩ = some (.pointer (some ⟨d, 0, none⟩)) ∧ W.cell? ⟨p, 4, none⟩ = some (.int .i64 v.place) ∧ W.cell? ⟨p, 3, none⟩ = some (.int .i64 v.seq)) (refine ⟨?_, ?_, ?_⟩ <;> (repeat (first | (with_reducible assumption) | (with_reducible refine kd ?_))))
                (first
                  | (go_at_call 88; have _t := tc; refine (block_s (S.pull 1).drew HG1.out (v.place + (N : Int)) HBP.out.1 HBP.out.2).mono ?_; rintro _ _ ⟨rfl, k, rfl⟩; rw [HE8.out]; clear ta; have Sb := (S.pull 1).drewN (1 + k); have z0 := Sb.cell 0 (v := .pointer (some ⟨d, 0, none⟩)) rfl; have z3 := Sb.cell 3 (v := .int .i64 v.seq) (by rw [← HES.out]; rfl); have z4 := Sb.cell 4 (v := .int .i64 v.place) (by rw [← HEP.out]; rfl))
                  | (go_at_call 88; refine (block_s (Sc.pull 2) HG1.out (v.place + (N : Int)) HBP.out.1 HBP.out.2).mono ?_; rintro _ _ ⟨rfl, k, rfl⟩; rw [HE8.out]; have Sf := Sc.drewN k; have z0 := (Sf.pull 2).cell 0 (v := .pointer (some ⟨d, 0, none⟩)) rfl; have z3 := (Sf.pull 2).cell 3 (v := .int .i64 v.seq) (by rw [← HES.out]; rfl); have z4 := (Sf.pull 2).cell 4 (v := .int .i64 v.place) (by rw [← HEP.out]; rfl))
                  | (go_at_call 98; have _t := ta; refine (commitBlock_s S.drew v.seq).mono ?_; rintro _ wk ⟨gc, rfl, Sc⟩; clear tc; have y0 := (Sc.pull 2).cell 0 (v := .pointer (some ⟨d, 0, none⟩)) rfl; have y3 := (Sc.pull 2).cell 3 (v := .int .i64 v.seq) (by rw [← HES.out]; rfl); have y4 := (Sc.pull 2).cell 4 (v := .int .i64 v.place) (by rw [← HEP.out]; rfl))
                  | (go_at_call 98; refine (commitBlock_s (Sb.pull 1) v.seq).mono ?_; rintro _ wk ⟨gc, rfl, Sf⟩; have y0 := (Sf.pull 2).cell 0 (v := .pointer (some ⟨d, 0, none⟩)) rfl; have y3 := (Sf.pull 2).cell 3 (v := .int .i64 v.seq) (by rw [← HES.out]; rfl); have y4 := (Sf.pull 2).cell 4 (v := .int .i64 v.place) (by rw [← HEP.out]; rfl))
                  | (go_at_call 87; refine (write_s (Sf.pull 1) ((v.geo s).at_ (v.place + (N : Int))) hpw).mono ?_; rintro _ w4 ⟨rfl, S4⟩; rw [← HC.out] at S4 ⊢; have x0 := (S4.pull 2).cell 0 (v := .pointer (some ⟨d, 0, none⟩)) rfl; have x3 := (S4.pull 2).cell 3 (v := .int .i64 v.seq) (by rw [← HES.out]; rfl); have x4 := (S4.pull 2).cell 4 (v := .int .i64 v.place) (by rw [← HEP.out]; rfl))
                  | (go_at_call 92; refine (wrapped_s S4 _ _).mono ?_; rintro _ w5 ⟨rfl, S5⟩; have q0 := (S5.pull 2).cell 0 (v := .pointer (some ⟨d, 0, none⟩)) rfl; have q3 := (S5.pull 2).cell 3 (v := .int .i64 v.seq) (by rw [← HES.out]; rfl); have q4 := (S5.pull 2).cell 4 (v := .int .i64 v.place) (by rw [← HEP.out]; rfl)))
              all_goals (have SS := ((((S5.pull 1).drop).pull 2).drop.pull 2).drop; go_wp2_with fail; go_meet; (case rel => exact ⟨_, rfl, SS⟩))
            case rest =>
            obtain ⟨what, rfl, S⟩ := hcut
            by_cases hcc : c.1 = 0
            · rw [errV_0 _ hcc]
              have hlg := HLG3.out
              rw [if_pos hcc] at hlg
              have HLG4 := Aside0.mk hlg
              have d0 := (S.pull 1).cell 0 (v := .pointer (some ⟨d, 0, none⟩)) rfl
              clear hlg hcc HLG3
              go_wp2_with fail
              refine (flush_s S).mono ?_
              clear S d0
              rintro _ w7 ⟨rfl, S⟩
              go_wp2_with fail
              refine (wrapped_s S _ _).mono ?_
              clear S
              rintro _ w8 ⟨rfl, S⟩
              go_wp2_with fail
              go_ret
              rw [HLG.out, HLG4.out]
              exact ⟨_, rfl, ((((((S).pull 3).pull 3).pull 3).pull 4).pull 5)⟩
            · rw [errV_1 _ hcc]
              have hlg := HLG3.out
              rw [if_neg hcc] at hlg
              have HLG4 := Aside0.mk hlg
              have HF := Aside0.mk hcc
              clear hlg hcc HLG3
              go_wp2_with fail
              go_ret
              rw [HLG.out, HLG4.out]
              exact ⟨_, congrArg Ending.returned (errV_1 _ HF.out).symm, ((((((S).pull 3).pull 3).pull 3).pull 4).pull 5)⟩
          · rw [errV_1 _ hf]
            have hlg := HLG2.out
            rw [if_neg hf] at hlg
            have HLG4 := Aside0.mk hlg
            have HF := Aside0.mk hf
            have HS := Aside0.mk ((((S.pull 2).drop).pull 2).drop)
            clear hlg hf HLG2 S
            go_wp2_with fail
            go_ret
            rw [HLG.out, HLG4.out]
            exact ⟨_, congrArg Ending.returned (errV_1 _ HF.out).symm, ((((((HS.out).pull 3).pull 3).pull 3).pull 4).pull 5)⟩
end
end Go.Proofs.YtlhlmjkocmahmaaGreatDoor.Sep
