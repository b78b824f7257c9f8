/- fill, the plain law: what holds behind so many puts. -/
import Derived.Test.YtmafafingdpopaaGreatDoorMA13
import Derived.Deep.CutBlock
import Derived.WalkSpells
namespace Go.Proofs.YtmafafingdpopaaGreatDoor.Sep
open Go.Proofs Go.RowKit Go.ChangeMaps Go.Proofs.YtmafafingdpopaaGreatDoorW.PrintWords Go.Proofs.YtmafafingdpopaaGreatDoorW.PrintLast Go.Proofs.YtmafafingdpopaaGreatDoorW.PrintMore Go.Proofs.YtmafafingdpopaaGreatDoor.Dev Go.Proofs.YtmafafingdpopaaGreatDoor.Errs Go.Proofs.YtmafafingdpopaaGreatDoor.Jr Go.Proofs.YtmafafingdpopaaGreatDoor.Help Go.Proofs.YtmafafingdpopaaGreatDoor.IMap
set_option linter.unusedVariables false
set_option linter.unusedSimpArgs false
structure FInvL (G : Geo) (outs : List Int) (ws : List VB) (M : MV) (nx : List VB) (sn : List Int) (ps : List (Nat × List Int)) (hs : List VB) : Prop where
  up : SM.Up M
  few : M.length ≤ 24
  len : M.length = sn.length
  ok : ∀ x ∈ M, G.out x.1 = true ∧ x.2.2.length = 512 ∧ Byte x.2.2
  ins : Ins M ps
  seen : ∀ (k : Nat) b, outs[k]? = some b → ((k : Int) ∈ sn ↔ (SM.lkp M b).isSome = true)
  nlen : nx.length = outs.length
  next : ∀ (k : Nat) b y, outs[k]? = some b → ws[k]? = some y → ∃ x, nx[k]? = some x ∧ x.2 = (SM.lkp (dat M) b).getD y.2
  held : ∀ x ∈ nx, x ∈ hs
  old : ∀ x ∈ ws, x ∈ hs
section
variable {G : Geo} {outs : List Int} {ws nx : List VB} {M : MV} {sn : List Int} {ps ps' : List (Nat × List Int)} {hs hs' : List VB} {k : Nat} {b : Int} {l : List Int} {g : Nat} {v : Value}
theorem FInvL.start (hl : ws.length = outs.length) (hh : ∀ x ∈ ws, x ∈ hs) : FInvL G outs ws [] ws [] ps hs :=
  ⟨List.Pairwise.nil, Nat.zero_le _, rfl, (fun x hx => by cases hx), (fun x hx => by cases hx), (fun k b hb => by constructor <;> intro h <;> cases h), hl, (fun k b y _ hy => ⟨y, hy, rfl⟩), hh, hh⟩
theorem FInvL.more (h : FInvL G outs ws M nx sn ps hs) (h1 : ∀ x ∈ ps, x ∈ ps') (h2 : ∀ x ∈ hs, x ∈ hs') : FInvL G outs ws M nx sn ps' hs' :=
  ⟨h.up, h.few, h.len, h.ok, fun x hx => h1 _ (h.ins x hx), h.seen, h.nlen, h.next, fun x hx => h2 x (h.held x hx), fun x hx => h2 x (h.old x hx)⟩
theorem FInvL.put (h : FInvL G outs ws M nx sn ps hs) (hn : outs.Nodup) (hk : outs[k]? = some b) (ho : G.out b = true) (hl : l.length = 512) (hB : Byte l) (hg : (g, l) ∈ ps) (hv : (v, l) ∈ hs)
    {sn' : List Int} (hs' : if (k : Int) ∈ sn then sn' = sn else sn' = sn ++ [(k : Int)]) (hf : (k : Int) ∈ sn ∨ sn.length < 24) : FInvL G outs ws (SM.ins M b (g, l)) (nx.set k (v, l)) sn' ps hs := by
  have hlen := SM.len_ins h.up b (g, l)
  have hse := h.seen k b hk
  have hkl : k < outs.length := (List.getElem?_eq_some_iff.1 hk).1
  have hinj : ∀ (j : Nat) b', outs[j]? = some b' → (b' = b ↔ j = k) := fun j b' hj => by
    constructor
    · rintro rfl
      exact (List.getElem?_inj (List.getElem?_eq_some_iff.1 hj).1 hn).1 (hj.trans hk.symm)
    · rintro rfl
      rw [hj] at hk
      exact Option.some.inj hk
  refine ⟨h.up.ins b _, ?_, ?_, fun x hx => ?_, h.ins.ins b (g, l) hg, fun j b' hj => ?_, by rw [List.length_set]; exact h.nlen, fun j b' y hj hy => ?_, fun x hx => ?_, h.old⟩
  · rw [hlen]
    have := h.few
    have := h.len
    split
    · omega
    · rename_i hnn
      rcases hf with hf | hf
      · exact absurd (hse.1 hf) hnn
      · omega
  · rw [hlen]
    have := h.len
    by_cases hm : (k : Int) ∈ sn
    · rw [if_pos hm] at hs'
      rw [if_pos (hse.1 hm), hs']
      exact this
    · rw [if_neg hm] at hs'
      rw [if_neg (fun q => hm (hse.2 q)), hs', List.length_append]
      simp
      exact this
  · rcases SM.mem_ins hx with e | hx
    · rw [e]
      exact ⟨ho, hl, hB⟩
    · exact h.ok x hx
  · rw [SM.look_ins]
    have hi := hinj j b' hj
    have hsj := h.seen j b' hj
    by_cases hjk : j = k
    · rw [if_pos (hi.2 hjk)]
      subst hjk
      by_cases hm : (j : Int) ∈ sn
      · rw [if_pos hm] at hs'
        rw [hs']
        exact ⟨fun _ => rfl, fun _ => hm⟩
      · rw [if_neg hm] at hs'
        rw [hs']
        exact ⟨fun _ => rfl, fun _ => by simp⟩
    · rw [if_neg (fun q => hjk (hi.1 q)), ← hsj]
      by_cases hm : (k : Int) ∈ sn
      · rw [if_pos hm] at hs'
        rw [hs']
      · rw [if_neg hm] at hs'
        rw [hs', List.mem_append, List.mem_singleton]
        constructor
        · rintro (q | q)
          · exact q
          · exact absurd (by omega) hjk
        · exact fun q => .inl q
  · obtain ⟨x, hx, hx2⟩ := h.next j b' y hj hy
    have hi := hinj j b' hj
    have hd : dat (SM.ins M b (g, l)) = SM.ins (dat M) b l := SM.ins_on (fun x : Nat × List Int => x.2) M b (g, l)
    rw [hd, SM.look_ins, List.getElem?_set]
    by_cases hjk : j = k
    · subst hjk
      rw [if_pos rfl, if_pos (hi.2 rfl), if_pos (by rw [h.nlen]; exact hkl)]
      exact ⟨_, rfl, rfl⟩
    · rw [if_neg (fun q => hjk q.symm), if_neg (fun q => hjk (hi.1 q))]
      exact ⟨x, hx, hx2⟩
  · rcases List.mem_or_eq_of_mem_set hx with q | q
    · exact h.held x q
    · rw [q]
      exact hv
/-- A transaction as it was filled. -/
structure TxOk (G : Geo) (M : MV) : Prop where
  up : SM.Up M
  few : M.length ≤ 24
  ok : ∀ x ∈ M, G.out x.1 = true ∧ x.2.2.length = 512 ∧ Byte x.2.2
theorem FInvL.tx (h : FInvL G outs ws M nx sn ps hs) : TxOk G M := ⟨h.up, h.few, h.ok⟩
theorem TxOk.good (h : TxOk G M) (hn : M ≠ []) : Jr.Good G (dat M) := by
  have hl : (dat M).length = M.length := SM.len_on _ _
  refine ⟨h.up.on _, ?_, by rw [hl]; exact h.few, fun x hx => ?_⟩
  · rw [hl]
    cases M with
    | nil => exact absurd rfl hn
    | cons a r => exact Nat.succ_le_succ (Nat.zero_le _)
  · obtain ⟨y, hy, rfl⟩ := List.mem_map.1 hx
    exact h.ok y hy
/-- What is wanted next, as the journal has it then. -/
theorem FInvL.holds {W : Int → List Int} {T : Tn} (h : FInvL G T.outs T.ws M nx sn ps hs) (H : Holds G T W) (vn : Value) : Holds G { T with vw := vn, ws := nx } (if M = [] then W else laid W (dat M)) := by
  refine ⟨h.nlen, H.out, H.nodup, H.pos, H.few, fun i hi => ?_, H.start, H.size⟩
  have hi : i < T.outs.length := hi
  have hwl : i < T.ws.length := by rw [H.len]; exact hi
  obtain ⟨x, hx, hx2⟩ := h.next i _ _ (List.getElem?_eq_getElem hi) (List.getElem?_eq_getElem hwl)
  have hnl : i < nx.length := by rw [h.nlen]; exact hi
  rw [List.getElem?_eq_getElem hnl] at hx
  have e1 : nx[i] = x := Option.some.inj hx
  show (nx[i]).2 = _
  rw [e1, hx2, H.is i hi]
  by_cases hM : M = []
  · subst hM
    rfl
  · rw [if_neg hM]
    unfold laid
    have ho : 0 ≤ T.outs[i] := by
      have h1 := H.out _ (List.getElem_mem hi)
      unfold Geo.out at h1
      simp at h1
      exact h1.1.1
    have hne : ¬ T.outs[i] = -1 := by omega
    exact (if_neg hne).symm
end
end Go.Proofs.YtmafafingdpopaaGreatDoor.Sep
/- fill: the writes of one transaction. -/
namespace Go.Proofs.YtmafafingdpopaaGreatDoor.Sep
open Go.Proofs Go.RowKit Go.ChangeMaps Go.Proofs.YtmafafingdpopaaGreatDoorW.PrintWords Go.Proofs.YtmafafingdpopaaGreatDoorW.PrintLast Go.Proofs.YtmafafingdpopaaGreatDoorW.PrintMore Go.Proofs.YtmafafingdpopaaGreatDoor.Dev Go.Proofs.YtmafafingdpopaaGreatDoor.Errs Go.Proofs.YtmafafingdpopaaGreatDoor.Jr Go.Proofs.YtmafafingdpopaaGreatDoor.Help Go.Proofs.YtmafafingdpopaaGreatDoor.IMap
set_option linter.unusedVariables false
set_option linter.unusedSimpArgs false
theorem byte_blk {l : List Int} (h : Byte l) : Byte (Go.Proofs.YtmafafingdpopaaGreatDoor.Sep.blk l) := by
  rw [blk_is_pad]
  exact (h.take _).app (byte_zeros _)
section
variable {w0 w w' : World} {R : List Asn} {q p d b : Nat} {ps : List (Nat × List Int)} {v : JV} {s : DS} {G : Geo} {W : Int → List Int} {T : Tn} {hs : List VB} {A : Option Addr} {c : Nat} {l : List Pt}
theorem own_len {e : TypeId} {size n n' : Nat} {v : Value} {xs : List Value} (S : Sep w0 w (Own e size v n xs :: R)) (h : n = n') : Sep w0 w (Own e size v n' xs :: R) := h ▸ S
theorem Sep.kept_nil (S : Sep w0 w R) : Sep w0 w (KeptA [] :: R) := S.new (Below.refl _ _) (A := KeptA []) (G := fun _ => False) ⟨fun x hx => absurd hx (List.not_mem_nil), fun k hk => False.elim hk⟩ fun k hk => False.elim hk
/-- What fill answers. -/
def FillP (w0 : World) (R : List Asn) (q p d : Nat) (v : JV) (s : DS) (ps : List (Nat × List Int)) (hs : List VB) (T : Tn) (G : Geo) (e : Ending) (w' : World) : Prop :=
  ∃ (t' : TV) (ps' : List (Nat × List Int)) (hs' nx : List VB) (a : Addr) (cn : Nat) (sn : List Int), e = .returned (.tuple #[.slice (some a) T.outs.length cn, .bool true]) ∧ FInvL G T.outs T.ws t'.M nx sn ps' hs' ∧ (∀ x ∈ ps, x ∈ ps') ∧ (∀ x ∈ hs, x ∈ hs') ∧
    Sep w0 w' (TBlk q p t' :: MapA t'.bw (vals t'.M) :: JBlk p d { v with tx := some q } :: MapA v.bm (vals v.M) :: PoolA ps' :: DevA d s :: TownA T :: HeldA hs' :: Own 39 1 (.slice (some a) T.outs.length cn) T.outs.length (nx.map (·.1)) :: R)
set_option maxRecDepth 100000 in
set_option maxHeartbeats 8000000 in
theorem fill_s (S : Sep w0 w (TBlk q p ⟨b, [], .slice none 0 0, .slice none 0 0, 0⟩ :: MapA b [] :: JBlk p d { v with tx := some q } :: MapA v.bm (vals v.M) :: PoolA ps :: DevA d s :: TownA T :: HeldA hs :: R)) (L : LiveV G s v ps W) (H : Holds G T W) (hh : ∀ x ∈ T.ws, x ∈ hs) (P : PutsIn w0 A l) :
    Calls Tryz.prog 38 #[.pointer (some ⟨T.tp, 0, none⟩), .pointer (some ⟨q, 0, none⟩), .slice A l.length c] w (FillP w0 R q p d v s ps hs T G) := by
  have HL := Aside0.mk L
  have HH := Aside0.mk H
  have HI := Aside0.mk hh
  have HP := Aside0.mk P
  have hlen : T.ws.length = T.outs.length := H.len
  have hfew : T.outs.length ≤ 200 := H.few
  have hpos : 0 < T.outs.length := H.pos
  obtain ⟨go, co, hvo⟩ : ∃ g c, T.vo = .slice (some ⟨g, 0, none⟩) T.outs.length c := by
    have S1 := (S.pull 6).town.swap
    obtain ⟨A, c, e⟩ := own_slice S1.row
    rw [e] at S1
    obtain ⟨g, rfl⟩ := S1.addr hpos
    exact ⟨g, c, e⟩
  obtain ⟨gw, cw, hvw⟩ : ∃ g c, T.vw = .slice (some ⟨g, 0, none⟩) T.ws.length c := by
    have S1 := (S.pull 6).town.p2
    obtain ⟨A, c, e⟩ := own_slice S1.row
    rw [e] at S1
    obtain ⟨g, rfl⟩ := S1.addr (by omega)
    exact ⟨g, c, e⟩
  have HLEN := Aside0.mk hlen
  have HVO := Aside0.mk hvo
  have HVW := Aside0.mk hvw
  clear L H hh hlen hvo hvw P
  go_enter Tryz.func38, Tryz.ntmps38
  go_upto_block 0 with fail
  go_cut [8, 9] (fun nv _ wx => Sep w0 wx (Own 39 1 nv T.ws.length (T.ws.map (·.1)) :: TBlk q p ⟨b, [], .slice none 0 0, .slice none 0 0, 0⟩ :: MapA b [] :: JBlk p d { v with tx := some q } :: MapA v.bm (vals v.M) :: PoolA ps :: DevA d s :: TownA T :: HeldA hs :: R))
  case first =>
    go_wp2_with fail
    go_loopw [8, 9] (fun nv iv wr => ∃ j : Nat, j ≤ T.outs.length ∧ iv = .int .i64 (j : Int) ∧ Sep w0 wr (Own 39 1 nv j ((T.ws.take j).map (·.1)) :: TBlk q p ⟨b, [], .slice none 0 0, .slice none 0 0, 0⟩ :: MapA b [] :: JBlk p d { v with tx := some q } :: MapA v.bm (vals v.M) :: PoolA ps :: DevA d s :: TownA T :: HeldA hs :: R)) (fun _ i _ => (T.outs.length - intOf i).toNat)
    case atStart => exact ⟨0, Nat.zero_le _, rfl, S.nils _ _⟩
    case round =>
      clear S
      obtain ⟨j, hj, rfl, S⟩ := hrel
      have S1 := (S.pull 7).town
      have c4 := S1.cell 4 (v := T.vw) rfl
      rw [HVW.out, HLEN.out] at c4
      by_cases hjn : j < T.outs.length
      · have hlt : (j : Int) < (T.outs.length : Int) := by omega
        have hjw : j < T.ws.length := by rw [HLEN.out]; exact hjn
        have o2 := S1.p2.ws_at HVW.out j hjw
        obtain ⟨A2, c2, hwv, hcw, hrw⟩ := (S.pull 8).held_at (HI.out _ (List.getElem_mem hjw))
        rw [hwv] at o2
        have e1 : (T.ws.take j).map (·.1) ++ [Value.slice A2 512 c2] = (T.ws.take (j + 1)).map (·.1) := by
          rw [List.take_succ_eq_append_getElem hjw, List.map_append]
          simp [hwv]
        have HE := Aside0.mk e1
        clear S1 hrw hwv e1
        obtain ⟨An, cn, rfl⟩ := own_slice S.row
        go_wp2_with (first | ((with_reducible refine gate_builtin (b := .append) (xs := #[.tmp 25, .tmp 33]) rfl ?_); at_builtin; go_must (refine append_s S rfl (.tmp 25) (.tmp 33) 33 (.slice none 0 0) 24 rfl Tryz.underlying33 infoBs rfl (by decide) (by decide) [.slice A2 512 c2] rfl rfl rfl ?a1 ?aL ?_); (case a1 => (intro u hu; rw [List.mem_singleton.1 hu]; rfl)); (case aL => omega); intro A1 c1 w9 S9))
        rw [HE.out] at S9
        exact ⟨⟨j + 1, hjn, by go_num, S9⟩, by simp [intOf]; omega⟩
      · have hlt : ¬ (j : Int) < (T.outs.length : Int) := by omega
        have e1 : j = T.ws.length := by rw [HLEN.out]; omega
        have e2 : (T.ws.take j).map (·.1) = T.ws.map (·.1) := by rw [List.take_of_length_le (by omega)]
        rw [e2] at S
        have S2 : Sep w0 wr (Own 39 1 u8 T.ws.length (T.ws.map (·.1)) :: TBlk q p ⟨b, [], .slice none 0 0, .slice none 0 0, 0⟩ :: MapA b [] :: JBlk p d { v with tx := some q } :: MapA v.bm (vals v.M) :: PoolA ps :: DevA d s :: TownA T :: HeldA hs :: R) := by rw [← e1]; exact S
        clear S S1 e1 e2
        go_wp2_with fail
        go_meet
        case rel => exact S2
  case rest =>
  have S := hcut
  clear hcut
  obtain ⟨An, cn, rfl⟩ := own_slice S.row
  obtain ⟨gn, rfl⟩ := S.addr (by rw [HLEN.out]; exact hpos)
  rw [HLEN.out] at S ⊢
  have S := ((S.nils 3 1).kept_nil).nils 1 1
  have S := (((((((((((S.pull 3).pull 11).pull 11).pull 4).pull 4).pull 11).pull 11).pull 11).pull 11).pull 11).pull 11)
  go_wp2_with fail
  go_loopw [10, 11] (fun sv iv wr => ∃ (j : Nat) (t : TV) (us : List UR) (os : List (Nat × Array Value × TypeId)) (ps' : List (Nat × List Int)) (hs' nx : List VB) (sn : List Int), j ≤ l.length ∧ j ≤ 60 ∧ iv = .int .i64 (j : Int) ∧ us.length ≤ j ∧ Aside0 (FInvL G T.outs T.ws t.M nx sn ps' hs' ∧ (∀ x ∈ ps, x ∈ ps') ∧ (∀ x ∈ hs, x ∈ hs')) ∧
    Sep w0 wr (TBlk q p t :: MapA t.bw (vals t.M) :: JBlk p d { v with tx := some q } :: MapA v.bm (vals v.M) :: PoolA ps' :: DevA d s :: Own 1 1 t.un us.length (us.map UR.val) :: KeptA os :: TownA T :: HeldA hs' :: Own 39 1 (.slice (some ⟨gn, 0, none⟩) T.outs.length cn) T.outs.length (nx.map (·.1)) :: Own 3 1 sv sn.length (nums .i64 sn) :: R)) (fun _ i _ => (60 - intOf i).toNat)
  case atStart => exact ⟨0, ⟨b, [], .slice none 0 0, .slice none 0 0, 0⟩, [], [], ps, hs, T.ws, [], Nat.zero_le _, Nat.zero_le _, rfl, Nat.zero_le _, ⟨FInvL.start HLEN.out HI.out, fun x hx => hx, fun x hx => hx⟩, S⟩
  case round =>
    clear S
    obtain ⟨j, t, us, os, ps', hs', nx, sn, hj, hj60, rfl, hus, HF, S⟩ := hrel
    by_cases hlt : j < l.length ∧ j < 60
    · obtain ⟨g1, g2⟩ := hlt
      have d1 : decide ((j : Int) < (l.length : Int)) = true := decide_eq_true (by omega)
      have d2 : decide ((j : Int) < 60) = true := decide_eq_true (by omega)
      have g1' : (j : Int) < (l.length : Int) := by omega
      obtain ⟨ad, B, cB, rfl, hcB, hX⟩ := puts_in HP.out.at_ j g1
      have hok := HP.out.ok _ (List.getElem_mem g1)
      obtain ⟨xb, hxb⟩ : ∃ xb, xb = l[j] := ⟨_, rfl⟩
      rw [← hxb] at hcB hok hX
      obtain ⟨x0, x1, hrB⟩ := hX _ S.bel
      have X := Aside0.mk hX
      have HOK := Aside0.mk hok
      have hpl := place_s (S.pull 8) hpos hfew xb.1 ⟨hok.2.2.1, hok.2.2.2⟩
      clear hxb hok hX x1
      go_wp2_with fail
      refine hpl.mono ?_
      clear hpl x0
      rintro _ w5 ⟨k, hk, rfl, hw5⟩
      rw [hw5]
      clear hw5 w5
      obtain ⟨As, cs, hu10⟩ := own_slice (S.pull 11).row
      subst hu10
      have HX1 := Aside0.mk hrB
      have hs24 : sn.length ≤ 24 := by rw [← HF.out.1.len]; exact HF.out.1.few
      clear hrB
      go_upto_block 4 with fail
      go_cut [13, 14] (fun kn _ wx => kn = .bool (decide ((k : Int) ∈ sn)) ∧ wx = wr)
      case first =>
        go_wp2_with fail
        go_loopw [13, 14] (fun kn jv wx => ∃ m : Nat, m ≤ sn.length ∧ jv = .int .i64 (m : Int) ∧ kn = .bool (decide ((k : Int) ∈ sn.take m)) ∧ wx = wr) (fun _ i _ => (sn.length - intOf i).toNat)
        case atStart => exact ⟨0, Nat.zero_le _, rfl, by simp, rfl⟩
        case round =>
          obtain ⟨m, hm, rfl, rfl, rfl⟩ := hrel
          by_cases hml : m < sn.length
          · have hlt : (m : Int) < (sn.length : Int) := by omega
            obtain ⟨gs, rfl⟩ := (S.pull 11).addr (by omega)
            have e1 := (S.pull 11).elem m hml
            have e2 : sn.getD m 0 = sn[m] := by rw [List.getD_eq_getElem?_getD, List.getElem?_eq_getElem hml]; rfl
            rw [e2] at e1
            have htk : sn.take (m + 1) = sn.take m ++ [sn[m]] := List.take_succ_eq_append_getElem hml
            have hin : decide ((k : Int) ∈ sn.take (m + 1)) = (decide ((k : Int) ∈ sn.take m) || decide (sn[m] = (k : Int))) := by
              rw [htk, ← Bool.decide_or]
              exact decide_eq_decide.2 ⟨fun h => by
                rcases List.mem_append.1 h with q | q
                · exact .inl q
                · exact .inr (List.mem_singleton.1 q).symm, fun h => by
                rcases h with q | q
                · exact List.mem_append_left _ q
                · exact List.mem_append_right _ (by rw [q]; exact List.mem_singleton.2 rfl)⟩
            have HIN := Aside0.mk hin
            clear e2 htk hin
            cases hkb : decide ((k : Int) ∈ sn.take m)
            · have HKB := Aside0.mk hkb
              clear hkb
              by_cases e : sn[m] = (k : Int)
              · have HE := Aside0.mk e
                have hb : (sn[m] == (k : Int)) = true := by simpa using e
                clear e
                go_wp2_with fail
                exact ⟨⟨m + 1, hml, by go_num, by rw [HIN.out, HKB.out, decide_eq_true HE.out]; rfl, by simp⟩, by simp [intOf]; omega⟩
              · have HE := Aside0.mk e
                have hb : (sn[m] == (k : Int)) = false := by simpa using e
                clear e
                go_wp2_with fail
                exact ⟨⟨m + 1, hml, by go_num, by rw [HIN.out, HKB.out, decide_eq_false HE.out]; rfl, by simp⟩, by simp [intOf]; omega⟩
            · have HKB := Aside0.mk hkb
              clear hkb
              go_wp2_with fail
              exact ⟨⟨m + 1, hml, by go_num, by rw [HIN.out, HKB.out]; rfl, by simp⟩, by simp [intOf]; omega⟩
          · have hlt : ¬ (m : Int) < (sn.length : Int) := by omega
            have e1 : decide ((k : Int) ∈ sn.take m) = decide ((k : Int) ∈ sn) := by rw [List.take_of_length_le (by omega)]
            have HE1 := Aside0.mk e1
            clear e1
            go_wp2_with fail
            go_meet
            case rel => exact ⟨by rw [HE1.out], rfl⟩
      case rest =>
      obtain ⟨rfl, rfl⟩ := hcut
      have hbo : G.out T.outs[k] = true := HH.out.out _ (List.getElem_mem hk)
      have O : Aside0 (∀ (W : World) (L : List Asn), Sep w0 W (TownA T :: L) → W.cell? ⟨go, k, none⟩ = some (.int .i64 T.outs[k]) ∧ W.cell? ⟨T.tp, 3, none⟩ = some (.slice (some ⟨go, 0, none⟩) T.outs.length co)) := ⟨fun W L S => ⟨S.town.swap.outs_at HVO.out k hk, by have c := S.town.cell 3 (v := T.vo) rfl; rw [HVO.out] at c; exact c⟩⟩
      obtain ⟨bk, hbk⟩ : ∃ bk, bk = T.outs[k] := ⟨_, rfl⟩
      rw [← hbk] at hbo O
      have hkq : T.outs[k]? = some bk := by rw [hbk]; exact List.getElem?_eq_getElem hk
      have HKQ := Aside0.mk hkq
      have HBO := Aside0.mk hbo
      obtain ⟨o1, c3⟩ := O.out _ _ (S.pull 8)
      obtain ⟨_, x1, hrB⟩ := X.out _ S.bel
      have hki : (k : Int) < (T.outs.length : Int) := by omega
      have hrB := Aside0.mk hrB
      clear hbk hkq hbo HX1
      go_wp2_with fail
      go_region_held (fun W => W.cell? ⟨T.tp, 3, none⟩ = some (.slice (some ⟨go, 0, none⟩) T.outs.length co) ∧ W.cell? ⟨go, k, none⟩ = some (.int .i64 bk) ∧ W.cell? ⟨(ad.add (j * 2)).block, (ad.add (j * 2)).off + 1, none⟩ = some (.slice B xb.2.length cB)) (refine ⟨?_, ?_, ?_⟩ <;> (repeat (first | (with_reducible assumption) | (with_reducible refine kd ?_))))
        (first
          | (go_at_call 18; refine (block_s7 S.drew hrB.out hcB HOK.out.2.1).mono ?_; rintro _ w5 ⟨g, dc, rfl, S5⟩; obtain ⟨y1, y3⟩ := O.out _ _ (S5.pull 9); obtain ⟨_, y2, _⟩ := X.out _ S5.bel)
          | (go_at_call 19; refine (twrite_any (HL.out.sub HF.out.2.1) ((((((((S5.pull 8).pull 8).pull 8).pull 8).pull 8).pull 8).pull 8).pull 8) HF.out.1.ins HBO.out HF.out.1.few (by omega)).mono ?_; rintro _ w6 ⟨cd, t2, ps2, us2, os2, rfl, hW, hul2, S6⟩; obtain ⟨z1, z3⟩ := O.out _ _ (S6.pull 9); obtain ⟨_, z2, _⟩ := X.out _ S6.bel; have HW := Aside0.mk hW; clear hW))
      clear y1 y2 y3 z1 z2 z3 o1 c3 x1 S S5 hrB
      have S := (S6.pull 8).drop
      clear S6
      have hbb : (SM.lkp t.M bk).isSome = true ∨ sn.length < 24 ∨ ((k : Int) ∉ sn ∧ sn.length = 24) := by
        have h := HF.out.1.seen k bk HKQ.out
        by_cases hm : (k : Int) ∈ sn
        · exact .inl (h.1 hm)
        · by_cases h24 : sn.length < 24
          · exact .inr (.inl h24)
          · exact .inr (.inr ⟨hm, by omega⟩)
      have HBB := Aside0.mk hbb
      clear hbb
      obtain ⟨_, x1, hrB⟩ := X.out _ S.bel
      by_cases hm : (k : Int) ∈ sn
      · have hkn : decide ((k : Int) ∈ sn) = true := decide_eq_true hm
        rw [hkn]
        have HM := Aside0.mk hm
        have hwi := HW.out.is
        rw [if_pos (.inl ((HF.out.1.seen k bk HKQ.out).1 hm))] at hwi
        obtain ⟨hcd, g2, ht2⟩ := hwi
        subst hcd
        have HT2 := Aside0.mk ht2
        clear hkn hm ht2
        go_wp2_with (first | (go_at_call 20; refine (num_any _ _).mono ?_; rintro _ _ ⟨rfl, rfl⟩))
        obtain ⟨y0, hy0⟩ : ∃ y0, nx[k]? = some y0 := ⟨_, List.getElem?_eq_getElem (by rw [HF.out.1.nlen]; exact hk)⟩
        have HY := Aside0.mk hy0
        clear hy0
        refine (block_s7 S hrB hcB HOK.out.2.1).mono ?_
        clear S hrB x1
        rintro _ w7 ⟨g3, dc3, rfl, S⟩
        have n1 := (S.pull 11).val k (v := y0.1) (by rw [List.getElem?_map, HY.out]; rfl)
        have n2 := (S.pull 11).row_free hpos k
        have S := (S.pull 11).put k (.slice (some ⟨g3, 0, none⟩) 512 dc3)
        have hmap : (nx.map (·.1)).set k (.slice (some ⟨g3, 0, none⟩) 512 dc3) = (nx.set k (.slice (some ⟨g3, 0, none⟩) 512 dc3, Go.Proofs.YtmafafingdpopaaGreatDoor.Sep.blk xb.2)).map (·.1) := by rw [List.map_set]
        rw [hmap] at S
        have S := ((S.pull 11).pull 2).held_add
        have S := (((((((((S.pull 10).pull 10).pull 10).pull 10).pull 10).pull 10).pull 10).pull 10).pull 10)
        have HS := Aside0.mk S
        clear S hmap
        go_wp2_with fail
        have hgm : (g2, Go.Proofs.YtmafafingdpopaaGreatDoor.Sep.blk xb.2) ∈ ps2 := HW.out.ins (bk, (g2, Go.Proofs.YtmafafingdpopaaGreatDoor.Sep.blk xb.2)) (by rw [HT2.out]; exact SM.look_mem (by rw [SM.look_ins, if_pos rfl]))
        have F2 := (HF.out.1.more HW.out.sub (fun x hx => List.mem_cons_of_mem (.slice (some ⟨g3, 0, none⟩) 512 dc3, Go.Proofs.YtmafafingdpopaaGreatDoor.Sep.blk xb.2) hx)).put HH.out.nodup HKQ.out HBO.out (blk_len xb.2) (byte_blk HOK.out.1) hgm (List.mem_cons_self) (sn' := sn) (by rw [if_pos HM.out]) (.inl HM.out)
        rw [← HT2.out] at F2
        exact ⟨⟨j + 1, t2, us2, os2, ps2, _, _, sn, g1, by omega, by go_num, by omega, ⟨F2, fun x hx => HW.out.sub x (HF.out.2.1 x hx), fun x hx => List.mem_cons_of_mem _ (HF.out.2.2 x hx)⟩, HS.out⟩, by simp [intOf]; omega⟩
      · have hkn : decide ((k : Int) ∈ sn) = false := decide_eq_false hm
        rw [hkn]
        have HM := Aside0.mk hm
        by_cases h24 : sn.length < 24
        · have hlt : ¬ (sn.length : Int) ≥ 24 := by omega
          have hwi := HW.out.is
          rw [if_pos (.inr (by rw [HF.out.1.len]; exact h24))] at hwi
          obtain ⟨hcd, g2, ht2⟩ := hwi
          subst hcd
          have HT2 := Aside0.mk ht2
          clear hkn hm ht2
          have SE := S.pull 11
          clear S x1 hrB
          go_upto_region 24 with (first | (go_at_call 20; refine (num_any _ _).mono ?_; rintro _ _ ⟨rfl, rfl⟩) | ((with_reducible refine gate_builtin (b := .append) (xs := #[.tmp 97, .tmp 99]) rfl ?_); at_builtin; go_must (refine append_s SE rfl (.tmp 97) (.tmp 99) 34 (.int .i64 0) 8 rfl Tryz.underlying34 infoI rfl (by decide) (by decide) [.int .i64 (k : Int)] rfl rfl rfl ?a1 ?aL ?_); (case a1 => (intro u hu; rw [List.mem_singleton.1 hu]; rfl)); (case aL => omega); intro A1 c1 w9 S9))
          have hsn : nums .i64 sn ++ [.int .i64 (k : Int)] = nums .i64 (sn ++ [(k : Int)]) := by simp [nums]
          have hsl : sn.length + 1 = (sn ++ [(k : Int)]).length := by simp
          rw [hsn] at S9
          have S9 := own_len S9 hsl
          have S := (((((((((((S9.pull 11).pull 11).pull 11).pull 11).pull 11).pull 11).pull 11).pull 11).pull 11).pull 11).pull 11)
          clear SE S9 hsn hsl
          obtain ⟨_, x1, hrB⟩ := X.out _ S.bel
          go_wp2_with fail
          obtain ⟨y0, hy0⟩ : ∃ y0, nx[k]? = some y0 := ⟨_, List.getElem?_eq_getElem (by rw [HF.out.1.nlen]; exact hk)⟩
          have HY := Aside0.mk hy0
          clear hy0
          refine (block_s7 S hrB hcB HOK.out.2.1).mono ?_
          clear S hrB x1
          rintro _ w7 ⟨g3, dc3, rfl, S⟩
          have n1 := (S.pull 11).val k (v := y0.1) (by rw [List.getElem?_map, HY.out]; rfl)
          have n2 := (S.pull 11).row_free hpos k
          have S := (S.pull 11).put k (.slice (some ⟨g3, 0, none⟩) 512 dc3)
          have hmap : (nx.map (·.1)).set k (.slice (some ⟨g3, 0, none⟩) 512 dc3) = (nx.set k (.slice (some ⟨g3, 0, none⟩) 512 dc3, Go.Proofs.YtmafafingdpopaaGreatDoor.Sep.blk xb.2)).map (·.1) := by rw [List.map_set]
          rw [hmap] at S
          have S := ((S.pull 11).pull 2).held_add
          have S := (((((((((S.pull 10).pull 10).pull 10).pull 10).pull 10).pull 10).pull 10).pull 10).pull 10)
          have HS := Aside0.mk S
          clear S hmap
          go_wp2_with fail
          have hgm : (g2, Go.Proofs.YtmafafingdpopaaGreatDoor.Sep.blk xb.2) ∈ ps2 := HW.out.ins (bk, (g2, Go.Proofs.YtmafafingdpopaaGreatDoor.Sep.blk xb.2)) (by rw [HT2.out]; exact SM.look_mem (by rw [SM.look_ins, if_pos rfl]))
          have F2 := (HF.out.1.more HW.out.sub (fun x hx => List.mem_cons_of_mem (.slice (some ⟨g3, 0, none⟩) 512 dc3, Go.Proofs.YtmafafingdpopaaGreatDoor.Sep.blk xb.2) hx)).put HH.out.nodup HKQ.out HBO.out (blk_len xb.2) (byte_blk HOK.out.1) hgm (List.mem_cons_self) (sn' := sn ++ [(k : Int)]) (by rw [if_neg HM.out]) (.inr h24)
          rw [← HT2.out] at F2
          exact ⟨⟨j + 1, t2, us2, os2, ps2, _, _, sn ++ [(k : Int)], g1, by omega, by go_num, by omega, ⟨F2, fun x hx => HW.out.sub x (HF.out.2.1 x hx), fun x hx => List.mem_cons_of_mem _ (HF.out.2.2 x hx)⟩, HS.out⟩, by simp [intOf]; omega⟩
        · have hlt : (sn.length : Int) ≥ 24 := by omega
          have hwi := HW.out.is
          rw [if_neg (fun q => by rcases q with q | q; exact hm ((HF.out.1.seen k bk HKQ.out).2 q); rw [HF.out.1.len] at q; exact h24 q)] at hwi
          obtain ⟨hcd, ht2⟩ := hwi
          subst hcd
          have HT2 := Aside0.mk ht2
          clear hkn hm ht2
          go_wp2_with (first | (go_at_call 20; refine (num_any _ _).mono ?_; rintro _ _ ⟨rfl, rfl⟩))
          have F2 := HF.out.1.more HW.out.sub (fun x hx => hx)
          rw [← HT2.out] at F2
          exact ⟨⟨j + 1, t2, us2, os2, ps2, hs', nx, sn, g1, by omega, by go_num, by omega, ⟨F2, fun x hx => HW.out.sub x (HF.out.2.1 x hx), HF.out.2.2⟩, S⟩, by simp [intOf]; omega⟩
    · have hcn : ¬ ((j : Int) < (l.length : Int) ∧ (j : Int) < 60) := by omega
      have HS := Aside0.mk ((((S.pull 6).drop.pull 6).drop.pull 9).drop)
      clear S
      by_cases g1 : j < l.length
      · have d1 : decide ((j : Int) < (l.length : Int)) = true := decide_eq_true (by omega)
        have d2 : decide ((j : Int) < 60) = false := decide_eq_false (by omega)
        go_wp2_with fail
        go_ret2
        exact ⟨t, ps', hs', nx, _, cn, sn, rfl, HF.out.1, HF.out.2.1, HF.out.2.2, HS.out⟩
      · have d1 : decide ((j : Int) < (l.length : Int)) = false := decide_eq_false (by omega)
        go_wp2_with fail
        go_ret2
        exact ⟨t, ps', hs', nx, _, cn, sn, rfl, HF.out.1, HF.out.2.1, HF.out.2.2, HS.out⟩
end
end Go.Proofs.YtmafafingdpopaaGreatDoor.Sep
/- fall: the crash. -/
namespace Go.Proofs.YtmafafingdpopaaGreatDoor.Sep
open Go.Proofs Go.RowKit Go.ChangeMaps Go.Proofs.YtmafafingdpopaaGreatDoorW.PrintWords Go.Proofs.YtmafafingdpopaaGreatDoorW.PrintLast Go.Proofs.YtmafafingdpopaaGreatDoorW.PrintMore Go.Proofs.YtmafafingdpopaaGreatDoor.Dev Go.Proofs.YtmafafingdpopaaGreatDoor.Errs Go.Proofs.YtmafafingdpopaaGreatDoor.Jr Go.Proofs.YtmafafingdpopaaGreatDoor.Help Go.Proofs.YtmafafingdpopaaGreatDoor.IMap
set_option linter.unusedVariables false
set_option linter.unusedSimpArgs false
/-- A list of what survives: it can be read, and a crash can be told of it. -/
structure KeepIn (w0 : World) (R : List Asn) (Ak : Option Addr) (ks : List Bool) : Prop where
  reads : ∀ (w' : World) (L : List Asn), Sep w0 w' (L ++ R) → ReadsOf Value.bool false w' Ak ks.length ks
  crash : ∀ (w' : World) (d : Nat) (s : DS) (L : List Asn) (ck : Nat), Sep w0 w' (DevA d s :: (L ++ R)) → Calls Tryz.prog 43 #[.pointer (some ⟨d, 0, none⟩), .slice Ak ks.length ck] w' fun e w'' => e = .returned (.tuple #[]) ∧ Sep w0 w'' (DevA d (s.crash ks) :: (L ++ R))
section
variable {w0 w w' : World} {R : List Asn} {G : Geo} {T : Tn} {A Ak : Option Addr} {c ck : Nat} {ks : List Bool} {d : Nat} {s : DS} {nx : List VB} {a : Addr} {cn : Nat}
theorem KeepIn.old (h : Kd.C Kd.bool w0 Ak ks.length ks) : KeepIn w0 R Ak ks :=
  ⟨fun w' L S => (bools_in h S.bel).1, fun w' d s L ck S => crash_old S Ak ck ks (bools_in h S.bel).1 (bools_in h S.bel).2⟩
theorem KeepIn.cons (h : KeepIn w0 R Ak ks) (X : Asn) : KeepIn w0 (X :: R) Ak ks :=
  ⟨fun w' L S => h.reads w' (L ++ [X]) (by rw [List.append_assoc]; exact S), fun w' d s L ck S => by
    have h1 := h.crash w' d s (L ++ [X]) ck (by rw [List.append_assoc]; exact S)
    rw [List.append_assoc] at h1
    exact h1⟩
theorem keep_nil : KeepIn w0 R none [] :=
  ⟨fun w' L S => ⟨rfl, by decide, fun h => absurd h (by decide)⟩, fun w' d s L ck S => crash_old S none ck [] ⟨rfl, by decide, fun h => absurd h (by decide)⟩ (fun a e => by cases e)⟩
theorem own_mid {X : Asn} {L : List Asn} (S : Sep w0 w (L ++ X :: R)) : Sep w0 w (X :: (L ++ R)) := S.perm List.perm_middle
theorem own_bools {b e n : Nat} (h : w.ownsRow b e 1 (.slice A n c) n (ks.map Value.bool)) : ReadsOf Value.bool false w A n ks := by
  have hl : ks.length = n := by
    have := h.1
    simpa using this
  refine ⟨hl, ?_, fun hn => ?_⟩
  · rcases h.2 with ⟨h1, h2⟩ | ⟨g, cap, cur, e1, _, _, _, h5, h6, _⟩
    · omega
    · have hcap := own_cap h
      cases e1
      simp only [maxLen] at *
      omega
  · obtain ⟨g, cap, e1, _, _⟩ := h.form hn
    cases e1
    refine ⟨_, rfl, fun j hj => ?_⟩
    exact h.cells (g := g) rfl _ _ (by rw [List.getElem?_map, List.getElem?_eq_getElem (by omega), List.getD_eq_getElem?_getD, List.getElem?_eq_getElem (by omega)]; rfl)
/-- A list of bools of the caller's own. -/
theorem KeepIn.own {g : Nat} : KeepIn w0 (Own 4 1 (.slice (some ⟨g, 0, none⟩) ks.length c) ks.length (ks.map Value.bool) :: R) (some ⟨g, 0, none⟩) ks :=
  ⟨fun w' L S => own_bools (own_mid S).row, fun w' d s L ck S => by
    have S1 : Sep w0 w' (DevA d s :: Own 4 1 (.slice (some ⟨g, 0, none⟩) ks.length c) ks.length (ks.map Value.bool) :: (L ++ R)) := S.perm (List.Perm.cons _ List.perm_middle)
    refine (crash_part S1 (some ⟨g, 0, none⟩) ck ks (fun F hF => ⟨own_bools hF.1, fun a e hn => ?_⟩)).mono fun e w'' ⟨h1, h2⟩ => ⟨h1, h2.perm (List.Perm.cons _ List.perm_middle.symm)⟩
    cases e
    exact hF.2.1 g rfl⟩
set_option maxRecDepth 100000 in
set_option maxHeartbeats 8000000 in
theorem fall_nil (S : Sep w0 w (TownA T :: DevA T.d s :: R)) (K : KeepIn w0 R Ak ks) (hp : s.pend.length ≤ 80000) (arm : Int) :
    Calls Tryz.prog 72 #[.pointer (some ⟨T.tp, 0, none⟩), .agg #[.int .i64 arm, .slice Ak ks.length ck], .slice none 0 0] w fun e w' => e = .returned (.bool true) ∧ Sep w0 w' (TownA T :: DevA T.d (s.crash ks) :: R) := by
  have S1 := S.alloc #[.int .i64 arm, .slice Ak ks.length ck] 60
  obtain ⟨bx, hbx⟩ : ∃ bx, bx = w.heap.size := ⟨_, rfl⟩
  obtain ⟨W1, hW1⟩ : ∃ W1, W1 = w.alloc (.cells #[.int .i64 arm, .slice Ak ks.length ck] 60) := ⟨_, rfl⟩
  rw [← hbx, ← hW1] at S1
  have HK := Aside0.mk K
  have c0 := S1.swap.town.cell 0 (v := .pointer (some ⟨T.d, 0, none⟩)) rfl
  have hpe := pending_s (S1.pull 2) (by omega)
  have hq := fun w => run_neq_slice_nil_any (P := Tryz.prog) w 33 39 none 0 0 0 0 Tryz.underlying33
  clear S K
  go_enter Tryz.func72, Tryz.ntmps72
  go_upto_region 1 with fail
  rw [← hbx, ← hW1]
  clear hbx hW1 S1
  go_wp2_with fail
  refine hpe.mono ?_
  clear hpe c0
  rintro _ w2 ⟨Ap, cp, qs, rfl, S⟩
  have S := S.drop
  have c0 := (S.pull 2).town.cell 0 (v := .pointer (some ⟨T.d, 0, none⟩)) rfl
  have b1 := (S.pull 1).cell 1 (v := .slice Ak ks.length ck) rfl
  have hcr := fun W (S : Sep w0 W (DevA T.d s :: Blk bx #[.int .i64 arm, .slice Ak ks.length ck] 60 :: TownA T :: R)) => HK.out.crash W T.d s [Blk bx #[.int .i64 arm, .slice Ak ks.length ck] 60, TownA T] ck S
  go_wp2_with fail
  go_region_held (fun W => W.cell? ⟨T.tp, 0, none⟩ = some (.pointer (some ⟨T.d, 0, none⟩)) ∧ W.cell? ⟨bx, 1, none⟩ = some (.slice Ak ks.length ck)) (refine ⟨?_, ?_⟩ <;> (repeat (first | (with_reducible assumption) | (with_reducible refine kd ?_))))
    (first
      | (go_at_call 43; refine (hcr _ S.drew).mono ?_; rintro _ w3 ⟨rfl, S3⟩; have y0 := (S3.pull 2).town.cell 0 (v := .pointer (some ⟨T.d, 0, none⟩)) rfl; have y1 := (S3.pull 1).cell 1 (v := .slice Ak ks.length ck) rfl))
  clear S hcr c0 b1 y1
  have hpw := power_s S3
  clear y0
  go_wp2_with fail
  refine hpw.mono ?_
  clear hpw S3
  rintro _ w4 ⟨rfl, S4⟩
  have HS := Aside0.mk (((S4.pull 1).drop).pull 1)
  clear S4
  go_wp2_with fail
  go_ret
  exact ⟨rfl, HS.out⟩
set_option maxRecDepth 100000 in
set_option maxHeartbeats 8000000 in
theorem fall_next (S : Sep w0 w (TownA T :: DevA T.d s :: Own 39 1 (.slice (some a) T.outs.length cn) T.outs.length (nx.map (·.1)) :: R)) (K : KeepIn w0 R Ak ks) (hp : s.pend.length ≤ 80000) (arm : Int) (hnl : nx.length = T.outs.length) (hG : G.Ok) (hst : T.start = G.start) (hsz : T.size = G.size) :
    Calls Tryz.prog 72 #[.pointer (some ⟨T.tp, 0, none⟩), .agg #[.int .i64 arm, .slice Ak ks.length ck], .slice (some a) T.outs.length cn] w fun e w' => e = .returned (.bool true) ∧ Sep w0 w' (TownA (if Jr.survives G s.pend ks = true then { T with vw := .slice (some a) T.outs.length cn, ws := nx } else T) :: DevA T.d (s.crash ks) :: R) := by
  obtain ⟨sv, hsvv⟩ : ∃ sv, sv = Jr.survives G s.pend ks := ⟨_, rfl⟩
  rw [← hsvv]
  have HSV := Aside0.mk hsvv
  obtain ⟨T', hT'⟩ : ∃ T', T' = (if sv = true then { T with vw := .slice (some a) T.outs.length cn, ws := nx } else T : Tn) := ⟨_, rfl⟩
  have HT := Aside0.mk hT'
  rw [← hT']
  clear hT' hsvv
  have S1 := S.alloc #[.int .i64 arm, .slice Ak ks.length ck] 60
  obtain ⟨bx, hbx⟩ : ∃ bx, bx = w.heap.size := ⟨_, rfl⟩
  obtain ⟨W1, hW1⟩ : ∃ W1, W1 = w.alloc (.cells #[.int .i64 arm, .slice Ak ks.length ck] 60) := ⟨_, rfl⟩
  rw [← hbx, ← hW1] at S1
  have HK := Aside0.mk K
  have hpk := (S.pull 1).ok.pend
  have HPK := Aside0.mk hpk
  have hg : (0 ≤ T.start ∧ T.start ≤ 100000) ∧ 0 ≤ T.size ∧ T.size ≤ 100000 := by
    have h1 := hG.start0
    have h2 := hG.size0
    have h3 := hG.fit
    have h4 := hG.n1
    omega
  have HGS := Aside0.mk (And.intro hst (And.intro hsz hg))
  have c0 := S1.swap.town.cell 0 (v := .pointer (some ⟨T.d, 0, none⟩)) rfl
  have hpe := pending_s (S1.pull 2) (by omega)
  have hq := fun w => run_neq_slice_nil_any (P := Tryz.prog) w 33 39 (some a) T.outs.length cn 0 0 Tryz.underlying33
  have hq0 : (!(some a).isNone) = true := rfl
  rw [hq0] at hq
  clear S K hpk hG hst hsz hg hq0
  go_enter Tryz.func72, Tryz.ntmps72
  go_upto_region 1 with fail
  rw [← hbx, ← hW1]
  clear hbx hW1 S1
  go_wp2_with fail
  refine hpe.mono ?_
  clear hpe c0
  rintro _ w2 ⟨Ap, cp, qs, rfl, S⟩
  have SV := S.pull 3
  have b1 := (S.pull 2).cell 1 (v := .slice Ak ks.length ck) rfl
  have hsv := survives_s (ck := ck) SV (fun w' hb => HK.out.reads w' [TownA T, PendA (.slice Ap s.pend.length cp) s.pend qs, DevA T.d s, Blk bx #[.int .i64 arm, .slice Ak ks.length ck] 60, Own 39 1 (.slice (some a) T.outs.length cn) T.outs.length (nx.map fun x : VB => x.1)] (SV.calm hb)) (fun x hx => (HPK.out x hx).2.2) HGS.out.1 HGS.out.2.1 HGS.out.2.2.1 HGS.out.2.2.2 (by omega)
  rw [← HSV.out] at hsv
  have S := S.drop
  clear SV HPK HGS HSV
  go_wp2_with fail
  refine hsv.mono ?_
  clear hsv
  rintro _ w3 ⟨rfl, hB⟩
  have S := S.calm hB
  have b1 : w3.cell? ⟨bx, 1, none⟩ = some (.slice Ak ks.length ck) := (S.pull 1).cell 1 (v := .slice Ak ks.length ck) rfl
  clear hB
  have hd' : T'.d = T.d := by rw [HT.out]; split <;> rfl
  have htp' : T'.tp = T.tp := by rw [HT.out]; split <;> rfl
  go_upto_if 21 with fail
  go_cut [] (fun wx => Sep w0 wx (TownA T' :: DevA T.d s :: Blk bx #[.int .i64 arm, .slice Ak ks.length ck] 60 :: R))
  case first =>
    cases sv
    · have hT2 := HT.out
      rw [if_neg (by decide)] at hT2
      subst hT2
      have HS := Aside0.mk ((S.pull 3).drop.pull 2)
      clear S
      go_wp2_with fail
      go_meet
      case rel => exact HS.out
    · have hT2 := HT.out
      rw [if_pos rfl] at hT2
      have S2 := (S.pull 2).town
      have c4 := S2.cell 4 (v := T.vw) rfl
      have f4 := S2.free 4
      have S3 := S2.set 4 (.slice (some a) T.outs.length cn)
      have S4 : Sep w0 (w3.setCell ⟨T.tp, 4, none⟩ (.slice (some a) T.outs.length cn)) (Blk T.tp #[.pointer (some ⟨T.d, 0, none⟩), .int .i64 T.start, .int .i64 T.size, T.vo, .slice (some a) T.outs.length cn] 47 :: Own 3 1 T.vo T.outs.length (nums .i64 T.outs) :: Own 39 1 (.slice (some a) T.outs.length cn) T.outs.length (nx.map (·.1)) :: DevA T.d s :: Blk bx #[.int .i64 arm, .slice Ak ks.length ck] 60 :: R) := ((((S3.pull 2).drop).pull 4).pull 2).pull 2
      have S5 : Sep w0 (w3.setCell ⟨T.tp, 4, none⟩ (.slice (some a) T.outs.length cn)) (TownA T' :: DevA T.d s :: Blk bx #[.int .i64 arm, .slice Ak ks.length ck] 60 :: R) := by
        rw [hT2]
        have S6 := ((own_len (S4.pull 2) hnl.symm).pull 2).pull 2
        exact Sep.townA { T with vw := .slice (some a) T.outs.length cn, ws := nx } S6
      have HS := Aside0.mk S5
      clear S S2 S3 S4 S5 hT2 HT
      go_wp2_with fail
      go_meet
      case rel => exact HS.out
  case rest =>
  have S := hcut
  clear hcut HT
  have c0 := S.town.cell 0 (v := .pointer (some ⟨T'.d, 0, none⟩)) rfl
  rw [htp', hd'] at c0
  have b1 := (S.pull 2).cell 1 (v := .slice Ak ks.length ck) rfl
  have hcr := fun W (S : Sep w0 W (DevA T.d s :: Blk bx #[.int .i64 arm, .slice Ak ks.length ck] 60 :: TownA T' :: R)) => HK.out.crash W T.d s [Blk bx #[.int .i64 arm, .slice Ak ks.length ck] 60, TownA T'] ck S
  have SD := (S.pull 1).pull 2
  have SD := SD.pull 1
  clear S
  go_wp2_with fail
  go_region_held (fun W => W.cell? ⟨T.tp, 0, none⟩ = some (.pointer (some ⟨T.d, 0, none⟩)) ∧ W.cell? ⟨bx, 1, none⟩ = some (.slice Ak ks.length ck)) (refine ⟨?_, ?_⟩ <;> (repeat (first | (with_reducible assumption) | (with_reducible refine kd ?_))))
    (first
      | (go_at_call 43; refine (hcr _ SD.drew).mono ?_; rintro _ w5 ⟨rfl, S3⟩; have y0 := (S3.pull 2).town.cell 0 (v := .pointer (some ⟨T'.d, 0, none⟩)) rfl; rw [htp', hd'] at y0; have y1 := (S3.pull 1).cell 1 (v := .slice Ak ks.length ck) rfl))
  clear SD hcr c0 b1 y1
  have hpw := power_s S3
  go_wp2_with fail
  refine hpw.mono ?_
  clear hpw S3
  rintro _ w6 ⟨rfl, S4⟩
  have HS := Aside0.mk (((S4.pull 1).drop).pull 1)
  clear S4 y0
  go_wp2_with fail
  go_ret
  exact ⟨rfl, HS.out⟩
end
end Go.Proofs.YtmafafingdpopaaGreatDoor.Sep
/- Commit of whatever a transaction has; what pends then. -/
namespace Go.Proofs.YtmafafingdpopaaGreatDoor.Sep
open Go.Proofs Go.RowKit Go.ChangeMaps Go.Proofs.YtmafafingdpopaaGreatDoorW.PrintWords Go.Proofs.YtmafafingdpopaaGreatDoorW.PrintLast Go.Proofs.YtmafafingdpopaaGreatDoorW.PrintMore Go.Proofs.YtmafafingdpopaaGreatDoor.Dev Go.Proofs.YtmafafingdpopaaGreatDoor.Errs Go.Proofs.YtmafafingdpopaaGreatDoor.Jr Go.Proofs.YtmafafingdpopaaGreatDoor.Help Go.Proofs.YtmafafingdpopaaGreatDoor.IMap
set_option linter.unusedVariables false
set_option linter.unusedSimpArgs false
section
variable {w0 w w' : World} {R : List Asn} {q p d : Nat} {ps : List (Nat × List Int)} {v : JV} {s : DS} {G : Geo} {W : Int → List Int} {t : TV} {m : SMb} {J : JS} {also : Bool}
theorem logW_length (G : Geo) (place : Int) : ∀ (l : List (List Int)) (i : Int), (logW G place i l).length = l.length
  | [], _ => rfl
  | x :: r, i => by unfold logW; rw [List.length_cons, List.length_cons, logW_length G place r]
theorem logged_few (G : Geo) (s : DS) (a b : Int) (m : SMb) : (Jr.logged G s a b m).2.pend.length ≤ s.pend.length + m.length + 2 := by
  unfold Jr.logged
  dsimp only
  have h1 := writes_few (logW G b 0 (images a m)) s
  have h0 : (images a m).length = m.length + 1 := by simp [images]
  rw [logW_length, h0] at h1
  have h2 := flush_few (Jr.writes s (logW G b 0 (images a m))).2
  have h3 := write_few (Jr.writes s (logW G b 0 (images a m))).2.flush.2 (G.at_ (b + ((m.length : Int) + 1))) (commitB a)
  have h4 := flush_few ((Jr.writes s (logW G b 0 (images a m))).2.flush.2.write (G.at_ (b + ((m.length : Int) + 1))) (commitB a)).2
  repeat' split
  all_goals omega
theorem loggedE_few (v : JV) (s : DS) (m : SMb) : (loggedE v s m).2.pend.length ≤ s.pend.length + v.M.length + m.length + 10 := by
  have hdl : (dat v.M).length = v.M.length := SM.len_on _ _
  have h1 : (Jr.room (v.geo s) s (jsOf v) m).2.1.pend.length ≤ s.pend.length + v.M.length + 2 := by
    unfold Jr.room
    split
    · have h := cp_few (v.geo s) s (jsOf v) false
      have h2 : (jsOf v).away.length = v.M.length := hdl
      omega
    · show s.pend.length ≤ _
      omega
  have h2 := logged_few (v.geo s) (Jr.room (v.geo s) s (jsOf v) m).2.1 v.seq v.place m
  unfold loggedE
  split
  · omega
  · show (Jr.room (v.geo s) s (jsOf v) m).2.1.pend.length ≤ _
    omega
/-- What a commit leaves. -/
def ComP (w0 : World) (R : List Asn) (q p d : Nat) (t : TV) (G : Geo) (ps : List (Nat × List Int)) (bm : Nat) (W Wn : Int → List Int) (e : Ending) (w' : World) : Prop :=
  ∃ (cd : Int) (v' : JV) (s' : DS), e = .returned (.int .i64 cd) ∧ Sep w0 w' (TBlk q p t :: MapA t.bw (vals t.M) :: JBlk p d v' :: MapA bm (vals v'.M) :: PoolA ps :: DevA d s' :: R) ∧ s'.n = (G.n).toNat ∧
    ((cd = 0 ∧ LiveV G s' v' ps Wn ∧ v'.tx = none ∧ v'.bm = bm) ∨ (cd = 3 ∧ Doubt G s' W Wn ∧ s'.pend.length ≤ 80000))
theorem wantN (t : TV) (W : Int → List Int) : ∃ Wn, Wn = (if t.M = [] then W else laid W (dat t.M)) := ⟨_, rfl⟩
theorem tcommit_s (hr : Rt w0) (L : LiveV G s v ps W) (S : Sep w0 w (TBlk q p t :: MapA t.bw (vals t.M) :: JBlk p d { v with tx := some q } :: MapA v.bm (vals v.M) :: PoolA ps :: DevA d s :: R)) (hIt : Ins t.M ps) (X : TxOk G t.M) (hseq : (W (-1)).length ≤ 1000000) :
    Calls Tryz.prog 24 #[.pointer (some ⟨q, 0, none⟩)] w (ComP w0 R q p d t G ps v.bm W (if t.M = [] then W else laid W (dat t.M))) := by
  have hg : ({ v with tx := some q } : JV).geo s = G := L.geo
  have hok : (({ v with tx := some q } : JV).geo s).Ok := by rw [hg]; exact L.live.fits.geo
  have hsq := L.seq
  have hn : s.n = (G.n).toNat := by have := L.live.fits.n; omega
  by_cases hM : t.M = []
  · rw [if_pos hM]
    refine (commit_none (v := { v with tx := some q }) S hM ⟨open_live L q, L.off⟩).mono ?_
    rintro e w' ⟨rfl, S1⟩
    exact ⟨0, { v with tx := none }, s, rfl, S1, hn, .inl ⟨rfl, ⟨L.live, L.geo, L.ended, L.ins⟩, rfl, rfl⟩⟩
  · rw [if_neg hM]
    have hgd := X.good hM
    have hl1 : 1 ≤ t.M.length := by
      cases h : t.M with
      | nil => exact absurd h hM
      | cons a r => exact Nat.succ_le_succ (Nat.zero_le _)
    have hfr := L.free
    have hpd := L.pend
    have hfw := L.few
    refine (commit_s (v := { v with tx := some q }) hr S L.ins hIt hok (by omega) (show v.M.length ≤ 100000 by omega) L.keys hl1 X.few (fun x hx => ?_) L.place ⟨open_live L q, L.off⟩ (show 0 ≤ v.seq ∧ v.seq ≤ 4000000000000 by omega) (show -100000 ≤ v.free ∧ v.free ≤ 100000 by omega)).mono ?_
    · have h1 := X.ok x hx
      have h2 := out_in L.live.fits.geo h1.1
      have h3 := L.live.fits.geo.n1
      exact ⟨h2.1, by omega, h1.2.2⟩
    · rintro e w' ⟨rfl, S1⟩
      have S2 : Sep w0 w' (TBlk q p t :: MapA t.bw (vals t.M) :: JBlk p d (commitV v s t.M) :: MapA v.bm (vals (commitV v s t.M).M) :: PoolA ps :: DevA d (loggedE v s (dat t.M)).2 :: R) := S1
      have hc := L.commit hIt hgd (by omega)
      have hfw2 := loggedE_few v s (dat t.M)
      have hdl : (dat t.M).length = t.M.length := SM.len_on _ _
      have hx := X.few
      rcases hc with ⟨h1, h2, h3, h4⟩ | ⟨h1, h2⟩
      · exact ⟨_, _, _, rfl, S2, by have := h2.live.fits.n; omega, .inl ⟨h1, h2, h3, h4⟩⟩
      · have hpe := L.live.pend
        exact ⟨_, _, _, rfl, S2, by have := h2.fits.n; omega, .inr ⟨h1, h2, by rw [hpe] at hfw2; simp only [List.length_nil] at hfw2; omega⟩⟩
end
end Go.Proofs.YtmafafingdpopaaGreatDoor.Sep
/- The town's journal opened, as it lies. -/
namespace Go.Proofs.YtmafafingdpopaaGreatDoor.Sep
open Go.Proofs Go.RowKit Go.ChangeMaps Go.Proofs.YtmafafingdpopaaGreatDoorW.PrintWords Go.Proofs.YtmafafingdpopaaGreatDoorW.PrintLast Go.Proofs.YtmafafingdpopaaGreatDoorW.PrintMore Go.Proofs.YtmafafingdpopaaGreatDoor.Dev Go.Proofs.YtmafafingdpopaaGreatDoor.Errs Go.Proofs.YtmafafingdpopaaGreatDoor.Jr Go.Proofs.YtmafafingdpopaaGreatDoor.Help Go.Proofs.YtmafafingdpopaaGreatDoor.IMap
set_option linter.unusedVariables false
set_option linter.unusedSimpArgs false
section
variable {w0 w w' : World} {R : List Asn} {p d : Nat} {ps : List (Nat × List Int)} {v : JV} {s : DS} {sa : Addr} {G : Geo} {T : Tn} {W : Int → List Int} {hs : List VB}
theorem geo_is (hf : Fits G s) (H : Holds G T W) : (⟨(s.n : Int), T.start, T.size⟩ : Geo) = G := by
  have h1 := hf.n
  have h2 := H.start
  have h3 := H.size
  obtain ⟨a, b, c⟩ := G
  simp only at h1 h2 h3
  rw [h1, h2, h3]
/-- A journal that was opened. -/
def OpenedP (w0 : World) (R : List Asn) (d : Nat) (G : Geo) (W : Int → List Int) (s1 : DS) (e : Ending) (w' : World) : Prop :=
  ∃ (taken : Int) (p : Nat) (v : JV) (ps : List (Nat × List Int)), e = .returned (.tuple #[.pointer (some ⟨p, 0, none⟩), .int .i64 taken, .int .i64 0]) ∧ LiveV G s1 v ps W ∧ v.tx = none ∧ Sep w0 w' (JBlk p d v :: MapA v.bm (vals v.M) :: PoolA ps :: DevA d s1 :: R)
theorem opened {r : Int × DS × Option (JS × Int)} {e : Ending} {start size : Int} (hst : start = G.start) (hsz : size = G.size) (h : OpenP w0 R d start size r e w') {J : JS} {n : Int} (h2 : r.2.2 = some (J, n)) (hl : Live G r.2.1 J W) :
    OpenedP w0 R d G W r.2.1 e w' := by
  rcases h with ⟨J', taken, p, v, ps, h1, rfl, h3, h4, h5, h6, h7, h8, S⟩ | ⟨h1, _, _⟩
  · rw [h2] at h1
    cases h1
    refine ⟨n, p, v, ps, rfl, ⟨by rw [h5]; exact hl, ?_, h7, h8⟩, h6, S⟩
    have hn := hl.fits.n
    show (⟨(r.2.1.n : Int), v.start, v.size⟩ : Geo) = G
    rw [← hn, h3, h4, hst, hsz]
  · rw [h2] at h1
    cases h1
/-- Open of a device that lies calm. -/
theorem topen_calm (hr : Rt w0) (hsn : Sen sa w0) (S : Sep w0 w (TownA T :: DevA T.d s :: R)) (C : Calm G s W) (H : Holds G T W) :
    Calls Tryz.prog 14 #[.pointer (some ⟨T.tp, 0, none⟩)] w fun e w' => ∃ s1, s1.fuse = 0 ∧ OpenedP w0 (TownA T :: R) T.d G W s1 e w' := by
  have hg := geo_is C.fits H
  have h := topen_s hr hsn S (by rw [hg]; exact C.fits.geo) C.fits.byte (by rw [C.pend]; exact Nat.zero_le _)
  rw [hg] at h
  obtain ⟨h1, ⟨J, n, h2, h3, _, _⟩, h4⟩ := open_calm C
  refine h.mono fun e w' hP => ⟨_, h4, ?_⟩
  exact opened H.start H.size hP h2 h3
/-- Open while a fuse may burn: opened, or the power failed. -/
theorem topen_armed (hr : Rt w0) (hsn : Sen sa w0) (S : Sep w0 w (TownA T :: DevA T.d s :: R)) (hf : Fits G s) (ho : s.off = false) (hp : s.pend = []) (hR : Recs G s W) (H : Holds G T W) :
    Calls Tryz.prog 14 #[.pointer (some ⟨T.tp, 0, none⟩)] w fun e w' => ∃ s1, OpenedP w0 (TownA T :: R) T.d G W s1 e w' ∨ (e = .returned (.tuple #[.pointer none, .int .i64 0, .int .i64 3]) ∧ Fits G s1 ∧ Jr.Safe G s1 W ∧ Sep w0 w' (DevA T.d s1 :: TownA T :: R)) := by
  have hg := geo_is hf H
  have h := topen_s hr hsn S (by rw [hg]; exact hf.geo) hf.byte (by rw [hp]; exact Nat.zero_le _)
  rw [hg] at h
  refine h.mono fun e w' hP => ⟨(Jr.openJ G s).2.1, ?_⟩
  rcases open_armed hf ho hp hR with ⟨h1, J, n, h2, h3⟩ | ⟨h1, h2, h3, h4⟩
  · exact .inl (opened H.start H.size hP h2 h3)
  · right
    rcases hP with ⟨J', taken, p, v, ps, g1, rfl, _⟩ | ⟨g1, rfl, S1⟩
    · rw [h2] at g1
      cases g1
    · rw [h1]
      exact ⟨rfl, h3, h4, S1⟩
/-- Rows of puts. -/
structure TxsIn (w0 : World) (A : Option Addr) (ls : List (List Pt)) : Prop where
  at_ : Kd.C kPs w0 A ls.length ls
  ok : ∀ l ∈ ls, ∀ x ∈ l, Byte x.2 ∧ x.2.length ≤ 140737488351232 ∧ -9223372036854775808 ≤ x.1 ∧ x.1 < 9223372036854775808
theorem TxsIn.get {A : Option Addr} {ls : List (List Pt)} (h : TxsIn w0 A ls) (i : Nat) (hi : i < ls.length) : ∃ ad B c, A = some ad ∧ PutsIn w0 B ls[i] ∧ ∀ W : World, Below w0.heap.size w0 W → W.cell? (ad.add i) = some (.slice B ls[i].length c) := by
  obtain ⟨ad, B, c, e, hl, hK, hW⟩ := sl_in h.at_ i hi
  exact ⟨ad, B, c, e, ⟨hK, h.ok _ (List.getElem_mem hi)⟩, hW⟩
/-- Rows of puts, wherever they lie. -/
structure TxsR (w0 : World) (R : List Asn) (A : Option Addr) (ls : List (List Pt)) : Prop where
  get : ∀ (i : Nat) (hi : i < ls.length), ∃ ad B c, A = some ad ∧ PutsIn w0 B ls[i] ∧ ∀ (W : World) (L : List Asn), Sep w0 W (L ++ R) → W.cell? (ad.add i) = some (.slice B ls[i].length c)
theorem TxsIn.r {A : Option Addr} {ls : List (List Pt)} (h : TxsIn w0 A ls) (R : List Asn) : TxsR w0 R A ls :=
  ⟨fun i hi => by
    obtain ⟨ad, B, c, e, hP, hW⟩ := h.get i hi
    exact ⟨ad, B, c, e, hP, fun W L S => hW W S.bel⟩⟩
theorem TxsR.one {g c : Nat} {B : Option Addr} {l : List Pt} (h : PutsIn w0 B l) : TxsR w0 (Own 22 1 (.slice (some ⟨g, 0, none⟩) 1 1) 1 [.slice B l.length c] :: R) (some ⟨g, 0, none⟩) [l] :=
  ⟨fun i hi => by
    have h0 : i = 0 := by
      have : i < 1 := hi
      omega
    subst h0
    refine ⟨⟨g, 0, none⟩, B, c, rfl, h, fun W L S => ?_⟩
    have h1 := (own_mid S).val 0 (v := .slice B l.length c) rfl
    rw [add_plain]
    exact h1⟩
/-- What a run leaves. -/
def RunP (w0 : World) (R : List Asn) (T : Tn) (G : Geo) (N : Nat) (e : Ending) (w' : World) : Prop :=
  ∃ (T' : Tn) (s' : DS) (W' : Int → List Int) (hs' : List VB), e = .returned (.bool true) ∧ (T'.tp = T.tp ∧ T'.d = T.d) ∧ Calm G s' W' ∧ Holds G T' W' ∧ (∀ x ∈ T'.ws, x ∈ hs') ∧ (W' (-1)).length ≤ N ∧ Sep w0 w' (TownA T' :: DevA T.d s' :: HeldA hs' :: R)
end
end Go.Proofs.YtmafafingdpopaaGreatDoor.Sep
/- run: transactions, the power failing; then the crash. -/
namespace Go.Proofs.YtmafafingdpopaaGreatDoor.Sep
open Go.Proofs Go.RowKit Go.ChangeMaps Go.Proofs.YtmafafingdpopaaGreatDoorW.PrintWords Go.Proofs.YtmafafingdpopaaGreatDoorW.PrintLast Go.Proofs.YtmafafingdpopaaGreatDoorW.PrintMore Go.Proofs.YtmafafingdpopaaGreatDoor.Dev Go.Proofs.YtmafafingdpopaaGreatDoor.Errs Go.Proofs.YtmafafingdpopaaGreatDoor.Jr Go.Proofs.YtmafafingdpopaaGreatDoor.Help Go.Proofs.YtmafafingdpopaaGreatDoor.IMap
set_option linter.unusedVariables false
set_option linter.unusedSimpArgs false
section
variable {w0 w w' : World} {R : List Asn} {p d : Nat} {ps : List (Nat × List Int)} {v : JV} {s : DS} {sa : Addr} {G : Geo} {T : Tn} {W : Int → List Int} {hs : List VB} {At Ak : Option Addr} {ct ck : Nat} {txs : List (List Pt)} {ks : List Bool}
theorem LiveV.arm (L : LiveV G s v ps W) (k : Int) (hk : k < 9223372036854775808) : LiveV G (s.arm k).2 v ps W := by
  refine ⟨Live.arm L.live k hk, ?_, L.ended, L.ins⟩
  have h1 := L.geo
  have h2 : (s.arm k).2.n = s.n := by unfold DS.n; rw [(arm_is (s := s) k).1]
  show (⟨((s.arm k).2.n : Int), v.start, v.size⟩ : Geo) = G
  rw [h2]
  exact h1
/-- Check. -/
theorem tcheck_s (hr : Rt w0) (L : LiveV G s v ps W) (htx : v.tx = none) (S : Sep w0 w (JBlk p d v :: MapA v.bm (vals v.M) :: PoolA ps :: DevA d s :: R)) :
    Calls Tryz.prog 44 #[.pointer (some ⟨p, 0, none⟩)] w fun e w' => ∃ (cd : Int) (v' : JV) (s' : DS), e = .returned (.int .i64 cd) ∧ Sep w0 w' (JBlk p d v' :: MapA v.bm (vals v'.M) :: PoolA ps :: DevA d s' :: R) ∧
      ((cd = 0 ∧ LiveV G s' v' ps W ∧ v'.tx = none ∧ v'.bm = v.bm) ∨ (cd = 3 ∧ Fits G s' ∧ Jr.Safe G s' W ∧ s'.pend.length ≤ 80000)) := by
  have hpd := L.pend
  have hfw := L.few
  refine (check_s hr S L.ins L.ok (by omega) (by omega) L.keys).mono ?_
  rintro e w' ⟨rfl, S1⟩
  have hfp : (checkD v s).pend.length ≤ 80000 := by
    unfold checkD
    rw [if_pos L.alive]
    have h := cp_few (v.geo s) s (jsOf v) false
    have h1 : (jsOf v).away.length = v.M.length := SM.len_on _ _
    have h3 : (dat v.M).length = v.M.length := SM.len_on _ _
    have h2 := L.live.pend
    rw [h2] at h
    simp only [List.length_nil] at h
    show (Jr.checkpoint (v.geo s) s (jsOf v) false).2.1.pend.length ≤ _
    omega
  rcases L.check htx with ⟨h1, h2, h3, h4, _, _⟩ | ⟨h1, h2, h3⟩
  · exact ⟨_, _, _, rfl, S1, .inl ⟨h1, h2, h3, h4⟩⟩
  · exact ⟨_, _, _, rfl, S1, .inr ⟨h1, h2, h3, hfp⟩⟩
theorem wantN_len {t : TV} {W Wn : Int → List Int} (h : Wn = (if t.M = [] then W else laid W (dat t.M))) : (Wn (-1)).length ≤ (W (-1)).length + 1 := by
  rw [h]
  split
  · omega
  · unfold laid
    rw [if_pos rfl, List.length_cons]
    omega
set_option maxRecDepth 100000 in
set_option maxHeartbeats 16000000 in
theorem run_s (hr : Rt w0) (hsn : Sen sa w0) (S : Sep w0 w (TownA T :: DevA T.d s :: HeldA hs :: R)) (C : Calm G s W) (H : Holds G T W) (hh : ∀ x ∈ T.ws, x ∈ hs) (X : TxsR w0 R At txs) (K : KeepIn w0 R Ak ks) (arm : Int) (ha : arm < 9223372036854775808) (hN : (W (-1)).length ≤ 900000) :
    Calls Tryz.prog 29 #[.pointer (some ⟨T.tp, 0, none⟩), .slice At txs.length ct, .agg #[.int .i64 arm, .slice Ak ks.length ck]] w (RunP w0 R T G ((W (-1)).length + 30)) := by
  have S1 := S.alloc #[.int .i64 arm, .slice Ak ks.length ck] 60
  obtain ⟨bx, hbx⟩ : ∃ bx, bx = w.heap.size := ⟨_, rfl⟩
  obtain ⟨W1, hW1⟩ : ∃ W1, W1 = w.alloc (.cells #[.int .i64 arm, .slice Ak ks.length ck] 60) := ⟨_, rfl⟩
  rw [← hbx, ← hW1] at S1
  have hop := topen_calm hr hsn ((S1.pull 2).pull 2) C H
  have HH := Aside0.mk H
  have HI := Aside0.mk hh
  have HX := Aside0.mk X
  have HK := Aside0.mk K
  have HR := Aside0.mk hr
  clear S C H hh X K S1
  go_enter Tryz.func29, Tryz.ntmps29
  go_upto_region 1 with fail
  rw [← hbx, ← hW1]
  clear hbx hW1
  go_wp2_with fail
  refine hop.mono ?_
  clear hop
  rintro e w1 ⟨s1, hf0, taken, p, v, ps, rfl, L, htx, S⟩
  have S : Sep w0 w1 (DevA T.d s1 :: TownA T :: Blk bx #[.int .i64 arm, .slice Ak ks.length ck] 60 :: JBlk p T.d v :: MapA v.bm (vals v.M) :: PoolA ps :: HeldA hs :: R) := ((S.pull 5).pull 5).pull 5
  have c0 := (S.pull 1).town.cell 0 (v := .pointer (some ⟨T.d, 0, none⟩)) rfl
  have b0 := (S.pull 2).cell 0 (v := .int .i64 arm) rfl
  have L := L.arm arm ha
  go_wp2_with fail
  go_region_held (fun W => W.cell? ⟨T.tp, 0, none⟩ = some (.pointer (some ⟨T.d, 0, none⟩)) ∧ W.cell? ⟨bx, 0, none⟩ = some (.int .i64 arm)) (refine ⟨?_, ?_⟩ <;> (repeat (first | (with_reducible assumption) | (with_reducible refine kd ?_))))
    (first
      | (go_at_call 41; refine (arm_s S.drew arm ha).mono ?_; rintro _ w3 ⟨rfl, S3⟩; have y0 := (S3.pull 1).town.cell 0 (v := .pointer (some ⟨T.d, 0, none⟩)) rfl; have y1 := (S3.pull 2).cell 0 (v := .int .i64 arm) rfl))
  clear c0 b0 y0 y1 S
  have S := ((((((S3.pull 5).pull 5).pull 5).pull 6).pull 4).pull 5)
  obtain ⟨s2, hs2⟩ : ∃ s2, s2 = (s1.arm arm).2 := ⟨_, rfl⟩
  rw [← hs2] at L S
  clear hs2 S3 hf0
  have HL := Aside0.mk L
  clear L
  go_wp2_with fail
  go_loopw [10] (fun iv wr => ∃ (j : Nat) (T' : Tn) (s' : DS) (v' : JV) (ps' : List (Nat × List Int)) (hs' : List VB) (W' : Int → List Int), j ≤ txs.length ∧ j ≤ 30 ∧ iv = .int .i64 (j : Int) ∧ T'.tp = T.tp ∧ T'.d = T.d ∧ v'.tx = none ∧ Aside0 (LiveV G s' v' ps' W' ∧ Holds G T' W' ∧ (∀ x ∈ T'.ws, x ∈ hs') ∧ (W' (-1)).length ≤ (W (-1)).length + j) ∧
    Sep w0 wr (TownA T' :: DevA T.d s' :: HeldA hs' :: JBlk p T.d v' :: MapA v'.bm (vals v'.M) :: PoolA ps' :: Blk bx #[.int .i64 arm, .slice Ak ks.length ck] 60 :: R)) (fun i _ => (30 - intOf i).toNat)
  case atStart => exact ⟨0, T, s2, v, ps, hs, W, Nat.zero_le _, Nat.zero_le _, rfl, rfl, rfl, htx, ⟨HL.out, HH.out, HI.out, by omega⟩, S⟩
  case round =>
    clear S HL HH HI htx
    obtain ⟨j, T', s', v', ps', hs', W', hj, hj30, rfl, htp, hd, htx, HF, S⟩ := hrel
    have c0 := S.town.cell 0 (v := .pointer (some ⟨T'.d, 0, none⟩)) rfl
    rw [htp, hd] at c0
    have b0 := (S.pull 6).cell 0 (v := .int .i64 arm) rfl
    have b1 := (S.pull 6).cell 1 (v := .slice Ak ks.length ck) rfl
    by_cases hlt : j < txs.length ∧ j < 30
    · obtain ⟨g1, g2⟩ := hlt
      have d1 : decide ((j : Int) < (txs.length : Int)) = true := decide_eq_true (by omega)
      have d2 : decide ((j : Int) < 30) = true := decide_eq_true (by omega)
      have g1' : (j : Int) < (txs.length : Int) := by omega
      obtain ⟨ad, B, cB, rfl, hPT, hX⟩ := HX.out.get j g1
      have HPT := Aside0.mk hPT
      have hbeg := begin_yes ((S.pull 1).pull 3) HF.out.1.alive htx
      clear hPT c0 b0 b1 S
      go_wp2_with fail
      refine hbeg.mono ?_
      clear hbeg
      rintro _ w4 ⟨q, b, rfl, S⟩
      have S := (((((S.pull 7).pull 7).pull 4).pull 4).pull 4)
      have x0 := hX _ [TBlk q p ⟨b, [], .slice none 0 0, .slice none 0 0, 0⟩, MapA b [], JBlk p T.d { v' with tx := some q }, MapA v'.bm (vals v'.M), PoolA ps', DevA T.d s', TownA T', HeldA hs', Blk bx #[.int .i64 arm, .slice Ak ks.length ck] 60] S
      have hfl := fill_s (T := T') (c := cB) S HF.out.1 HF.out.2.1 HF.out.2.2.1 HPT.out
      rw [htp] at hfl
      clear S HPT
      go_wp2_with fail
      refine hfl.mono ?_
      clear hfl x0 hX
      rintro e w5 ⟨t', ps2, hs2, nx, a, cn, sn, rfl, F, hsp, hsh, S⟩
      have hWl := HF.out.2.2.2
      obtain ⟨Wn, hWn⟩ := wantN t' W'
      have hwn := wantN_len hWn
      have hco := tcommit_s HR.out (HF.out.1.sub hsp) S F.ins F.tx (by omega)
      rw [← hWn] at hco
      have hHn := F.holds HF.out.2.1 (.slice (some a) T'.outs.length cn)
      rw [← hWn] at hHn
      have HHN := Aside0.mk hHn
      have HFF := Aside0.mk F
      clear S F hWn hHn hsp hsh
      go_wp2_with fail
      refine hco.mono ?_
      clear hco
      rintro e w6 ⟨cd, v2, s3, rfl, S, hn3, hcs⟩
      rcases hcs with ⟨rfl, L2, htx2, hbm⟩ | ⟨rfl, hDb, hpe⟩
      · have S := ((((S.drop.drop.pull 5).pull 4).pull 6).pull 6)
        have S1 := S.town
        have c4 := S1.cell 4 (v := T'.vw) rfl
        have f4 := S1.free 4
        rw [htp] at c4 f4
        have S2 := S1.set 4 (.slice (some a) T'.outs.length cn)
        have S3 := (S2.pull 2).drop
        have S4 : Sep w0 (w6.setCell ⟨T.tp, 4, none⟩ (.slice (some a) T'.outs.length cn)) (TownA { T' with vw := .slice (some a) T'.outs.length cn, ws := nx } :: DevA T.d s3 :: HeldA hs2 :: JBlk p T.d v2 :: MapA v2.bm (vals v2.M) :: PoolA ps2 :: Blk bx #[.int .i64 arm, .slice Ak ks.length ck] 60 :: R) := by
          rw [hbm, ← htp]
          have S6 := ((own_len (S3.pull 2) HFF.out.nlen.symm).pull 2).pull 2
          exact Sep.townA { T' with vw := .slice (some a) T'.outs.length cn, ws := nx } S6
        obtain ⟨T2, hT2⟩ : ∃ T2, T2 = ({ T' with vw := .slice (some a) T'.outs.length cn, ws := nx } : Tn) := ⟨_, rfl⟩
        have hH2 := HHN.out
        have hin2 : ∀ x ∈ ({ T' with vw := .slice (some a) T'.outs.length cn, ws := nx } : Tn).ws, x ∈ hs2 := HFF.out.held
        have htp2 : ({ T' with vw := .slice (some a) T'.outs.length cn, ws := nx } : Tn).tp = T.tp := htp
        have hd2 : ({ T' with vw := .slice (some a) T'.outs.length cn, ws := nx } : Tn).d = T.d := hd
        rw [← hT2] at S4 hH2 hin2 htp2 hd2
        have HS4 := Aside0.mk S4
        have HF2 := Aside0.mk (And.intro L2 (And.intro hH2 hin2))
        clear S S1 S2 S3 S4 hT2 hH2 hin2 HHN HFF hn3 L2 HF
        have hm2 : j % 2 = 1 ∨ j % 2 = 0 := by omega
        rcases hm2 with hm2 | hm2
        · have e1 : (j : Int) % 2 = 1 := by omega
          have e2 : Int.tmod (j : Int) 2 = 1 := by rw [Int.tmod_eq_emod_of_nonneg (by omega)]; exact e1
          clear hm2
          go_wp2_with (first | (go_at_call 20; refine (num_any _ _).mono ?_; rintro _ _ ⟨rfl, rfl⟩))
          have hck := tcheck_s HR.out HF2.out.1 htx2 (((((HS4.out.pull 1).pull 5).pull 5).pull 5))
          clear HS4 c4 f4
          refine hck.mono ?_
          clear hck
          rintro e w7 ⟨cd, v3, s4, rfl, S, hcs⟩
          rcases hcs with ⟨rfl, L3, htx3, hbm3⟩ | ⟨rfl, hft, hsf, hpe⟩
          · have HL3 := Aside0.mk L3
            rw [← hbm3] at S
            have HS := Aside0.mk ((((S.pull 5).pull 4).pull 5))
            clear L3 S
            go_wp2_with (first | (go_at_call 20; refine (num_any _ _).mono ?_; rintro _ _ ⟨rfl, rfl⟩))
            exact ⟨⟨j + 1, T2, s4, v3, ps2, hs2, Wn, g1, by omega, by go_num, htp2, hd2, htx3, ⟨HL3.out, HF2.out.2.1, HF2.out.2.2, by omega⟩, HS.out⟩, by simp [intOf]; omega⟩
          · have S := (((S.pull 5).pull 4).pull 5)
            have HSF := Aside0.mk (And.intro hsf hft)
            have b0 := (S.pull 6).cell 0 (v := .int .i64 arm) rfl
            have b1 := (S.pull 6).cell 1 (v := .slice Ak ks.length ck) rfl
            have hfa := fall_nil (T := T2) (ck := ck) (by rw [hd2]; exact S) (((((HK.out.cons _).cons _).cons _).cons _).cons _) hpe arm
            rw [htp2] at hfa
            clear S hsf hft hpe
            go_wp2_with (first | (go_at_call 20; refine (num_any _ _).mono ?_; rintro _ _ ⟨rfl, rfl⟩))
            refine hfa.mono ?_
            clear hfa
            rintro _ w9 ⟨rfl, S⟩
            have HS9 := Aside0.mk S
            clear S b0 b1
            go_wp2_with fail
            go_ret
            have S := HS9.out
            rw [hd2] at S
            exact ⟨T2, s4.crash ks, Wn, hs2, rfl, ⟨htp2, hd2⟩, safe_calm HSF.out.1 HSF.out.2 ks, HF2.out.2.1, HF2.out.2.2, by omega, ((((S.pull 3).drop.pull 3).drop.pull 3).drop.pull 3).drop⟩
        · have e1 : (j : Int) % 2 = 0 := by omega
          have e2 : Int.tmod (j : Int) 2 = 0 := by rw [Int.tmod_eq_emod_of_nonneg (by omega)]; exact e1
          clear hm2
          go_wp2_with (first | (go_at_call 20; refine (num_any _ _).mono ?_; rintro _ _ ⟨rfl, rfl⟩))
          exact ⟨⟨j + 1, T2, s3, v2, ps2, hs2, Wn, g1, by omega, by go_num, htp2, hd2, htx2, ⟨HF2.out.1, HF2.out.2.1, HF2.out.2.2, by omega⟩, HS4.out⟩, by simp [intOf]; omega⟩
      · have HDB := Aside0.mk hDb
        have S := ((((S.drop.drop.pull 5).pull 6).pull 5).pull 6)
        have b0 := (S.pull 7).cell 0 (v := .int .i64 arm) rfl
        have b1 := (S.pull 7).cell 1 (v := .slice Ak ks.length ck) rfl
        have hfa := fall_next (T := T') (G := G) (ck := ck) (by rw [hd]; exact S) (((((HK.out.cons _).cons _).cons _).cons _).cons _) hpe arm HFF.out.nlen hDb.fits.geo HF.out.2.1.start HF.out.2.1.size
        rw [htp] at hfa
        clear S hDb hpe hn3
        go_wp2_with (first | (go_at_call 20; refine (num_any _ _).mono ?_; rintro _ _ ⟨rfl, rfl⟩))
        refine hfa.mono ?_
        clear hfa
        rintro _ w9 ⟨rfl, S⟩
        have HS9 := Aside0.mk S
        clear S b0 b1
        go_wp2_with fail
        go_ret
        have S := HS9.out
        rw [hd] at S
        have S := ((((S.pull 3).drop.pull 3).drop.pull 3).drop.pull 3).drop
        have hC := Go.Proofs.YtmafafingdpopaaGreatDoor.Sep.Doubt.calm HDB.out ks
        cases hsv : Jr.survives G s3.pend ks
        · rw [hsv, if_neg (by decide)] at S hC
          exact ⟨T', s3.crash ks, W', hs2, rfl, ⟨htp, hd⟩, hC, HF.out.2.1, HFF.out.old, by omega, S⟩
        · rw [hsv, if_pos rfl] at S hC
          have h := HHN.out
          exact ⟨⟨T.tp, T.d, T'.start, T'.size, T'.vo, .slice (some a) T'.outs.length cn, T'.outs, nx⟩, s3.crash ks, Wn, hs2, rfl, ⟨rfl, rfl⟩, hC, ⟨h.len, h.out, h.nodup, h.pos, h.few, h.is, h.start, h.size⟩, HFF.out.held, by omega, S⟩
    · have S := S
      have hfa := fall_nil (T := T') (ck := ck) (by rw [hd]; exact S) (((((HK.out.cons _).cons _).cons _).cons _).cons _) HF.out.1.pend arm
      rw [htp] at hfa
      clear S c0
      have key : ∀ (w9 : World), Sep w0 w9 (TownA T' :: DevA T'.d (s'.crash ks) :: HeldA hs' :: JBlk p T.d v' :: MapA v'.bm (vals v'.M) :: PoolA ps' :: Blk bx #[.int .i64 arm, .slice Ak ks.length ck] 60 :: R) → RunP w0 R T G ((W (-1)).length + 30) (.returned (.bool true)) w9 := fun w9 S => by
        rw [hd] at S
        have h1 := HF.out.2.2.2
        exact ⟨T', s'.crash ks, W', hs', rfl, ⟨htp, hd⟩, Live.calm HF.out.1.live ks, HF.out.2.1, HF.out.2.2.1, by omega, ((((S.pull 3).drop.pull 3).drop.pull 3).drop.pull 3).drop⟩
      have HKY := Aside0.mk key
      clear key
      by_cases g1 : j < txs.length
      · have d1 : decide ((j : Int) < (txs.length : Int)) = true := decide_eq_true (by omega)
        have d2 : decide ((j : Int) < 30) = false := decide_eq_false (by omega)
        go_wp2_with fail
        refine hfa.mono ?_
        clear hfa
        rintro _ w9 ⟨rfl, S⟩
        have HS9 := Aside0.mk S
        clear S b0 b1
        go_wp2_with fail
        go_ret
        exact HKY.out _ HS9.out
      · have d1 : decide ((j : Int) < (txs.length : Int)) = false := decide_eq_false (by omega)
        go_wp2_with fail
        refine hfa.mono ?_
        clear hfa
        rintro _ w9 ⟨rfl, S⟩
        have HS9 := Aside0.mk S
        clear S b0 b1
        go_wp2_with fail
        go_ret
        exact HKY.out _ HS9.out
end
end Go.Proofs.YtmafafingdpopaaGreatDoor.Sep
/- again: opens that crash too. -/
namespace Go.Proofs.YtmafafingdpopaaGreatDoor.Sep
open Go.Proofs Go.RowKit Go.ChangeMaps Go.Proofs.YtmafafingdpopaaGreatDoorW.PrintWords Go.Proofs.YtmafafingdpopaaGreatDoorW.PrintLast Go.Proofs.YtmafafingdpopaaGreatDoorW.PrintMore Go.Proofs.YtmafafingdpopaaGreatDoor.Dev Go.Proofs.YtmafafingdpopaaGreatDoor.Errs Go.Proofs.YtmafafingdpopaaGreatDoor.Jr Go.Proofs.YtmafafingdpopaaGreatDoor.Help Go.Proofs.YtmafafingdpopaaGreatDoor.IMap
set_option linter.unusedVariables false
set_option linter.unusedSimpArgs false
section
variable {w0 w w' : World} {R : List Asn} {p d : Nat} {ps : List (Nat × List Int)} {v : JV} {s : DS} {sa : Addr} {G : Geo} {T : Tn} {W : Int → List Int} {hs : List VB} {A : Option Addr} {c : Nat} {l : List Fl}
theorem Calm.armed (C : Calm G s W) (k : Int) (hk : k < 9223372036854775808) : Fits G (s.arm k).2 ∧ (s.arm k).2.off = false ∧ (s.arm k).2.pend = [] ∧ Recs G (s.arm k).2 W := by
  have e := arm_is (s := s) k
  refine ⟨Fits.arm C.fits k hk, by rw [e.2.2]; exact C.off, by rw [e.2.1]; exact C.pend, ?_⟩
  obtain ⟨s0, p0, Ts, hR⟩ := C.recs
  exact ⟨s0, p0, Ts, by rw [blk_fun e.1]; exact hR⟩
theorem Calm.arm0 (C : Calm G s W) : Calm G (s.arm 0).2 W := by
  obtain ⟨h1, h2, h3, h4⟩ := C.armed 0 (by decide)
  refine ⟨h1, h2, h3, ?_, h4⟩
  unfold DS.arm
  rw [if_neg (by decide), if_neg (by rw [C.off]; decide)]
structure FallsIn (w0 : World) (A : Option Addr) (l : List Fl) : Prop where
  at_ : Kd.C kF w0 A l.length l
  ok : ∀ x ∈ l, x.1 < 9223372036854775808
set_option maxRecDepth 100000 in
set_option maxHeartbeats 16000000 in
theorem again_s (hr : Rt w0) (hsn : Sen sa w0) (S : Sep w0 w (TownA T :: DevA T.d s :: HeldA hs :: R)) (C : Calm G s W) (H : Holds G T W) (X : FallsIn w0 A l) :
    Calls Tryz.prog 30 #[.pointer (some ⟨T.tp, 0, none⟩), .slice A l.length c] w fun e w' => e = .returned (.bool true) ∧ ∃ s', Calm G s' W ∧ Sep w0 w' (TownA T :: DevA T.d s' :: HeldA hs :: R) := by
  have HC := Aside0.mk C
  have HH := Aside0.mk H
  have HX := Aside0.mk X
  clear C H X
  go_enter Tryz.func30, Tryz.ntmps30
  go_wp2_with fail
  go_loopw [5] (fun iv wr => ∃ (j : Nat) (s' : DS), j ≤ l.length ∧ j ≤ 20 ∧ iv = .int .i64 (j : Int) ∧ Aside0 (Calm G s' W) ∧ Sep w0 wr (TownA T :: DevA T.d s' :: HeldA hs :: R)) (fun i _ => (20 - intOf i).toNat)
  case atStart => exact ⟨0, s, Nat.zero_le _, Nat.zero_le _, rfl, HC, S⟩
  case round =>
    clear S HC
    obtain ⟨j, s', hj, hj20, rfl, HC, S⟩ := hrel
    have c0 := S.town.cell 0 (v := .pointer (some ⟨T.d, 0, none⟩)) rfl
    by_cases hlt : j < l.length ∧ j < 20
    · obtain ⟨g1, g2⟩ := hlt
      have d1 : decide ((j : Int) < (l.length : Int)) = true := decide_eq_true (by omega)
      have d2 : decide ((j : Int) < 20) = true := decide_eq_true (by omega)
      have g1' : (j : Int) < (l.length : Int) := by omega
      obtain ⟨ad, B, cB, rfl, hcB, hkd, hX⟩ := falls_in HX.out.at_ j g1
      have hk := HX.out.ok _ (List.getElem_mem g1)
      obtain ⟨x, hx⟩ : ∃ x, x = l[j] := ⟨_, rfl⟩
      rw [← hx] at hcB hkd hX hk
      have XX := Aside0.mk hX
      have HKD := Aside0.mk hkd
      obtain ⟨x0, x1⟩ := hX _ S.bel
      clear hx hX hkd
      go_wp2_with fail
      go_region_held (fun W => W.cell? ⟨T.tp, 0, none⟩ = some (.pointer (some ⟨T.d, 0, none⟩)) ∧ W.cell? (ad.add (j * 2)) = some (.int .i64 x.1)) (refine ⟨?_, ?_⟩ <;> (repeat (first | (with_reducible assumption) | (with_reducible refine kd ?_))))
        (first
          | (go_at_call 41; refine (arm_s (S.pull 1).drew x.1 hk).mono ?_; rintro _ w3 ⟨rfl, S3⟩; have y0 := (S3.pull 1).town.cell 0 (v := .pointer (some ⟨T.d, 0, none⟩)) rfl; obtain ⟨y1, y2⟩ := XX.out _ S3.bel))
      clear c0 x0 x1 y0 y1 y2 S
      obtain ⟨f1, f2, f3, f4⟩ := HC.out.armed x.1 hk
      have hop := topen_armed hr hsn (S3.pull 1) f1 f2 f3 f4 HH.out
      clear f1 f2 f3 f4 S3
      go_wp2_with fail
      refine hop.mono ?_
      clear hop
      rintro e w4 ⟨s1, hcase⟩
      have hnx : ∀ (w5 : World) (s5 : DS), Calm G s5 W → Sep w0 w5 (DevA T.d s5 :: TownA T :: HeldA hs :: R) → Sep w0 w5 (TownA T :: DevA T.d s5 :: HeldA hs :: R) := fun w5 s5 _ S => S.pull 1
      rcases hcase with ⟨taken, p, v, ps, rfl, L, htx, S⟩ | ⟨rfl, hft, hsf, S⟩
      · have S := ((S.drop.drop).drop)
        have HCC := Aside0.mk (Live.calm L.live x.2)
        have hcr := fun W (S : Sep w0 W (DevA T.d s1 :: TownA T :: HeldA hs :: R)) => (KeepIn.old (R := R) HKD.out).crash W T.d s1 [TownA T, HeldA hs] cB S
        have c0 := (S.pull 1).town.cell 0 (v := .pointer (some ⟨T.d, 0, none⟩)) rfl
        obtain ⟨x0, x1⟩ := XX.out _ S.bel
        clear L htx
        go_wp2_with fail
        go_region_held (fun W => W.cell? ⟨T.tp, 0, none⟩ = some (.pointer (some ⟨T.d, 0, none⟩)) ∧ W.cell? ⟨(ad.add (j * 2)).block, (ad.add (j * 2)).off + 1, none⟩ = some (.slice B x.2.length cB)) (refine ⟨?_, ?_⟩ <;> (repeat (first | (with_reducible assumption) | (with_reducible refine kd ?_))))
          (first
            | (go_at_call 43; refine (hcr _ S.drew).mono ?_; rintro _ w5 ⟨rfl, S3⟩; have y0 := (S3.pull 1).town.cell 0 (v := .pointer (some ⟨T.d, 0, none⟩)) rfl; obtain ⟨y1, y2⟩ := XX.out _ S3.bel))
        clear c0 x0 x1 y0 y1 y2 S hcr
        have HS := Aside0.mk (S3.pull 1)
        clear S3
        go_wp2_with fail
        exact ⟨⟨j + 1, s1.crash x.2, g1, by omega, by go_num, HCC, HS.out⟩, by simp [intOf]; omega⟩
      · have HCC := Aside0.mk (safe_calm hsf hft x.2)
        have hcr := fun W (S : Sep w0 W (DevA T.d s1 :: TownA T :: HeldA hs :: R)) => (KeepIn.old (R := R) HKD.out).crash W T.d s1 [TownA T, HeldA hs] cB S
        have c0 := (S.pull 1).town.cell 0 (v := .pointer (some ⟨T.d, 0, none⟩)) rfl
        obtain ⟨x0, x1⟩ := XX.out _ S.bel
        clear hft hsf
        go_wp2_with fail
        go_region_held (fun W => W.cell? ⟨T.tp, 0, none⟩ = some (.pointer (some ⟨T.d, 0, none⟩)) ∧ W.cell? ⟨(ad.add (j * 2)).block, (ad.add (j * 2)).off + 1, none⟩ = some (.slice B x.2.length cB)) (refine ⟨?_, ?_⟩ <;> (repeat (first | (with_reducible assumption) | (with_reducible refine kd ?_))))
          (first
            | (go_at_call 43; refine (hcr _ S.drew).mono ?_; rintro _ w5 ⟨rfl, S3⟩; have y0 := (S3.pull 1).town.cell 0 (v := .pointer (some ⟨T.d, 0, none⟩)) rfl; obtain ⟨y1, y2⟩ := XX.out _ S3.bel))
        clear c0 x0 x1 y0 y1 y2 S hcr
        have HS := Aside0.mk (S3.pull 1)
        clear S3
        go_wp2_with fail
        exact ⟨⟨j + 1, s1.crash x.2, g1, by omega, by go_num, HCC, HS.out⟩, by simp [intOf]; omega⟩
    · have HCC := Aside0.mk HC.out.arm0
      have har := arm_s (S.pull 1) 0 (by decide)
      clear S
      by_cases g1 : j < l.length
      · have d1 : decide ((j : Int) < (l.length : Int)) = true := decide_eq_true (by omega)
        have d2 : decide ((j : Int) < 20) = false := decide_eq_false (by omega)
        go_wp2_with fail
        refine har.mono ?_
        clear har
        rintro _ w5 ⟨rfl, S⟩
        have HS := Aside0.mk (S.pull 1)
        clear S
        go_wp2_with fail
        go_ret
        exact ⟨rfl, _, HCC.out, HS.out⟩
      · have d1 : decide ((j : Int) < (l.length : Int)) = false := decide_eq_false (by omega)
        go_wp2_with fail
        refine har.mono ?_
        clear har
        rintro _ w5 ⟨rfl, S⟩
        have HS := Aside0.mk (S.pull 1)
        clear S
        go_wp2_with fail
        go_ret
        exact ⟨rfl, _, HCC.out, HS.out⟩
end
end Go.Proofs.YtmafafingdpopaaGreatDoor.Sep
