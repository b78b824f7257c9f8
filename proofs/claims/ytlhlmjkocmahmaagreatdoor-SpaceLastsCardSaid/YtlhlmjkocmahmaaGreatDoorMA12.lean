/- found: the transaction at the journal's place. -/
import Derived.Test.YtlhlmjkocmahmaaGreatDoorMA11
import Derived.BigQuiet
import Derived.Deep.CutBlock
namespace Go.Proofs.YtlhlmjkocmahmaaGreatDoor.Sep
open Go.Proofs Go.RowKit Go.ChangeMaps Go.Proofs.YtlhlmjkocmahmaaGreatDoorW.PrintWords Go.Proofs.YtlhlmjkocmahmaaGreatDoorW.PrintLast Go.Proofs.YtlhlmjkocmahmaaGreatDoorW.PrintMore Go.Proofs.YtlhlmjkocmahmaaGreatDoor.Dev Go.Proofs.YtlhlmjkocmahmaaGreatDoor.Errs Go.Proofs.YtlhlmjkocmahmaaGreatDoor.Jr Go.Proofs.YtlhlmjkocmahmaaGreatDoor.Help Go.Proofs.YtlhlmjkocmahmaaGreatDoor.IMap
set_option linter.unusedVariables false
set_option linter.unusedSimpArgs false
theorem ins_last {α : Type} {k : Int} {x : α} : ∀ {l : List (Int × α)}, (∀ y ∈ l, y.1 < k) → SM.ins l k x = l ++ [(k, x)]
  | [], _ => rfl
  | y :: r, h => by
    have h1 := h y (by simp)
    have ih := ins_last (k := k) (x := x) (l := r) fun z hz => h z (by simp [hz])
    unfold SM.ins
    split
    · omega
    · split
      · omega
      · rw [ih]
        rfl
def prevOf (es : List (Int × Int)) : Nat → Option Int
  | 0 => none
  | k + 1 => some ((es.getD k (0, 0)).1)
section
variable {G : Geo} {D : Int → List Int} {place : Int} {es : List (Int × Int)} {j : Nat} {x : Int × Int} {M : MV} {ps qs : List (Nat × List Int)}
/-- What holds ahead of the j-th entry. -/
structure FInv (G : Geo) (D : Int → List Int) (place : Int) (es : List (Int × Int)) (ps : List (Nat × List Int)) (j : Nat) (M : MV) (qs : List (Nat × List Int)) : Prop where
  ins : Ins M qs
  old : ∀ x ∈ ps, x ∈ qs
  le : ∀ y ∈ M, ∃ pr, prevOf es j = some pr ∧ y.1 ≤ pr
  is : foundE G D place es 0 none = (foundE G D place (es.drop j) (j : Int) (prevOf es j)).map fun m => dat M ++ m
theorem FInv.start : FInv G D place es ps 0 [] ps := ⟨fun x hx => absurd hx (List.not_mem_nil), fun x hx => hx, fun y hy => absurd hy (List.not_mem_nil), by
  show foundE G D place es 0 none = (foundE G D place es 0 none).map fun m => m
  simp⟩
theorem drop_at (hx : es[j]? = some x) : es.drop j = x :: es.drop (j + 1) := by
  obtain ⟨hj, he⟩ := List.getElem?_eq_some_iff.1 hx
  rw [← he]
  exact List.drop_eq_getElem_cons hj
theorem FInv.no (h : FInv G D place es ps j M qs) (hx : es[j]? = some x) (hn : (G.out x.1 && prevOk (prevOf es j) x.1) = false) : foundE G D place es 0 none = none := by
  rw [h.is, drop_at hx]
  unfold foundE
  rw [hn]
  rfl
theorem FInv.bad (h : FInv G D place es ps j M qs) (hx : es[j]? = some x) (hn : unesc (D (G.at_ (place + 1 + (j : Int)))) x.2 = none) : foundE G D place es 0 none = none := by
  rw [h.is, drop_at hx]
  unfold foundE
  rw [hn]
  split <;> rfl
theorem FInv.step (h : FInv G D place es ps j M qs) (hx : es[j]? = some x) (hy : (G.out x.1 && prevOk (prevOf es j) x.1) = true) {d : List Int} (hd : unesc (D (G.at_ (place + 1 + (j : Int)))) x.2 = some d) (g : Nat) :
    FInv G D place es ps (j + 1) (SM.ins M x.1 (g, d)) ((g, d) :: qs) := by
  have hpv : prevOf es (j + 1) = some x.1 := by
    show some ((es.getD j (0, 0)).1) = _
    rw [List.getD_eq_getElem?_getD, hx]
    rfl
  have hlt : ∀ y ∈ M, y.1 < x.1 := fun y hy' => by
    obtain ⟨pr, h1, h2⟩ := h.le y hy'
    rw [h1] at hy
    unfold prevOk at hy
    simp at hy
    omega
  have hins : SM.ins M x.1 (g, d) = M ++ [(x.1, (g, d))] := ins_last hlt
  refine ⟨(h.ins.cons (g, d)).ins x.1 (g, d) (by simp), fun z hz => List.mem_cons_of_mem _ (h.old z hz), fun y hy' => ⟨x.1, hpv, ?_⟩, ?_⟩
  · rw [hins] at hy'
    rcases List.mem_append.1 hy' with q | q
    · have := hlt y q
      omega
    · rw [List.mem_singleton.1 q]
      exact Int.le_refl _
  · rw [h.is, drop_at hx, hpv, hins]
    have e1 : dat (M ++ [(x.1, (g, d))]) = dat M ++ [(x.1, d)] := by unfold dat SM.on; rw [List.map_append]; rfl
    rw [e1]
    conv => lhs; unfold foundE
    rw [hy, if_pos rfl, hd]
    show (Option.map _ (Option.map _ _)) = _
    rw [Option.map_map, show ((j + 1 : Nat) : Int) = (j : Int) + 1 by omega]
    congr 1
    funext m
    show dat M ++ ((x.1, d) :: m) = _
    rw [List.append_assoc]
    rfl
theorem FInv.done (h : FInv G D place es ps j M qs) (hj : j = es.length) : foundE G D place es 0 none = some (dat M) := by
  rw [h.is, hj, List.drop_length]
  show Option.map _ (some []) = _
  rw [Option.map_some, List.append_nil]
end
section
variable {w0 w w' : World} {R : List Asn} {p d : Nat} {ps : List (Nat × List Int)} {v : JV} {s : DS} {sa : Addr}
theorem readB_s (S : Sep w0 w (DevA d s :: R)) {b : Int} (ho : s.off = false) (hb : 0 ≤ b ∧ b < (s.n : Int)) : Calls Tryz.prog 82 #[.pointer (some ⟨d, 0, none⟩), .int .i64 b] w fun e w' => ∃ g c, e = .returned (.tuple #[.slice (some ⟨g, 0, none⟩) 512 c, .int .i64 0]) ∧ Sep w0 w' (Byt (some ⟨g, 0, none⟩) 512 c (vw s b) :: DevA d s :: R) := by
  have P := read_s S b
  have hl := vw_len S.ok hb
  rw [read_vw ho hb] at P
  refine P.mono ?_
  rintro e w' ⟨A, c, rfl, S1⟩
  dsimp only at S1 ⊢
  rw [hl] at S1 ⊢
  obtain ⟨g, rfl⟩ := S1.addr (by decide)
  exact ⟨g, c, rfl, S1⟩
theorem rd_le (l : List Int) (n : Nat) (m : Int) (hm : 0 ≤ m) (r : RS) : (Jr.rd l n (upto m) r).1 ≤ m := by
  unfold Jr.rd
  split
  · split
    · split
      · rename_i h
        unfold upto at h
        simpa using h
      · exact hm
    · exact hm
  · exact hm
theorem readDesc_few {b : List Int} {seq : Int} {es : List (Int × Int)} (h : readDesc b seq = some es) : es.length ≤ 24 := by
  unfold readDesc at h
  dsimp only at h
  split at h
  · split at h
    · cases h
      rw [rdEnts_len]
      have := rd_le (b.drop 4) 4 24 (by decide) ⟨0, 0⟩
      omega
    · cases h
  · cases h
theorem found_none {G : Geo} {D : Int → List Int} {place seq left : Int} (h : readDesc (D (G.at_ place)) seq = none) : Jr.found G D place seq left = none := by
  unfold Jr.found
  rw [h]
theorem found_some {G : Geo} {D : Int → List Int} {place seq left : Int} {es : List (Int × Int)} (h : readDesc (D (G.at_ place)) seq = some es) : Jr.found G D place seq left = if (es.length : Int) + 2 ≤ left then (match foundE G D place es 0 none with | none => none | some m => if isCommit (D (G.at_ (place + 1 + (es.length : Int)))) seq then some m else none) else none := by
  unfold Jr.found
  rw [h]
  rfl
/-- What found answers. -/
def FoundP (w0 : World) (R : List Asn) (p d : Nat) (v : JV) (s : DS) (ps : List (Nat × List Int)) (r : Option SMb) (e : Ending) (w' : World) : Prop :=
  ∃ m qs, e = .returned (.tuple #[.map m, .bool r.isSome, .nilIface]) ∧ (∀ x ∈ ps, x ∈ qs) ∧
    ((r = none ∧ Sep w0 w' (JBlk p d v :: DevA d s :: PoolA qs :: R)) ∨ ∃ b M, m = some b ∧ r = some (dat M) ∧ Ins M qs ∧ Sep w0 w' (MapA b (vals M) :: JBlk p d v :: DevA d s :: PoolA qs :: R))
set_option maxRecDepth 100000 in
set_option maxHeartbeats 8000000 in
theorem found_s (hr : Rt w0) (hsn : Sen sa w0) (S : Sep w0 w (JBlk p d v :: DevA d s :: PoolA ps :: R)) (hG : (v.geo s).Ok) (ho : s.off = false) (hB : DByte s) (hpl : 0 ≤ v.place ∧ v.place ≤ 4096) (left : Int) :
    Calls Tryz.prog 84 #[.pointer (some ⟨p, 0, none⟩), .int .i64 left] w (FoundP w0 R p d v s ps (Jr.found (v.geo s) (vw s) v.place v.seq left)) := by
  have hat : ∀ q, 0 ≤ (v.geo s).at_ q ∧ (v.geo s).at_ q < (s.n : Int) := fun q => ⟨(at_range hG q).2.2.1, (at_range hG q).2.2.2⟩
  have HAT := Aside0.mk hat
  have HG := Aside0.mk hG
  have d0 := S.cell 0 (v := .pointer (some ⟨d, 0, none⟩)) rfl
  have d4 := S.cell 4 (v := .int .i64 v.place) rfl
  obtain ⟨r, hrr⟩ : ∃ r, r = Jr.found (v.geo s) (vw s) v.place v.seq left := ⟨_, rfl⟩
  rw [← hrr]
  have HR := Aside0.mk hrr
  clear hrr hat hG
  go_enter Tryz.func84, Tryz.ntmps84
  go_wp2_with fail
  go_region_held (fun W => W.cell? ⟨p, 0, none⟩ = some (.pointer (some ⟨d, 0, none⟩)) ∧ W.cell? ⟨p, 4, none⟩ = some (.int .i64 v.place)) (refine ⟨?_, ?_⟩ <;> (repeat (first | (with_reducible assumption) | (with_reducible refine kd ?_))))
    (first
      | (go_at_call 88; refine (block_s S.drew HG.out v.place hpl.1 (by omega)).mono ?_; rintro _ _ ⟨rfl, k, rfl⟩; have Sb := S.drewN (1 + k); have z0 := Sb.cell 0 (v := .pointer (some ⟨d, 0, none⟩)) rfl; have z4 := Sb.cell 4 (v := .int .i64 v.place) rfl)
      | (go_at_call 82; refine (readB_s Sb.swap ho (HAT.out v.place)).mono ?_; rintro _ w4 ⟨g, c, rfl, S4⟩; have y0 := (S4.pull 2).cell 0 (v := .pointer (some ⟨d, 0, none⟩)) rfl; have y4 := (S4.pull 2).cell 4 (v := .int .i64 v.place) rfl))
  clear d0 d4 z0 z4 y0 y4 Sb S
  have k3 := (S4.pull 2).cell 3 (v := .int .i64 v.seq) rfl
  go_wp2_with fail
  refine (readDescriptor_s hr hsn S4 (vw_byte hB _) v.seq).mono ?_
  rintro e w5 ⟨Ae, n, ce, es, rfl, hes, S5⟩
  clear S4 k3
  have S := ((S5.pull 1).drop).pull 2
  cases hd : readDesc (vw s ((v.geo s).at_ v.place)) v.seq with
  | none =>
    have hn := HR.out
    rw [found_none hd] at hn
    subst hn
    have HS := Aside0.mk S
    simp only [Option.isSome_none]
    clear S S5 hd hes
    go_wp2_with fail
    go_ret3
    exact ⟨none, ps, rfl, fun x hx => hx, .inl ⟨rfl, (HS.out.pull 1).drop⟩⟩
  | some es' =>
    have h1 := hes es' hd
    subst h1
    have hlen := (S.pull 1).ent_len
    have hn24 := readDesc_few hd
    have hfs := found_some (left := left) hd
    rw [← HR.out] at hfs
    simp only [Option.isSome_some]
    have HES := Aside0.mk hlen
    rw [hlen] at hn24 hfs
    have HFS := Aside0.mk hfs
    clear hfs hes hd hlen S5
    have hw2 : IntKind.i64.wrap ((n : Int) + 2) = (n : Int) + 2 := by rw [IntKind.wrap_i64]; omega
    by_cases hle : (n : Int) + 2 ≤ left
    · have hfs := HFS.out
      rw [if_pos hle] at hfs
      have HF2 := Aside0.mk hfs
      have hgt : ¬ (n : Int) + 2 > left := by omega
      have hmk := @run_makeMap Tryz.prog
      have S1 := S.map_new
      clear hfs HFS S
      go_wp2_with fail
      obtain ⟨mb, hmb⟩ : ∃ mb, mb = w5.heap.size := ⟨_, rfl⟩
      obtain ⟨w6, hw6⟩ : ∃ w6, w6 = w5.alloc (.map #[] 0) := ⟨_, rfl⟩
      rw [← hw6, ← hmb] at S1 ⊢
      clear hmb hw6 hmk
      go_loopw [55] (fun i wr => ∃ (j : Nat) (M : MV) (qs : List (Nat × List Int)), j ≤ n ∧ i = .int .i64 (j : Int) ∧ Aside0 (FInv (v.geo s) (vw s) v.place es ps j M qs) ∧ Sep w0 wr (JBlk p d v :: DevA d s :: EntA Ae n ce es :: MapA mb (vals M) :: PoolA qs :: R)) (fun i _ => ((n : Int) - intOf i).toNat)
      case atStart => exact ⟨0, [], ps, Nat.zero_le _, rfl, ⟨FInv.start⟩, ((S1.pull 2).pull 3).pull 3⟩
      case round =>
        clear S1
        obtain ⟨j, M, qs, hj, rfl, HI, S⟩ := hrel
        by_cases hjn : j < n
        · have hi : (j : Int) < (n : Int) := by omega
          obtain ⟨ge, rfl⟩ := (S.pull 2).addr (by omega)
          obtain ⟨x, hx⟩ : ∃ x, es[j]? = some x := ⟨_, List.getElem?_eq_getElem (by rw [HES.out]; exact hjn)⟩
          have v0 := (S.pull 2).row.cells (g := ge) rfl _ _ (ecells_at hx).1
          have v1 := (S.pull 2).row.cells (g := ge) rfl _ _ (ecells_at hx).2
          rw [add_plain] at v0 v1
          have hpv : ∀ i : Nat, j = i + 1 → wr.cell? ⟨ge, i * 2, none⟩ = some (.int .i64 (es.getD i (0, 0)).1) := fun i hi => by
            have h1 := (S.pull 2).row.cells (g := ge) rfl _ _ (ecells_at (es := es) (i := i) (x := es.getD i (0, 0)) (by
              rw [List.getD_eq_getElem?_getD, List.getElem?_eq_getElem (by rw [HES.out]; omega)]
              rfl)).1
            rw [add_plain] at h1
            exact h1
          have S2 := S.alloc #[.int .i64 x.1, .int .i64 x.2] 171
          have k0 := S2.cell 0 (v := .int .i64 x.1) rfl
          have kj : (j : Int) * 2 = ((j * 2 : Nat) : Int) := by omega
          have HX := Aside0.mk hx
          have HPV := Aside0.mk hpv
          clear hx hpv S
          go_upto_region 11 with fail
          obtain ⟨bx, hbx⟩ : ∃ bx, bx = wr.heap.size := ⟨_, rfl⟩
          obtain ⟨W1, hW1⟩ : ∃ W1, W1 = wr.alloc (.cells #[.int .i64 x.1, .int .i64 x.2] 171) := ⟨_, rfl⟩
          have hpv1 : ∀ i : Nat, j = i + 1 → W1.cell? ⟨ge, i * 2, none⟩ = some (.int .i64 (es.getD i (0, 0)).1) := fun i hi => by rw [hW1]; exact ka (HPV.out i hi) _
          rw [← hbx, ← hW1] at S2 k0 ⊢
          have HPV1 := Aside0.mk hpv1
          clear hW1 hbx v0 v1 hpv1 HPV
          have hP : ∀ k, Calls Tryz.prog 91 #[.pointer (some ⟨p, 0, none⟩), .int .i64 x.1] (W1.drewN k) fun e w' => e = .returned (.bool ((v.geo s).out x.1)) ∧ ∃ n, w' = (W1.drewN k).drewN n := fun k => outside_s (S2.drop.drewN k) HG.out x.1
          have HS2 := Aside0.mk S2
          go_cut [79] (fun u wx => u = .bool (!((v.geo s).out x.1 && prevOk (prevOf es j) x.1)) ∧ ∃ k, wx = W1.drewN k)
          case first =>
            clear S2
            cases hou : (v.geo s).out x.1
            · rw [hou] at hP
              have HOU := Aside0.mk hou
              clear hou
              go_quiet (first | (go_at_call 91; exact Calls.quiet_of (hP _)))
              go_wp2_with fail
              go_meet
              case rel => exact ⟨by rw [HOU.out]; rfl, _, rfl⟩
            · rw [hou] at hP
              have HOU := Aside0.mk hou
              clear hou
              rcases j with _ | i'
              · go_quiet (first | (go_at_call 91; exact Calls.quiet_of (hP _)))
                go_wp2_with fail
                go_meet
                case rel => exact ⟨by rw [HOU.out]; rfl, _, rfl⟩
              · have hc := HPV1.out i' rfl
                have hi0 : ((i' + 1 : Nat) : Int) > 0 := by omega
                have hw3 : IntKind.i64.wrap (((i' + 1 : Nat) : Int) - 1) = (i' : Int) := by rw [IntKind.wrap_i64]; omega
                have hin : (i' : Int) < (n : Int) := by omega
                have kj2 : (i' : Int) * 2 = ((i' * 2 : Nat) : Int) := by omega
                have hprv : prevOk (prevOf es (i' + 1)) x.1 = !decide (x.1 ≤ (es.getD i' (0, 0)).1) := by
                  show decide ((es.getD i' (0, 0)).1 < x.1) = _
                  by_cases q : x.1 ≤ (es.getD i' (0, 0)).1
                  · rw [decide_eq_false (by omega), decide_eq_true q]
                    rfl
                  · rw [decide_eq_true (by omega), decide_eq_false q]
                    rfl
                generalize (es.getD i' (0, 0)).1 = pr at *
                have HPRV := Aside0.mk hprv
                clear hprv HPV1 HX kj
                by_cases q : x.1 ≤ pr
                · have hq : decide (x.1 ≤ pr) = true := decide_eq_true q
                  have HQ := Aside0.mk hq
                  go_quiet (first | (go_at_call 91; exact Calls.quiet_of (hP _)))
                  go_wp2_with fail
                  go_meet
                  case rel => exact ⟨by rw [HOU.out, HPRV.out, HQ.out]; rfl, _, rfl⟩
                · have hq : decide (x.1 ≤ pr) = false := decide_eq_false q
                  have HQ := Aside0.mk hq
                  go_quiet (first | (go_at_call 91; exact Calls.quiet_of (hP _)))
                  go_wp2_with fail
                  go_meet
                  case rel => exact ⟨by rw [HOU.out, HPRV.out, HQ.out]; rfl, _, rfl⟩
          case rest =>
          obtain ⟨rfl, k, rfl⟩ := hcut
          have S := S2.drewN k
          obtain ⟨W2, hW2⟩ : ∃ W2, W2 = W1.drewN k := ⟨_, rfl⟩
          rw [← hW2] at S ⊢
          clear hW2 HS2 hP HPV1 S2 k0
          cases hg : ((v.geo s).out x.1 && prevOk (prevOf es j) x.1)
          · have hrn : r = none := by rw [HF2.out, HI.out.no HX.out hg]
            subst hrn
            have HS := Aside0.mk (((S.drop.pull 2).drop).pull 2).drop
            clear S hg HF2 HR
            go_wp2_with fail
            go_ret3
            exact ⟨none, qs, rfl, HI.out.old, .inl ⟨rfl, HS.out⟩⟩
          · have HGD := Aside0.mk hg
            have hxo : (v.geo s).out x.1 = true := by
              rw [Bool.and_eq_true] at hg
              exact hg.1
            have hxb := out_in HG.out hxo
            have hn4 : (v.geo s).n ≤ 4096 := HG.out.n1
            have hwf : (Lit.int .i64 x.1).wf = true := WalkArith.wf_i64 (by omega)
            have d0 := (S.pull 1).cell 0 (v := .pointer (some ⟨d, 0, none⟩)) rfl
            have d4 := (S.pull 1).cell 4 (v := .int .i64 v.place) rfl
            have hw4 : IntKind.i64.wrap (v.place + 1) = v.place + 1 := by rw [IntKind.wrap_i64]; omega
            have hw5 : IntKind.i64.wrap (v.place + 1 + (j : Int)) = v.place + 1 + (j : Int) := by rw [IntKind.wrap_i64]; omega
            have hbp : 0 ≤ v.place + 1 + (j : Int) ∧ v.place + 1 + (j : Int) ≤ 100000 := by omega
            have HBP := Aside0.mk hbp
            clear hg hxo hxb hn4 hbp
            go_wp2_with fail
            go_region_held (fun W => W.cell? ⟨p, 0, none⟩ = some (.pointer (some ⟨d, 0, none⟩)) ∧ W.cell? ⟨p, 4, none⟩ = some (.int .i64 v.place)) (refine ⟨?_, ?_⟩ <;> (repeat (first | (with_reducible assumption) | (with_reducible refine kd ?_))))
              (first
                | (go_at_call 88; refine (block_s (S.pull 1).drew HG.out (v.place + 1 + (j : Int)) HBP.out.1 HBP.out.2).mono ?_; rintro _ _ ⟨rfl, k2, rfl⟩; have Sb := (S.pull 1).drewN (1 + k2); have z0 := Sb.cell 0 (v := .pointer (some ⟨d, 0, none⟩)) rfl; have z4 := Sb.cell 4 (v := .int .i64 v.place) rfl)
                | (go_at_call 82; refine (readB_s (Sb.pull 2) ho (HAT.out (v.place + 1 + (j : Int)))).mono ?_; rintro _ w7 ⟨g7, c7, rfl, S4⟩; have y0 := (S4.pull 2).cell 0 (v := .pointer (some ⟨d, 0, none⟩)) rfl; have y4 := (S4.pull 2).cell 4 (v := .int .i64 v.place) rfl))
            clear d0 d4 z0 z4 y0 y4 Sb S
            go_wp2_with fail
            have b0 := (S4.pull 3).cell 0 (v := .int .i64 x.1) rfl
            have b1 := (S4.pull 3).cell 1 (v := .int .i64 x.2) rfl
            have HBY := Aside0.mk (vw_byte hB ((v.geo s).at_ (v.place + 1 + (j : Int))))
            have hrd := S4.drew.reads
            go_region_held (fun W => W.cell? ⟨bx, 0, none⟩ = some (.int .i64 x.1) ∧ W.cell? ⟨bx, 1, none⟩ = some (.int .i64 x.2)) (refine ⟨?_, ?_⟩ <;> (repeat (first | (with_reducible assumption) | (with_reducible refine kd ?_))))
              (first
                | (go_at_call 111; refine (unescaped_s (c := c7) S4.drew hrd HBY.out x.2).mono ?_; rintro _ w8 ⟨g8, d8, rfl, hd8, S5⟩; have z0 := (S5.pull 4).cell 0 (v := .int .i64 x.1) rfl; have z1 := (S5.pull 4).cell 1 (v := .int .i64 x.2) rfl; obtain ⟨w9, hst, S6⟩ := (S5.pull 6).store_eq (P := Tryz.prog) Tryz.underlying113 Tryz.underlying3 hwf (.slice (some ⟨g8, 0, none⟩) 512 512); have y0 := (S6.pull 5).cell 0 (v := .int .i64 x.1) rfl; have y1 := (S6.pull 5).cell 1 (v := .int .i64 x.2) rfl; have HD8 := Aside0.mk hd8; clear hd8))
            clear b0 b1 z0 z1 y0 y1 hst S4 S5 hrd
            cases hun : unesc (vw s ((v.geo s).at_ (v.place + 1 + (j : Int)))) x.2 with
            | none =>
              have hrn : r = none := by rw [HF2.out, HI.out.bad HX.out hun]
              subst hrn
              simp only [Option.isSome_none]
              have HS := Aside0.mk ((((S6.drop.drop.drop.pull 2).drop.pull 2).drop).swap)
              clear S6 HD8 hun HF2 HR HBY
              go_wp2_with fail
              go_ret3
              exact ⟨none, qs, rfl, HI.out.old, .inl ⟨rfl, HS.out⟩⟩
            | some d' =>
              simp only [Option.isSome_some]
              have hd := HD8.out d' hun
              subst hd
              have HI2 := HI.out.step HX.out HGD.out hun g8
              have eX : SM.ins (vals M) x.1 (.slice (some ⟨g8, 0, none⟩) 512 512) = vals (SM.ins M x.1 (g8, d8)) := (SM.ins_on (fun x : Nat × List Int => rowV x.1) M x.1 (g8, d8)).symm
              rw [eX] at S6
              have S7 := (((((((((S6.pull 7).pull 2).pool_add).pull 2).drop).pull 4).drop.pull 1).pull 4).pull 3).pull 4
              have HI3 := Aside0.mk HI2
              have HS := Aside0.mk S7
              clear S6 S7 HD8 hun HBY HI2 eX
              go_wp2_with fail
              exact ⟨⟨j + 1, _, _, by omega, by go_num, HI3, HS.out⟩, by simp [intOf]; omega⟩
        · have hjn2 : n = j := by omega
          subst hjn2
          have hi : ¬ ((n : Int) < (n : Int)) := by omega
          have hrM : r = if isCommit (vw s ((v.geo s).at_ (v.place + 1 + (n : Int)))) v.seq then some (dat M) else none := by rw [HF2.out, HI.out.done HES.out.symm]
          have HRM := Aside0.mk hrM
          have d0 := S.cell 0 (v := .pointer (some ⟨d, 0, none⟩)) rfl
          have d4 := S.cell 4 (v := .int .i64 v.place) rfl
          have hw4 : IntKind.i64.wrap (v.place + 1) = v.place + 1 := by rw [IntKind.wrap_i64]; omega
          have hw5 : IntKind.i64.wrap (v.place + 1 + (n : Int)) = v.place + 1 + (n : Int) := by rw [IntKind.wrap_i64]; omega
          have hbp : 0 ≤ v.place + 1 + (n : Int) ∧ v.place + 1 + (n : Int) ≤ 100000 := by omega
          have HBP := Aside0.mk hbp
          clear hrM HF2 HR hbp
          go_wp2_with fail
          go_region_held (fun W => W.cell? ⟨p, 0, none⟩ = some (.pointer (some ⟨d, 0, none⟩)) ∧ W.cell? ⟨p, 4, none⟩ = some (.int .i64 v.place)) (refine ⟨?_, ?_⟩ <;> (repeat (first | (with_reducible assumption) | (with_reducible refine kd ?_))))
            (first
              | (go_at_call 88; refine (block_s S.drew HG.out (v.place + 1 + (n : Int)) HBP.out.1 HBP.out.2).mono ?_; rintro _ _ ⟨rfl, k2, rfl⟩; have Sb := S.drewN (1 + k2); have z0 := Sb.cell 0 (v := .pointer (some ⟨d, 0, none⟩)) rfl; have z4 := Sb.cell 4 (v := .int .i64 v.place) rfl)
              | (go_at_call 82; refine (readB_s (Sb.pull 1) ho (HAT.out (v.place + 1 + (n : Int)))).mono ?_; rintro _ w7 ⟨g7, c7, rfl, S4⟩; have y0 := (S4.pull 2).cell 0 (v := .pointer (some ⟨d, 0, none⟩)) rfl; have y4 := (S4.pull 2).cell 4 (v := .int .i64 v.place) rfl))
          clear d0 d4 z0 z4 y0 y4 Sb S
          have k3 := (S4.pull 2).cell 3 (v := .int .i64 v.seq) rfl
          go_wp2_with fail
          refine (isCommit_s S4 (vw_byte hB _) v.seq).mono ?_
          clear S4 k3
          rintro _ w8 ⟨rfl, S5⟩
          go_wp2_with fail
          refine (wrapped_s S5 _ 0).mono ?_
          clear S5
          rintro _ w9 ⟨rfl, S⟩
          rw [errV_0 _ rfl]
          have hrM := HRM.out
          have HS := Aside0.mk (((S.drop.pull 2).drop).pull 1)
          clear S
          cases hic : isCommit (vw s ((v.geo s).at_ (v.place + 1 + (n : Int)))) v.seq
          · rw [hic, if_neg (by decide)] at hrM
            subst hrM
            clear hic HRM
            go_wp2_with fail
            go_ret3
            exact ⟨some mb, qs, rfl, HI.out.old, .inl ⟨rfl, (HS.out.pull 2).drop⟩⟩
          · rw [hic, if_pos rfl] at hrM
            subst hrM
            clear hic HRM
            go_wp2_with fail
            go_ret3
            exact ⟨some mb, qs, rfl, HI.out.old, .inr ⟨mb, M, rfl, rfl, HI.out.ins, HS.out.pull 2⟩⟩
    · have hfs := HFS.out
      rw [if_neg hle] at hfs
      subst hfs
      have hgt : (n : Int) + 2 > left := by omega
      have HS := Aside0.mk S
      clear S HFS
      go_wp2_with fail
      go_ret3
      exact ⟨none, ps, rfl, fun x hx => hx, .inl ⟨rfl, (HS.out.pull 1).drop⟩⟩
end
end Go.Proofs.YtlhlmjkocmahmaaGreatDoor.Sep
/- Open. -/
namespace Go.Proofs.YtlhlmjkocmahmaaGreatDoor.Sep
open Go.Proofs Go.RowKit Go.ChangeMaps Go.Proofs.YtlhlmjkocmahmaaGreatDoorW.PrintWords Go.Proofs.YtlhlmjkocmahmaaGreatDoorW.PrintLast Go.Proofs.YtlhlmjkocmahmaaGreatDoorW.PrintMore Go.Proofs.YtlhlmjkocmahmaaGreatDoor.Dev Go.Proofs.YtlhlmjkocmahmaaGreatDoor.Errs Go.Proofs.YtlhlmjkocmahmaaGreatDoor.Jr Go.Proofs.YtlhlmjkocmahmaaGreatDoor.Help Go.Proofs.YtlhlmjkocmahmaaGreatDoor.IMap
set_option linter.unusedVariables false
set_option linter.unusedSimpArgs false
theorem len_ins_le {α : Type} (k : Int) (x : α) : ∀ l : List (Int × α), (SM.ins l k x).length ≤ l.length + 1
  | [] => Nat.le_refl _
  | y :: r => by
    have ih := len_ins_le k x r
    unfold SM.ins
    split
    · simp
    · split
      · simp
      · simp only [List.length_cons]
        omega
theorem len_over_le {α : Type} : ∀ (m l : List (Int × α)), (SM.over l m).length ≤ l.length + m.length
  | [], l => Nat.le_refl _
  | y :: r, l => by
    have h1 := len_ins_le y.1 y.2 l
    have h2 := len_over_le r (SM.ins l y.1 y.2)
    show (SM.over (SM.ins l y.1 y.2) r).length ≤ _
    rw [List.length_cons]
    omega
theorem mem_over {α : Type} {y : Int × α} : ∀ (m l : List (Int × α)), y ∈ SM.over l m → y ∈ l ∨ y ∈ m
  | [], l, h => .inl h
  | z :: r, l, h => by
    rcases mem_over r (SM.ins l z.1 z.2) h with q | q
    · rcases SM.mem_ins q with e | q
      · exact .inr (by rw [e]; exact List.mem_cons_self)
      · exact .inl q
    · exact .inr (List.mem_cons_of_mem _ q)
section
variable {G : Geo} {D : Int → List Int} {place : Int}
theorem foundE_out : ∀ (es : List (Int × Int)) (i : Int) (prev : Option Int) (m : SMb), foundE G D place es i prev = some m → m.length = es.length ∧ ∀ x ∈ m, G.out x.1 = true
  | [], i, prev, m, h => by
    unfold foundE at h
    cases h
    exact ⟨rfl, fun x hx => absurd hx (List.not_mem_nil)⟩
  | y :: r, i, prev, m, h => by
    unfold foundE at h
    split at h
    · rename_i hg
      rw [Bool.and_eq_true] at hg
      split at h
      · cases h
      · obtain ⟨m2, h2, rfl⟩ := Option.map_eq_some_iff.1 h
        have ih := foundE_out r (i + 1) (some y.1) m2 h2
        refine ⟨by rw [List.length_cons, List.length_cons, ih.1], fun x hx => ?_⟩
        rcases List.mem_cons.1 hx with e | hx
        · rw [e]
          exact hg.1
        · exact ih.2 x hx
    · cases h
theorem found_out {seq left : Int} {m : SMb} (h : Jr.found G D place seq left = some m) : (m.length : Int) + 2 ≤ left ∧ ∀ x ∈ m, G.out x.1 = true := by
  unfold Jr.found at h
  split at h
  · cases h
  · rename_i es hd
    split at h
    · rename_i hle
      split at h
      · cases h
      · rename_i m2 hf
        split at h
        · cases h
          have := foundE_out es 0 none _ hf
          rw [this.1]
          exact ⟨hle, this.2⟩
        · cases h
    · cases h
end
theorem rd_ge {l : List Int} (hB : Byte l) (n : Nat) (ok : Int → Bool) (r : RS) : 0 ≤ (Jr.rd l n ok r).1 := by
  unfold Jr.rd
  split
  · split
    · split
      · exact (numb_lt _ ((hB.drop _).take _)).1
      · exact Int.le_refl _
    · exact Int.le_refl _
  · exact Int.le_refl _
theorem rd_le64 (l : List Int) (n : Nat) (m : Int) (hm : 0 ≤ m) (r : RS) : (Jr.rd l n (upto64 m) r).1 ≤ m := by
  unfold Jr.rd
  split
  · split
    · split
      · rename_i h
        unfold upto64 at h
        simp at h
        exact h.2
      · exact hm
    · exact hm
  · exact hm
theorem readHead_in {b : List Int} (hB : Byte b) {places : Int} (hp : 1 ≤ places) (h : (readHead b places).2.2 = true) : 1 ≤ (readHead b places).1 ∧ (readHead b places).1 ≤ 4611686018427387905 ∧ 0 ≤ (readHead b places).2.1 ∧ (readHead b places).2.1 ≤ places - 1 := by
  have hB2 : Byte ((b.drop 8).take 20) := (hB.drop 8).take 20
  refine ⟨?_, rd_le64 _ 8 _ (by decide) _, rd_ge hB2 _ _ _, rd_le _ 4 (places - 1) (by omega) _⟩
  unfold readHead at h ⊢
  dsimp only at h ⊢
  simp only [Bool.and_eq_true, decide_eq_true_eq] at h
  exact h.1.2
theorem cpV_js2 (v : JV) (s : DS) (also : Bool) : (Jr.checkpoint (v.geo s) s (jsOf v) also).2.2 = jsOf (cpV v s also) := by
  by_cases hM : v.M = [] ∧ also = false
  · have h1 : (jsOf v).away = [] := by show dat v.M = []; rw [hM.1]; rfl
    have hc : Jr.checkpoint (v.geo s) s (jsOf v) also = (0, s, jsOf v) := by
      unfold Jr.checkpoint
      rw [if_pos ⟨h1, hM.2⟩]
    rw [hc]
    unfold cpV
    rw [if_pos hM]
  · have h1 : ¬ ((jsOf v).away = [] ∧ also = false) := fun q => hM ⟨List.length_eq_zero_iff.1 (by
      have h2 : (dat v.M).length = v.M.length := SM.len_on _ _
      rw [← h2, show dat v.M = [] from q.1]
      rfl), q.2⟩
    have hv : cpV v s also = if (Jr.checkpoint (v.geo s) s (jsOf v) also).1 = 0 then { v with free := v.size - 1, M := [] } else v := by
      unfold cpV
      rw [if_neg hM]
    rw [hv, cp_ne h1]
    by_cases hw : (Jr.writes s (jsOf v).away).1 = 0
    · rw [if_pos hw]
      by_cases hh : (Jr.headed (v.geo s) (Jr.writes s (jsOf v).away).2 (jsOf v).seq (jsOf v).place).1 = 0
      · rw [if_pos hh, if_pos (show (0 : Int) = 0 from rfl)]
        rfl
      · rw [if_neg hh, if_neg hh]
    · rw [if_neg hw, if_neg hw]
abbrev OV (start size seq place : Int) (mb : Nat) (M : MV) : JV := ⟨start, size, seq, place, 0, mb, M, none, false⟩
structure OInv (G : Geo) (D : Int → List Int) (Q : Int × Int × SMb × Int) (f : Nat) (seq place left taken : Int) (M : MV) (ps : List (Nat × List Int)) : Prop where
  is : scan G D f seq place left (dat M) taken = Q
  lf : left ≤ (f : Int)
  l0 : 0 ≤ left
  t0 : 0 ≤ taken
  tl : taken + left ≤ 4096
  ml : (M.length : Int) + left ≤ 4096
  key : ∀ x ∈ M, 0 ≤ x.1 ∧ x.1 ≤ 4096
  p0 : 0 ≤ place
  p1 : place ≤ 4096
  s0 : 1 ≤ seq
  s1 : seq ≤ 4611686018427387905
  ins : Ins M ps
structure OEnd (Q : Int × Int × SMb × Int) (seq place taken : Int) (M : MV) (ps : List (Nat × List Int)) : Prop where
  is : Q = (seq, place, dat M, taken)
  t0 : 0 ≤ taken
  t1 : taken ≤ 4096
  ml : M.length ≤ 4096
  key : ∀ x ∈ M, 0 ≤ x.1 ∧ x.1 ≤ 4096
  ins : Ins M ps
section
variable {G : Geo} {D : Int → List Int} {Q : Int × Int × SMb × Int} {f : Nat} {seq place left taken : Int} {M N : MV} {ps qs : List (Nat × List Int)}
theorem OInv.fin (h : OInv G D Q f seq place left taken M ps) (e : scan G D f seq place left (dat M) taken = (seq, place, dat M, taken)) : OEnd Q seq place taken M ps :=
  ⟨h.is.symm.trans e, h.t0, by have := h.tl; have := h.l0; omega, by have := h.ml; have := h.l0; omega, h.key, h.ins⟩
theorem OInv.stop (h : OInv G D Q f seq place left taken M ps) (hc : ¬ (seq ≤ maxNum ∧ 3 ≤ left)) : OEnd Q seq place taken M ps := by
  refine h.fin ?_
  cases f with
  | zero => rfl
  | succ f =>
    unfold scan
    rw [if_neg hc]
theorem OInv.none (h : OInv G D Q f seq place left taken M ps) (hf : Jr.found G D place seq left = none) : OEnd Q seq place taken M ps := by
  refine h.fin ?_
  cases f with
  | zero => rfl
  | succ f =>
    unfold scan
    rw [hf]
    split <;> rfl
theorem OInv.step (hG : G.Ok) (h : OInv G D Q f seq place left taken M ps) (hc : seq ≤ maxNum ∧ 3 ≤ left) (hf : Jr.found G D place seq left = some (dat N)) (hI : Ins N qs) (hq : ∀ x ∈ ps, x ∈ qs) :
    ∃ f', OInv G D Q f' (seq + 1) ((place + (N.length : Int) + 2) % G.places) (left - ((N.length : Int) + 2)) (taken + 1) (SM.over M N) qs := by
  have hM : maxNum = 4611686018427387904 := rfl
  have hdl : (dat N).length = N.length := SM.len_on _ _
  obtain ⟨hl, ho⟩ := found_out hf
  rw [hdl] at hl
  have h1 := h.lf
  have h2 := h.tl
  have h3 := h.ml
  have h4 := h.l0
  have h5 := h.t0
  have h6 := h.s0
  have hol := len_over_le N M
  have hpl := places_pos hG
  have e1 : (0 : Int) ≤ (place + (N.length : Int) + 2) % G.places := Int.emod_nonneg _ (by omega)
  have e2 : (place + (N.length : Int) + 2) % G.places < G.places := Int.emod_lt_of_pos _ (by omega)
  have e3 : G.places = G.size - 1 := rfl
  have e4 := hG.fit
  have e5 := hG.n1
  have e6 := hG.start0
  cases f with
  | zero =>
    exfalso
    have : ((0 : Nat) : Int) = 0 := rfl
    omega
  | succ f =>
    have his := h.is
    unfold scan at his
    rw [if_pos hc, hf] at his
    refine ⟨f, ?_, by omega, by omega, by omega, by omega, by omega, fun x hx => ?_, e1, by omega, by omega, by omega, fun x hx => ?_⟩
    · rw [← his]
      dsimp only
      rw [hdl, show dat (SM.over M N) = SM.over (dat M) (dat N) from SM.over_on _ _ _]
    · rcases mem_over _ _ hx with q | q
      · exact h.key x q
      · have h8 := out_in hG (ho (x.1, x.2.2) (List.mem_map.2 ⟨x, q, rfl⟩))
        exact ⟨h8.1, by have := h8.2; dsimp only at this; omega⟩
    · rcases mem_over _ _ hx with q | q
      · exact hq _ (h.ins x q)
      · exact hI x q
end
/-- Open, the log having been looked through. -/
def openQ (G : Geo) (s : DS) (q : Int × Int × SMb × Int) : Int × DS × Option (JS × Int) :=
  if (Jr.checkpoint G s ⟨q.1, q.2.1, 0, q.2.2.1⟩ (decide (0 < q.2.2.2))).1 = 0 then (0, (Jr.checkpoint G s ⟨q.1, q.2.1, 0, q.2.2.1⟩ (decide (0 < q.2.2.2))).2.1, some (⟨(Jr.checkpoint G s ⟨q.1, q.2.1, 0, q.2.2.1⟩ (decide (0 < q.2.2.2))).2.2.seq, (Jr.checkpoint G s ⟨q.1, q.2.1, 0, q.2.2.1⟩ (decide (0 < q.2.2.2))).2.2.place, G.places, (Jr.checkpoint G s ⟨q.1, q.2.1, 0, q.2.2.1⟩ (decide (0 < q.2.2.2))).2.2.away⟩, q.2.2.2))
  else ((Jr.checkpoint G s ⟨q.1, q.2.1, 0, q.2.2.1⟩ (decide (0 < q.2.2.2))).1, (Jr.checkpoint G s ⟨q.1, q.2.1, 0, q.2.2.1⟩ (decide (0 < q.2.2.2))).2.1, none)
def openT (G : Geo) (s : DS) (h : Int × Int × Bool) : Int × DS × Option (JS × Int) :=
  if h.2.2 = true then openQ G s (scan G (vw s) G.places.toNat h.1 h.2.1 G.places [] 0) else (71, s, none)
section
variable {w0 w w' : World} {R : List Asn} {p d : Nat} {ps : List (Nat × List Int)} {v : JV} {s : DS} {sa : Addr}
/-- What Open answers. -/
def OpenP (w0 : World) (R : List Asn) (d : Nat) (start size : Int) (r : Int × DS × Option (JS × Int)) (e : Ending) (w' : World) : Prop :=
  (∃ J taken p v ps, r.2.2 = some (J, taken) ∧ e = .returned (.tuple #[.pointer (some ⟨p, 0, none⟩), .int .i64 taken, .int .i64 0]) ∧ v.start = start ∧ v.size = size ∧ jsOf v = J ∧ v.tx = none ∧ v.ended = false ∧ Ins v.M ps ∧
    Sep w0 w' (JBlk p d v :: MapA v.bm (vals v.M) :: PoolA ps :: DevA d r.2.1 :: R)) ∨
  (r.2.2 = none ∧ e = .returned (.tuple #[.pointer none, .int .i64 0, .int .i64 r.1]) ∧ Sep w0 w' (DevA d r.2.1 :: R))
set_option maxRecDepth 100000 in
set_option maxHeartbeats 8000000 in
theorem openj_s (hr : Rt w0) (hsn : Sen sa w0) (S : Sep w0 w (DevA d s :: R)) (start size : Int) (hG : (⟨(s.n : Int), start, size⟩ : Geo).Ok) (hB : DByte s) (hp : s.pend.length ≤ 80000) :
    Calls Tryz.prog 44 #[.pointer (some ⟨d, 0, none⟩), .int .i64 start, .int .i64 size] w (OpenP w0 R d start size (Jr.openJ ⟨(s.n : Int), start, size⟩ s)) := by
  have g0 : 0 ≤ start := hG.start0
  have g1 : 27 ≤ size := hG.size0
  have g2 : size ≤ (s.n : Int) - start := hG.fit
  have g3 : (s.n : Int) ≤ 4096 := hG.n1
  have hfit := fits_s S start size (by omega)
  have hfb : fitsB (s.n : Int) start size = true := by
    unfold fitsB
    rw [decide_eq_true g0, decide_eq_true g1, decide_eq_true g2]
    rfl
  rw [hfb] at hfit
  have hmk := @run_makeMap Tryz.prog
  have S1 := S.map_new
  have S2 : Sep w0 ((w.alloc (.map #[] 0)).alloc (.cells #[.pointer (some ⟨d, 0, none⟩), .int .i64 start, .int .i64 size, .int .i64 0, .int .i64 0, .int .i64 0, .map (some w.heap.size), .pointer none, .bool false] 115)) (JBlk (w.alloc (.map #[] 0)).heap.size d ⟨start, size, 0, 0, 0, w.heap.size, [], none, false⟩ :: MapA w.heap.size (vals []) :: DevA d s :: R) := S1.alloc _ _
  have hsz : (w.alloc (.map #[] 0)).heap.size = w.heap.size + 1 := by simp
  rw [hsz] at S2
  obtain ⟨r, hrr⟩ : ∃ r, r = Jr.openJ ⟨(s.n : Int), start, size⟩ s := ⟨_, rfl⟩
  rw [← hrr]
  have hb : 0 ≤ start ∧ start < (s.n : Int) := by omega
  have HR := Aside0.mk hrr
  have HG := Aside0.mk hG
  have HB0 := Aside0.mk hb
  clear hrr hfb hsz S1 S g0 g2 g3 hG hb
  go_enter Tryz.func44, Tryz.ntmps44
  go_wp2_with fail
  refine hfit.mono ?_
  clear hfit
  rintro _ w1 ⟨rfl, h⟩
  rw [h]
  clear h w1
  go_wp2_with fail
  clear hmk
  obtain ⟨mb, hmb⟩ : ∃ mb, mb = w.heap.size := ⟨_, rfl⟩
  obtain ⟨p, hpp⟩ : ∃ p, p = mb + 1 := ⟨_, rfl⟩
  rw [← hmb, ← hpp] at S2
  obtain ⟨w2, hw2⟩ : ∃ w2, w2 = ((w.alloc (.map #[] 0)).alloc (.cells #[.pointer (some ⟨d, 0, none⟩), .int .i64 start, .int .i64 size, .int .i64 0, .int .i64 0, .int .i64 0, .map (some mb), .pointer none, .bool false] 115)) := ⟨_, rfl⟩
  rw [← hmb, ← hpp, ← hw2]
  rw [← hw2] at S2
  clear hmb hpp hw2
  cases ho : s.off
  · have hor : r = openT ⟨(s.n : Int), start, size⟩ s (readHead (vw s start) (size - 1)) := by
      rw [HR.out]
      unfold Jr.openJ
      rw [ho, if_neg (by decide)]
      rfl
    have HOR := Aside0.mk hor
    clear hor
    refine (readB_s (S2.pull 2) ho HB0.out).mono ?_
    clear S2
    rintro _ w3 ⟨g, c, rfl, S3⟩
    go_wp2_with fail
    have hsz0 : 0 ≤ size := by omega
    have hG := HG.out
    have g2 : size ≤ (s.n : Int) - start := hG.fit
    have g3 : (s.n : Int) ≤ 4096 := hG.n1
    have g0 : 0 ≤ start := hG.start0
    have hsz1 : size ≤ 4096 := by omega
    clear g2 g3 g0 hG
    refine (places_s (S3.pull 2) hsz0 hsz1).mono ?_
    rintro _ w4 ⟨rfl, h⟩
    rw [h]
    clear h w4
    go_wp2_with fail
    refine (readHead_s hr hsn S3 (vw_byte hB _) (size - 1) (by omega) (by omega)).mono ?_
    clear S3
    rintro _ w5 ⟨rfl, S⟩
    have hin := readHead_in (vw_byte hB start) (places := size - 1) (by omega)
    obtain ⟨hd, hhd⟩ : ∃ hd, hd = readHead (vw s start) (size - 1) := ⟨_, rfl⟩
    rw [← hhd] at hin HOR ⊢
    clear hhd HR
    have f3 := (S.pull 2).free 3
    have S6 := (S.pull 2).set 3 (.int .i64 hd.1)
    have f4 := S6.free 4
    have S7 : Sep w0 ((w5.setCell ⟨p, 3, none⟩ (.int .i64 hd.1)).setCell ⟨p, 4, none⟩ (.int .i64 hd.2.1)) (JBlk p d ⟨start, size, hd.1, hd.2.1, 0, mb, [], none, false⟩ :: Byt (some ⟨g, 0, none⟩) 512 c (vw s start) :: DevA d s :: MapA mb (vals []) :: R) := S6.set 4 (.int .i64 hd.2.1)
    have k3 := (S.pull 2).cell 3 (v := .int .i64 0) rfl
    have k4 := S6.cell 4 (v := .int .i64 0) rfl
    have HIN := Aside0.mk hin
    have HS7 := Aside0.mk S7
    clear S S6 S7 hin
    cases hk : hd.2.2
    · have hor := HOR.out
      unfold openT at hor
      rw [hk, if_neg (by decide)] at hor
      subst hor
      clear HOR HIN
      go_wp2_with fail
      go_ret3
      exact .inr ⟨rfl, rfl, (HS7.out.drop.drop).swap.drop⟩
    · have hor := HOR.out
      unfold openT at hor
      rw [hk, if_pos rfl] at hor
      obtain ⟨hi1, hi2, hi3, hi4⟩ := HIN.out hk
      have HOR2 := Aside0.mk hor
      clear HOR HIN hk hor
      go_wp2_with fail
      have S := HS7.out
      obtain ⟨W, hW⟩ : ∃ W, W = ((w5.setCell ⟨p, 3, none⟩ (.int .i64 hd.1)).setCell ⟨p, 4, none⟩ (.int .i64 hd.2.1)) := ⟨_, rfl⟩
      rw [← hW] at S ⊢
      clear hW HS7 f3 f4 k3 k4
      refine (places_s S hsz0 hsz1).mono ?_
      rintro _ w6 ⟨rfl, h⟩
      rw [h]
      clear h w6
      have S : Sep w0 W (JBlk p d (OV start size hd.1 hd.2.1 mb []) :: MapA mb (vals []) :: PoolA [] :: DevA d s :: R) := (((((S.pull 1).drop).pull 2).pool_nil).pull 1).pull 2
      obtain ⟨G, hGd⟩ : ∃ G, G = (⟨(s.n : Int), start, size⟩ : Geo) := ⟨_, rfl⟩
      rw [← hGd] at HG HOR2
      have hpl : G.places = size - 1 := by rw [hGd]; rfl
      have hgeo : ∀ seq place M, (OV start size seq place mb M).geo s = G := fun seq place M => hGd.symm
      obtain ⟨Q, hQ⟩ : ∃ Q, Q = scan G (vw s) G.places.toNat hd.1 hd.2.1 G.places [] 0 := ⟨_, rfl⟩
      rw [← hQ] at HOR2
      have hinv : OInv G (vw s) Q G.places.toNat hd.1 hd.2.1 (size - 1) 0 [] [] := ⟨by rw [hQ, hpl]; rfl, by omega, by omega, by omega, by omega, by show ((0 : Nat) : Int) + _ ≤ _; omega, (fun x hx => by cases hx), by omega, by omega, by omega, by omega, fun x hx => by cases hx⟩
      have HIV := Aside0.mk hinv
      have HGE := Aside0.mk hgeo
      have HPL := Aside0.mk hpl
      have HHI := Aside0.mk (And.intro hi1 (And.intro hi2 (And.intro hi3 hi4)))
      clear hinv hQ hGd hgeo hpl hi1 hi2 hi3 hi4
      go_upto_block 0 with fail
      go_cut [13, 14] (fun a b wx => ∃ seq place taken M ps left, a = .int .i64 taken ∧ b = .int .i64 left ∧ Aside0 (OEnd Q seq place taken M ps) ∧ Sep w0 wx (JBlk p d (OV start size seq place mb M) :: MapA mb (vals M) :: PoolA ps :: DevA d s :: R))
      case first =>
        go_wp2_with fail
        go_loopw [13, 14] (fun a b wr => ∃ (f : Nat) (seq place left taken : Int) (M : MV) (ps : List (Nat × List Int)), a = .int .i64 taken ∧ b = .int .i64 left ∧ Aside0 (OInv G (vw s) Q f seq place left taken M ps) ∧ Sep w0 wr (JBlk p d (OV start size seq place mb M) :: MapA mb (vals M) :: PoolA ps :: DevA d s :: R)) (fun _ b _ => (intOf b).toNat)
        case atStart => exact ⟨_, _, _, _, _, _, _, rfl, rfl, HIV, S⟩
        case round =>
          clear S HIV
          obtain ⟨f, seq, place, left, taken, M, ps, rfl, rfl, HI, S⟩ := hrel
          have k3 := S.cell 3 (v := .int .i64 seq) rfl
          by_cases c1 : seq ≤ 4611686018427387904
          · by_cases c2 : left ≥ 3
            · go_wp2_with fail
              have h0 := HI.out.p0
              have h1 := HI.out.p1
              refine (found_s hr hsn (((S.pull 2).pull 3).pull 2) (by rw [HGE.out]; exact HG.out) ho hB ⟨h0, h1⟩ left).mono ?_
              rintro e w7 ⟨m, qs, rfl, hsub, hfo⟩
              rw [HGE.out] at hfo ⊢
              obtain ⟨rf, hrf⟩ : ∃ rf, rf = Jr.found G (vw s) place seq left := ⟨_, rfl⟩
              have hrf2 : Jr.found G (vw s) (OV start size seq place mb M).place (OV start size seq place mb M).seq left = rf := hrf.symm
              rw [hrf2] at hfo ⊢
              clear hrf2 k3 S
              rcases hfo with ⟨rfl, S⟩ | ⟨b, N, rfl, hf1, hIN, S⟩
              · simp only [Option.isSome_none]
                have HEq := HI.out.none hrf.symm
                have HE : Aside0 (OEnd Q seq place taken M qs) := ⟨⟨HEq.is, HEq.t0, HEq.t1, HEq.ml, HEq.key, fun x hx => hsub _ (HEq.ins x hx)⟩⟩
                clear HEq hrf HI hsub
                go_wp2_with fail
                go_meet
                case rel => exact ⟨_, _, _, _, _, _, rfl, rfl, HE, (((S.pull 2).pull 3).pull 2)⟩
              · subst hf1
                simp only [Option.isSome_some]
                have HRF := Aside0.mk hrf.symm
                have HSU := Aside0.mk hsub
                have HIN := Aside0.mk hIN
                clear hrf hsub hIN
                have hupN : SM.Up N := up_of_vals S.map.up
                have hupM : SM.Up M := up_of_vals (S.pull 4).map.up
                have hIM : Ins M qs := fun x hx => HSU.out _ (HI.out.ins x hx)
                have hvl : (vals N).length = N.length := SM.len_on _ _
                have HUPN := Aside0.mk hupN
                have HUPM := Aside0.mk hupM
                have HIM := Aside0.mk hIM
                have HVL := Aside0.mk hvl
                have hN2 := HI.out.step HG.out ⟨c1, c2⟩ HRF.out HIN.out HSU.out
                have hl2 : (N.length : Int) + 2 ≤ left := by
                  have h := (found_out HRF.out).1
                  have h2 : (dat N).length = N.length := SM.len_on _ _
                  rw [h2] at h
                  exact h
                have hl3 := HI.out.tl
                have hl4 := HI.out.t0
                have hs0 := HI.out.s0
                have HN2 := Aside0.mk hN2
                clear hupN hupM hIM hvl hN2 HI HRF HSU
                go_wp2_with (first | (at_range; refine range_m S rfl (.tmp 83) rfl Tryz.underlying113 rfl ?_; intro w8 S8))
                go_frame
                obtain ⟨rr, hrr⟩ : ∃ rr, rr = w7.heap.size := ⟨_, rfl⟩
                rw [← hrr] at S8 ⊢
                clear S hrr
                go_loopw [18] (fun _ wr => ∃ (X : MV) (lf : Int → Bool) (cnt : Nat), Aside0 (SM.Up X ∧ Ins X qs ∧ ∀ k, SM.lkp X k = if lf k = true then SM.lkp M k else (SM.lkp N k).or (SM.lkp M k)) ∧ Sep w0 wr (RngA b rr (vals N) lf cnt :: MapA mb (vals X) :: JBlk p d (OV start size seq place mb M) :: PoolA qs :: DevA d s :: R)) (fun _ wr => wr.rangeLeft b rr)
                case atStart =>
                  refine ⟨M, _, _, ⟨HUPM.out, HIM.out, fun k => ?_⟩, ((((S8.pull 3).pull 2).pull 4).pull 3)⟩
                  rw [vals_look]
                  cases h : SM.lkp N k <;> simp
                case round =>
                  clear S8
                  obtain ⟨X, lf, cnt, HX, S⟩ := hrel
                  have hml := S.rng.left_eq
                  go_wp2_with (first | (at_next; refine next_m S rfl (.tmp 84) rfl rfl ?_ ?_))
                  · intro hz hl0
                    have hXe : X = SM.over M N := SM.ext HX.out.1 (SM.Up.over HUPM.out N) fun k => by
                      rw [HX.out.2.2 k, SM.look_over _ _ HUPN.out, hl0 k]
                      rfl
                    subst hXe
                    have S := S.rng_end
                    clear hl0 hml hz HX
                    obtain ⟨X, hX⟩ : ∃ X, X = SM.over M N := ⟨_, rfl⟩
                    obtain ⟨f', hN2⟩ := HN2.out
                    rw [HPL.out] at hN2
                    rw [← hX] at S hN2
                    have HN3 := Aside0.mk hN2
                    clear hX hN2 HN2 HIN HUPN HUPM HIM
                    have hlen := fun ty => S.map.len (P := Tryz.prog) Tryz.underlying113 ty
                    have hlen2 := fun ty => S.drew.map.len (P := Tryz.prog) Tryz.underlying113 ty
                    rw [HVL.out] at hlen hlen2
                    have k4 := (S.pull 2).cell 4 (v := .int .i64 place) rfl
                    have f4 := (S.pull 2).free 4
                    have hw1 : IntKind.i64.wrap ((N.length : Int) + 2) = (N.length : Int) + 2 := by rw [IntKind.wrap_i64]; omega
                    have hw2 : IntKind.i64.wrap (left - ((N.length : Int) + 2)) = left - ((N.length : Int) + 2) := by rw [IntKind.wrap_i64]; omega
                    have hw3 : IntKind.i64.wrap (place + (N.length : Int)) = place + (N.length : Int) := by rw [IntKind.wrap_i64]; omega
                    have hw4 : IntKind.i64.wrap (place + (N.length : Int) + 2) = place + (N.length : Int) + 2 := by rw [IntKind.wrap_i64]; omega
                    have hm0 := Int.emod_nonneg (place + (N.length : Int) + 2) (show size - 1 ≠ 0 by omega)
                    have hm1 := Int.emod_lt_of_pos (place + (N.length : Int) + 2) (show 0 < size - 1 by omega)
                    have hw5 : IntKind.i64.wrap ((place + (N.length : Int) + 2).tmod (size - 1)) = (place + (N.length : Int) + 2) % (size - 1) := by
                      rw [Int.tmod_eq_emod_of_nonneg (by omega), IntKind.wrap_i64]
                      omega
                    have hne : ¬ size - 1 = 0 := by omega
                    have hpc : Calls Tryz.prog 68 #[.pointer (some ⟨p, 0, none⟩)] wr.drew fun e w' => e = .returned (.int .i64 (size - 1)) ∧ w' = wr.drew := places_s (S.pull 2).drew hsz0 hsz1
                    have k3 := (S.pull 2).cell 3 (v := .int .i64 seq) rfl
                    have f3 := (S.pull 2).free 3
                    have hw6 : IntKind.i64.wrap (seq + 1) = seq + 1 := by rw [IntKind.wrap_i64]; omega
                    have hw7 : IntKind.i64.wrap (taken + 1) = taken + 1 := by rw [IntKind.wrap_i64]; omega
                    have SB : Sep w0 (((wr.setCell ⟨p, 4, none⟩ (.int .i64 ((place + (N.length : Int) + 2) % (size - 1)))).setCell ⟨p, 3, none⟩ (.int .i64 (seq + 1))).drew) (JBlk p d (OV start size (seq + 1) ((place + (N.length : Int) + 2) % (size - 1)) mb M) :: MapA b (vals N) :: MapA mb (vals X) :: PoolA qs :: DevA d s :: R) := (((S.pull 2).set 4 (.int .i64 ((place + (N.length : Int) + 2) % (size - 1)))).set 3 (.int .i64 (seq + 1))).drew
                    have HSB := Aside0.mk (SB.pull 1).drop
                    clear S SB hm0 hm1
                    go_wp2_with fail
                    clear hlen
                    go_still_tail 14, (by kernel_rfl)
                    still_call hpc
                    repeat still_step
                    refine wpStill_nil ?_
                    change wpList _ _ _ _ _ wr.drew
                    go_wp2_with fail
                    refine ⟨⟨f', _, _, _, _, X, qs, rfl, rfl, HN3, HSB.out⟩, by simp [intOf]; omega⟩
                  · intro y v2 w2 cnt2 hv hly hwf S2 hlt hen
                    rw [vals_look] at hv
                    obtain ⟨x, hx, rfl⟩ := Option.map_eq_some_iff.1 hv
                    obtain ⟨w5, hst, S5⟩ := (S2.pull 1).store_eq (P := Tryz.prog) Tryz.underlying113 Tryz.underlying3 hwf (rowV x.1)
                    have k6 := (S2.pull 2).cell 6 (v := .map (some mb)) rfl
                    have eX : SM.ins (vals X) y (rowV x.1) = vals (SM.ins X y x) := (SM.ins_on (fun x : Nat × List Int => rowV x.1) X y x).symm
                    rw [eX] at S5
                    have HS5 := Aside0.mk S5
                    have HV := Aside0.mk hx
                    have hle := S5.swap.rng.left_eq
                    clear S S2 S5 hv hx eX
                    go_wp2_with fail
                    refine ⟨⟨SM.ins X y x, fun z => lf z && !decide (z = y), cnt2, ⟨HX.out.1.ins y x, HX.out.2.1.ins y x (HIN.out _ (SM.look_mem HV.out)), fun k => ?_⟩, HS5.out.swap⟩, by rw [hle, hml]; exact hlt⟩
                    rw [SM.look_ins]
                    by_cases e : k = y
                    · subst e
                      simp [HV.out]
                    · rw [if_neg e, HX.out.2.2 k]
                      simp [e]
            · have HE := Aside0.mk (HI.out.stop fun q => c2 q.2)
              go_wp2_with fail
              go_meet
              case rel => exact ⟨_, _, _, _, _, _, rfl, rfl, HE, S⟩
          · have HE := Aside0.mk (HI.out.stop fun q => c1 q.1)
            go_wp2_with fail
            go_meet
            case rel => exact ⟨_, _, _, _, _, _, rfl, rfl, HE, S⟩
      case rest =>
      obtain ⟨seq, place, taken, M, ps, left, rfl, rfl, HE, S⟩ := hcut
      clear HIV
      have hQ := HE.out.is
      have hr2 := HOR2.out
      rw [hQ] at hr2
      have HR2 := Aside0.mk hr2
      clear hQ hr2 HOR2
      obtain ⟨also, hal⟩ : ∃ also, also = decide (0 < taken) := ⟨_, rfl⟩
      have hgv := cpV_geo (OV start size seq place mb M) s s also
      have hjs := cpV_js2 (OV start size seq place mb M) s also
      have hcp := checkpoint_s S HE.out.ins (by rw [HGE.out]; exact HG.out) (by omega) (show M.length ≤ 100000 by
        have := HE.out.ml
        omega) HE.out.key also
      rw [HGE.out] at hcp hjs
      have hr2 := HR2.out
      unfold openQ at hr2
      dsimp only at hr2
      rw [← hal] at hr2
      obtain ⟨c, hc⟩ : ∃ c, c = Jr.checkpoint G s ⟨seq, place, 0, dat M⟩ also := ⟨_, rfl⟩
      rw [← hc] at hr2
      have hjs2 : c.2.2 = jsOf (cpV (OV start size seq place mb M) s also) := by rw [hc]; exact hjs
      obtain ⟨v', hv'⟩ : ∃ v', v' = cpV (OV start size seq place mb M) s also := ⟨_, rfl⟩
      have hcp2 : Calls Tryz.prog 85 #[.pointer (some ⟨p, 0, none⟩), .bool also] wc fun e w' => ∃ what, e = .returned (errV what c.1) ∧ Sep w0 w' (JBlk p d v' :: MapA mb (vals v'.M) :: PoolA ps :: DevA d c.2.1 :: R) := by rw [hc, hv']; exact hcp
      rw [← hv'] at hgv hjs2
      have hbm : v'.bm = mb := hgv.2.2.2.2.2.1
      have hsz' : v'.size = size := hgv.2.2.1
      have hst' : v'.start = start := hgv.2.1
      have hIv : Ins v'.M ps := by
        rcases hgv.2.2.2.2.2.2.2.2 with h | h
        · rw [h]
          exact HE.out.ins
        · rw [h]
          exact fun x hx => by cases hx
      have HV := Aside0.mk (And.intro hbm (And.intro hst' (And.intro (show v'.tx = none from hgv.2.2.2.2.2.2.1) (And.intro (show v'.ended = false from hgv.2.2.2.2.2.2.2.1) (And.intro hIv hjs2)))))
      have HR3 := Aside0.mk hr2
      have HSZ := Aside0.mk hsz'
      clear hgv hjs hcp hr2 HR2 hc hjs2 hv' hbm hst' hIv hsz' S HE
      go_wp2_with fail
      rw [← hal]
      refine hcp2.mono ?_
      clear hcp2 hal
      rintro _ w7 ⟨what, rfl, S⟩
      by_cases hc0 : c.1 = 0
      · rw [errV_0 _ hc0]
        have hr3 := HR3.out
        rw [if_pos hc0] at hr3
        have HR4 := Aside0.mk hr3
        clear hr3 HR3 hc0
        have k5 := S.cell 5 (v := .int .i64 v'.free) rfl
        have f5 := S.free 5
        have hpc := places_s S (by rw [HSZ.out]; exact hsz0) (by rw [HSZ.out]; exact hsz1)
        rw [HSZ.out] at hpc
        have S5 : Sep w0 (w7.setCell ⟨p, 5, none⟩ (.int .i64 (size - 1))) (JBlk p d { v' with free := size - 1 } :: MapA mb (vals v'.M) :: PoolA ps :: DevA d c.2.1 :: R) := S.set 5 (.int .i64 (size - 1))
        have HS5 := Aside0.mk S5
        clear S S5
        go_wp2_with (first | (go_at_call 68; refine hpc.mono ?_; rintro _ _ ⟨rfl, rfl⟩))
        go_ret3
        obtain ⟨hbm, hst', htx, hen, hIv, hjs⟩ := HV.out
        have S5 := HS5.out
        rw [← hbm] at S5
        rw [HR4.out]
        refine .inl ⟨_, taken, p, { v' with free := size - 1 }, ps, rfl, rfl, hst', HSZ.out, ?_, htx, hen, hIv, S5⟩
        rw [hjs, HPL.out]
      · rw [errV_1 _ hc0]
        have hr3 := HR3.out
        rw [if_neg hc0] at hr3
        have HR4 := Aside0.mk hr3
        have hcd := code_s hr S what c.1
        rw [errV_1 _ hc0] at hcd
        clear hr3 HR3 hc0 S
        go_wp2_with fail
        refine hcd.mono ?_
        clear hcd
        rintro _ w8 ⟨rfl, S⟩
        have HS8 := Aside0.mk S.drop.drop.drop
        clear S
        go_wp2_with fail
        go_ret3
        rw [HR4.out]
        exact .inr ⟨rfl, rfl, HS8.out⟩
  · have hrd : s.read start = ([], 3) := by
      unfold DS.read
      rw [if_pos (hasB_iff.2 HB0.out), ho, if_pos rfl]
    have hor : r = (3, s, none) := by
      rw [HR.out]
      unfold Jr.openJ
      rw [if_pos ho]
    subst hor
    have P := read_s (S2.pull 2) start
    rw [hrd] at P
    refine P.mono ?_
    clear P S2 hrd HR
    rintro _ w3 ⟨A, c, rfl, S3⟩
    have HS := Aside0.mk S3.drop.swap.drop.swap.drop
    clear S3
    go_wp2_with fail
    go_ret3
    exact .inr ⟨rfl, rfl, HS.out⟩
end
end Go.Proofs.YtlhlmjkocmahmaaGreatDoor.Sep
