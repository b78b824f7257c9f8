/- town: a journal formatted on a new device. -/
import Derived.Test.YtmafafingdpopaaGreatDoorMA14
import Derived.Test.YtmafafingdpopaaGreatDoorMA8
import Derived.Test.YtmafafingdpopaaGreatDoorMA3
import Derived.Deep.RegionLaw
namespace Go.Proofs.YtmafafingdpopaaGreatDoor.Sep
open Go.Proofs Go.RowKit Go.ChangeMaps Go.Proofs.YtmafafingdpopaaGreatDoorW.PrintWords Go.Proofs.YtmafafingdpopaaGreatDoorW.PrintLast Go.Proofs.YtmafafingdpopaaGreatDoorW.PrintMore Go.Proofs.YtmafafingdpopaaGreatDoor.Dev Go.Proofs.YtmafafingdpopaaGreatDoor.Errs Go.Proofs.YtmafafingdpopaaGreatDoor.Jr Go.Proofs.YtmafafingdpopaaGreatDoor.Help Go.Proofs.YtmafafingdpopaaGreatDoor.IMap
set_option linter.unusedVariables false
set_option linter.unusedSimpArgs false
section
variable {w0 w w' : World} {R : List Asn} {p d : Nat} {ps : List (Nat × List Int)} {v : JV} {s : DS} {sa : Addr} {G : Geo} {T : Tn} {W : Int → List Int} {hs : List VB}
/-- A new town. -/
def TownP (w0 : World) (R : List Asn) (e : Ending) (w' : World) : Prop :=
  ∃ (T : Tn) (s : DS) (G : Geo) (hs : List VB), e = .returned (.tuple #[.pointer (some ⟨T.tp, 0, none⟩), .bool true]) ∧ Calm G s zeroW ∧ Holds G T zeroW ∧ (∀ x ∈ T.ws, x ∈ hs) ∧ Sep w0 w' (TownA T :: DevA T.d s :: HeldA hs :: R)
structure GoodArgs (n start size : Int) : Prop where
  n0 : 30 ≤ n
  n1 : n ≤ 200
  s0 : 0 ≤ start
  z0 : 27 ≤ size
  z1 : size ≤ n - 1
  s1 : start ≤ n - size
/-- The blocks outside, below j. -/
def outsTo (start size : Int) : Nat → List Int
  | 0 => []
  | j + 1 => if (j : Int) < start ∨ (j : Int) ≥ start + size then outsTo start size j ++ [(j : Int)] else outsTo start size j
theorem outsTo_in {start size : Int} : ∀ {j : Nat} {b : Int}, b ∈ outsTo start size j → 0 ≤ b ∧ b < (j : Int) ∧ (b < start ∨ b ≥ start + size)
  | 0, b, h => by cases h
  | j + 1, b, h => by
    unfold outsTo at h
    split at h
    · rename_i hc
      rcases List.mem_append.1 h with q | q
      · have := outsTo_in q
        omega
      · rw [List.mem_singleton.1 q]
        omega
    · have := outsTo_in h
      omega
theorem outsTo_nodup {start size : Int} : ∀ (j : Nat), (outsTo start size j).Nodup
  | 0 => List.nodup_nil
  | j + 1 => by
    unfold outsTo
    split
    · refine List.nodup_append.2 ⟨outsTo_nodup j, List.nodup_cons.2 ⟨List.not_mem_nil, List.nodup_nil⟩, fun a ha b hb => ?_⟩
      rw [List.mem_singleton.1 hb]
      have := outsTo_in ha
      omega
    · exact outsTo_nodup j
theorem outsTo_len {start size : Int} : ∀ (j : Nat), (outsTo start size j).length ≤ j
  | 0 => Nat.le_refl _
  | j + 1 => by
    have h := outsTo_len (start := start) (size := size) j
    unfold outsTo
    split
    · rw [List.length_append, List.length_singleton]
      omega
    · omega
theorem outsTo_mem {start size : Int} : ∀ {j : Nat} {i : Nat}, i < j → ((i : Int) < start ∨ (i : Int) ≥ start + size) → (i : Int) ∈ outsTo start size j
  | 0, i, h, _ => by omega
  | j + 1, i, h, hc => by
    unfold outsTo
    by_cases e : i = j
    · subst e
      rw [if_pos hc]
      simp
    · have ih := outsTo_mem (start := start) (size := size) (j := j) (i := i) (by omega) hc
      split
      · exact List.mem_append_left _ ih
      · exact ih
theorem town_holds {n : Nat} {start size : Int} (g : GoodArgs (n : Int) start size) {ws : List VB} (hl : ws.length = (outsTo start size n).length) (hz : ∀ x ∈ ws, x.2 = List.replicate 512 0) (tp d : Nat) (vo vw : Value) :
    Holds ⟨(n : Int), start, size⟩ ⟨tp, d, start, size, vo, vw, outsTo start size n, ws⟩ zeroW := by
  have g0 := g.n0
  have g1 := g.n1
  have g2 := g.s0
  have g3 := g.z0
  have g4 := g.z1
  have g5 := g.s1
  refine ⟨hl, fun b hb => ?_, outsTo_nodup n, ?_, ?_, fun i hi => ?_, rfl, rfl⟩
  · have h := outsTo_in hb
    unfold Geo.out
    simp
    omega
  · show 0 < (outsTo start size n).length
    by_cases hs : 0 < start
    · have hm : ((0 : Nat) : Int) ∈ outsTo start size n := outsTo_mem (by omega) (.inl (by omega))
      exact List.length_pos_of_mem hm
    · have hm : ((n - 1 : Nat) : Int) ∈ outsTo start size n := outsTo_mem (by omega) (.inr (by omega))
      exact List.length_pos_of_mem hm
  · have := outsTo_len (start := start) (size := size) n
    show (outsTo start size n).length ≤ 200
    omega
  · have hi : i < (outsTo start size n).length := hi
    have h := outsTo_in (List.getElem_mem hi)
    show (ws[i]'(by omega)).2 = zeroW ((outsTo start size n)[i])
    rw [hz _ (List.getElem_mem _)]
    unfold zeroW
    rw [if_neg (by omega)]
theorem town_calm {n : Nat} {start size : Int} (g : GoodArgs (n : Int) start size) :
    (formatP (DS.made (List.replicate (512 * n) 0)) start size).1 = 0 ∧ Calm ⟨(n : Int), start, size⟩ (formatP (DS.made (List.replicate (512 * n) 0)) start size).2 zeroW := by
  have g0 := g.n0
  have g1 := g.n1
  have g2 := g.s0
  have g3 := g.z0
  have g4 := g.z1
  have g5 := g.s1
  have hn : (DS.made (List.replicate (512 * n) 0)).n = n := by
    show (List.replicate (512 * n) (0 : Int)).length / 512 = n
    rw [List.length_replicate]
    omega
  have hok : (DS.made (List.replicate (512 * n) 0)).Ok := made_ok (by omega) (by omega) (List.length_replicate ..)
  have hG : (⟨(n : Int), start, size⟩ : Geo).Ok := ⟨g2, g3, by show size ≤ (n : Int) - start; omega, by show (n : Int) ≤ 4096; omega⟩
  have hfb : fitsB ((DS.made (List.replicate (512 * n) 0)).n : Int) start size = true := by
    unfold fitsB
    rw [hn, decide_eq_true g2, decide_eq_true g3, decide_eq_true (show size ≤ (n : Int) - start by omega)]
    rfl
  have h := format_new (G := ⟨(n : Int), start, size⟩) (s := DS.made (List.replicate (512 * n) 0)) hG (by rw [hn]) (by rw [hn]) hok
  have e : formatP (DS.made (List.replicate (512 * n) 0)) start size = Jr.format ⟨(n : Int), start, size⟩ (DS.made (List.replicate (512 * n) 0)) := by
    unfold formatP
    rw [if_pos hfb, hn]
  rw [e]
  exact ⟨h.1, h.2.2.1, h.2.2.2.1, h.2.2.2.2.1, h.2.1, 1, 0, [], h.2.2.2.2.2⟩
set_option maxRecDepth 100000 in
set_option maxHeartbeats 16000000 in
theorem town_s (hr : Rt w0) (S : Sep w0 w R) (n start size : Int) :
    Calls Tryz.prog 13 #[.int .i64 n, .int .i64 start, .int .i64 size] w (TownP w0 R) := by
  go_enter Tryz.func13, Tryz.ntmps13
  go_upto_region 1 with fail
  go_cut [37] (fun u wx => ∃ bad : Bool, u = .bool bad ∧ (bad = false → GoodArgs n start size) ∧ wx = w)
  case first =>
    by_cases a0 : n < 30
    · have b0 : decide (n < 30) = true := decide_eq_true a0
      go_wp2_with fail
      go_meet
      case rel => exact ⟨true, rfl, (fun h => by cases h), rfl⟩
    have b0 : decide (n < 30) = false := decide_eq_false a0
    by_cases a1 : n > 200
    · have b1 : decide (200 < n) = true := decide_eq_true a1
      go_wp2_with fail
      go_meet
      case rel => exact ⟨true, rfl, (fun h => by cases h), rfl⟩
    have b1 : decide (200 < n) = false := decide_eq_false a1
    by_cases a2 : start < 0
    · have b2 : decide (start < 0) = true := decide_eq_true a2
      go_wp2_with fail
      go_meet
      case rel => exact ⟨true, rfl, (fun h => by cases h), rfl⟩
    have b2 : decide (start < 0) = false := decide_eq_false a2
    by_cases a3 : size < 27
    · have b3 : decide (size < 27) = true := decide_eq_true a3
      go_wp2_with fail
      go_meet
      case rel => exact ⟨true, rfl, (fun h => by cases h), rfl⟩
    have b3 : decide (size < 27) = false := decide_eq_false a3
    have hw1 : IntKind.i64.wrap (n - 1) = n - 1 := by rw [IntKind.wrap_i64]; omega
    by_cases a4 : size > n - 1
    · have b4 : decide (n - 1 < size) = true := decide_eq_true a4
      go_wp2_with fail
      go_meet
      case rel => exact ⟨true, rfl, (fun h => by cases h), rfl⟩
    have b4 : decide (n - 1 < size) = false := decide_eq_false a4
    have hw2 : IntKind.i64.wrap (n - size) = n - size := by rw [IntKind.wrap_i64]; omega
    by_cases a5 : start > n - size
    · have b5 : decide (n - size < start) = true := decide_eq_true a5
      go_wp2_with fail
      go_meet
      case rel => exact ⟨true, rfl, (fun h => by cases h), rfl⟩
    have b5 : decide (n - size < start) = false := decide_eq_false a5
    have hg : GoodArgs n start size := ⟨by omega, by omega, by omega, by omega, by omega, by omega⟩
    have HG := Aside0.mk hg
    clear hg
    go_wp2_with fail
    go_meet
    case rel => exact ⟨false, rfl, fun _ => HG.out, rfl⟩
  case rest =>
  obtain ⟨bad, rfl, hbad, rfl⟩ := hcut
  have HB := Aside0.mk hbad
  clear hbad
  go_upto_if 37 with fail
  go_cut [0, 1, 2] (fun a b c wx => ∃ n' start' size', a = .int .i64 n' ∧ b = .int .i64 start' ∧ c = .int .i64 size' ∧ GoodArgs n' start' size' ∧ Sep w0 wx R)
  case first =>
    cases bad
    · go_wp2_with fail
      go_meet
      case rel => exact ⟨n, start, size, rfl, rfl, rfl, HB.out (by simp), S⟩
    · go_wp2_with fail
      go_meet
      case rel => exact ⟨40, 2, 30, rfl, rfl, rfl, ⟨by decide, by decide, by decide, by decide, by decide, by decide⟩, S⟩
  case rest =>
  obtain ⟨n', start', size', rfl, rfl, rfl, g, S2⟩ := hcut
  clear HB S
  have S := S2
  clear S2
  obtain ⟨N, rfl⟩ : ∃ N : Nat, n' = (N : Int) := ⟨n'.toNat, by have := g.n0; omega⟩
  have hN0 : 30 ≤ N := by have := g.n0; omega
  have hN1 : N ≤ 200 := by have := g.n1; omega
  have hs0 := g.s0
  have hz0 := g.z0
  have hz1 := g.z1
  have hs1 := g.s1
  have HG := Aside0.mk g
  clear g
  have hnw := new_s S N (by omega) (by omega)
  clear S
  go_wp2_with fail
  refine hnw.mono ?_
  clear hnw
  rintro _ w2 ⟨dv, rfl, S⟩
  have S1 := S.alloc #[.pointer (some ⟨dv, 0, none⟩), .int .i64 start', .int .i64 size', .slice none 0 0, .slice none 0 0] 47
  obtain ⟨tp, htp⟩ : ∃ tp, tp = w2.heap.size := ⟨_, rfl⟩
  obtain ⟨W3, hW3⟩ : ∃ W3, W3 = w2.alloc (.cells #[.pointer (some ⟨dv, 0, none⟩), .int .i64 start', .int .i64 size', .slice none 0 0, .slice none 0 0] 47) := ⟨_, rfl⟩
  rw [← htp, ← hW3] at S1
  have c0 := S1.cell 0 (v := .pointer (some ⟨dv, 0, none⟩)) rfl
  obtain ⟨hf1, hf2⟩ := town_calm HG.out
  have hfm := format_s hr (S1.pull 1) start' size' (by omega) (Nat.zero_le _)
  rw [hf1] at hfm
  have HCA := Aside0.mk hf2
  obtain ⟨sd, hsd⟩ : ∃ sd, sd = (formatP (DS.made (List.replicate (512 * N) 0)) start' size').2 := ⟨_, rfl⟩
  rw [← hsd] at hfm HCA
  clear S S1 hf1 hf2 hsd
  go_upto_region 6 with fail
  rw [← htp, ← hW3]
  clear htp hW3
  go_wp2_with fail
  refine hfm.mono ?_
  clear hfm c0
  rintro _ w4 ⟨rfl, S⟩
  go_upto_block 0 with fail
  go_cut [10] (fun _ wx => ∃ (vo vw : Value) (ws : List VB), Aside0 (ws.length = (outsTo start' size' N).length ∧ ∀ x ∈ ws, x.2 = List.replicate 512 0) ∧ Sep w0 wx (Blk tp #[.pointer (some ⟨dv, 0, none⟩), .int .i64 start', .int .i64 size', vo, vw] 47 :: Own 3 1 vo (outsTo start' size' N).length (nums .i64 (outsTo start' size' N)) :: Own 39 1 vw ws.length (ws.map (·.1)) :: HeldA ws :: DevA dv sd :: R))
  case first =>
    go_wp2_with fail
    go_loopw [10] (fun iv wr => ∃ (j : Nat) (vo vw : Value) (ws : List VB), j ≤ N ∧ iv = .int .i64 (j : Int) ∧ Aside0 (ws.length = (outsTo start' size' j).length ∧ ∀ x ∈ ws, x.2 = List.replicate 512 0) ∧ Sep w0 wr (Blk tp #[.pointer (some ⟨dv, 0, none⟩), .int .i64 start', .int .i64 size', vo, vw] 47 :: Own 3 1 vo (outsTo start' size' j).length (nums .i64 (outsTo start' size' j)) :: Own 39 1 vw ws.length (ws.map (·.1)) :: HeldA ws :: DevA dv sd :: R)) (fun i _ => (N - intOf i).toNat)
    case atStart =>
      exact ⟨0, .slice none 0 0, .slice none 0 0, [], Nat.zero_le _, rfl, ⟨rfl, fun x hx => by cases hx⟩, (((S.held_nil).nils 39 1).nils 3 1).pull 4⟩
    case round =>
      clear S
      obtain ⟨j, vo, vw, ws, hj, rfl, HW, S⟩ := hrel
      have hol := outsTo_len (start := start') (size := size') j
      have hwl := HW.out.1
      by_cases hjN : j < N
      · have hlt : (j : Int) < (N : Int) := by omega
        have hw1 : IntKind.i64.wrap (start' + size') = start' + size' := by rw [IntKind.wrap_i64]; omega
        go_upto_region 12 with fail
        go_cut [70] (fun u wx => u = .bool (decide ((j : Int) < start' ∨ (j : Int) ≥ start' + size')) ∧ wx = wr)
        case first =>
          by_cases a1 : (j : Int) < start'
          · have b1 : decide ((j : Int) < start') = true := decide_eq_true a1
            have HQ := Aside0.mk a1
            go_wp2_with fail
            go_meet
            case rel => exact ⟨by rw [decide_eq_true (.inl HQ.out)], rfl⟩
          · have b1 : decide ((j : Int) < start') = false := decide_eq_false a1
            by_cases a2 : (j : Int) ≥ start' + size'
            · have b2 : decide (start' + size' ≤ (j : Int)) = true := decide_eq_true a2
              have HQ := Aside0.mk a2
              go_wp2_with fail
              go_meet
              case rel => exact ⟨by rw [decide_eq_true (.inr HQ.out)], rfl⟩
            · have b2 : decide (start' + size' ≤ (j : Int)) = false := decide_eq_false a2
              have HQ := Aside0.mk (show ¬ ((j : Int) < start' ∨ (j : Int) ≥ start' + size') by omega)
              go_wp2_with fail
              go_meet
              case rel => exact ⟨by rw [decide_eq_false HQ.out], rfl⟩
        case rest =>
        obtain ⟨rfl, rfl⟩ := hcut
        by_cases hin : (j : Int) < start' ∨ (j : Int) ≥ start' + size'
        · have ho : outsTo start' size' (j + 1) = outsTo start' size' j ++ [(j : Int)] := by
            show (if _ then _ else _) = _
            rw [if_pos hin]
          have HO := Aside0.mk ho
          rw [decide_eq_true hin]
          clear ho hin
          obtain ⟨Ao, co, rfl⟩ := own_slice (S.pull 1).row
          obtain ⟨Aw, cw, rfl⟩ := own_slice (S.pull 2).row
          have c3 := S.cell 3 (v := .slice Ao (outsTo start' size' j).length co) rfl
          go_upto_region 14 with ((with_reducible refine gate_builtin (b := .append) (xs := #[.tmp 75, .tmp 77]) rfl ?_); at_builtin; go_must (refine append_s (S.pull 1) rfl (.tmp 75) (.tmp 77) 34 (.int .i64 0) 8 rfl Tryz.underlying34 infoI rfl (by decide) (by decide) [.int .i64 (j : Int)] rfl rfl rfl ?a1 ?aL ?_); (case a1 => (intro u hu; rw [List.mem_singleton.1 hu]; rfl)); (case aL => omega); intro A1 c1 w9 S9; have c2 := (S9.pull 1).cell 3 (v := .slice Ao (outsTo start' size' j).length co) rfl; have f2 := (S9.pull 1).free 3)
          have S2 := (S9.pull 1).set 3 (.slice A1 ((outsTo start' size' j).length + 1) c1)
          have S2 : Sep w0 (w9.setCell ⟨tp, 3, none⟩ (.slice A1 ((outsTo start' size' j).length + 1) c1)) (Blk tp #[.pointer (some ⟨dv, 0, none⟩), .int .i64 start', .int .i64 size', .slice A1 ((outsTo start' size' j).length + 1) c1, .slice Aw ws.length cw] 47 :: Own 3 1 (.slice A1 ((outsTo start' size' j).length + 1) c1) ((outsTo start' size' j).length + 1) (nums .i64 (outsTo start' size' j) ++ [.int .i64 (j : Int)]) :: Own 39 1 (.slice Aw ws.length cw) ws.length (ws.map (·.1)) :: HeldA ws :: DevA dv sd :: R) := S2
          obtain ⟨W2, hW2⟩ : ∃ W2, W2 = w9.setCell ⟨tp, 3, none⟩ (.slice A1 ((outsTo start' size' j).length + 1) c1) := ⟨_, rfl⟩
          rw [← hW2] at S2 ⊢
          have d1 := S2.cell 4 (v := .slice Aw ws.length cw) rfl
          have e1 := S2.free 4
          have HS := Aside0.mk S2
          clear hW2 S S9 S2 c2 c3 f2
          have hal : (ws.length + 1) * 24 ≤ 140737488355328 := by omega
          clear hwl
          have key : ∀ (wx : World) (gb db : Nat) (A6 : Option Addr) (c6 : Nat), Sep w0 wx (Blk tp #[.pointer (some ⟨dv, 0, none⟩), .int .i64 start', .int .i64 size', .slice A1 ((outsTo start' size' j).length + 1) c1, .slice A6 (ws.length + 1) c6] 47 :: Own 39 1 (.slice A6 (ws.length + 1) c6) (ws.length + 1) (ws.map (·.1) ++ [.slice (some ⟨gb, 0, none⟩) 512 db]) :: Byt (some ⟨gb, 0, none⟩) 512 db (List.replicate 512 0) :: Own 3 1 (.slice A1 ((outsTo start' size' j).length + 1) c1) ((outsTo start' size' j).length + 1) (nums .i64 (outsTo start' size' j) ++ [.int .i64 (j : Int)]) :: HeldA ws :: DevA dv sd :: R) → ∃ (j' : Nat) (vo vw : Value) (ws : List VB), j' ≤ N ∧ Value.int .i64 ((j : Int) + 1) = .int .i64 (j' : Int) ∧ Aside0 (ws.length = (outsTo start' size' j').length ∧ ∀ x ∈ ws, x.2 = List.replicate 512 0) ∧ Sep w0 wx (Blk tp #[.pointer (some ⟨dv, 0, none⟩), .int .i64 start', .int .i64 size', vo, vw] 47 :: Own 3 1 vo (outsTo start' size' j').length (nums .i64 (outsTo start' size' j')) :: Own 39 1 vw ws.length (ws.map (·.1)) :: HeldA ws :: DevA dv sd :: R) := fun wx gb db A6 c6 S => by
            have hn1 : nums .i64 (outsTo start' size' j) ++ [.int .i64 (j : Int)] = nums .i64 (outsTo start' size' (j + 1)) := by rw [HO.out]; simp [nums]
            have hn2 : (outsTo start' size' j).length + 1 = (outsTo start' size' (j + 1)).length := by rw [HO.out]; simp
            have hn3 : ws.map (·.1) ++ [Value.slice (some ⟨gb, 0, none⟩) 512 db] = (ws ++ [((.slice (some ⟨gb, 0, none⟩) 512 db, List.replicate 512 0) : VB)]).map (·.1) := by rw [List.map_append]; rfl
            have hn4 : ws.length + 1 = (ws ++ [((.slice (some ⟨gb, 0, none⟩) 512 db, List.replicate 512 0) : VB)]).length := by simp
            rw [hn1, hn3] at S
            have S := own_len (S.pull 1) hn4
            have S := own_len (S.pull 3) hn2
            have S := ((S.pull 4).pull 4).held_add
            have S := S.held_sub (us := ws ++ [((.slice (some ⟨gb, 0, none⟩) 512 db, List.replicate 512 0) : VB)]) (fun x hx => by
              rcases List.mem_append.1 hx with q | q
              · exact List.mem_cons_of_mem _ q
              · rw [List.mem_singleton.1 q]
                exact List.mem_cons_self)
            have S := ((S.pull 2).pull 2).pull 3
            have HS := Aside0.mk S
            have HW2 : Aside0 ((ws ++ [((.slice (some ⟨gb, 0, none⟩) 512 db, List.replicate 512 0) : VB)]).length = (outsTo start' size' (j + 1)).length ∧ ∀ x ∈ (ws ++ [((.slice (some ⟨gb, 0, none⟩) 512 db, List.replicate 512 0) : VB)]), x.2 = List.replicate 512 0) := ⟨by rw [← hn4, ← hn2, HW.out.1], fun x hx => by
              rcases List.mem_append.1 hx with q | q
              · exact HW.out.2 x q
              · rw [List.mem_singleton.1 q]⟩
            clear S hn1 hn2 hn3 hn4
            exact ⟨j + 1, .slice A1 ((outsTo start' size' j).length + 1) c1, .slice A6 (ws.length + 1) c6, ws ++ [((.slice (some ⟨gb, 0, none⟩) 512 db, List.replicate 512 0) : VB)], hjN, by go_num, HW2, HS.out⟩
          have HKEY := Aside0.mk key
          clear key
          go_region_law (first | (refine call_step Tryz.func18 (by kernel_rfl) (by rfl) #[.const (.slice none 0 0)] #[39] (by rfl) (by rfl) #[.slice none 0 0] (by first | rfl | (simp [Act.eval]; done) | (simp [go_sem, Act.eval]; done)) ?_; refine (block_nil HS.out.drew).mono ?_; rintro e w5 ⟨gb, db, rfl, S5⟩; refine ⟨_, rfl, ?_⟩; have d5 := (S5.pull 1).cell 4 (v := .slice Aw ws.length cw) rfl; have e5 := (S5.pull 1).free 4; have d5b := ka d5 (.cells #[.slice (some ⟨gb, 0, none⟩) 512 db] 39)) | ((refine append_step (S5.pull 3) (by rfl) (.tmp 85) (.tmp 87) 33 (.slice none 0 0) 24 (by rfl) Tryz.underlying33 infoBs rfl (by decide) (by decide) [.slice (some ⟨gb, 0, none⟩) 512 db] (by first | rfl | (simp [Act.eval]; done) | (simp [go_sem, Act.eval]; done)) (by first | rfl | (simp [Act.eval]; done) | (simp [go_sem, Act.eval]; done)) (by rfl) (by intro u hu; rw [List.mem_singleton.1 hu]; rfl) hal ?_; intro A6 c6 w6 S6; have d6 := (S6.pull 2).cell 4 (v := .slice Aw ws.length cw) rfl; have e6 := (S6.pull 2).free 4)))
          all_goals (clear HS d1 e1; go_wp2_with fail; exact ⟨HKEY.out _ gb db A6 c6 ((S6.pull 2).set 4 (.slice A6 (ws.length + 1) c6)), by simp [intOf]; omega⟩)
        · have ho : outsTo start' size' (j + 1) = outsTo start' size' j := by
            show (if _ then _ else _) = _
            rw [if_neg hin]
          have HO := Aside0.mk ho
          rw [decide_eq_false hin]
          clear ho hin
          go_wp2_with fail
          exact ⟨⟨j + 1, vo, vw, ws, hjN, by go_num, ⟨by rw [HO.out]; exact HW.out.1, HW.out.2⟩, by rw [HO.out]; exact S⟩, by simp [intOf]; omega⟩
      · have hjN2 : j = N := by omega
        subst hjN2
        have hlt : ¬ (j : Int) < (j : Int) := by omega
        go_wp2_with fail
        go_meet
        case rel => exact ⟨vo, vw, ws, HW, S⟩
  case rest =>
  obtain ⟨vo, vw, ws, HW, S⟩ := hcut
  have HCAL := Aside0.mk HCA.out
  go_wp2_with (first | (go_at_call 20; refine (num_any _ _).mono ?_; rintro _ _ ⟨rfl, rfl⟩))
  go_ret2
  have h1 := Sep.townA ⟨tp, dv, start', size', vo, vw, outsTo start' size' N, ws⟩ S
  exact ⟨⟨tp, dv, start', size', vo, vw, outsTo start' size' N, ws⟩, sd, ⟨(N : Int), start', size'⟩, ws, rfl, HCAL.out, town_holds HG.out HW.out.1 HW.out.2 tp dv vo vw, fun x hx => hx, (h1.pull 2).pull 1⟩
end
end Go.Proofs.YtmafafingdpopaaGreatDoor.Sep
/- head: a journal of which the document fixes all. -/
namespace Go.Proofs.YtmafafingdpopaaGreatDoor.Sep
open Go.Proofs Go.RowKit Go.ChangeMaps Go.Proofs.YtmafafingdpopaaGreatDoorW.PrintWords Go.Proofs.YtmafafingdpopaaGreatDoorW.PrintLast Go.Proofs.YtmafafingdpopaaGreatDoorW.PrintMore Go.Proofs.YtmafafingdpopaaGreatDoor.Dev Go.Proofs.YtmafafingdpopaaGreatDoor.Errs Go.Proofs.YtmafafingdpopaaGreatDoor.Jr Go.Proofs.YtmafafingdpopaaGreatDoor.Help Go.Proofs.YtmafafingdpopaaGreatDoor.IMap
set_option linter.unusedVariables false
set_option linter.unusedSimpArgs false
section
variable {w0 w w' : World} {R : List Asn} {q p d : Nat} {ps : List (Nat × List Int)} {v : JV} {t : TV} {s : DS} {sa : Addr} {G : Geo} {T : Tn} {W : Int → List Int} {hs : List VB} {J : JS} {m : SMb}
theorem Still.logged (h : Still s) (a b : Int) (m : SMb) : Still (Jr.logged G s a b m).2 := by
  unfold Jr.logged
  dsimp only
  repeat' split
  · exact ((Still.writes _ h).flush.write _ _).flush
  · exact (Still.writes _ h).flush.write _ _
  · exact (Still.writes _ h).flush
  · exact Still.writes _ h
theorem Still.loggedE (h : Still s) (v : JV) (m : SMb) : Still (Go.Proofs.YtmafafingdpopaaGreatDoor.Sep.loggedE v s m).2 := by
  have h1 : Still (Jr.room (v.geo s) s (jsOf v) m).2.1 := by
    unfold Jr.room
    split
    · exact h.checkpoint _
    · exact h
  unfold Go.Proofs.YtmafafingdpopaaGreatDoor.Sep.loggedE
  split
  · exact h1.logged _ _ _
  · exact h1
/-- A commit of one block into an empty log, no fuse burning. -/
theorem LiveV.commit1 (L : LiveV G s v ps W) (h0 : s.fuse = 0) (hM : v.M = []) (hf : v.free = G.places) {M : MV} (hI : Ins M ps) (hm : Jr.Good G (dat M)) (hl : M.length = 1) (hseq : v.seq ≤ 1000000) :
    (loggedE v s (dat M)).1 = 0 ∧ LiveV G (loggedE v s (dat M)).2 (commitV v s M) ps (laid W (dat M)) ∧ (commitV v s M).seq = v.seq + 1 ∧ (commitV v s M).free = G.places - 3 ∧ (commitV v s M).M.length = 1 ∧ (commitV v s M).ended = false := by
  rcases L.commit hI hm (by omega) with ⟨h1, h2, h3, h4⟩ | ⟨h1, h2⟩
  · have hp := places_pos L.live.fits.geo
    have er : roomV { v with tx := none } s M.length = { v with tx := none } := by
      unfold roomV
      rw [if_neg (by show ¬ ((M.length : Int) + 2 > v.free); rw [hf, hl]; omega)]
    refine ⟨h1, h2, ?_, ?_, ?_, h2.ended⟩
    · unfold commitV
      rw [if_pos h1]
    · unfold commitV
      rw [if_pos h1, er]
      show v.free - ((M.length : Int) + 2) = _
      rw [hf, hl]
      rfl
    · unfold commitV
      rw [if_pos h1, er]
      show (SM.over v.M M).length = 1
      rw [hM]
      match M, hl with
      | [x], _ => rfl
  · have h5 := Still.loggedE (s := s) ⟨L.off, h0⟩ v (dat M)
    exact absurd (h5.1.symm.trans h2.off) (by decide)
/-- Opened right behind Format. -/
theorem open_new {n : Nat} {start size : Int} (g : GoodArgs (n : Int) start size) {s : DS} (hs : s = (formatP (DS.made (List.replicate (512 * n) 0)) start size).2) :
    s.fuse = 0 ∧ DByte s ∧ s.pend = [] ∧ (s.n : Int) = (n : Int) ∧ (Jr.openJ ⟨(n : Int), start, size⟩ s).1 = 0 ∧ (Jr.openJ ⟨(n : Int), start, size⟩ s).2.1 = s ∧ ∃ J, (Jr.openJ ⟨(n : Int), start, size⟩ s).2.2 = some (J, 0) ∧ Live ⟨(n : Int), start, size⟩ s J zeroW ∧ J.free = size - 1 ∧ J.away = [] ∧ J.seq = 1 := by
  have g0 := g.n0
  have g1 := g.n1
  have g2 := g.s0
  have g3 := g.z0
  have g4 := g.z1
  have g5 := g.s1
  have hn : (DS.made (List.replicate (512 * n) 0)).n = n := by
    show (List.replicate (512 * n) (0 : Int)).length / 512 = n
    rw [List.length_replicate]
    omega
  have hok : (DS.made (List.replicate (512 * n) 0)).Ok := made_ok (by omega) (by omega) (List.length_replicate ..)
  have hG : (⟨(n : Int), start, size⟩ : Geo).Ok := ⟨g2, g3, by show size ≤ (n : Int) - start; omega, by show (n : Int) ≤ 4096; omega⟩
  have hfb : fitsB ((DS.made (List.replicate (512 * n) 0)).n : Int) start size = true := by
    unfold fitsB
    rw [hn, decide_eq_true g2, decide_eq_true g3, decide_eq_true (show size ≤ (n : Int) - start by omega)]
    rfl
  have h := format_new (G := ⟨(n : Int), start, size⟩) (s := DS.made (List.replicate (512 * n) 0)) hG (by rw [hn]) (by rw [hn]) hok
  have e : formatP (DS.made (List.replicate (512 * n) 0)) start size = Jr.format ⟨(n : Int), start, size⟩ (DS.made (List.replicate (512 * n) 0)) := by
    unfold formatP
    rw [if_pos hfb, hn]
  rw [e] at hs
  rw [← hs] at h
  obtain ⟨_, h2, h3, h4, h5, h6⟩ := h
  rcases open_rec h3 h4 h5 h6 with ⟨k1, ⟨J, k2, k3, k4, k5⟩, k6, k7⟩ | ⟨k1, k2, k3, k4, k5, k6⟩
  · have k8 := k7 rfl
    rw [k8] at k3
    exact ⟨h2, h3.byte, h5, h3.n.symm, k1, k8, J, k2, k3, k4, k5, Live.seq k3⟩
  · exact absurd rfl k6
theorem tcommit1 (hr : Rt w0) (L : LiveV G s v ps W) (h0 : s.fuse = 0) (hM : v.M = []) (hf : v.free = G.places) (hsq : v.seq ≤ 1000000) (S : Sep w0 w (TBlk q p t :: MapA t.bw (vals t.M) :: JBlk p d { v with tx := some q } :: MapA v.bm (vals v.M) :: PoolA ps :: DevA d s :: R)) (hIt : Ins t.M ps) (X : TxOk G t.M) (hl : t.M.length = 1) :
    Calls Tryz.prog 24 #[.pointer (some ⟨q, 0, none⟩)] w fun e w' => ∃ (v' : JV) (s' : DS), e = .returned (.int .i64 0) ∧ LiveV G s' v' ps (laid W (dat t.M)) ∧ v'.seq = v.seq + 1 ∧ v'.free = G.places - 3 ∧ v'.M.length = 1 ∧ v'.ended = false ∧ v'.bm = v.bm ∧ v'.tx = none ∧ s'.fuse = 0 ∧
      Sep w0 w' (TBlk q p t :: MapA t.bw (vals t.M) :: JBlk p d v' :: MapA v'.bm (vals v'.M) :: PoolA ps :: DevA d s' :: R) := by
  have hg : ({ v with tx := some q } : JV).geo s = G := L.geo
  have hok : (({ v with tx := some q } : JV).geo s).Ok := by rw [hg]; exact L.live.fits.geo
  have hgd := X.good (fun e => by rw [e] at hl; cases hl)
  have hfr := L.free
  have hpd := L.pend
  have hfw := L.few
  have hsq2 := L.seq
  refine (commit_s (v := { v with tx := some q }) hr S L.ins hIt hok (by omega) (show v.M.length ≤ 100000 by omega) L.keys (by omega) X.few (fun x hx => ?_) L.place ⟨open_live L q, L.off⟩ (show 0 ≤ v.seq ∧ v.seq ≤ 4000000000000 by omega) (show -100000 ≤ v.free ∧ v.free ≤ 100000 by omega)).mono ?_
  · have h1 := X.ok x hx
    have h2 := out_in L.live.fits.geo h1.1
    have h3 := L.live.fits.geo.n1
    exact ⟨h2.1, by omega, h1.2.2⟩
  · rintro e w' ⟨rfl, S1⟩
    have S2 : Sep w0 w' (TBlk q p t :: MapA t.bw (vals t.M) :: JBlk p d (commitV v s t.M) :: MapA v.bm (vals (commitV v s t.M).M) :: PoolA ps :: DevA d (loggedE v s (dat t.M)).2 :: R) := S1
    obtain ⟨c1, c2, c3, c4, c5, c6⟩ := L.commit1 h0 hM hf hIt hgd hl hsq
    have hst := (Still.loggedE (s := s) ⟨L.off, h0⟩ v (dat t.M)).2
    have c1' : (loggedE ({ v with tx := some q } : JV) s (dat t.M)).1 = 0 := c1
    rcases L.commit hIt hgd (by omega) with ⟨_, _, k3, k4⟩ | ⟨k1, _⟩
    · rw [← k4] at S2
      exact ⟨commitV v s t.M, _, by rw [c1'], c2, c3, c4, c5, c6, k4, k3, hst, S2⟩
    · rw [c1] at k1
      cases k1
theorem so_reads (w : World) : ReadsInt (w.alloc (.cells #[.int .u8 115, .int .u8 111] 5 (2, 3))) .u8 (some ⟨w.heap.size, 0, none⟩) 2 [115, 111] := by
  refine ⟨rfl, by decide, fun _ => ⟨_, rfl, fun j hj => ?_⟩⟩
  rw [add_plain, World.cell?_alloc_mark]
  match j, hj with
  | 0, _ => rfl
  | 1, _ => rfl
theorem so_byte : Byte (Go.Proofs.YtmafafingdpopaaGreatDoor.Sep.blk [115, 111]) := byte_blk (fun x hx => by
  simp at hx
  rcases hx with rfl | rfl <;> decide)
set_option maxRecDepth 100000 in
set_option maxHeartbeats 16000000 in
theorem head_s (hr : Rt w0) (hsn : Sen sa w0) (S : Sep w0 w R) : Calls Tryz.prog 11 #[] w fun e w' => e = .returned (.bool true) ∧ Sep w0 w' R := by
  have hg : GoodArgs ((40 : Nat) : Int) 2 30 := ⟨by decide, by decide, by decide, by decide, by decide, by decide⟩
  have hnw := new_s S 40 (by decide) (by decide)
  obtain ⟨hf1, hf2⟩ := town_calm hg
  obtain ⟨sd, hsd⟩ : ∃ sd, sd = (formatP (DS.made (List.replicate (512 * 40) 0)) 2 30).2 := ⟨_, rfl⟩
  have hon := open_new hg hsd
  rw [← hsd] at hf2
  have HF1 := Aside0.mk hf1
  have HSD := Aside0.mk hsd
  have HON := Aside0.mk hon
  clear S hf1 hf2 hsd hon hg
  go_enter Tryz.func11, Tryz.ntmps11
  go_wp2_with fail
  refine hnw.mono ?_
  clear hnw
  rintro _ w1 ⟨dv, rfl, S⟩
  have hfm := format_s hr S 2 30 (by decide) (Nat.zero_le _)
  rw [HF1.out, ← HSD.out] at hfm
  clear S HF1 HSD
  go_wp2_with fail
  refine hfm.mono ?_
  clear hfm
  rintro _ w2 ⟨rfl, S⟩
  obtain ⟨h0, hB, hp0, hn, ho1, ho2, J, ho3, hL, hfr, haw, hsq⟩ := HON.out
  have hop := openj_s hr hsn S 2 30 (by rw [hn]; exact hL.fits.geo) hB (by rw [hp0]; exact Nat.zero_le _)
  rw [hn] at hop
  clear S
  go_wp2_with fail
  refine hop.mono ?_
  clear hop
  rintro e w3 hP
  obtain ⟨G, hG⟩ : ∃ G, G = (⟨((40 : Nat) : Int), 2, 30⟩ : Geo) := ⟨_, rfl⟩
  rw [← hG] at hP ho1 ho2 ho3 hL
  have hop2 : ∃ p v ps, e = .returned (.tuple #[.pointer (some ⟨p, 0, none⟩), .int .i64 0, .int .i64 0]) ∧ LiveV G sd v ps zeroW ∧ v.tx = none ∧ v.M = [] ∧ v.free = G.places ∧ v.seq = 1 ∧ Sep w0 w3 (JBlk p dv v :: MapA v.bm (vals v.M) :: PoolA ps :: DevA dv sd :: R) := by
    rcases hP with ⟨J', taken, p, v, ps, h1, rfl, h3, h4, h5, h6, h7, h8, S⟩ | ⟨h1, _, _⟩
    · rw [ho3] at h1
      cases h1
      rw [ho2] at S
      refine ⟨p, v, ps, rfl, ⟨by rw [h5]; exact hL, ?_, h7, h8⟩, h6, ?_, ?_, ?_, S⟩
      · show (⟨(sd.n : Int), v.start, v.size⟩ : Geo) = G
        rw [h3, h4, hn, hG]
      · have h9 : dat v.M = [] := (congrArg JS.away h5).trans haw
        exact List.length_eq_zero_iff.1 (by
          have h10 : (dat v.M).length = v.M.length := SM.len_on _ _
          rw [← h10, h9]
          rfl)
      · have h9 : v.free = J.free := congrArg JS.free h5
        rw [h9, hfr, hG]
        rfl
      · exact (congrArg JS.seq h5).trans hsq
    · rw [ho3] at h1
      cases h1
  clear hP ho1 ho2 ho3 hL hfr haw hsq hB hp0 hn
  obtain ⟨p, v, ps, rfl, L, htx, hM, hfr, hsq, S⟩ := hop2
  have hbeg := begin_yes ((S.pull 3).pull 1) L.alive htx
  have HL := Aside0.mk L
  have HV := Aside0.mk (And.intro hM (And.intro hfr (And.intro hsq h0)))
  have hGo : G.out 35 = true := by rw [hG]; decide
  have hGp : G.places = 29 := by rw [hG]; rfl
  have HGG := Aside0.mk (And.intro hGo hGp)
  clear S L hM hfr hsq h0 hG hGo hGp HON J
  go_wp2_with (first | (go_at_call 20; refine (num_any _ _).mono ?_; rintro _ _ ⟨rfl, rfl⟩))
  refine hbeg.mono ?_
  clear hbeg
  rintro _ w4 ⟨q, b, rfl, S⟩
  have hbz := begin_busy (v := { v with tx := some q }) (((S.pull 3).pull 3)) HL.out.alive rfl
  clear S
  go_wp2_with fail
  refine hbz.mono ?_
  clear hbz
  rintro _ w5 ⟨rfl, S⟩
  have hcv := Lib.run_convert_bytes_const (P := Tryz.prog) w5 39 5 #[.int .u8 115, .int .u8 111] 2 2 Tryz.underlying39 Tryz.underlying5
  have e2 : (#[Value.int IntKind.u8 115, Value.int IntKind.u8 111] : Array Value).size = 2 := rfl
  rw [e2, show 2 + 1 = 3 from rfl] at hcv
  have S := S.calm (below_alloc (Below.refl _ _) (.cells #[.int .u8 115, .int .u8 111] 5 (2, 3)))
  have hbl := block_s7 (c := 2) S (so_reads w5) (by decide) (by decide)
  clear S
  go_wp2_with fail
  refine hbl.mono ?_
  clear hbl hcv
  rintro _ w6 ⟨g6, d6, rfl, S⟩
  have S := ((S.nils 1 1).kept_nil)
  have S := (((((((S.pull 1).pull 4).pull 8).pull 8).pull 6).pull 8).pull 8)
  have hwr := twrite_any (t := ⟨b, [], .slice none 0 0, .slice none 0 0, 0⟩) (us := []) (os := []) (b := 35) HL.out S (fun x hx => by cases hx) HGG.out.1 (Nat.zero_le _) (Nat.zero_le _)
  clear S
  go_wp2_with fail
  refine hwr.mono ?_
  clear hwr
  rintro _ w7 ⟨cd, t2, ps2, us2, os2, rfl, hW, _, S⟩
  have hwi := hW.is
  rw [if_pos (.inr (show (0 : Nat) < 24 by decide))] at hwi
  obtain ⟨hcd, g7, ht2⟩ := hwi
  subst hcd
  have hM2 : t2.M = [(35, (g7, Go.Proofs.YtmafafingdpopaaGreatDoor.Sep.blk [115, 111]))] := by rw [ht2]; rfl
  have hx2 : TxOk G t2.M := by
    rw [hM2]
    refine ⟨List.pairwise_singleton _ _, (show (1 : Nat) ≤ 24 by decide), fun x hx => ?_⟩
    rw [List.mem_singleton.1 hx]
    exact ⟨HGG.out.1, blk_len _, so_byte⟩
  have hl2 : t2.M.length = 1 := by rw [hM2]; rfl
  have L2 := HL.out.sub hW.sub
  have hrd := tread_live L2 S hW.ins (fun x hx => (hx2.ok x hx).2.1) HGG.out.1
  have hval : (SM.lkp (dat t2.M) 35).getD (zeroW 35) = Go.Proofs.YtmafafingdpopaaGreatDoor.Sep.blk [115, 111] := by rw [hM2]; rfl
  rw [hval] at hrd
  have HX := Aside0.mk (And.intro hx2 (And.intro hl2 (And.intro hW.ins L2)))
  clear S hM2 hx2 hl2 L2 hval ht2 hW
  go_wp2_with fail
  refine hrd.mono ?_
  clear hrd
  rintro _ w8 ⟨g8, rfl, S⟩
  have S := ((((((S.pull 6).pull 6).pull 6).pull 6).pull 6).pull 6)
  have hco := tcommit1 hr HX.out.2.2.2 HV.out.2.2.2 HV.out.1 HV.out.2.1 (by rw [HV.out.2.2.1]; decide) S HX.out.2.2.1 HX.out.1 HX.out.2.1
  clear S
  go_wp2_with fail
  refine hco.mono ?_
  clear hco
  rintro _ w9 ⟨v3, s3, rfl, L3, k1, k2, k3, k4, k5, k6, k7, S⟩
  have hst := state_s (((S.pull 3).pull 3))
  rw [k4, if_neg (by decide), k1, k2, k3, HV.out.2.2.1, HGG.out.2] at hst
  clear S L3 k1 k2 k3 k4 k5 k6 k7 HX HV HL
  go_wp2_with fail
  refine hst.mono ?_
  clear hst
  rintro _ w10 ⟨rfl, S⟩
  have hcv := Lib.run_convert_bytes_const (P := Tryz.prog) w10 39 5 #[.int .u8 115, .int .u8 111] 2 2 Tryz.underlying39 Tryz.underlying5
  rw [e2, show 2 + 1 = 3 from rfl] at hcv
  have S := S.calm (below_alloc (Below.refl _ _) (.cells #[.int .u8 115, .int .u8 111] 5 (2, 3)))
  have hbl := block_s7 (c := 2) S (so_reads w10) (by decide) (by decide)
  clear S
  go_wp2_with fail
  refine hbl.mono ?_
  clear hbl hcv
  rintro _ w11 ⟨g11, d11, rfl, S⟩
  have r11 := S.reads
  have r8 := (S.pull 7).reads
  have hcap := S.cap
  have hsm := same_s w11 (some ⟨g8, 0, none⟩) (some ⟨g11, 0, none⟩) 512 512 512 d11 _ _ r8 r11 (Nat.le_refl _) hcap (by decide)
  rw [decide_eq_true rfl] at hsm
  have SR : Sep w0 w11 R := S.drop.drop.drop.drop.drop.drop.drop.drop.drop.drop.drop
  clear S r11 r8 hcap e2
  go_wp2_with fail
  refine hsm.mono ?_
  clear hsm
  rintro _ w12 ⟨rfl, hB⟩
  have HS := Aside0.mk (SR.calm hB)
  clear SR hB
  go_wp2_with (first | (go_at_call 20; refine (num_any _ _).mono ?_; rintro _ _ ⟨rfl, rfl⟩))
  go_ret
  exact ⟨rfl, HS.out⟩
end
end Go.Proofs.YtmafafingdpopaaGreatDoor.Sep
