/- Save: a savepoint. -/
import Derived.Test.YtlhlmjkocmahmaaGreatDoorMA11
import Derived.Deep.DeepCutAuto
import Derived.Test.YtlhlmjkocmahmaaGreatDoorMA12
import Derived.WalkArith
namespace Go.Proofs.YtlhlmjkocmahmaaGreatDoor.Sep
open Go.Proofs Go.RowKit Go.ChangeMaps Go.Proofs.YtlhlmjkocmahmaaGreatDoorW.PrintWords Go.Proofs.YtlhlmjkocmahmaaGreatDoorW.PrintLast Go.Proofs.YtlhlmjkocmahmaaGreatDoorW.PrintMore Go.Proofs.YtlhlmjkocmahmaaGreatDoor.Dev Go.Proofs.YtlhlmjkocmahmaaGreatDoor.Errs Go.Proofs.YtlhlmjkocmahmaaGreatDoor.Jr Go.Proofs.YtlhlmjkocmahmaaGreatDoor.Help Go.Proofs.YtlhlmjkocmahmaaGreatDoor.IMap
set_option linter.unusedVariables false
set_option linter.unusedSimpArgs false
/-- Savepoints: the mark, and how many undos there were. -/
def svC (l : List (Int × Nat)) : List Value := l.flatMap fun x => [.int .i64 x.1, .int .i64 (x.2 : Int)]
theorem svC_snoc (l : List (Int × Nat)) (m : Int) (n : Nat) : svC l ++ [.int .i64 m, .int .i64 (n : Int)] = svC (l ++ [(m, n)]) := by
  unfold svC
  rw [List.flatMap_append]
  rfl
theorem infoSv : (Tryz.prog.info? 123).map (fun i => (i.zero, i.size, i.bytes)) = some (some (.agg #[.int .i64 0, .int .i64 0]), 2, 16) := by kernel_rfl
section
variable {w0 w w' : World} {R : List Asn} {q p d : Nat} {v : JV} {t : TV} {s : DS} {us : List UR} {sv : List (Int × Nat)}
set_option maxRecDepth 100000 in
set_option maxHeartbeats 4000000 in
theorem save_s (S : Sep w0 w (TBlk q p t :: JBlk p d v :: DevA d s :: Own 1 1 t.un us.length (us.map UR.val) :: Own 123 2 t.sv sv.length (svC sv) :: R)) (hal : openB q v = true ∧ s.off = false) (hv : v.tx = some q) (hm : 0 ≤ t.marks ∧ t.marks ≤ 1000000) (hsl : sv.length ≤ 1000000) (hul : us.length ≤ 1000000) :
    Calls Tryz.prog 26 #[.pointer (some ⟨q, 0, none⟩)] w fun e w' => ∃ x : Value, e = .returned (.tuple #[.int .i64 (t.marks + 1), .int .i64 0]) ∧
      Sep w0 w' (TBlk q p { t with sv := x, marks := t.marks + 1 } :: JBlk p d v :: DevA d s :: Own 1 1 t.un us.length (us.map UR.val) :: Own 123 2 x (sv.length + 1) (svC (sv ++ [(t.marks + 1, us.length)])) :: R) := by
  have h1 := hal.1
  unfold openB at h1
  simp at h1
  have hal0 : aliveE v s = 0 := by
    unfold aliveE
    rw [h1.1, hal.2]
    rfl
  have hfe : fineE q v s 0 = 0 := by
    unfold fineE
    rw [hal.1, if_pos rfl, if_pos rfl, hal0]
  have hfv := (fineV_0 hfe).1
  have hfi := fine_s S (by rw [hv]; exact oth_self _ _) 0
  rw [hfe, hfv] at hfi
  have HV := Aside0.mk (svC_snoc sv (t.marks + 1) us.length)
  clear S hfe hfv hal0 h1 hal
  go_enter Tryz.func26, Tryz.ntmps26
  go_wp2_with fail
  refine hfi.mono ?_
  clear hfi
  rintro _ w1 ⟨rfl, S⟩
  obtain ⟨Au, cu, hu⟩ := own_slice (S.pull 3).row
  obtain ⟨As, cs, hs⟩ := own_slice (S.pull 4).row
  have c4 := S.cell 4 (v := .int .i64 t.marks) rfl
  have f4 := S.free 4
  have S1 := S.set 4 (.int .i64 (t.marks + 1))
  obtain ⟨w2, hw2⟩ : ∃ w2, w2 = w1.setCell ⟨q, 4, none⟩ (.int .i64 (t.marks + 1)) := ⟨_, rfl⟩
  rw [← hw2] at S1
  have S2 : Sep w0 w2 (Blk q #[.pointer (some ⟨p, 0, none⟩), .map (some t.bw), .slice Au us.length cu, .slice As sv.length cs, .int .i64 (t.marks + 1)] 119 :: JBlk p d v :: DevA d s :: Own 1 1 (.slice Au us.length cu) us.length (us.map UR.val) :: Own 123 2 (.slice As sv.length cs) sv.length (svC sv) :: R) := by
    rw [← hu, ← hs]
    exact S1
  have HS := Aside0.mk S2
  have HU := Aside0.mk hu
  clear S S1 S2
  go_upto_region 5 with fail
  rw [← hw2]
  have e4 := HS.out.cell 4 (v := .int .i64 (t.marks + 1)) rfl
  have e3 := HS.out.cell 3 (v := .slice As sv.length cs) rfl
  have e2 := HS.out.cell 2 (v := .slice Au us.length cu) rfl
  have key : ∀ (W : World) (A : Option Addr) (c : Nat), Sep w0 W (Blk q #[.pointer (some ⟨p, 0, none⟩), .map (some t.bw), .slice Au us.length cu, .slice A (sv.length + 1) c, .int .i64 (t.marks + 1)] 119 :: Own 123 2 (.slice A (sv.length + 1) c) (sv.length + 1) (svC sv ++ [.int .i64 (t.marks + 1), .int .i64 (us.length : Int)]) :: JBlk p d v :: DevA d s :: Own 1 1 (.slice Au us.length cu) us.length (us.map UR.val) :: R) → Sep w0 W (TBlk q p { t with sv := .slice A (sv.length + 1) c, marks := t.marks + 1 } :: JBlk p d v :: DevA d s :: Own 1 1 t.un us.length (us.map UR.val) :: Own 123 2 (.slice A (sv.length + 1) c) (sv.length + 1) (svC (sv ++ [(t.marks + 1, us.length)])) :: R) := fun W A c S => by
    rw [HV.out] at S
    rw [HU.out]
    exact (((((S.pull 1).pull 4).pull 4).pull 4).pull 4)
  have HKEY := Aside0.mk key
  clear key
  have a3 := ka e3 (.cells #[.int .i64 (t.marks + 1), .int .i64 (us.length : Int)] 123)
  have hls : (sv.length + 1) * 16 ≤ 140737488355328 := by omega
  clear hw2 c4 f4 hu hs
  go_region_law (first | (refine append_step (n := sv.length) (v := .slice As sv.length cs) (xs := svC sv) (HS.out.drew.pull 4) (by rfl) (.tmp 21) (.tmp 32) 117 (.agg #[.int .i64 0, .int .i64 0]) 16 (by rfl) Tryz.underlying117 infoSv rfl (by decide) (by decide) [.int .i64 (t.marks + 1), .int .i64 (us.length : Int)] (by first | rfl | (simp [Act.eval]; done) | (simp [go_sem, Act.eval]; done)) (by first | rfl | (simp [Act.eval]; done) | (simp [go_sem, Act.eval]; done)) (by rfl) (by intro u hu; simp at hu; rcases hu with rfl | rfl <;> rfl) hls ?_; intro A6 c6 w6 S6; have d6 := (S6.pull 1).cell 3 (v := .slice As sv.length cs) rfl; have e6 := (S6.pull 1).free 3; have d7 := (S6.pull 1).cell 4 (v := .int .i64 (t.marks + 1)) rfl))
  all_goals (clear HS HU HV e4 e3 e2 a3; have S7 := (S6.pull 1).set 3 (.slice A6 (sv.length + 1) c6); have d8 := S7.cell 4 (v := .int .i64 (t.marks + 1)) rfl; have HS7 := Aside0.mk S7; clear S6 S7; go_wp2_with fail; go_ret2; exact ⟨_, rfl, HKEY.out _ A6 c6 HS7.out⟩)
end
end Go.Proofs.YtlhlmjkocmahmaaGreatDoor.Sep
/- What undoes a write. -/
namespace Go.Proofs.YtlhlmjkocmahmaaGreatDoor.Sep
open Go.Proofs Go.RowKit Go.ChangeMaps Go.Proofs.YtlhlmjkocmahmaaGreatDoorW.PrintWords Go.Proofs.YtlhlmjkocmahmaaGreatDoorW.PrintLast Go.Proofs.YtlhlmjkocmahmaaGreatDoorW.PrintMore Go.Proofs.YtlhlmjkocmahmaaGreatDoor.Dev Go.Proofs.YtlhlmjkocmahmaaGreatDoor.Errs Go.Proofs.YtlhlmjkocmahmaaGreatDoor.Jr Go.Proofs.YtlhlmjkocmahmaaGreatDoor.Help Go.Proofs.YtlhlmjkocmahmaaGreatDoor.IMap
set_option linter.unusedVariables false
set_option linter.unusedSimpArgs false
section
variable {w0 w w' : World} {R : List Asn} {q p d : Nat} {v : JV} {t : TV} {s : DS} {us : List UR} {os : List (Nat × Array Value × TypeId)} {u : UR}
/-- The boxes of an undo. -/
def UR.boxes (u : UR) (q : Nat) : List (Nat × Array Value × TypeId) := [(u.bok, #[.bool u.was.isSome], 4), (u.bwas, #[wasV u.was], 57), (u.bt, #[.pointer (some ⟨q, 0, none⟩)], 32), (u.bb, #[.int .i64 u.b], 3)]
/-- What was written, behind an undo. -/
def UR.undo (u : UR) (M : MV) : MV := match u.was with | some x => SM.ins M u.b x | none => SM.del M u.b
theorem Sep.kept_cell (S : Sep w0 w (KeptA os :: R)) {b : Nat} {cs : Array Value} {ty : TypeId} {x : Value} (h : (b, cs, ty) ∈ os) (hx : cs[0]? = some x) (h1 : x.oneCell' = true) : w.cell? ⟨b, 0, none⟩ = some x := by
  obtain ⟨F, h2, _⟩ := S.hd
  have h3 := (h2.1 _ h).1
  exact (blk_cell h3 0).trans hx
set_option maxRecDepth 100000 in
set_option maxHeartbeats 4000000 in
theorem undo_s (S : Sep w0 w (KeptA os :: TBlk q p t :: MapA t.bw (vals t.M) :: R)) (hu : ∀ x ∈ u.boxes q, x ∈ os) (hwf : (Lit.int .i64 u.b).wf = true) :
    Calls Tryz.prog 57 #[.pointer (some ⟨u.bok, 0, none⟩), .pointer (some ⟨u.bwas, 0, none⟩), .pointer (some ⟨u.bt, 0, none⟩), .pointer (some ⟨u.bb, 0, none⟩)] w fun e w' => e = .returned (.tuple #[]) ∧
      Sep w0 w' (KeptA os :: TBlk q p t :: MapA t.bw (vals (u.undo t.M)) :: R) := by
  have k0 := S.kept_cell (hu _ (.head _)) (x := .bool u.was.isSome) rfl rfl
  have k2 := S.kept_cell (hu _ (.tail _ (.tail _ (.head _)))) (x := .pointer (some ⟨q, 0, none⟩)) rfl rfl
  have k3 := S.kept_cell (hu _ (.tail _ (.tail _ (.tail _ (.head _))))) (x := .int .i64 u.b) rfl rfl
  have c1 := (S.pull 1).cell 1 (v := .map (some t.bw)) rfl
  have k1 := S.kept_cell (hu _ (.tail _ (.head _))) (x := wasV u.was) rfl (by cases u.was <;> rfl)
  unfold UR.undo
  cases hw : u.was with
  | some x =>
    rw [hw] at k0 k1
    replace k0 : w.cell? ⟨u.bok, 0, none⟩ = some (.bool true) := k0
    replace k1 : w.cell? ⟨u.bwas, 0, none⟩ = some (.slice (some ⟨x.1, 0, none⟩) 512 512) := k1
    obtain ⟨w5, hst, S5⟩ := (S.drew.pull 2).store_eq (P := Tryz.prog) Tryz.underlying113 Tryz.underlying3 hwf (rowV x.1)
    have eX : SM.ins (vals t.M) u.b (rowV x.1) = vals (SM.ins t.M u.b x) := (SM.ins_on (fun x : Nat × List Int => rowV x.1) t.M u.b x).symm
    rw [eX] at S5
    replace hst : (Instr.mapUpdate 113 (.map (some t.bw)) (.int .i64 u.b) (.slice (some ⟨x.1, 0, none⟩) 512 512)).run Tryz.prog w.drew = .ok () w5 := hst
    have HS := Aside0.mk S5
    clear S S5 eX
    go_enter Tryz.func57, Tryz.ntmps57
    go_wp2_with fail
    go_region
    all_goals (go_wp2_with fail; go_end0; exact ⟨rfl, (HS.out.pull 2).pull 2⟩)
  | none =>
    rw [hw] at k0
    replace k0 : w.cell? ⟨u.bok, 0, none⟩ = some (.bool false) := k0
    obtain ⟨w5, hst, r1, r2, r3, r4, r5, r6⟩ := (S.drew.pull 2).map.drop (P := Tryz.prog) Tryz.underlying113 Tryz.underlying3 hwf 0
    have S5 := (S.drew.pull 2).map_to r1 r2 r3 r4 r5 r6
    have eX : SM.del (vals t.M) u.b = vals (SM.del t.M u.b) := (SM.del_on (fun x : Nat × List Int => rowV x.1) t.M u.b).symm
    rw [eX] at S5
    have HS := Aside0.mk S5
    clear S S5 eX r1 r2 r3 r4 r5 r6
    go_enter Tryz.func57, Tryz.ntmps57
    go_wp2_with fail
    go_region
    all_goals (go_wp2_with fail; go_end0; exact ⟨rfl, (HS.out.pull 2).pull 2⟩)
end
end Go.Proofs.YtlhlmjkocmahmaaGreatDoor.Sep
/- Back, and what it asks: is it the savepoint of that mark? -/
namespace Go.Proofs.YtlhlmjkocmahmaaGreatDoor.Sep
open Go.Proofs Go.RowKit Go.ChangeMaps Go.Proofs.YtlhlmjkocmahmaaGreatDoorW.PrintWords Go.Proofs.YtlhlmjkocmahmaaGreatDoorW.PrintLast Go.Proofs.YtlhlmjkocmahmaaGreatDoorW.PrintMore Go.Proofs.YtlhlmjkocmahmaaGreatDoor.Dev Go.Proofs.YtlhlmjkocmahmaaGreatDoor.Errs Go.Proofs.YtlhlmjkocmahmaaGreatDoor.Jr Go.Proofs.YtlhlmjkocmahmaaGreatDoor.Help Go.Proofs.YtlhlmjkocmahmaaGreatDoor.IMap
set_option linter.unusedVariables false
set_option linter.unusedSimpArgs false
section
variable {w0 w w' : World} {R : List Asn} {bx : Nat} {m : Int}
set_option maxRecDepth 100000 in
set_option maxHeartbeats 4000000 in
theorem back1_s (S : Sep w0 w (Blk bx #[.int .i64 m] 3 :: R)) (a b : Int) :
    Calls Tryz.prog 61 #[.agg #[.int .i64 a, .int .i64 b], .pointer (some ⟨bx, 0, none⟩)] w fun e w' => e = .returned (.bool (decide (a = m))) ∧ Sep w0 w' (Blk bx #[.int .i64 m] 3 :: R) := by
  have S1 := S.alloc #[.int .i64 a, .int .i64 b] 123
  have c0 := S1.cell 0 (v := .int .i64 a) rfl
  have c1 := (S1.pull 1).cell 0 (v := .int .i64 m) rfl
  have HS := Aside0.mk S1.drop
  clear S S1
  go_enter Tryz.func61, Tryz.ntmps61
  go_wp2_with fail
  go_ret
  exact ⟨by simp; by_cases h : a = m <;> simp [h], HS.out⟩
/-- The place of a mark among the savepoints; -1: none. -/
def markAt : List (Int × Nat) → Int → Int → Int
  | [], _, _ => -1
  | x :: r, m, i => if x.1 = m then i else markAt r m (i + 1)
theorem markAt_no {sv : List (Int × Nat)} {m : Int} (h : ∀ x ∈ sv, x.1 ≠ m) : ∀ i, markAt sv m i = -1 := by
  induction sv with
  | nil => exact fun i => rfl
  | cons x r ih =>
    intro i
    unfold markAt
    rw [if_neg (h x (by simp)), ih fun y hy => h y (by simp [hy])]
theorem markAt_yes : ∀ (sv : List (Int × Nat)) (m : Int) (j : Nat) (i : Int) (hj : j < sv.length) (h : sv[j].1 = m) (hn : ∀ k (hk : k < sv.length), k < j → sv[k].1 ≠ m), markAt sv m i = i + (j : Int)
  | x :: r, m, 0, i, _, h, _ => by
    unfold markAt
    rw [if_pos (show x.1 = m from h)]
    show i = i + ((0 : Nat) : Int)
    omega
  | x :: r, m, j + 1, i, hj, h, hn => by
    have hx : x.1 ≠ m := hn 0 (by simp) (Nat.succ_pos j)
    unfold markAt
    rw [if_neg hx, markAt_yes r m j (i + 1) (by simpa using hj) h fun k hk hkj => hn (k + 1) (by simpa using hk) (by omega)]
    omega
theorem svC_at {es : List (Int × Nat)} {i : Nat} {x : Int × Nat} (h : es[i]? = some x) : (svC es)[i * 2]? = some (.int .i64 x.1) ∧ (svC es)[i * 2 + 1]? = some (.int .i64 (x.2 : Int)) := by
  induction es generalizing i with
  | nil => simp at h
  | cons y r ih =>
    cases i with
    | zero =>
      simp at h
      subst h
      exact ⟨rfl, rfl⟩
    | succ i =>
      have h' : r[i]? = some x := by simpa using h
      have := ih h'
      have e1 : (i + 1) * 2 = i * 2 + 2 := by omega
      rw [e1]
      exact ⟨this.1, this.2⟩
set_option maxRecDepth 100000 in
set_option maxHeartbeats 4000000 in
/-- slices.IndexFunc over the savepoints. -/
theorem index_s {sv : List (Int × Nat)} {g c : Nat} (S : Sep w0 w (Blk bx #[.int .i64 m] 3 :: Own 123 2 (.slice (some ⟨g, 0, none⟩) sv.length c) sv.length (svC sv) :: R)) (hsl : sv.length ≤ 1000000) :
    Calls Tryz.prog 60 #[.slice (some ⟨g, 0, none⟩) sv.length c, .func (.func 61) #[] #[.pointer (some ⟨bx, 0, none⟩)]] w fun e w' => e = .returned (.int .i64 (markAt sv m 0)) ∧ Sep w0 w' (Blk bx #[.int .i64 m] 3 :: Own 123 2 (.slice (some ⟨g, 0, none⟩) sv.length c) sv.length (svC sv) :: R) := by
  go_enter Tryz.func60, Tryz.ntmps60
  go_wp2_with fail
  go_loopw [8] (fun iv wr => ∃ j : Nat, j ≤ sv.length ∧ iv = .int .i64 (j : Int) ∧ Aside0 (∀ k (hk : k < sv.length), k < j → sv[k].1 ≠ m) ∧ Sep w0 wr (Blk bx #[.int .i64 m] 3 :: Own 123 2 (.slice (some ⟨g, 0, none⟩) sv.length c) sv.length (svC sv) :: R)) (fun iv _ => (sv.length - intOf iv).toNat)
  case atStart => exact ⟨0, Nat.zero_le _, rfl, ⟨fun k hk h => absurd h (Nat.not_lt_zero k)⟩, S⟩
  case round =>
    clear S
    obtain ⟨j, hj, rfl, HN, S⟩ := hrel
    by_cases hlt : j < sv.length
    · have d1 : (j : Int) < (sv.length : Int) := by omega
      obtain ⟨x, hx⟩ : ∃ x, x = sv[j] := ⟨_, rfl⟩
      have hx2 : sv[j]? = some x := by rw [hx]; exact List.getElem?_eq_getElem hlt
      have v0 := (S.pull 1).row.cells (g := g) rfl _ _ (svC_at hx2).1
      have v1 := (S.pull 1).row.cells (g := g) rfl _ _ (svC_at hx2).2
      rw [add_plain] at v0 v1
      have kj : (j : Int) * 2 = ((j * 2 : Nat) : Int) := by omega
      have hb := back1_s S x.1 (x.2 : Int)
      have HX := Aside0.mk hx
      clear S hx hx2
      by_cases hm : x.1 = m
      · rw [decide_eq_true hm] at hb
        have HM := Aside0.mk hm
        clear hm
        go_wp2_with fail
        refine hb.mono ?_
        clear hb v0 v1
        rintro _ w2 ⟨rfl, S⟩
        have HS := Aside0.mk S
        clear S
        go_wp2_with fail
        go_ret
        exact ⟨by rw [markAt_yes sv m j 0 hlt (by rw [← HX.out]; exact HM.out) HN.out]; simp, HS.out⟩
      · rw [decide_eq_false hm] at hb
        have HM := Aside0.mk hm
        clear hm
        go_wp2_with fail
        refine hb.mono ?_
        clear hb v0 v1
        rintro _ w2 ⟨rfl, S⟩
        have HS := Aside0.mk S
        clear S
        go_wp2_with fail
        exact ⟨⟨j + 1, hlt, by go_num, ⟨fun k hk hkj => by
          by_cases e : k = j
          · subst e
            rw [← HX.out]
            exact HM.out
          · exact HN.out k hk (by omega)⟩, HS.out⟩, by simp [intOf]; omega⟩
    · have d1 : ¬ (j : Int) < (sv.length : Int) := by omega
      have HS := Aside0.mk S
      clear S
      go_wp2_with fail
      go_ret
      exact ⟨by rw [markAt_no (fun x hx => by
        obtain ⟨k, hk, e⟩ := List.mem_iff_getElem.1 hx
        rw [← e]
        exact HN.out k hk (by omega))]; rfl, HS.out⟩
/-- A row that is cut short. -/
theorem Sep.cut_row {e : TypeId} {size n k c : Nat} {A : Option Addr} {xs : List Value} (S : Sep w0 w (Own e size (.slice A n c) n xs :: R)) (h : k ≤ n) : Sep w0 w (Own e size (.slice A k c) k (xs.take (k * size)) :: R) := by
  obtain ⟨F1, h1, hs1, h3⟩ := S.star
  exact ⟨S.bel, F1, ⟨own_take h1.1 h, fun j hj => h1.2.1 j (by cases A <;> exact hj), h1.2.2⟩, hs1, h3⟩
end
end Go.Proofs.YtlhlmjkocmahmaaGreatDoor.Sep
/- Back: what was written behind a savepoint is taken back. (under way) -/
namespace Go.Proofs.YtlhlmjkocmahmaaGreatDoor.Sep
open Go.Proofs Go.RowKit Go.ChangeMaps Go.Proofs.YtlhlmjkocmahmaaGreatDoorW.PrintWords Go.Proofs.YtlhlmjkocmahmaaGreatDoorW.PrintLast Go.Proofs.YtlhlmjkocmahmaaGreatDoorW.PrintMore Go.Proofs.YtlhlmjkocmahmaaGreatDoor.Dev Go.Proofs.YtlhlmjkocmahmaaGreatDoor.Errs Go.Proofs.YtlhlmjkocmahmaaGreatDoor.Jr Go.Proofs.YtlhlmjkocmahmaaGreatDoor.Help Go.Proofs.YtlhlmjkocmahmaaGreatDoor.IMap
set_option linter.unusedVariables false
set_option linter.unusedSimpArgs false
section
variable {w0 w w' : World} {R : List Asn} {q p d : Nat} {v : JV} {t : TV} {s : DS} {us : List UR} {sv : List (Int × Nat)} {os : List (Nat × Array Value × TypeId)} {m : Int}
/-- What is left, the undos from the k-th on done, the last first. -/
def undoTo (us : List UR) (M : MV) (k : Nat) : MV := (us.drop k).foldr (fun u M => u.undo M) M
theorem undoTo_all (us : List UR) (M : MV) : undoTo us M us.length = M := by
  unfold undoTo
  rw [List.drop_length]
  rfl
theorem undoTo_step {us : List UR} {M : MV} {j : Nat} {u : UR} (h : us[j]? = some u) : undoTo us M j = u.undo (undoTo us M (j + 1)) := by
  obtain ⟨hj, e⟩ := List.getElem?_eq_some_iff.1 h
  unfold undoTo
  rw [List.drop_eq_getElem_cons hj, e]
  rfl
theorem us_val {us : List UR} {i : Nat} {u : UR} (h : us[i]? = some u) : (us.map UR.val)[i]? = some u.val := by rw [List.getElem?_map, h]; rfl
set_option maxRecDepth 100000 in
set_option maxHeartbeats 4000000 in
/-- Back to a mark that is none. -/
theorem back_no (S : Sep w0 w (TBlk q p t :: JBlk p d v :: DevA d s :: Own 1 1 t.un us.length (us.map UR.val) :: Own 123 2 t.sv sv.length (svC sv) :: R)) (hal : openB q v = true ∧ s.off = false) (hv : v.tx = some q) (hsl : sv.length ≤ 1000000) (h0 : 0 < sv.length) (hno : ∀ x ∈ sv, x.1 ≠ m) :
    Calls Tryz.prog 28 #[.pointer (some ⟨q, 0, none⟩), .int .i64 m] w fun e w' => e = .returned (.int .i64 75) ∧ Sep w0 w' (TBlk q p t :: JBlk p d v :: DevA d s :: Own 1 1 t.un us.length (us.map UR.val) :: Own 123 2 t.sv sv.length (svC sv) :: R) := by
  have h1 := hal.1
  unfold openB at h1
  simp at h1
  have hal0 : aliveE v s = 0 := by
    unfold aliveE
    rw [h1.1, hal.2]
    rfl
  have hfe : fineE q v s 0 = 0 := by
    unfold fineE
    rw [hal.1, if_pos rfl, if_pos rfl, hal0]
  have hfv := (fineV_0 hfe).1
  have S1 := S.alloc #[.int .i64 m] 3
  obtain ⟨bx, hbx⟩ : ∃ bx, bx = w.heap.size := ⟨_, rfl⟩
  obtain ⟨W1, hW1⟩ : ∃ W1, W1 = w.alloc (.cells #[.int .i64 m] 3) := ⟨_, rfl⟩
  rw [← hbx, ← hW1] at S1
  have hfi := fine_s (((S1.pull 3).pull 3).pull 3) (by rw [hv]; exact oth_self _ _) 0
  rw [hfe, hfv] at hfi
  have HNO := Aside0.mk (markAt_no hno 0)
  clear S S1 hfe hfv hal0 h1 hal hno
  go_enter Tryz.func28, Tryz.ntmps28
  go_upto_region 1 with fail
  rw [← hbx, ← hW1]
  clear hbx hW1
  go_wp2_with fail
  refine hfi.mono ?_
  clear hfi
  rintro _ w1 ⟨rfl, S⟩
  obtain ⟨As, cs, hs⟩ := own_slice (S.pull 5).row
  rw [hs] at S
  obtain ⟨gs, rfl⟩ := (S.pull 5).addr (by omega)
  have HSV := Aside0.mk hs
  have c3 := S.cell 3 (v := t.sv) rfl
  rw [hs] at c3
  have hix := index_s (((S.pull 5).pull 4)) hsl
  rw [HNO.out] at hix
  clear S hs
  go_wp2_with fail
  refine hix.mono ?_
  clear hix c3
  rintro _ w2 ⟨rfl, S⟩
  have HS := Aside0.mk S
  clear S
  go_wp2_with fail
  go_ret
  have S := HS.out
  rw [← HSV.out] at S
  exact ⟨rfl, ((((S.drop.pull 4).pull 4).pull 4).pull 4)⟩
theorem svC_take : ∀ (es : List (Int × Nat)) (k : Nat), (svC es).take (k * 2) = svC (es.take k)
  | [], k => by simp [svC]
  | x :: r, 0 => by simp [svC]
  | x :: r, k + 1 => by
    have e : (k + 1) * 2 = k * 2 + 1 + 1 := by omega
    rw [e, List.take_succ_cons]
    show (_ :: _ :: svC r).take _ = _ :: _ :: svC (r.take k)
    rw [List.take_succ_cons, List.take_succ_cons, svC_take r k]
theorem own_cap' {b e size n : Nat} {A : Option Addr} {c : Nat} {xs : List Value} (h : w.ownsRow b e size (.slice A n c) n xs) : n ≤ c := by
  rcases h.2 with ⟨h1, h2⟩ | ⟨g, cap, cur, e1, _, _, h3, _⟩
  · omega
  · cases e1
    exact h3
set_option maxRecDepth 100000 in
set_option maxHeartbeats 4000000 in
/-- Back to a mark. -/
theorem back_yes (S : Sep w0 w (TBlk q p t :: MapA t.bw (vals t.M) :: JBlk p d v :: DevA d s :: Own 1 1 t.un us.length (us.map UR.val) :: Own 123 2 t.sv sv.length (svC sv) :: KeptA os :: R)) (hal : openB q v = true ∧ s.off = false) (hv : v.tx = some q) (hsl : sv.length ≤ 1000000) (hul : us.length ≤ 1000000)
    (hus : ∀ u ∈ us, (∀ x ∈ u.boxes q, x ∈ os) ∧ (Lit.int .i64 u.b).wf = true) (i k : Nat) (hi : sv[i]? = some (m, k)) (hk : k ≤ us.length) (hfst : ∀ j x, sv[j]? = some x → j < i → x.1 ≠ m) :
    Calls Tryz.prog 28 #[.pointer (some ⟨q, 0, none⟩), .int .i64 m] w fun e w' => e = .returned (.int .i64 0) ∧ ∃ x y : Value, Sep w0 w' (TBlk q p { t with M := undoTo us t.M k, un := x, sv := y } :: MapA t.bw (vals (undoTo us t.M k)) :: JBlk p d v :: DevA d s :: Own 1 1 x k ((us.take k).map UR.val) :: Own 123 2 y (i + 1) (svC (sv.take (i + 1))) :: KeptA os :: R) := by
  obtain ⟨hil, hie⟩ := List.getElem?_eq_some_iff.1 hi
  have hmk : markAt sv m 0 = (i : Int) := by
    rw [markAt_yes sv m i 0 hil (by rw [hie]) fun j hj hji => hfst j _ (List.getElem?_eq_getElem hj) hji]
    omega
  have h1 := hal.1
  unfold openB at h1
  simp at h1
  have hal0 : aliveE v s = 0 := by
    unfold aliveE
    rw [h1.1, hal.2]
    rfl
  have hfe : fineE q v s 0 = 0 := by
    unfold fineE
    rw [hal.1, if_pos rfl, if_pos rfl, hal0]
  have hfv := (fineV_0 hfe).1
  have S1 := S.alloc #[.int .i64 m] 3
  obtain ⟨bx, hbx⟩ : ∃ bx, bx = w.heap.size := ⟨_, rfl⟩
  obtain ⟨W1, hW1⟩ : ∃ W1, W1 = w.alloc (.cells #[.int .i64 m] 3) := ⟨_, rfl⟩
  rw [← hbx, ← hW1] at S1
  have hfi := fine_s (((((((S1.pull 7).pull 3).pull 7).pull 7).pull 7).pull 7).pull 7) (by rw [hv]; exact oth_self _ _) 0
  rw [hfe, hfv] at hfi
  have HU := Aside0.mk hus
  have HI := Aside0.mk (And.intro hi hil)
  clear S S1 hfe hfv hal0 h1 hal hus hfst hie hi
  go_enter Tryz.func28, Tryz.ntmps28
  go_upto_region 1 with fail
  rw [← hbx, ← hW1]
  clear hbx hW1
  go_wp2_with fail
  refine hfi.mono ?_
  clear hfi
  rintro _ w1 ⟨rfl, S⟩
  obtain ⟨As, cs, hs⟩ := own_slice (S.pull 4).row
  obtain ⟨Au, cu, hu⟩ := own_slice (S.pull 3).row
  rw [hs, hu] at S
  obtain ⟨gs, rfl⟩ := (S.pull 4).addr (by omega)
  have HSV := Aside0.mk (And.intro hs hu)
  have c3 := S.cell 3 (v := .slice (some ⟨gs, 0, none⟩) sv.length cs) (by rw [← hs]; rfl)
  have hix := index_s ((S.pull 4).pull 7) hsl
  rw [hmk] at hix
  clear S hs hu hmk
  go_wp2_with fail
  refine hix.mono ?_
  clear hix c3
  rintro _ w2 ⟨rfl, S⟩
  have hT : TBlk q p t = Blk q #[.pointer (some ⟨p, 0, none⟩), .map (some t.bw), .slice Au us.length cu, .slice (some ⟨gs, 0, none⟩) sv.length cs, .int .i64 t.marks] 119 := by
    show Blk q #[_, _, t.un, t.sv, _] _ = _
    rw [HSV.out.1, HSV.out.2]
  rw [hT] at S
  have c2 := (S.pull 2).cell 2 (v := .slice Au us.length cu) rfl
  have n0 : ¬ (i : Int) < 0 := by omega
  have HT := Aside0.mk hT
  have HS := Aside0.mk S
  clear S hT
  go_wp2_with fail
  go_loopw [7] (fun nv wr => ∃ j : Nat, k ≤ j ∧ j ≤ us.length ∧ nv = .int .i64 ((j : Int) - 1) ∧ Sep w0 wr (Blk bx #[.int .i64 m] 3 :: Own 123 2 (.slice (some ⟨gs, 0, none⟩) sv.length cs) sv.length (svC sv) :: Blk q #[.pointer (some ⟨p, 0, none⟩), .map (some t.bw), .slice Au us.length cu, .slice (some ⟨gs, 0, none⟩) sv.length cs, .int .i64 t.marks] 119 :: JBlk p d v :: DevA d s :: Own 1 1 (.slice Au us.length cu) us.length (us.map UR.val) :: MapA t.bw (vals (undoTo us t.M j)) :: KeptA os :: R)) (fun nv _ => (intOf nv + 1).toNat)
  case atStart => exact ⟨us.length, hk, Nat.le_refl _, rfl, by rw [undoTo_all]; exact HS.out⟩
  case round =>
    clear HS c2
    obtain ⟨j, hkj, hju, rfl, S⟩ := hrel
    have c2 := (S.pull 2).cell 2 (v := .slice Au us.length cu) rfl
    have c3 := (S.pull 2).cell 3 (v := .slice (some ⟨gs, 0, none⟩) sv.length cs) rfl
    have v1 := (S.pull 1).row.cells (g := gs) rfl _ _ (svC_at HI.out.1).2
    rw [add_plain] at v1
    replace v1 : wr.cell? ⟨gs, i * 2 + 1, none⟩ = some (.int .i64 (k : Int)) := v1
    have ki : (i : Int) * 2 + 1 = ((i * 2 + 1 : Nat) : Int) := by omega
    have ki2 : (i : Int) * 2 = ((i * 2 : Nat) : Int) := by omega
    by_cases hlt : k < j
    · obtain ⟨j', rfl⟩ : ∃ j', j = j' + 1 := ⟨j - 1, by omega⟩
      rw [show ((j' + 1 : Nat) : Int) - 1 = (j' : Int) by omega]
      obtain ⟨u, hu⟩ : ∃ u, us[j']? = some u := ⟨_, List.getElem?_eq_getElem (by omega)⟩
      have d1 : (j' : Int) ≥ (k : Int) := by omega
      have d2 : (j' : Int) < (us.length : Int) := by omega
      have hstep := undoTo_step (M := t.M) hu
      obtain ⟨gu, rfl⟩ := (S.pull 5).addr (by omega)
      have vu := (S.pull 5).val j' (us_val hu)
      have hun := undo_s (t := ⟨t.bw, undoTo us t.M (j' + 1), .slice (some ⟨gu, 0, none⟩) us.length cu, .slice (some ⟨gs, 0, none⟩) sv.length cs, t.marks⟩) (p := p) (((S.pull 6).pull 3).pull 7) (HU.out u (List.mem_of_getElem? hu)).1 (HU.out u (List.mem_of_getElem? hu)).2
      rw [← hstep] at hun
      unfold UR.val at vu
      clear S hstep hu
      go_wp2_with fail
      refine hun.mono ?_
      clear hun vu v1 c2 c3
      rintro _ w3 ⟨rfl, S⟩
      have HS := Aside0.mk (((((((S.pull 2).pull 7).pull 7).pull 7).pull 5).pull 7).pull 7)
      clear S
      go_wp2_with fail
      exact ⟨⟨j', by omega, by omega, rfl, HS.out⟩, by simp [intOf] <;> omega⟩
    · obtain rfl : j = k := by omega
      have d1 : ¬ ((j : Int) - 1 ≥ (j : Int)) := by omega
      have f2 := (S.pull 2).free 2
      have S2 := (S.pull 2).set 2 (.slice Au j cu)
      have f3 := S2.free 3
      have e3 := S2.cell 3 (v := .slice (some ⟨gs, 0, none⟩) sv.length cs) rfl
      have S3 := S2.set 3 (.slice (some ⟨gs, 0, none⟩) (i + 1) cs)
      have HS := Aside0.mk S3
      have hcu : us.length ≤ cu ∧ sv.length ≤ cs := ⟨own_cap' (S.pull 5).row, own_cap' (S.pull 1).row⟩
      obtain ⟨q1, q2⟩ := hcu
      clear S S2 S3 n0
      go_wp2_with fail
      go_region
      all_goals (go_wp2_with fail)
      go_ret
      have S := HS.out.pull 1 |>.drop
      have S := (S.pull 1).cut_row (show i + 1 ≤ sv.length from hil)
      rw [svC_take] at S
      have S := (S.pull 4).cut_row hju
      rw [Nat.mul_one, ← List.map_take] at S
      exact ⟨rfl, .slice Au j cu, .slice (some ⟨gs, 0, none⟩) (i + 1) cs, ((((S.pull 4).pull 4).pull 5).pull 5).drew⟩
end
end Go.Proofs.YtlhlmjkocmahmaaGreatDoor.Sep
/- Savepoints: what undoing takes back. -/
namespace Go.Proofs.YtlhlmjkocmahmaaGreatDoor.Sep
open Go.Proofs Go.RowKit Go.Proofs.YtlhlmjkocmahmaaGreatDoorW.PrintWords Go.Proofs.YtlhlmjkocmahmaaGreatDoor.Dev Go.Proofs.YtlhlmjkocmahmaaGreatDoor.Jr Go.Proofs.YtlhlmjkocmahmaaGreatDoor.Help
set_option linter.unusedVariables false
set_option linter.unusedSimpArgs false
theorem undoTo_more (us : List UR) (u : UR) (M M' : MV) (h : u.undo M' = M) {k : Nat} (hk : k ≤ us.length) : undoTo (us ++ [u]) M' k = undoTo us M k := by
  unfold undoTo
  rw [List.drop_append_of_le_length hk, List.foldr_append]
  show List.foldr _ (u.undo M') _ = _
  rw [h]
theorem undoTo_back (us : List UR) (M : MV) {k j : Nat} (hk : k ≤ us.length) (hj : j ≤ k) : undoTo (us.take k) (undoTo us M k) j = undoTo us M j := by
  unfold undoTo
  rw [← List.foldr_append]
  congr 1
  rw [List.drop_take]
  have e : us.drop j = (us.drop j).take (k - j) ++ (us.drop j).drop (k - j) := (List.take_append_drop _ _).symm
  rw [List.drop_drop, show j + (k - j) = k by omega] at e
  exact e.symm
/-- What a write is undone to. -/
theorem UR.undo_ins {u : UR} {M : MV} {x : Nat × List Int} (hM : SM.Up M) (h : u.was = SM.lkp M u.b) : u.undo (SM.ins M u.b x) = M := by
  unfold UR.undo
  cases hw : u.was with
  | some y =>
    rw [hw] at h
    refine SM.ext ((hM.ins _ _).ins _ _) hM fun k => ?_
    show SM.lkp (SM.ins (SM.ins M u.b x) u.b y) k = _
    rw [SM.look_ins, SM.look_ins]
    by_cases e : k = u.b
    · rw [if_pos e, e]
      exact h
    · rw [if_neg e, if_neg e]
  | none =>
    rw [hw] at h
    refine SM.ext ((hM.ins _ _).del _) hM fun k => ?_
    show SM.lkp (SM.del (SM.ins M u.b x) u.b) k = _
    rw [SM.look_del, SM.look_ins]
    by_cases e : k = u.b
    · rw [if_pos e, e]
      exact h
    · rw [if_neg e, if_neg e]
end Go.Proofs.YtlhlmjkocmahmaaGreatDoor.Sep
/- An open transaction over a live journal: Read, Write, Commit, told by the state alone. -/
namespace Go.Proofs.YtlhlmjkocmahmaaGreatDoor.Sep
open Go.Proofs Go.RowKit Go.ChangeMaps Go.Proofs.YtlhlmjkocmahmaaGreatDoorW.PrintWords Go.Proofs.YtlhlmjkocmahmaaGreatDoorW.PrintLast Go.Proofs.YtlhlmjkocmahmaaGreatDoorW.PrintMore Go.Proofs.YtlhlmjkocmahmaaGreatDoor.Dev Go.Proofs.YtlhlmjkocmahmaaGreatDoor.Errs Go.Proofs.YtlhlmjkocmahmaaGreatDoor.Jr Go.Proofs.YtlhlmjkocmahmaaGreatDoor.Help Go.Proofs.YtlhlmjkocmahmaaGreatDoor.IMap
set_option linter.unusedVariables false
set_option linter.unusedSimpArgs false
section
variable {w0 w w' : World} {R : List Asn} {q p d : Nat} {ps : List (Nat × List Int)} {v : JV} {s : DS} {G : Geo} {W : Int → List Int} {t : TV} {os : List (Nat × Array Value × TypeId)} {us : List UR} {A : Option Addr} {c : Nat} {l : List Int} {M : MV}
theorem tread_live {q : Nat} {t : TV} (L : LiveV G s v ps W) (S : Sep w0 w (TBlk q p t :: MapA t.bw (vals t.M) :: JBlk p d { v with tx := some q } :: MapA v.bm (vals v.M) :: PoolA ps :: DevA d s :: R)) (hIt : Ins t.M ps) (hl : ∀ x ∈ t.M, x.2.2.length = 512) {b : Int} (hb : G.out b = true) :
    Calls Tryz.prog 29 #[.pointer (some ⟨q, 0, none⟩), .int .i64 b] w fun e w' => ∃ g, e = .returned (.tuple #[.slice (some ⟨g, 0, none⟩) 512 512, .int .i64 0]) ∧
      Sep w0 w' (Byt (some ⟨g, 0, none⟩) 512 512 ((SM.lkp (dat t.M) b).getD (W b)) :: TBlk q p t :: MapA t.bw (vals t.M) :: JBlk p d { v with tx := some q } :: MapA v.bm (vals v.M) :: PoolA ps :: DevA d s :: R) := by
  have hg : ({ v with tx := some q } : JV).geo s = G := L.geo
  have ho := out_not_log L.live.fits.geo hb
  have hn := L.live.fits.geo.n1
  have hop : openB q { v with tx := some q } = true := by
    unfold openB
    rw [show ({ v with tx := some q } : JV).ended = v.ended from rfl, L.ended]
    simp
  refine (tread_s (v := { v with tx := some q }) S (oth_self w q) L.ins hIt (by rw [hg]; exact L.live.fits.geo) b ⟨hop, L.off⟩ (by rw [hg]; exact hb) (by omega)).mono ?_
  rintro e w' ⟨g, l, hl2, rfl, S1⟩
  have hr := L.read hb
  have e1 : l = (SM.lkp (dat t.M) b).getD (W b) := by
    rw [hl2]
    cases hk : SM.lkp (dat t.M) b with
    | some x =>
      obtain ⟨y, hy, he⟩ := List.mem_map.1 (SM.look_mem hk)
      cases he
      exact blk_full (hl y hy)
    | none =>
      show Go.Proofs.YtlhlmjkocmahmaaGreatDoor.Sep.blk (committedP v s b).1 = W b
      rw [hr.1]
      exact blk_full hr.2
  rw [e1] at S1
  exact ⟨g, rfl, S1⟩
theorem reads_in {Ls : List Asn} {n : Nat} (S : Sep w0 w (Ls ++ Byt A n c l :: R)) : ReadsInt w .u8 A n l := by
  obtain ⟨F, h, _⟩ := S.at_ (A := Byt A n c l) Ls.length (by simp)
  exact own_reads' h.1
theorem LiveV.sub {ps' : List (Nat × List Int)} (L : LiveV G s v ps W) (h : ∀ x ∈ ps, x ∈ ps') : LiveV G s v ps' W := ⟨L.live, L.geo, L.ended, fun x hx => h _ (L.ins x hx)⟩
theorem open_live (L : LiveV G s v ps W) (q : Nat) : openB q { v with tx := some q } = true := by
  unfold openB
  rw [show ({ v with tx := some q } : JV).ended = v.ended from rfl, L.ended]
  simp
/-- A transaction as it was filled. -/
structure TxOk (G : Geo) (M : MV) : Prop where
  up : SM.Up M
  few : M.length ≤ 24
  ok : ∀ x ∈ M, G.out x.1 = true ∧ x.2.2.length = 512 ∧ Byte x.2.2
theorem TxOk.good (h : TxOk G M) (hn : M ≠ []) : Jr.Good G (dat M) := by
  have hl : (dat M).length = M.length := SM.len_on _ _
  refine ⟨h.up.on _, ?_, by rw [hl]; exact h.few, fun x hx => ?_⟩
  · rw [hl]
    cases M with
    | nil => exact absurd rfl hn
    | cons a r => exact Nat.succ_le_succ (Nat.zero_le _)
  · obtain ⟨y, hy, rfl⟩ := List.mem_map.1 hx
    exact h.ok y hy
end
section
variable {w0 w w' : World} {R : List Asn} {q p d : Nat} {ps : List (Nat × List Int)} {v : JV} {s : DS} {G : Geo} {W : Int → List Int} {t : TV} {m : SMb} {J : JS} {also : Bool}
theorem Still.logged (h : Still s) (a b : Int) (m : SMb) : Still (Jr.logged G s a b m).2 := by
  unfold Jr.logged
  dsimp only
  repeat' split
  · exact ((Still.writes _ h).flush.write _ _).flush
  · exact (Still.writes _ h).flush.write _ _
  · exact (Still.writes _ h).flush
  · exact Still.writes _ h
theorem Still.loggedE (h : Still s) (v : JV) (m : SMb) : Still (Go.Proofs.YtlhlmjkocmahmaaGreatDoor.Sep.loggedE v s m).2 := by
  have h1 : Still (Jr.room (v.geo s) s (jsOf v) m).2.1 := by
    unfold Jr.room
    split
    · exact h.checkpoint _
    · exact h
  unfold Go.Proofs.YtlhlmjkocmahmaaGreatDoor.Sep.loggedE
  split
  · exact h1.logged _ _ _
  · exact h1
end
section
variable {w0 w w' : World} {R : List Asn} {q p d : Nat} {ps : List (Nat × List Int)} {v : JV} {t : TV} {s : DS} {sa : Addr} {G : Geo} {W : Int → List Int} {J : JS} {M : MV}
/-- The device behind a commit of M. -/
def comD (v : JV) (s : DS) (M : MV) : DS := if M = [] then s else (loggedE v s (dat M)).2
theorem com_still (L : LiveV G s v ps W) (h0 : s.fuse = 0) (hI : Ins M ps) (X : TxOk G M) (hseq : (W (-1)).length ≤ 1000000) : (M ≠ [] → (loggedE v s (dat M)).1 = 0) ∧ (comD v s M).fuse = 0 := by
  have h5 := Still.loggedE (s := s) ⟨L.off, h0⟩ v (dat M)
  have hsq := L.seq
  unfold comD
  by_cases hM : M = []
  · rw [if_pos hM]
    exact ⟨fun h => absurd hM h, h0⟩
  · rw [if_neg hM]
    refine ⟨fun _ => ?_, h5.2⟩
    rcases L.commit hI (X.good hM) (by omega) with ⟨h1, _⟩ | ⟨h1, h2⟩
    · exact h1
    · exact absurd (h5.1.symm.trans h2.off) (by decide)
/-- Commit that is known to go well. -/
theorem tcommit_x (hr : Rt w0) (L : LiveV G s v ps W) (S : Sep w0 w (TBlk q p t :: MapA t.bw (vals t.M) :: JBlk p d { v with tx := some q } :: MapA v.bm (vals v.M) :: PoolA ps :: DevA d s :: R)) (hIt : Ins t.M ps) (X : TxOk G t.M) (hseq : (W (-1)).length ≤ 1000000) (h0 : t.M ≠ [] → (loggedE v s (dat t.M)).1 = 0) :
    Calls Tryz.prog 33 #[.pointer (some ⟨q, 0, none⟩)] w fun e w' => ∃ v' : JV, e = .returned (.int .i64 0) ∧ LiveV G (comD v s t.M) v' ps (if t.M = [] then W else laid W (dat t.M)) ∧ v'.tx = none ∧ v'.bm = v.bm ∧
      Sep w0 w' (TBlk q p t :: MapA t.bw (vals t.M) :: JBlk p d v' :: MapA v'.bm (vals v'.M) :: PoolA ps :: DevA d (comD v s t.M) :: R) := by
  have hg : ({ v with tx := some q } : JV).geo s = G := L.geo
  have hok : (({ v with tx := some q } : JV).geo s).Ok := by rw [hg]; exact L.live.fits.geo
  have hsq := L.seq
  unfold comD
  by_cases hM : t.M = []
  · rw [if_pos hM, if_pos hM]
    refine (commit_none (v := { v with tx := some q }) S hM ⟨open_live L q, L.off⟩).mono ?_
    rintro e w' ⟨rfl, S1⟩
    exact ⟨{ v with tx := none }, rfl, ⟨L.live, L.geo, L.ended, L.ins⟩, rfl, rfl, S1⟩
  · rw [if_neg hM, if_neg hM]
    have hgd := X.good hM
    have hl1 : 1 ≤ t.M.length := by
      cases h : t.M with
      | nil => exact absurd h hM
      | cons a r => exact Nat.succ_le_succ (Nat.zero_le _)
    have hfr := L.free
    have hpd := L.pend
    have hfw := L.few
    refine (commit_s (v := { v with tx := some q }) hr S L.ins hIt hok (by omega) (show v.M.length ≤ 100000 by omega) L.keys hl1 X.few (fun x hx => ?_) L.place ⟨open_live L q, L.off⟩ (show 0 ≤ v.seq ∧ v.seq ≤ 4000000000000 by omega) (show -100000 ≤ v.free ∧ v.free ≤ 100000 by omega)).mono ?_
    · have h1 := X.ok x hx
      have h2 := out_in L.live.fits.geo h1.1
      have h3 := L.live.fits.geo.n1
      exact ⟨h2.1, by omega, h1.2.2⟩
    · rintro e w' ⟨rfl, S1⟩
      have S2 : Sep w0 w' (TBlk q p t :: MapA t.bw (vals t.M) :: JBlk p d (commitV v s t.M) :: MapA v.bm (vals (commitV v s t.M).M) :: PoolA ps :: DevA d (loggedE v s (dat t.M)).2 :: R) := S1
      have c1 : (loggedE ({ v with tx := some q } : JV) s (dat t.M)).1 = 0 := h0 hM
      rcases L.commit hIt hgd (by omega) with ⟨_, k2, k3, k4⟩ | ⟨k1, _⟩
      · rw [← k4] at S2
        exact ⟨commitV v s t.M, by rw [c1], k2, k3, k4, S2⟩
      · rw [h0 hM] at k1
        cases k1
end
end Go.Proofs.YtlhlmjkocmahmaaGreatDoor.Sep
/- A bitmap: bits of bytes, set, cleared, counted; the machine's own operations on bytes. -/
namespace Go.Proofs.YtlhlmjkocmahmaaGreatDoor.Bm
open Go
set_option linter.unusedVariables false
set_option linter.unusedSimpArgs false
/-- The j-th bit of a byte. -/
def bt (x : Int) (j : Nat) : Bool := decide ((x / 2 ^ j) % 2 = 1)
def bset (x : Int) (j : Nat) : Int := if bt x j then x else x + 2 ^ j
def bclr (x : Int) (j : Nat) : Int := if bt x j then x - 2 ^ j else x
/-- How many bits are set below n. -/
def pop (x : Int) : Nat → Int
  | 0 => 0
  | n + 1 => pop x n + if bt x n then 1 else 0
def OkB (x : Int) : Prop := 0 ≤ x ∧ x ≤ 255
theorem fin_all {P : Int → Prop} (h : ∀ x : Fin 256, P (x.val : Int)) {x : Int} (hx : OkB x) : P x := by
  have h1 := hx.1
  have h2 := hx.2
  have := h ⟨x.toNat, by omega⟩
  have e : ((x.toNat : Nat) : Int) = x := by omega
  rw [← e]
  exact this
theorem fin8 {P : Nat → Prop} (h : ∀ j : Fin 8, P j.val) {j : Nat} (hj : j < 8) : P j := h ⟨j, hj⟩
theorem bset_ok {x : Int} (hx : OkB x) {j : Nat} (hj : j < 8) : OkB (bset x j) :=
  fin8 (P := fun j => OkB (bset x j)) (fin_all (P := fun x => ∀ j : Fin 8, OkB (bset x j.val)) (by unfold OkB; decide +kernel) hx) hj
theorem bclr_ok {x : Int} (hx : OkB x) {j : Nat} (hj : j < 8) : OkB (bclr x j) :=
  fin8 (P := fun j => OkB (bclr x j)) (fin_all (P := fun x => ∀ j : Fin 8, OkB (bclr x j.val)) (by unfold OkB; decide +kernel) hx) hj
theorem bt_bset {x : Int} (hx : OkB x) {j k : Nat} (hj : j < 8) (hk : k < 8) : bt (bset x j) k = if k = j then true else bt x k :=
  fin8 (P := fun k => bt (bset x j) k = if k = j then true else bt x k) (fin8 (P := fun j => ∀ k : Fin 8, bt (bset x j) k.val = if k.val = j then true else bt x k.val) (fin_all (P := fun x => ∀ j : Fin 8, ∀ k : Fin 8, bt (bset x j.val) k.val = if k.val = j.val then true else bt x k.val) (by decide +kernel) hx) hj) hk
theorem bt_bclr {x : Int} (hx : OkB x) {j k : Nat} (hj : j < 8) (hk : k < 8) : bt (bclr x j) k = if k = j then false else bt x k :=
  fin8 (P := fun k => bt (bclr x j) k = if k = j then false else bt x k) (fin8 (P := fun j => ∀ k : Fin 8, bt (bclr x j) k.val = if k.val = j then false else bt x k.val) (fin_all (P := fun x => ∀ j : Fin 8, ∀ k : Fin 8, bt (bclr x j.val) k.val = if k.val = j.val then false else bt x k.val) (by decide +kernel) hx) hj) hk
/-! ### the bitmap -/
def OkL (B : List Int) : Prop := ∀ x ∈ B, OkB x
def at_ (B : List Int) (k : Nat) : Int := B.getD k 0
def bit (B : List Int) (i : Nat) : Bool := bt (at_ B (i / 8)) (i % 8)
def setB (B : List Int) (i : Nat) : List Int := B.set (i / 8) (bset (at_ B (i / 8)) (i % 8))
def clrB (B : List Int) (i : Nat) : List Int := B.set (i / 8) (bclr (at_ B (i / 8)) (i % 8))
theorem at_ok {B : List Int} (h : OkL B) (k : Nat) : OkB (at_ B k) := by
  unfold at_
  rw [List.getD_eq_getElem?_getD]
  by_cases hk : k < B.length
  · rw [List.getElem?_eq_getElem hk]
    exact h _ (List.getElem_mem hk)
  · rw [List.getElem?_eq_none (by omega)]
    exact ⟨by decide, by decide⟩
theorem at_set {B : List Int} {j : Nat} (hj : j < B.length) (y : Int) (k : Nat) : at_ (B.set j y) k = if k = j then y else at_ B k := by
  unfold at_
  rw [List.getD_eq_getElem?_getD, List.getElem?_set]
  by_cases e : k = j
  · subst e
    rw [if_pos rfl, if_pos hj, if_pos rfl]
    rfl
  · rw [if_neg (fun h => e h.symm), if_neg e, List.getD_eq_getElem?_getD]
theorem setB_len (B : List Int) (i : Nat) : (setB B i).length = B.length := List.length_set ..
theorem clrB_len (B : List Int) (i : Nat) : (clrB B i).length = B.length := List.length_set ..
theorem ok_set {B : List Int} (h : OkL B) (j : Nat) {y : Int} (hy : OkB y) : OkL (B.set j y) := fun x hx => by
  rcases List.mem_or_eq_of_mem_set hx with q | q
  · exact h x q
  · rw [q]
    exact hy
theorem setB_ok {B : List Int} (h : OkL B) (i : Nat) : OkL (setB B i) := ok_set h _ (bset_ok (at_ok h _) (Nat.mod_lt _ (by decide)))
theorem clrB_ok {B : List Int} (h : OkL B) (i : Nat) : OkL (clrB B i) := ok_set h _ (bclr_ok (at_ok h _) (Nat.mod_lt _ (by decide)))
theorem bit_setB {B : List Int} (h : OkL B) {i : Nat} (hi : i / 8 < B.length) (k : Nat) : bit (setB B i) k = if k = i then true else bit B k := by
  unfold bit setB
  rw [at_set hi]
  by_cases e : k / 8 = i / 8
  · rw [if_pos e, bt_bset (at_ok h _) (Nat.mod_lt _ (by decide)) (Nat.mod_lt _ (by decide)), e]
    by_cases e2 : k = i
    · rw [if_pos e2, if_pos (by rw [e2])]
    · rw [if_neg e2, if_neg (by omega)]
  · rw [if_neg e, if_neg (fun q => e (by rw [q]))]
theorem bit_clrB {B : List Int} (h : OkL B) {i : Nat} (hi : i / 8 < B.length) (k : Nat) : bit (clrB B i) k = if k = i then false else bit B k := by
  unfold bit clrB
  rw [at_set hi]
  by_cases e : k / 8 = i / 8
  · rw [if_pos e, bt_bclr (at_ok h _) (Nat.mod_lt _ (by decide)) (Nat.mod_lt _ (by decide)), e]
    by_cases e2 : k = i
    · rw [if_pos e2, if_pos (by rw [e2])]
    · rw [if_neg e2, if_neg (by omega)]
  · rw [if_neg e, if_neg (fun q => e (by rw [q]))]
/-- How many blocks below n are in use. -/
def cnt (B : List Int) : Nat → Int
  | 0 => 0
  | n + 1 => cnt B n + if bit B n then 1 else 0
theorem cnt_byte (B : List Int) (k : Nat) : ∀ m : Nat, m ≤ 8 → cnt B (8 * k + m) = cnt B (8 * k) + pop (at_ B k) m
  | 0, _ => by simp [pop]
  | m + 1, h => by
    show cnt B (8 * k + m) + (if bit B (8 * k + m) then 1 else 0) = cnt B (8 * k) + (pop (at_ B k) m + if bt (at_ B k) m then 1 else 0)
    rw [cnt_byte B k m (by omega)]
    have e1 : (8 * k + m) / 8 = k := by omega
    have e2 : (8 * k + m) % 8 = m := by omega
    unfold bit
    rw [e1, e2]
    omega
theorem cnt_pos (B : List Int) : ∀ n : Nat, 0 ≤ cnt B n ∧ cnt B n ≤ (n : Int)
  | 0 => ⟨Int.le_refl _, Int.le_refl _⟩
  | n + 1 => by
    have := cnt_pos B n
    unfold cnt
    split <;> omega
theorem cnt_all {B : List Int} : ∀ {n : Nat}, (∀ i, i < n → bit B i = true) → cnt B n = (n : Int)
  | 0, _ => rfl
  | n + 1, h => by
    unfold cnt
    rw [cnt_all fun i hi => h i (by omega), h n (by omega)]
    simp
/-- The lowest that is free. -/
theorem lowest (B : List Int) (D : Nat) : ∃ m, m ≤ D ∧ (∀ i, i < m → bit B i = true) ∧ (m < D → bit B m = false) := by
  induction D with
  | zero => exact ⟨0, Nat.le_refl _, fun i h => absurd h (by omega), fun h => absurd h (by omega)⟩
  | succ D ih =>
    obtain ⟨m, h1, h2, h3⟩ := ih
    by_cases e : m = D
    · subst e
      cases hb : bit B m with
      | true =>
        refine ⟨m + 1, Nat.le_refl _, fun i hi => ?_, fun h => absurd h (by omega)⟩
        by_cases q : i = m
        · rw [q, hb]
        · exact h2 i (by omega)
      | false => exact ⟨m, by omega, h2, fun _ => hb⟩
    · exact ⟨m, by omega, h2, fun _ => h3 (by omega)⟩
/-! ### the machine's operations -/
def wz (x : Int) : Int := IntKind.u8.wrap x
theorem test_is {x : Int} (hx : OkB x) {j : Nat} (hj : j < 8) : (IntKind.u8.wrap ((BitVec.ofInt 8 (x.fdiv (2 ^ j)) &&& BitVec.ofInt 8 1).toNat : Int) = 1) = (bt x j = true) := by
  have h := fin8 (P := fun j => decide (IntKind.u8.wrap ((BitVec.ofInt 8 (x.fdiv (2 ^ j)) &&& BitVec.ofInt 8 1).toNat : Int) = 1) = bt x j) (fin_all (P := fun x => ∀ j : Fin 8, decide (IntKind.u8.wrap ((BitVec.ofInt 8 (x.fdiv (2 ^ j.val)) &&& BitVec.ofInt 8 1).toNat : Int) = 1) = bt x j.val) (by decide +kernel) hx) hj
  have h2 : decide (IntKind.u8.wrap ((BitVec.ofInt 8 (x.fdiv (2 ^ j)) &&& BitVec.ofInt 8 1).toNat : Int) = 1) = bt x j := h
  rw [← h2]
  simp
theorem or_is {x : Int} (hx : OkB x) {j : Nat} (hj : j < 8) : IntKind.u8.wrap ((BitVec.ofInt 8 x ||| BitVec.ofInt 8 (2 ^ j)).toNat : Int) = bset x j :=
  fin8 (P := fun j => IntKind.u8.wrap ((BitVec.ofInt 8 x ||| BitVec.ofInt 8 (2 ^ j)).toNat : Int) = bset x j) (fin_all (P := fun x => ∀ j : Fin 8, IntKind.u8.wrap ((BitVec.ofInt 8 x ||| BitVec.ofInt 8 (2 ^ j.val)).toNat : Int) = bset x j.val) (by decide +kernel) hx) hj
theorem and_is {x : Int} (hx : OkB x) {j : Nat} (hj : j < 8) : IntKind.u8.wrap ((BitVec.ofInt 8 x &&& BitVec.ofInt 8 (2 ^ j)).toNat : Int) = if bt x j then 2 ^ j else 0 :=
  fin8 (P := fun j => IntKind.u8.wrap ((BitVec.ofInt 8 x &&& BitVec.ofInt 8 (2 ^ j)).toNat : Int) = if bt x j then 2 ^ j else 0) (fin_all (P := fun x => ∀ j : Fin 8, IntKind.u8.wrap ((BitVec.ofInt 8 x &&& BitVec.ofInt 8 (2 ^ j.val)).toNat : Int) = if bt x j.val then 2 ^ j.val else 0) (by decide +kernel) hx) hj
theorem clr_is {x : Int} (hx : OkB x) {j : Nat} (hj : j < 8) : IntKind.u8.wrap ((BitVec.ofInt 8 x &&& ~~~ BitVec.ofInt 8 (2 ^ j)).toNat : Int) = bclr x j :=
  fin8 (P := fun j => IntKind.u8.wrap ((BitVec.ofInt 8 x &&& ~~~ BitVec.ofInt 8 (2 ^ j)).toNat : Int) = bclr x j) (fin_all (P := fun x => ∀ j : Fin 8, IntKind.u8.wrap ((BitVec.ofInt 8 x &&& ~~~ BitVec.ofInt 8 (2 ^ j.val)).toNat : Int) = bclr x j.val) (by decide +kernel) hx) hj
theorem shl_is {j : Nat} (hj : j < 8) : IntKind.u8.wrap (1 * 2 ^ j) = 2 ^ j := fin8 (P := fun j => IntKind.u8.wrap (1 * 2 ^ j) = 2 ^ j) (by decide +kernel) hj
/-- The bits of a byte below m alone. -/
def low (x : Int) (m : Nat) : Int := x % 2 ^ m
theorem low_ok {x : Int} (hx : OkB x) {m : Nat} (hm : m < 8) : OkB (low x m) :=
  fin8 (P := fun m => OkB (low x m)) (fin_all (P := fun x => ∀ j : Fin 8, OkB (low x j.val)) (by unfold OkB; decide +kernel) hx) hm
theorem low_is {x : Int} (hx : OkB x) {m : Nat} (hm : m < 8) : IntKind.u8.wrap ((BitVec.ofInt 8 x &&& BitVec.ofInt 8 (IntKind.u8.wrap (2 ^ m - 1))).toNat : Int) = low x m :=
  fin8 (P := fun j => IntKind.u8.wrap ((BitVec.ofInt 8 x &&& BitVec.ofInt 8 (IntKind.u8.wrap (2 ^ j - 1))).toNat : Int) = low x j) (fin_all (P := fun x => ∀ j : Fin 8, IntKind.u8.wrap ((BitVec.ofInt 8 x &&& BitVec.ofInt 8 (IntKind.u8.wrap (2 ^ j.val - 1))).toNat : Int) = low x j.val) (by decide +kernel) hx) hm
theorem pop_low {x : Int} (hx : OkB x) {m : Nat} (hm : m < 8) : pop (low x m) 8 = pop x m :=
  fin8 (P := fun m => pop (low x m) 8 = pop x m) (fin_all (P := fun x => ∀ j : Fin 8, pop (low x j.val) 8 = pop x j.val) (by decide +kernel) hx) hm
end Go.Proofs.YtlhlmjkocmahmaaGreatDoor.Bm
/- The transaction over a bitmap: what it holds, and what Read, Write, Save, Back, Drop, Commit do to it. -/
namespace Go.Proofs.YtlhlmjkocmahmaaGreatDoor.Sep
open Go.Proofs Go.RowKit Go.ChangeMaps Go.Proofs.YtlhlmjkocmahmaaGreatDoorW.PrintWords Go.Proofs.YtlhlmjkocmahmaaGreatDoorW.PrintLast Go.Proofs.YtlhlmjkocmahmaaGreatDoorW.PrintMore Go.Proofs.YtlhlmjkocmahmaaGreatDoor.Dev Go.Proofs.YtlhlmjkocmahmaaGreatDoor.Errs Go.Proofs.YtlhlmjkocmahmaaGreatDoor.Jr Go.Proofs.YtlhlmjkocmahmaaGreatDoor.Help Go.Proofs.YtlhlmjkocmahmaaGreatDoor.IMap
set_option linter.unusedVariables false
set_option linter.unusedSimpArgs false
/-- The region of a layout with so many data blocks. -/
def geoS (D : Nat) : Geo := ⟨35 + (D : Int), 2, 27⟩
theorem geoS_out (D : Nat) : (geoS D).out 33 = true := by
  unfold Geo.out geoS
  simp
  omega
/-- What stands behind a transaction. -/
structure TxI where
  t : TV
  v : JV
  ps : List (Nat × List Int)
  s : DS
  us : List UR
  os : List (Nat × Array Value × TypeId)
  W : Int → List Int
def txL (q p d : Nat) (sv : List (Int × Nat)) (i : TxI) : List Asn := [TBlk q p i.t, MapA i.t.bw (vals i.t.M), JBlk p d { i.v with tx := some q }, MapA i.v.bm (vals i.v.M), PoolA i.ps, DevA d i.s, Own 1 1 i.t.un i.us.length (i.us.map UR.val), KeptA i.os, Own 123 2 i.t.sv sv.length (svC sv)]
structure TxG (q D n k : Nat) (B : List Int) (i : TxI) : Prop where
  live : LiveV (geoS D) i.s i.v i.ps i.W
  fuse : i.s.fuse = 0
  ins : Ins i.t.M i.ps
  ok : TxOk (geoS D) i.t.M
  only : ∀ x ∈ i.t.M, x.1 = 33
  bits : (SM.lkp (dat i.t.M) 33).getD (i.W 33) = B
  few : i.us.length ≤ k
  und : undoTo i.us i.t.M 0 = []
  box : ∀ u ∈ i.us, (∀ x ∈ u.boxes q, x ∈ i.os) ∧ u.b = 33
  seq : (i.W (-1)).length ≤ n
/-- An open transaction: the bitmap as it reads it is B; what stands on the device is Bd; at most k writes, n transactions. -/
def SpA (q p d D n k : Nat) (marks : Int) (sv : List (Int × Nat)) (Bd B : List Int) : Asn := Ex (fun i => TxG q D n k B i ∧ i.W 33 = Bd ∧ i.t.marks = marks) fun i => All (txL q p d sv i)
section
variable {w0 w w' : World} {R : List Asn} {q p d D n k : Nat} {B Bd l : List Int} {sv : List (Int × Nat)} {mk : Int} {C : Asn} {A : Option Addr} {c : Nat} {i : TxI}
theorem Sep.sp (S : Sep w0 w (SpA q p d D n k mk sv Bd B :: R)) : ∃ i, TxG q D n k B i ∧ i.W 33 = Bd ∧ i.t.marks = mk ∧ Sep w0 w (txL q p d sv i ++ R) := by
  obtain ⟨i, ⟨h1, h2, h3⟩, S1⟩ := S.openE
  exact ⟨i, h1, h2, h3, S1.openA⟩
theorem Sep.spOf (i : TxI) (h : TxG q D n k B i) (h2 : i.W 33 = Bd) (h3 : i.t.marks = mk) (S : Sep w0 w (txL q p d sv i ++ R)) : Sep w0 w (SpA q p d D n k mk sv Bd B :: R) :=
  Sep.closeE (f := fun i => All (txL q p d sv i)) i ⟨h, h2, h3⟩ (Sep.closeA S)
theorem TxG.len (h : TxG q D n k B i) : B.length = 512 := by
  have h1 := h.bits
  cases hk : SM.lkp (dat i.t.M) 33 with
  | some x =>
    obtain ⟨y, hy, he⟩ := List.mem_map.1 (SM.look_mem hk)
    have he2 : y.2.2 = x := (Prod.mk.inj he).2
    rw [hk] at h1
    rw [← h1]
    show x.length = 512
    rw [← he2]
    exact (h.ok.ok y hy).2.1
  | none =>
    rw [hk] at h1
    rw [← h1]
    exact (h.live.read (geoS_out D)).2
theorem TxG.few1 (h : TxG q D n k B i) : i.t.M.length ≤ 1 := by
  have h1 := h.ok.up
  have h2 := h.only
  cases hM : i.t.M with
  | nil => exact Nat.zero_le _
  | cons a r =>
    cases r with
    | nil => exact Nat.le_refl _
    | cons b r =>
      rw [hM] at h1 h2
      have h3 : a.1 < b.1 := (List.pairwise_cons.1 h1).1 b (by simp)
      have h4 := h2 a (by simp)
      have h5 := h2 b (by simp)
      omega
theorem Sep.past (S : Sep w0 w (C :: (txL q p d sv i ++ R))) : Sep w0 w (txL q p d sv i ++ C :: R) := S.perm List.perm_middle.symm
/-- The bitmap's block is read. -/
theorem read33 (S : Sep w0 w (SpA q p d D n k mk sv Bd B :: R)) : Calls Tryz.prog 29 #[.pointer (some ⟨q, 0, none⟩), .int .i64 33] w fun e w' => ∃ g, e = .returned (.tuple #[.slice (some ⟨g, 0, none⟩) 512 512, .int .i64 0]) ∧ B.length = 512 ∧ Sep w0 w' (Byt (some ⟨g, 0, none⟩) 512 512 B :: SpA q p d D n k mk sv Bd B :: R) := by
  obtain ⟨i, h, h2, h3, S⟩ := S.sp
  refine (tread_live h.live S h.ins (fun x hx => (h.ok.ok x hx).2.1) (geoS_out D)).mono ?_
  rintro e w' ⟨g, rfl, S⟩
  rw [h.bits] at S
  exact ⟨g, rfl, h.len, (Sep.spOf i h h2 h3 (Sep.past (i := i) S)).swap⟩
theorem Sep.sp_len (S : Sep w0 w (SpA q p d D n k mk sv Bd B :: R)) : B.length = 512 := by
  obtain ⟨i, h, _⟩ := S.sp
  exact h.len
theorem TxG.put (h : TxG q D n k B i) (hl : l.length = 512) (hB : Byte l) (g : Nat) (un : Value) (u : UR) (hb : u.b = 33) (hw : u.was = SM.lkp i.t.M 33) :
    TxG q D n (k + 1) l ⟨{ i.t with M := SM.ins i.t.M 33 (g, l), un := un }, i.v, (g, l) :: i.ps, i.s, i.us ++ [u], (u.bok, #[.bool u.was.isSome], 4) :: (u.bwas, #[wasV u.was], 57) :: (u.bt, #[.pointer (some ⟨q, 0, none⟩)], 32) :: (u.bb, #[.int .i64 33], 3) :: i.os, i.W⟩ := by
  have h1 := h.few1
  refine ⟨h.live.sub fun x hx => List.mem_cons_of_mem _ hx, h.fuse, (h.ins.cons (g, l)).ins 33 (g, l) (by simp), ⟨h.ok.up.ins 33 _, ?_, fun x hx => ?_⟩, fun x hx => ?_, ?_, ?_, ?_, fun y hy => ?_, h.seq⟩
  · rw [SM.len_ins h.ok.up]
    split <;> omega
  · rcases SM.mem_ins hx with e | hx
    · rw [e]
      exact ⟨geoS_out D, hl, hB⟩
    · exact h.ok.ok x hx
  · rcases SM.mem_ins hx with e | hx
    · rw [e]
    · exact h.only x hx
  · have hd : dat (SM.ins i.t.M 33 (g, l)) = SM.ins (dat i.t.M) 33 l := SM.ins_on (fun x : Nat × List Int => x.2) i.t.M 33 (g, l)
    show (SM.lkp (dat (SM.ins i.t.M 33 (g, l))) 33).getD (i.W 33) = l
    rw [hd, SM.look_ins, if_pos rfl]
    rfl
  · show (i.us ++ [u]).length ≤ k + 1
    have := h.few
    rw [List.length_append]
    simp
    exact this
  · show undoTo (i.us ++ [u]) (SM.ins i.t.M 33 (g, l)) 0 = []
    rw [← hb, undoTo_more i.us u i.t.M _ (UR.undo_ins h.ok.up (by rw [hw, hb])) (Nat.zero_le _)]
    exact h.und
  · rcases List.mem_append.1 hy with q1 | q1
    · have h4 := h.box y q1
      exact ⟨fun x hx => List.mem_cons_of_mem _ (List.mem_cons_of_mem _ (List.mem_cons_of_mem _ (List.mem_cons_of_mem _ (h4.1 x hx)))), h4.2⟩
    · obtain rfl := List.mem_singleton.1 q1
      refine ⟨fun x hx => ?_, hb⟩
      unfold UR.boxes at hx
      rw [hb] at hx
      simp only [List.mem_cons, List.not_mem_nil, or_false] at hx ⊢
      rcases hx with e | e | e | e
      · exact .inl e
      · exact .inr (.inl e)
      · exact .inr (.inr (.inl e))
      · exact .inr (.inr (.inr (.inl e)))
/-- The bitmap's block is written. -/
theorem write33 (S : Sep w0 w (Byt A 512 c l :: SpA q p d D n k mk sv Bd B :: R)) (hB : Byte l) (hk : k ≤ 900000) : Calls Tryz.prog 22 #[.pointer (some ⟨q, 0, none⟩), .int .i64 33, .slice A 512 c] w fun e w' => e = .returned (.int .i64 0) ∧ Sep w0 w' (Byt A 512 c l :: SpA q p d D n (k + 1) mk sv Bd l :: R) := by
  have hl : l.length = 512 := S.len
  obtain ⟨i, h, h2, h3, S⟩ := S.swap.sp
  have hg : ({ i.v with tx := some q } : JV).geo i.s = geoS D := h.live.geo
  have hok : (({ i.v with tx := some q } : JV).geo i.s).Ok := by rw [hg]; exact h.live.live.fits.geo
  have hb2 : (({ i.v with tx := some q } : JV).geo i.s).out 33 = true := by rw [hg]; exact geoS_out D
  have hul := h.few
  refine (twrite_ok (v := { i.v with tx := some q }) S h.ins hok 33 ⟨open_live h.live q, h.live.off⟩ hb2 rfl (fun w' Ls S' => reads_in (Ls := Ls ++ [Own 123 2 i.t.sv sv.length (svC sv)]) (R := R) (by rw [List.append_assoc]; exact S')) (.inr (by have := h.few1; omega)) (by omega)).mono ?_
  rintro e w' ⟨rfl, g, un', u, hb, hw, S1⟩
  refine ⟨rfl, ?_⟩
  rw [show i.us.length + 1 = (i.us ++ [u]).length by simp] at S1
  exact (Sep.spOf _ (h.put hl hB g un' u hb hw) h2 h3 S1).swap
/-- A savepoint, ahead of all writing. -/
theorem save33 (S : Sep w0 w (SpA q p d D n 0 mk sv Bd B :: R)) (hm : 0 ≤ mk ∧ mk ≤ 1000000) (hs : sv.length ≤ 1000000) : Calls Tryz.prog 26 #[.pointer (some ⟨q, 0, none⟩)] w fun e w' => e = .returned (.tuple #[.int .i64 (mk + 1), .int .i64 0]) ∧ Sep w0 w' (SpA q p d D n 0 (mk + 1) (sv ++ [(mk + 1, 0)]) Bd B :: R) := by
  obtain ⟨i, h, h2, h3, S⟩ := S.sp
  have hul := h.few
  have hu0 : i.us.length = 0 := by omega
  have S2 : Sep w0 w (TBlk q p i.t :: JBlk p d { i.v with tx := some q } :: DevA d i.s :: Own 1 1 i.t.un i.us.length (i.us.map UR.val) :: Own 123 2 i.t.sv sv.length (svC sv) :: MapA i.t.bw (vals i.t.M) :: MapA i.v.bm (vals i.v.M) :: PoolA i.ps :: KeptA i.os :: R) := (((((S.pull 8).pull 7).pull 7).pull 5).pull 4)
  refine (save_s (v := { i.v with tx := some q }) S2 ⟨open_live h.live q, h.live.off⟩ rfl (by rw [h3]; exact hm) hs (by omega)).mono ?_
  rintro e w' ⟨x, rfl, S3⟩
  rw [h3, hu0] at S3
  rw [h3]
  refine ⟨rfl, Sep.spOf ⟨{ i.t with sv := x, marks := mk + 1 }, i.v, i.ps, i.s, i.us, i.os, i.W⟩ ⟨h.live, h.fuse, h.ins, h.ok, h.only, h.bits, h.few, h.und, h.box, h.seq⟩ h2 rfl ?_⟩
  have S4 := ((((((((S3.pull 8).pull 4).pull 4).pull 8).pull 8).pull 6).pull 8).pull 7)
  rw [show sv.length + 1 = (sv ++ [(mk + 1, 0)]).length by simp] at S4
  rw [← hu0] at S4 ⊢
  exact S4
/-- All is taken back that was written behind the savepoint. -/
theorem back33 (S : Sep w0 w (SpA q p d D n k mk [(1, 0)] Bd B :: R)) (hk : k ≤ 900000) : Calls Tryz.prog 28 #[.pointer (some ⟨q, 0, none⟩), .int .i64 1] w fun e w' => e = .returned (.int .i64 0) ∧ Sep w0 w' (SpA q p d D n 0 mk [(1, 0)] Bd Bd :: R) := by
  obtain ⟨i, h, h2, h3, S⟩ := S.sp
  have hul := h.few
  have S2 := (((((((S.pull 7).pull 8).pull 8).pull 8).pull 6).pull 6).pull 6)
  refine (back_yes (v := { i.v with tx := some q }) S2 ⟨open_live h.live q, h.live.off⟩ rfl (by decide) (by omega) (fun u hu => ⟨(h.box u hu).1, by rw [(h.box u hu).2]; decide⟩) 0 0 rfl (Nat.zero_le _) (fun j x _ hj => absurd hj (by omega))).mono ?_
  rintro e w' ⟨rfl, x, y, S3⟩
  have hu := h.und
  rw [hu] at S3
  refine ⟨rfl, Sep.spOf ⟨{ i.t with M := [], un := x, sv := y }, i.v, i.ps, i.s, [], i.os, i.W⟩ ⟨h.live, h.fuse, (fun x hx => by cases hx), ⟨List.Pairwise.nil, Nat.zero_le _, (fun x hx => by cases hx)⟩, (fun x hx => by cases hx), h2, Nat.le_refl _, rfl, (fun x hx => by cases hx), h.seq⟩ h2 h3 ?_⟩
  exact ((((((((S3.pull 6).pull 5).pull 5).pull 8).pull 8).pull 7).pull 7).pull 7)
/-! ### a journal with no open transaction -/
structure JnI where
  v : JV
  ps : List (Nat × List Int)
  s : DS
  W : Int → List Int
structure JnG (D n : Nat) (Bd : List Int) (i : JnI) : Prop where
  live : LiveV (geoS D) i.s i.v i.ps i.W
  fuse : i.s.fuse = 0
  tx : i.v.tx = none
  bits : i.W 33 = Bd
  seq : (i.W (-1)).length ≤ n
def jnL (p d : Nat) (i : JnI) : List Asn := [JBlk p d i.v, MapA i.v.bm (vals i.v.M), PoolA i.ps, DevA d i.s]
def JnA (p d D n : Nat) (Bd : List Int) : Asn := Ex (JnG D n Bd) fun i => All (jnL p d i)
theorem Sep.jn (S : Sep w0 w (JnA p d D n Bd :: R)) : ∃ i, JnG D n Bd i ∧ Sep w0 w (jnL p d i ++ R) := by
  obtain ⟨i, h, S1⟩ := S.openE
  exact ⟨i, h, S1.openA⟩
theorem Sep.jnOf (i : JnI) (h : JnG D n Bd i) (S : Sep w0 w (jnL p d i ++ R)) : Sep w0 w (JnA p d D n Bd :: R) :=
  Sep.closeE (f := fun i => All (jnL p d i)) i h (Sep.closeA S)
/-- A transaction that is over: its block, whose journal has none open. -/
def EndA (q p : Nat) : Asn := Ex (fun _ : TV => True) fun t => TBlk q p t
theorem begin33 (S : Sep w0 w (JnA p d D n Bd :: R)) : Calls Tryz.prog 19 #[.pointer (some ⟨p, 0, none⟩)] w fun e w' => ∃ q, e = .returned (.pointer (some ⟨q, 0, none⟩)) ∧ Sep w0 w' (SpA q p d D n 0 0 [] Bd Bd :: R) := by
  obtain ⟨i, h, S⟩ := S.jn
  refine (begin_yes ((S.pull 3).pull 1) h.live.alive h.tx).mono ?_
  rintro e w' ⟨q, b, rfl, S1⟩
  refine ⟨q, rfl, ?_⟩
  have S2 := (((((S1.pull 5).pull 5).pull 4).pull 4).pull 4)
  have hko : ∀ {w : World} {R : List Asn}, Sep w0 w R → Sep w0 w (KeptA [] :: R) := fun {w R} S => S.new (Below.refl _ _) (A := KeptA []) (G := fun _ => False) ⟨fun x hx => (by cases hx), fun k hk => hk.elim⟩ (fun k hk => hk.elim)
  have S3 := ((hko (S2.nils 1 1)).nils 123 2)
  refine Sep.spOf ⟨⟨b, [], .slice none 0 0, .slice none 0 0, 0⟩, i.v, i.ps, i.s, [], [], i.W⟩ ⟨h.live, h.fuse, (fun x hx => by cases hx), ⟨List.Pairwise.nil, Nat.zero_le _, (fun x hx => by cases hx)⟩, (fun x hx => by cases hx), h.bits, Nat.le_refl _, rfl, (fun x hx => by cases hx), h.seq⟩ h.bits rfl ?_
  exact ((((((((S3.pull 1).pull 2).pull 8).pull 8).pull 8).pull 8).pull 8).pull 8)
theorem drop33 (S : Sep w0 w (SpA q p d D n k mk sv Bd B :: R)) : Calls Tryz.prog 34 #[.pointer (some ⟨q, 0, none⟩)] w fun e w' => e = .returned (.tuple #[]) ∧ Sep w0 w' (EndA q p :: JnA p d D n Bd :: R) := by
  obtain ⟨i, h, h2, h3, S⟩ := S.sp
  have S2 := ((((S.pull 1).drop.pull 5).drop.pull 5).drop.pull 5).drop
  refine (drop_s (v := { i.v with tx := some q }) S2 (oth_self w q)).mono ?_
  rintro e w' ⟨rfl, S3⟩
  rw [open_live h.live q, if_pos rfl] at S3
  have S4 : Sep w0 w' (jnL p d ⟨{ i.v with tx := none }, i.ps, i.s, i.W⟩ ++ (TBlk q p i.t :: R)) := ((((S3.pull 4).pull 4).pull 4).pull 4)
  exact ⟨rfl, (Sep.closeE (f := fun t => TBlk q p t) i.t trivial (Sep.jnOf ⟨{ i.v with tx := none }, i.ps, i.s, i.W⟩ ⟨⟨h.live.live, h.live.geo, h.live.ended, h.live.ins⟩, h.fuse, rfl, h2, h.seq⟩ S4).swap)⟩
theorem wlen {t : TV} {W Wn : Int → List Int} (h : Wn = (if t.M = [] then W else laid W (dat t.M))) : (Wn (-1)).length ≤ (W (-1)).length + 1 := by
  rw [h]
  split
  · omega
  · unfold laid
    rw [if_pos rfl, List.length_cons]
    omega
theorem commit33 (hr : Rt w0) (S : Sep w0 w (SpA q p d D n k mk sv Bd B :: R)) (hn : n ≤ 900000) : Calls Tryz.prog 33 #[.pointer (some ⟨q, 0, none⟩)] w fun e w' => e = .returned (.int .i64 0) ∧ Sep w0 w' (EndA q p :: JnA p d D (n + 1) B :: R) := by
  obtain ⟨i, h, h2, h3, S⟩ := S.sp
  have S2 := ((((S.pull 6).drop.pull 6).drop.pull 6).drop)
  have hsq := h.seq
  have hcs := com_still h.live h.fuse h.ins h.ok (by omega)
  refine (tcommit_x hr h.live S2 h.ins h.ok (by omega) hcs.1).mono ?_
  rintro e w' ⟨v', rfl, L2, htx, hbm, S3⟩
  have hw := wlen (t := i.t) (W := i.W) rfl
  have S4 : Sep w0 w' (jnL p d ⟨v', i.ps, comD i.v i.s i.t.M, if i.t.M = [] then i.W else laid i.W (dat i.t.M)⟩ ++ (TBlk q p i.t :: R)) := (((((S3.pull 1).drop.pull 4).pull 4).pull 4).pull 4)
  refine ⟨rfl, (Sep.closeE (f := fun t => TBlk q p t) i.t trivial (Sep.jnOf _ ⟨L2, hcs.2, htx, ?_, Nat.le_trans hw (by omega)⟩ S4).swap)⟩
  have hb := h.bits
  show (if i.t.M = [] then i.W else laid i.W (dat i.t.M)) 33 = B
  by_cases hM : i.t.M = []
  · rw [if_pos hM]
    rw [hM] at hb
    exact hb
  · rw [if_neg hM]
    unfold laid
    rw [if_neg (by decide)]
    exact hb
end
end Go.Proofs.YtlhlmjkocmahmaaGreatDoor.Sep
