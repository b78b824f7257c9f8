/- Write of a transaction. -/
import Derived.Test.YtlhlmjkocmahmaaGreatDoorMA8
import Derived.BigRegion
import Derived.Deep.RegionHeld3
import Derived.Deep.RegionLaw
import Derived.Deep.DeepCutAuto
namespace Go.Proofs.YtlhlmjkocmahmaaGreatDoor.Sep
open Go.Proofs Go.RowKit Go.ChangeMaps Go.Proofs.YtlhlmjkocmahmaaGreatDoorW.PrintWords Go.Proofs.YtlhlmjkocmahmaaGreatDoorW.PrintLast Go.Proofs.YtlhlmjkocmahmaaGreatDoorW.PrintMore Go.Proofs.YtlhlmjkocmahmaaGreatDoor.Dev Go.Proofs.YtlhlmjkocmahmaaGreatDoor.Errs Go.Proofs.YtlhlmjkocmahmaaGreatDoor.Jr Go.Proofs.YtlhlmjkocmahmaaGreatDoor.Help Go.Proofs.YtlhlmjkocmahmaaGreatDoor.IMap
set_option linter.unusedVariables false
set_option linter.unusedSimpArgs false
theorem kset0 {w : World} {a b i : Nat} {u v : Value} (h : w.cell? ⟨a, 0, none⟩ = some v) (hne : a ≠ b) : (w.setCell ⟨b, i, none⟩ u).cell? ⟨a, 0, none⟩ = some v := (World.cell?_of_block (Below.heap_setCell w ⟨b, i, none⟩ u a hne)).trans h
theorem append_stepD {P : Program} {ops : Array Oper} {o : Oper} {a : Act} {Q : Exit → Act → World → Prop} {w0 W : World} {R : List Asn} {K : Act → World → Prop} {E : Prop} {e : TypeId} {size n : Nat} {v : Value} {xs : List Value} (S : Sep w0 W (Own e size v n xs :: R)) (hgd : o.guard = none) (s x : Operand) (t : TypeId) (z : Value) (bytes : Nat)
    (ho : o.op = .call { callee := .builtin .append, args := #[s, x], argTypes := #[t, t] })
    (ht : P.underlying t = some (.slice e)) (hinfo : (P.info? e).map (fun i => (i.zero, i.size, i.bytes)) = some (some z, size, bytes)) (hz : z.cells.size = size) (hs0 : 0 < size) (hb0 : 0 < bytes)
    (ys : List Value) (hs : a.eval s = v) (hx : a.eval x = .slice (some ⟨W.heap.size, 0, none⟩) 1 1) (hys : ys.length = size) (h1 : ∀ u ∈ ys, u.oneCell' = true) (hl : (n + 1) * bytes ≤ 140737488355328)
    (h : ∀ A1 c1 w1, Sep w0 w1 (Own e size (.slice A1 (n + 1) c1) (n + 1) (xs ++ ys) :: R) → K (a.put o.dst (.slice A1 (n + 1) c1)) w1) :
    if Region.wanted o (yielded ops a.tmps) = true then Oper.wp P o a (W.alloc (.cells ys.toArray e)).drew K Q else E :=
  append_step (W := W.drew) S.drew hgd s x t z bytes ho ht hinfo hz hs0 hb0 ys hs hx hys h1 hl h
theorem MapS.allocd {w : World} {b : Nat} {m : List (Int × Value)} (h : MapS w b m) (o : Obj) : MapS (w.alloc o) b m := h.move ((MapKept.heap_alloc w o).2 b h.at_.lt)
/-- Blocks that nobody writes any more. -/
def KeptA (os : List (Nat × Array Value × TypeId)) : Asn where
  H w F := (∀ x ∈ os, w.heap[x.1]? = some (.cells x.2.1 x.2.2 (0, 0)) ∧ F x.1) ∧ ∀ k, F k → k < w.heap.size
  move := fun h hk => ⟨fun x hx => ⟨(hk _ (h.1 x hx).2).trans (h.1 x hx).1, (h.1 x hx).2⟩, fun k hf => lt_move (h.2 k hf) (hk k hf)⟩
  lt := fun h => h.2
/-- What undoes a write: the blocks of its closure's variables. -/
structure UR where
  b : Int
  was : Option (Nat × List Int)
  bok : Nat
  bwas : Nat
  bt : Nat
  bb : Nat
def wasV (o : Option (Nat × List Int)) : Value := match o with | some x => rowV x.1 | none => .slice none 0 0
def UR.val (u : UR) : Value := .func (.func 57) #[] #[.pointer (some ⟨u.bok, 0, none⟩), .pointer (some ⟨u.bwas, 0, none⟩), .pointer (some ⟨u.bt, 0, none⟩), .pointer (some ⟨u.bb, 0, none⟩)]
theorem Sep.kept_add {w0 w : World} {b : Nat} {cs : Array Value} {ty : TypeId} {os : List (Nat × Array Value × TypeId)} {R : List Asn} (S : Sep w0 w (Blk b cs ty :: KeptA os :: R)) : Sep w0 w (KeptA ((b, cs, ty) :: os) :: R) := by
  obtain ⟨F1, h1, hs1, F2, h2, hs2, h3⟩ := S.star
  have hF := h1.2
  subst hF
  refine ⟨S.bel, fun k => k = b ∨ F2 k, ⟨fun x hx => ?_, fun k hk => hk.elim (fun e => by rw [e]; exact (Array.getElem?_eq_some_iff.1 h1.1).1) (h2.2 k)⟩, fun k hk => hk.elim (fun e => hs1 k e) fun q => (hs2 k q).1, h3.mono fun k hk => ⟨hk.1.1, fun q => q.elim hk.1.2 hk.2⟩⟩
  rcases List.mem_cons.1 hx with e | hx
  · rw [e]
    exact ⟨h1.1, .inl rfl⟩
  · have := h2.1 x hx
    exact ⟨this.1, .inr this.2⟩
theorem Sep.store_eq {P : Program} {t k e : TypeId} {w0 w : World} {b : Nat} {m : List (Int × Value)} {R : List Asn} (S : Sep w0 w (MapA b m :: R)) (ht : P.underlying t = some (.map k e)) (hk : P.underlying k = some (.int .i64)) {x : Int} (hx : (Lit.int .i64 x).wf = true) (v : Value) : ∃ w', (Instr.mapUpdate t (.map (some b)) (.int .i64 x) v).run P w = .ok () w' ∧ Sep w0 w' (MapA b (SM.ins m x v) :: R) := by
  obtain ⟨w', hrun, r1, r2, r3, r4, r5, r6⟩ := S.map.store ht hk hx v
  exact ⟨w', hrun, S.map_to r1 r2 r3 r4 r5 r6⟩
theorem infoFn : (Tryz.prog.info? 1).map (fun i => (i.zero, i.size, i.bytes)) = some (some .nilFunc, 1, 8) := by kernel_rfl
theorem Sep.boxes {w0 w : World} {X Y T M J V P D : Asn} {R : List Asn} (S : Sep w0 w (X :: Y :: T :: M :: J :: V :: P :: D :: R)) : Sep w0 w (T :: M :: J :: V :: P :: D :: X :: Y :: R) := (((((S.pull 7).pull 7).pull 7).pull 7).pull 7).pull 7
section
variable {w0 w w' : World} {R : List Asn} {q p d : Nat} {ps : List (Nat × List Int)} {v : JV} {t : TV} {s : DS} {os : List (Nat × Array Value × TypeId)} {A : Option Addr} {n c : Nat} {l : List Int} {us : List UR}
set_option maxRecDepth 100000 in
set_option maxHeartbeats 4000000 in
theorem twrite_ok (S : Sep w0 w (TBlk q p t :: MapA t.bw (vals t.M) :: JBlk p d v :: MapA v.bm (vals v.M) :: PoolA ps :: DevA d s :: Own 1 1 t.un us.length (us.map UR.val) :: KeptA os :: R)) (hIt : Ins t.M ps) (hG : (v.geo s).Ok) (b : Int) (hal : openB q v = true ∧ s.off = false) (hb : (v.geo s).out b = true) (hl : n = 512)
    (hrd : ∀ (w' : World) (L : List Asn), Sep w0 w' (L ++ R) → ReadsInt w' .u8 A n l) (hbig : (SM.lkp t.M b).isSome = true ∨ t.M.length < 24) (hul : (us.length + 1) * 8 ≤ 140737488355328) :
    Calls Tryz.prog 22 #[.pointer (some ⟨q, 0, none⟩), .int .i64 b, .slice A n c] w fun e w' => e = .returned (.int .i64 0) ∧ ∃ g un' u, u.b = b ∧ u.was = SM.lkp t.M b ∧
      Sep w0 w' (TBlk q p { t with M := SM.ins t.M b (g, l), un := un' } :: MapA t.bw (vals (SM.ins t.M b (g, l))) :: JBlk p d v :: MapA v.bm (vals v.M) :: PoolA ((g, l) :: ps) :: DevA d s :: Own 1 1 un' (us.length + 1) ((us ++ [u]).map UR.val) :: KeptA ((u.bok, #[.bool u.was.isSome], 4) :: (u.bwas, #[wasV u.was], 57) :: (u.bt, #[.pointer (some ⟨q, 0, none⟩)], 32) :: (u.bb, #[.int .i64 b], 3) :: os) :: R) := by
  subst hl
  have hob := out_not_log hG hb
  have hbn : b ≤ 4096 := by have := hG.n1; omega
  have hb0 : 0 ≤ b := hob.2.2.1
  have hwf : (Lit.int .i64 b).wf = true := WalkArith.wf_i64 (by omega)
  have h1 := hal.1
  unfold openB at h1
  simp at h1
  have hal0 : aliveE v s = 0 := by
    unfold aliveE
    rw [h1.1, hal.2]
    rfl
  have hf0 : fineE q v s 0 = 0 := by
    unfold fineE
    rw [if_pos hal.1, if_pos rfl, hal0]
  have hfv := (fineV_0 hf0).1
  have hoth : ∀ w2, Oth w2 q v.tx := fun w2 => by rw [h1.2]; exact oth_self w2 q
  have HO := Aside0.mk hoth
  have HF := Aside0.mk hf0
  have HFV := Aside0.mk hfv
  clear hob hal h1 hal0 hf0 hfv hoth hbn hb0
  have S1 := S.alloc #[.pointer (some ⟨q, 0, none⟩)] 32
  have S2 := S1.alloc #[.int .i64 b] 3
  have hsz : (w.alloc (.cells #[.pointer (some ⟨q, 0, none⟩)] 32)).heap.size = w.heap.size + 1 := by simp
  rw [hsz] at S2
  have e3 := S2.swap.cell 0 (v := .pointer (some ⟨q, 0, none⟩)) rfl
  have e4 := S2.cell 0 (v := .int .i64 b) rfl
  have S3 := S2.boxes
  have hat := at_s S3.toL hG b
  rw [hb, if_pos rfl] at hat
  clear S S1 S2 hsz S3
  go_enter Tryz.func22, Tryz.ntmps22
  go_wp2_with fail
  refine hat.mono ?_
  clear hat e3 e4
  rintro _ w1 ⟨rfl, S⟩
  have e3 := (S.pull 7).cell 0 (v := .pointer (some ⟨q, 0, none⟩)) rfl
  have e4 := (S.pull 6).cell 0 (v := .int .i64 b) rfl
  go_wp2_with fail
  refine (fine_s S (HO.out _) 0).mono ?_
  clear S e3 e4
  rw [HF.out, HFV.out]
  rintro _ w2 ⟨rfl, S⟩
  have e3 := (S.pull 7).cell 0 (v := .pointer (some ⟨q, 0, none⟩)) rfl
  have e4 := (S.pull 6).cell 0 (v := .int .i64 b) rfl
  have c1 := S.cell 1 (v := .map (some t.bw)) rfl
  have hmp := S.p3.map
  have hvl : SM.lkp (vals t.M) b = (SM.lkp t.M b).map fun x => rowV x.1 := vals_look _ _
  have hlk := fun W (h : MapS W t.bw (vals t.M)) => (MapS.at_ h).look (P := Tryz.prog) Tryz.underlying113 Tryz.underlying3 (zeroBytes W) hwf
  have hwv : ((SM.lkp (vals t.M) b).getD (.slice none 0 0)) = wasV (SM.lkp t.M b) := by
    rw [hvl]
    cases SM.lkp t.M b <;> rfl
  have hok : (SM.lkp (vals t.M) b).isSome = (SM.lkp t.M b).isSome := by rw [hvl]; cases SM.lkp t.M b <;> rfl
  rw [hwv, hok] at hlk
  clear hvl hwv hok
  obtain ⟨Aw, nw, cw, hwvE⟩ : ∃ Aw nw cw, Value.slice Aw nw cw = wasV (SM.lkp t.M b) := by
    cases SM.lkp t.M b with
    | none => exact ⟨_, _, _, rfl⟩
    | some x => exact ⟨_, _, _, rfl⟩
  obtain ⟨ok, hokE⟩ : ∃ ok, ok = (SM.lkp t.M b).isSome := ⟨_, rfl⟩
  rw [← hwvE, ← hokE] at hlk
  have HW := Aside0.mk hwvE
  have HOK := Aside0.mk hokE
  clear hwvE hokE
  go_wp2_with fail
  go_cut [8, 9] (fun bw bo wx => ∃ aw ao, bw = .pointer (some ⟨aw, 0, none⟩) ∧ bo = .pointer (some ⟨ao, 0, none⟩) ∧ Sep w0 wx (TBlk q p t :: MapA t.bw (vals t.M) :: Own 1 1 t.un us.length (us.map UR.val) :: PoolA ps :: JBlk p d v :: MapA v.bm (vals v.M) :: DevA d s :: KeptA os :: Blk ao #[.bool ok] 4 :: Blk aw #[.slice Aw nw cw] 57 :: Blk w.heap.size #[.pointer (some ⟨q, 0, none⟩)] 32 :: Blk (w.heap.size + 1) #[.int .i64 b] 3 :: R))
  case first =>
    have hl0 := hlk w2.drew hmp.drew
    have hl1 := fun o => hlk (w2.alloc o).drew (hmp.allocd o).drew
    have hl2 := fun o o' => hlk ((w2.alloc o).alloc o').drew ((hmp.allocd o).allocd o').drew
    have a3 := fun o => ka e3 o
    have b3 := fun o o' => ka (ka e3 o) o'
    have a4 := fun o => ka e4 o
    have b4 := fun o o' => ka (ka e4 o) o'
    have a1 := fun o => ka c1 o
    have b1 := fun o o' => ka (ka c1 o) o'
    go_region
    · have SX := ((S.alloc #[.slice Aw nw cw] 57).alloc #[.bool ok] 4).drew
      have hsx : (w2.alloc (.cells #[.slice Aw nw cw] 57)).heap.size = w2.heap.size + 1 := by simp
      rw [hsx] at SX
      go_wp2_with fail
      go_meet
      case rel => exact ⟨_, _, rfl, rfl, (((((((((((SX.pull 8).pull 9).pull 3).pull 3).pull 11).pull 7).pull 9).pull 8).pull 10).pull 11).pull 11).pull 11⟩
    · have SX := ((S.alloc #[.bool ok] 4).alloc #[.slice Aw nw cw] 57).drew
      have hsx : (w2.alloc (.cells #[.bool ok] 4)).heap.size = w2.heap.size + 1 := by simp
      rw [hsx] at SX
      go_wp2_with fail
      go_meet
      case rel => exact ⟨_, _, rfl, rfl, (((((((((((SX.swap.pull 8).pull 9).pull 3).pull 3).pull 11).pull 7).pull 9).pull 8).pull 10).pull 11).pull 11).pull 11⟩
  case rest =>
  obtain ⟨aw, ao, rfl, rfl, SZ⟩ := hcut
  clear e3 e4 c1 hmp S hlk
  have hlen := fun ty => SZ.swap.map.len (P := Tryz.prog) Tryz.underlying113 ty
  have hvl : (vals t.M).length = t.M.length := SM.len_on _ _
  rw [hvl] at hlen
  have e3 := (SZ.pull 10).cell 0 (v := .pointer (some ⟨q, 0, none⟩)) rfl
  have e4 := (SZ.pull 11).cell 0 (v := .int .i64 b) rfl
  have c1 := SZ.cell 1 (v := .map (some t.bw)) rfl
  have c2 := SZ.cell 2 (v := t.un) rfl
  have f2 := SZ.free 2
  have e9 := (SZ.pull 8).cell 0 (v := .bool ok) rfl
  have hbg : ok = true ∨ t.M.length < 24 := by rw [HOK.out]; exact hbig
  clear hvl hbig
  have hus : (us.length + 1) * 8 ≤ 140737488355328 := hul
  obtain ⟨Au, cu, hun⟩ := own_slice (SZ.p2.row)
  rw [hun] at SZ c2
  have HSZ := Aside0.mk SZ
  have HUN := Aside0.mk hun
  clear SZ hun
  go_upto_region 8 with fail
  go_cut [44] (fun s44 wx => s44 = .bool false ∧ wx = wc)
  case first =>
    cases ok
    · have hlt : ¬ (t.M.length : Int) ≥ 24 := by
        rcases hbg with h | h
        · cases h
        · omega
      go_wp2_with fail
      go_meet
      case rel => exact ⟨rfl, rfl⟩
    · go_wp2_with fail
      go_meet
      case rel => exact ⟨rfl, rfl⟩
  case rest =>
  obtain ⟨rfl, rfl⟩ := hcut
  go_wp2_with fail
  go_cut [] (fun wx => ∃ A9 c9, Sep w0 wx (Blk w.heap.size #[.pointer (some ⟨q, 0, none⟩)] 32 :: Blk (w.heap.size + 1) #[.int .i64 b] 3 :: TBlk q p { t with un := .slice A9 (us.length + 1) c9 } :: Own 1 1 (.slice A9 (us.length + 1) c9) (us.length + 1) (us.map UR.val ++ [UR.val ⟨b, SM.lkp t.M b, ao, aw, w.heap.size, w.heap.size + 1⟩]) :: MapA t.bw (vals t.M) :: PoolA ps :: JBlk p d v :: MapA v.bm (vals v.M) :: DevA d s :: KeptA os :: Blk ao #[.bool ok] 4 :: Blk aw #[.slice Aw nw cw] 57 :: R))
  case first =>
    have k3 := fun o => ka e3 o
    have k2 := fun o => ka c2 o
    have SZ := HSZ.out
    clear HSZ
    go_region_law (first
      | (refine append_stepD (n := us.length) (v := .slice Au us.length cu) (e := 1) (size := 1) (xs := us.map UR.val) SZ.p2 (by rfl) (.tmp 49) (.tmp 51) 116 .nilFunc 8 (by rfl) Tryz.underlying116 infoFn (by rfl) (by decide) (by decide) [UR.val ⟨b, SM.lkp t.M b, ao, aw, w.heap.size, w.heap.size + 1⟩] (by first | rfl | (simp [Act.eval]; done) | (simp [go_sem, Act.eval]; done)) (by first | rfl | (simp [Act.eval]; done) | (simp [go_sem, Act.eval]; done)) (by rfl) ?a1 hus ?_; (case a1 => (intro x hx; rw [List.mem_singleton.1 hx]; rfl)); intro A9 c9 w9 S9; have z3 := (S9.pull 10).cell 0 (v := .pointer (some ⟨q, 0, none⟩)) rfl; have z2 := S9.swap.cell 2 (v := t.un) rfl; have zf := S9.swap.free 2))
    all_goals (go_wp2_with fail; go_meet; (case rel => exact ⟨A9, c9, ((S9.swap.set 2 (.slice A9 (us.length + 1) c9)).pull 11).pull 11⟩))
  case rest =>
  obtain ⟨un', c9, S⟩ := hcut
  clear HSZ
  have hus2 : us.map UR.val ++ [UR.val ⟨b, SM.lkp t.M b, ao, aw, w.heap.size, w.heap.size + 1⟩] = (us ++ [(⟨b, SM.lkp t.M b, ao, aw, w.heap.size, w.heap.size + 1⟩ : UR)]).map UR.val := by rw [List.map_append]; rfl
  rw [hus2] at S
  have e3 := S.cell 0 (v := .pointer (some ⟨q, 0, none⟩)) rfl
  have e4 := S.swap.cell 0 (v := .int .i64 b) rfl
  have c1 := (S.pull 2).cell 1 (v := .map (some t.bw)) rfl
  have S1 := S.drew
  have hrr := hrd _ [_, _, _, _, _, _, _, _, _, _, _, _] S1
  have hln : l.length = 512 := hrr.1
  clear hus2 hlen f2 e9 c2 hbg hus HO HF HFV HUN S
  go_wp2_with fail
  go_region_held (fun W => W.cell? ⟨w.heap.size, 0, none⟩ = some (.pointer (some ⟨q, 0, none⟩)) ∧ W.cell? ⟨w.heap.size + 1, 0, none⟩ = some (.int .i64 b) ∧ W.cell? ⟨q, 1, none⟩ = some (.map (some t.bw))) (refine ⟨?_, ?_, ?_⟩ <;> (repeat (first | (with_reducible assumption) | (with_reducible refine kd ?_)))) (first | (go_at_call 58; refine (blockOf_s (c := c) S1 hrr).mono ?_; rintro _ w4 ⟨g, rfl, S4⟩; have x3 := (S4.pull 1).cell 0 (v := .pointer (some ⟨q, 0, none⟩)) rfl; have x4 := (S4.pull 2).cell 0 (v := .int .i64 b) rfl; have x1 := (S4.pull 3).cell 1 (v := .map (some t.bw)) rfl; obtain ⟨w5, hst, S5⟩ := (S4.pull 5).store_eq (P := Tryz.prog) Tryz.underlying113 Tryz.underlying3 hwf (.slice (some ⟨g, 0, none⟩) 512 512); have y3 := (S5.pull 2).cell 0 (v := .pointer (some ⟨q, 0, none⟩)) rfl; have y4 := (S5.pull 3).cell 0 (v := .int .i64 b) rfl; have y1 := (S5.pull 4).cell 1 (v := .map (some t.bw)) rfl))
  have HS := Aside0.mk S5
  clear S4 S5 x3 x4 x1 y3 y4 y1 hst
  go_wp2_with fail
  go_ret
  refine ⟨rfl, g, .slice un' (us.length + 1) c9, ⟨b, SM.lkp t.M b, ao, aw, w.heap.size, w.heap.size + 1⟩, rfl, rfl, ?_⟩
  have S := HS.out
  have e1 : SM.ins (vals t.M) b (.slice (some ⟨g, 0, none⟩) 512 512) = vals (SM.ins t.M b (g, l)) := (SM.ins_on (fun x : Nat × List Int => rowV x.1) t.M b (g, l)).symm
  rw [e1, blk_full hln, HOK.out, HW.out] at S
  have S2 := ((((((((S.pull 10).pull 4).kept_add).pull 3).kept_add).pull 10).kept_add).pull 9).kept_add
  exact ((((((((((S2.pull 5).pull 3).pool_add).pull 1).pull 4).pull 7).pull 3).pull 7).pull 7).pull 6).pull 7
end
end Go.Proofs.YtlhlmjkocmahmaaGreatDoor.Sep
