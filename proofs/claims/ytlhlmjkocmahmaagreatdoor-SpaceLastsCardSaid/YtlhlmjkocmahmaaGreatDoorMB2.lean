/- What the package-level variable plan.bounds holds. -/
import Derived.Test.YtlhlmjkocmahmaaGreatDoorMA1
import Derived.Test.YtlhlmjkocmahmaaGreatDoorMA3
import Derived.Deep.MidRow
import Derived.Deep.WholeRow
import Derived.Laws.ResultCell
import Derived.Test.YtlhlmjkocmahmaaGreatDoorMB1
import Derived.Laws.StructEq
import Derived.Test.YtlhlmjkocmahmaaGreatDoorWEqStruct
import Derived.BigFrame
import Derived.BigQuiet
import Derived.Lib.BitFns
import Derived.Shelf.Small.Bits
namespace Go.Proofs.YtlhlmjkocmahmaaGreatDoor.Sep
open Go.Proofs
def bndL : List Int := [1, 8, 1, 8, 1, 8, 1, 64, 2, 256, 0, 524288, 1, 4096, 27, 512]
def Bds (w : World) : Prop := ∀ (k : Nat) (x : Int), bndL[k]? = some x → w.cell? ⟨0, k, none⟩ = some (.int .i64 x)
theorem bds_lt {w : World} (h : Bds w) : 0 < w.heap.size := by
  rcases Nat.lt_or_ge 0 w.heap.size with h1 | h1
  · exact h1
  · have := h 0 1 rfl
    simp [World.cell?, Array.getElem?_eq_none h1] at this
theorem bds_sep {w0 w : World} {R : List Asn} (h : Bds w0) (S : Sep w0 w R) : Bds w := fun k x hx => by
  rw [← h k x hx]
  exact S.bel.cell (p := ⟨0, k, none⟩) (bds_lt h)
end Go.Proofs.YtlhlmjkocmahmaaGreatDoor.Sep
/- plan.Plan: the layout of a shape that differs in its data blocks alone. -/
namespace Go.Proofs.YtlhlmjkocmahmaaGreatDoor.Sep
open Go.Proofs Go.RowKit Go.ChangeMaps Go.Proofs.YtlhlmjkocmahmaaGreatDoorW.PrintWords Go.Proofs.YtlhlmjkocmahmaaGreatDoorW.PrintLast Go.Proofs.YtlhlmjkocmahmaaGreatDoorW.PrintMore
set_option linter.unusedVariables false
set_option linter.unusedSimpArgs false
def ints (l : List Int) : Value := .agg (l.map (Value.int .i64)).toArray
abbrev shapeL (x : Int) : List Int := [1, 1, 1, 1, 2, 0, x, 27]
abbrev layL (x : Int) : List Int := [1, 2, 27, 29, 4, 33, 1, 34, 1, 35, x, 35 + x, 1, 1, 1, 1, 2, 0, x, 27]
abbrev nol : List Int := [0, 0, 0, 0, 0, 0, 0, 0, 0, 0, 0, 0, 0, 0, 0, 0, 0, 0, 0, 0]
theorem Sep.blk_lt {w0 w : World} {R : List Asn} {p : Nat} {cs : Array Value} {t : TypeId} (S : Sep w0 w (Blk p cs t :: R)) : p < w.heap.size := by
  have h := S.blk
  rcases Nat.lt_or_ge p w.heap.size with h1 | h1
  · exact h1
  · rw [Array.getElem?_eq_none h1] at h
    cases h
theorem Sep.setRow {w0 w : World} {R : List Asn} {p : Nat} {cs : Array Value} {t : TypeId} (S : Sep w0 w (Blk p cs t :: R)) (cs' : Array Value) : Sep w0 (w.setRow p cs') (Blk p cs' t :: R) := by
  obtain ⟨F, h, _, hf⟩ := S.one
  have hp := h.2
  have hb := h.1
  subst hp
  have hl := S.blk_lt
  refine hf _ [Blk p cs' t] (Star.one (G := fun k => k = p) ⟨?_, rfl⟩ fun k hk => .inl hk) ⟨rfl, rfl, rfl, by simp [World.setRow], fun k _ hk => ?_⟩
  · simp [World.setRow, Array.getElem?_modify, hb]
  · have : p ≠ k := fun e => hk e.symm
    simp [World.setRow, Array.getElem?_modify, this]
theorem alloc_blk {w : World} {cs : Array Value} {t : TypeId} {n : Nat} (h : n = w.heap.size) : (w.alloc (.cells cs t)).heap[n]? = some (.cells cs t (0, 0)) := by
  subst h
  exact ((Sep.start w).alloc cs t).blk
section
variable {w0 w w' : World} {R : List Asn}
set_option maxRecDepth 100000 in
set_option maxHeartbeats 4000000 in
theorem shape_s (w : World) (x : Int) : Calls Tryz.prog 46 #[.int .i64 x] w fun e w' => e = .returned (.agg #[.int .i64 1, .int .i64 1, .int .i64 1, .int .i64 1, .int .i64 2, .int .i64 0, .int .i64 x, .int .i64 27]) ∧ Below w.heap.size w w' := by
  go_enter Tryz.func46, Tryz.ntmps46
  go_wp2_with fail
  (try simp only [Exit.inBlock, Exit.then])
  refine bodyPost_ret (results_cell_row rfl _ _ _ _ _ (0, 0) _ rfl (alloc_blk (by simp)) Tryz.underlying27 rfl (by kernel_rfl)) rfl ⟨rfl, ?_⟩
  exact (((Sep.start w).alloc _ _)).bel
set_option maxRecDepth 100000 in
set_option maxHeartbeats 4000000 in
theorem numbers_s (w : World) (x : Int) : Calls Tryz.prog 86 #[.agg #[.int .i64 1, .int .i64 1, .int .i64 1, .int .i64 1, .int .i64 2, .int .i64 0, .int .i64 x, .int .i64 27]] w fun e w' => e = .returned (.agg #[.int .i64 1, .int .i64 1, .int .i64 1, .int .i64 1, .int .i64 2, .int .i64 0, .int .i64 x, .int .i64 27]) ∧ Below w.heap.size w w' := by
  go_enter Tryz.func86, Tryz.ntmps86
  go_wp2_with fail
  (try simp only [Exit.inBlock, Exit.then])
  refine bodyPost_ret (results_cell_row rfl _ _ _ _ _ (0, 0) _ rfl (alloc_blk (by simp)) Tryz.underlying157 rfl (by kernel_rfl)) rfl ⟨rfl, ?_⟩
  exact ((((Sep.start w).alloc _ _).alloc _ _)).bel
set_option maxRecDepth 100000 in
set_option maxHeartbeats 8000000 in
theorem plan_yes (hB : Bds w) (x : Int) (h0 : 8 ≤ x) (h1 : x ≤ 4061) : Calls Tryz.prog 45 #[.agg #[.int .i64 1, .int .i64 1, .int .i64 1, .int .i64 1, .int .i64 2, .int .i64 0, .int .i64 x, .int .i64 27]] w fun e w' => e = .returned (.tuple #[.agg #[.int .i64 1, .int .i64 2, .int .i64 27, .int .i64 29, .int .i64 4, .int .i64 33, .int .i64 1, .int .i64 34, .int .i64 1, .int .i64 35, .int .i64 x, .int .i64 (35 + x), .int .i64 1, .int .i64 1, .int .i64 1, .int .i64 1, .int .i64 2, .int .i64 0, .int .i64 x, .int .i64 27], .int .i64 0]) ∧ Below w.heap.size w w' := by
  obtain ⟨Z, hZ⟩ : ∃ Z : Array Value, Z = #[.int .i64 0, .int .i64 0, .int .i64 0, .int .i64 0, .int .i64 0, .int .i64 0, .int .i64 0, .int .i64 0, .int .i64 0, .int .i64 0, .int .i64 0, .int .i64 0, .int .i64 0, .int .i64 0, .int .i64 0, .int .i64 0, .int .i64 0, .int .i64 0, .int .i64 0, .int .i64 0] := ⟨_, rfl⟩
  obtain ⟨H, hH⟩ : ∃ H : Array Value, H = #[.int .i64 1, .int .i64 1, .int .i64 1, .int .i64 1, .int .i64 2, .int .i64 0, .int .i64 x, .int .i64 27] := ⟨_, rfl⟩
  have S0 := ((Sep.start w).alloc H 27).alloc Z 29
  have hp2 : (w.alloc (.cells H 27)).heap.size = w.heap.size + 1 := by simp
  rw [hp2] at S0
  obtain ⟨W2, hW2⟩ : ∃ W2, W2 = (w.alloc (.cells H 27)).alloc (.cells Z 29) := ⟨_, rfl⟩
  have hnm := numbers_s W2 x
  go_enter Tryz.func45, Tryz.ntmps45
  go_upto_region 1 with fail
  rw [← hZ, ← hH, ← hW2]
  rw [← hW2] at S0
  clear hW2 hp2
  subst hH
  have c0 := (S0.pull 1).cell 0 (v := .int .i64 1) rfl
  have c1 := (S0.pull 1).cell 1 (v := .int .i64 1) rfl
  have c2 := (S0.pull 1).cell 2 (v := .int .i64 1) rfl
  have c3 := (S0.pull 1).cell 3 (v := .int .i64 1) rfl
  have c4 := (S0.pull 1).cell 4 (v := .int .i64 2) rfl
  have c5 := (S0.pull 1).cell 5 (v := .int .i64 0) rfl
  have c6 := (S0.pull 1).cell 6 (v := .int .i64 x) rfl
  have c7 := (S0.pull 1).cell 7 (v := .int .i64 27) rfl
  go_cut [9, 10] (fun a b wx => a = .agg #[.int .i64 1, .int .i64 1, .int .i64 1, .int .i64 1, .int .i64 2, .int .i64 0, .int .i64 x, .int .i64 27] ∧ b = .int .i64 0 ∧ Sep w wx [Blk (w.heap.size + 1) Z 29, Blk w.heap.size #[.int .i64 1, .int .i64 1, .int .i64 1, .int .i64 1, .int .i64 2, .int .i64 0, .int .i64 x, .int .i64 27] 27])
  case first =>
    go_wp2_with fail
    refine hnm.mono ?_
    clear hnm c0 c1 c2 c3 c4 c5 c6 c7
    rintro _ w3 ⟨rfl, hb3⟩
    have S3 := S0.calm hb3
    clear hb3 S0
    go_wp2_with fail
    go_meet
    case rel => exact ⟨rfl, rfl, S3⟩
  case rest =>
  clear S0 hnm c0 c1 c2 c3 c4 c5 c6 c7
  obtain ⟨rfl, rfl, S3⟩ := hcut
  have hB3 := bds_sep hB S3
  have b0 := hB3 0 1 rfl
  have b1 := hB3 1 8 rfl
  have b2 := hB3 2 1 rfl
  have b3 := hB3 3 8 rfl
  have b4 := hB3 4 1 rfl
  have b5 := hB3 5 8 rfl
  have b6 := hB3 6 1 rfl
  have b7 := hB3 7 64 rfl
  have b8 := hB3 8 2 rfl
  have b9 := hB3 9 256 rfl
  have b10 := hB3 10 0 rfl
  have b11 := hB3 11 524288 rfl
  have b12 := hB3 12 1 rfl
  have b13 := hB3 13 4096 rfl
  have b14 := hB3 14 27 rfl
  have b15 := hB3 15 512 rfl
  have HS := Aside0.mk S3
  clear S3 hB3
  have d1 : decide (x < 1) = false := decide_eq_false (by omega)
  have d2 : decide (4096 < x) = false := decide_eq_false (by omega)
  go_wp2_with fail
  go_loopw [4, 5, 10] (fun _ _ iv wr => ∃ n : Int, 0 ≤ n ∧ n ≤ 8 ∧ iv = .int .i64 n ∧ wr = wc) (fun _ _ i _ => (8 - intOf i).toNat)
  case atStart => exact ⟨0, by omega, by omega, rfl, rfl⟩
  case round =>
    obtain ⟨n, hn0, hn8, rfl, rfl⟩ := hrel
    have hjj : n = 0 ∨ n = 1 ∨ n = 2 ∨ n = 3 ∨ n = 4 ∨ n = 5 ∨ n = 6 ∨ n = 7 ∨ n = 8 := by omega
    rcases hjj with rfl | rfl | rfl | rfl | rfl | rfl | rfl | rfl | rfl
    · have hx : ∀ W : World, (Instr.index 157 (.agg #[.int .i64 1, .int .i64 1, .int .i64 1, .int .i64 1, .int .i64 2, .int .i64 0, .int .i64 x, .int .i64 27]) (.int .i64 0)).run Tryz.prog W = .ok (.int .i64 1) W := fun W => by kernel_rfl
      go_wp2_with fail
      exact ⟨⟨1, by omega, by omega, rfl, trivial⟩, by simp [intOf]⟩
    · have hx : ∀ W : World, (Instr.index 157 (.agg #[.int .i64 1, .int .i64 1, .int .i64 1, .int .i64 1, .int .i64 2, .int .i64 0, .int .i64 x, .int .i64 27]) (.int .i64 1)).run Tryz.prog W = .ok (.int .i64 1) W := fun W => by kernel_rfl
      go_wp2_with fail
      exact ⟨⟨2, by omega, by omega, rfl, trivial⟩, by simp [intOf]⟩
    · have hx : ∀ W : World, (Instr.index 157 (.agg #[.int .i64 1, .int .i64 1, .int .i64 1, .int .i64 1, .int .i64 2, .int .i64 0, .int .i64 x, .int .i64 27]) (.int .i64 2)).run Tryz.prog W = .ok (.int .i64 1) W := fun W => by kernel_rfl
      go_wp2_with fail
      exact ⟨⟨3, by omega, by omega, rfl, trivial⟩, by simp [intOf]⟩
    · have hx : ∀ W : World, (Instr.index 157 (.agg #[.int .i64 1, .int .i64 1, .int .i64 1, .int .i64 1, .int .i64 2, .int .i64 0, .int .i64 x, .int .i64 27]) (.int .i64 3)).run Tryz.prog W = .ok (.int .i64 1) W := fun W => by kernel_rfl
      go_wp2_with fail
      exact ⟨⟨4, by omega, by omega, rfl, trivial⟩, by simp [intOf]⟩
    · have hx : ∀ W : World, (Instr.index 157 (.agg #[.int .i64 1, .int .i64 1, .int .i64 1, .int .i64 1, .int .i64 2, .int .i64 0, .int .i64 x, .int .i64 27]) (.int .i64 4)).run Tryz.prog W = .ok (.int .i64 2) W := fun W => by kernel_rfl
      go_wp2_with fail
      exact ⟨⟨5, by omega, by omega, rfl, trivial⟩, by simp [intOf]⟩
    · have hx : ∀ W : World, (Instr.index 157 (.agg #[.int .i64 1, .int .i64 1, .int .i64 1, .int .i64 1, .int .i64 2, .int .i64 0, .int .i64 x, .int .i64 27]) (.int .i64 5)).run Tryz.prog W = .ok (.int .i64 0) W := fun W => by kernel_rfl
      go_wp2_with fail
      exact ⟨⟨6, by omega, by omega, rfl, trivial⟩, by simp [intOf]⟩
    · have hx : ∀ W : World, (Instr.index 157 (.agg #[.int .i64 1, .int .i64 1, .int .i64 1, .int .i64 1, .int .i64 2, .int .i64 0, .int .i64 x, .int .i64 27]) (.int .i64 6)).run Tryz.prog W = .ok (.int .i64 x) W := fun W => by kernel_rfl
      go_wp2_with fail
      exact ⟨⟨7, by omega, by omega, rfl, trivial⟩, by simp [intOf]⟩
    · have hx : ∀ W : World, (Instr.index 157 (.agg #[.int .i64 1, .int .i64 1, .int .i64 1, .int .i64 1, .int .i64 2, .int .i64 0, .int .i64 x, .int .i64 27]) (.int .i64 7)).run Tryz.prog W = .ok (.int .i64 27) W := fun W => by kernel_rfl
      go_wp2_with fail
      exact ⟨⟨8, by omega, by omega, rfl, trivial⟩, by simp [intOf]⟩
    · have S1 := HS.out
      have c0 := (S1.pull 1).cell 0 (v := .int .i64 1) rfl
      have c1 := (S1.pull 1).cell 1 (v := .int .i64 1) rfl
      have c2 := (S1.pull 1).cell 2 (v := .int .i64 1) rfl
      have c3 := (S1.pull 1).cell 3 (v := .int .i64 1) rfl
      have c4 := (S1.pull 1).cell 4 (v := .int .i64 2) rfl
      have c5 := (S1.pull 1).cell 5 (v := .int .i64 0) rfl
      have c6 := (S1.pull 1).cell 6 (v := .int .i64 x) rfl
      have c7 := (S1.pull 1).cell 7 (v := .int .i64 27) rfl
      have hw : IntKind.i64.wrap (35 + x) = 35 + x := by rw [IntKind.wrap_i64]; omega
      have d3 : decide (x < 8) = false := decide_eq_false (by omega)
      have d4 : decide (4096 < 35 + x) = false := decide_eq_false (by omega)
      clear HS b0 b1 b2 b3 b4 b5 b6 b7 b8 b9 b10 b11 b12 b13 b14 b15 hB
      have HS := Aside0.mk S1
      clear S1
      go_upto_region 7 with fail
      apply wp_region_lit
      iterate 45 go_step
      clear c0 c1 c2 c3 c4 c5 c6 c7
      have S := HS.out.alloc #[.int .i64 0, .int .i64 0, .int .i64 0, .int .i64 0, .int .i64 0, .int .i64 0, .int .i64 0, .int .i64 0, .int .i64 0, .int .i64 0, .int .i64 0, .int .i64 0, .int .i64 0, .int .i64 0, .int .i64 0, .int .i64 0, .int .i64 0, .int .i64 0, .int .i64 0, .int .i64 0] 29
      rw [← hZ] at S
      obtain ⟨p6, hp6⟩ : ∃ p6, p6 = wr.heap.size := ⟨_, rfl⟩
      obtain ⟨W6, hW⟩ : ∃ W6, W6 = wr.alloc (.cells Z 29) := ⟨_, rfl⟩
      rw [← hp6, ← hW] at S
      rw [← hZ, ← hp6, ← hW]
      refine wpList_store_row rfl 29 (.tmp 6) (.tmp 43) rfl p6 _ rfl rfl 29 Z S.blk (by kernel_rfl) (by rw [hZ]; rfl) (by simp [Value.oneCell']) ?_
      have S := S.setRow #[.int .i64 1, .int .i64 2, .int .i64 27, .int .i64 0, .int .i64 4, .int .i64 0, .int .i64 1, .int .i64 0, .int .i64 1, .int .i64 0, .int .i64 x, .int .i64 0, .int .i64 1, .int .i64 1, .int .i64 1, .int .i64 1, .int .i64 2, .int .i64 0, .int .i64 x, .int .i64 27]
      obtain ⟨W, hW9⟩ : ∃ W, W = W6.setRow p6 #[.int .i64 1, .int .i64 2, .int .i64 27, .int .i64 0, .int .i64 4, .int .i64 0, .int .i64 1, .int .i64 0, .int .i64 1, .int .i64 0, .int .i64 x, .int .i64 0, .int .i64 1, .int .i64 1, .int .i64 1, .int .i64 1, .int .i64 2, .int .i64 0, .int .i64 x, .int .i64 27] := ⟨_, rfl⟩
      have HS : Aside0 (Sep w W [Blk p6 #[.int .i64 1, .int .i64 2, .int .i64 27, .int .i64 0, .int .i64 4, .int .i64 0, .int .i64 1, .int .i64 0, .int .i64 1, .int .i64 0, .int .i64 x, .int .i64 0, .int .i64 1, .int .i64 1, .int .i64 1, .int .i64 1, .int .i64 2, .int .i64 0, .int .i64 x, .int .i64 27] 29, Blk (w.heap.size + 1) Z 29, Blk w.heap.size #[.int .i64 1, .int .i64 1, .int .i64 1, .int .i64 1, .int .i64 2, .int .i64 0, .int .i64 x, .int .i64 27] 27]) := ⟨by rw [hW9]; exact S⟩
      rw [← hW9]
      clear hW9 hW hp6 S
      go_upto_region 8 with fail
      have S := HS.out
      clear HS
      have e1 := S.cell 1 (v := .int .i64 2) rfl
      have e2 := S.cell 2 (v := .int .i64 27) rfl
      have e3 := S.cell 3 (v := .int .i64 0) rfl
      have f3 := S.free 3
      have S2 := S.set 3 (.int .i64 29)
      obtain ⟨W1, hW⟩ : ∃ W1, W1 = W.setCell ⟨p6, 3, none⟩ (.int .i64 29) := ⟨_, rfl⟩
      have HS : Aside0 (Sep w W1 [Blk p6 #[.int .i64 1, .int .i64 2, .int .i64 27, .int .i64 29, .int .i64 4, .int .i64 0, .int .i64 1, .int .i64 0, .int .i64 1, .int .i64 0, .int .i64 x, .int .i64 0, .int .i64 1, .int .i64 1, .int .i64 1, .int .i64 1, .int .i64 2, .int .i64 0, .int .i64 x, .int .i64 27] 29, Blk (w.heap.size + 1) Z 29, Blk w.heap.size #[.int .i64 1, .int .i64 1, .int .i64 1, .int .i64 1, .int .i64 2, .int .i64 0, .int .i64 x, .int .i64 27] 27]) := ⟨by rw [hW]; exact S2⟩
      clear S2 S
      go_upto_region 9 with fail
      rw [← hW]
      clear hW e1 e2 e3 f3 W
      obtain ⟨W, rfl⟩ : ∃ W, W = W1 := ⟨_, rfl⟩
      have S := HS.out
      clear HS
      have e3 := S.cell 3 (v := .int .i64 29) rfl
      have e4 := S.cell 4 (v := .int .i64 4) rfl
      have e5 := S.cell 5 (v := .int .i64 0) rfl
      have f5 := S.free 5
      have S2 := S.set 5 (.int .i64 33)
      obtain ⟨W1, hW⟩ : ∃ W1, W1 = W.setCell ⟨p6, 5, none⟩ (.int .i64 33) := ⟨_, rfl⟩
      have HS : Aside0 (Sep w W1 [Blk p6 #[.int .i64 1, .int .i64 2, .int .i64 27, .int .i64 29, .int .i64 4, .int .i64 33, .int .i64 1, .int .i64 0, .int .i64 1, .int .i64 0, .int .i64 x, .int .i64 0, .int .i64 1, .int .i64 1, .int .i64 1, .int .i64 1, .int .i64 2, .int .i64 0, .int .i64 x, .int .i64 27] 29, Blk (w.heap.size + 1) Z 29, Blk w.heap.size #[.int .i64 1, .int .i64 1, .int .i64 1, .int .i64 1, .int .i64 2, .int .i64 0, .int .i64 x, .int .i64 27] 27]) := ⟨by rw [hW]; exact S2⟩
      clear S2 S
      go_upto_region 10 with fail
      rw [← hW]
      clear hW e3 e4 e5 f5 W
      obtain ⟨W, rfl⟩ : ∃ W, W = W1 := ⟨_, rfl⟩
      have S := HS.out
      clear HS
      have e5 := S.cell 5 (v := .int .i64 33) rfl
      have e6 := S.cell 6 (v := .int .i64 1) rfl
      have e7 := S.cell 7 (v := .int .i64 0) rfl
      have f7 := S.free 7
      have S2 := S.set 7 (.int .i64 34)
      obtain ⟨W1, hW⟩ : ∃ W1, W1 = W.setCell ⟨p6, 7, none⟩ (.int .i64 34) := ⟨_, rfl⟩
      have HS : Aside0 (Sep w W1 [Blk p6 #[.int .i64 1, .int .i64 2, .int .i64 27, .int .i64 29, .int .i64 4, .int .i64 33, .int .i64 1, .int .i64 34, .int .i64 1, .int .i64 0, .int .i64 x, .int .i64 0, .int .i64 1, .int .i64 1, .int .i64 1, .int .i64 1, .int .i64 2, .int .i64 0, .int .i64 x, .int .i64 27] 29, Blk (w.heap.size + 1) Z 29, Blk w.heap.size #[.int .i64 1, .int .i64 1, .int .i64 1, .int .i64 1, .int .i64 2, .int .i64 0, .int .i64 x, .int .i64 27] 27]) := ⟨by rw [hW]; exact S2⟩
      clear S2 S
      go_upto_region 11 with fail
      rw [← hW]
      clear hW e5 e6 e7 f7 W
      obtain ⟨W, rfl⟩ : ∃ W, W = W1 := ⟨_, rfl⟩
      have S := HS.out
      clear HS
      have e7 := S.cell 7 (v := .int .i64 34) rfl
      have e8 := S.cell 8 (v := .int .i64 1) rfl
      have e9 := S.cell 9 (v := .int .i64 0) rfl
      have f9 := S.free 9
      have S2 := S.set 9 (.int .i64 35)
      obtain ⟨W1, hW⟩ : ∃ W1, W1 = W.setCell ⟨p6, 9, none⟩ (.int .i64 35) := ⟨_, rfl⟩
      have HS : Aside0 (Sep w W1 [Blk p6 #[.int .i64 1, .int .i64 2, .int .i64 27, .int .i64 29, .int .i64 4, .int .i64 33, .int .i64 1, .int .i64 34, .int .i64 1, .int .i64 35, .int .i64 x, .int .i64 0, .int .i64 1, .int .i64 1, .int .i64 1, .int .i64 1, .int .i64 2, .int .i64 0, .int .i64 x, .int .i64 27] 29, Blk (w.heap.size + 1) Z 29, Blk w.heap.size #[.int .i64 1, .int .i64 1, .int .i64 1, .int .i64 1, .int .i64 2, .int .i64 0, .int .i64 x, .int .i64 27] 27]) := ⟨by rw [hW]; exact S2⟩
      clear S2 S
      go_upto_region 12 with fail
      rw [← hW]
      clear hW e7 e8 e9 f9 W
      obtain ⟨W, rfl⟩ : ∃ W, W = W1 := ⟨_, rfl⟩
      have S := HS.out
      clear HS
      have e9 := S.cell 9 (v := .int .i64 35) rfl
      have e10 := S.cell 10 (v := .int .i64 x) rfl
      have e11 := S.cell 11 (v := .int .i64 0) rfl
      have f11 := S.free 11
      have S2 := S.set 11 (.int .i64 (35 + x))
      obtain ⟨W1, hW⟩ : ∃ W1, W1 = W.setCell ⟨p6, 11, none⟩ (.int .i64 (35 + x)) := ⟨_, rfl⟩
      have HS : Aside0 (Sep w W1 [Blk p6 #[.int .i64 1, .int .i64 2, .int .i64 27, .int .i64 29, .int .i64 4, .int .i64 33, .int .i64 1, .int .i64 34, .int .i64 1, .int .i64 35, .int .i64 x, .int .i64 (35 + x), .int .i64 1, .int .i64 1, .int .i64 1, .int .i64 1, .int .i64 2, .int .i64 0, .int .i64 x, .int .i64 27] 29, Blk (w.heap.size + 1) Z 29, Blk w.heap.size #[.int .i64 1, .int .i64 1, .int .i64 1, .int .i64 1, .int .i64 2, .int .i64 0, .int .i64 x, .int .i64 27] 27]) := ⟨by rw [hW]; exact S2⟩
      clear S2 S
      go_upto_region 13 with fail
      rw [← hW]
      clear hW e9 e10 e11 f11 W
      obtain ⟨W, rfl⟩ : ∃ W, W = W1 := ⟨_, rfl⟩
      have S := HS.out
      clear HS
      have c5 := (S.pull 2).cell 5 (v := .int .i64 0) rfl
      have c4 := (S.pull 2).cell 4 (v := .int .i64 2) rfl
      have c6 := (S.pull 2).cell 6 (v := .int .i64 x) rfl
      have e11 := S.cell 11 (v := .int .i64 (35 + x)) rfl
      go_upto_region 16 with fail
      clear c4 c5 c6 e11
      refine wp_region_list ?_
      refine wpList_load_row rfl 29 (.tmp 6) rfl p6 rfl 29 _ (0, 0) _ S.blk Tryz.underlying29 rfl (by kernel_rfl) ?_
      refine wpList_store_row rfl 29 (.tmp 2) (.tmp 93) rfl (w.heap.size + 1) _ rfl rfl 29 Z (S.pull 1).blk (by kernel_rfl) (by rw [hZ]; rfl) (by simp [Value.oneCell']) ?_
      have S := (S.pull 1).setRow #[.int .i64 1, .int .i64 2, .int .i64 27, .int .i64 29, .int .i64 4, .int .i64 33, .int .i64 1, .int .i64 34, .int .i64 1, .int .i64 35, .int .i64 x, .int .i64 (35 + x), .int .i64 1, .int .i64 1, .int .i64 1, .int .i64 1, .int .i64 2, .int .i64 0, .int .i64 x, .int .i64 27]
      clear hw d1 d2 d3 d4
      go_wp2_with fail
      (try simp only [Exit.inBlock, Exit.then])
      refine bodyPost_ret (v := .tuple #[.agg #[.int .i64 1, .int .i64 2, .int .i64 27, .int .i64 29, .int .i64 4, .int .i64 33, .int .i64 1, .int .i64 34, .int .i64 1, .int .i64 35, .int .i64 x, .int .i64 (35 + x), .int .i64 1, .int .i64 1, .int .i64 1, .int .i64 1, .int .i64 2, .int .i64 0, .int .i64 x, .int .i64 27], .int .i64 0]) ?_ rfl ⟨rfl, S.bel⟩
      rw [results_cell_tmp rfl]
      have hl := run_loadVar_row (P := Tryz.prog) _ (w.heap.size + 1) 29 29 _ (0, 0) _ S.blk Tryz.underlying29 rfl (by kernel_rfl)
      simp [asAddr, hl, Result.andThen]
end
end Go.Proofs.YtlhlmjkocmahmaaGreatDoor.Sep
/- space's judge, at, find: of a layout that Plan answers. -/
namespace Go.Proofs.YtlhlmjkocmahmaaGreatDoor.Sep
open Go.Proofs Go.RowKit Go.ChangeMaps Go.Proofs.YtlhlmjkocmahmaaGreatDoorW.PrintWords Go.Proofs.YtlhlmjkocmahmaaGreatDoorW.PrintLast Go.Proofs.YtlhlmjkocmahmaaGreatDoorW.PrintMore
set_option linter.unusedVariables false
set_option linter.unusedSimpArgs false
section
variable {w0 w w' : World} {R : List Asn}
abbrev layC (x : Int) : Array Value := #[.int .i64 1, .int .i64 2, .int .i64 27, .int .i64 29, .int .i64 4, .int .i64 33, .int .i64 1, .int .i64 34, .int .i64 1, .int .i64 35, .int .i64 x, .int .i64 (35 + x), .int .i64 1, .int .i64 1, .int .i64 1, .int .i64 1, .int .i64 2, .int .i64 0, .int .i64 x, .int .i64 27]
abbrev zeroC : Array Value := #[.int .i64 0, .int .i64 0, .int .i64 0, .int .i64 0, .int .i64 0, .int .i64 0, .int .i64 0, .int .i64 0, .int .i64 0, .int .i64 0, .int .i64 0, .int .i64 0, .int .i64 0, .int .i64 0, .int .i64 0, .int .i64 0, .int .i64 0, .int .i64 0, .int .i64 0, .int .i64 0]
abbrev shapeC (x : Int) : Array Value := #[.int .i64 1, .int .i64 1, .int .i64 1, .int .i64 1, .int .i64 2, .int .i64 0, .int .i64 x, .int .i64 27]
theorem eqI (w : World) (d : Nat) (x : Int) : (Op.equalIn (d + 1) 3 (.int .i64 x) (.int .i64 x)).run Tryz.prog w = .ok true w := by
  rw [run_equalIn_int (P := Tryz.prog) w d 3 .i64 .i64 x x Tryz.underlying3]
  simp
set_option maxRecDepth 100000 in
theorem shape_same (w : World) (d : Nat) (x : Int) : (Op.equalIn (d + 2) 27 (.agg (shapeC x)) (.agg (shapeC x))).run Tryz.prog w = .ok true w := by
  refine eqA_of Tryz.underlying27 (by kernel_rfl) ?_
  refine eqf_end (a := .int .i64 1) (b := .int .i64 1) (by decide) (by kernel_rfl) (by kernel_rfl) (eqI w d 1) ?_
  refine eqf_end (a := .int .i64 1) (b := .int .i64 1) (by decide) (by kernel_rfl) (by kernel_rfl) (eqI w d 1) ?_
  refine eqf_end (a := .int .i64 1) (b := .int .i64 1) (by decide) (by kernel_rfl) (by kernel_rfl) (eqI w d 1) ?_
  refine eqf_end (a := .int .i64 1) (b := .int .i64 1) (by decide) (by kernel_rfl) (by kernel_rfl) (eqI w d 1) ?_
  refine eqf_end (a := .int .i64 2) (b := .int .i64 2) (by decide) (by kernel_rfl) (by kernel_rfl) (eqI w d 2) ?_
  refine eqf_end (a := .int .i64 0) (b := .int .i64 0) (by decide) (by kernel_rfl) (by kernel_rfl) (eqI w d 0) ?_
  refine eqf_end (a := .int .i64 x) (b := .int .i64 x) (by decide) (by kernel_rfl) (by kernel_rfl) (eqI w d x) ?_
  refine eqf_end (a := .int .i64 27) (b := .int .i64 27) (by decide) (by kernel_rfl) (by kernel_rfl) (eqI w d 27) ?_
  exact eqf_nil
set_option maxRecDepth 100000 in
theorem lay_same (w : World) (d : Nat) (x : Int) : (Op.equalIn (d + 3) 29 (.agg (layC x)) (.agg (layC x))).run Tryz.prog w = .ok true w := by
  refine eqA_of Tryz.underlying29 (by kernel_rfl) ?_
  refine eqf_end (a := .int .i64 1) (b := .int .i64 1) (by decide) (by kernel_rfl) (by kernel_rfl) (eqI w (d + 1) 1) ?_
  refine eqf_end (a := .int .i64 2) (b := .int .i64 2) (by decide) (by kernel_rfl) (by kernel_rfl) (eqI w (d + 1) 2) ?_
  refine eqf_end (a := .int .i64 27) (b := .int .i64 27) (by decide) (by kernel_rfl) (by kernel_rfl) (eqI w (d + 1) 27) ?_
  refine eqf_end (a := .int .i64 29) (b := .int .i64 29) (by decide) (by kernel_rfl) (by kernel_rfl) (eqI w (d + 1) 29) ?_
  refine eqf_end (a := .int .i64 4) (b := .int .i64 4) (by decide) (by kernel_rfl) (by kernel_rfl) (eqI w (d + 1) 4) ?_
  refine eqf_end (a := .int .i64 33) (b := .int .i64 33) (by decide) (by kernel_rfl) (by kernel_rfl) (eqI w (d + 1) 33) ?_
  refine eqf_end (a := .int .i64 1) (b := .int .i64 1) (by decide) (by kernel_rfl) (by kernel_rfl) (eqI w (d + 1) 1) ?_
  refine eqf_end (a := .int .i64 34) (b := .int .i64 34) (by decide) (by kernel_rfl) (by kernel_rfl) (eqI w (d + 1) 34) ?_
  refine eqf_end (a := .int .i64 1) (b := .int .i64 1) (by decide) (by kernel_rfl) (by kernel_rfl) (eqI w (d + 1) 1) ?_
  refine eqf_end (a := .int .i64 35) (b := .int .i64 35) (by decide) (by kernel_rfl) (by kernel_rfl) (eqI w (d + 1) 35) ?_
  refine eqf_end (a := .int .i64 x) (b := .int .i64 x) (by decide) (by kernel_rfl) (by kernel_rfl) (eqI w (d + 1) x) ?_
  refine eqf_end (a := .int .i64 (35 + x)) (b := .int .i64 (35 + x)) (by decide) (by kernel_rfl) (by kernel_rfl) (eqI w (d + 1) (35 + x)) ?_
  refine eqf_end (a := .agg (shapeC x)) (b := .agg (shapeC x)) (by decide) (by kernel_rfl) (by kernel_rfl) (shape_same w d x) ?_
  exact eqf_nil
theorem lay_neq (w : World) (x : Int) : (binOp .neq 29 (.agg (layC x)) (.agg (layC x))).run Tryz.prog w = .ok (.bool false) w := by
  rw [run_neq_struct (P := Tryz.prog) w 29 (layC x) (layC x)]
  rw [show (10000 : Nat) = 9997 + 3 from rfl, lay_same w 9997 x]
  rfl
theorem wpList_wantRun {P : Program} {ops : Array Oper} {rest : List Oper} {o : Oper} {a : Act} {w : World} {Q : Exit → Act → World → Prop} (hw : Region.wanted o (yielded ops a.tmps) = true) (v : Value) (w' : World) (hrun : (execOp a.eval o).run P w = .ok (.value v) w')
    (h : wpList P ops Q rest (a.put o.dst v) w') : wpList P ops Q (o :: rest) a w :=
  wpList_step fun K hK => by
    rw [if_pos hw]
    unfold Oper.wp
    rw [hrun, Oper.upon_value]
    exact hK _ _ h
theorem run_neqOp {o : Oper} {ρ : Operand → Value} {t : TypeId} {x y : Operand} {t2 : TypeId} {xs ys : Array Value} {w : World} {b : Bool} (ho : o.op = .binOp .neq t x y t2) (hx : ρ x = .agg xs) (hy : ρ y = .agg ys) (hm : Tryz.prog.eqGuardType Tryz.prog.depth t = false) (h : (binOp .neq t (.agg xs) (.agg ys)).run Tryz.prog w = .ok (.bool b) w) :
    (execOp ρ o).run Tryz.prog w = .ok (.value (.bool b)) w := by
  unfold execOp
  simp only [ho, hx, hy, Sem.run_bind, run_eqGuard_agg (P := Tryz.prog) w .neq t x y xs ys hm, Result.andThen_ok, h, Sem.run_pure]
theorem run_loadOp {o : Oper} {ρ : Operand → Value} {t : TypeId} {x : Operand} {g : Nat} {cs : Array Value} {w : World} (ho : o.op = .load t x) (hx : ρ x = .pointer (some ⟨g, 0, none⟩)) (hl : (loadVar t ⟨g, 0, none⟩).run Tryz.prog w = .ok (.agg cs) w) :
    (execOp ρ o).run Tryz.prog w = .ok (.value (.agg cs)) w := by
  unfold execOp
  simp only [ho, hx, Instr.loadAt, Instr.sureAddr, Sem.run_bind, Sem.run_pure, Result.andThen_ok, hl]
/-- A layout that lies in a block of its own is read. -/
theorem run_layLoad {w0 w : World} {R : List Asn} {p : Nat} {x : Int} (S : Sep w0 w (Blk p (layC x) 29 :: R)) : (loadVar 29 ⟨p, 0, none⟩).run Tryz.prog w = .ok (.agg (layC x)) w :=
  run_loadVar_row (P := Tryz.prog) w p _ _ (layC x) (0, 0) _ S.blk Tryz.underlying29 rfl (by kernel_rfl)
set_option maxRecDepth 100000 in
set_option maxHeartbeats 8000000 in
theorem judge_s (hB : Bds w) (x : Int) (h0 : 8 ≤ x) (h1 : x ≤ 4061) : Calls Tryz.prog 48 #[.agg (layC x)] w fun e w' => e = .returned (.int .i64 0) ∧ Below w.heap.size w w' := by
  obtain ⟨Z, hZ⟩ : ∃ Z : Array Value, Z = zeroC := ⟨_, rfl⟩
  unfold zeroC at hZ
  have S0 := (Sep.start w).alloc (layC x) 29
  obtain ⟨p1, hp1⟩ : ∃ p1, p1 = w.heap.size := ⟨_, rfl⟩
  obtain ⟨W1, hW1⟩ : ∃ W1, W1 = w.alloc (.cells (layC x) 29) := ⟨_, rfl⟩
  rw [← hp1, ← hW1] at S0
  have hpl := plan_yes (bds_sep hB S0) x h0 h1
  have c12 := S0.cell 12 (v := .int .i64 1) rfl
  have c13 := S0.cell 13 (v := .int .i64 1) rfl
  have c14 := S0.cell 14 (v := .int .i64 1) rfl
  have c15 := S0.cell 15 (v := .int .i64 1) rfl
  have c16 := S0.cell 16 (v := .int .i64 2) rfl
  have c17 := S0.cell 17 (v := .int .i64 0) rfl
  have c18 := S0.cell 18 (v := .int .i64 x) rfl
  have c19 := S0.cell 19 (v := .int .i64 27) rfl
  go_enter Tryz.func48, Tryz.ntmps48
  go_upto_region 1 with fail
  rw [← hp1, ← hW1]
  clear hW1 hp1 h0 h1 hB
  go_wp2_with fail
  refine hpl.mono ?_
  clear hpl c12 c13 c14 c15 c16 c17 c18 c19
  rintro _ w2 ⟨rfl, hb2⟩
  have S := S0.calm hb2
  clear S0 hb2
  dsimp only
  iterate 13 go_step
  have S := S.alloc zeroC 29
  unfold zeroC at S
  rw [← hZ] at S
  obtain ⟨p3, hp3⟩ : ∃ p3, p3 = w2.heap.size := ⟨_, rfl⟩
  obtain ⟨W6, hW⟩ : ∃ W6, W6 = w2.alloc (.cells Z 29) := ⟨_, rfl⟩
  rw [← hp3, ← hW] at S
  rw [← hZ, ← hp3, ← hW]
  refine wpList_store_row rfl 29 (.tmp 3) (.tmp 9) rfl p3 _ rfl rfl 29 Z S.blk (by kernel_rfl) (by rw [hZ]; rfl) (by simp [Value.oneCell']) ?_
  have S := S.setRow (layC x)
  obtain ⟨W, hW9⟩ : ∃ W, W = W6.setRow p3 (layC x) := ⟨_, rfl⟩
  have HS : Aside0 (Sep w W [Blk p3 (layC x) 29, Blk p1 (layC x) 29]) := ⟨by rw [hW9]; exact S⟩
  rw [← hW9]
  clear hW9 hW hp3 S
  go_upto_region 2 with fail
  apply wp_region_lit
  iterate 9 go_step
  have S := HS.out
  refine wpList_wantRun (by rfl) _ _ (run_loadOp (t := 29) (x := .tmp 3) (g := p3) rfl rfl (run_layLoad S)) ?_
  refine wpList_wantRun (by rfl) _ _ (run_loadOp (t := 29) (x := .tmp 1) (g := p1) rfl rfl (run_layLoad S.swap)) ?_
  refine wpList_wantRun (by rfl) _ _ (run_neqOp (t := 29) (x := .tmp 14) (y := .tmp 15) rfl rfl rfl (by kernel_rfl) (lay_neq W x)) ?_
  clear S hZ
  go_wp2_with fail
  go_ret
  exact ⟨rfl, HS.out.bel⟩
end
end Go.Proofs.YtlhlmjkocmahmaaGreatDoor.Sep
/- space's at: where a data block's bit stands. -/
namespace Go.Proofs.YtlhlmjkocmahmaaGreatDoor.Sep
open Go.Proofs.YtlhlmjkocmahmaaGreatDoor Go.Proofs Go.RowKit Go.ChangeMaps Go.Proofs.YtlhlmjkocmahmaaGreatDoorW.PrintWords Go.Proofs.YtlhlmjkocmahmaaGreatDoorW.PrintLast Go.Proofs.YtlhlmjkocmahmaaGreatDoorW.PrintMore
set_option linter.unusedVariables false
set_option linter.unusedSimpArgs false
section
variable {w0 w w' : World} {R : List Asn}
set_option maxRecDepth 100000 in
set_option maxHeartbeats 8000000 in
theorem at_b (w : World) (x : Int) (i : Nat) (h1 : i < 4096) : Calls Tryz.prog 50 #[.agg (layC x), .int .i64 (35 + (i : Int))] w fun e w' => e = .returned (.tuple #[.int .i64 33, .int .i64 ((i / 8 : Nat) : Int), .int .u8 (2 ^ (i % 8))]) ∧ Below w.heap.size w w' := by
  have S0 := (Sep.start w).alloc (layC x) 29
  obtain ⟨p1, hp1⟩ : ∃ p1, p1 = w.heap.size := ⟨_, rfl⟩
  obtain ⟨W1, hW1⟩ : ∃ W1, W1 = w.alloc (.cells (layC x) 29) := ⟨_, rfl⟩
  rw [← hp1, ← hW1] at S0
  have c9 := S0.cell 9 (v := .int .i64 35) rfl
  have c5 := S0.cell 5 (v := .int .i64 33) rfl
  have hw : IntKind.i64.wrap (35 + (i : Int) - 35) = (i : Int) := by rw [IntKind.wrap_i64]; omega
  have hq : Int.tdiv (i : Int) 4096 = 0 := by rw [Int.tdiv_eq_ediv_of_nonneg (by omega)]; omega
  have hr : Int.tmod (i : Int) 4096 = (i : Int) := by rw [Int.tmod_eq_emod_of_nonneg (by omega)]; omega
  have hq8 : Int.tdiv (i : Int) 8 = ((i / 8 : Nat) : Int) := by rw [Int.tdiv_eq_ediv_of_nonneg (by omega)]; omega
  have hr8 : Int.tmod (i : Int) 8 = ((i % 8 : Nat) : Int) := by rw [Int.tmod_eq_emod_of_nonneg (by omega)]; omega
  go_enter Tryz.func50, Tryz.ntmps50
  go_upto_region 1 with fail
  rw [← hp1, ← hW1]
  clear hW1 hp1
  have HS := Aside0.mk S0
  clear S0
  go_upto_region 2 with fail
  go_quiet (fail)
  go_wp2_with fail
  go_ret3
  refine ⟨?_, (HS.out.drewN nq).bel⟩
  have h8 : i % 8 < 8 := Nat.mod_lt _ (by decide)
  have hp : (2 : Int) ^ (i % 8) % 256 = 2 ^ (i % 8) := Bm.fin8 (P := fun j => (2 : Int) ^ j % 256 = 2 ^ j) (by decide +kernel) h8
  simp [hp]
set_option maxRecDepth 100000 in
set_option maxHeartbeats 8000000 in
/-- The bitmap's block, of a data block. -/
theorem find_s {q p d D n k : Nat} {mk : Int} {sv : List (Int × Nat)} {Bd B : List Int} (hB : Bds w0) (S : Sep w0 w (SpA q p d D n k mk sv Bd B :: R)) (h0 : 8 ≤ D) (h1 : D ≤ 4000) (i : Nat) (hi : i < D) :
    Calls Tryz.prog 49 #[.pointer (some ⟨q, 0, none⟩), .agg (layC D), .int .i64 (35 + (i : Int))] w fun e w' => ∃ g, e = .returned (.tuple #[.slice (some ⟨g, 0, none⟩) 512 512, .int .i64 0]) ∧ B.length = 512 ∧ Sep w0 w' (Byt (some ⟨g, 0, none⟩) 512 512 B :: SpA q p d D n k mk sv Bd B :: R) := by
  have S0 := S.alloc (layC D) 29
  obtain ⟨p1, hp1⟩ : ∃ p1, p1 = w.heap.size := ⟨_, rfl⟩
  obtain ⟨W1, hW1⟩ : ∃ W1, W1 = w.alloc (.cells (layC D) 29) := ⟨_, rfl⟩
  rw [← hp1, ← hW1] at S0
  have hj := judge_s (bds_sep hB S0) (D : Int) (by omega) (by omega)
  go_enter Tryz.func49, Tryz.ntmps49
  go_upto_region 1 with fail
  rw [← hp1, ← hW1]
  clear hW1 hp1 S
  apply wp_region_lit
  refine wpList_wantRun (by rfl) _ _ (run_loadOp (t := 29) (x := .tmp 4) (g := p1) rfl rfl (run_layLoad S0)) ?_
  go_wp2_with fail
  refine hj.mono ?_
  clear hj
  rintro _ w2 ⟨rfl, hb2⟩
  have S1 := S0.calm hb2
  clear S0 hb2
  have c9 := S1.cell 9 (v := .int .i64 35) rfl
  have c10 := S1.cell 10 (v := .int .i64 (D : Int)) rfl
  have d1 : decide (35 + (i : Int) < 35) = false := decide_eq_false (by omega)
  have hw : IntKind.i64.wrap (35 + (D : Int)) = 35 + (D : Int) := by rw [IntKind.wrap_i64]; omega
  have d2 : decide (35 + (D : Int) ≤ 35 + (i : Int)) = false := decide_eq_false (by omega)
  have hat := at_b w2 (D : Int) i (by omega)
  have HS := Aside0.mk S1
  clear S1
  go_upto_region 6 with fail
  clear c9 c10 d1 d2 hw
  apply wp_region_lit
  refine wpList_wantRun (by rfl) _ _ (run_loadOp (t := 29) (x := .tmp 4) (g := p1) rfl rfl (run_layLoad HS.out)) ?_
  go_wp2_with fail
  refine hat.mono ?_
  clear hat
  rintro _ w3 ⟨rfl, hb3⟩
  have S2 := (HS.out.calm hb3).drop
  clear hb3 HS
  have hrd := read33 S2
  clear S2
  go_wp2_with fail
  refine hrd.mono ?_
  clear hrd
  rintro _ w4 ⟨g, rfl, hl, S⟩
  have HS := Aside0.mk S
  clear S
  go_wp2_with fail
  go_ret2
  exact ⟨g, rfl, hl, HS.out⟩
end
end Go.Proofs.YtlhlmjkocmahmaaGreatDoor.Sep
/- space.Has and space.Free of a data block. -/
namespace Go.Proofs.YtlhlmjkocmahmaaGreatDoor.Sep
open Go.Proofs.YtlhlmjkocmahmaaGreatDoor Go.Proofs Go.RowKit Go.ChangeMaps Go.Proofs.YtlhlmjkocmahmaaGreatDoorW.PrintWords Go.Proofs.YtlhlmjkocmahmaaGreatDoorW.PrintLast Go.Proofs.YtlhlmjkocmahmaaGreatDoorW.PrintMore
set_option linter.unusedVariables false
set_option linter.unusedSimpArgs false
theorem b_and {x : Int} (hx : Bm.OkB x) {j : Nat} (hj : j < 8) : bits .and .u8 x (2 ^ j) = if Bm.bt x j then 2 ^ j else 0 := Bm.and_is hx hj
theorem b_or {x : Int} (hx : Bm.OkB x) {j : Nat} (hj : j < 8) : bits .or .u8 x (2 ^ j) = Bm.bset x j := Bm.or_is hx hj
theorem b_clr {x : Int} (hx : Bm.OkB x) {j : Nat} (hj : j < 8) : bits .andNot .u8 x (2 ^ j) = Bm.bclr x j := Bm.clr_is hx hj
theorem at_is {B : List Int} {k : Nat} (h : k < B.length) : Bm.at_ B k = B[k] := by
  unfold Bm.at_
  rw [List.getD_eq_getElem?_getD, List.getElem?_eq_getElem h]
  rfl
section
variable {w0 w w' : World} {R : List Asn}
set_option maxRecDepth 100000 in
set_option maxHeartbeats 8000000 in
theorem has_s {q p d D n k : Nat} {mk : Int} {sv : List (Int × Nat)} {Bd B : List Int} (hB : Bds w0) (S : Sep w0 w (SpA q p d D n k mk sv Bd B :: R)) (hok : Bm.OkL B) (h0 : 8 ≤ D) (h1 : D ≤ 4000) (i : Nat) (hi : i < D) :
    Calls Tryz.prog 38 #[.pointer (some ⟨q, 0, none⟩), .agg (layC D), .int .i64 (35 + (i : Int))] w fun e w' => e = .returned (.tuple #[.bool (Bm.bit B i), .int .i64 0]) ∧ Sep w0 w' (SpA q p d D n k mk sv Bd B :: R) := by
  have S0 := S.alloc (layC D) 29
  obtain ⟨p1, hp1⟩ : ∃ p1, p1 = w.heap.size := ⟨_, rfl⟩
  obtain ⟨W1, hW1⟩ : ∃ W1, W1 = w.alloc (.cells (layC D) 29) := ⟨_, rfl⟩
  rw [← hp1, ← hW1] at S0
  have hf := find_s hB S0.swap h0 h1 i hi
  go_enter Tryz.func38, Tryz.ntmps38
  go_upto_region 1 with fail
  rw [← hp1, ← hW1]
  clear hW1 hp1 S
  apply wp_region_lit
  iterate 3 go_step
  refine wpList_wantRun (by rfl) _ _ (run_loadOp (t := 29) (x := .tmp 4) (g := p1) rfl rfl (run_layLoad S0)) ?_
  go_wp2_with fail
  refine hf.mono ?_
  clear hf S0
  rintro _ w2 ⟨g, rfl, hl, S1⟩
  have hat := at_b w2 (D : Int) i (by omega)
  go_upto_region 4 with fail
  apply wp_region_lit
  refine wpList_wantRun (by rfl) _ _ (run_loadOp (t := 29) (x := .tmp 4) (g := p1) rfl rfl (run_layLoad (S1.pull 2))) ?_
  go_wp2_with fail
  refine hat.mono ?_
  clear hat
  rintro _ w3 ⟨rfl, hb3⟩
  have S2 := S1.calm hb3
  clear S1 hb3
  have hi8 : i / 8 < 512 := by omega
  have hlt : ((i / 8 : Nat) : Int) < 512 := by omega
  have he := S2.elem (i / 8) hi8
  have HS := Aside0.mk S2
  clear S2
  go_wp2_with fail
  go_ret2
  have h8 : i % 8 < 8 := Nat.mod_lt _ (by decide)
  have hb := b_and (Bm.at_ok hok (i / 8)) h8
  rw [at_is (by omega)] at hb
  rw [hb]
  refine ⟨?_, (HS.out.drop.pull 1).drop⟩
  have hn : (2 : Int) ^ (i % 8) ≠ 0 := Bm.fin8 (P := fun j => (2 : Int) ^ j ≠ 0) (by decide) h8
  have hbit : Bm.bit B i = Bm.bt (B[i / 8]'(by omega)) (i % 8) := by
    unfold Bm.bit
    rw [at_is (by omega)]
  rw [hbit]
  cases Bm.bt (B[i / 8]'(by omega)) (i % 8)
  · rfl
  · rw [if_pos rfl]
    simp [hn]
set_option maxRecDepth 100000 in
set_option maxHeartbeats 8000000 in
theorem free_s {q p d D n k : Nat} {mk : Int} {sv : List (Int × Nat)} {Bd B : List Int} (hB : Bds w0) (S : Sep w0 w (SpA q p d D n k mk sv Bd B :: R)) (hok : Bm.OkL B) (h0 : 8 ≤ D) (h1 : D ≤ 4000) (hk : k ≤ 900000) (i : Nat) (hi : i < D) (hu : Bm.bit B i = true) :
    Calls Tryz.prog 14 #[.pointer (some ⟨q, 0, none⟩), .agg (layC D), .int .i64 (35 + (i : Int))] w fun e w' => e = .returned (.int .i64 0) ∧ Sep w0 w' (SpA q p d D n (k + 1) mk sv Bd (Bm.clrB B i) :: R) := by
  have S0 := S.alloc (layC D) 29
  obtain ⟨p1, hp1⟩ : ∃ p1, p1 = w.heap.size := ⟨_, rfl⟩
  obtain ⟨W1, hW1⟩ : ∃ W1, W1 = w.alloc (.cells (layC D) 29) := ⟨_, rfl⟩
  rw [← hp1, ← hW1] at S0
  have hf := find_s hB S0.swap h0 h1 i hi
  go_enter Tryz.func14, Tryz.ntmps14
  go_upto_region 1 with fail
  rw [← hp1, ← hW1]
  clear hW1 hp1 S
  apply wp_region_lit
  iterate 3 go_step
  refine wpList_wantRun (by rfl) _ _ (run_loadOp (t := 29) (x := .tmp 4) (g := p1) rfl rfl (run_layLoad S0)) ?_
  go_wp2_with fail
  refine hf.mono ?_
  clear hf S0
  rintro _ w2 ⟨g, rfl, hl, S1⟩
  have hat := at_b w2 (D : Int) i (by omega)
  go_upto_region 4 with fail
  apply wp_region_lit
  refine wpList_wantRun (by rfl) _ _ (run_loadOp (t := 29) (x := .tmp 4) (g := p1) rfl rfl (run_layLoad (S1.pull 2))) ?_
  go_wp2_with fail
  refine hat.mono ?_
  clear hat
  rintro _ w3 ⟨rfl, hb3⟩
  have S2 := S1.calm hb3
  clear S1 hb3
  have hi8 : i / 8 < 512 := by omega
  have hlt : ((i / 8 : Nat) : Int) < 512 := by omega
  have h8 : i % 8 < 8 := Nat.mod_lt _ (by decide)
  have he := S2.elem (i / 8) hi8
  have hf := S2.row_free (by decide) (i / 8)
  have hx : B[i / 8]'(by omega) = Bm.at_ B (i / 8) := (at_is (by omega)).symm
  have hb := b_and (Bm.at_ok hok (i / 8)) h8
  have hc := b_clr (Bm.at_ok hok (i / 8)) h8
  rw [← hx] at hb hc
  have hn : (2 : Int) ^ (i % 8) ≠ 0 := Bm.fin8 (P := fun j => (2 : Int) ^ j ≠ 0) (by decide) h8
  have hu2 : Bm.bt (B[i / 8]'(by omega)) (i % 8) = true := by rw [hx]; exact hu
  rw [if_pos hu2] at hb
  have S3 := S2.store (i / 8) (Bm.bclr (B[i / 8]'(by omega)) (i % 8))
  have hcl : B.set (i / 8) (Bm.bclr (B[i / 8]'(by omega)) (i % 8)) = Bm.clrB B i := by
    unfold Bm.clrB
    rw [at_is (by omega)]
  rw [hcl] at S3
  have hby : Jr.Byte (Bm.clrB B i) := fun y hy => by
    have := Bm.clrB_ok hok i y hy
    have h1 := this.1
    have h2 := this.2
    omega
  have hwr := write33 S3 hby hk
  clear S2 S3 hx hcl hby
  go_upto_region 8 with fail
  go_wp2_with fail
  refine hwr.mono ?_
  clear hwr hb hc he hf
  rintro _ w4 ⟨rfl, S4⟩
  have HS := Aside0.mk S4
  clear S4
  go_wp2_with fail
  go_ret
  exact ⟨rfl, (HS.out.drop.pull 1).drop⟩
set_option maxRecDepth 100000 in
set_option maxHeartbeats 8000000 in
/-- A block that is not in use. -/
theorem free_no {q p d D n k : Nat} {mk : Int} {sv : List (Int × Nat)} {Bd B : List Int} (hB : Bds w0) (S : Sep w0 w (SpA q p d D n k mk sv Bd B :: R)) (hok : Bm.OkL B) (h0 : 8 ≤ D) (h1 : D ≤ 4000) (i : Nat) (hi : i < D) (hu : Bm.bit B i = false) :
    Calls Tryz.prog 14 #[.pointer (some ⟨q, 0, none⟩), .agg (layC D), .int .i64 (35 + (i : Int))] w fun e w' => e = .returned (.int .i64 83) ∧ Sep w0 w' (SpA q p d D n k mk sv Bd B :: R) := by
  have S0 := S.alloc (layC D) 29
  obtain ⟨p1, hp1⟩ : ∃ p1, p1 = w.heap.size := ⟨_, rfl⟩
  obtain ⟨W1, hW1⟩ : ∃ W1, W1 = w.alloc (.cells (layC D) 29) := ⟨_, rfl⟩
  rw [← hp1, ← hW1] at S0
  have hf := find_s hB S0.swap h0 h1 i hi
  go_enter Tryz.func14, Tryz.ntmps14
  go_upto_region 1 with fail
  rw [← hp1, ← hW1]
  clear hW1 hp1 S
  apply wp_region_lit
  iterate 3 go_step
  refine wpList_wantRun (by rfl) _ _ (run_loadOp (t := 29) (x := .tmp 4) (g := p1) rfl rfl (run_layLoad S0)) ?_
  go_wp2_with fail
  refine hf.mono ?_
  clear hf S0
  rintro _ w2 ⟨g, rfl, hl, S1⟩
  have hat := at_b w2 (D : Int) i (by omega)
  go_upto_region 4 with fail
  apply wp_region_lit
  refine wpList_wantRun (by rfl) _ _ (run_loadOp (t := 29) (x := .tmp 4) (g := p1) rfl rfl (run_layLoad (S1.pull 2))) ?_
  go_wp2_with fail
  refine hat.mono ?_
  clear hat
  rintro _ w3 ⟨rfl, hb3⟩
  have S2 := S1.calm hb3
  clear S1 hb3
  have hi8 : i / 8 < 512 := by omega
  have hlt : ((i / 8 : Nat) : Int) < 512 := by omega
  have h8 : i % 8 < 8 := Nat.mod_lt _ (by decide)
  have he := S2.elem (i / 8) hi8
  have hf := S2.row_free (by decide) (i / 8)
  have hx : B[i / 8]'(by omega) = Bm.at_ B (i / 8) := (at_is (by omega)).symm
  have hb := b_and (Bm.at_ok hok (i / 8)) h8
  have hc := b_clr (Bm.at_ok hok (i / 8)) h8
  rw [← hx] at hb hc
  have hn : (2 : Int) ^ (i % 8) ≠ 0 := Bm.fin8 (P := fun j => (2 : Int) ^ j ≠ 0) (by decide) h8
  have hu2 : Bm.bt (B[i / 8]'(by omega)) (i % 8) = false := by rw [hx]; exact hu
  rw [hu2, if_neg (by decide)] at hb
  have HS := Aside0.mk S2
  clear S2 hx hc
  go_wp2_with fail
  go_ret
  exact ⟨rfl, (HS.out.drop.pull 1).drop⟩
end
end Go.Proofs.YtlhlmjkocmahmaaGreatDoor.Sep
/- space.Used: how many blocks are in use. -/
namespace Go.Proofs.YtlhlmjkocmahmaaGreatDoor.Sep
open Go.Proofs.YtlhlmjkocmahmaaGreatDoor Go.Proofs Go.RowKit Go.ChangeMaps Go.Proofs.YtlhlmjkocmahmaaGreatDoorW.PrintWords Go.Proofs.YtlhlmjkocmahmaaGreatDoorW.PrintLast Go.Proofs.YtlhlmjkocmahmaaGreatDoorW.PrintMore
set_option linter.unusedVariables false
set_option linter.unusedSimpArgs false
section
variable {w0 w w' : World} {R : List Asn}
theorem ones_is {x : Int} (hx : Bm.OkB x) : (Lib.onesCount x.toNat : Int) = Bm.pop x 8 := Bm.fin_all (P := fun x => (Lib.onesCount x.toNat : Int) = Bm.pop x 8) (by decide +kernel) hx
set_option maxRecDepth 100000 in
theorem ones_s (w : World) {x : Int} (hx : Bm.OkB x) : Calls Tryz.prog 51 #[.int .u8 x] w fun e w' => e = .returned (.int .i64 (Bm.pop x 8)) ∧ w' = w := by
  rw [← ones_is hx, ← Lib.pop8_int x hx.1 hx.2]
  have h0 := hx.1
  have h1 := hx.2
  clear hx
  go_enter Tryz.func51, Tryz.ntmps51
  go_wp2
  go_ret
  have e : wrap64 (Lib.pop8 x) = (Lib.pop8 x + 9223372036854775808) % 18446744073709551616 - 9223372036854775808 := by
    unfold wrap64
    rfl
  exact ⟨congrArg (fun y => Ending.returned (.int .i64 y)) e, rfl⟩
theorem b_low {x : Int} (hx : Bm.OkB x) {m : Nat} (hm : m < 8) : bits .and .u8 x ((2 ^ m - 1) % 256) = Bm.low x m :=
  Bm.fin8 (P := fun j => bits .and .u8 x ((2 ^ j - 1) % 256) = Bm.low x j) (Bm.fin_all (P := fun x => ∀ j : Fin 8, bits .and .u8 x ((2 ^ j.val - 1) % 256) = Bm.low x j.val) (by decide +kernel) hx) hm
/-- One byte more. -/
theorem cnt_more {B : List Int} (hok : Bm.OkL B) (D j : Nat) : Bm.cnt B (min (8 * (j + 1)) D) = Bm.cnt B (min (8 * j) D) + Bm.pop (if D - 8 * j < 8 then Bm.low (Bm.at_ B j) (D - 8 * j) else Bm.at_ B j) 8 := by
  by_cases h : D - 8 * j < 8
  · rw [if_pos h, Bm.pop_low (Bm.at_ok hok j) h]
    by_cases h2 : 8 * j ≤ D
    · rw [show min (8 * (j + 1)) D = 8 * j + (D - 8 * j) by omega, show min (8 * j) D = 8 * j by omega]
      exact Bm.cnt_byte B j _ (by omega)
    · rw [show min (8 * (j + 1)) D = D by omega, show min (8 * j) D = D by omega, show D - 8 * j = 0 by omega]
      show _ = _ + (0 : Int)
      omega
  · rw [if_neg h, show min (8 * (j + 1)) D = 8 * j + 8 by omega, show min (8 * j) D = 8 * j by omega]
    exact Bm.cnt_byte B j 8 (by omega)
set_option maxRecDepth 100000 in
set_option maxHeartbeats 8000000 in
theorem used_s {q p d D n k : Nat} {mk : Int} {sv : List (Int × Nat)} {Bd B : List Int} (hB : Bds w0) (S : Sep w0 w (SpA q p d D n k mk sv Bd B :: R)) (hok : Bm.OkL B) (h0 : 8 ≤ D) (h1 : D ≤ 4000) :
    Calls Tryz.prog 15 #[.pointer (some ⟨q, 0, none⟩), .agg (layC D)] w fun e w' => e = .returned (.tuple #[.int .i64 (Bm.cnt B D), .int .i64 0]) ∧ Sep w0 w' (SpA q p d D n k mk sv Bd B :: R) := by
  have S0 := S.alloc (layC D) 29
  obtain ⟨p1, hp1⟩ : ∃ p1, p1 = w.heap.size := ⟨_, rfl⟩
  obtain ⟨W1, hW1⟩ : ∃ W1, W1 = w.alloc (.cells (layC D) 29) := ⟨_, rfl⟩
  rw [← hp1, ← hW1] at S0
  have hj := judge_s (bds_sep hB S0) (D : Int) (by omega) (by omega)
  go_enter Tryz.func15, Tryz.ntmps15
  go_upto_region 1 with fail
  rw [← hp1, ← hW1]
  clear hW1 hp1 S
  apply wp_region_lit
  refine wpList_wantRun (by rfl) _ _ (run_loadOp (t := 29) (x := .tmp 3) (g := p1) rfl rfl (run_layLoad S0)) ?_
  go_wp2_with fail
  refine hj.mono ?_
  clear hj
  rintro _ w2 ⟨rfl, hb2⟩
  have S1 := S0.calm hb2
  clear S0 hb2
  have c10 := S1.cell 10 (v := .int .i64 (D : Int)) rfl
  have c6 := S1.cell 6 (v := .int .i64 1) rfl
  have c5 := S1.cell 5 (v := .int .i64 33) rfl
  have HS := Aside0.mk S1
  clear S1
  go_upto_region 4 with fail
  go_quiet (fail)
  have HS2 := Aside0.mk (HS.out.drewN nq)
  have e6 : (w2.drewN nq).cell? ⟨p1, 6, none⟩ = some (.int .i64 1) := HS2.out.cell 6 rfl
  have e5 : (w2.drewN nq).cell? ⟨p1, 5, none⟩ = some (.int .i64 33) := HS2.out.cell 5 rfl
  obtain ⟨W3, hW3⟩ : ∃ W3, W3 = w2.drewN nq := ⟨_, rfl⟩
  rw [← hW3] at HS2 e6 e5 ⊢
  clear hW3 HS c10 c6 c5 w2
  have hrd := read33 (HS2.out.pull 1)
  clear h0
  go_wp2_with fail
  go_loopw [7, 8, 23] (fun nv l kv wr => (kv = .int .i64 0 ∧ nv = .int .i64 0 ∧ l = .int .i64 (D : Int) ∧ wr = W3) ∨ (kv = .int .i64 1 ∧ nv = .int .i64 (Bm.cnt B D) ∧ Sep w0 wr (SpA q p d D n k mk sv Bd B :: R))) (fun _ _ i _ => (2 - intOf i).toNat)
  case atStart => exact .inl ⟨rfl, rfl, rfl, rfl⟩
  case round =>
    rcases hrel with ⟨rfl, rfl, rfl, rfl⟩ | ⟨rfl, rfl, S9⟩
    · clear e6
      go_wp2_with fail
      refine hrd.mono ?_
      clear hrd HS2 e5
      rintro _ w4 ⟨g, rfl, hl, S4⟩
      have HS := Aside0.mk S4
      clear S4
      go_wp2_with fail
      go_loopw [7, 8, 40] (fun nv l iv wq => ∃ j : Nat, j ≤ 512 ∧ iv = .int .i64 (j : Int) ∧ nv = .int .i64 (Bm.cnt B (min (8 * j) D)) ∧ l = .int .i64 ((D - 8 * j : Nat) : Int) ∧ wq = w4) (fun _ _ i _ => (512 - intOf i).toNat)
      case atStart => exact ⟨0, Nat.zero_le _, rfl, by simp [Bm.cnt], rfl, rfl⟩
      case round =>
        obtain ⟨j, hj, rfl, rfl, rfl, rfl⟩ := hrel
        by_cases hj2 : j < 512
        · have hlt : (j : Int) < 512 := by omega
          have he := HS.out.elem j hj2
          have hx : B[j]'(by omega) = Bm.at_ B j := (at_is (by omega)).symm
          have hokx := Bm.at_ok hok j
          have hcm := cnt_more hok D j
          obtain ⟨m, hm⟩ : ∃ m, m = D - 8 * j := ⟨_, rfl⟩
          rw [← hm] at hcm ⊢
          have HM := Aside0.mk hm
          clear hm
          by_cases hm8 : m < 8
          · have d1 : decide ((m : Int) < 8) = true := decide_eq_true (by omega)
            have hmin : min m 8 = m := by omega
            have hbl := b_low hokx hm8
            rw [if_pos hm8] at hcm
            have hon := ones_s wr (Bm.low_ok hokx hm8)
            have HC := Aside0.mk hcm
            clear hcm
            go_wp2_with fail
            refine hon.mono ?_
            clear hon
            rintro _ _ ⟨rfl, rfl⟩
            go_wp2_with fail
            have hcp := Bm.cnt_pos B (min (8 * (j + 1)) D)
            have hm0 := HM.out
            refine ⟨⟨j + 1, hj2, by go_num, ?_, ?_, trivial⟩, by simp [intOf]; omega⟩
            · rw [← HC.out]
              rw [show wrap64 (Bm.cnt B (min (8 * (j + 1)) D)) = Bm.cnt B (min (8 * (j + 1)) D) by unfold wrap64; omega]
            · congr 1
              omega
          · have d1 : decide ((m : Int) < 8) = false := decide_eq_false (by omega)
            rw [if_neg hm8] at hcm
            have HC := Aside0.mk hcm
            clear hcm
            have hon := ones_s wr hokx
            go_wp2_with fail
            refine hon.mono ?_
            clear hon
            rintro _ _ ⟨rfl, rfl⟩
            go_wp2_with fail
            have hcp := Bm.cnt_pos B (min (8 * (j + 1)) D)
            have hm0 := HM.out
            refine ⟨⟨j + 1, hj2, by go_num, ?_, ?_, trivial⟩, by simp [intOf]; omega⟩
            · rw [← HC.out]
              rw [show wrap64 (Bm.cnt B (min (8 * (j + 1)) D)) = Bm.cnt B (min (8 * (j + 1)) D) by unfold wrap64; omega]
            · congr 1
              unfold wrap64
              omega
        · have hlt : ¬ (j : Int) < 512 := by omega
          obtain rfl : j = 512 := by omega
          go_wp2_with fail
          refine ⟨.inr ⟨rfl, ?_, (HS.out.drop.pull 1).drop⟩, by simp [intOf]⟩
          rw [show min (8 * 512) D = D by omega]
    · have HS := Aside0.mk S9
      clear S9
      go_wp2_with fail
      go_ret2
      exact ⟨rfl, HS.out⟩
end
end Go.Proofs.YtlhlmjkocmahmaaGreatDoor.Sep
