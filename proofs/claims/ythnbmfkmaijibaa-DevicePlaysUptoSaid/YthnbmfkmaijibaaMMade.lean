/- DevicePlays: made (New, Image, Again). -/
import Derived.Test.YthnbmfkmaijibaaMPlay
import Derived.Deep.RegionHeld3
import Derived.Test.YthnbmfkmaijibaaSteps
import Derived.Test.YthnbmfkmaijibaaMBook
import Derived.Deep.CutBlock
namespace Go.Proofs.Ythnbmfkmaijibaa.Sep
open Go.Proofs Go.RowKit Go.Proofs.YthnbmfkmaijibaaW.PrintWords Go.Proofs.YthnbmfkmaijibaaW.PrintLast Go.Proofs.YthnbmfkmaijibaaW.PrintMore Go.Proofs.Ythnbmfkmaijibaa.IMap Go.Proofs.Ythnbmfkmaijibaa.Dev Go.Proofs.Ythnbmfkmaijibaa.PDeviceReads Go.Proofs.Ythnbmfkmaijibaa.Help
set_option linter.unusedVariables false
set_option linter.unusedSimpArgs false
theorem and1 (x : Int) : bits .and .i64 x 1 = 0 ∨ bits .and .i64 x 1 = 1 := by
  have h : (BitVec.ofInt 64 x &&& BitVec.ofInt 64 1).toNat = (BitVec.ofInt 64 x).toNat % 2 := by
    rw [BitVec.toNat_and]
    exact Nat.and_one_is_mod _
  show IntKind.i64.wrap (((BitVec.ofInt 64 x &&& BitVec.ofInt 64 1).toNat : Nat) : Int) = 0 ∨ IntKind.i64.wrap (((BitVec.ofInt 64 x &&& BitVec.ofInt 64 1).toNat : Nat) : Int) = 1
  rw [h]
  rcases Nat.mod_two_eq_zero_or_one (BitVec.ofInt 64 x).toNat with e | e
  · rw [e]; exact .inl (by decide)
  · rw [e]; exact .inr (by decide)
theorem kset {w : World} {a b : Addr} {u v : Value} (h : w.cell? a = some v) (hne : a.block ≠ b.block) : (w.setCell b u).cell? a = some v :=
  (World.cell?_of_block (Below.heap_setCell w b u a.block hne)).trans h
abbrev playP (a0 b0 a1 b1 : Option Addr) (A : Option Addr) (k c st : Nat) : Array Value := playC (.pointer a0) (.pointer b0) (.pointer a1) (.pointer b1) A k c st
/-- What made leaves: all as it was but the book, or a new pair at the i-th place. -/
def MadeP (w0 : World) (y : Nat) (a0 b0 a1 b1 : Option Addr) (k st i : Nat) (R : List Asn) (e : Ending) (w' : World) : Prop :=
  ∃ A' k' c', k' ≤ k + 3 ∧ e = .returned (.bool true) ∧ (Sep w0 w' (Blk y (playP a0 b0 a1 b1 A' k' c' st) 81 :: BookA A' k' c' :: R) ∨
    ∃ p q s, s.pend = [] ∧ Sep w0 w' (Blk y (if i = 0 then playP (some ⟨p, 0, none⟩) (some ⟨q, 0, none⟩) a1 b1 A' k' c' st else playP a0 b0 (some ⟨p, 0, none⟩) (some ⟨q, 0, none⟩) A' k' c' st) 81 :: BookA A' k' c' :: DevA p s :: RefA q s :: R))
section
variable {w0 w w' : World} {R : List Asn} {A : Option Addr} {k c st y : Nat} {a0 b0 a1 b1 : Option Addr} {o : Op6} {Ad Ak : Option Addr} {cd ck : Nat}
set_option maxRecDepth 100000 in
set_option maxHeartbeats 8000000 in
theorem made_new0 (S : Sep w0 w (Blk y (playP a0 b0 a1 b1 A k c st) 81 :: BookA A k c :: R)) (hK : o.2.2.2.1 < 9223372036854775808) (hkind : o.1 = 1) (hw : bits .and .i64 o.2.1 1 = 0) :
    Calls Try.prog 41 #[.pointer (some ⟨y, 0, none⟩), .agg (opCells o Ad cd Ak ck)] w (MadeP w0 y a0 b0 a1 b1 k st 0 R) := by
  obtain ⟨kd, who, b, kk, d, ks⟩ := o
  obtain rfl : kd = 1 := hkind
  simp only at hw
  have hy : y < w.heap.size := (Array.getElem?_eq_some_iff.1 S.blk).1
  have S1 := S.alloc (opCells (1, who, b, kk, d, ks) Ad cd Ak ck) 83
  have x1 := S1.cellAt 0 rfl 1 (v := .int .i64 who) rfl
  have y0 := S1.cellAt 1 rfl 0 (v := .pointer a0) rfl
  have y1 := S1.cellAt 1 rfl 1 (v := .pointer b0) rfl
  have n1 := World.new_ne _ _ x1
  have n2 := World.new_ne _ _ y0
  have n3 := World.new_ne _ _ y1
  have S2 := (S1.alloc #[.pointer a0, .pointer b0] 77).drew
  rw [show (w.alloc (.cells (opCells (1, who, b, kk, d, ks) Ad cd Ak ck) 83)).heap.size = w.heap.size + 1 from World.size_alloc ..] at S2
  have HS2 := Aside0.mk S2
  clear S S1 S2
  go_enter Try.func41, Try.ntmps41
  go_wp2_with fail
  go_region_held3 (fun W => W.cell? ⟨w.heap.size, 1, none⟩ = some (.int .i64 who) ∧ W.cell? ⟨y, 0, none⟩ = some (.pointer a0) ∧ W.cell? ⟨y, 1, none⟩ = some (.pointer b0)) (go_keep) (fail)
  clear x1 y0 y1 n1 n2 n3
  generalize ((w.alloc (.cells (opCells (1, who, b, kk, d, ks) Ad cd Ak ck) 83)).alloc (.cells #[.pointer a0, .pointer b0] 77)).drew = W2 at HS2 ⊢
  have x0 := HS2.out.cellAt 1 rfl 0 (v := .int .i64 1) rfl
  have x3 := HS2.out.cellAt 1 rfl 3 (v := .int .i64 kk) rfl
  by_cases hk : kk < 1 ∨ kk > 4096
  · have p0 := HS2.out.cellAt 0 rfl 0 (v := .pointer a0) rfl
    have p1 := HS2.out.cellAt 0 rfl 1 (v := .pointer b0) rfl
    have f0 := HS2.out.freeAt 0 rfl 0
    have f1 := HS2.out.freeAt 0 rfl 1
    go_wp2_with fail
    go_region_held3 (fun W => W.cell? ⟨w.heap.size, 3, none⟩ = some (.int .i64 kk)) (repeat (first | (with_reducible assumption) | (with_reducible refine kd ?_) | (with_reducible refine ka ?_ _) | (with_reducible refine kset ?_ (by dsimp only; omega))))
      (first | (go_at_call 14; refine (new_no _ kk hk).mono ?_; rintro e w5 ⟨rfl, rfl⟩) | (go_at_call 35; refine (rnew_no kk hk _).mono ?_; rintro e w6 ⟨rfl, rfl⟩))
    have S7 := ((HS2.out.set 0 (.pointer none)).set 1 (.pointer none)).drew
    have q0 := S7.cellAt 0 rfl 0 (v := .pointer none) rfl
    have q1 := S7.cellAt 0 rfl 1 (v := .pointer none) rfl
    have HF := Aside0.mk S7.drop.drop
    clear S7 HS2 x0 x3 p0 p1 f0 f1
    go_wp2_with fail
    go_ret
    exact ⟨A, k, c, by omega, rfl, .inl HF.out⟩
  · obtain ⟨n, rfl⟩ : ∃ n : Nat, kk = (n : Int) := ⟨kk.toNat, by omega⟩
    go_wp2_with fail
    go_region_held3 (fun W => W.cell? ⟨w.heap.size, 3, none⟩ = some (.int .i64 (n : Int))) (repeat (first | (with_reducible assumption) | (with_reducible refine kd ?_) | (with_reducible refine ka ?_ _) | (with_reducible refine kset ?_ (by dsimp only; omega))))
      (first | (go_at_call 14; refine (new_s HS2.out.drew n (by omega) (by omega)).mono ?_; rintro e w5 ⟨p, rfl, S5⟩; have z3 := S5.cellAt 2 rfl 3 (v := .int .i64 (n : Int)) rfl) | (go_at_call 35; refine (rnew_s S5 n (by omega) (by omega)).mono ?_; rintro e w6 ⟨q, rfl, S6⟩; have z6 := S6.cellAt 3 rfl 3 (v := .int .i64 (n : Int)) rfl; have f0 := S6.freeAt 2 rfl 0; have f1 := S6.freeAt 2 rfl 1; have g0 := S6.cellAt 2 rfl 0 (v := .pointer a0) rfl; have g1 := S6.cellAt 2 rfl 1 (v := .pointer b0) rfl))
    have S7 := ((S6.p2.set 0 (.pointer (some ⟨p, 0, none⟩))).set 1 (.pointer (some ⟨q, 0, none⟩))).p1.p2.p5.p5.p5.p5
    have HT := Aside0.mk S7
    clear S5 S6 S7 HS2 x0 x3 z3 z6 f0 f1 g0 g1
    have t0 := HT.out.cellAt 0 rfl 0 (v := .pointer (some ⟨p, 0, none⟩)) rfl
    have t1 := HT.out.cellAt 0 rfl 1 (v := .pointer (some ⟨q, 0, none⟩)) rfl
    have t2 := HT.out.cellAt 1 rfl 1 (v := .int .i64 who) rfl
    have t3 := HT.out.cellAt 2 rfl 0 (v := .pointer a0) rfl
    have t4 := HT.out.cellAt 2 rfl 1 (v := .pointer b0) rfl
    have t5 := HT.out.freeAt 2 rfl 0
    have t6 := HT.out.freeAt 2 rfl 1
    go_wp2_with fail
    go_region_held3 (fun W => W.cell? ⟨w.heap.size, 1, none⟩ = some (.int .i64 who) ∧ W.cell? ⟨w.heap.size + 1, 0, none⟩ = some (.pointer (some ⟨p, 0, none⟩)) ∧ W.cell? ⟨w.heap.size + 1, 1, none⟩ = some (.pointer (some ⟨q, 0, none⟩))) (refine ⟨?_, ?_, ?_⟩ <;> (repeat (first | (with_reducible assumption) | (with_reducible refine kd ?_) | (with_reducible refine kset ?_ (by dsimp only; omega))))) (fail)
    have HF := Aside0.mk (((HT.out.drew.p2.set 0 (.pointer (some ⟨p, 0, none⟩))).set 1 (.pointer (some ⟨q, 0, none⟩))).d1.d1)
    clear HT t0 t1 t2 t3 t4 t5 t6
    go_wp2_with fail
    go_ret
    exact ⟨A, k, c, by omega, rfl, .inr ⟨p, q, _, rfl, HF.out⟩⟩
set_option maxRecDepth 100000 in
set_option maxHeartbeats 8000000 in
theorem made_new1 (S : Sep w0 w (Blk y (playP a0 b0 a1 b1 A k c st) 81 :: BookA A k c :: R)) (hK : o.2.2.2.1 < 9223372036854775808) (hkind : o.1 = 1) (hw : bits .and .i64 o.2.1 1 = 1) :
    Calls Try.prog 41 #[.pointer (some ⟨y, 0, none⟩), .agg (opCells o Ad cd Ak ck)] w (MadeP w0 y a0 b0 a1 b1 k st 1 R) := by
  obtain ⟨kd, who, b, kk, d, ks⟩ := o
  obtain rfl : kd = 1 := hkind
  simp only at hw
  have hy : y < w.heap.size := (Array.getElem?_eq_some_iff.1 S.blk).1
  have S1 := S.alloc (opCells (1, who, b, kk, d, ks) Ad cd Ak ck) 83
  have x1 := S1.cellAt 0 rfl 1 (v := .int .i64 who) rfl
  have y0 := S1.cellAt 1 rfl 2 (v := .pointer a1) rfl
  have y1 := S1.cellAt 1 rfl 3 (v := .pointer b1) rfl
  have n1 := World.new_ne _ _ x1
  have n2 := World.new_ne _ _ y0
  have n3 := World.new_ne _ _ y1
  have S2 := (S1.alloc #[.pointer a1, .pointer b1] 77).drew
  rw [show (w.alloc (.cells (opCells (1, who, b, kk, d, ks) Ad cd Ak ck) 83)).heap.size = w.heap.size + 1 from World.size_alloc ..] at S2
  have HS2 := Aside0.mk S2
  clear S S1 S2
  go_enter Try.func41, Try.ntmps41
  go_wp2_with fail
  go_region_held3 (fun W => W.cell? ⟨w.heap.size, 1, none⟩ = some (.int .i64 who) ∧ W.cell? ⟨y, 2, none⟩ = some (.pointer a1) ∧ W.cell? ⟨y, 3, none⟩ = some (.pointer b1)) (go_keep) (fail)
  clear x1 y0 y1 n1 n2 n3
  generalize ((w.alloc (.cells (opCells (1, who, b, kk, d, ks) Ad cd Ak ck) 83)).alloc (.cells #[.pointer a1, .pointer b1] 77)).drew = W2 at HS2 ⊢
  have x0 := HS2.out.cellAt 1 rfl 0 (v := .int .i64 1) rfl
  have x3 := HS2.out.cellAt 1 rfl 3 (v := .int .i64 kk) rfl
  by_cases hk : kk < 1 ∨ kk > 4096
  · have p0 := HS2.out.cellAt 0 rfl 0 (v := .pointer a1) rfl
    have p1 := HS2.out.cellAt 0 rfl 1 (v := .pointer b1) rfl
    have f0 := HS2.out.freeAt 0 rfl 0
    have f1 := HS2.out.freeAt 0 rfl 1
    go_wp2_with fail
    go_region_held3 (fun W => W.cell? ⟨w.heap.size, 3, none⟩ = some (.int .i64 kk)) (repeat (first | (with_reducible assumption) | (with_reducible refine kd ?_) | (with_reducible refine ka ?_ _) | (with_reducible refine kset ?_ (by dsimp only; omega))))
      (first | (go_at_call 14; refine (new_no _ kk hk).mono ?_; rintro e w5 ⟨rfl, rfl⟩) | (go_at_call 35; refine (rnew_no kk hk _).mono ?_; rintro e w6 ⟨rfl, rfl⟩))
    have S7 := ((HS2.out.set 0 (.pointer none)).set 1 (.pointer none)).drew
    have q0 := S7.cellAt 0 rfl 0 (v := .pointer none) rfl
    have q1 := S7.cellAt 0 rfl 1 (v := .pointer none) rfl
    have HF := Aside0.mk S7.drop.drop
    clear S7 HS2 x0 x3 p0 p1 f0 f1
    go_wp2_with fail
    go_ret
    exact ⟨A, k, c, by omega, rfl, .inl HF.out⟩
  · obtain ⟨n, rfl⟩ : ∃ n : Nat, kk = (n : Int) := ⟨kk.toNat, by omega⟩
    go_wp2_with fail
    go_region_held3 (fun W => W.cell? ⟨w.heap.size, 3, none⟩ = some (.int .i64 (n : Int))) (repeat (first | (with_reducible assumption) | (with_reducible refine kd ?_) | (with_reducible refine ka ?_ _) | (with_reducible refine kset ?_ (by dsimp only; omega))))
      (first | (go_at_call 14; refine (new_s HS2.out.drew n (by omega) (by omega)).mono ?_; rintro e w5 ⟨p, rfl, S5⟩; have z3 := S5.cellAt 2 rfl 3 (v := .int .i64 (n : Int)) rfl) | (go_at_call 35; refine (rnew_s S5 n (by omega) (by omega)).mono ?_; rintro e w6 ⟨q, rfl, S6⟩; have z6 := S6.cellAt 3 rfl 3 (v := .int .i64 (n : Int)) rfl; have f0 := S6.freeAt 2 rfl 0; have f1 := S6.freeAt 2 rfl 1; have g0 := S6.cellAt 2 rfl 0 (v := .pointer a1) rfl; have g1 := S6.cellAt 2 rfl 1 (v := .pointer b1) rfl))
    have S7 := ((S6.p2.set 0 (.pointer (some ⟨p, 0, none⟩))).set 1 (.pointer (some ⟨q, 0, none⟩))).p1.p2.p5.p5.p5.p5
    have HT := Aside0.mk S7
    clear S5 S6 S7 HS2 x0 x3 z3 z6 f0 f1 g0 g1
    have t0 := HT.out.cellAt 0 rfl 0 (v := .pointer (some ⟨p, 0, none⟩)) rfl
    have t1 := HT.out.cellAt 0 rfl 1 (v := .pointer (some ⟨q, 0, none⟩)) rfl
    have t2 := HT.out.cellAt 1 rfl 1 (v := .int .i64 who) rfl
    have t3 := HT.out.cellAt 2 rfl 2 (v := .pointer a1) rfl
    have t4 := HT.out.cellAt 2 rfl 3 (v := .pointer b1) rfl
    have t5 := HT.out.freeAt 2 rfl 2
    have t6 := HT.out.freeAt 2 rfl 3
    go_wp2_with fail
    go_region_held3 (fun W => W.cell? ⟨w.heap.size, 1, none⟩ = some (.int .i64 who) ∧ W.cell? ⟨w.heap.size + 1, 0, none⟩ = some (.pointer (some ⟨p, 0, none⟩)) ∧ W.cell? ⟨w.heap.size + 1, 1, none⟩ = some (.pointer (some ⟨q, 0, none⟩))) (refine ⟨?_, ?_, ?_⟩ <;> (repeat (first | (with_reducible assumption) | (with_reducible refine kd ?_) | (with_reducible refine kset ?_ (by dsimp only; omega))))) (fail)
    have HF := Aside0.mk (((HT.out.drew.p2.set 2 (.pointer (some ⟨p, 0, none⟩))).set 3 (.pointer (some ⟨q, 0, none⟩))).d1.d1)
    clear HT t0 t1 t2 t3 t4 t5 t6
    go_wp2_with fail
    go_ret
    exact ⟨A, k, c, by omega, rfl, .inr ⟨p, q, _, rfl, HF.out⟩⟩
end
end Go.Proofs.Ythnbmfkmaijibaa.Sep
/- DevicePlays: made (Image). -/
namespace Go.Proofs.Ythnbmfkmaijibaa.Sep
open Go.Proofs Go.RowKit Go.Proofs.YthnbmfkmaijibaaW.PrintWords Go.Proofs.YthnbmfkmaijibaaW.PrintLast Go.Proofs.YthnbmfkmaijibaaW.PrintMore Go.Proofs.Ythnbmfkmaijibaa.IMap Go.Proofs.Ythnbmfkmaijibaa.Dev Go.Proofs.Ythnbmfkmaijibaa.PDeviceReads Go.Proofs.Ythnbmfkmaijibaa.Help
set_option linter.unusedVariables false
set_option linter.unusedSimpArgs false
section
variable {w0 w w' : World} {R : List Asn} {A : Option Addr} {k c st y : Nat} {a0 b0 a1 b1 : Option Addr} {o : Op6} {Ad Ak : Option Addr} {cd ck : Nat}
set_option maxRecDepth 100000 in
set_option maxHeartbeats 8000000 in
theorem made_image0 (S : Sep w0 w (Blk y (playP a0 b0 a1 b1 A k c st) 81 :: BookA A k c :: R)) (ho : OpIn w0 o Ad cd Ak ck) (hdl : o.2.2.2.2.1.length ≤ 1000000) (hkk : k ≤ 200000000000) (hst : st ≤ 100000000) (hkind : o.1 = 2) (hw : bits .and .i64 o.2.1 1 = 0) :
    Calls Try.prog 41 #[.pointer (some ⟨y, 0, none⟩), .agg (opCells o Ad cd Ak ck)] w (MadeP w0 y a0 b0 a1 b1 k st 0 R) := by
  obtain ⟨kd, who, b, kk, d, ks⟩ := o
  obtain rfl : kd = 2 := hkind
  simp only at hw
  have HO := Aside0.mk ho
  simp only at hdl
  have HD : Aside0 (∀ W, Below w0.heap.size w0 W → ReadsInt W .u8 Ad d.length d) := ⟨fun W hW => reads_old HO.out.data hW⟩
  have hdc : d.length ≤ cd := HO.out.dcap
  clear ho
  have hy : y < w.heap.size := (Array.getElem?_eq_some_iff.1 S.blk).1
  have S1 := S.alloc (opCells (2, who, b, kk, d, ks) Ad cd Ak ck) 83
  have x1 := S1.cellAt 0 rfl 1 (v := .int .i64 who) rfl
  have y0 := S1.cellAt 1 rfl 0 (v := .pointer a0) rfl
  have y1 := S1.cellAt 1 rfl 1 (v := .pointer b0) rfl
  have n1 := World.new_ne _ _ x1
  have n2 := World.new_ne _ _ y0
  have n3 := World.new_ne _ _ y1
  have S2 := (S1.alloc #[.pointer a0, .pointer b0] 77).drew
  rw [show (w.alloc (.cells (opCells (2, who, b, kk, d, ks) Ad cd Ak ck) 83)).heap.size = w.heap.size + 1 from World.size_alloc ..] at S2
  have HS2 := Aside0.mk S2
  clear S S1 S2
  go_enter Try.func41, Try.ntmps41
  go_wp2_with fail
  go_region_held3 (fun W => W.cell? ⟨w.heap.size, 1, none⟩ = some (.int .i64 who) ∧ W.cell? ⟨y, 0, none⟩ = some (.pointer a0) ∧ W.cell? ⟨y, 1, none⟩ = some (.pointer b0)) (go_keep) (fail)
  clear x1 y0 y1 n1 n2 n3
  generalize ((w.alloc (.cells (opCells (2, who, b, kk, d, ks) Ad cd Ak ck) 83)).alloc (.cells #[.pointer a0, .pointer b0] 77)).drew = W2 at HS2 ⊢
  have x0 := HS2.out.cellAt 1 rfl 0 (v := .int .i64 2) rfl
  have x4 := HS2.out.cellAt 1 rfl 4 (v := .slice Ad d.length cd) rfl
  go_wp2_with fail
  refine (roomy_s HS2.out (HD.out _ HS2.out.bel) hdc hdl).mono ?_
  clear HS2 x0 x4
  rintro e w1 ⟨B, cB, rfl, S⟩
  obtain ⟨gB, rfl⟩ := S.addr (by omega)
  have hcB := S.cap
  have x4 := S.cellAt 2 rfl 4 (v := .slice Ad d.length cd) rfl
  have hdn : (d.length : Int) ≤ (cB : Int) := by omega
  have hdn2 : d.length ≤ cB := by omega
  have HP : Aside0 (ReadsInt w1 .u8 (some ⟨gB, 0, none⟩) d.length d) := ⟨by
    obtain ⟨G, h, _⟩ := S.hd
    exact (byt_part (by rfl) G h).1⟩
  have HS := Aside0.mk S
  clear S
  go_wp2_with fail
  refine (image_s HS.out (some ⟨gB, 0, none⟩) cB d HP.out).mono ?_
  clear HP x4
  intro e w2 h
  unfold ImageP at h
  cases hf : fit d with
  | false =>
    rw [hf, if_neg (by simp)] at h
    obtain ⟨rfl, S⟩ := h
    have x4 := S.cellAt 2 rfl 4 (v := .slice Ad d.length cd) rfl
    have HF2 := Aside0.mk hf
    clear HS hf
    have HS := Aside0.mk S
    clear S
    go_wp2_with fail
    refine (rimage_s HS.out Ad cd d (HD.out _ HS.out.bel)).mono ?_
    clear HS x4
    intro e w3 h
    unfold RImageP at h
    rw [HF2.out, if_neg (by simp)] at h
    obtain ⟨rfl, S⟩ := h
    have x4 := S.cellAt 2 rfl 4 (v := .slice Ad d.length cd) rfl
    have HS := Aside0.mk S
    clear S
    go_wp2_with fail
    refine (roomy_s HS.out (HD.out _ HS.out.bel) hdc hdl).mono ?_
    clear HS x4
    rintro e w3 ⟨B2, cB2, rfl, S⟩
    go_wp2_with fail
    refine (same_t S _ _ _ _ _ _ _ _ rfl (S.pull 1).reads S.reads (S.pull 1).cap S.cap (by omega)).mono ?_
    clear S
    rintro e w4 ⟨rfl, S⟩
    have HS := Aside0.mk S.drop
    clear S
    go_wp2_with (go_at_call 19; refine (num_any _ _).mono ?_; rintro e w' ⟨rfl, rfl⟩)
    have x4 := HS.out.cellAt 3 rfl 4 (v := .slice A k c) rfl
    go_region_law (first | (refine call_step Try.func61 (by kernel_rfl) (by rfl) #[.tmp 74] #[75] (by rfl) (by rfl) #[.pointer (some ⟨y, 0, none⟩)] (by first | rfl | (simp [Act.eval]; done) | (simp [go_sem, Act.eval]; done)) ?_; refine (mark_s (by rfl) hst HS.out.drew.p3).mono ?_; rintro e w6 ⟨m, rfl, rfl⟩; refine ⟨_, rfl, ?_⟩) | (refine call_step Try.func60 (by kernel_rfl) (by rfl) #[.tmp 72, .tmp 73, .tmp 75] #[79, 29, 5] (by rfl) (by rfl) #[.slice A k c, .slice (some ⟨gB, 0, none⟩) (d.length + 3) cB, .int .u8 m] (by first | rfl | (simp [Act.eval]; done) | (simp [go_sem, Act.eval]; done)) ?_; refine (bk_keep HS.out.drew.p4 (by omega) (by omega) m).mono ?_; rintro e w9 ⟨A', c', rfl, S9⟩; refine ⟨_, rfl, ?_⟩; have z4 := S9.cellAt 3 rfl 4 (v := .slice A k c) rfl; have z5 := S9.freeAt 3 rfl 4))
    all_goals (
      have S10 := S9.p3.set 4 (.slice A' (k + 3) c')
      have f0 := S10.freeAt 2 rfl 0
      have f1 := S10.freeAt 2 rfl 1
      have g0 := S10.cellAt 2 rfl 0 (v := .pointer a0) rfl
      have g1 := S10.cellAt 2 rfl 1 (v := .pointer b0) rfl
      have g2 := S10.cellAt 3 rfl 0 (v := .int .i64 2) rfl
      have S11 := (S10.p2.set 0 (.pointer none)).set 1 (.pointer none)
      have q0 := S11.cellAt 0 rfl 0 (v := .pointer none) rfl
      have q1 := S11.cellAt 0 rfl 1 (v := .pointer none) rfl
      have HF := Aside0.mk S11.drop.d2
      clear S9 S10 S11 z4 z5 x4 HS
      go_wp2_with fail
      go_ret
      exact ⟨A', k + 3, c', Nat.le_refl _, rfl, .inl HF.out⟩)
  | true =>
    rw [hf, if_pos rfl] at h
    obtain ⟨p, rfl, S⟩ := h
    have x4 := S.cellAt 3 rfl 4 (v := .slice Ad d.length cd) rfl
    have HF2 := Aside0.mk hf
    clear HS hf
    have HS := Aside0.mk S
    clear S
    go_wp2_with fail
    refine (rimage_s HS.out Ad cd d (HD.out _ HS.out.bel)).mono ?_
    clear HS x4
    intro e w3 h
    unfold RImageP at h
    rw [HF2.out, if_pos rfl] at h
    obtain ⟨q, rfl, S⟩ := h
    have x4 := S.cellAt 4 rfl 4 (v := .slice Ad d.length cd) rfl
    have HS := Aside0.mk S
    clear S
    go_wp2_with fail
    refine (roomy_s HS.out (HD.out _ HS.out.bel) hdc hdl).mono ?_
    clear HS x4
    rintro e w3 ⟨B2, cB2, rfl, S⟩
    go_wp2_with fail
    refine (same_t S _ _ _ _ _ _ _ _ rfl (S.pull 3).reads S.reads (S.pull 3).cap S.cap (by omega)).mono ?_
    clear S
    rintro e w4 ⟨rfl, S⟩
    have HS := Aside0.mk S.drop
    clear S
    go_wp2_with (go_at_call 19; refine (num_any _ _).mono ?_; rintro e w' ⟨rfl, rfl⟩)
    have x4 := HS.out.cellAt 5 rfl 4 (v := .slice A k c) rfl
    go_region_law (first | (refine call_step Try.func61 (by kernel_rfl) (by rfl) #[.tmp 74] #[75] (by rfl) (by rfl) #[.pointer (some ⟨y, 0, none⟩)] (by first | rfl | (simp [Act.eval]; done) | (simp [go_sem, Act.eval]; done)) ?_; refine (mark_s (by rfl) hst HS.out.drew.p5).mono ?_; rintro e w6 ⟨m, rfl, rfl⟩; refine ⟨_, rfl, ?_⟩) | (refine call_step Try.func60 (by kernel_rfl) (by rfl) #[.tmp 72, .tmp 73, .tmp 75] #[79, 29, 5] (by rfl) (by rfl) #[.slice A k c, .slice (some ⟨gB, 0, none⟩) (d.length + 3) cB, .int .u8 m] (by first | rfl | (simp [Act.eval]; done) | (simp [go_sem, Act.eval]; done)) ?_; refine (bk_keep HS.out.drew.p2.p6 (by omega) (by omega) m).mono ?_; rintro e w9 ⟨A', c', rfl, S9⟩; refine ⟨_, rfl, ?_⟩; have z4 := S9.cellAt 5 rfl 4 (v := .slice A k c) rfl; have z5 := S9.freeAt 5 rfl 4))
    all_goals (
      have S10 := (S9.p5.set 4 (.slice A' (k + 3) c')).p2.p3.p3.p3.p5.p5
      have f0 := S10.freeAt 0 rfl 0
      have f1 := S10.freeAt 0 rfl 1
      have g0 := S10.cellAt 0 rfl 0 (v := .pointer a0) rfl
      have g1 := S10.cellAt 0 rfl 1 (v := .pointer b0) rfl
      have g2 := S10.cellAt 1 rfl 0 (v := .int .i64 2) rfl
      have S11 := (S10.set 0 (.pointer (some ⟨p, 0, none⟩))).set 1 (.pointer (some ⟨q, 0, none⟩))
      have HT := Aside0.mk S11
      clear S9 S10 S11 z4 z5 x4 HS
      have t0 := HT.out.cellAt 0 rfl 0 (v := .pointer (some ⟨p, 0, none⟩)) rfl
      have t1 := HT.out.cellAt 0 rfl 1 (v := .pointer (some ⟨q, 0, none⟩)) rfl
      have t2 := HT.out.cellAt 1 rfl 1 (v := .int .i64 who) rfl
      have t3 := HT.out.cellAt 2 rfl 0 (v := .pointer a0) rfl
      have t4 := HT.out.cellAt 2 rfl 1 (v := .pointer b0) rfl
      have t5 := HT.out.freeAt 2 rfl 0
      have t6 := HT.out.freeAt 2 rfl 1
      go_wp2_with fail
      go_region_held3 (fun W => W.cell? ⟨w.heap.size, 1, none⟩ = some (.int .i64 who) ∧ W.cell? ⟨w.heap.size + 1, 0, none⟩ = some (.pointer (some ⟨p, 0, none⟩)) ∧ W.cell? ⟨w.heap.size + 1, 1, none⟩ = some (.pointer (some ⟨q, 0, none⟩))) (refine ⟨?_, ?_, ?_⟩ <;> (repeat (first | (with_reducible assumption) | (with_reducible refine kd ?_) | (with_reducible refine kset ?_ (by dsimp only; omega))))) (fail)
      have HF := Aside0.mk (((HT.out.drew.p2.set 0 (.pointer (some ⟨p, 0, none⟩))).set 1 (.pointer (some ⟨q, 0, none⟩))).d1.d1)
      clear HT t0 t1 t2 t3 t4 t5 t6
      go_wp2_with fail
      go_ret
      exact ⟨A', k + 3, c', Nat.le_refl _, rfl, .inr ⟨p, q, _, rfl, HF.out⟩⟩)
set_option maxRecDepth 100000 in
set_option maxHeartbeats 8000000 in
theorem made_image1 (S : Sep w0 w (Blk y (playP a0 b0 a1 b1 A k c st) 81 :: BookA A k c :: R)) (ho : OpIn w0 o Ad cd Ak ck) (hdl : o.2.2.2.2.1.length ≤ 1000000) (hkk : k ≤ 200000000000) (hst : st ≤ 100000000) (hkind : o.1 = 2) (hw : bits .and .i64 o.2.1 1 = 1) :
    Calls Try.prog 41 #[.pointer (some ⟨y, 0, none⟩), .agg (opCells o Ad cd Ak ck)] w (MadeP w0 y a0 b0 a1 b1 k st 1 R) := by
  obtain ⟨kd, who, b, kk, d, ks⟩ := o
  obtain rfl : kd = 2 := hkind
  simp only at hw
  have HO := Aside0.mk ho
  simp only at hdl
  have HD : Aside0 (∀ W, Below w0.heap.size w0 W → ReadsInt W .u8 Ad d.length d) := ⟨fun W hW => reads_old HO.out.data hW⟩
  have hdc : d.length ≤ cd := HO.out.dcap
  clear ho
  have hy : y < w.heap.size := (Array.getElem?_eq_some_iff.1 S.blk).1
  have S1 := S.alloc (opCells (2, who, b, kk, d, ks) Ad cd Ak ck) 83
  have x1 := S1.cellAt 0 rfl 1 (v := .int .i64 who) rfl
  have y0 := S1.cellAt 1 rfl 2 (v := .pointer a1) rfl
  have y1 := S1.cellAt 1 rfl 3 (v := .pointer b1) rfl
  have n1 := World.new_ne _ _ x1
  have n2 := World.new_ne _ _ y0
  have n3 := World.new_ne _ _ y1
  have S2 := (S1.alloc #[.pointer a1, .pointer b1] 77).drew
  rw [show (w.alloc (.cells (opCells (2, who, b, kk, d, ks) Ad cd Ak ck) 83)).heap.size = w.heap.size + 1 from World.size_alloc ..] at S2
  have HS2 := Aside0.mk S2
  clear S S1 S2
  go_enter Try.func41, Try.ntmps41
  go_wp2_with fail
  go_region_held3 (fun W => W.cell? ⟨w.heap.size, 1, none⟩ = some (.int .i64 who) ∧ W.cell? ⟨y, 2, none⟩ = some (.pointer a1) ∧ W.cell? ⟨y, 3, none⟩ = some (.pointer b1)) (go_keep) (fail)
  clear x1 y0 y1 n1 n2 n3
  generalize ((w.alloc (.cells (opCells (2, who, b, kk, d, ks) Ad cd Ak ck) 83)).alloc (.cells #[.pointer a1, .pointer b1] 77)).drew = W2 at HS2 ⊢
  have x0 := HS2.out.cellAt 1 rfl 0 (v := .int .i64 2) rfl
  have x4 := HS2.out.cellAt 1 rfl 4 (v := .slice Ad d.length cd) rfl
  go_wp2_with fail
  refine (roomy_s HS2.out (HD.out _ HS2.out.bel) hdc hdl).mono ?_
  clear HS2 x0 x4
  rintro e w1 ⟨B, cB, rfl, S⟩
  obtain ⟨gB, rfl⟩ := S.addr (by omega)
  have hcB := S.cap
  have x4 := S.cellAt 2 rfl 4 (v := .slice Ad d.length cd) rfl
  have hdn : (d.length : Int) ≤ (cB : Int) := by omega
  have hdn2 : d.length ≤ cB := by omega
  have HP : Aside0 (ReadsInt w1 .u8 (some ⟨gB, 0, none⟩) d.length d) := ⟨by
    obtain ⟨G, h, _⟩ := S.hd
    exact (byt_part (by rfl) G h).1⟩
  have HS := Aside0.mk S
  clear S
  go_wp2_with fail
  refine (image_s HS.out (some ⟨gB, 0, none⟩) cB d HP.out).mono ?_
  clear HP x4
  intro e w2 h
  unfold ImageP at h
  cases hf : fit d with
  | false =>
    rw [hf, if_neg (by simp)] at h
    obtain ⟨rfl, S⟩ := h
    have x4 := S.cellAt 2 rfl 4 (v := .slice Ad d.length cd) rfl
    have HF2 := Aside0.mk hf
    clear HS hf
    have HS := Aside0.mk S
    clear S
    go_wp2_with fail
    refine (rimage_s HS.out Ad cd d (HD.out _ HS.out.bel)).mono ?_
    clear HS x4
    intro e w3 h
    unfold RImageP at h
    rw [HF2.out, if_neg (by simp)] at h
    obtain ⟨rfl, S⟩ := h
    have x4 := S.cellAt 2 rfl 4 (v := .slice Ad d.length cd) rfl
    have HS := Aside0.mk S
    clear S
    go_wp2_with fail
    refine (roomy_s HS.out (HD.out _ HS.out.bel) hdc hdl).mono ?_
    clear HS x4
    rintro e w3 ⟨B2, cB2, rfl, S⟩
    go_wp2_with fail
    refine (same_t S _ _ _ _ _ _ _ _ rfl (S.pull 1).reads S.reads (S.pull 1).cap S.cap (by omega)).mono ?_
    clear S
    rintro e w4 ⟨rfl, S⟩
    have HS := Aside0.mk S.drop
    clear S
    go_wp2_with (go_at_call 19; refine (num_any _ _).mono ?_; rintro e w' ⟨rfl, rfl⟩)
    have x4 := HS.out.cellAt 3 rfl 4 (v := .slice A k c) rfl
    go_region_law (first | (refine call_step Try.func61 (by kernel_rfl) (by rfl) #[.tmp 74] #[75] (by rfl) (by rfl) #[.pointer (some ⟨y, 0, none⟩)] (by first | rfl | (simp [Act.eval]; done) | (simp [go_sem, Act.eval]; done)) ?_; refine (mark_s (by rfl) hst HS.out.drew.p3).mono ?_; rintro e w6 ⟨m, rfl, rfl⟩; refine ⟨_, rfl, ?_⟩) | (refine call_step Try.func60 (by kernel_rfl) (by rfl) #[.tmp 72, .tmp 73, .tmp 75] #[79, 29, 5] (by rfl) (by rfl) #[.slice A k c, .slice (some ⟨gB, 0, none⟩) (d.length + 3) cB, .int .u8 m] (by first | rfl | (simp [Act.eval]; done) | (simp [go_sem, Act.eval]; done)) ?_; refine (bk_keep HS.out.drew.p4 (by omega) (by omega) m).mono ?_; rintro e w9 ⟨A', c', rfl, S9⟩; refine ⟨_, rfl, ?_⟩; have z4 := S9.cellAt 3 rfl 4 (v := .slice A k c) rfl; have z5 := S9.freeAt 3 rfl 4))
    all_goals (
      have S10 := S9.p3.set 4 (.slice A' (k + 3) c')
      have f0 := S10.freeAt 2 rfl 0
      have f1 := S10.freeAt 2 rfl 1
      have g0 := S10.cellAt 2 rfl 0 (v := .pointer a1) rfl
      have g1 := S10.cellAt 2 rfl 1 (v := .pointer b1) rfl
      have g2 := S10.cellAt 3 rfl 0 (v := .int .i64 2) rfl
      have S11 := (S10.p2.set 0 (.pointer none)).set 1 (.pointer none)
      have q0 := S11.cellAt 0 rfl 0 (v := .pointer none) rfl
      have q1 := S11.cellAt 0 rfl 1 (v := .pointer none) rfl
      have HF := Aside0.mk S11.drop.d2
      clear S9 S10 S11 z4 z5 x4 HS
      go_wp2_with fail
      go_ret
      exact ⟨A', k + 3, c', Nat.le_refl _, rfl, .inl HF.out⟩)
  | true =>
    rw [hf, if_pos rfl] at h
    obtain ⟨p, rfl, S⟩ := h
    have x4 := S.cellAt 3 rfl 4 (v := .slice Ad d.length cd) rfl
    have HF2 := Aside0.mk hf
    clear HS hf
    have HS := Aside0.mk S
    clear S
    go_wp2_with fail
    refine (rimage_s HS.out Ad cd d (HD.out _ HS.out.bel)).mono ?_
    clear HS x4
    intro e w3 h
    unfold RImageP at h
    rw [HF2.out, if_pos rfl] at h
    obtain ⟨q, rfl, S⟩ := h
    have x4 := S.cellAt 4 rfl 4 (v := .slice Ad d.length cd) rfl
    have HS := Aside0.mk S
    clear S
    go_wp2_with fail
    refine (roomy_s HS.out (HD.out _ HS.out.bel) hdc hdl).mono ?_
    clear HS x4
    rintro e w3 ⟨B2, cB2, rfl, S⟩
    go_wp2_with fail
    refine (same_t S _ _ _ _ _ _ _ _ rfl (S.pull 3).reads S.reads (S.pull 3).cap S.cap (by omega)).mono ?_
    clear S
    rintro e w4 ⟨rfl, S⟩
    have HS := Aside0.mk S.drop
    clear S
    go_wp2_with (go_at_call 19; refine (num_any _ _).mono ?_; rintro e w' ⟨rfl, rfl⟩)
    have x4 := HS.out.cellAt 5 rfl 4 (v := .slice A k c) rfl
    go_region_law (first | (refine call_step Try.func61 (by kernel_rfl) (by rfl) #[.tmp 74] #[75] (by rfl) (by rfl) #[.pointer (some ⟨y, 0, none⟩)] (by first | rfl | (simp [Act.eval]; done) | (simp [go_sem, Act.eval]; done)) ?_; refine (mark_s (by rfl) hst HS.out.drew.p5).mono ?_; rintro e w6 ⟨m, rfl, rfl⟩; refine ⟨_, rfl, ?_⟩) | (refine call_step Try.func60 (by kernel_rfl) (by rfl) #[.tmp 72, .tmp 73, .tmp 75] #[79, 29, 5] (by rfl) (by rfl) #[.slice A k c, .slice (some ⟨gB, 0, none⟩) (d.length + 3) cB, .int .u8 m] (by first | rfl | (simp [Act.eval]; done) | (simp [go_sem, Act.eval]; done)) ?_; refine (bk_keep HS.out.drew.p2.p6 (by omega) (by omega) m).mono ?_; rintro e w9 ⟨A', c', rfl, S9⟩; refine ⟨_, rfl, ?_⟩; have z4 := S9.cellAt 5 rfl 4 (v := .slice A k c) rfl; have z5 := S9.freeAt 5 rfl 4))
    all_goals (
      have S10 := (S9.p5.set 4 (.slice A' (k + 3) c')).p2.p3.p3.p3.p5.p5
      have f0 := S10.freeAt 0 rfl 0
      have f1 := S10.freeAt 0 rfl 1
      have g0 := S10.cellAt 0 rfl 0 (v := .pointer a1) rfl
      have g1 := S10.cellAt 0 rfl 1 (v := .pointer b1) rfl
      have g2 := S10.cellAt 1 rfl 0 (v := .int .i64 2) rfl
      have S11 := (S10.set 0 (.pointer (some ⟨p, 0, none⟩))).set 1 (.pointer (some ⟨q, 0, none⟩))
      have HT := Aside0.mk S11
      clear S9 S10 S11 z4 z5 x4 HS
      have t0 := HT.out.cellAt 0 rfl 0 (v := .pointer (some ⟨p, 0, none⟩)) rfl
      have t1 := HT.out.cellAt 0 rfl 1 (v := .pointer (some ⟨q, 0, none⟩)) rfl
      have t2 := HT.out.cellAt 1 rfl 1 (v := .int .i64 who) rfl
      have t3 := HT.out.cellAt 2 rfl 2 (v := .pointer a1) rfl
      have t4 := HT.out.cellAt 2 rfl 3 (v := .pointer b1) rfl
      have t5 := HT.out.freeAt 2 rfl 2
      have t6 := HT.out.freeAt 2 rfl 3
      go_wp2_with fail
      go_region_held3 (fun W => W.cell? ⟨w.heap.size, 1, none⟩ = some (.int .i64 who) ∧ W.cell? ⟨w.heap.size + 1, 0, none⟩ = some (.pointer (some ⟨p, 0, none⟩)) ∧ W.cell? ⟨w.heap.size + 1, 1, none⟩ = some (.pointer (some ⟨q, 0, none⟩))) (refine ⟨?_, ?_, ?_⟩ <;> (repeat (first | (with_reducible assumption) | (with_reducible refine kd ?_) | (with_reducible refine kset ?_ (by dsimp only; omega))))) (fail)
      have HF := Aside0.mk (((HT.out.drew.p2.set 2 (.pointer (some ⟨p, 0, none⟩))).set 3 (.pointer (some ⟨q, 0, none⟩))).d1.d1)
      clear HT t0 t1 t2 t3 t4 t5 t6
      go_wp2_with fail
      go_ret
      exact ⟨A', k + 3, c', Nat.le_refl _, rfl, .inr ⟨p, q, _, rfl, HF.out⟩⟩)
end
end Go.Proofs.Ythnbmfkmaijibaa.Sep
/- DevicePlays: made (Again). -/
namespace Go.Proofs.Ythnbmfkmaijibaa.Sep
open Go.Proofs Go.RowKit Go.Proofs.YthnbmfkmaijibaaW.PrintWords Go.Proofs.YthnbmfkmaijibaaW.PrintLast Go.Proofs.YthnbmfkmaijibaaW.PrintMore Go.Proofs.Ythnbmfkmaijibaa.IMap Go.Proofs.Ythnbmfkmaijibaa.Dev Go.Proofs.Ythnbmfkmaijibaa.PDeviceReads Go.Proofs.Ythnbmfkmaijibaa.Help
set_option linter.unusedVariables false
set_option linter.unusedSimpArgs false
theorem Sep.p7 {w0 w : World} {A B C D E F G H : Asn} {R : List Asn} (S : Sep w0 w (A :: B :: C :: D :: E :: F :: G :: H :: R)) : Sep w0 w (H :: A :: B :: C :: D :: E :: F :: G :: R) := S.pull 7
section
variable {w0 w w' : World} {R : List Asn} {A : Option Addr} {k c st y : Nat} {p0 q0 : Nat} {s : DS} {a0 b0 a1 b1 : Option Addr} {o : Op6} {Ad Ak : Option Addr} {cd ck : Nat}
set_option maxRecDepth 100000 in
set_option maxHeartbeats 8000000 in
theorem made_nil0 (S : Sep w0 w (Blk y (playP a0 b0 a1 b1 A k c st) 81 :: BookA A k c :: R)) (hn : a0 = none) (hkind : o.1 = 10) (hw : bits .and .i64 o.2.1 1 = 0) :
    Calls Try.prog 41 #[.pointer (some ⟨y, 0, none⟩), .agg (opCells o Ad cd Ak ck)] w (MadeP w0 y a0 b0 a1 b1 k st 0 R) := by
  obtain ⟨kd, who, b, kk, d, ks⟩ := o
  obtain rfl : kd = 10 := hkind
  simp only at hw
  subst hn
  have hy : y < w.heap.size := (Array.getElem?_eq_some_iff.1 S.blk).1
  have S1 := S.alloc (opCells (10, who, b, kk, d, ks) Ad cd Ak ck) 83
  have x1 := S1.cellAt 0 rfl 1 (v := .int .i64 who) rfl
  have y0 := S1.cellAt 1 rfl 0 (v := .pointer none) rfl
  have y1 := S1.cellAt 1 rfl 1 (v := .pointer b0) rfl
  have n1 := World.new_ne _ _ x1
  have n2 := World.new_ne _ _ y0
  have n3 := World.new_ne _ _ y1
  have S2 := (S1.alloc #[.pointer none, .pointer b0] 77).drew
  rw [show (w.alloc (.cells (opCells (10, who, b, kk, d, ks) Ad cd Ak ck) 83)).heap.size = w.heap.size + 1 from World.size_alloc ..] at S2
  have HS2 := Aside0.mk S2
  clear S S1 S2
  go_enter Try.func41, Try.ntmps41
  go_wp2_with fail
  go_region_held3 (fun W => W.cell? ⟨w.heap.size, 1, none⟩ = some (.int .i64 who) ∧ W.cell? ⟨y, 0, none⟩ = some (.pointer none) ∧ W.cell? ⟨y, 1, none⟩ = some (.pointer b0)) (go_keep) (fail)
  clear x1 y0 y1 n1 n2 n3
  generalize ((w.alloc (.cells (opCells (10, who, b, kk, d, ks) Ad cd Ak ck) 83)).alloc (.cells #[.pointer none, .pointer b0] 77)).drew = W2 at HS2 ⊢
  have x0 := HS2.out.cellAt 1 rfl 0 (v := .int .i64 10) rfl
  have p0 := HS2.out.cellAt 0 rfl 0 (v := .pointer none) rfl
  have HF := Aside0.mk HS2.out.drop.drop
  clear HS2
  go_wp2_with fail
  go_ret
  exact ⟨A, k, c, by omega, rfl, .inl HF.out⟩
set_option maxRecDepth 100000 in
set_option maxHeartbeats 8000000 in
theorem made_again0 (S : Sep w0 w (Blk y (playP a0 b0 a1 b1 A k c st) 81 :: BookA A k c :: DevA p0 s :: RefA q0 s :: R)) (hok : s.Ok) (ha : a0 = some ⟨p0, 0, none⟩) (hb : b0 = some ⟨q0, 0, none⟩) (hkind : o.1 = 10) (hw : bits .and .i64 o.2.1 1 = 0) :
    Calls Try.prog 41 #[.pointer (some ⟨y, 0, none⟩), .agg (opCells o Ad cd Ak ck)] w (MadeP w0 y a0 b0 a1 b1 k st 0 (DevA p0 s :: RefA q0 s :: R)) := by
  obtain ⟨kd, who, b, kk, d, ks⟩ := o
  obtain rfl : kd = 10 := hkind
  simp only at hw
  subst ha
  subst hb
  have hy : y < w.heap.size := (Array.getElem?_eq_some_iff.1 S.blk).1
  have S1 := S.alloc (opCells (10, who, b, kk, d, ks) Ad cd Ak ck) 83
  have x1 := S1.cellAt 0 rfl 1 (v := .int .i64 who) rfl
  have y0 := S1.cellAt 1 rfl 0 (v := .pointer (some ⟨p0, 0, none⟩)) rfl
  have y1 := S1.cellAt 1 rfl 1 (v := .pointer (some ⟨q0, 0, none⟩)) rfl
  have n1 := World.new_ne _ _ x1
  have n2 := World.new_ne _ _ y0
  have n3 := World.new_ne _ _ y1
  have S2 := (S1.alloc #[.pointer (some ⟨p0, 0, none⟩), .pointer (some ⟨q0, 0, none⟩)] 77).drew
  rw [show (w.alloc (.cells (opCells (10, who, b, kk, d, ks) Ad cd Ak ck) 83)).heap.size = w.heap.size + 1 from World.size_alloc ..] at S2
  have HS2 := Aside0.mk S2
  clear S S1 S2
  go_enter Try.func41, Try.ntmps41
  go_wp2_with fail
  go_region_held3 (fun W => W.cell? ⟨w.heap.size, 1, none⟩ = some (.int .i64 who) ∧ W.cell? ⟨y, 0, none⟩ = some (.pointer (some ⟨p0, 0, none⟩)) ∧ W.cell? ⟨y, 1, none⟩ = some (.pointer (some ⟨q0, 0, none⟩))) (go_keep) (fail)
  clear x1 y0 y1 n1 n2 n3
  generalize ((w.alloc (.cells (opCells (10, who, b, kk, d, ks) Ad cd Ak ck) 83)).alloc (.cells #[.pointer (some ⟨p0, 0, none⟩), .pointer (some ⟨q0, 0, none⟩)] 77)).drew = W2 at HS2 ⊢
  have x0 := HS2.out.cellAt 1 rfl 0 (v := .int .i64 10) rfl
  have hfit : fit s.dur = true := by
    unfold fit
    have e1 := hok.len
    have e2 := hok.n0
    have e3 := hok.n1
    simp only [Bool.and_eq_true, decide_eq_true_eq]
    unfold DS.n at e1 e2 e3
    omega
  have hdl : s.dur.length ≤ 140737488355328 := by have := hok.len; have := hok.n1; omega
  have HF2 := Aside0.mk hfit
  have HDL := Aside0.mk hdl
  have p0c := HS2.out.cellAt 0 rfl 0 (v := .pointer (some ⟨p0, 0, none⟩)) rfl
  clear hfit hok hdl
  go_wp2_with fail
  refine (durable_s HS2.out.p4).mono ?_
  clear HS2 x0 p0c
  rintro e w1 ⟨Aa, ca, rfl, S⟩
  have HS := Aside0.mk S
  clear S
  go_wp2_with fail
  refine (image_yes_s HS.out Aa s.dur.length ca s.dur rfl HS.out.reads HF2.out).mono ?_
  rintro e w2 ⟨p, rfl, S⟩
  clear HS
  have HS := Aside0.mk S.d1
  clear S
  have q0c := HS.out.cellAt 2 rfl 1 (v := .pointer (some ⟨q0, 0, none⟩)) rfl
  go_wp2_with fail
  refine (rdurable_s HS.out.p6).mono ?_
  clear HS q0c
  rintro e w3 ⟨Ab, cb, rfl, S⟩
  have HS := Aside0.mk S
  clear S
  go_wp2_with fail
  refine (rimage_s HS.out Ab cb s.dur HS.out.reads).mono ?_
  intro e w4 h
  unfold RImageP at h
  rw [HF2.out, if_pos rfl] at h
  obtain ⟨q, rfl, S⟩ := h
  clear HS
  have HS := Aside0.mk S.d1
  clear S
  have S10 := HS.out.p1.p3.p2.p3.p7.p7.p7.p7
  have f0 := S10.freeAt 0 rfl 0
  have f1 := S10.freeAt 0 rfl 1
  have g0 := S10.cellAt 0 rfl 0 (v := .pointer (some ⟨p0, 0, none⟩)) rfl
  have g1 := S10.cellAt 0 rfl 1 (v := .pointer (some ⟨q0, 0, none⟩)) rfl
  have S11 := (S10.set 0 (.pointer (some ⟨p, 0, none⟩))).set 1 (.pointer (some ⟨q, 0, none⟩))
  have HT := Aside0.mk S11
  clear S10 S11 HS
  have t0 := HT.out.cellAt 0 rfl 0 (v := .pointer (some ⟨p, 0, none⟩)) rfl
  have t1 := HT.out.cellAt 0 rfl 1 (v := .pointer (some ⟨q, 0, none⟩)) rfl
  have t2 := HT.out.cellAt 1 rfl 1 (v := .int .i64 who) rfl
  have t3 := HT.out.cellAt 2 rfl 0 (v := .pointer (some ⟨p0, 0, none⟩)) rfl
  have t4 := HT.out.cellAt 2 rfl 1 (v := .pointer (some ⟨q0, 0, none⟩)) rfl
  have t5 := HT.out.freeAt 2 rfl 0
  have t6 := HT.out.freeAt 2 rfl 1
  go_wp2_with (go_at_call 19; refine (num_any _ _).mono ?_; rintro e w7 ⟨rfl, rfl⟩)
  go_region_held3 (fun W => W.cell? ⟨w.heap.size, 1, none⟩ = some (.int .i64 who) ∧ W.cell? ⟨w.heap.size + 1, 0, none⟩ = some (.pointer (some ⟨p, 0, none⟩)) ∧ W.cell? ⟨w.heap.size + 1, 1, none⟩ = some (.pointer (some ⟨q, 0, none⟩))) (refine ⟨?_, ?_, ?_⟩ <;> (repeat (first | (with_reducible assumption) | (with_reducible refine kd ?_) | (with_reducible refine kset ?_ (by dsimp only; omega))))) (fail)
  have HF := Aside0.mk (((HT.out.drew.p2.set 0 (.pointer (some ⟨p, 0, none⟩))).set 1 (.pointer (some ⟨q, 0, none⟩))).d1.d1)
  clear HT t0 t1 t2 t3 t4 t5 t6
  go_wp2_with fail
  go_ret
  exact ⟨A, k, c, by omega, rfl, .inr ⟨p, q, _, rfl, HF.out⟩⟩
set_option maxRecDepth 100000 in
set_option maxHeartbeats 8000000 in
theorem made_nil1 (S : Sep w0 w (Blk y (playP a0 b0 a1 b1 A k c st) 81 :: BookA A k c :: R)) (hn : a1 = none) (hkind : o.1 = 10) (hw : bits .and .i64 o.2.1 1 = 1) :
    Calls Try.prog 41 #[.pointer (some ⟨y, 0, none⟩), .agg (opCells o Ad cd Ak ck)] w (MadeP w0 y a0 b0 a1 b1 k st 1 R) := by
  obtain ⟨kd, who, b, kk, d, ks⟩ := o
  obtain rfl : kd = 10 := hkind
  simp only at hw
  subst hn
  have hy : y < w.heap.size := (Array.getElem?_eq_some_iff.1 S.blk).1
  have S1 := S.alloc (opCells (10, who, b, kk, d, ks) Ad cd Ak ck) 83
  have x1 := S1.cellAt 0 rfl 1 (v := .int .i64 who) rfl
  have y0 := S1.cellAt 1 rfl 2 (v := .pointer none) rfl
  have y1 := S1.cellAt 1 rfl 3 (v := .pointer b1) rfl
  have n1 := World.new_ne _ _ x1
  have n2 := World.new_ne _ _ y0
  have n3 := World.new_ne _ _ y1
  have S2 := (S1.alloc #[.pointer none, .pointer b1] 77).drew
  rw [show (w.alloc (.cells (opCells (10, who, b, kk, d, ks) Ad cd Ak ck) 83)).heap.size = w.heap.size + 1 from World.size_alloc ..] at S2
  have HS2 := Aside0.mk S2
  clear S S1 S2
  go_enter Try.func41, Try.ntmps41
  go_wp2_with fail
  go_region_held3 (fun W => W.cell? ⟨w.heap.size, 1, none⟩ = some (.int .i64 who) ∧ W.cell? ⟨y, 2, none⟩ = some (.pointer none) ∧ W.cell? ⟨y, 3, none⟩ = some (.pointer b1)) (go_keep) (fail)
  clear x1 y0 y1 n1 n2 n3
  generalize ((w.alloc (.cells (opCells (10, who, b, kk, d, ks) Ad cd Ak ck) 83)).alloc (.cells #[.pointer none, .pointer b1] 77)).drew = W2 at HS2 ⊢
  have x0 := HS2.out.cellAt 1 rfl 0 (v := .int .i64 10) rfl
  have p0 := HS2.out.cellAt 0 rfl 0 (v := .pointer none) rfl
  have HF := Aside0.mk HS2.out.drop.drop
  clear HS2
  go_wp2_with fail
  go_ret
  exact ⟨A, k, c, by omega, rfl, .inl HF.out⟩
set_option maxRecDepth 100000 in
set_option maxHeartbeats 8000000 in
theorem made_again1 (S : Sep w0 w (Blk y (playP a0 b0 a1 b1 A k c st) 81 :: BookA A k c :: DevA p0 s :: RefA q0 s :: R)) (hok : s.Ok) (ha : a1 = some ⟨p0, 0, none⟩) (hb : b1 = some ⟨q0, 0, none⟩) (hkind : o.1 = 10) (hw : bits .and .i64 o.2.1 1 = 1) :
    Calls Try.prog 41 #[.pointer (some ⟨y, 0, none⟩), .agg (opCells o Ad cd Ak ck)] w (MadeP w0 y a0 b0 a1 b1 k st 1 (DevA p0 s :: RefA q0 s :: R)) := by
  obtain ⟨kd, who, b, kk, d, ks⟩ := o
  obtain rfl : kd = 10 := hkind
  simp only at hw
  subst ha
  subst hb
  have hy : y < w.heap.size := (Array.getElem?_eq_some_iff.1 S.blk).1
  have S1 := S.alloc (opCells (10, who, b, kk, d, ks) Ad cd Ak ck) 83
  have x1 := S1.cellAt 0 rfl 1 (v := .int .i64 who) rfl
  have y0 := S1.cellAt 1 rfl 2 (v := .pointer (some ⟨p0, 0, none⟩)) rfl
  have y1 := S1.cellAt 1 rfl 3 (v := .pointer (some ⟨q0, 0, none⟩)) rfl
  have n1 := World.new_ne _ _ x1
  have n2 := World.new_ne _ _ y0
  have n3 := World.new_ne _ _ y1
  have S2 := (S1.alloc #[.pointer (some ⟨p0, 0, none⟩), .pointer (some ⟨q0, 0, none⟩)] 77).drew
  rw [show (w.alloc (.cells (opCells (10, who, b, kk, d, ks) Ad cd Ak ck) 83)).heap.size = w.heap.size + 1 from World.size_alloc ..] at S2
  have HS2 := Aside0.mk S2
  clear S S1 S2
  go_enter Try.func41, Try.ntmps41
  go_wp2_with fail
  go_region_held3 (fun W => W.cell? ⟨w.heap.size, 1, none⟩ = some (.int .i64 who) ∧ W.cell? ⟨y, 2, none⟩ = some (.pointer (some ⟨p0, 0, none⟩)) ∧ W.cell? ⟨y, 3, none⟩ = some (.pointer (some ⟨q0, 0, none⟩))) (go_keep) (fail)
  clear x1 y0 y1 n1 n2 n3
  generalize ((w.alloc (.cells (opCells (10, who, b, kk, d, ks) Ad cd Ak ck) 83)).alloc (.cells #[.pointer (some ⟨p0, 0, none⟩), .pointer (some ⟨q0, 0, none⟩)] 77)).drew = W2 at HS2 ⊢
  have x0 := HS2.out.cellAt 1 rfl 0 (v := .int .i64 10) rfl
  have hfit : fit s.dur = true := by
    unfold fit
    have e1 := hok.len
    have e2 := hok.n0
    have e3 := hok.n1
    simp only [Bool.and_eq_true, decide_eq_true_eq]
    unfold DS.n at e1 e2 e3
    omega
  have hdl : s.dur.length ≤ 140737488355328 := by have := hok.len; have := hok.n1; omega
  have HF2 := Aside0.mk hfit
  have HDL := Aside0.mk hdl
  have p0c := HS2.out.cellAt 0 rfl 0 (v := .pointer (some ⟨p0, 0, none⟩)) rfl
  clear hfit hok hdl
  go_wp2_with fail
  refine (durable_s HS2.out.p4).mono ?_
  clear HS2 x0 p0c
  rintro e w1 ⟨Aa, ca, rfl, S⟩
  have HS := Aside0.mk S
  clear S
  go_wp2_with fail
  refine (image_yes_s HS.out Aa s.dur.length ca s.dur rfl HS.out.reads HF2.out).mono ?_
  rintro e w2 ⟨p, rfl, S⟩
  clear HS
  have HS := Aside0.mk S.d1
  clear S
  have q0c := HS.out.cellAt 2 rfl 1 (v := .pointer (some ⟨q0, 0, none⟩)) rfl
  go_wp2_with fail
  refine (rdurable_s HS.out.p6).mono ?_
  clear HS q0c
  rintro e w3 ⟨Ab, cb, rfl, S⟩
  have HS := Aside0.mk S
  clear S
  go_wp2_with fail
  refine (rimage_s HS.out Ab cb s.dur HS.out.reads).mono ?_
  intro e w4 h
  unfold RImageP at h
  rw [HF2.out, if_pos rfl] at h
  obtain ⟨q, rfl, S⟩ := h
  clear HS
  have HS := Aside0.mk S.d1
  clear S
  have S10 := HS.out.p1.p3.p2.p3.p7.p7.p7.p7
  have f0 := S10.freeAt 0 rfl 0
  have f1 := S10.freeAt 0 rfl 1
  have g0 := S10.cellAt 0 rfl 0 (v := .pointer (some ⟨p0, 0, none⟩)) rfl
  have g1 := S10.cellAt 0 rfl 1 (v := .pointer (some ⟨q0, 0, none⟩)) rfl
  have S11 := (S10.set 0 (.pointer (some ⟨p, 0, none⟩))).set 1 (.pointer (some ⟨q, 0, none⟩))
  have HT := Aside0.mk S11
  clear S10 S11 HS
  have t0 := HT.out.cellAt 0 rfl 0 (v := .pointer (some ⟨p, 0, none⟩)) rfl
  have t1 := HT.out.cellAt 0 rfl 1 (v := .pointer (some ⟨q, 0, none⟩)) rfl
  have t2 := HT.out.cellAt 1 rfl 1 (v := .int .i64 who) rfl
  have t3 := HT.out.cellAt 2 rfl 2 (v := .pointer (some ⟨p0, 0, none⟩)) rfl
  have t4 := HT.out.cellAt 2 rfl 3 (v := .pointer (some ⟨q0, 0, none⟩)) rfl
  have t5 := HT.out.freeAt 2 rfl 2
  have t6 := HT.out.freeAt 2 rfl 3
  go_wp2_with (go_at_call 19; refine (num_any _ _).mono ?_; rintro e w7 ⟨rfl, rfl⟩)
  go_region_held3 (fun W => W.cell? ⟨w.heap.size, 1, none⟩ = some (.int .i64 who) ∧ W.cell? ⟨w.heap.size + 1, 0, none⟩ = some (.pointer (some ⟨p, 0, none⟩)) ∧ W.cell? ⟨w.heap.size + 1, 1, none⟩ = some (.pointer (some ⟨q, 0, none⟩))) (refine ⟨?_, ?_, ?_⟩ <;> (repeat (first | (with_reducible assumption) | (with_reducible refine kd ?_) | (with_reducible refine kset ?_ (by dsimp only; omega))))) (fail)
  have HF := Aside0.mk (((HT.out.drew.p2.set 2 (.pointer (some ⟨p, 0, none⟩))).set 3 (.pointer (some ⟨q, 0, none⟩))).d1.d1)
  clear HT t0 t1 t2 t3 t4 t5 t6
  go_wp2_with fail
  go_ret
  exact ⟨A, k, c, by omega, rfl, .inr ⟨p, q, _, rfl, HF.out⟩⟩
end
end Go.Proofs.Ythnbmfkmaijibaa.Sep
/- DevicePlays: one step at one of the two pairs. -/
namespace Go.Proofs.Ythnbmfkmaijibaa.Sep
open Go.Proofs Go.RowKit Go.Proofs.YthnbmfkmaijibaaW.PrintWords Go.Proofs.YthnbmfkmaijibaaW.PrintLast Go.Proofs.YthnbmfkmaijibaaW.PrintMore Go.Proofs.Ythnbmfkmaijibaa.IMap Go.Proofs.Ythnbmfkmaijibaa.Dev Go.Proofs.Ythnbmfkmaijibaa.PDeviceReads Go.Proofs.Ythnbmfkmaijibaa.Help
set_option linter.unusedVariables false
set_option linter.unusedSimpArgs false
abbrev PP := Option (Nat × Nat × DS)
def pu (P : PP) : Option Addr := P.map fun x => ⟨x.1, 0, none⟩
def pw (P : PP) : Option Addr := P.map fun x => ⟨x.2.1, 0, none⟩
def pl : PP → List Asn
  | none => []
  | some x => [DevA x.1 x.2.2, RefA x.2.1 x.2.2]
def few (P : PP) (i : Nat) : Prop := ∀ x, P = some x → x.2.2.pend.length ≤ i
theorem few_none (i : Nat) : few none i := fun x h => by cases h
theorem few_some {x : Nat × Nat × DS} {i : Nat} (h : x.2.2.pend.length ≤ i) : few (some x) i := fun y e => by cases e; exact h
theorem few_mono {P : PP} {i j : Nat} (h : few P i) (hij : i ≤ j) : few P j := fun x e => Nat.le_trans (h x e) hij
/-- The play's cells: P the pair at place i, Q the other. -/
def pcs (i : Nat) (P Q : PP) (A : Option Addr) (k c st : Nat) : Array Value := if i = 0 then playP (pu P) (pw P) (pu Q) (pw Q) A k c st else playP (pu Q) (pw Q) (pu P) (pw P) A k c st
section
variable {w0 w w' : World} {X Y : Asn} {R : List Asn} {P Q : PP} {A : Option Addr} {k c st y i j : Nat} {o : Op6} {Ad Ak : Option Addr} {cd ck : Nat}
theorem Sep.other (S : Sep w0 w (X :: Y :: (pl P ++ pl Q))) : Sep w0 w (X :: Y :: (pl Q ++ pl P)) := S.perm ((List.perm_append_comm.cons _).cons _)
theorem pcs_other : pcs 1 P Q A k c st = pcs 0 Q P A k c st := rfl
theorem Sep.rid {D E : Asn} (S : Sep w0 w (X :: Y :: D :: E :: (pl P ++ R))) : Sep w0 w (X :: Y :: D :: E :: R) := by
  cases P with
  | none => exact S
  | some x => exact S.d4.d4
theorem madeP_step {e : Ending} (hi : i = 0 ∨ i = 1) (hf : few P j) (h : MadeP w0 y (if i = 0 then pu P else pu Q) (if i = 0 then pw P else pw Q) (if i = 0 then pu Q else pu P) (if i = 0 then pw Q else pw P) k st i (pl P ++ pl Q) e w') :
    ∃ P' A' k' c', k' ≤ k + 3 ∧ few P' j ∧ e = .returned (.bool true) ∧ Sep w0 w' (Blk y (pcs i P' Q A' k' c' st) 81 :: BookA A' k' c' :: (pl P' ++ pl Q)) := by
  obtain ⟨A', k', c', hk, he, h | ⟨p, q, s, hs, h⟩⟩ := h
  · refine ⟨P, A', k', c', hk, hf, he, ?_⟩
    rcases hi with rfl | rfl
    · exact h
    · exact h
  · refine ⟨some (p, q, s), A', k', c', hk, few_some (by show s.pend.length ≤ j; rw [hs]; exact Nat.zero_le _), he, ?_⟩
    rcases hi with rfl | rfl
    · exact h.rid
    · exact h.rid
theorem made_s (hi : i = 0 ∨ i = 1) (S : Sep w0 w (Blk y (pcs i P Q A k c st) 81 :: BookA A k c :: (pl P ++ pl Q))) (ho : OpIn w0 o Ad cd Ak ck) (hdl : o.2.2.2.2.1.length ≤ 1000000) (hK : o.2.2.2.1 < 9223372036854775808) (hk : k ≤ 200000000000) (hst : st ≤ 100000000) (hf : few P j)
    (hkind : o.1 = 1 ∨ o.1 = 2 ∨ o.1 = 10) (hw : bits .and .i64 o.2.1 1 = (i : Int)) :
    Calls Try.prog 41 #[.pointer (some ⟨y, 0, none⟩), .agg (opCells o Ad cd Ak ck)] w fun e w' => ∃ P' A' k' c', k' ≤ k + 3 ∧ few P' j ∧ e = .returned (.bool true) ∧ Sep w0 w' (Blk y (pcs i P' Q A' k' c' st) 81 :: BookA A' k' c' :: (pl P' ++ pl Q)) := by
  rcases hi with rfl | rfl
  · rcases hkind with h | h | h
    · exact (made_new0 S hK h hw).mono fun e w' h => madeP_step (.inl rfl) hf h
    · exact (made_image0 S ho hdl hk hst h hw).mono fun e w' h => madeP_step (.inl rfl) hf h
    · cases P with
      | none => exact (made_nil0 S rfl h hw).mono fun e w' h => madeP_step (.inl rfl) hf h
      | some x => exact (made_again0 (p0 := x.1) (q0 := x.2.1) (s := x.2.2) S (S.p2.ok) rfl rfl h hw).mono fun e w' h => madeP_step (.inl rfl) hf h
  · rcases hkind with h | h | h
    · exact (made_new1 S hK h hw).mono fun e w' h => madeP_step (.inr rfl) hf h
    · exact (made_image1 S ho hdl hk hst h hw).mono fun e w' h => madeP_step (.inr rfl) hf h
    · cases P with
      | none => exact (made_nil1 S rfl h hw).mono fun e w' h => madeP_step (.inr rfl) hf h
      | some x => exact (made_again1 (p0 := x.1) (q0 := x.2.1) (s := x.2.2) S (S.p2.ok) rfl rfl h hw).mono fun e w' h => madeP_step (.inr rfl) hf h
theorem pcs_play (i : Nat) (P Q : PP) : ∃ a0 b0 a1 b1 : Value, ∀ A k c st, pcs i P Q A k c st = playC a0 b0 a1 b1 A k c st := by
  by_cases h : i = 0
  · subst h
    exact ⟨_, _, _, _, fun A k c st => rfl⟩
  · exact ⟨.pointer (pu Q), .pointer (pw Q), .pointer (pu P), .pointer (pw P), fun A k c st => by unfold pcs; rw [if_neg h]⟩
theorem look_s {p q : Nat} {s : DS} (S : Sep w0 w (Blk y (pcs i (some (p, q, s)) Q A k c st) 81 :: BookA A k c :: (pl (some (p, q, s)) ++ R))) (hpl : s.pend.length ≤ 100000000) (hk : k ≤ 200000000000) (hst : st ≤ 100000000) :
    Calls Try.prog 42 #[.pointer (some ⟨y, 0, none⟩), .agg #[.pointer (some ⟨p, 0, none⟩), .pointer (some ⟨q, 0, none⟩)], .agg (opCells o Ad cd Ak ck)] w fun e w' => ∃ A' k' c', k' ≤ k + 3 * (s.pend.length + 1) ∧ e = .returned (.bool true) ∧ Sep w0 w' (Blk y (pcs i (some (p, q, s)) Q A' k' c' st) 81 :: BookA A' k' c' :: (pl (some (p, q, s)) ++ R)) := by
  obtain ⟨a0, b0, a1, b1, he⟩ := pcs_play i (some (p, q, s)) Q
  simp only [he] at S ⊢
  by_cases h3 : o.1 = 3
  · exact look_read S hpl hk hst h3
  · by_cases h7 : o.1 = 7
    · exact look_pend S hpl hk hst h7
    · by_cases h9 : o.1 = 9
      · exact look_dur S hpl hk hst h9
      · exact look_else S hpl hk hst ⟨h3, h7, h9⟩
theorem write_len (s : DS) (b : Int) (d : List Int) : (s.write b d).2.pend.length ≤ s.pend.length + 1 := by
  unfold DS.write
  repeat' split
  all_goals (simp [powered_pend])
theorem flush_len (s : DS) : s.flush.2.pend.length ≤ s.pend.length := by
  unfold DS.flush
  split
  · exact Nat.zero_le _
  · rw [powered_pend]
    exact Nat.le_refl _
theorem arm_len (s : DS) (k : Int) : (s.arm k).2.pend.length ≤ s.pend.length := by
  unfold DS.arm
  repeat' split
  all_goals exact Nat.le_refl _
theorem done_s {p q : Nat} {s : DS} (S : Sep w0 w (Blk y (pcs i (some (p, q, s)) Q A k c st) 81 :: BookA A k c :: (pl (some (p, q, s)) ++ R))) (ho : OpIn w0 o Ad cd Ak ck) (hdl : o.2.2.2.2.1.length ≤ 1000000) (hK : o.2.2.2.1 < 9223372036854775808) (hkl : o.2.2.2.2.2.length ≤ 100000000) (hpl : s.pend.length ≤ 100000000) (hk : k ≤ 200000000000) (hst : st ≤ 100000000) :
    Calls Try.prog 43 #[.pointer (some ⟨y, 0, none⟩), .agg #[.pointer (some ⟨p, 0, none⟩), .pointer (some ⟨q, 0, none⟩)], .agg (opCells o Ad cd Ak ck)] w fun e w' => ∃ s' A' k' c', k' ≤ k + 3 ∧ s'.pend.length ≤ s.pend.length + 1 ∧ e = .returned (.bool true) ∧ Sep w0 w' (Blk y (pcs i (some (p, q, s')) Q A' k' c' st) 81 :: BookA A' k' c' :: (pl (some (p, q, s')) ++ R)) := by
  obtain ⟨a0, b0, a1, b1, he⟩ := pcs_play i (some (p, q, s)) Q
  have he' : ∀ s' A k c st, pcs i (some (p, q, s')) Q A k c st = playC a0 b0 a1 b1 A k c st := fun s' A k c st => by rw [← he]; rfl
  simp only [he'] at S ⊢
  by_cases h4 : o.1 = 4
  · refine (done_write S ho hk hst hdl hpl h4).mono ?_
    rintro e w' ⟨A', c', rfl, S'⟩
    exact ⟨_, A', k + 3, c', Nat.le_refl _, write_len _ _ _, rfl, S'⟩
  · by_cases h5 : o.1 = 5
    · refine (done_flush S ho hpl h5).mono ?_
      rintro e w' ⟨rfl, S'⟩
      exact ⟨_, A, k, c, by omega, Nat.le_succ_of_le (flush_len s), rfl, S'⟩
    · by_cases h6 : o.1 = 6
      · refine (done_arm S ho hpl hK h6).mono ?_
        rintro e w' ⟨rfl, S'⟩
        exact ⟨_, A, k, c, by omega, Nat.le_succ_of_le (arm_len s _), rfl, S'⟩
      · by_cases h8 : o.1 = 8
        · refine (done_crash S ho hpl hkl h8).mono ?_
          rintro e w' ⟨rfl, S'⟩
          exact ⟨s.crash o.2.2.2.2.2, A, k, c, by omega, Nat.zero_le _, rfl, S'⟩
        · refine (done_else S ho hpl ⟨h4, h5, h6, h8⟩).mono ?_
          rintro e w' ⟨rfl, S'⟩
          exact ⟨s, A, k, c, by omega, Nat.le_succ _, rfl, S'⟩
end
end Go.Proofs.Ythnbmfkmaijibaa.Sep
/- DevicePlays: the walk. -/
namespace Go.Proofs.Ythnbmfkmaijibaa.Sep
open Go.Proofs Go.RowKit Go.Proofs.YthnbmfkmaijibaaW.PrintWords Go.Proofs.YthnbmfkmaijibaaW.PrintLast Go.Proofs.YthnbmfkmaijibaaW.PrintMore Go.Proofs.Ythnbmfkmaijibaa.IMap Go.Proofs.Ythnbmfkmaijibaa.Dev Go.Proofs.Ythnbmfkmaijibaa.PDeviceReads Go.Proofs.Ythnbmfkmaijibaa.Help
set_option linter.unusedVariables false
set_option linter.unusedSimpArgs false
theorem ops_in {w : World} {A : Option Addr} {l : List Op6} (h : Kd.C kO w A l.length l) (i : Nat) (hi : i < l.length) {W : World} (hb : Below w.heap.size w W) :
    ∃ ad Ad cd Ak ck, A = some ad ∧ OpIn w l[i] Ad cd Ak ck ∧ W.cell? (ad.add (i * 6)) = some (.int .i64 l[i].1) ∧ W.cell? ⟨(ad.add (i * 6)).block, (ad.add (i * 6)).off + 1, none⟩ = some (.int .i64 l[i].2.1) ∧ W.cell? ⟨(ad.add (i * 6)).block, (ad.add (i * 6)).off + 2, none⟩ = some (.int .i64 l[i].2.2.1) ∧
      W.cell? ⟨(ad.add (i * 6)).block, (ad.add (i * 6)).off + 3, none⟩ = some (.int .i64 l[i].2.2.2.1) ∧ W.cell? ⟨(ad.add (i * 6)).block, (ad.add (i * 6)).off + 4, none⟩ = some (.slice Ad l[i].2.2.2.2.1.length cd) ∧ W.cell? ⟨(ad.add (i * 6)).block, (ad.add (i * 6)).off + 5, none⟩ = some (.slice Ak l[i].2.2.2.2.2.length ck) := by
  obtain ⟨ad, Ad, cd, Ak, ck, e, ho, hc⟩ := ops_at h i hi
  have a1 : ∀ n m : Nat, 0 < m → ad.add (n + m) = ⟨(ad.add n).block, (ad.add n).off + m, none⟩ := by
    intro n m hm
    cases n with
    | zero => unfold Addr.add; rw [if_neg (by omega), if_pos rfl]; simp
    | succ n => unfold Addr.add; rw [if_neg (by omega), if_neg (by omega)]; simp; omega
  refine ⟨ad, Ad, cd, Ak, ck, e, ho, pw_cell_below hb (hc 0 _ rfl), ?_, ?_, ?_, ?_, ?_⟩
  all_goals (rw [← a1 _ _ (by decide)])
  · exact pw_cell_below hb (hc 1 _ rfl)
  · exact pw_cell_below hb (hc 2 _ rfl)
  · exact pw_cell_below hb (hc 3 _ rfl)
  · exact pw_cell_below hb (hc 4 _ rfl)
  · exact pw_cell_below hb (hc 5 _ rfl)
def kb (j : Nat) : Nat := j * 600000
theorem kb_succ (j : Nat) : kb (j + 1) = kb j + 600000 := by unfold kb; omega
theorem kb_most {j : Nat} (h : j ≤ 174763) : kb j ≤ 104857800000 := by unfold kb; omega
theorem pcs_at {i : Nat} (hi : i = 0 ∨ i = 1) (P Q : PP) (A : Option Addr) (k c st : Nat) : (pcs i P Q A k c st)[i * 2]? = some (.pointer (pu P)) ∧ (pcs i P Q A k c st)[i * 2 + 1]? = some (.pointer (pw P)) := by
  rcases hi with rfl | rfl
  · exact ⟨rfl, rfl⟩
  · exact ⟨rfl, rfl⟩
theorem pcs_4 (i : Nat) (P Q : PP) (A : Option Addr) (k c st : Nat) : (pcs i P Q A k c st)[4]? = some (.slice A k c) := by
  unfold pcs
  split <;> rfl
theorem pcs_set4 (i : Nat) (P Q : PP) (A B : Option Addr) (k k' c c' st : Nat) : (pcs i P Q A k c st).setIfInBounds 4 (.slice B k' c') = pcs i P Q B k' c' st := by
  unfold pcs
  split <;> rfl
/-- The pair that a step is at, and how all is told again behind it. -/
theorem pick {w0 W : World} {y : Nat} {B : Asn} {P0 P1 : PP} {A : Option Addr} {k c st j : Nat} (x : Int) (hf0 : few P0 j) (hf1 : few P1 j) (S : Sep w0 W (Blk y (pcs 0 P0 P1 A k c st) 81 :: B :: BookA A k c :: (pl P0 ++ pl P1))) :
    ∃ (i : Nat) (P Q : PP), (i = 0 ∨ i = 1) ∧ bits .and .i64 x 1 = (i : Int) ∧ few P j ∧ Sep w0 W (Blk y (pcs i P Q A k c st) 81 :: B :: BookA A k c :: (pl P ++ pl Q)) ∧
      ∀ (P' : PP) (A' : Option Addr) (k' c' : Nat) (W' : World), few P' (j + 1) → Sep w0 W' (Blk y (pcs i P' Q A' k' c' st) 81 :: BookA A' k' c' :: (pl P' ++ pl Q)) → ∃ P0' P1', few P0' (j + 1) ∧ few P1' (j + 1) ∧ Sep w0 W' (Blk y (pcs 0 P0' P1' A' k' c' st) 81 :: BookA A' k' c' :: (pl P0' ++ pl P1')) := by
  rcases and1 x with h | h
  · exact ⟨0, P0, P1, .inl rfl, h, hf0, S, fun P' A' k' c' W' hf S' => ⟨P', P1, hf, few_mono hf1 (Nat.le_succ _), S'⟩⟩
  · refine ⟨1, P1, P0, .inr rfl, h, hf1, S.perm (((List.perm_append_comm.cons _).cons _).cons _), fun P' A' k' c' W' hf S' => ⟨P0, P', few_mono hf0 (Nat.le_succ _), hf, ?_⟩⟩
    rw [pcs_other] at S'
    exact S'.other
set_option maxRecDepth 100000 in
set_option maxHeartbeats 8000000 in
theorem plays_any (l : List Op6) (A : Option Addr) (c : Nat) (w : World) (hr : Kd.C kO w A l.length l) (hc : l.length ≤ c) (hl : l.length ≤ 174763) (hks : ∀ x ∈ l, x.2.2.2.2.2.length ≤ 1048576 ∧ x.2.2.2.1 < 9223372036854775808) :
    Calls Try.prog 10 #[.slice A l.length c] w fun e w' => e = .returned (.bool true) ∧ Below w.heap.size w w' := by
  have HR := Aside0.mk hr
  have HKS := Aside0.mk hks
  clear hr hks
  go_enter Try.func10, Try.ntmps10
  go_wp2_with fail
  refine (known_s (Sep.start w)).mono ?_
  rintro e w1 ⟨rfl, S⟩
  have S1 := S.alloc (pcs 0 none none none 0 0 0) 81
  have HS1 := Aside0.mk S1.book0.p1
  clear S S1
  go_wp2_with fail
  go_loopw [5, 3] (fun i okv wr => ∃ (j : Nat) (P0 P1 : PP) (Ab : Option Addr) (k cb st : Nat), j ≤ l.length ∧ k ≤ kb j ∧ few P0 j ∧ few P1 j ∧ i = .int .i64 (j : Int) ∧ okv = .bool true ∧ Sep w wr (Blk w1.heap.size (pcs 0 P0 P1 Ab k cb st) 81 :: BookA Ab k cb :: (pl P0 ++ pl P1))) (fun i _ _ => l.length - (intOf i).toNat)
  case atStart => exact ⟨0, none, none, none, 0, 0, 0, Nat.zero_le _, Nat.zero_le _, few_none _, few_none _, rfl, rfl, HS1.out⟩
  case round =>
    clear HS1
    obtain ⟨j, P0, P1, Ab, k, cb, st, hj, hk, hf0, hf1, rfl, rfl, S⟩ := hrel
    by_cases hlt : j < l.length
    · have hlti : (j : Int) < (l.length : Int) := by omega
      obtain ⟨ad, Ad, cd, Ak, ck, rfl, ho, x0, x1, x2, x3, x4, x5⟩ := ops_in HR.out j hlt S.bel
      have hkl := HKS.out l[j] (List.getElem_mem _)
      obtain ⟨⟨kd, who, b, kk, d, ks⟩, hoe⟩ : ∃ o, o = l[j] := ⟨_, rfl⟩
      rw [← hoe] at ho x0 x1 x2 x3 x4 x5 hkl
      dsimp only at x0 x1 x2 x3 x4 x5 hkl
      have S1 := S.alloc (opCells (kd, who, b, kk, d, ks) Ad cd Ak ck) 83
      have c5 := S1.cellAt 1 rfl 5 (v := .int .i64 (st : Int)) rfl
      have f5 := S1.freeAt 1 rfl 5
      have S2 := S1.p1.set 5 (.int .i64 (j : Int))
      have HS1 := Aside0.mk S2
      have z4 := S2.cellAt 1 rfl 4 (v := .slice Ad d.length cd) rfl
      have HO := Aside0.mk (And.intro ho hkl)
      have HF := Aside0.mk (And.intro hf0 hf1)
      clear S S1 S2 hoe ho hkl hf0 hf1
      go_wp2_with fail
      case roundEnd =>
        have hk2 : k ≤ kb (j + 1) := by rw [kb_succ]; omega
        refine ⟨⟨j + 1, P0, P1, Ab, k, cb, j, by omega, hk2, few_mono HF.out.1 (Nat.le_succ _), few_mono HF.out.2 (Nat.le_succ _), by go_num, rfl, ?_⟩, by simp [intOf]; omega⟩
        exact HS1.out.d1
      have hdn : d.length ≤ 1000000 := by omega
      have HDN := Aside0.mk hdn
      clear hdn z4 x0 x1 x2 x3 x4 x5 c5 f5
      obtain ⟨W1, hW1⟩ : ∃ W1, W1 = (wr.alloc (Obj.cells (opCells (kd, who, b, kk, d, ks) Ad cd Ak ck) 83)).setCell ⟨w1.heap.size, 5, none⟩ (.int .i64 (j : Int)) := ⟨_, rfl⟩
      rw [← hW1] at HS1
      change Code.wp _ _ _ _ ((wr.alloc (Obj.cells (opCells (kd, who, b, kk, d, ks) Ad cd Ak ck) 83)).setCell ⟨w1.heap.size, 5, none⟩ (.int .i64 (j : Int)))
      rw [← hW1]
      clear hW1
      obtain ⟨bo, hbo⟩ : ∃ bo, bo = wr.heap.size := ⟨_, rfl⟩
      rw [← hbo] at HS1 ⊢
      clear hbo
      obtain ⟨y, hy⟩ : ∃ y, y = w1.heap.size := ⟨_, rfl⟩
      rw [← hy] at HS1 ⊢
      have HY := Aside0.mk hy
      clear hy
      have e5 : (pcs 0 P0 P1 Ab k cb st).setIfInBounds 5 (.int .i64 (j : Int)) = pcs 0 P0 P1 Ab k cb j := rfl
      have HS2 := HS1.out
      rw [e5] at HS2
      obtain ⟨i, P, Q, hi, hw, hfP, S, hback⟩ := pick who HF.out.1 HF.out.2 HS2
      clear HS1 HS2 e5 HF
      have HI := Aside0.mk hi
      have HB := Aside0.mk hback
      have HFP := Aside0.mk hfP
      have hi1 : (i : Int) < 2 := by omega
      have hi0 : (0 : Int) ≤ (i : Int) := by omega
      have x1 := S.cellAt 1 rfl 1 (v := .int .i64 who) rfl
      have y0 := S.cellAt 0 rfl (i * 2) (pcs_at hi P Q _ _ _ _).1
      have y1 := S.cellAt 0 rfl (i * 2 + 1) (pcs_at hi P Q _ _ _ _).2
      have n1 := World.new_ne _ _ x1
      have n2 := World.new_ne _ _ y0
      have n3 := World.new_ne _ _ y1
      have HS3 := Aside0.mk (S.alloc #[.pointer (pu P), .pointer (pw P)] 77).drew
      clear S hi hback hfP
      go_region_held3 (fun W => W.cell? ⟨bo, 1, none⟩ = some (.int .i64 who) ∧ W.cell? ⟨y, i * 2, none⟩ = some (.pointer (pu P)) ∧ W.cell? ⟨y, i * 2 + 1, none⟩ = some (.pointer (pw P))) (go_keep) (fail)
      clear x1 y0 y1 n1 n2 n3 hi0 hi1
      obtain ⟨bp, hbp⟩ : ∃ bp, bp = W1.heap.size := ⟨_, rfl⟩
      obtain ⟨W2, hW2⟩ : ∃ W2, W2 = (W1.alloc (.cells #[.pointer (pu P), .pointer (pw P)] 77)).drew := ⟨_, rfl⟩
      rw [← hbp, ← hW2] at HS3 ⊢
      clear hbp hW2
      have p0 := HS3.out.cellAt 0 rfl 0 (v := .pointer (pu P)) rfl
      have p1 := HS3.out.cellAt 0 rfl 1 (v := .pointer (pw P)) rfl
      have x0 := HS3.out.cellAt 2 rfl 0 (v := .int .i64 kd) rfl
      have x1 := HS3.out.cellAt 2 rfl 1 (v := .int .i64 who) rfl
      have x2 := HS3.out.cellAt 2 rfl 2 (v := .int .i64 b) rfl
      have x3 := HS3.out.cellAt 2 rfl 3 (v := .int .i64 kk) rfl
      have x4 := HS3.out.cellAt 2 rfl 4 (v := .slice Ad d.length cd) rfl
      have x5 := HS3.out.cellAt 2 rfl 5 (v := .slice Ak ks.length ck) rfl
      by_cases h1 : kd = 1
      · obtain rfl : kd = 1 := h1
        have S5 := HS3.out.drop.d1
        clear HS3 p0 p1
        have HS5 := Aside0.mk S5
        clear S5
        go_wp2_with fail
        refine (made_s HI.out HS5.out HO.out.1 HDN.out HO.out.2.2 (by have := kb_most (show j ≤ 174763 by omega); omega) (by omega) (few_mono HFP.out (Nat.le_succ _)) (.inl rfl) hw).mono ?_
        clear HS5 x0 x1 x2 x3 x4 x5
        rintro e w5 ⟨P', A', k', c', hk', hf', rfl, S⟩
        obtain ⟨P0', P1', hf0', hf1', S⟩ := HB.out P' A' k' c' w5 hf' S
        have hk' : k' ≤ kb j + 600000 := by omega
        have HFF := Aside0.mk (And.intro hf0' hf1')
        have HS := Aside0.mk S
        clear S hf' hf0' hf1'
        have hy9 := HY.out
        subst hy9
        obtain ⟨r8, hr8⟩ : ∃ r8 : Int, r8 = ((j % 8 : Nat) : Int) := ⟨_, rfl⟩
        have hq8 : Int.tmod (j : Int) 8 = r8 := by rw [Int.tmod_eq_emod_of_nonneg (by omega), hr8]; omega
        have hkm : k' ≤ 200000000000 := by have := kb_most (show j ≤ 174763 by omega); omega
        have hkn : k' ≤ kb (j + 1) := by rw [kb_succ]; exact hk'
        have HN := Aside0.mk hkn
        clear hkn hk' hk
        have y4 := HS.out.cellAt 0 rfl 4 (v := .slice A' k' c') rfl
        by_cases h8 : j % 8 = 0 ∨ j + 1 = l.length
        · rcases (show (r8 = 0) ∨ (¬ (r8 = 0) ∧ (j : Int) + 1 = (l.length : Int)) by omega) with g | ⟨g, g'⟩
          all_goals (
            clear h8 hr8
            go_wp2_with fail
            refine (holds_s HS.out.p1 (by omega)).mono ?_
            clear HS y4
            rintro e w6 ⟨rfl, S⟩
            have y4 := S.cellAt 1 rfl 4 (v := .slice A' k' c') rfl
            have HS := Aside0.mk S
            clear S
            go_wp2_with fail
            refine (lately_s HS.out (by omega)).mono ?_
            clear HS y4
            rintro e w7 ⟨A8, k8, c8, hk8, rfl, S⟩
            have y4 := S.cellAt 1 rfl 4 (v := .slice A' k' c') rfl
            have f4 := S.freeAt 1 rfl 4
            have S10 := S.p1.set 4 (.slice A8 k8 c8)
            have HS := Aside0.mk S10
            have HK8 := Aside0.mk hk8
            clear S S10 hk8
            go_wp2_with fail
            have hkz : k8 ≤ kb (j + 1) := by rw [kb_succ]; have := HK8.out; omega
            refine ⟨⟨j + 1, P0', P1', A8, k8, c8, j, by omega, hkz, HFF.out.1, HFF.out.2, by go_num, rfl, ?_⟩, by simp [intOf]; omega⟩
            exact HS.out)
        · have g : (r8 == 0) = false := beq_eq_false_iff_ne.2 (by omega)
          have g' : ((j : Int) + 1 == (l.length : Int)) = false := beq_eq_false_iff_ne.2 (by omega)
          clear h8 hr8
          go_wp2_with fail
          refine ⟨⟨j + 1, P0', P1', A', k', c', j, by omega, HN.out, HFF.out.1, HFF.out.2, by go_num, rfl, ?_⟩, by simp [intOf]; omega⟩
          exact HS.out
      · by_cases h2 : kd = 2
        · obtain rfl : kd = 2 := h2
          have S5 := HS3.out.drop.d1
          clear HS3 p0 p1
          have HS5 := Aside0.mk S5
          clear S5
          go_wp2_with fail
          refine (made_s HI.out HS5.out HO.out.1 HDN.out HO.out.2.2 (by have := kb_most (show j ≤ 174763 by omega); omega) (by omega) (few_mono HFP.out (Nat.le_succ _)) (.inr (.inl rfl)) hw).mono ?_
          clear HS5 x0 x1 x2 x3 x4 x5
          rintro e w5 ⟨P', A', k', c', hk', hf', rfl, S⟩
          obtain ⟨P0', P1', hf0', hf1', S⟩ := HB.out P' A' k' c' w5 hf' S
          have hk' : k' ≤ kb j + 600000 := by omega
          have HFF := Aside0.mk (And.intro hf0' hf1')
          have HS := Aside0.mk S
          clear S hf' hf0' hf1'
          have hy9 := HY.out
          subst hy9
          obtain ⟨r8, hr8⟩ : ∃ r8 : Int, r8 = ((j % 8 : Nat) : Int) := ⟨_, rfl⟩
          have hq8 : Int.tmod (j : Int) 8 = r8 := by rw [Int.tmod_eq_emod_of_nonneg (by omega), hr8]; omega
          have hkm : k' ≤ 200000000000 := by have := kb_most (show j ≤ 174763 by omega); omega
          have hkn : k' ≤ kb (j + 1) := by rw [kb_succ]; exact hk'
          have HN := Aside0.mk hkn
          clear hkn hk' hk
          have y4 := HS.out.cellAt 0 rfl 4 (v := .slice A' k' c') rfl
          by_cases h8 : j % 8 = 0 ∨ j + 1 = l.length
          · rcases (show (r8 = 0) ∨ (¬ (r8 = 0) ∧ (j : Int) + 1 = (l.length : Int)) by omega) with g | ⟨g, g'⟩
            all_goals (
              clear h8 hr8
              go_wp2_with fail
              refine (holds_s HS.out.p1 (by omega)).mono ?_
              clear HS y4
              rintro e w6 ⟨rfl, S⟩
              have y4 := S.cellAt 1 rfl 4 (v := .slice A' k' c') rfl
              have HS := Aside0.mk S
              clear S
              go_wp2_with fail
              refine (lately_s HS.out (by omega)).mono ?_
              clear HS y4
              rintro e w7 ⟨A8, k8, c8, hk8, rfl, S⟩
              have y4 := S.cellAt 1 rfl 4 (v := .slice A' k' c') rfl
              have f4 := S.freeAt 1 rfl 4
              have S10 := S.p1.set 4 (.slice A8 k8 c8)
              have HS := Aside0.mk S10
              have HK8 := Aside0.mk hk8
              clear S S10 hk8
              go_wp2_with fail
              have hkz : k8 ≤ kb (j + 1) := by rw [kb_succ]; have := HK8.out; omega
              refine ⟨⟨j + 1, P0', P1', A8, k8, c8, j, by omega, hkz, HFF.out.1, HFF.out.2, by go_num, rfl, ?_⟩, by simp [intOf]; omega⟩
              exact HS.out)
          · have g : (r8 == 0) = false := beq_eq_false_iff_ne.2 (by omega)
            have g' : ((j : Int) + 1 == (l.length : Int)) = false := beq_eq_false_iff_ne.2 (by omega)
            clear h8 hr8
            go_wp2_with fail
            refine ⟨⟨j + 1, P0', P1', A', k', c', j, by omega, HN.out, HFF.out.1, HFF.out.2, by go_num, rfl, ?_⟩, by simp [intOf]; omega⟩
            exact HS.out
        · by_cases h3 : kd = 10
          · obtain rfl : kd = 10 := h3
            have S5 := HS3.out.drop.d1
            clear HS3 p0 p1
            have HS5 := Aside0.mk S5
            clear S5
            go_wp2_with fail
            refine (made_s HI.out HS5.out HO.out.1 HDN.out HO.out.2.2 (by have := kb_most (show j ≤ 174763 by omega); omega) (by omega) (few_mono HFP.out (Nat.le_succ _)) (.inr (.inr rfl)) hw).mono ?_
            clear HS5 x0 x1 x2 x3 x4 x5
            rintro e w5 ⟨P', A', k', c', hk', hf', rfl, S⟩
            obtain ⟨P0', P1', hf0', hf1', S⟩ := HB.out P' A' k' c' w5 hf' S
            have hk' : k' ≤ kb j + 600000 := by omega
            have HFF := Aside0.mk (And.intro hf0' hf1')
            have HS := Aside0.mk S
            clear S hf' hf0' hf1'
            have hy9 := HY.out
            subst hy9
            obtain ⟨r8, hr8⟩ : ∃ r8 : Int, r8 = ((j % 8 : Nat) : Int) := ⟨_, rfl⟩
            have hq8 : Int.tmod (j : Int) 8 = r8 := by rw [Int.tmod_eq_emod_of_nonneg (by omega), hr8]; omega
            have hkm : k' ≤ 200000000000 := by have := kb_most (show j ≤ 174763 by omega); omega
            have hkn : k' ≤ kb (j + 1) := by rw [kb_succ]; exact hk'
            have HN := Aside0.mk hkn
            clear hkn hk' hk
            have y4 := HS.out.cellAt 0 rfl 4 (v := .slice A' k' c') rfl
            by_cases h8 : j % 8 = 0 ∨ j + 1 = l.length
            · rcases (show (r8 = 0) ∨ (¬ (r8 = 0) ∧ (j : Int) + 1 = (l.length : Int)) by omega) with g | ⟨g, g'⟩
              all_goals (
                clear h8 hr8
                go_wp2_with fail
                refine (holds_s HS.out.p1 (by omega)).mono ?_
                clear HS y4
                rintro e w6 ⟨rfl, S⟩
                have y4 := S.cellAt 1 rfl 4 (v := .slice A' k' c') rfl
                have HS := Aside0.mk S
                clear S
                go_wp2_with fail
                refine (lately_s HS.out (by omega)).mono ?_
                clear HS y4
                rintro e w7 ⟨A8, k8, c8, hk8, rfl, S⟩
                have y4 := S.cellAt 1 rfl 4 (v := .slice A' k' c') rfl
                have f4 := S.freeAt 1 rfl 4
                have S10 := S.p1.set 4 (.slice A8 k8 c8)
                have HS := Aside0.mk S10
                have HK8 := Aside0.mk hk8
                clear S S10 hk8
                go_wp2_with fail
                have hkz : k8 ≤ kb (j + 1) := by rw [kb_succ]; have := HK8.out; omega
                refine ⟨⟨j + 1, P0', P1', A8, k8, c8, j, by omega, hkz, HFF.out.1, HFF.out.2, by go_num, rfl, ?_⟩, by simp [intOf]; omega⟩
                exact HS.out)
            · have g : (r8 == 0) = false := beq_eq_false_iff_ne.2 (by omega)
              have g' : ((j : Int) + 1 == (l.length : Int)) = false := beq_eq_false_iff_ne.2 (by omega)
              clear h8 hr8
              go_wp2_with fail
              refine ⟨⟨j + 1, P0', P1', A', k', c', j, by omega, HN.out, HFF.out.1, HFF.out.2, by go_num, rfl, ?_⟩, by simp [intOf]; omega⟩
              exact HS.out
          · have k1 : (kd == 1) = false := beq_eq_false_iff_ne.2 h1
            have k2 : (kd == 2) = false := beq_eq_false_iff_ne.2 h2
            have k3 : (kd == 10) = false := beq_eq_false_iff_ne.2 h3
            clear h1 h2 h3
            cases P with
            | none =>
              have p0' : W2.cell? ⟨bp, 0, none⟩ = some (.pointer none) := p0
              clear p0
              obtain ⟨P0', P1', hf0', hf1', S⟩ := HB.out none Ab k cb W2 (few_none _) HS3.out.drop.d1
              have hk' : k ≤ kb j + 600000 := by omega
              have HFF := Aside0.mk (And.intro hf0' hf1')
              have HS := Aside0.mk S
              clear S hf0' hf1' HS3 p1
              have hy9 := HY.out
              subst hy9
              obtain ⟨r8, hr8⟩ : ∃ r8 : Int, r8 = ((j % 8 : Nat) : Int) := ⟨_, rfl⟩
              have hq8 : Int.tmod (j : Int) 8 = r8 := by rw [Int.tmod_eq_emod_of_nonneg (by omega), hr8]; omega
              have hkm : k ≤ 200000000000 := by have := kb_most (show j ≤ 174763 by omega); omega
              have hkn : k ≤ kb (j + 1) := by rw [kb_succ]; exact hk'
              have HN := Aside0.mk hkn
              clear hkn hk' hk
              have y4 := HS.out.cellAt 0 rfl 4 (v := .slice Ab k cb) rfl
              by_cases h8 : j % 8 = 0 ∨ j + 1 = l.length
              · rcases (show (r8 = 0) ∨ (¬ (r8 = 0) ∧ (j : Int) + 1 = (l.length : Int)) by omega) with g | ⟨g, g'⟩
                all_goals (
                  clear h8 hr8
                  go_wp2_with fail
                  refine (holds_s HS.out.p1 (by omega)).mono ?_
                  clear HS y4
                  rintro e w6 ⟨rfl, S⟩
                  have y4 := S.cellAt 1 rfl 4 (v := .slice Ab k cb) rfl
                  have HS := Aside0.mk S
                  clear S
                  go_wp2_with fail
                  refine (lately_s HS.out (by omega)).mono ?_
                  clear HS y4
                  rintro e w7 ⟨A8, k8, c8, hk8, rfl, S⟩
                  have y4 := S.cellAt 1 rfl 4 (v := .slice Ab k cb) rfl
                  have f4 := S.freeAt 1 rfl 4
                  have S10 := S.p1.set 4 (.slice A8 k8 c8)
                  have HS := Aside0.mk S10
                  have HK8 := Aside0.mk hk8
                  clear S S10 hk8
                  go_wp2_with fail
                  have hkz : k8 ≤ kb (j + 1) := by rw [kb_succ]; have := HK8.out; omega
                  refine ⟨⟨j + 1, P0', P1', A8, k8, c8, j, by omega, hkz, HFF.out.1, HFF.out.2, by go_num, rfl, ?_⟩, by simp [intOf]; omega⟩
                  exact HS.out)
              · have g : (r8 == 0) = false := beq_eq_false_iff_ne.2 (by omega)
                have g' : ((j : Int) + 1 == (l.length : Int)) = false := beq_eq_false_iff_ne.2 (by omega)
                clear h8 hr8
                go_wp2_with fail
                refine ⟨⟨j + 1, P0', P1', Ab, k, cb, j, by omega, HN.out, HFF.out.1, HFF.out.2, by go_num, rfl, ?_⟩, by simp [intOf]; omega⟩
                exact HS.out
            | some x =>
              obtain ⟨p, q, s⟩ := x
              have p0' : W2.cell? ⟨bp, 0, none⟩ = some (.pointer (some ⟨p, 0, none⟩)) := p0
              have p1' : W2.cell? ⟨bp, 1, none⟩ = some (.pointer (some ⟨q, 0, none⟩)) := p1
              have hpl : s.pend.length ≤ j := HFP.out (p, q, s) rfl
              have HS5 := Aside0.mk (HS3.out.p2.p1.p5.p5.p5.p5)
              have hkm := kb_most (show j ≤ 174763 by omega)
              clear p0 p1 HS3
              go_wp2_with fail
              refine (look_s (o := (kd, who, b, kk, d, ks)) HS5.out (by omega) (by omega) (by omega)).mono ?_
              clear HS5 x0 x1 x2 x3 x4 x5 p0' p1'
              rintro e w5 ⟨A5, k5, c5, hk5, rfl, S⟩
              have p0 := S.cellAt 4 rfl 0 (v := .pointer (some ⟨p, 0, none⟩)) rfl
              have p1 := S.cellAt 4 rfl 1 (v := .pointer (some ⟨q, 0, none⟩)) rfl
              have x0 := S.cellAt 5 rfl 0 (v := .int .i64 kd) rfl
              have x1 := S.cellAt 5 rfl 1 (v := .int .i64 who) rfl
              have x2 := S.cellAt 5 rfl 2 (v := .int .i64 b) rfl
              have x3 := S.cellAt 5 rfl 3 (v := .int .i64 kk) rfl
              have x4 := S.cellAt 5 rfl 4 (v := .slice Ad d.length cd) rfl
              have x5 := S.cellAt 5 rfl 5 (v := .slice Ak ks.length ck) rfl
              have HS5 := Aside0.mk S
              clear S
              go_wp2_with fail
              refine (done_s HS5.out HO.out.1 HDN.out HO.out.2.2 (Nat.le_trans HO.out.2.1 (by decide)) (by omega) (by omega) (by omega)).mono ?_
              clear HS5 x0 x1 x2 x3 x4 x5 p0 p1
              rintro e w6 ⟨s', A', k', c', hk6, hs', rfl, S⟩
              obtain ⟨P0', P1', hf0', hf1', S⟩ := HB.out (some (p, q, s')) A' k' c' w6 (few_some (by show s'.pend.length ≤ j + 1; omega)) S.d4.d4
              have hk' : k' ≤ kb j + 600000 := by omega
              have HFF := Aside0.mk (And.intro hf0' hf1')
              have HS := Aside0.mk S
              clear S hf0' hf1' hs' hk6 hk5 hkm
              have hy9 := HY.out
              subst hy9
              obtain ⟨r8, hr8⟩ : ∃ r8 : Int, r8 = ((j % 8 : Nat) : Int) := ⟨_, rfl⟩
              have hq8 : Int.tmod (j : Int) 8 = r8 := by rw [Int.tmod_eq_emod_of_nonneg (by omega), hr8]; omega
              have hkm : k' ≤ 200000000000 := by have := kb_most (show j ≤ 174763 by omega); omega
              have hkn : k' ≤ kb (j + 1) := by rw [kb_succ]; exact hk'
              have HN := Aside0.mk hkn
              clear hkn hk' hk
              have y4 := HS.out.cellAt 0 rfl 4 (v := .slice A' k' c') rfl
              by_cases h8 : j % 8 = 0 ∨ j + 1 = l.length
              · rcases (show (r8 = 0) ∨ (¬ (r8 = 0) ∧ (j : Int) + 1 = (l.length : Int)) by omega) with g | ⟨g, g'⟩
                all_goals (
                  clear h8 hr8
                  go_wp2_with fail
                  refine (holds_s HS.out.p1 (by omega)).mono ?_
                  clear HS y4
                  rintro e w6 ⟨rfl, S⟩
                  have y4 := S.cellAt 1 rfl 4 (v := .slice A' k' c') rfl
                  have HS := Aside0.mk S
                  clear S
                  go_wp2_with fail
                  refine (lately_s HS.out (by omega)).mono ?_
                  clear HS y4
                  rintro e w7 ⟨A8, k8, c8, hk8, rfl, S⟩
                  have y4 := S.cellAt 1 rfl 4 (v := .slice A' k' c') rfl
                  have f4 := S.freeAt 1 rfl 4
                  have S10 := S.p1.set 4 (.slice A8 k8 c8)
                  have HS := Aside0.mk S10
                  have HK8 := Aside0.mk hk8
                  clear S S10 hk8
                  go_wp2_with fail
                  have hkz : k8 ≤ kb (j + 1) := by rw [kb_succ]; have := HK8.out; omega
                  refine ⟨⟨j + 1, P0', P1', A8, k8, c8, j, by omega, hkz, HFF.out.1, HFF.out.2, by go_num, rfl, ?_⟩, by simp [intOf]; omega⟩
                  exact HS.out)
              · have g : (r8 == 0) = false := beq_eq_false_iff_ne.2 (by omega)
                have g' : ((j : Int) + 1 == (l.length : Int)) = false := beq_eq_false_iff_ne.2 (by omega)
                clear h8 hr8
                go_wp2_with fail
                refine ⟨⟨j + 1, P0', P1', A', k', c', j, by omega, HN.out, HFF.out.1, HFF.out.2, by go_num, rfl, ?_⟩, by simp [intOf]; omega⟩
                exact HS.out
    · obtain rfl : j = l.length := by omega
      have hS := Aside0.mk S
      clear S hlt
      go_wp2_with fail
      refine (known_s hS.out).mono ?_
      rintro e w9 ⟨rfl, S9⟩
      have hb := S9.bel
      clear S9 hS
      go_wp2_with fail
      go_ret
      exact ⟨rfl, hb⟩
end Go.Proofs.Ythnbmfkmaijibaa.Sep
