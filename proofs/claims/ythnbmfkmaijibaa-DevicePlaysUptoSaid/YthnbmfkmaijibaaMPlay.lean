/- DevicePlays: the steps that come in; small words. -/
import Derived.Test.YthnbmfkmaijibaaMBook
import Derived.Test.YthnbmfkmaijibaaMRef
import Derived.Test.YthnbmfkmaijibaaSteps
import Derived.Deep.RegionHeld3
namespace Go.Proofs.Ythnbmfkmaijibaa.Sep
open Go.Proofs Go.RowKit Go.Proofs.YthnbmfkmaijibaaW.PrintWords Go.Proofs.YthnbmfkmaijibaaW.PrintLast Go.Proofs.YthnbmfkmaijibaaW.PrintMore Go.Proofs.Ythnbmfkmaijibaa.IMap Go.Proofs.Ythnbmfkmaijibaa.Dev Go.Proofs.Ythnbmfkmaijibaa.PDeviceReads Go.Proofs.Ythnbmfkmaijibaa.Help
set_option linter.unusedVariables false
set_option linter.unusedSimpArgs false
abbrev Op6 := Int × Int × Int × Int × List Int × List Bool
abbrev kO : Kd Op6 := Kd.pair (Kd.int .i64) (Kd.pair (Kd.int .i64) (Kd.pair (Kd.int .i64) (Kd.pair (Kd.int .i64) (Kd.pair (Kd.slice 5 (Kd.int .u8)) (Kd.slice 4 Kd.bool)))))
/-- What a step's lists read, in the first world. -/
structure OpIn (w : World) (o : Op6) (Ad : Option Addr) (cd : Nat) (Ak : Option Addr) (ck : Nat) : Prop where
  data : Kd.C (Kd.int .u8) w Ad o.2.2.2.2.1.length o.2.2.2.2.1
  dcap : o.2.2.2.2.1.length ≤ cd
  keep : Kd.C Kd.bool w Ak o.2.2.2.2.2.length o.2.2.2.2.2
  kcap : o.2.2.2.2.2.length ≤ ck
abbrev opCells (o : Op6) (Ad : Option Addr) (cd : Nat) (Ak : Option Addr) (ck : Nat) : Array Value := #[.int .i64 o.1, .int .i64 o.2.1, .int .i64 o.2.2.1, .int .i64 o.2.2.2.1, .slice Ad o.2.2.2.2.1.length cd, .slice Ak o.2.2.2.2.2.length ck]
theorem ops_at {w : World} {A : Option Addr} {l : List Op6} (h : Kd.C kO w A l.length l) (i : Nat) (hi : i < l.length) :
    ∃ ad Ad cd Ak ck, A = some ad ∧ OpIn w l[i] Ad cd Ak ck ∧ ∀ j u, (opCells l[i] Ad cd Ak ck)[j]? = some u → w.cell? (ad.add (i * 6 + j)) = some u := by
  obtain ⟨_, _, h3⟩ := h
  obtain ⟨ad, rfl, h4⟩ := h3 (by omega)
  obtain ⟨c, hc, hK, hu⟩ := h4 i l[i] (List.getElem?_eq_getElem hi)
  obtain ⟨c1, r1, rfl, h5, c2, r2, rfl, h6, c3, r3, rfl, h7, c4, r4, rfl, h8, c5, c6, rfl, h9, h10⟩ := hK
  have e1 : c1 = [.int .i64 l[i].1] := h5
  have e2 : c2 = [.int .i64 l[i].2.1] := h6
  have e3 : c3 = [.int .i64 l[i].2.2.1] := h7
  have e4 : c4 = [.int .i64 l[i].2.2.2.1] := h8
  obtain ⟨Ad, cd, e5, hd1, hd2⟩ := h9
  obtain ⟨Ak, ck, e6, hk1, hk2⟩ := h10
  subst e1
  subst e2
  subst e3
  subst e4
  subst e5
  subst e6
  refine ⟨ad, Ad, cd, Ak, ck, rfl, ⟨hd2, hd1, hk2, hk1⟩, fun j u hj => hu j u ?_⟩
  simpa using hj
section
variable {w0 w w' : World} {R l : List Asn}
theorem Sep.cellAt (S : Sep w0 w l) (k : Nat) {p : Nat} {cs : Array Value} {t : TypeId} (h : l[k]? = some (Blk p cs t)) (i : Nat) {v : Value} (hv : cs[i]? = some v) : w.cell? ⟨p, i, none⟩ = some v := by
  obtain ⟨F, h1, _⟩ := S.at_ k h
  exact (blk_cell h1.1 i).trans hv
theorem Sep.freeAt (S : Sep w0 w l) (k : Nat) {p : Nat} {cs : Array Value} {t : TypeId} (h : l[k]? = some (Blk p cs t)) (i : Nat) : w.frozen? ⟨p, i, none⟩ = false := by
  obtain ⟨F, h1, _⟩ := S.at_ k h
  exact blk_frozen h1.1 i
theorem reads_old {A : Option Addr} {l : List Int} (h : Kd.C (Kd.int .u8) w0 A l.length l) (b : Below w0.heap.size w0 w) : ReadsInt w .u8 A l.length l := by
  have h1 := Kd.reads_of_C (d := (0 : Int)) h
  exact ReadsInt.below h1 b
theorem byt_part {B : Option Addr} {n c : Nat} {l x : List Int} (hl : l.length + x.length = n) : ∀ G, (Byt B n c (l ++ x)).H w G → ReadsInt w .u8 B l.length l ∧ ∀ a, B = some a → 0 < l.length → G a.block := by
  intro G h
  have hr := own_reads' h.1
  refine ⟨⟨rfl, by have := hr.2.1; omega, fun hn => ?_⟩, fun a e _ => h.2.1 _ (by rw [e]; rfl)⟩
  obtain ⟨ad, e, hc⟩ := hr.2.2 (by omega)
  refine ⟨ad, e, fun j hj => ?_⟩
  rw [hc j (by omega)]
  simp [List.getD_eq_getElem?_getD, List.getElem?_append_left hj]
end
end Go.Proofs.Ythnbmfkmaijibaa.Sep
/- DevicePlays: done (Write, Flush, Arm, Crash). -/
namespace Go.Proofs.Ythnbmfkmaijibaa.Sep
open Go.Proofs Go.RowKit Go.Proofs.YthnbmfkmaijibaaW.PrintWords Go.Proofs.YthnbmfkmaijibaaW.PrintLast Go.Proofs.YthnbmfkmaijibaaW.PrintMore Go.Proofs.Ythnbmfkmaijibaa.IMap Go.Proofs.Ythnbmfkmaijibaa.Dev Go.Proofs.Ythnbmfkmaijibaa.PDeviceReads Go.Proofs.Ythnbmfkmaijibaa.Help
set_option linter.unusedVariables false
set_option linter.unusedSimpArgs false
/-- y: the play; its two pairs a0 .. b1, its book, its step. -/
abbrev playC (a0 b0 a1 b1 : Value) (A : Option Addr) (k c st : Nat) : Array Value := #[a0, b0, a1, b1, .slice A k c, .int .i64 (st : Int)]
section
variable {w0 w w' : World} {R : List Asn} {A : Option Addr} {k c st y p q : Nat} {s : DS} {a0 b0 a1 b1 : Value} {o : Op6} {Ad Ak : Option Addr} {cd ck : Nat}
set_option maxRecDepth 100000 in
set_option maxHeartbeats 8000000 in
theorem done_write (S : Sep w0 w (Blk y (playC a0 b0 a1 b1 A k c st) 81 :: BookA A k c :: DevA p s :: RefA q s :: R)) (ho : OpIn w0 o Ad cd Ak ck) (hk : k ≤ 200000000000) (hst : st ≤ 100000000) (hdl : o.2.2.2.2.1.length ≤ 1000000) (hpl : s.pend.length ≤ 100000000) (hkind : o.1 = 4) :
    Calls Try.prog 43 #[.pointer (some ⟨y, 0, none⟩), .agg #[.pointer (some ⟨p, 0, none⟩), .pointer (some ⟨q, 0, none⟩)], .agg (opCells o Ad cd Ak ck)] w fun e w' => ∃ A' c', e = .returned (.bool true) ∧ Sep w0 w' (Blk y (playC a0 b0 a1 b1 A' (k + 3) c' st) 81 :: BookA A' (k + 3) c' :: DevA p (s.write o.2.2.1 o.2.2.2.2.1).2 :: RefA q (s.write o.2.2.1 o.2.2.2.2.1).2 :: R) := by
  obtain ⟨kd, who, b, kk, d, ks⟩ := o
  obtain rfl : kd = 4 := hkind
  have HO := Aside0.mk ho
  simp only at hdl ⊢
  have HD : Aside0 (∀ W, Below w0.heap.size w0 W → ReadsInt W .u8 Ad d.length d) := ⟨fun W hW => reads_old HO.out.data hW⟩
  have hdc : d.length ≤ cd := HO.out.dcap
  have S1 := (S.alloc #[.pointer (some ⟨p, 0, none⟩), .pointer (some ⟨q, 0, none⟩)] 77).alloc #[.int .i64 4, .int .i64 who, .int .i64 b, .int .i64 kk, .slice Ad d.length cd, .slice Ak ks.length ck] 83
  rw [show (w.alloc (.cells #[.pointer (some ⟨p, 0, none⟩), .pointer (some ⟨q, 0, none⟩)] 77)).heap.size = w.heap.size + 1 from World.size_alloc ..] at S1
  have x0 := S1.cellAt 0 rfl 0 (v := .int .i64 4) rfl
  have x4 := S1.cellAt 0 rfl 4 (v := .slice Ad d.length cd) rfl
  clear S ho
  go_enter Try.func43, Try.ntmps43
  go_wp2_with fail
  refine (roomy_s S1 (HD.out _ S1.bel) hdc hdl).mono ?_
  clear S1 x0 x4
  rintro e w1 ⟨B, cB, rfl, S⟩
  obtain ⟨gB, rfl⟩ := S.addr (by omega)
  have hcB := S.cap
  have x0 := S.cellAt 2 rfl 0 (v := .pointer (some ⟨p, 0, none⟩)) rfl
  have x2 := S.cellAt 1 rfl 2 (v := .int .i64 b) rfl
  have x4 := S.cellAt 1 rfl 4 (v := .slice Ad d.length cd) rfl
  have hdn : (d.length : Int) ≤ (cB : Int) := by omega
  have hdn2 : d.length ≤ cB := by omega
  have HS := Aside0.mk S
  clear S
  go_wp2_with fail
  go_region_held3 (fun W => W.cell? ⟨w.heap.size, 0, none⟩ = some (.pointer (some ⟨p, 0, none⟩)) ∧ W.cell? ⟨w.heap.size + 1, 2, none⟩ = some (.int .i64 b) ∧ W.cell? ⟨w.heap.size + 1, 4, none⟩ = some (.slice Ad d.length cd)) (refine ⟨?_, ?_, ?_⟩ <;> (repeat (first | (with_reducible assumption) | (with_reducible refine kd ?_))))
    (first | (go_at_call 20; refine (write_part (l := d) (HS.out.drew.p5) b (byt_part rfl) (by omega) (by omega)).mono ?_; rintro e w8 ⟨rfl, S8⟩; have y0 := S8.cellAt 3 rfl 0 (v := .pointer (some ⟨p, 0, none⟩)) rfl; have y2 := S8.cellAt 2 rfl 2 (v := .int .i64 b) rfl; have y4 := S8.cellAt 2 rfl 4 (v := .slice Ad d.length cd) rfl))
  have y1 := S8.cellAt 3 rfl 1 (v := .pointer (some ⟨q, 0, none⟩)) rfl
  have HW := Aside0.mk S8
  have hlen := And.intro S8.p1.len hdn2
  clear HS x0 x2 x4 S8
  go_wp2_with fail
  refine (rwrite_s (HW.out.p6) HD.out b (by omega)).mono ?_
  clear HW y0 y1 y2 y4
  rintro e w2 ⟨rfl, S⟩
  have y4 := S.cellAt 3 rfl 4 (v := .slice Ad d.length cd) rfl
  have HS := Aside0.mk S
  clear S
  go_wp2_with fail
  refine (roomy_s HS.out (HD.out _ HS.out.bel) hdc hdl).mono ?_
  clear HS y4
  rintro e w3 ⟨B2, cB2, rfl, S⟩
  go_wp2_with fail
  refine (same_t S _ _ _ _ _ _ _ _ rfl (S.pull 3).reads S.reads (S.pull 3).cap S.cap (by omega)).mono ?_
  clear S
  rintro e w4 ⟨rfl, S⟩
  have HS := Aside0.mk S.drop
  clear S
  go_wp2_with (go_at_call 19; refine (num_any _ _).mono ?_; rintro e w' ⟨rfl, rfl⟩)
  have x4 := HS.out.cellAt 5 rfl 4 (v := .slice A k c) rfl
  go_region_law (first | (refine call_step Try.func61 (by kernel_rfl) (by rfl) #[.tmp 60] #[75] (by rfl) (by rfl) #[.pointer (some ⟨y, 0, none⟩)] (by first | rfl | (simp [Act.eval]; done) | (simp [go_sem, Act.eval]; done)) ?_; refine (mark_s (by rfl) hst HS.out.drew.p5).mono ?_; rintro e w6 ⟨m, rfl, rfl⟩; refine ⟨_, rfl, ?_⟩) | (refine call_step Try.func60 (by kernel_rfl) (by rfl) #[.tmp 58, .tmp 59, .tmp 61] #[79, 29, 5] (by rfl) (by rfl) #[.slice A k c, .slice (some ⟨gB, 0, none⟩) (d.length + 3) cB, .int .u8 m] (by first | rfl | (simp [Act.eval]; done) | (simp [go_sem, Act.eval]; done)) ?_; refine (bk_keep HS.out.drew.p2.p6 (by omega) (by omega) m).mono ?_; rintro e w9 ⟨A', c', rfl, S9⟩; refine ⟨_, rfl, ?_⟩; have z4 := S9.cellAt 5 rfl 4 (v := .slice A k c) rfl; have z5 := S9.freeAt 5 rfl 4))
  all_goals (
    have S10 := S9.p5.set 4 (.slice A' (k + 3) c')
    have HS10 := Aside0.mk (S10.d4.d4.p3.p2.p2)
    clear S9 S10 z4 z5 x4 HS
    go_wp2
    go_ret
    exact ⟨A', c', rfl, HS10.out⟩)
set_option maxRecDepth 100000 in
set_option maxHeartbeats 8000000 in
theorem done_flush (S : Sep w0 w (Blk y (playC a0 b0 a1 b1 A k c st) 81 :: BookA A k c :: DevA p s :: RefA q s :: R)) (ho : OpIn w0 o Ad cd Ak ck) (hpl : s.pend.length ≤ 100000000) (hkind : o.1 = 5) :
    Calls Try.prog 43 #[.pointer (some ⟨y, 0, none⟩), .agg #[.pointer (some ⟨p, 0, none⟩), .pointer (some ⟨q, 0, none⟩)], .agg (opCells o Ad cd Ak ck)] w fun e w' => e = .returned (.bool true) ∧ Sep w0 w' (Blk y (playC a0 b0 a1 b1 A k c st) 81 :: BookA A k c :: DevA p s.flush.2 :: RefA q s.flush.2 :: R) := by
  obtain ⟨kd, who, b, kk, d, ks⟩ := o
  obtain rfl : kd = 5 := hkind
  have HO := Aside0.mk ho
  try simp only
  have S1 := (S.alloc #[.pointer (some ⟨p, 0, none⟩), .pointer (some ⟨q, 0, none⟩)] 77).alloc #[.int .i64 5, .int .i64 who, .int .i64 b, .int .i64 kk, .slice Ad d.length cd, .slice Ak ks.length ck] 83
  rw [show (w.alloc (.cells #[.pointer (some ⟨p, 0, none⟩), .pointer (some ⟨q, 0, none⟩)] 77)).heap.size = w.heap.size + 1 from World.size_alloc ..] at S1
  have x0 := S1.cellAt 0 rfl 0 (v := .int .i64 5) rfl
  have y0 := S1.cellAt 1 rfl 0 (v := .pointer (some ⟨p, 0, none⟩)) rfl
  have HS := Aside0.mk S1
  clear S ho S1
  go_enter Try.func43, Try.ntmps43
  go_wp2_with fail
  refine (flush_s HS.out.p4).mono ?_
  clear HS x0 y0
  rintro e w1 ⟨rfl, S⟩
  have y1 := S.cellAt 2 rfl 1 (v := .pointer (some ⟨q, 0, none⟩)) rfl
  have HS := Aside0.mk S
  clear S
  go_wp2_with fail
  refine (rflush_s HS.out.p5 (by omega)).mono ?_
  clear HS y1
  rintro e w2 ⟨rfl, S⟩
  have HS := Aside0.mk S
  clear S
  go_wp2_with (go_at_call 19; refine (num_any _ _).mono ?_; rintro e w' ⟨rfl, rfl⟩)
  go_ret
  exact ⟨by simp, HS.out.d2.d2.p1.p3.p3⟩
set_option maxRecDepth 100000 in
set_option maxHeartbeats 8000000 in
theorem done_arm (S : Sep w0 w (Blk y (playC a0 b0 a1 b1 A k c st) 81 :: BookA A k c :: DevA p s :: RefA q s :: R)) (ho : OpIn w0 o Ad cd Ak ck) (hpl : s.pend.length ≤ 100000000) (hK : o.2.2.2.1 < 9223372036854775808) (hkind : o.1 = 6) :
    Calls Try.prog 43 #[.pointer (some ⟨y, 0, none⟩), .agg #[.pointer (some ⟨p, 0, none⟩), .pointer (some ⟨q, 0, none⟩)], .agg (opCells o Ad cd Ak ck)] w fun e w' => e = .returned (.bool true) ∧ Sep w0 w' (Blk y (playC a0 b0 a1 b1 A k c st) 81 :: BookA A k c :: DevA p (s.arm o.2.2.2.1).2 :: RefA q (s.arm o.2.2.2.1).2 :: R) := by
  obtain ⟨kd, who, b, kk, d, ks⟩ := o
  obtain rfl : kd = 6 := hkind
  have HO := Aside0.mk ho
  simp only at hK ⊢
  have S1 := (S.alloc #[.pointer (some ⟨p, 0, none⟩), .pointer (some ⟨q, 0, none⟩)] 77).alloc #[.int .i64 6, .int .i64 who, .int .i64 b, .int .i64 kk, .slice Ad d.length cd, .slice Ak ks.length ck] 83
  rw [show (w.alloc (.cells #[.pointer (some ⟨p, 0, none⟩), .pointer (some ⟨q, 0, none⟩)] 77)).heap.size = w.heap.size + 1 from World.size_alloc ..] at S1
  have x0 := S1.cellAt 0 rfl 0 (v := .int .i64 6) rfl
  have y0 := S1.cellAt 1 rfl 0 (v := .pointer (some ⟨p, 0, none⟩)) rfl
  have HS := Aside0.mk S1
  clear S ho S1
  go_enter Try.func43, Try.ntmps43
  have z3 := HS.out.cellAt 0 rfl 3 (v := .int .i64 kk) rfl
  go_wp2_with fail
  refine (arm_s HS.out.p4 kk hK).mono ?_
  clear HS x0 y0 z3
  rintro e w1 ⟨rfl, S⟩
  have y1 := S.cellAt 2 rfl 1 (v := .pointer (some ⟨q, 0, none⟩)) rfl
  have z3 := S.cellAt 1 rfl 3 (v := .int .i64 kk) rfl
  have HS := Aside0.mk S
  clear S
  go_wp2_with fail
  refine (rarm_s HS.out.p5 kk hK).mono ?_
  clear HS y1 z3
  rintro e w2 ⟨rfl, S⟩
  have HS := Aside0.mk S
  clear S
  go_wp2_with (go_at_call 19; refine (num_any _ _).mono ?_; rintro e w' ⟨rfl, rfl⟩)
  go_ret
  exact ⟨by simp, HS.out.d2.d2.p1.p3.p3⟩
set_option maxRecDepth 100000 in
set_option maxHeartbeats 8000000 in
theorem done_else (S : Sep w0 w (Blk y (playC a0 b0 a1 b1 A k c st) 81 :: BookA A k c :: DevA p s :: RefA q s :: R)) (ho : OpIn w0 o Ad cd Ak ck) (hpl : s.pend.length ≤ 100000000) (hkind : o.1 ≠ 4 ∧ o.1 ≠ 5 ∧ o.1 ≠ 6 ∧ o.1 ≠ 8) :
    Calls Try.prog 43 #[.pointer (some ⟨y, 0, none⟩), .agg #[.pointer (some ⟨p, 0, none⟩), .pointer (some ⟨q, 0, none⟩)], .agg (opCells o Ad cd Ak ck)] w fun e w' => e = .returned (.bool true) ∧ Sep w0 w' (Blk y (playC a0 b0 a1 b1 A k c st) 81 :: BookA A k c :: DevA p s :: RefA q s :: R) := by
  obtain ⟨kd, who, b, kk, d, ks⟩ := o
  obtain ⟨h4, h5, h6, h8⟩ : kd ≠ 4 ∧ kd ≠ 5 ∧ kd ≠ 6 ∧ kd ≠ 8 := hkind
  have HO := Aside0.mk ho
  try simp only
  have S1 := (S.alloc #[.pointer (some ⟨p, 0, none⟩), .pointer (some ⟨q, 0, none⟩)] 77).alloc #[.int .i64 kd, .int .i64 who, .int .i64 b, .int .i64 kk, .slice Ad d.length cd, .slice Ak ks.length ck] 83
  rw [show (w.alloc (.cells #[.pointer (some ⟨p, 0, none⟩), .pointer (some ⟨q, 0, none⟩)] 77)).heap.size = w.heap.size + 1 from World.size_alloc ..] at S1
  have x0 := S1.cellAt 0 rfl 0 (v := .int .i64 kd) rfl
  have y0 := S1.cellAt 1 rfl 0 (v := .pointer (some ⟨p, 0, none⟩)) rfl
  have HS := Aside0.mk S1
  clear S ho S1
  go_enter Try.func43, Try.ntmps43
  go_wp2
  go_ret
  exact ⟨rfl, HS.out.drop.drop⟩
end
end Go.Proofs.Ythnbmfkmaijibaa.Sep
/- DevicePlays: done (Crash). -/
namespace Go.Proofs.Ythnbmfkmaijibaa.Sep
open Go.Proofs Go.RowKit Go.Proofs.YthnbmfkmaijibaaW.PrintWords Go.Proofs.YthnbmfkmaijibaaW.PrintLast Go.Proofs.YthnbmfkmaijibaaW.PrintMore Go.Proofs.Ythnbmfkmaijibaa.IMap Go.Proofs.Ythnbmfkmaijibaa.Dev Go.Proofs.Ythnbmfkmaijibaa.PDeviceReads Go.Proofs.Ythnbmfkmaijibaa.Help
set_option linter.unusedVariables false
set_option linter.unusedSimpArgs false
theorem info_bool : (Try.prog.info? 4).map (fun i => (i.zero, i.size, i.bytes)) = some (some (.bool false), 1, 1) := by kernel_rfl
theorem lies_bools {w : World} {A : Option Addr} {ks : List Bool} (h : ReadsOf Value.bool false w A ks.length ks) : Lies w A (ks.map Value.bool) := by
  intro j u hu
  rw [List.getElem?_map] at hu
  obtain ⟨x, hx, rfl⟩ := Option.map_eq_some_iff.1 hu
  have hj := (List.getElem?_eq_some_iff.1 hx).1
  obtain ⟨ad, e, hc⟩ := h.2.2 (by omega)
  refine ⟨ad, e, ?_⟩
  rw [hc j hj, List.getD_eq_getElem?_getD, hx]
  rfl
theorem bool_part {w : World} {g n c : Nat} {ks : List Bool} {x : List Value} (hl : ks.length + x.length = n) : ∀ G, (Own 4 1 (.slice (some ⟨g, 0, none⟩) n c) n (ks.map Value.bool ++ x)).H w G → ReadsOf Value.bool false w (some ⟨g, 0, none⟩) ks.length ks ∧ ∀ a, (some ⟨g, 0, none⟩ : Option Addr) = some a → 0 < ks.length → G a.block := by
  intro G h
  have hc : n ≤ 9223372036854775807 := by
    rcases h.1.2 with ⟨e, _⟩ | ⟨g', cap, cur, e, _, _, h1, h2, _⟩
    · cases e
    · unfold maxLen at h2
      omega
  refine ⟨⟨rfl, by omega, fun hn => ⟨_, rfl, fun j hj => ?_⟩⟩, fun a e _ => h.2.1 _ (by rw [e]; rfl)⟩
  have := h.1.cells (g := g) rfl j (.bool (ks.getD j false)) (by
    rw [List.getElem?_append_left (by simpa using hj), List.getElem?_map, List.getD_eq_getElem?_getD, List.getElem?_eq_getElem hj]
    rfl)
  exact this
section
variable {w0 w w' : World} {R : List Asn} {A : Option Addr} {k c st y p q : Nat} {s : DS} {a0 b0 a1 b1 : Value} {o : Op6} {Ad Ak : Option Addr} {cd ck : Nat}
set_option maxRecDepth 100000 in
set_option maxHeartbeats 8000000 in
theorem done_crash (S : Sep w0 w (Blk y (playC a0 b0 a1 b1 A k c st) 81 :: BookA A k c :: DevA p s :: RefA q s :: R)) (ho : OpIn w0 o Ad cd Ak ck) (hpl : s.pend.length ≤ 100000000) (hkl : o.2.2.2.2.2.length ≤ 100000000) (hkind : o.1 = 8) :
    Calls Try.prog 43 #[.pointer (some ⟨y, 0, none⟩), .agg #[.pointer (some ⟨p, 0, none⟩), .pointer (some ⟨q, 0, none⟩)], .agg (opCells o Ad cd Ak ck)] w fun e w' => e = .returned (.bool true) ∧ Sep w0 w' (Blk y (playC a0 b0 a1 b1 A k c st) 81 :: BookA A k c :: DevA p (s.crash o.2.2.2.2.2) :: RefA q (s.crash o.2.2.2.2.2) :: R) := by
  obtain ⟨kd, who, b, kk, d, ks⟩ := o
  obtain rfl : kd = 8 := hkind
  have HO := Aside0.mk ho
  simp only at hkl ⊢
  have HK : Aside0 (Kd.C Kd.bool w0 Ak ks.length ks) := ⟨HO.out.keep⟩
  have hkc : ks.length ≤ ck := HO.out.kcap
  have S1 := (S.alloc #[.pointer (some ⟨p, 0, none⟩), .pointer (some ⟨q, 0, none⟩)] 77).alloc #[.int .i64 8, .int .i64 who, .int .i64 b, .int .i64 kk, .slice Ad d.length cd, .slice Ak ks.length ck] 83
  rw [show (w.alloc (.cells #[.pointer (some ⟨p, 0, none⟩), .pointer (some ⟨q, 0, none⟩)] 77)).heap.size = w.heap.size + 1 from World.size_alloc ..] at S1
  have x0 := S1.cellAt 0 rfl 0 (v := .int .i64 8) rfl
  have x5 := S1.cellAt 0 rfl 5 (v := .slice Ak ks.length ck) rfl
  have hli := lies_bools (bools_in HK.out S1.bel).1
  have HL := Aside0.mk hli
  have HS := Aside0.mk S1
  clear S ho S1 hli
  have hone : Aside0 (∀ u ∈ ks.map Value.bool, u.oneCell' = true) := ⟨fun u hu => by
    obtain ⟨x, _, rfl⟩ := List.mem_map.1 hu
    rfl⟩
  have hlm : Aside0 ((ks.map Value.bool).length = ks.length * 1) := ⟨by simp⟩
  go_enter Try.func43, Try.ntmps43
  go_wp2_with (first | ((with_reducible refine gate_builtin (b := .append) (xs := #[.const (.slice none 0 0), .tmp 96]) rfl ?_); at_builtin; go_must (refine append_rows (HS.out.nils 4 1) rfl (.const (.slice none 0 0)) (.tmp 96) 50 (.bool false) 1 rfl Try.underlying50 info_bool rfl (by decide) (by decide) (ks.map Value.bool) Ak ks.length ck rfl rfl hlm.out HL.out hone.out ?aL ?_); (case aL => omega); intro A2 c2 w2 S2; rw [Nat.zero_add, List.nil_append] at S2; have S3 := S2.calm (below_alloc (Below.refl _ _) (.cells #[.bool true, .bool true, .bool false] 4))) | ((with_reducible refine gate_builtin (b := .append) (xs := #[.tmp 98, .tmp 99]) rfl ?_); at_builtin; go_must (refine append_rows S3 rfl (.tmp 98) (.tmp 99) 50 (.bool false) 1 rfl Try.underlying50 info_bool rfl (by decide) (by decide) [.bool true, .bool true, .bool false] (some ⟨w2.heap.size, 0, none⟩) 3 3 rfl rfl rfl (Lies.new w2 #[.bool true, .bool true, .bool false] 4) ?a1 ?aL ?_); (case a1 => (intro u hu; simp only [List.mem_cons, List.not_mem_nil, or_false] at hu; rcases hu with rfl | rfl | rfl <;> rfl)); (case aL => omega); intro A4 c4 w4 S4))
  obtain ⟨gB, rfl⟩ := S4.addr (by omega)
  have hcB := own_cap S4.row
  have y0 := S4.cellAt 2 rfl 0 (v := .pointer (some ⟨p, 0, none⟩)) rfl
  have y5 := S4.cellAt 1 rfl 5 (v := .slice Ak ks.length ck) rfl
  have hdn : (ks.length : Int) ≤ (c4 : Int) := by omega
  have hdn2 : ks.length ≤ c4 := by omega
  have HS4 := Aside0.mk S4
  clear S2 S3 S4 HS HL x0 x5
  go_wp2_with fail
  go_region_held3 (fun W => W.cell? ⟨w.heap.size, 0, none⟩ = some (.pointer (some ⟨p, 0, none⟩)) ∧ W.cell? ⟨w.heap.size + 1, 5, none⟩ = some (.slice Ak ks.length ck)) (refine ⟨?_, ?_⟩ <;> (repeat (first | (with_reducible assumption) | (with_reducible refine kd ?_))))
    (first | (go_at_call 28; refine (crash_part (HS4.out.drew.p5) _ _ ks (bool_part rfl)).mono ?_; rintro e w8 ⟨rfl, S8⟩; have z0 := S8.cellAt 3 rfl 0 (v := .pointer (some ⟨p, 0, none⟩)) rfl; have z5 := S8.cellAt 2 rfl 5 (v := .slice Ak ks.length ck) rfl))
  have z1 := S8.cellAt 3 rfl 1 (v := .pointer (some ⟨q, 0, none⟩)) rfl
  have HW := Aside0.mk S8
  clear HS4 y0 y5 S8 hone hlm
  go_wp2_with fail
  refine (rcrash_s (c := ck) HW.out.p6 (by omega) HK.out).mono ?_
  clear HW z0 z1 z5
  rintro e w9 ⟨rfl, S⟩
  go_wp2_with fail
  go_loopw [16] (fun i wr => ∃ j : Nat, j ≤ ks.length ∧ i = .int .i64 (j : Int) ∧ Sep w0 wr (RefA q (s.crash ks) :: DevA p (s.crash ks) :: Own 4 1 (.slice (some ⟨gB, 0, none⟩) (ks.length + 3) c4) (ks.length + 3) (ks.map Value.bool ++ [.bool true, .bool true, .bool false]) :: Blk (w.heap.size + 1) #[.int .i64 8, .int .i64 who, .int .i64 b, .int .i64 kk, .slice Ad d.length cd, .slice Ak ks.length ck] 83 :: Blk w.heap.size #[.pointer (some ⟨p, 0, none⟩), .pointer (some ⟨q, 0, none⟩)] 77 :: Blk y (playC a0 b0 a1 b1 A k c st) 81 :: BookA A k c :: R)) (fun i _ => ks.length - (intOf i).toNat)
  case atStart => exact ⟨0, Nat.zero_le _, rfl, S⟩
  case round =>
    clear S
    obtain ⟨j, hj, rfl, S⟩ := hrel
    have y5 := S.cellAt 3 rfl 5 (v := .slice Ak ks.length ck) rfl
    by_cases hlt : j < ks.length
    · have hlti : (j : Int) < (ks.length : Int) := by omega
      have v0 := S.p2.val j (v := .bool (ks.getD j false)) (by
        rw [List.getElem?_append_left (by simpa using hlt), List.getElem?_map, List.getD_eq_getElem?_getD, List.getElem?_eq_getElem hlt]
        rfl)
      obtain ⟨ad, rfl, hc⟩ := (bools_in HK.out S.bel).1.2.2 (by omega)
      have v1 := hc j hlt
      have hj3 : (j : Int) < (ks.length : Int) + 3 := by omega
      have hj3' : j < ks.length + 3 := by omega
      obtain ⟨bb, hbb⟩ : ∃ bb, bb = ks.getD j false := ⟨_, rfl⟩
      rw [← hbb] at v0 v1
      have HS := Aside0.mk S
      clear S hc hbb
      obtain ⟨wo, rfl⟩ : ∃ wo : World, wo = wr := ⟨_, rfl⟩
      go_wp2_with fail
      go_quiet (fail)
      go_wp2_with fail
      exact ⟨⟨j + 1, by omega, by go_num, HS.out.drewN _⟩, by simp [intOf]; omega⟩
    · obtain rfl : j = ks.length := by omega
      have hlti : ¬ ((ks.length : Int) < (ks.length : Int)) := by omega
      have v0 := S.p2.val ks.length (v := .bool true) (by rw [List.getElem?_append_right (by simp)]; simp)
      have v1 := S.p2.val (ks.length + 1) (v := .bool true) (by rw [List.getElem?_append_right (by simp)]; simp)
      have v2 := S.p2.val (ks.length + 2) (v := .bool false) (by rw [List.getElem?_append_right (by simp)]; simp)
      have g0 : (ks.length : Int) < (ks.length : Int) + 3 := by omega
      have g1 : (ks.length : Int) + 1 < (ks.length : Int) + 3 := by omega
      have g2 : (ks.length : Int) + 2 < (ks.length : Int) + 3 := by omega
      have HS := Aside0.mk S
      clear S hlt hj
      go_wp2_with fail
      go_ret
      exact ⟨rfl, HS.out.d2.d2.d2.p1.p3.p3⟩
end
end Go.Proofs.Ythnbmfkmaijibaa.Sep
/- DevicePlays: looked (Read, Durable). -/
namespace Go.Proofs.Ythnbmfkmaijibaa.Sep
open Go.Proofs Go.RowKit Go.Proofs.YthnbmfkmaijibaaW.PrintWords Go.Proofs.YthnbmfkmaijibaaW.PrintLast Go.Proofs.YthnbmfkmaijibaaW.PrintMore Go.Proofs.Ythnbmfkmaijibaa.IMap Go.Proofs.Ythnbmfkmaijibaa.Dev Go.Proofs.Ythnbmfkmaijibaa.PDeviceReads Go.Proofs.Ythnbmfkmaijibaa.Help
set_option linter.unusedVariables false
set_option linter.unusedSimpArgs false
section
variable {w0 w w' : World} {R : List Asn} {A : Option Addr} {k c st y p q : Nat} {s : DS} {a0 b0 a1 b1 : Value} {o : Op6} {Ad Ak : Option Addr} {cd ck : Nat}
set_option maxRecDepth 100000 in
set_option maxHeartbeats 8000000 in
theorem look_read (S : Sep w0 w (Blk y (playC a0 b0 a1 b1 A k c st) 81 :: BookA A k c :: DevA p s :: RefA q s :: R)) (hpl : s.pend.length ≤ 100000000) (hk : k ≤ 200000000000) (hst : st ≤ 100000000) (hkind : o.1 = 3) :
    Calls Try.prog 42 #[.pointer (some ⟨y, 0, none⟩), .agg #[.pointer (some ⟨p, 0, none⟩), .pointer (some ⟨q, 0, none⟩)], .agg (opCells o Ad cd Ak ck)] w fun e w' => ∃ A' k' c', k' ≤ k + 3 * (s.pend.length + 1) ∧ e = .returned (.bool true) ∧ Sep w0 w' (Blk y (playC a0 b0 a1 b1 A' k' c' st) 81 :: BookA A' k' c' :: DevA p s :: RefA q s :: R) := by
  obtain ⟨kd, who, b, kk, d, ks⟩ := o
  obtain rfl : kd = 3 := hkind
  have HOK := Aside0.mk S.p2.ok
  have S1 := (S.alloc #[.pointer (some ⟨p, 0, none⟩), .pointer (some ⟨q, 0, none⟩)] 77).alloc #[.int .i64 3, .int .i64 who, .int .i64 b, .int .i64 kk, .slice Ad d.length cd, .slice Ak ks.length ck] 83
  rw [show (w.alloc (.cells #[.pointer (some ⟨p, 0, none⟩), .pointer (some ⟨q, 0, none⟩)] 77)).heap.size = w.heap.size + 1 from World.size_alloc ..] at S1
  have x0 := S1.cellAt 0 rfl 0 (v := .int .i64 3) rfl
  have y0 := S1.cellAt 1 rfl 0 (v := .pointer (some ⟨p, 0, none⟩)) rfl
  have HS := Aside0.mk S1
  clear S S1
  go_enter Try.func42, Try.ntmps42
  have z2 := HS.out.cellAt 0 rfl 2 (v := .int .i64 b) rfl
  have HN : Aside0 ((s.read b).1.length ≤ 512) := ⟨read_len HOK.out b⟩
  go_wp2_with fail
  refine (read_s HS.out.p4 b).mono ?_
  clear HS x0 y0 z2
  rintro e w1 ⟨Aa, ca, rfl, S⟩
  have y1 := S.cellAt 3 rfl 1 (v := .pointer (some ⟨q, 0, none⟩)) rfl
  have z2 := S.cellAt 2 rfl 2 (v := .int .i64 b) rfl
  have HS := Aside0.mk S
  clear S
  go_wp2_with fail
  refine (rread_s HS.out.p6 b (by omega)).mono ?_
  clear HS y1 z2
  rintro e w2 ⟨Ab, cb, rfl, S⟩
  obtain ⟨dd, hdd⟩ : ∃ dd, dd = (s.read b).1 := ⟨_, rfl⟩
  obtain ⟨ee, hee⟩ : ∃ ee, ee = (s.read b).2 := ⟨_, rfl⟩
  rw [← hdd] at S HN ⊢
  rw [← hee]
  have hn := HN.out
  have HS := Aside0.mk S
  clear S hdd hee
  go_wp2_with fail
  refine (same_t HS.out _ _ _ _ _ _ _ _ rfl (HS.out.pull 2).reads HS.out.reads (HS.out.pull 2).cap HS.out.cap (by omega)).mono ?_
  clear HS
  rintro e w4 ⟨rfl, S⟩
  have HS := Aside0.mk S.drop
  clear S
  go_wp2_with (go_at_call 19; refine (num_any _ _).mono ?_; rintro e w' ⟨rfl, rfl⟩)
  have x4 := HS.out.cellAt 5 rfl 4 (v := .slice A k c) rfl
  go_region_law (first | (refine call_step Try.func61 (by kernel_rfl) (by rfl) #[.tmp 57] #[75] (by rfl) (by rfl) #[.pointer (some ⟨y, 0, none⟩)] (by first | rfl | (simp [Act.eval]; done) | (simp [go_sem, Act.eval]; done)) ?_; refine (mark_s (by rfl) hst HS.out.drew.p5).mono ?_; rintro e w6 ⟨m, rfl, rfl⟩; refine ⟨_, rfl, ?_⟩) | (refine call_step Try.func60 (by kernel_rfl) (by rfl) #[.tmp 55, .tmp 56, .tmp 58] #[79, 29, 5] (by rfl) (by rfl) #[.slice A k c, .slice Aa dd.length ca, .int .u8 m] (by first | rfl | (simp [Act.eval]; done) | (simp [go_sem, Act.eval]; done)) ?_; refine (bk_keep HS.out.drew.p1.p6 (by omega) (by omega) m).mono ?_; rintro e w9 ⟨A', c', rfl, S9⟩; refine ⟨_, rfl, ?_⟩; have z4 := S9.cellAt 5 rfl 4 (v := .slice A k c) rfl; have z5 := S9.freeAt 5 rfl 4))
  all_goals (
    have S10 := S9.p5.set 4 (.slice A' (k + 3) c')
    have HS10 := Aside0.mk (S10.d4.d4.p3.p2.p2)
    clear S9 S10 z4 z5 x4 HS
    go_wp2
    go_ret
    exact ⟨A', k + 3, c', by omega, rfl, HS10.out⟩)
set_option maxRecDepth 100000 in
set_option maxHeartbeats 8000000 in
theorem look_dur (S : Sep w0 w (Blk y (playC a0 b0 a1 b1 A k c st) 81 :: BookA A k c :: DevA p s :: RefA q s :: R)) (hpl : s.pend.length ≤ 100000000) (hk : k ≤ 200000000000) (hst : st ≤ 100000000) (hkind : o.1 = 9) :
    Calls Try.prog 42 #[.pointer (some ⟨y, 0, none⟩), .agg #[.pointer (some ⟨p, 0, none⟩), .pointer (some ⟨q, 0, none⟩)], .agg (opCells o Ad cd Ak ck)] w fun e w' => ∃ A' k' c', k' ≤ k + 3 * (s.pend.length + 1) ∧ e = .returned (.bool true) ∧ Sep w0 w' (Blk y (playC a0 b0 a1 b1 A' k' c' st) 81 :: BookA A' k' c' :: DevA p s :: RefA q s :: R) := by
  obtain ⟨kd, who, b, kk, d, ks⟩ := o
  obtain rfl : kd = 9 := hkind
  have HOK := Aside0.mk S.p2.ok
  have S1 := (S.alloc #[.pointer (some ⟨p, 0, none⟩), .pointer (some ⟨q, 0, none⟩)] 77).alloc #[.int .i64 9, .int .i64 who, .int .i64 b, .int .i64 kk, .slice Ad d.length cd, .slice Ak ks.length ck] 83
  rw [show (w.alloc (.cells #[.pointer (some ⟨p, 0, none⟩), .pointer (some ⟨q, 0, none⟩)] 77)).heap.size = w.heap.size + 1 from World.size_alloc ..] at S1
  have x0 := S1.cellAt 0 rfl 0 (v := .int .i64 9) rfl
  have y0 := S1.cellAt 1 rfl 0 (v := .pointer (some ⟨p, 0, none⟩)) rfl
  have HS := Aside0.mk S1
  clear S S1
  go_enter Try.func42, Try.ntmps42
  have HN : Aside0 (s.dur.length ≤ 2097152) := ⟨by have := HOK.out.len; have := HOK.out.n1; omega⟩
  go_wp2_with fail
  refine (durable_s HS.out.p4).mono ?_
  clear HS x0 y0
  rintro e w1 ⟨Aa, ca, rfl, S⟩
  have y1 := S.cellAt 3 rfl 1 (v := .pointer (some ⟨q, 0, none⟩)) rfl
  have HS := Aside0.mk S
  clear S
  go_wp2_with fail
  refine (rdurable_s HS.out.p6).mono ?_
  clear HS y1
  rintro e w2 ⟨Ab, cb, rfl, S⟩
  have hn := HN.out
  have HS := Aside0.mk S
  clear S
  go_wp2_with fail
  refine (same_t HS.out _ _ _ _ _ _ _ _ rfl (HS.out.pull 2).reads HS.out.reads (HS.out.pull 2).cap HS.out.cap (by omega)).mono ?_
  clear HS
  rintro e w4 ⟨rfl, S⟩
  have HS := Aside0.mk S.drop
  clear S
  go_wp2_with fail
  have x4 := HS.out.cellAt 5 rfl 4 (v := .slice A k c) rfl
  go_region_law (first | (refine call_step Try.func61 (by kernel_rfl) (by rfl) #[.tmp 161] #[75] (by rfl) (by rfl) #[.pointer (some ⟨y, 0, none⟩)] (by first | rfl | (simp [Act.eval]; done) | (simp [go_sem, Act.eval]; done)) ?_; refine (mark_s (by rfl) hst HS.out.drew.p5).mono ?_; rintro e w6 ⟨m, rfl, rfl⟩; refine ⟨_, rfl, ?_⟩) | (refine call_step Try.func60 (by kernel_rfl) (by rfl) #[.tmp 159, .tmp 160, .tmp 162] #[79, 29, 5] (by rfl) (by rfl) #[.slice A k c, .slice Aa s.dur.length ca, .int .u8 m] (by first | rfl | (simp [Act.eval]; done) | (simp [go_sem, Act.eval]; done)) ?_; refine (bk_keep HS.out.drew.p1.p6 (by omega) (by omega) m).mono ?_; rintro e w9 ⟨A', c', rfl, S9⟩; refine ⟨_, rfl, ?_⟩; have z4 := S9.cellAt 5 rfl 4 (v := .slice A k c) rfl; have z5 := S9.freeAt 5 rfl 4))
  all_goals (
    have S10 := S9.p5.set 4 (.slice A' (k + 3) c')
    have HS10 := Aside0.mk (S10.d4.d4.p3.p2.p2)
    clear S9 S10 z4 z5 x4 HS
    go_wp2
    go_ret
    exact ⟨A', k + 3, c', by omega, rfl, HS10.out⟩)
set_option maxRecDepth 100000 in
set_option maxHeartbeats 8000000 in
theorem look_else (S : Sep w0 w (Blk y (playC a0 b0 a1 b1 A k c st) 81 :: BookA A k c :: DevA p s :: RefA q s :: R)) (hpl : s.pend.length ≤ 100000000) (hk : k ≤ 200000000000) (hst : st ≤ 100000000) (hkind : o.1 ≠ 3 ∧ o.1 ≠ 7 ∧ o.1 ≠ 9) :
    Calls Try.prog 42 #[.pointer (some ⟨y, 0, none⟩), .agg #[.pointer (some ⟨p, 0, none⟩), .pointer (some ⟨q, 0, none⟩)], .agg (opCells o Ad cd Ak ck)] w fun e w' => ∃ A' k' c', k' ≤ k + 3 * (s.pend.length + 1) ∧ e = .returned (.bool true) ∧ Sep w0 w' (Blk y (playC a0 b0 a1 b1 A' k' c' st) 81 :: BookA A' k' c' :: DevA p s :: RefA q s :: R) := by
  obtain ⟨kd, who, b, kk, d, ks⟩ := o
  obtain ⟨h3, h7, h9⟩ : kd ≠ 3 ∧ kd ≠ 7 ∧ kd ≠ 9 := hkind
  have HOK := Aside0.mk S.p2.ok
  have S1 := (S.alloc #[.pointer (some ⟨p, 0, none⟩), .pointer (some ⟨q, 0, none⟩)] 77).alloc #[.int .i64 kd, .int .i64 who, .int .i64 b, .int .i64 kk, .slice Ad d.length cd, .slice Ak ks.length ck] 83
  rw [show (w.alloc (.cells #[.pointer (some ⟨p, 0, none⟩), .pointer (some ⟨q, 0, none⟩)] 77)).heap.size = w.heap.size + 1 from World.size_alloc ..] at S1
  have x0 := S1.cellAt 0 rfl 0 (v := .int .i64 kd) rfl
  have y0 := S1.cellAt 1 rfl 0 (v := .pointer (some ⟨p, 0, none⟩)) rfl
  have HS := Aside0.mk S1
  clear S S1
  go_enter Try.func42, Try.ntmps42
  go_wp2
  go_ret
  exact ⟨A, k, c, by omega, rfl, HS.out.drop.drop⟩
end
end Go.Proofs.Ythnbmfkmaijibaa.Sep
/- DevicePlays: looked (Size, Power, Pending). -/
namespace Go.Proofs.Ythnbmfkmaijibaa.Sep
open Go.Proofs Go.RowKit Go.Proofs.YthnbmfkmaijibaaW.PrintWords Go.Proofs.YthnbmfkmaijibaaW.PrintLast Go.Proofs.YthnbmfkmaijibaaW.PrintMore Go.Proofs.Ythnbmfkmaijibaa.IMap Go.Proofs.Ythnbmfkmaijibaa.Dev Go.Proofs.Ythnbmfkmaijibaa.PDeviceReads Go.Proofs.Ythnbmfkmaijibaa.Help
set_option linter.unusedVariables false
set_option linter.unusedSimpArgs false
theorem star_data {w : World} : ∀ {qs : List (Int × List Int × Value)} {F : Nat → Prop}, (∀ x ∈ qs, w.ownsRow 0 5 1 x.2.2 512 (nums .u8 x.2.1)) → (qs.Pairwise fun x y => x.2.2.ownBlock = none ∨ x.2.2.ownBlock ≠ y.2.2.ownBlock) → (∀ x ∈ qs, ∀ k, x.2.2.ownBlock = some k → F k) → Star (qs.map wdat) w F
  | [], _, _, _, _ => trivial
  | x :: qs, F, h1, h2, h3 => by
    obtain ⟨p1, p2⟩ := List.pairwise_cons.1 h2
    refine ⟨fun k => x.2.2.ownBlock = some k, ⟨h1 x List.mem_cons_self, fun k hk => hk, fun k hk => own_lt (h1 x List.mem_cons_self) k hk⟩, fun k hk => h3 x List.mem_cons_self k hk, ?_⟩
    refine star_data (fun y hy => h1 y (List.mem_cons_of_mem _ hy)) p2 fun y hy k hk => ⟨h3 y (List.mem_cons_of_mem _ hy) k hk, fun hx => ?_⟩
    have hx' : x.2.2.ownBlock = some k := hx
    rcases p1 y hy with q | q
    · rw [q] at hx'; cases hx'
    · exact q (hx'.trans hk.symm)
theorem star_out {w : World} : ∀ {qs : List (Int × List Int × Value)} {F : Nat → Prop}, Star (qs.map wdat) w F → (∀ x ∈ qs, w.ownsRow 0 5 1 x.2.2 512 (nums .u8 x.2.1) ∧ ∀ k, x.2.2.ownBlock = some k → F k) ∧ qs.Pairwise fun x y => x.2.2.ownBlock = none ∨ x.2.2.ownBlock ≠ y.2.2.ownBlock
  | [], _, _ => ⟨fun x hx => absurd hx List.not_mem_nil, List.Pairwise.nil⟩
  | x :: qs, F, ⟨G, h1, h2, h3⟩ => by
    obtain ⟨a1, a2⟩ := star_out h3
    refine ⟨fun y hy => ?_, List.pairwise_cons.2 ⟨fun y hy => ?_, a2⟩⟩
    · rcases List.mem_cons.1 hy with rfl | hy
      · exact ⟨h1.1, fun k hk => h2 k (h1.2.1 k hk)⟩
      · exact ⟨(a1 y hy).1, fun k hk => ((a1 y hy).2 k hk).1⟩
    · cases hx : x.2.2.ownBlock with
      | none => exact .inl rfl
      | some k =>
        refine .inr fun e => ?_
        exact ((a1 y hy).2 k e.symm).2 (h1.2.1 k hx)
section
variable {w0 w w' : World} {R : List Asn} {v : Value} {n : Nat} {qs : List (Int × List Int × Value)}
theorem pcells_two : ∀ qs : List (Int × List Int × Value), (pcells qs).length = qs.length * 2
  | [] => rfl
  | x :: l => by
    show (_ :: _ :: pcells l).length = (l.length + 1) * 2
    rw [List.length_cons, List.length_cons, pcells_two l]
    omega
theorem Sep.pack (S : Sep w0 w ((Own 41 2 v n (pcells qs) :: R) ++ qs.map wdat)) : Sep w0 w (PendA v (pairs qs) qs :: R) := by
  have S1 : Sep w0 w ((Own 41 2 v n (pcells qs) :: qs.map wdat) ++ R) := S.perm (List.Perm.cons _ List.perm_append_comm)
  obtain ⟨F, ⟨G, g1, g2, g3⟩, hlt, hf⟩ := S1.frame
  obtain ⟨a1, a2⟩ := star_out g3
  have hq : qs.length = n := by
    have h1 := g1.1.1
    have h2 : (pcells qs).length = qs.length * 2 := by
      exact pcells_two qs
    omega
  have hrow := g1.1
  rw [← hq] at hrow
  refine hf w [PendA v (pairs qs) qs] (Star.one (G := F) ⟨⟨rfl, hrow, fun x hx => ?_, a2⟩, fun k hk => g2 k (g1.2.1 k hk), fun x hx k hk => ((a1 x hx).2 k hk).1, hlt⟩ fun k hk => .inl hk) (Chg.refl _ _)
  have h := (a1 x hx).1
  have hl : x.2.1.length = 512 := by have := h.1; simpa [nums] using this
  rw [hl]
  exact h
theorem Sep.unpackP {l : List (Int × List Int)} (S : Sep w0 w (PendA v l qs :: R)) (hn : l.length = n) (hl : ∀ x ∈ l, x.2.length = 512) : Sep w0 w ((Own 41 2 v n (pcells qs) :: R) ++ qs.map wdat) := by
  obtain ⟨G, ⟨hP, g1, g2, g3⟩, hs, h3⟩ := S.star
  have hq : qs.length = n := by rw [← hn, hP.is, List.length_map]
  have hrow := hP.row
  rw [hq] at hrow
  have hd : ∀ x ∈ qs, w.ownsRow 0 5 1 x.2.2 512 (nums .u8 x.2.1) := fun x hx => by
    have h1 := hP.data x hx
    have h2 : x.2.1.length = 512 := hl (x.1, x.2.1) (by rw [hP.is]; exact List.mem_map.2 ⟨x, hx, rfl⟩)
    rw [h2] at h1
    exact h1
  have h4 : Star (qs.map wdat) w (fun k => G k ∧ ¬ v.ownBlock = some k) := star_data hd hP.apart fun x hx k hk => ⟨g2 x hx k hk, fun e => own_two (hd x hx) hrow (by decide) k hk e⟩
  have h5 : Star (Own 41 2 v n (pcells qs) :: qs.map wdat) w G := ⟨fun k => v.ownBlock = some k, ⟨hrow, fun k hk => hk, fun k hk => own_lt hrow k hk⟩, fun k hk => g1 k hk, h4⟩
  have h6 : Star ((Own 41 2 v n (pcells qs) :: qs.map wdat) ++ R) w (fun k => w0.heap.size ≤ k) := Star.join (l1 := Own 41 2 v n (pcells qs) :: qs.map wdat) hs h5 h3
  exact (⟨S.bel, h6⟩ : Sep w0 w _).perm (List.Perm.cons _ List.perm_append_comm)
theorem samep_k {A B : Option Addr} {n m c1 c2 : Nat} {l : List (Int × List Int)} {qs qs' : List (Int × List Int × Value)} (S : Sep w0 w (PendA (.slice A n c1) l qs :: PendA (.slice B m c2) l qs' :: R)) (hl : l.length = n) (hl' : l.length = m) (hn : n ≤ 140737488355328) (hD : ∀ x ∈ l, x.2.length ≤ 140737488355328) :
    Calls Try.prog 26 #[.slice A n c1, .slice B m c2] w fun e w' => e = .returned (.bool true) ∧ Sep w0 w' (PendA (.slice A n c1) l qs :: PendA (.slice B m c2) l qs' :: R) := by
  obtain ⟨h1, h2, _⟩ := Sep.pend_C S hl
  obtain ⟨h3, h4, _⟩ := Sep.pend_C S.swap hl'
  refine (samep_any w A B n m c1 c2 l l h1 h3 h2 h4 hn hD).mono ?_
  rintro _ w' ⟨h, b⟩
  rw [decide_eq_true rfl] at h
  exact ⟨h, S.calm b⟩
theorem Sep.putm {e : TypeId} {size g n c : Nat} {xs : List Value} (S : Sep w0 w (Own e size (.slice (some ⟨g, 0, none⟩) n c) n xs :: R)) (i : Nat) (v : Value) : Sep w0 (w.setCell ⟨g, i, none⟩ v) (Own e size (.slice (some ⟨g, 0, none⟩) n c) n (xs.set i v) :: R) := by
  obtain ⟨F, h, _⟩ := S.hd
  have h2 := h.1.stored i v
  exact S.grown h2.1 h2.2 (.inl rfl)
end
section
variable {w0 w w' : World} {R : List Asn} {A : Option Addr} {k c st y p q : Nat} {s : DS} {a0 b0 a1 b1 : Value} {o : Op6} {Ad Ak : Option Addr} {cd ck : Nat}
set_option maxRecDepth 100000 in
set_option maxHeartbeats 8000000 in
theorem look_pend (S : Sep w0 w (Blk y (playC a0 b0 a1 b1 A k c st) 81 :: BookA A k c :: DevA p s :: RefA q s :: R)) (hpl : s.pend.length ≤ 100000000) (hk : k ≤ 200000000000) (hst : st ≤ 100000000) (hkind : o.1 = 7) :
    Calls Try.prog 42 #[.pointer (some ⟨y, 0, none⟩), .agg #[.pointer (some ⟨p, 0, none⟩), .pointer (some ⟨q, 0, none⟩)], .agg (opCells o Ad cd Ak ck)] w fun e w' => ∃ A' k' c', k' ≤ k + 3 * (s.pend.length + 1) ∧ e = .returned (.bool true) ∧ Sep w0 w' (Blk y (playC a0 b0 a1 b1 A' k' c' st) 81 :: BookA A' k' c' :: DevA p s :: RefA q s :: R) := by
  obtain ⟨kd, who, b, kk, d, ks⟩ := o
  obtain rfl : kd = 7 := hkind
  have HOK := Aside0.mk S.p2.ok
  have S1 := (S.alloc #[.pointer (some ⟨p, 0, none⟩), .pointer (some ⟨q, 0, none⟩)] 77).alloc #[.int .i64 7, .int .i64 who, .int .i64 b, .int .i64 kk, .slice Ad d.length cd, .slice Ak ks.length ck] 83
  rw [show (w.alloc (.cells #[.pointer (some ⟨p, 0, none⟩), .pointer (some ⟨q, 0, none⟩)] 77)).heap.size = w.heap.size + 1 from World.size_alloc ..] at S1
  have x0 := S1.cellAt 0 rfl 0 (v := .int .i64 7) rfl
  have y0 := S1.cellAt 1 rfl 0 (v := .pointer (some ⟨p, 0, none⟩)) rfl
  have HS := Aside0.mk S1
  clear S S1
  go_enter Try.func42, Try.ntmps42
  go_wp2_with fail
  refine (pending_s HS.out.p4 (by omega)).mono ?_
  clear HS x0 y0
  rintro e w1 ⟨Ap, cp, qs, rfl, S⟩
  have y1 := S.cellAt 3 rfl 1 (v := .pointer (some ⟨q, 0, none⟩)) rfl
  have HS := Aside0.mk S
  clear S
  go_wp2_with fail
  refine (rpending_s HS.out.p6 (by omega)).mono ?_
  clear HS y1
  rintro e w2 ⟨Ar, cr, qs', rfl, hqs', S⟩
  have S2 := S.pack
  rw [hqs'] at S2
  have HS := Aside0.mk S2.p2
  have H512 : Aside0 (∀ x ∈ s.pend, x.2.length = 512) := ⟨fun x hx => (HOK.out.pend x hx).2.2⟩
  clear S S2
  go_wp2_with fail
  refine (samep_k HS.out rfl rfl (by omega) fun x hx => by have := H512.out x hx; omega).mono ?_
  clear HS
  rintro e w3 ⟨rfl, S⟩
  obtain ⟨np, hnp⟩ : ∃ np, np = s.pend.length := ⟨_, rfl⟩
  have S1 := S.unpackP hnp.symm H512.out
  rw [← hnp] at S1 hpl
  have hql : qs.length = np := by
    obtain ⟨F, hP, _⟩ := S.hd
    have := congrArg List.length hP.1.is
    rw [List.length_map] at this
    omega
  have HQ := Aside0.mk hql
  have HNP := Aside0.mk hnp
  have HS := Aside0.mk S1
  rw [← hnp]
  clear S S1 hql hnp
  have z0 := HS.out.cellAt 5 rfl 0 (v := .pointer (some ⟨p, 0, none⟩)) rfl
  have z1 := HS.out.cellAt 5 rfl 1 (v := .pointer (some ⟨q, 0, none⟩)) rfl
  go_wp2_with fail
  go_region_held3 (fun W => W.cell? ⟨w.heap.size, 0, none⟩ = some (.pointer (some ⟨p, 0, none⟩)) ∧ W.cell? ⟨w.heap.size, 1, none⟩ = some (.pointer (some ⟨q, 0, none⟩))) (refine ⟨?_, ?_⟩ <;> (repeat (first | (with_reducible assumption) | (with_reducible refine kd ?_))))
    (first | (go_at_call 39; refine (size_s HS.out.drew.p3).mono ?_; rintro e w5 ⟨rfl, rfl⟩) | (go_at_call 64; refine (rsize_s HS.out.drew.p2).mono ?_; rintro e w5 ⟨rfl, rfl⟩) | (go_at_call 34; refine (power_s HS.out.drew.p3).mono ?_; rintro e w6 ⟨rfl, S6⟩; have z60 := S6.cellAt 5 rfl 0 (v := .pointer (some ⟨p, 0, none⟩)) rfl; have z61 := S6.cellAt 5 rfl 1 (v := .pointer (some ⟨q, 0, none⟩)) rfl) | (go_at_call 65; refine (rpower_s S6.p3).mono ?_; rintro e w7 ⟨rfl, rfl⟩))
  have HS6 := Aside0.mk S6.d2.d3.d3.p2.p1.p2.p4.p4
  clear HS S6 z60 z61 z0 z1
  go_wp2_with fail
  go_loopw [15] (fun i wr => ∃ (j : Nat) (A' : Option Addr) (c' : Nat), j ≤ np ∧ i = .int .i64 (j : Int) ∧ Sep w0 wr ((Blk y (playC a0 b0 a1 b1 A' (k + 3 * j) c' st) 81 :: BookA A' (k + 3 * j) c' :: Own 41 2 (.slice Ap np cp) np (pcells qs) :: DevA p s :: RefA q s :: R) ++ (qs.drop j).map wdat)) (fun i _ => np - (intOf i).toNat)
  case atStart => exact ⟨0, A, c, Nat.zero_le _, rfl, HS6.out⟩
  case round =>
    clear HS6
    obtain ⟨j, A2, c2, hj, rfl, S⟩ := hrel
    by_cases hlt : j < np
    · have hlti : (j : Int) < (np : Int) := by omega
      have hjq : j < qs.length := by rw [HQ.out]; exact hlt
      have hx : qs[j]? = some qs[j] := List.getElem?_eq_getElem hjq
      obtain ⟨gp, rfl⟩ := S.p2.addr (by omega)
      have v1 := S.p2.valn _ (pcells_at hx).2
      have S2 : Sep w0 wr (wdat qs[j] :: ((Blk y (playC a0 b0 a1 b1 A2 (k + 3 * j) c2 st) 81 :: BookA A2 (k + 3 * j) c2 :: Own 41 2 (.slice (some ⟨gp, 0, none⟩) np cp) np (pcells qs) :: DevA p s :: RefA q s :: R) ++ (qs.drop (j + 1)).map wdat)) := by
        rw [List.drop_eq_getElem_cons hjq] at S
        exact S.focus (f := wdat) (L := qs[j] :: qs.drop (j + 1)) 0 (Nat.zero_lt_succ _)
      have S3 : Sep w0 wr (Own 5 1 qs[j].2.2 512 (nums .u8 qs[j].2.1) :: _) := S2
      obtain ⟨A1, cc, e1⟩ := own_slice S3.row
      rw [e1] at v1 S3
      have x4 := S3.cellAt 1 rfl 4 (v := .slice A2 (k + 3 * j) c2) rfl
      have x5 := S3.cellAt 1 rfl 5 (v := .int .i64 (st : Int)) rfl
      have hq5 : Int.tmod ((st : Int) + (j : Int)) 250 = (((st + j) % 250 : Nat) : Int) := by rw [Int.tmod_eq_emod_of_nonneg (by omega)]; omega
      have HS3 := Aside0.mk S3
      obtain ⟨kj, hkj⟩ : ∃ kj, kj = k + 3 * j := ⟨_, rfl⟩
      rw [← hkj] at x4 HS3
      have hkj9 : kj ≤ 300000000000 := by omega
      have HKJ := Aside0.mk hkj
      clear S S2 S3 e1 hx hkj
      go_wp2_with fail
      go_region_law (refine call_step Try.func60 (by kernel_rfl) (by rfl) #[.tmp 103, .tmp 108, .tmp 117] #[79, 29, 5] (by rfl) (by rfl) #[.slice A2 kj c2, .slice A1 512 cc, .int .u8 (IntKind.u8.wrap (IntKind.i64.wrap (1 + (IntKind.i64.wrap ((st : Int) + (j : Int))).tmod 250)))] (by first | rfl | (simp [Act.eval]; done) | (simp [go_sem, Act.eval]; done)) ?_; refine (bk_keep HS3.out.drew.p2 (by omega) (by decide) _).mono ?_; rintro e w9 ⟨A', c', rfl, S9⟩; refine ⟨_, rfl, ?_⟩; have z4 := S9.cellAt 1 rfl 4 (v := .slice A2 kj c2) rfl; have z5 := S9.freeAt 1 rfl 4)
      all_goals (
        have S10 := S9.p1.set 4 (.slice A' (kj + 3) c')
        have HS10 := Aside0.mk S10
        clear S9 S10 z4 z5 x4 x5 v1 HS3 hq5
        have ek : k + 3 * (j + 1) = kj + 3 := by have := HKJ.out; omega
        have HEK := Aside0.mk ek
        clear ek hlt hkj9
        go_wp2_with fail
        exact ⟨⟨j + 1, A', c', by omega, by go_num, by rw [HEK.out]; exact HS10.out⟩, by simp [intOf]; omega⟩)
    · obtain rfl : j = np := by omega
      have hlti : ¬ ((j : Int) < (j : Int)) := by omega
      have S1 := Sep.lefts (l := Blk y (playC a0 b0 a1 b1 A2 (k + 3 * j) c2 st) 81 :: BookA A2 (k + 3 * j) c2 :: Own 41 2 (.slice Ap j cp) j (pcells qs) :: DevA p s :: RefA q s :: R) S
      have HS1 := Aside0.mk S1.p2
      clear S S1 hlt
      go_wp2_with fail
      go_loopw [16] (fun i wx => ∃ (x : Nat) (xs : List Value), x ≤ j ∧ i = .int .i64 (x : Int) ∧ Sep w0 wx (Own 41 2 (.slice Ap j cp) j xs :: Blk y (playC a0 b0 a1 b1 A2 (k + 3 * j) c2 st) 81 :: BookA A2 (k + 3 * j) c2 :: DevA p s :: RefA q s :: R)) (fun i _ => j - (intOf i).toNat)
      case atStart => exact ⟨0, _, Nat.zero_le _, rfl, HS1.out⟩
      case round =>
        clear HS1
        obtain ⟨x, xs, hx, rfl, S⟩ := hrel
        by_cases hlt : x < j
        · have hlti : (x : Int) < (j : Int) := by omega
          obtain ⟨g, rfl⟩ := S.addr (by omega)
          have fr := S.row_free (by omega) (x * 2)
          have fr2 := S.row_free (by omega) (x * 2 + 1)
          have hst := (S.putm (x * 2) (.int .i64 (-7))).putm (x * 2 + 1) (.slice none 0 0)
          obtain ⟨u1, ce⟩ : ∃ u, wr.cell? ⟨g, x * 2, none⟩ = some u := ⟨_, S.valn (x * 2) (List.getElem?_eq_getElem (by rw [S.row.1]; omega))⟩
          obtain ⟨u2, ce2⟩ : ∃ u, wr.cell? ⟨g, x * 2 + 1, none⟩ = some u := ⟨_, S.valn (x * 2 + 1) (List.getElem?_eq_getElem (by rw [S.row.1]; omega))⟩
          have HST := Aside0.mk hst
          clear hst S
          go_wp2_with fail
          exact ⟨⟨x + 1, _, by omega, by go_num, HST.out⟩, by simp [intOf]; omega⟩
        · obtain rfl : x = j := by omega
          have hlti : ¬ ((x : Int) < (x : Int)) := by omega
          have S1 := S.calm (below_alloc (Below.refl _ _) (.cells #[.int .i64 (-8), .slice none 0 0, .int .i64 (-9), .slice none 0 0] 41))
          have HNE := HNP.out
          clear S hlt
          go_wp2_with ((with_reducible refine gate_builtin (b := .append) (xs := #[.tmp 131, .tmp 134]) rfl ?_); at_builtin; go_must (refine append_rows S1 rfl (.tmp 131) (.tmp 134) 31 (.agg #[.int .i64 0, .slice none 0 0]) 32 rfl Try.underlying31 info_pd' rfl (by decide) (by decide) [.int .i64 (-8), .slice none 0 0, .int .i64 (-9), .slice none 0 0] (some ⟨wr.heap.size, 0, none⟩) 2 2 rfl rfl rfl (Lies.new wr #[.int .i64 (-8), .slice none 0 0, .int .i64 (-9), .slice none 0 0] 41) ?a1 ?aL ?_); (case a1 => (intro u hu; simp only [List.mem_cons, List.not_mem_nil, or_false] at hu; rcases hu with rfl | rfl | rfl | rfl <;> rfl)); (case aL => omega); intro A8 c8 w8 S8)
          go_ret
          exact ⟨A2, k + 3 * x, by have := HNP.out; omega, by first | rfl | (simp; done), c2, S8.drop⟩
end
end Go.Proofs.Ythnbmfkmaijibaa.Sep
