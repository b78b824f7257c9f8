/- The document's own device: what its methods do. -/
import Derived.Test.YthnbmfkmaijibaaReadWalk
import Derived.Test.YthnbmfkmaijibaaSepOps
import Derived.Test.YthnbmfkmaijibaaCrashPlain
import Derived.Deep.RegionLaw
import Derived.Deep.RegionHeld3
namespace Go.Proofs.Ythnbmfkmaijibaa.Sep
open Go.Proofs Go.RowKit Go.Proofs.YthnbmfkmaijibaaW.PrintWords Go.Proofs.YthnbmfkmaijibaaW.PrintLast Go.Proofs.YthnbmfkmaijibaaW.PrintMore Go.Proofs.Ythnbmfkmaijibaa.IMap Go.Proofs.Ythnbmfkmaijibaa.Dev Go.Proofs.Ythnbmfkmaijibaa.PDeviceReads Go.Proofs.Ythnbmfkmaijibaa.Help
set_option linter.unusedVariables false
set_option linter.unusedSimpArgs false
structure RLay where
  n : Nat
  gl : Nat
  cl : Nat
  Aw : Option Addr
  m : Nat
  cw : Nat
  qs : List (Int × List Int × Value)
def RGood (s : DS) (L : RLay) : Prop := s.Ok ∧ s.n = L.n ∧ L.qs.length = L.m ∧ pairs L.qs = s.pend
def cellsR (s : DS) (L : RLay) : Array Value := #[.slice (some ⟨L.gl, 0, none⟩) (512 * L.n) L.cl, .slice L.Aw L.m L.cw, .bool s.off, .int .i64 s.fuse]
abbrev headR (p : Nat) (s : DS) (L : RLay) : List Asn := [Blk p (cellsR s L) 110, Byt (some ⟨L.gl, 0, none⟩) (512 * L.n) L.cl s.dur, Own 41 2 (.slice L.Aw L.m L.cw) L.m (pcells L.qs)]
/-- The document's device at block p. -/
def RefA (p : Nat) (s : DS) : Asn := Ex (RGood s) fun L => All (headR p s L ++ L.qs.map wdat)
section
variable {w0 w w' : World} {p : Nat} {s : DS} {R : List Asn} {L : RLay}
theorem Sep.ropen (S : Sep w0 w (RefA p s :: R)) : ∃ L, RGood s L ∧ Sep w0 w (Blk p (cellsR s L) 110 :: Byt (some ⟨L.gl, 0, none⟩) (512 * L.n) L.cl s.dur :: Own 41 2 (.slice L.Aw L.m L.cw) L.m (pcells L.qs) :: (R ++ L.qs.map wdat)) := by
  obtain ⟨L, hg, S1⟩ := S.openE
  refine ⟨L, hg, S1.openA.perm ?_⟩
  exact ((List.perm_append_comm (l₁ := L.qs.map wdat) (l₂ := R)).cons _ |>.cons _ |>.cons _)
theorem Sep.rclose (hg : RGood s L) (S : Sep w0 w (Blk p (cellsR s L) 110 :: Byt (some ⟨L.gl, 0, none⟩) (512 * L.n) L.cl s.dur :: Own 41 2 (.slice L.Aw L.m L.cw) L.m (pcells L.qs) :: (R ++ L.qs.map wdat))) : Sep w0 w (RefA p s :: R) := by
  refine Sep.closeE (f := fun L => All (headR p s L ++ L.qs.map wdat)) L hg (Sep.closeA (S.perm ?_))
  exact ((List.perm_append_comm (l₁ := R) (l₂ := L.qs.map wdat)).cons _ |>.cons _ |>.cons _)
theorem Sep.rok (S : Sep w0 w (RefA p s :: R)) : s.Ok := by
  obtain ⟨L, hg, _⟩ := S.ropen
  exact hg.1
theorem rsize_s (S : Sep w0 w (RefA p s :: R)) : Calls Try.prog 64 #[.pointer (some ⟨p, 0, none⟩)] w fun e w' => e = .returned (.int .i64 (s.n : Int)) ∧ w' = w := by
  obtain ⟨L, hg, S1⟩ := S.ropen
  have c0 := S1.cell 0 (v := .slice (some ⟨L.gl, 0, none⟩) (512 * L.n) L.cl) rfl
  have hn := hg.2.1
  have h1 := hg.1.n1
  rw [hn] at h1
  rw [hn]
  clear S S1 hg hn
  have hq : Int.tdiv (512 * (L.n : Int)) 512 = (L.n : Int) := by rw [Int.tdiv_eq_ediv_of_nonneg (by omega)]; omega
  go_enter Try.func64, Try.ntmps64
  go_wp2
  go_ret
  exact ⟨by simp, rfl⟩
theorem rpower_s (S : Sep w0 w (RefA p s :: R)) : Calls Try.prog 65 #[.pointer (some ⟨p, 0, none⟩)] w fun e w' => e = .returned (.bool (!s.off)) ∧ w' = w := by
  obtain ⟨L, hg, S1⟩ := S.ropen
  have c2 := S1.cell 2 (v := .bool s.off) rfl
  clear S S1 hg
  go_enter Try.func65, Try.ntmps65
  go_wp2
  go_ret
  exact ⟨rfl, rfl⟩
theorem rarm_s (S : Sep w0 w (RefA p s :: R)) (k : Int) (hk : k < 9223372036854775808) : Calls Try.prog 68 #[.pointer (some ⟨p, 0, none⟩), .int .i64 k] w fun e w' => e = .returned (.int .i64 (s.arm k).1) ∧ Sep w0 w' (RefA p (s.arm k).2 :: R) := by
  obtain ⟨L, hg, S1⟩ := S.ropen
  have c2 := S1.cell 2 (v := .bool s.off) rfl
  have c3 := S1.cell 3 (v := .int .i64 s.fuse) rfl
  have f3 := S1.free 3
  have HS := Aside0.mk S
  have HS1 := Aside0.mk S1
  have HG := Aside0.mk hg
  clear S S1 hg
  go_enter Try.func68, Try.ntmps68
  by_cases h0 : k < 0
  · have e : s.arm k = (1, s) := by simp [DS.arm, h0]
    have HE := Aside0.mk e
    clear e
    go_wp2
    go_ret
    rw [HE.out]
    exact ⟨rfl, HS.out⟩
  · cases ho : s.off with
    | true =>
      have e : s.arm k = (3, s) := by simp [DS.arm, h0, ho]
      have HE := Aside0.mk e
      clear e
      rw [ho] at c2
      go_wp2
      go_ret
      rw [HE.out]
      exact ⟨rfl, HS.out⟩
    | false =>
      have e : s.arm k = (0, { s with fuse := k }) := by unfold DS.arm; rw [if_neg h0, ho, if_neg (by simp)]
      have HE := Aside0.mk e
      have ho' := Aside0.mk ho
      clear e
      rw [ho] at c2
      clear ho
      have S2 := HS1.out.set 3 (.int .i64 k)
      have HS2 := Aside0.mk S2
      clear S2
      go_wp2
      go_ret
      rw [HE.out]
      have h := HG.out
      have hok : DS.Ok { s with fuse := k } := ⟨h.1.n0, h.1.n1, h.1.len, h.1.pend, by simp; omega, by simp; omega⟩
      exact ⟨rfl, Sep.rclose (s := { s with fuse := k }) ⟨hok, h.2.1, h.2.2.1, h.2.2.2⟩ HS2.out⟩
theorem fails_s (S : Sep w0 w (RefA p s :: R)) : Calls Try.prog 73 #[.pointer (some ⟨p, 0, none⟩)] w fun e w' => e = .returned (.bool (!s.powered.1)) ∧ Sep w0 w' (RefA p s.powered.2 :: R) := by
  obtain ⟨L, hg, S1⟩ := S.ropen
  have c2 := S1.cell 2 (v := .bool s.off) rfl
  have c3 := S1.cell 3 (v := .int .i64 s.fuse) rfl
  have f2 := S1.free 2
  have f3 := S1.free 3
  have h0 := hg.1.fuse0
  have h1 := hg.1.fuse1
  have HS := Aside0.mk S
  have HS1 := Aside0.mk S1
  have HG := Aside0.mk hg
  clear S S1 hg
  go_enter Try.func73, Try.ntmps73
  cases ho : s.off with
  | true =>
    have HE : Aside0 (s.powered = (false, s)) := ⟨by simp [DS.powered, ho]⟩
    rw [ho] at c2
    clear ho
    go_wp2
    go_ret
    rw [HE.out]
    exact ⟨rfl, HS.out⟩
  | false =>
    rw [ho] at c2
    by_cases hf : s.fuse > 0
    · have HE : Aside0 (s.powered = (!(s.fuse - 1 == 0), { s with fuse := s.fuse - 1, off := s.fuse - 1 == 0 })) := ⟨by simp [DS.powered, ho, hf]⟩
      clear ho
      have hw : IntKind.i64.wrap (s.fuse - 1) = s.fuse - 1 := by rw [IntKind.wrap_i64]; omega
      have S2 := (HS1.out.set 3 (.int .i64 (s.fuse - 1))).set 2 (.bool (s.fuse - 1 == 0))
      have HS2 := Aside0.mk S2
      clear S2
      go_wp2
      go_ret
      rw [HE.out]
      have h := HG.out
      have hok : DS.Ok { s with fuse := s.fuse - 1, off := s.fuse - 1 == 0 } := ⟨h.1.n0, h.1.n1, h.1.len, h.1.pend, by simp; omega, by simp; omega⟩
      exact ⟨by simp, Sep.rclose (s := { s with fuse := s.fuse - 1, off := s.fuse - 1 == 0 }) ⟨hok, h.2.1, h.2.2.1, h.2.2.2⟩ HS2.out⟩
    · have HE : Aside0 (s.powered = (true, s)) := ⟨by unfold DS.powered; rw [ho, if_neg (by simp), if_neg (by omega)]⟩
      clear ho
      go_wp2
      go_ret
      rw [HE.out]
      exact ⟨rfl, HS.out⟩
end
end Go.Proofs.Ythnbmfkmaijibaa.Sep
/- The document's own device: New, Image, Durable, Read. -/
namespace Go.Proofs.Ythnbmfkmaijibaa.Sep
open Go.Proofs Go.RowKit Go.Proofs.YthnbmfkmaijibaaW.PrintWords Go.Proofs.YthnbmfkmaijibaaW.PrintLast Go.Proofs.YthnbmfkmaijibaaW.PrintMore Go.Proofs.Ythnbmfkmaijibaa.IMap Go.Proofs.Ythnbmfkmaijibaa.Dev Go.Proofs.Ythnbmfkmaijibaa.PDeviceReads Go.Proofs.Ythnbmfkmaijibaa.Help
set_option linter.unusedVariables false
set_option linter.unusedSimpArgs false
section
variable {w0 w w' : World} {p : Nat} {s : DS} {R : List Asn} {L : RLay}
set_option maxRecDepth 100000 in
theorem rdurable_s (S : Sep w0 w (RefA p s :: R)) : Calls Try.prog 38 #[.pointer (some ⟨p, 0, none⟩)] w fun e w' => ∃ A c, e = .returned (.slice A s.dur.length c) ∧ Sep w0 w' (Byt A s.dur.length c s.dur :: RefA p s :: R) := by
  obtain ⟨L, hg, S1⟩ := S.ropen
  have c0 := S1.cell 0 (v := .slice (some ⟨L.gl, 0, none⟩) (512 * L.n) L.cl) rfl
  have hr := S1.p1.reads
  have hdl := S1.p1.len
  have h1 := hg.1.n1
  rw [hg.2.1] at h1
  have HS := Aside0.mk S
  have HR := Aside0.mk hr
  clear S S1 hg hr
  rw [hdl]
  clear hdl
  go_enter Try.func38, Try.ntmps38
  go_wp2_with ((with_reducible refine gate_builtin (b := .append) (xs := #[.const (.slice none 0 0), .tmp 6]) rfl ?_); at_builtin; go_must (refine append_row (k := .u8) (xs := []) (HS.out.nils 5 1) rfl (.const (.slice none 0 0)) (.tmp 6) 29 1 rfl Try.underlying29 Dev.info5 (by decide) s.dur (some ⟨L.gl, 0, none⟩) (512 * L.n) L.cl rfl rfl HR.out ?aL ?_); (case aL => omega); intro A1 c1 w1 S1)
  go_ret
  rw [Nat.zero_add, List.nil_append] at S1
  exact ⟨A1, c1, rfl, S1⟩
theorem rnew_no (n : Int) (h : n < 1 ∨ n > 4096) (w : World) : Calls Try.prog 35 #[.int .i64 n] w fun e w' => e = .returned (.pointer none) ∧ w' = w := by
  go_enter Try.func35, Try.ntmps35
  by_cases h1 : n < 1
  · go_wp2
    go_ret
    exact ⟨rfl, rfl⟩
  · have h2 : n > 4096 := h.resolve_left h1
    go_wp2
    go_ret
    exact ⟨rfl, rfl⟩
theorem made_ref {d : List Int} {n gl cl : Nat} (h0 : 1 ≤ n) (h1 : n ≤ 4096) (hl : d.length = 512 * n) (S : Sep w0 w (Blk p #[.slice (some ⟨gl, 0, none⟩) (512 * n) cl, .slice none 0 0, .bool false, .int .i64 0] 110 :: Byt (some ⟨gl, 0, none⟩) (512 * n) cl d :: R)) : Sep w0 w (RefA p (DS.made d) :: R) := by
  have hn : (DS.made d).n = n := by
    show d.length / 512 = n
    omega
  refine Sep.rclose (L := ⟨n, gl, cl, none, 0, 0, []⟩) ⟨made_ok h0 h1 hl, hn, rfl, rfl⟩ ?_
  rw [List.map_nil, List.append_nil]
  exact (S.nils 41 2).p2.p2
set_option maxRecDepth 100000 in
theorem rnew_s (S : Sep w0 w R) (n : Nat) (h0 : 1 ≤ n) (h1 : n ≤ 4096) : Calls Try.prog 35 #[.int .i64 (n : Int)] w fun e w' => ∃ q, e = .returned (.pointer (some ⟨q, 0, none⟩)) ∧ Sep w0 w' (RefA q (DS.made (List.replicate (512 * n) 0)) :: R) := by
  have hw : IntKind.i64.wrap (512 * (n : Int)) = ((512 * n : Nat) : Int) := by rw [IntKind.wrap_i64]; omega
  have hmk := print_make (P := Try.prog) 29 5 .u8 1 Try.underlying29 Dev.info5 (by decide) (512 * n) (by omega)
  have hmk2 : ∀ W : World, (Instr.makeSlice 29 (.int .i64 (512 * (n : Int))) (.int .i64 (512 * (n : Int)))).run Try.prog W = .ok (.slice (some ⟨W.heap.size, 0, none⟩) (512 * n) (512 * n)) (W.alloc (.cells (madeCells #[.int .u8 0] (512 * n)) 5)) := fun W => by simpa using hmk W
  clear hmk
  have hg1 : ¬ (n : Int) < 1 := by omega
  have hg2 : ¬ (n : Int) > 4096 := by omega
  have HS := Aside0.mk ((S.row_new (below_alloc (Below.refl _ _) _) (own_made w w.heap.size 5 .u8 (512 * n) (Nat.le_refl _) (by omega))).alloc #[.slice (some ⟨w.heap.size, 0, none⟩) (512 * n) (512 * n), .slice none 0 0, .bool false, .int .i64 0] 110)
  clear S
  go_enter Try.func35, Try.ntmps35
  go_wp2
  go_ret
  refine ⟨w.heap.size + 1, rfl, ?_⟩
  have h := HS.out
  rw [show (w.alloc (.cells (madeCells #[.int .u8 0] (512 * n)) 5)).heap.size = w.heap.size + 1 from World.size_alloc ..] at h
  exact made_ref h0 h1 List.length_replicate h
def RImageP (d : List Int) (w0 : World) (R : List Asn) (e : Ending) (w' : World) : Prop := if fit d then ∃ q, e = .returned (.tuple #[.pointer (some ⟨q, 0, none⟩), .int .i64 0]) ∧ Sep w0 w' (RefA q (DS.made d) :: R) else e = .returned (.tuple #[.pointer none, .int .i64 51]) ∧ Sep w0 w' R
set_option maxRecDepth 100000 in
set_option maxHeartbeats 1000000 in
theorem rimage_s (S : Sep w0 w R) (A : Option Addr) (c : Nat) (d : List Int) (hr : ReadsInt w .u8 A d.length d) : Calls Try.prog 37 #[.slice A d.length c] w (RImageP d w0 R) := by
  have hd63 : d.length ≤ 9223372036854775807 := hr.2.1
  have hq : Int.tdiv (d.length : Int) 512 = ((d.length / 512 : Nat) : Int) := by rw [Int.tdiv_eq_ediv_of_nonneg (by omega)]; omega
  have hm : Int.tmod (d.length : Int) 512 = ((d.length % 512 : Nat) : Int) := by rw [Int.tmod_eq_emod_of_nonneg (by omega)]; omega
  have hw1 : wrap64 ((d.length / 512 : Nat) : Int) = ((d.length / 512 : Nat) : Int) := by unfold wrap64; omega
  have hw2 : wrap64 ((d.length % 512 : Nat) : Int) = ((d.length % 512 : Nat) : Int) := by unfold wrap64; omega
  have HS := Aside0.mk S
  have HR := Aside0.mk hr
  clear S hr
  go_enter Try.func37, Try.ntmps37
  cases hf : fit d with
  | false =>
    have HN : Aside0 (RImageP d w0 R (.returned (.tuple #[.pointer none, .int .i64 51])) w) := ⟨by unfold RImageP; rw [hf, if_neg (by simp)]; exact ⟨rfl, HS.out⟩⟩
    by_cases g1 : (d.length : Int) % 512 = 0
    · by_cases g2 : (d.length : Int) / 512 < 1
      · have d2 : decide ((d.length : Int) / 512 < 1) = true := decide_eq_true g2
        go_wp2
        go_ret2
        exact HN.out
      · have d2 : decide ((d.length : Int) / 512 < 1) = false := decide_eq_false g2
        have d3 : decide (4096 < (d.length : Int) / 512) = true := decide_eq_true (by
          have := hf
          simp only [fit, Bool.and_eq_false_iff, decide_eq_false_iff_not] at this
          omega)
        go_wp2
        go_ret2
        exact HN.out
    · have d1 : ((d.length : Int) % 512 != 0) = true := bne_iff_ne.2 g1
      go_wp2
      go_ret2
      exact HN.out
  | true =>
    have hok := fit_ok hf
    have hfit := Aside0.mk hf
    have hlen : d.length ≤ 140737488355328 := by have := hok.len; have := hok.n1; have e : (DS.made d).dur.length = d.length := rfl; omega
    have hn0 := hok.n0
    have hn1 := hok.n1
    simp only [fit, Bool.and_eq_true, decide_eq_true_eq] at hf
    have g1 : (d.length : Int) % 512 = 0 := by omega
    have g2 : ¬ ((d.length : Int) / 512 < 1) := by omega
    have g2' : 1 ≤ ((d.length : Int) / 512) := by omega
    have g3 : ¬ (4096 < (d.length : Int) / 512) := by omega
    have g3' : ((d.length : Int) / 512) ≤ 4096 := by omega
    have d2 : decide ((d.length : Int) / 512 < 1) = false := decide_eq_false g2
    have d3 : decide (4096 < (d.length : Int) / 512) = false := decide_eq_false g3
    go_wp2_with ((with_reducible refine gate_builtin (b := .append) (xs := #[.const (.slice none 0 0), .tmp 20]) rfl ?_); at_builtin; go_must (refine append_row (k := .u8) (xs := []) (HS.out.nils 5 1) rfl (.const (.slice none 0 0)) (.tmp 20) 29 1 rfl Try.underlying29 Dev.info5 (by decide) d A d.length c rfl rfl HR.out ?aL ?_); (case aL => omega); intro A1 c1 w1 S1)
    rw [Nat.zero_add, List.nil_append] at S1
    obtain ⟨g, rfl⟩ := S1.addr (by omega)
    have e512 : d.length = 512 * (d.length / 512) := by omega
    have S2 := S1.alloc #[.slice (some ⟨g, 0, none⟩) d.length c1, .slice none 0 0, .bool false, .int .i64 0] 110
    go_ret2
    unfold RImageP
    rw [hfit.out, if_pos rfl]
    refine ⟨_, rfl, ?_⟩
    refine made_ref (n := d.length / 512) (gl := g) (cl := c1) (by omega) (by omega) e512 ?_
    rw [← e512]
    exact S2
theorem find_last {ps : List (Int × List Int)} {b : Int} {j : Nat} {x : Int × List Int} (hx : ps[j]? = some x) (hb : x.1 = b) (h : ∀ (i : Nat) (y : Int × List Int), j < i → ps[i]? = some y → y.1 ≠ b) : ps.reverse.find? (fun x => x.1 == b) = some x := by
  have hj : j < ps.length := (List.getElem?_eq_some_iff.1 hx).1
  have e : ps = ps.take j ++ (x :: ps.drop (j + 1)) := by
    have h1 : ps.drop j = x :: ps.drop (j + 1) := by rw [List.drop_eq_getElem_cons hj]; rw [List.getElem?_eq_getElem hj] at hx; rw [Option.some.inj hx]
    rw [← h1, List.take_append_drop]
  rw [e, List.reverse_append, List.reverse_cons, List.append_assoc, List.find?_append]
  have h2 : (ps.drop (j + 1)).reverse.find? (fun x => x.1 == b) = none := by
    rw [List.find?_eq_none]
    intro y hy
    obtain ⟨i, hi⟩ := List.mem_iff_getElem?.1 (List.mem_reverse.1 hy)
    rw [List.getElem?_drop] at hi
    have := h (j + 1 + i) y (by omega) hi
    simpa using this
  rw [h2]
  simp [hb]
theorem find_no {ps : List (Int × List Int)} {b : Int} (h : ∀ (i : Nat) (y : Int × List Int), ps[i]? = some y → y.1 ≠ b) : ps.reverse.find? (fun x => x.1 == b) = none := by
  rw [List.find?_eq_none]
  intro y hy
  obtain ⟨i, hi⟩ := List.mem_iff_getElem?.1 (List.mem_reverse.1 hy)
  simpa using h i y hi
end
end Go.Proofs.Ythnbmfkmaijibaa.Sep
/- The document's own device: Read. -/
namespace Go.Proofs.Ythnbmfkmaijibaa.Sep
open Go.Proofs Go.RowKit Go.Proofs.YthnbmfkmaijibaaW.PrintWords Go.Proofs.YthnbmfkmaijibaaW.PrintLast Go.Proofs.YthnbmfkmaijibaaW.PrintMore Go.Proofs.Ythnbmfkmaijibaa.IMap Go.Proofs.Ythnbmfkmaijibaa.Dev Go.Proofs.Ythnbmfkmaijibaa.PDeviceReads Go.Proofs.Ythnbmfkmaijibaa.Help
set_option linter.unusedVariables false
set_option linter.unusedSimpArgs false
section
variable {w0 w w' : World} {p : Nat} {s : DS} {R : List Asn}
def ReadP (s : DS) (b : Int) (w0 : World) (p : Nat) (R : List Asn) (e : Ending) (w' : World) : Prop := ∃ A c, e = .returned (.tuple #[.slice A (s.read b).1.length c, .int .i64 (s.read b).2]) ∧ Sep w0 w' (Byt A (s.read b).1.length c (s.read b).1 :: RefA p s :: R)
theorem readP_nil {b k : Int} (h : s.read b = ([], k)) (S : Sep w0 w (RefA p s :: R)) : ReadP s b w0 p R (.returned (.tuple #[.slice none 0 0, .int .i64 k])) w := by
  unfold ReadP
  rw [h]
  exact ⟨none, 0, rfl, S.nils 5 1⟩
set_option maxHeartbeats 4000000 in
set_option maxRecDepth 100000 in
theorem rread_no (S : Sep w0 w (RefA p s :: R)) (b : Int) (hb : s.hasB b = false) : Calls Try.prog 62 #[.pointer (some ⟨p, 0, none⟩), .int .i64 b] w (ReadP s b w0 p R) := by
  have hr : s.read b = ([], 52) := by unfold DS.read; rw [hb]; rfl
  have HP := Aside0.mk (readP_nil hr S)
  have hsz := rsize_s S
  have h1 : b < 0 ∨ (¬ b < 0 ∧ b ≥ (s.n : Int)) := by
    unfold DS.hasB at hb
    simp only [Bool.and_eq_false_iff, decide_eq_false_iff_not] at hb
    omega
  clear S hb hr
  go_enter Try.func62, Try.ntmps62
  rcases h1 with h1 | ⟨h1, h2⟩
  · go_wp2
    go_ret2
    exact HP.out
  · go_wp2_with fail
    refine hsz.mono ?_
    rintro e w' ⟨rfl, rfl⟩
    go_wp2
    go_ret2
    exact HP.out
set_option maxHeartbeats 4000000 in
set_option maxRecDepth 100000 in
theorem rread_off (S : Sep w0 w (RefA p s :: R)) (b : Int) (hb : s.hasB b = true) (ho : s.off = true) : Calls Try.prog 62 #[.pointer (some ⟨p, 0, none⟩), .int .i64 b] w (ReadP s b w0 p R) := by
  have hr : s.read b = ([], 3) := by unfold DS.read; rw [hb, ho]; rfl
  have HP := Aside0.mk (readP_nil hr S)
  have hsz := rsize_s S
  obtain ⟨L, hg, S1⟩ := S.ropen
  have c2 := S1.cell 2 (v := .bool s.off) rfl
  rw [ho] at c2
  unfold DS.hasB at hb
  simp only [Bool.and_eq_true, decide_eq_true_eq] at hb
  have h1 : ¬ b < 0 := by omega
  have h2 : ¬ b ≥ (s.n : Int) := by omega
  clear S S1 hb hr ho hg
  go_enter Try.func62, Try.ntmps62
  go_wp2_with fail
  refine hsz.mono ?_
  clear hsz
  rintro e w' ⟨rfl, rfl⟩
  go_wp2
  go_ret2
  exact HP.out
set_option maxHeartbeats 4000000 in
set_option maxRecDepth 100000 in
theorem rread_on (S : Sep w0 w (RefA p s :: R)) (b : Int) (hb : s.hasB b = true) (ho : s.off = false) (hp : s.pend.length ≤ 1000000000) : Calls Try.prog 62 #[.pointer (some ⟨p, 0, none⟩), .int .i64 b] w (ReadP s b w0 p R) := by
  have hr : s.read b = ((s.lastD b).getD (s.blk b), 0) := by unfold DS.read; rw [hb, ho]; rfl
  have HRD := Aside0.mk hr
  have hsz := rsize_s S
  have HSS := Aside0.mk S
  obtain ⟨L, hg, S1⟩ := S.ropen
  have c2 := S1.cell 2 (v := .bool s.off) rfl
  have c1 := S1.cell 1 (v := .slice L.Aw L.m L.cw) rfl
  have c0 := S1.cell 0 (v := .slice (some ⟨L.gl, 0, none⟩) (512 * L.n) L.cl) rfl
  rw [ho] at c2
  unfold DS.hasB at hb
  simp only [Bool.and_eq_true, decide_eq_true_eq] at hb
  have h1 : ¬ b < 0 := by omega
  have h2 : ¬ b ≥ (s.n : Int) := by omega
  have hbn := hb.2
  have HG := Aside0.mk hg
  have hm : L.m ≤ 1000000000 := by
    have e1 := hg.2.2.1
    have e2 := congrArg List.length hg.2.2.2
    rw [List.length_map] at e2
    omega
  have HS := Aside0.mk S1
  clear S S1 hb hr ho hg hp
  go_enter Try.func62, Try.ntmps62
  go_wp2_with fail
  refine hsz.mono ?_
  clear hsz
  rintro e w' ⟨rfl, rfl⟩
  go_wp2
  go_loop [6] (fun i => ∃ j : Nat, j ≤ L.m ∧ i = .int .i64 ((j : Int) - 1) ∧ Aside0 (∀ i' y, j ≤ i' → s.pend[i']? = some y → y.1 ≠ b)) (fun i => (intOf i + 1).toNat)
  case atStart =>
    refine ⟨L.m, Nat.le_refl _, rfl, ⟨fun i' y h1 h2 => ?_⟩⟩
    have e1 := HG.out.2.2.1
    have e2 := congrArg List.length HG.out.2.2.2
    rw [List.length_map] at e2
    have := (List.getElem?_eq_some_iff.1 h2).1
    omega
  case round =>
    obtain ⟨j, hj, rfl, HJ⟩ := hrel
    by_cases hj0 : 0 < j
    · obtain ⟨j', rfl⟩ : ∃ j', j = j' + 1 := ⟨j - 1, by omega⟩
      have hjq : j' < L.qs.length := by rw [HG.out.2.2.1]; omega
      have ej : ((j' + 1 : Nat) : Int) - 1 = (j' : Int) := by omega
      rw [ej]
      have hpj : s.pend[j']? = some (L.qs[j'].1, L.qs[j'].2.1) := by
        rw [← HG.out.2.2.2, List.getElem?_map, List.getElem?_eq_getElem hjq]
        rfl
      have hx : L.qs[j']? = some L.qs[j'] := List.getElem?_eq_getElem hjq
      obtain ⟨gw, hgw⟩ := HS.out.p2.addr (A := L.Aw) (by omega)
      rw [hgw] at c1
      have x0 := HS.out.p2.row.cells (g := gw) (by rw [hgw]; rfl) _ _ (pcells_at hx).1
      have x1 := HS.out.p2.row.cells (g := gw) (by rw [hgw]; rfl) _ _ (pcells_at hx).2
      rw [add_plain] at x0 x1
      have hj63 : (j' : Int) < (L.m : Int) := by omega
      have hj0' : (j' : Int) ≥ 0 := by omega
      by_cases hbb : L.qs[j'].1 = b
      · have hf : s.lastD b = some L.qs[j'].2.1 := by
          unfold DS.lastD
          rw [find_last hpj hbb fun i y hi hy => HJ.out i y hi hy]
          rfl
        have S2 : Sep w0 _ (wdat L.qs[j'] :: _) := HS.out.focus (f := wdat) (R := Blk p (cellsR s L) 110 :: Byt (some ⟨L.gl, 0, none⟩) (512 * L.n) L.cl s.dur :: Own 41 2 (.slice L.Aw L.m L.cw) L.m (pcells L.qs) :: R) j' hjq
        have S3 : Sep w0 _ (Own 5 1 L.qs[j'].2.2 512 (nums .u8 L.qs[j'].2.1) :: _) := S2
        obtain ⟨A1, cc, e1⟩ := own_slice S3.row
        rw [e1] at x1 S3
        have hrd := S3.reads
        have hle : L.qs[j'].2.1.length = 512 := S3.len
        rw [hbb] at x0
        obtain ⟨dd, hdd⟩ : ∃ dd, dd = L.qs[j'].2.1 := ⟨_, rfl⟩
        rw [← hdd] at hrd hle hf
        have HF := Aside0.mk (And.intro hf hle)
        have HRR := Aside0.mk hrd
        clear S2 S3 hf hle hrd hdd e1 hx hpj hgw ej
        go_wp2_with ((with_reducible refine gate_builtin (b := .append) (xs := #[.const (.slice none 0 0), .tmp 46]) rfl ?_); at_builtin; go_must (refine append_row (k := .u8) (xs := []) (HSS.out.nils 5 1) rfl (.const (.slice none 0 0)) (.tmp 46) 29 1 rfl Try.underlying29 Dev.info5 (by decide) dd A1 512 cc rfl rfl HRR.out ?aL ?_); (case aL => omega); intro A2 c2' w2 S2)
        go_ret2
        unfold ReadP
        rw [HRD.out, HF.out.1]
        show ∃ A c, _ = _ ∧ Sep w0 _ (Byt A dd.length c dd :: _)
        rw [show (Option.getD (some dd) (s.blk b), (0 : Int)).1 = dd from rfl, HF.out.2]
        rw [Nat.zero_add, List.nil_append] at S2
        exact ⟨A2, c2', rfl, S2⟩
      · clear hx hgw ej
        go_wp2
        go_round
        case rel => exact ⟨j', by omega, by go_num, ⟨fun i' y h1 h2 => by
          by_cases e : i' = j'
          · rw [e, hpj] at h2
            cases h2
            exact hbb
          · exact HJ.out i' y (by omega) h2⟩⟩
        case measure => first | (simp [intOf]; done) | (simp [intOf]; omega)
    · obtain rfl : j = 0 := by omega
      have hf : s.lastD b = none := by
        unfold DS.lastD
        rw [find_no fun i y hi => HJ.out i y (Nat.zero_le _) hi]
        rfl
      obtain ⟨bn, rfl⟩ : ∃ bn : Nat, b = (bn : Int) := ⟨b.toNat, by omega⟩
      have hL : bn < L.n := by have := HG.out.2.1; omega
      have hL2 : L.n ≤ 4096 := by have := HG.out.2.1; have := HG.out.1.n1; omega
      have hpt := HS.out.p1.part (512 * bn) 512 (by omega)
      have hcap := HS.out.p1.cap
      have hlen : ((s.dur.drop (512 * bn)).take 512).length = 512 := hpt.1
      obtain ⟨dd, hdd⟩ : ∃ dd, dd = (s.dur.drop (512 * bn)).take 512 := ⟨_, rfl⟩
      have hbk : s.blk (bn : Int) = dd := by
        rw [hdd]
        unfold DS.blk
        rw [Int.toNat_natCast, Nat.mul_comm]
      rw [← hdd] at hpt hlen
      have HF := Aside0.mk (And.intro hf (And.intro hlen hbk))
      have HRR := Aside0.mk hpt
      clear hf hpt hlen hbk hdd
      have e512 : 512 * (bn + 1) - 512 * bn = 512 := by omega
      have HR2 : Aside0 (ReadsInt w' .u8 (some ⟨L.gl, 512 * bn, none⟩) (512 * (bn + 1) - 512 * bn) dd) := by rw [e512]; exact HRR
      have HE := Aside0.mk e512
      clear HRR e512
      go_wp2_with ((with_reducible refine gate_builtin (b := .append) (xs := #[.const (.slice none 0 0), .tmp 57]) rfl ?_); at_builtin; go_must (refine append_row (k := .u8) (xs := []) (HSS.out.nils 5 1) rfl (.const (.slice none 0 0)) (.tmp 57) 29 1 rfl Try.underlying29 Dev.info5 (by decide) dd (some ⟨L.gl, 512 * bn, none⟩) (512 * (bn + 1) - 512 * bn) (L.cl - 512 * bn) rfl rfl HR2.out ?aL ?_); (case aL => omega); intro A2 c2' w2 S2)
      go_ret2
      rw [HE.out, Nat.zero_add, List.nil_append] at S2
      rw [HE.out]
      unfold ReadP
      rw [HRD.out, HF.out.1, HF.out.2.2]
      show ∃ A c, _ = _ ∧ Sep w0 _ (Byt A dd.length c dd :: _)
      rw [show (Option.getD (none : Option (List Int)) dd, (0 : Int)).1 = dd from rfl, HF.out.2.1]
      exact ⟨A2, c2', rfl, S2⟩
theorem rread_s (S : Sep w0 w (RefA p s :: R)) (b : Int) (hp : s.pend.length ≤ 1000000000) : Calls Try.prog 62 #[.pointer (some ⟨p, 0, none⟩), .int .i64 b] w (ReadP s b w0 p R) := by
  cases hb : s.hasB b with
  | false => exact rread_no S b hb
  | true =>
    cases ho : s.off with
    | true => exact rread_off S b hb ho
    | false => exact rread_on S b hb ho hp
end
end Go.Proofs.Ythnbmfkmaijibaa.Sep
/- append(v, ys...) of whole numbers as a step of a drawn region. -/
namespace Go.Proofs.Ythnbmfkmaijibaa.Sep
open Go.Proofs Go.RowKit Go.Proofs.YthnbmfkmaijibaaW.PrintWords Go.Proofs.YthnbmfkmaijibaaW.PrintLast Go.Proofs.YthnbmfkmaijibaaW.PrintMore Go.Proofs.Ythnbmfkmaijibaa.Dev
set_option linter.unusedVariables false
set_option linter.unusedSimpArgs false
section
variable {P : Program} {ops : Array Oper} {o : Oper} {a : Act} {Q : Exit → Act → World → Prop} {w0 W : World} {R : List Asn}
theorem append_row_step {K : Act → World → Prop} {E : Prop} {e : TypeId} {k : IntKind} {n : Nat} {v : Value} {xs : List Int} (S : Sep w0 W (Own e 1 v n (nums k xs) :: R)) (hgd : o.guard = none) (s x : Operand) (t : TypeId) (bytes : Nat)
    (ho : o.op = .call { callee := .builtin .append, args := #[s, x], argTypes := #[t, t] })
    (ht : P.underlying t = some (.slice e)) (hinfo : (P.info? e).map (fun i => (i.zero, i.size, i.bytes)) = some (some (.int k 0), 1, bytes)) (hb0 : 0 < bytes)
    (ys : List Int) (A : Option Addr) (m c : Nat) (hs : a.eval s = v) (hx : a.eval x = .slice A m c) (HR : ReadsInt W k A m ys) (h0 : 0 < m) (hl : (n + m) * bytes ≤ 140737488355328)
    (h : ∀ A1 c1 w1, Sep w0 w1 (Own e 1 (.slice A1 (n + m) c1) (n + m) (nums k (xs ++ ys)) :: R) → K (a.put o.dst (.slice A1 (n + m) c1)) w1) :
    if Region.wanted o (yielded ops a.tmps) = true then Oper.wp P o a W K Q else E := by
  have hw : Region.wanted o (yielded ops a.tmps) = true := by simp [Region.wanted, hgd]
  rw [if_pos hw]
  obtain ⟨F, hF, _⟩ := S.hd
  obtain ⟨i0, hi, hzz⟩ := Option.map_eq_some_iff.1 hinfo
  simp only [Prod.mk.injEq] at hzz
  obtain ⟨hz0, hz1, hz2⟩ := hzz
  obtain ⟨hm1, hm2, hm3⟩ := HR
  obtain ⟨ad, rfl, hcell⟩ := hm3 h0
  have hlen : n + m ≤ 140737488355328 := Nat.le_trans (Nat.le_mul_of_pos_right _ hb0) hl
  obtain ⟨v1, w1, hrun, hown, hg, _, hat⟩ := run_append_own_at (P := P) W 0 t o.type e i0 (.int k 0) 1 bytes ht hi hz0 hz1 hz2 rfl (by decide) v n (nums k xs) hF.1 ad m c (nums k ys) (by simp [nums, hm1])
    (fun j u hj => by
      unfold nums at hj
      rw [List.getElem?_map] at hj
      obtain ⟨y, hy, rfl⟩ := Option.map_eq_some_iff.1 hj
      have hlt := (List.getElem?_eq_some_iff.1 hy).1
      have := hcell j (by omega)
      rw [List.getD_eq_getElem?_getD, hy] at this
      exact this) (fun u hu => by
      unfold nums at hu
      obtain ⟨y, _, rfl⟩ := List.mem_map.1 hu
      rfl) (by simp only [maxLen]; omega) hl (Nat.zero_le _)
  obtain ⟨A1, c1, rfl⟩ := own_slice hown
  unfold Oper.wp
  simp [execOp, ho, resolve, invoke, builtin, hs, hx, hrun, Result.andThen]
  have e1 : nums k (xs ++ ys) = nums k xs ++ nums k ys := by simp [nums]
  refine h A1 c1 w1 ?_
  rw [e1]
  exact S.grown hown hg (hat.imp id fun q => ⟨_, q, Nat.le_refl _⟩)
end
end Go.Proofs.Ythnbmfkmaijibaa.Sep
/- The document's own device: Write where nothing is written. -/
namespace Go.Proofs.Ythnbmfkmaijibaa.Sep
open Go.Proofs Go.RowKit Go.Proofs.YthnbmfkmaijibaaW.PrintWords Go.Proofs.YthnbmfkmaijibaaW.PrintLast Go.Proofs.YthnbmfkmaijibaaW.PrintMore Go.Proofs.Ythnbmfkmaijibaa.IMap Go.Proofs.Ythnbmfkmaijibaa.Dev Go.Proofs.Ythnbmfkmaijibaa.PDeviceReads Go.Proofs.Ythnbmfkmaijibaa.Help
set_option linter.unusedVariables false
set_option linter.unusedSimpArgs false
section
variable {w0 w w' : World} {p : Nat} {s : DS} {R : List Asn}
set_option maxHeartbeats 4000000 in
set_option maxRecDepth 100000 in
theorem rwrite_no {A : Option Addr} {n c : Nat} (S : Sep w0 w (RefA p s :: R)) (b : Int) (hb : s.hasB b = false) : Calls Try.prog 66 #[.pointer (some ⟨p, 0, none⟩), .int .i64 b, .slice A n c] w fun e w' => e = .returned (.int .i64 52) ∧ Sep w0 w' (RefA p s :: R) := by
  have HP := Aside0.mk S
  have hsz := rsize_s S
  have h1 : b < 0 ∨ (¬ b < 0 ∧ b ≥ (s.n : Int)) := by
    unfold DS.hasB at hb
    simp only [Bool.and_eq_false_iff, decide_eq_false_iff_not] at hb
    omega
  clear S hb
  go_enter Try.func66, Try.ntmps66
  rcases h1 with h1 | ⟨h1, h2⟩
  · go_wp2
    go_ret
    exact ⟨rfl, HP.out⟩
  · go_wp2_with fail
    refine hsz.mono ?_
    clear hsz
    rintro e w' ⟨rfl, rfl⟩
    go_wp2
    go_ret
    exact ⟨rfl, HP.out⟩
set_option maxHeartbeats 4000000 in
set_option maxRecDepth 100000 in
theorem rwrite_len {A : Option Addr} {n c : Nat} (S : Sep w0 w (RefA p s :: R)) (b : Int) (hb : s.hasB b = true) (hn : n ≠ 512) : Calls Try.prog 66 #[.pointer (some ⟨p, 0, none⟩), .int .i64 b, .slice A n c] w fun e w' => e = .returned (.int .i64 53) ∧ Sep w0 w' (RefA p s :: R) := by
  have HP := Aside0.mk S
  have hsz := rsize_s S
  unfold DS.hasB at hb
  simp only [Bool.and_eq_true, decide_eq_true_eq] at hb
  have h1 : ¬ b < 0 := by omega
  have h2 : ¬ b ≥ (s.n : Int) := by omega
  have hn' : ¬ ((n : Int) = 512) := by omega
  clear S hb
  go_enter Try.func66, Try.ntmps66
  go_wp2_with fail
  refine hsz.mono ?_
  clear hsz
  rintro e w' ⟨rfl, rfl⟩
  go_wp2
  go_ret
  exact ⟨rfl, HP.out⟩
set_option maxHeartbeats 4000000 in
set_option maxRecDepth 100000 in
theorem rwrite_fail {A : Option Addr} {c : Nat} (S : Sep w0 w (RefA p s :: R)) (b : Int) (hb : s.hasB b = true) (hp : s.powered.1 = false) : Calls Try.prog 66 #[.pointer (some ⟨p, 0, none⟩), .int .i64 b, .slice A 512 c] w fun e w' => e = .returned (.int .i64 3) ∧ Sep w0 w' (RefA p s.powered.2 :: R) := by
  have hsz := rsize_s S
  have P := fails_s S
  rw [hp] at P
  have HP := Aside0.mk P
  unfold DS.hasB at hb
  simp only [Bool.and_eq_true, decide_eq_true_eq] at hb
  have h1 : ¬ b < 0 := by omega
  have h2 : ¬ b ≥ (s.n : Int) := by omega
  clear S hb P
  go_enter Try.func66, Try.ntmps66
  go_wp2_with fail
  refine hsz.mono ?_
  clear hsz
  rintro e w' ⟨rfl, rfl⟩
  go_wp2_with fail
  refine HP.out.mono ?_
  clear HP
  rintro e w2 ⟨rfl, S⟩
  have HS := Aside0.mk S
  clear S
  go_wp2
  go_ret
  exact ⟨rfl, HS.out⟩
end
end Go.Proofs.Ythnbmfkmaijibaa.Sep
/- The document's own device: Write that goes. -/
namespace Go.Proofs.Ythnbmfkmaijibaa.Sep
open Go.Proofs Go.RowKit Go.Proofs.YthnbmfkmaijibaaW.PrintWords Go.Proofs.YthnbmfkmaijibaaW.PrintLast Go.Proofs.YthnbmfkmaijibaaW.PrintMore Go.Proofs.Ythnbmfkmaijibaa.IMap Go.Proofs.Ythnbmfkmaijibaa.Dev Go.Proofs.Ythnbmfkmaijibaa.PDeviceReads Go.Proofs.Ythnbmfkmaijibaa.Help
set_option linter.unusedVariables false
set_option linter.unusedSimpArgs false
section
variable {w0 w w' : World} {p : Nat} {s : DS} {R : List Asn}
theorem info_pd' : (Try.prog.info? 41).map (fun i => (i.zero, i.size, i.bytes)) = some (some (.agg #[.int .i64 0, .slice none 0 0]), 2, 32) := by kernel_rfl
theorem powered_n (s : DS) : s.powered.2.n = s.n := by
  unfold DS.powered
  split <;> (try split) <;> rfl
theorem rwrite_end {W : World} {L : RLay} {A5 A6 : Option Addr} {c5 c6 : Nat} {b : Int} {d : List Int} (hb : s.hasB b = true) (hg : RGood s.powered.2 L) (hd : d.length = 512)
    (S : Sep w0 W (Own 5 1 (.slice A5 512 c5) 512 (nums .u8 d) :: Blk p ((cellsR s.powered.2 L).setIfInBounds 1 (.slice A6 (L.m + 1) c6)) 110 :: Byt (some ⟨L.gl, 0, none⟩) (512 * L.n) L.cl s.powered.2.dur :: Own 41 2 (.slice A6 (L.m + 1) c6) (L.m + 1) (pcells L.qs ++ [.int .i64 b, .slice A5 512 c5]) :: (R ++ L.qs.map wdat))) :
    Sep w0 W (RefA p { s.powered.2 with pend := s.powered.2.pend ++ [(b, d)] } :: R) := by
  unfold DS.hasB at hb
  simp only [Bool.and_eq_true, decide_eq_true_eq] at hb
  have S1 := Sep.snoc (f := wdat) (y := (b, d, .slice A5 512 c5)) (L := L.qs) (R := Blk p ((cellsR s.powered.2 L).setIfInBounds 1 (.slice A6 (L.m + 1) c6)) 110 :: Byt (some ⟨L.gl, 0, none⟩) (512 * L.n) L.cl s.powered.2.dur :: Own 41 2 (.slice A6 (L.m + 1) c6) (L.m + 1) (pcells L.qs ++ [.int .i64 b, .slice A5 512 c5]) :: R) S
  have e1 : pcells (L.qs ++ [(b, d, .slice A5 512 c5)]) = pcells L.qs ++ [.int .i64 b, .slice A5 512 c5] := by simp [pcells]
  rw [← e1] at S1
  have ec : (cellsR s.powered.2 L).setIfInBounds 1 (.slice A6 (L.m + 1) c6) = cellsR { s.powered.2 with pend := s.powered.2.pend ++ [(b, d)] } ⟨L.n, L.gl, L.cl, A6, L.m + 1, c6, L.qs ++ [(b, d, .slice A5 512 c5)]⟩ := by
    unfold cellsR
    rfl
  rw [ec] at S1
  have hgood : RGood { s.powered.2 with pend := s.powered.2.pend ++ [(b, d)] } ⟨L.n, L.gl, L.cl, A6, L.m + 1, c6, L.qs ++ [(b, d, .slice A5 512 c5)]⟩ := by
    refine ⟨write_ok hg.1 ⟨hb.1, by rw [powered_n]; exact hb.2⟩ hd, hg.2.1, by show (L.qs ++ _).length = L.m + 1; rw [List.length_append, hg.2.2.1]; rfl, ?_⟩
    have := hg.2.2.2
    show pairs (L.qs ++ _) = s.powered.2.pend ++ _
    unfold pairs at this ⊢
    rw [List.map_append, this]
    rfl
  refine Sep.rclose hgood ?_
  exact S1
set_option maxHeartbeats 4000000 in
set_option maxRecDepth 100000 in
theorem rwrite_on {A : Option Addr} {c : Nat} {d : List Int} (S : Sep w0 w (RefA p s :: Byt A 512 c d :: R)) (b : Int) (hb : s.hasB b = true) (hp : s.powered.1 = true) (hpl : s.pend.length ≤ 1000000) : Calls Try.prog 66 #[.pointer (some ⟨p, 0, none⟩), .int .i64 b, .slice A 512 c] w fun e w' => e = .returned (.int .i64 0) ∧ Sep w0 w' (RefA p { s.powered.2 with pend := s.powered.2.pend ++ [(b, d)] } :: Byt A 512 c d :: R) := by
  have hsz := rsize_s S
  have P := fails_s S
  rw [hp] at P
  have HP := Aside0.mk P
  have HB := Aside0.mk hb
  unfold DS.hasB at hb
  simp only [Bool.and_eq_true, decide_eq_true_eq] at hb
  have h1 : ¬ b < 0 := by omega
  have h2 : ¬ b ≥ (s.n : Int) := by omega
  clear S hb P
  go_enter Try.func66, Try.ntmps66
  go_wp2_with fail
  refine hsz.mono ?_
  clear hsz
  rintro e w' ⟨rfl, rfl⟩
  go_wp2_with fail
  refine HP.out.mono ?_
  clear HP
  rintro e w2 ⟨rfl, S⟩
  obtain ⟨L, hg, S1⟩ := S.ropen
  have hm : L.m ≤ 1000000 := by
    have e1 := hg.2.2.1
    have e2 := congrArg List.length hg.2.2.2
    rw [List.length_map] at e2
    have e3 : s.powered.2.pend = s.pend := by unfold DS.powered; split <;> (try split) <;> rfl
    rw [e3] at e2
    omega
  have HG := Aside0.mk hg
  have hrd := S1.p3.reads
  have HRD := Aside0.mk hrd
  have HLN := Aside0.mk S1.p3.len
  have c1 := S1.cell 1 (v := .slice L.Aw L.m L.cw) rfl
  have f1 := S1.free 1
  have HS := Aside0.mk S1
  clear S S1 hg hrd
  go_wp2
  go_region_law (first | (refine append_row_step (xs := []) (HS.out.drew.nils 5 1) (by rfl) (.const (.slice none 0 0)) (.tmp 28) 29 1 (by rfl) Try.underlying29 Dev.info5 (by decide) d A 512 c (by rfl) (by rfl) HRD.out (by decide) (by decide) ?_; intro A5 c5 w5 S5; have d5 := S5.p1.cell 1 (v := .slice L.Aw L.m L.cw) rfl; have e5 := S5.p1.free 1; have d5b := ka d5 (.cells #[.int .i64 b, .slice A5 512 c5] 41)) | ((refine append_step S5.p3 (by rfl) (.tmp 26) (.tmp 31) 31 (.agg #[.int .i64 0, .slice none 0 0]) 32 (by rfl) Try.underlying31 info_pd' rfl (by decide) (by decide) [.int .i64 b, .slice A5 512 c5] (by rfl) (by rfl) (by rfl) (by intro u hu; rcases List.mem_cons.1 hu with q | q; (rw [q]; rfl); (rw [List.mem_singleton.1 q]; rfl)) (by omega) ?_; intro A6 c6 w6 S6; have d6 := S6.p2.cell 1 (v := .slice L.Aw L.m L.cw) rfl; have e6 := S6.p2.free 1)))
  all_goals (
    rw [Nat.zero_add, List.nil_append] at S6
    have S7 := S6.p2.set 1 (.slice A6 (L.m + 1) c6)
    have HS7 := Aside0.mk S7
    clear S5 S6 S7 d5 e5 d5b d6 e6 c1 f1 HS HRD
    go_wp2
    go_ret
    exact ⟨rfl, rwrite_end HB.out HG.out HLN.out HS7.out.p1.p3.p2.p3⟩)
end
end Go.Proofs.Ythnbmfkmaijibaa.Sep
/- The document's own device: a write lasts; Flush; Crash. -/
namespace Go.Proofs.Ythnbmfkmaijibaa.Sep
open Go.Proofs Go.RowKit Go.Proofs.YthnbmfkmaijibaaW.PrintWords Go.Proofs.YthnbmfkmaijibaaW.PrintLast Go.Proofs.YthnbmfkmaijibaaW.PrintMore Go.Proofs.Ythnbmfkmaijibaa.IMap Go.Proofs.Ythnbmfkmaijibaa.Dev Go.Proofs.Ythnbmfkmaijibaa.PDeviceReads Go.Proofs.Ythnbmfkmaijibaa.Help
set_option linter.unusedVariables false
set_option linter.unusedSimpArgs false
section
variable {w0 w w' : World} {p : Nat} {s : DS} {R l l' : List Asn} {L : RLay}
theorem Sep.lefts (S : Sep w0 w (l ++ l')) : Sep w0 w l := by
  obtain ⟨G, h1, h2, _⟩ := S.star.split
  exact ⟨S.bel, h2.mono h1⟩
set_option maxHeartbeats 4000000 in
set_option maxRecDepth 100000 in
theorem rsettle_s {gl N cl cc : Nat} {A1 : Option Addr} {cs : Array Value} {dur d : List Int} (h0 : cs[0]? = some (.slice (some ⟨gl, 0, none⟩) N cl)) (S : Sep w0 w (Blk p cs 110 :: Byt (some ⟨gl, 0, none⟩) N cl dur :: Byt A1 512 cc d :: R)) (b : Nat) (hb : 512 * (b + 1) ≤ N) (hN : N ≤ 2097152) :
    Calls Try.prog 74 #[.pointer (some ⟨p, 0, none⟩), .agg #[.int .i64 (b : Int), .slice A1 512 cc]] w fun e w' => e = .returned (.tuple #[]) ∧ Sep w0 w' (Blk p cs 110 :: Byt (some ⟨gl, 0, none⟩) N cl (splice dur (b * 512) d) :: Byt A1 512 cc d :: R) := by
  obtain ⟨g, rfl⟩ := S.p2.addr (by decide)
  have HL := Aside0.mk (And.intro S.p1.len S.p2.len)
  have H0 := Aside0.mk h0
  have S1 := S.alloc #[.int .i64 (b : Int), .slice (some ⟨g, 0, none⟩) 512 cc] 41
  have HS := Aside0.mk S1
  clear S S1 h0
  go_enter Try.func74, Try.ntmps74
  go_wp2
  go_loopw [4] (fun i wr => ∃ m : Nat, m ≤ 512 ∧ i = .int .i64 (m : Int) ∧ Sep w0 wr (Blk w.heap.size #[.int .i64 (b : Int), .slice (some ⟨g, 0, none⟩) 512 cc] 41 :: Blk p cs 110 :: Byt (some ⟨gl, 0, none⟩) N cl (splice dur (b * 512) (d.take m)) :: Byt (some ⟨g, 0, none⟩) 512 cc d :: R)) (fun i _ => 512 - (intOf i).toNat)
  case atStart =>
    refine ⟨0, Nat.zero_le _, rfl, ?_⟩
    have e : splice dur (b * 512) (d.take 0) = dur := by simp [splice]
    rw [e]
    exact HS.out
  case round =>
    clear HS
    obtain ⟨m, hm, rfl, S⟩ := hrel
    have c0 := S.cell 0 (v := .int .i64 (b : Int)) rfl
    have c1 := S.cell 1 (v := .slice (some ⟨g, 0, none⟩) 512 cc) rfl
    have x0 := S.p1.cell 0 (v := .slice (some ⟨gl, 0, none⟩) N cl) H0.out
    by_cases hlt : m < 512
    · have hlti : (m : Int) < 512 := by omega
      have z0 := S.p3.elem m hlt
      have i1 : IntKind.i64.wrap (512 * (b : Int)) = ((512 * b : Nat) : Int) := by rw [IntKind.wrap_i64]; omega
      have i2 : IntKind.i64.wrap (((512 * b : Nat) : Int) + (m : Int)) = ((512 * b + m : Nat) : Int) := by rw [IntKind.wrap_i64]; omega
      have i5 : 512 * b + m < N := by omega
      have fr := S.p2.row_free (by omega) (512 * b + m)
      have ce := S.p2.elem (512 * b + m) i5
      have hst := S.p2.drew.store (512 * b + m) (d.getD m 0)
      rw [show 512 * b + m = b * 512 + m by omega, splice_step _ _ _ _ (by rw [HL.out.2]; exact hlt) (by rw [HL.out.2, HL.out.1]; omega), show b * 512 + m = 512 * b + m by omega] at hst
      have HST := Aside0.mk hst
      clear hst S
      go_wp2
      go_still_tail 14, (by kernel_rfl)
      change wpList _ _ _ _ _ wr.drew
      go_wp2
      exact ⟨⟨m + 1, by omega, by go_num, HST.out.p2.p2⟩, by simp [intOf]; omega⟩
    · obtain rfl : m = 512 := by omega
      rw [show ((512 : Nat) : Int) = (512 : Int) from rfl]
      rw [List.take_of_length_le (by rw [HL.out.2]; exact Nat.le_refl _)] at S
      have hS := Aside0.mk S.drop
      clear S hlt c0 c1 x0
      go_wp2
      go_end0
      exact ⟨rfl, hS.out⟩
theorem settled_round (keep : Nat → Bool) {ps : List (Int × List Int)} {dur : List Int} {j : Nat} {x : Int × List Int} (hx : ps[j]? = some x) : settled keep ps dur (j + 1) = if keep j then splice (settled keep ps dur j) (x.1.toNat * 512) x.2 else settled keep ps dur j := by
  show (if keep j then lay (settled keep ps dur j) (ps.getD j (0, [])).1 (ps.getD j (0, [])).2 else settled keep ps dur j) = _
  rw [List.getD_eq_getElem?_getD, hx]
  rfl
theorem rclear_s {W : World} {keep : Nat → Bool} {f : Bool} {u : Int} (hg : RGood s L) (hu : 0 ≤ u ∧ u < 9223372036854775808)
    (S : Sep w0 W (Blk p #[.slice (some ⟨L.gl, 0, none⟩) (512 * L.n) L.cl, .slice none 0 0, .bool f, .int .i64 u] 110 :: Byt (some ⟨L.gl, 0, none⟩) (512 * L.n) L.cl (settled keep s.pend s.dur s.pend.length) :: Own 41 2 (.slice L.Aw L.m L.cw) L.m (pcells L.qs) :: (R ++ L.qs.map wdat))) :
    Sep w0 W (RefA p { s.settle keep with off := f, fuse := u } :: R) := by
  have S1 := Sep.lefts (l := Blk p #[.slice (some ⟨L.gl, 0, none⟩) (512 * L.n) L.cl, .slice none 0 0, .bool f, .int .i64 u] 110 :: Byt (some ⟨L.gl, 0, none⟩) (512 * L.n) L.cl (settled keep s.pend s.dur s.pend.length) :: Own 41 2 (.slice L.Aw L.m L.cw) L.m (pcells L.qs) :: R) S
  have hok := DS.Ok.settle hg.1 keep
  have hn := settle_n hg.1 keep
  have hgood : RGood { s.settle keep with off := f, fuse := u } ⟨L.n, L.gl, L.cl, none, 0, 0, []⟩ := ⟨⟨hok.n0, hok.n1, hok.len, hok.pend, hu.1, hu.2⟩, by show (s.settle keep).n = L.n; rw [hn]; exact hg.2.1, rfl, rfl⟩
  refine Sep.rclose hgood ?_
  rw [List.map_nil, List.append_nil]
  exact (S1.p2.drop.nils 41 2).p2.p2
set_option maxHeartbeats 4000000 in
set_option maxRecDepth 100000 in
theorem rflush_s (S : Sep w0 w (RefA p s :: R)) (hpl : s.pend.length ≤ 1000000000) : Calls Try.prog 67 #[.pointer (some ⟨p, 0, none⟩)] w fun e w' => e = .returned (.int .i64 s.flush.1) ∧ Sep w0 w' (RefA p s.flush.2 :: R) := by
  have P := fails_s S
  have HPL := Aside0.mk hpl
  clear S hpl
  cases hp : s.powered.1 with
  | false =>
    rw [hp] at P
    have HE : Aside0 (s.flush = (3, s.powered.2)) := ⟨by unfold DS.flush; rw [hp, if_neg (by simp)]⟩
    have HP := Aside0.mk P
    clear P hp
    go_enter Try.func67, Try.ntmps67
    go_wp2_with fail
    refine HP.out.mono ?_
    clear HP
    rintro e w2 ⟨rfl, S⟩
    have HS := Aside0.mk S
    clear S
    go_wp2
    go_ret
    rw [HE.out]
    exact ⟨rfl, HS.out⟩
  | true =>
    rw [hp] at P
    have HE : Aside0 (s.flush = (0, s.powered.2.settle fun _ => true)) := ⟨by unfold DS.flush; rw [hp, if_pos rfl]⟩
    have HP := Aside0.mk P
    clear P hp
    go_enter Try.func67, Try.ntmps67
    go_wp2_with fail
    refine HP.out.mono ?_
    clear HP
    rintro e w2 ⟨rfl, S⟩
    obtain ⟨t, ht⟩ : ∃ t, t = s.powered.2 := ⟨_, rfl⟩
    have HPL2 : Aside0 (t.pend.length ≤ 1000000000) := ⟨by rw [ht, powered_pend]; exact HPL.out⟩
    rw [← ht] at S HE
    clear ht HPL
    obtain ⟨L, hg, S1⟩ := S.ropen
    have hm : L.m ≤ 1000000000 := by
      have e1 := hg.2.2.1
      have e2 := congrArg List.length hg.2.2.2
      rw [List.length_map] at e2
      have := HPL2.out
      omega
    have hn1 : L.n ≤ 4096 := by have := hg.2.1; have := hg.1.n1; omega
    have HG := Aside0.mk hg
    clear S hg HPL2
    go_wp2
    go_loopw [4] (fun i wr => ∃ j : Nat, j ≤ L.m ∧ i = .int .i64 (j : Int) ∧ Sep w0 wr (Blk p (cellsR t L) 110 :: Byt (some ⟨L.gl, 0, none⟩) (512 * L.n) L.cl (settled (fun _ => true) t.pend t.dur j) :: Own 41 2 (.slice L.Aw L.m L.cw) L.m (pcells L.qs) :: (R ++ L.qs.map wdat))) (fun i _ => L.m - (intOf i).toNat)
    case atStart => exact ⟨0, Nat.zero_le _, rfl, S1⟩
    case round =>
      clear S1
      obtain ⟨j, hj, rfl, S⟩ := hrel
      have c1 := S.cell 1 (v := .slice L.Aw L.m L.cw) rfl
      by_cases hlt : j < L.m
      · have hlti : (j : Int) < (L.m : Int) := by omega
        have hjq : j < L.qs.length := by rw [HG.out.2.2.1]; exact hlt
        have hx : L.qs[j]? = some L.qs[j] := List.getElem?_eq_getElem hjq
        have hpj : t.pend[j]? = some (L.qs[j].1, L.qs[j].2.1) := by
          rw [← HG.out.2.2.2, List.getElem?_map, hx]
          rfl
        obtain ⟨gw, hgw⟩ := S.p2.addr (A := L.Aw) (by omega)
        rw [hgw] at c1
        have x0 := S.p2.row.cells (g := gw) (by rw [hgw]; rfl) _ _ (pcells_at hx).1
        have x1 := S.p2.row.cells (g := gw) (by rw [hgw]; rfl) _ _ (pcells_at hx).2
        rw [add_plain] at x0 x1
        have S2 : Sep w0 _ (wdat L.qs[j] :: _) := S.focus (f := wdat) (R := Blk p (cellsR t L) 110 :: Byt (some ⟨L.gl, 0, none⟩) (512 * L.n) L.cl (settled (fun _ => true) t.pend t.dur j) :: Own 41 2 (.slice L.Aw L.m L.cw) L.m (pcells L.qs) :: R) j hjq
        have S3 : Sep w0 _ (Own 5 1 L.qs[j].2.2 512 (nums .u8 L.qs[j].2.1) :: _) := S2
        obtain ⟨A1, cc, e1⟩ := own_slice S3.row
        rw [e1] at x1 S3
        have hb := (HG.out.1.pend _ (List.mem_of_getElem? hpj)).1
        have hb2 := (HG.out.1.pend _ (List.mem_of_getElem? hpj)).2.1
        rw [HG.out.2.1] at hb2
        obtain ⟨bn, hbn⟩ : ∃ bn : Nat, L.qs[j].1 = (bn : Int) := ⟨L.qs[j].1.toNat, by simp only at hb; omega⟩
        rw [hbn] at x0
        have hbb : bn < L.n := by simp only [hbn] at hb2; omega
        have HJ := Aside0.mk (And.intro hpj (And.intro hjq (And.intro e1 hbn)))
        have HS := Aside0.mk S3
        clear S S2 S3 hgw hx hpj hb hb2 hbn e1
        go_wp2_with fail
        refine (rsettle_s rfl HS.out.p2.p2 bn (by omega) (by omega)).mono ?_
        clear HS c1 x0 x1
        rintro e w3 ⟨rfl, S⟩
        have S4 : Sep w0 w3 (Own 5 1 (.slice A1 512 cc) 512 (nums .u8 L.qs[j].2.1) :: _) := S.p2
        obtain ⟨hpj, _, e1, hbn⟩ := HJ.out
        have e2 : settled (fun _ => true) t.pend t.dur (j + 1) = splice (settled (fun _ => true) t.pend t.dur j) (bn * 512) L.qs[j].2.1 := by
          rw [settled_round _ hpj, if_pos rfl, hbn]
          rfl
        rw [← e1, ← e2] at S4
        have HS4 := Aside0.mk (Sep.refocus (f := wdat) (R := Blk p (cellsR t L) 110 :: Byt (some ⟨L.gl, 0, none⟩) (512 * L.n) L.cl (settled (fun _ => true) t.pend t.dur (j + 1)) :: Own 41 2 (.slice L.Aw L.m L.cw) L.m (pcells L.qs) :: R) hjq S4)
        clear S S4 e1 e2 hpj hbn HJ
        go_wp2
        exact ⟨⟨j + 1, by omega, by go_num, HS4.out⟩, by simp [intOf]; omega⟩
      · have ej : t.pend.length = j := by
          have e1 := HG.out.2.2.1
          have e2 := congrArg List.length HG.out.2.2.2
          rw [List.length_map] at e2
          omega
        have hlti : ¬ ((j : Int) < (L.m : Int)) := by omega
        rw [← ej] at S
        have f1 := S.free 1
        have S5 := S.set 1 (.slice none 0 0)
        have HS5 := Aside0.mk S5
        clear S S5 hlt ej
        go_wp2
        go_ret
        rw [HE.out]
        exact ⟨rfl, rclear_s HG.out ⟨HG.out.1.fuse0, HG.out.1.fuse1⟩ HS5.out⟩
set_option maxHeartbeats 4000000 in
set_option maxRecDepth 100000 in
theorem rcrash_s {A : Option Addr} {c : Nat} {ks : List Bool} (S : Sep w0 w (RefA p s :: R)) (hpl : s.pend.length ≤ 1000000000) (hk : Kd.C Kd.bool w0 A ks.length ks) : Calls Try.prog 69 #[.pointer (some ⟨p, 0, none⟩), .slice A ks.length c] w fun e w' => e = .returned (.tuple #[]) ∧ Sep w0 w' (RefA p (s.crash ks) :: R) := by
  have HPL := Aside0.mk hpl
  have HK := Aside0.mk hk
  have hkn := (bools_in hk S.bel).1.2.1
  obtain ⟨L, hg, S1⟩ := S.ropen
  have hm : L.m ≤ 1000000000 := by
    have e1 := hg.2.2.1
    have e2 := congrArg List.length hg.2.2.2
    rw [List.length_map] at e2
    omega
  have hn1 : L.n ≤ 4096 := by have := hg.2.1; have := hg.1.n1; omega
  have HG := Aside0.mk hg
  clear S hg hk hpl
  obtain ⟨kp, hkp⟩ : ∃ kp : Nat → Bool, kp = fun j => ks.getD j false := ⟨_, rfl⟩
  have HKP := Aside0.mk hkp
  go_enter Try.func69, Try.ntmps69
  go_wp2
  go_loopw [4] (fun i wr => ∃ j : Nat, j ≤ L.m ∧ i = .int .i64 (j : Int) ∧ Sep w0 wr (Blk p (cellsR s L) 110 :: Byt (some ⟨L.gl, 0, none⟩) (512 * L.n) L.cl (settled kp s.pend s.dur j) :: Own 41 2 (.slice L.Aw L.m L.cw) L.m (pcells L.qs) :: (R ++ L.qs.map wdat))) (fun i _ => L.m - (intOf i).toNat)
  case atStart => exact ⟨0, Nat.zero_le _, rfl, S1⟩
  case round =>
    clear S1
    obtain ⟨j, hj, rfl, S⟩ := hrel
    have c1 := S.cell 1 (v := .slice L.Aw L.m L.cw) rfl
    by_cases hlt : j < L.m
    · have hlti : (j : Int) < (L.m : Int) := by omega
      have hjq : j < L.qs.length := by rw [HG.out.2.2.1]; exact hlt
      have hx : L.qs[j]? = some L.qs[j] := List.getElem?_eq_getElem hjq
      have hpj : s.pend[j]? = some (L.qs[j].1, L.qs[j].2.1) := by
        rw [← HG.out.2.2.2, List.getElem?_map, hx]
        rfl
      cases hkk : ks.getD j false with
      | false =>
        have e2 : settled kp s.pend s.dur (j + 1) = settled kp s.pend s.dur j := by
          rw [settled_round _ hpj, HKP.out]
          simp only [hkk]
          rfl
        have HKK := Aside0.mk hkk
        have HS := Aside0.mk S
        have E2 := Aside0.mk e2
        clear e2 hpj hx hkk hkp
        by_cases hlk : j < ks.length
        · have hlki : (j : Int) < (ks.length : Int) := by omega
          obtain ⟨ad, rfl, hkc'⟩ := (bools_in HK.out S.bel).1.2.2 (by omega)
          have y0 := hkc' j hlk
          rw [HKK.out] at y0
          clear hkc' S HK
          go_wp2
          refine ⟨⟨j + 1, by omega, by go_num, ?_⟩, by simp [intOf]; omega⟩
          rw [E2.out]
          exact HS.out
        · have hlki : ¬ ((j : Int) < (ks.length : Int)) := by omega
          clear S HK
          go_wp2
          refine ⟨⟨j + 1, by omega, by go_num, ?_⟩, by simp [intOf]; omega⟩
          rw [E2.out]
          exact HS.out
      | true =>
        have hlk : j < ks.length := by
          by_cases h : j < ks.length
          · exact h
          · rw [List.getD_eq_getElem?_getD, List.getElem?_eq_none (by omega)] at hkk
            cases hkk
        have hlki : (j : Int) < (ks.length : Int) := by omega
        have HKK := Aside0.mk hkk
        obtain ⟨gw, hgw⟩ := S.p2.addr (A := L.Aw) (by omega)
        rw [hgw] at c1
        have x0 := S.p2.row.cells (g := gw) (by rw [hgw]; rfl) _ _ (pcells_at hx).1
        have x1 := S.p2.row.cells (g := gw) (by rw [hgw]; rfl) _ _ (pcells_at hx).2
        rw [add_plain] at x0 x1
        have S2 : Sep w0 _ (wdat L.qs[j] :: _) := S.focus (f := wdat) (R := Blk p (cellsR s L) 110 :: Byt (some ⟨L.gl, 0, none⟩) (512 * L.n) L.cl (settled kp s.pend s.dur j) :: Own 41 2 (.slice L.Aw L.m L.cw) L.m (pcells L.qs) :: R) j hjq
        have S3 : Sep w0 _ (Own 5 1 L.qs[j].2.2 512 (nums .u8 L.qs[j].2.1) :: _) := S2
        obtain ⟨A1, cc, e1⟩ := own_slice S3.row
        rw [e1] at x1 S3
        have hb := (HG.out.1.pend _ (List.mem_of_getElem? hpj)).1
        have hb2 := (HG.out.1.pend _ (List.mem_of_getElem? hpj)).2.1
        rw [HG.out.2.1] at hb2
        obtain ⟨bn, hbn⟩ : ∃ bn : Nat, L.qs[j].1 = (bn : Int) := ⟨L.qs[j].1.toNat, by simp only at hb; omega⟩
        rw [hbn] at x0
        have hbb : bn < L.n := by simp only [hbn] at hb2; omega
        have e2 : settled kp s.pend s.dur (j + 1) = splice (settled kp s.pend s.dur j) (bn * 512) L.qs[j].2.1 := by
          rw [settled_round _ hpj, HKP.out]
          simp only [hkk, if_true, hbn]
          rfl
        have HJ := Aside0.mk (And.intro hjq (And.intro e1 e2))
        obtain ⟨ad, rfl, hkc'⟩ := (bools_in HK.out S.bel).1.2.2 (by omega)
        have y0 := hkc' j hlk
        rw [HKK.out] at y0
        have HS := Aside0.mk S3
        clear S S2 S3 hgw hx hpj hb hb2 hbn e1 e2 hkc' hkk HK hkp
        go_wp2_with fail
        refine (rsettle_s rfl HS.out.p2.p2 bn (by omega) (by omega)).mono ?_
        clear HS c1 x0 x1 y0
        rintro e w3 ⟨rfl, S⟩
        have S4 : Sep w0 w3 (Own 5 1 (.slice A1 512 cc) 512 (nums .u8 L.qs[j].2.1) :: _) := S.p2
        obtain ⟨_, e1, e2⟩ := HJ.out
        rw [← e1, ← e2] at S4
        have HS4 := Aside0.mk (Sep.refocus (f := wdat) (R := Blk p (cellsR s L) 110 :: Byt (some ⟨L.gl, 0, none⟩) (512 * L.n) L.cl (settled kp s.pend s.dur (j + 1)) :: Own 41 2 (.slice L.Aw L.m L.cw) L.m (pcells L.qs) :: R) hjq S4)
        clear S S4 e1 e2 HJ
        go_wp2
        exact ⟨⟨j + 1, by omega, by go_num, HS4.out⟩, by simp [intOf]; omega⟩
    · have ej : s.pend.length = j := by
        have e1 := HG.out.2.2.1
        have e2 := congrArg List.length HG.out.2.2.2
        rw [List.length_map] at e2
        omega
      have hlti : ¬ ((j : Int) < (L.m : Int)) := by omega
      rw [← ej] at S
      have f1 := S.free 1
      have c2 := S.cell 2 (v := .bool s.off) rfl
      have c3 := S.cell 3 (v := .int .i64 s.fuse) rfl
      have S5 := S.set 1 (.slice none 0 0)
      have f2 := S5.free 2
      have S6 := S5.set 2 (.bool false)
      have f3 := S6.free 3
      have S7 := S6.set 3 (.int .i64 0)
      have HS7 := Aside0.mk S7
      clear S S5 S6 S7 hlt ej HK hkp
      go_wp2
      go_end0
      have h9 := rclear_s HG.out ⟨Int.le_refl 0, by decide⟩ HS7.out
      rw [HKP.out] at h9
      exact ⟨rfl, h9⟩
end
end Go.Proofs.Ythnbmfkmaijibaa.Sep
/- The document's own device: Pending. -/
namespace Go.Proofs.Ythnbmfkmaijibaa.Sep
open Go.Proofs Go.RowKit Go.Proofs.YthnbmfkmaijibaaW.PrintWords Go.Proofs.YthnbmfkmaijibaaW.PrintLast Go.Proofs.YthnbmfkmaijibaaW.PrintMore Go.Proofs.Ythnbmfkmaijibaa.IMap Go.Proofs.Ythnbmfkmaijibaa.Dev Go.Proofs.Ythnbmfkmaijibaa.PDeviceReads Go.Proofs.Ythnbmfkmaijibaa.Help
set_option linter.unusedVariables false
set_option linter.unusedSimpArgs false
section
variable {w0 w w' : World} {p : Nat} {s : DS} {R : List Asn} {L : RLay}
theorem Sep.valn {e : TypeId} {size g n c : Nat} {xs : List Value} (S : Sep w0 w (Own e size (.slice (some ⟨g, 0, none⟩) n c) n xs :: R)) (i : Nat) {v : Value} (h : xs[i]? = some v) : w.cell? ⟨g, i, none⟩ = some v := by
  have := S.row.cells (g := g) rfl i v h
  rwa [add_plain] at this
set_option maxHeartbeats 4000000 in
set_option maxRecDepth 100000 in
theorem rpending_s (S : Sep w0 w (RefA p s :: R)) (hpl : s.pend.length ≤ 1000000000) : Calls Try.prog 63 #[.pointer (some ⟨p, 0, none⟩)] w fun e w' => ∃ A c qs, e = .returned (.slice A s.pend.length c) ∧ pairs qs = s.pend ∧ Sep w0 w' ((Own 41 2 (.slice A s.pend.length c) s.pend.length (pcells qs) :: RefA p s :: R) ++ qs.map wdat) := by
  have HPL := Aside0.mk hpl
  clear hpl
  go_enter Try.func63, Try.ntmps63
  go_wp2
  go_loopw [4, 3] (fun i v wr => ∃ (j : Nat) (A : Option Addr) (c : Nat) (qs : List (Int × List Int × Value)), j ≤ s.pend.length ∧ i = .int .i64 (j : Int) ∧ v = .slice A j c ∧ Aside0 (pairs qs = s.pend.take j) ∧ Sep w0 wr ((Own 41 2 (.slice A j c) j (pcells qs) :: RefA p s :: R) ++ qs.map wdat)) (fun i _ _ => s.pend.length - (intOf i).toNat)
  case atStart =>
    refine ⟨0, none, 0, [], Nat.zero_le _, rfl, rfl, ⟨rfl⟩, ?_⟩
    show Sep w0 w ((Own 41 2 (.slice none 0 0) 0 [] :: RefA p s :: R) ++ [])
    rw [List.append_nil]
    exact S.nils 41 2
  case round =>
    clear S
    obtain ⟨j, A, c, qs, hj, rfl, rfl, HP, S⟩ := hrel
    obtain ⟨L, hg, S1⟩ := Sep.ropen (R := Own 41 2 (.slice A j c) j (pcells qs) :: (R ++ qs.map wdat)) S.p1
    have hm : L.m = s.pend.length := by
      have e1 := hg.2.2.1
      have e2 := congrArg List.length hg.2.2.2
      rw [List.length_map] at e2
      omega
    have c1 := S1.cell 1 (v := .slice L.Aw L.m L.cw) rfl
    have HM := Aside0.mk hm
    have hmm : L.m ≤ 1000000000 := by have := HPL.out; omega
    have HG := Aside0.mk hg
    by_cases hlt : j < s.pend.length
    · have hlti : (j : Int) < (L.m : Int) := by omega
      have hjq : j < L.qs.length := by rw [HG.out.2.2.1]; omega
      have hx : L.qs[j]? = some L.qs[j] := List.getElem?_eq_getElem hjq
      have hpj : s.pend[j]? = some (L.qs[j].1, L.qs[j].2.1) := by
        rw [← HG.out.2.2.2, List.getElem?_map, hx]
        rfl
      obtain ⟨gw, hgw⟩ := S1.p2.addr (A := L.Aw) (by omega)
      rw [hgw] at c1 S1
      have x0 := S1.p2.row.cells (g := gw) rfl _ _ (pcells_at hx).1
      have x1 := S1.p2.row.cells (g := gw) rfl _ _ (pcells_at hx).2
      rw [add_plain] at x0 x1
      have S2 : Sep w0 _ (wdat L.qs[j] :: _) := S1.focus (f := wdat) (R := Blk p (cellsR s L) 110 :: Byt (some ⟨L.gl, 0, none⟩) (512 * L.n) L.cl s.dur :: Own 41 2 (.slice (some ⟨gw, 0, none⟩) L.m L.cw) L.m (pcells L.qs) :: Own 41 2 (.slice A j c) j (pcells qs) :: (R ++ qs.map wdat)) j hjq
      have S3 : Sep w0 _ (Own 5 1 L.qs[j].2.2 512 (nums .u8 L.qs[j].2.1) :: _) := S2
      obtain ⟨A1, cc, e1⟩ := own_slice S3.row
      have HX0 := pcells_at hx
      rw [e1] at x1 S3
      obtain ⟨d, hd⟩ : ∃ d, d = L.qs[j].2.1 := ⟨_, rfl⟩
      obtain ⟨b, hb⟩ : ∃ b, b = L.qs[j].1 := ⟨_, rfl⟩
      rw [← hb] at x0
      rw [← hd] at S3
      have hrd := S3.reads
      have HRD := Aside0.mk hrd
      have HS3 := Aside0.mk S3
      have HGW := Aside0.mk hgw
      rw [e1, ← hb] at HX0
      have HX := Aside0.mk HX0
      have HJ := Aside0.mk (And.intro hpj (And.intro hb (And.intro hd e1)))
      have hj9 : j ≤ 1000000000 := by omega
      clear HX0 S S1 S2 S3 hrd hpj hd hb hx hgw e1 hm hlt hg hj
      go_wp2
      go_region_held3 (fun W => W.cell? ⟨p, 1, none⟩ = some (.slice (some ⟨gw, 0, none⟩) L.m L.cw) ∧ W.cell? ⟨gw, j * 2, none⟩ = some (.int .i64 b) ∧ W.cell? ⟨gw, j * 2 + 1, none⟩ = some (.slice A1 512 cc)) (refine ⟨?_, ?_, ?_⟩ <;> (repeat (first | (with_reducible assumption) | (with_reducible refine kd ?_) | (with_reducible refine ka ?_ _))))
        (first | (refine append_row_step (xs := []) (HS3.out.drew.nils 5 1) (by rfl) (.const (.slice none 0 0)) (.tmp 30) 29 1 (by rfl) Try.underlying29 Dev.info5 (by decide) d A1 512 cc (by rfl) (by rfl) HRD.out (by decide) (by decide) ?_; intro A5 c5 w5 S5; have d5 := S5.p2.cell 1 (v := .slice L.Aw L.m L.cw) rfl; rw [HGW.out] at d5; have y0 := S5.p4.valn (j * 2) HX.out.1; have y1 := S5.p4.valn (j * 2 + 1) HX.out.2) | (refine append_step (n := j) (xs := pcells qs) (v := .slice A j c) S5.p5 rfl (.tmp 14) (.tmp 33) 31 (.agg #[.int .i64 0, .slice none 0 0]) 32 rfl Try.underlying31 info_pd' rfl (by decide) (by decide) [.int .i64 b, .slice A5 (0 + 512) c5] ?ahs ?ahx rfl ?a1 ?aL ?_; (case ahs => rfl); (case ahx => rfl); (case a1 => (intro u hu; simp only [List.mem_cons, List.not_mem_nil, or_false] at hu; rcases hu with rfl | rfl <;> rfl)); (case aL => omega); intro A6 c6 w6 S6; have d6 := S6.p3.cell 1 (v := .slice L.Aw L.m L.cw) rfl; rw [HGW.out] at d6; have y6 := S6.p5.valn (j * 2) HX.out.1; have z6 := S6.p5.valn (j * 2 + 1) HX.out.2))
      obtain ⟨hpj, hb, hd, e1⟩ := HJ.out
      have e7 : Own 5 1 (.slice A1 512 cc) 512 (nums .u8 d) = wdat L.qs[j] := by
        unfold wdat
        rw [e1, ← hd]
      have S7 : Sep w0 w6 (Own 5 1 (.slice A1 512 cc) 512 (nums .u8 d) :: _) := S6.p2
      rw [e7] at S7
      have S8 := Sep.refocus (f := wdat) (R := Own 41 2 (.slice A6 (j + 1) c6) (j + 1) (pcells qs ++ [.int .i64 b, .slice A5 (0 + 512) c5]) :: Own 5 1 (.slice A5 (0 + 512) c5) (0 + 512) (nums .u8 ([] ++ d)) :: Blk p (cellsR s L) 110 :: Byt (some ⟨L.gl, 0, none⟩) (512 * L.n) L.cl s.dur :: Own 41 2 (.slice (some ⟨gw, 0, none⟩) L.m L.cw) L.m (pcells L.qs) :: (R ++ qs.map wdat)) hjq S7
      rw [← HGW.out] at S8
      have S9 := (Sep.rclose (R := Own 41 2 (.slice A6 (j + 1) c6) (j + 1) (pcells qs ++ [.int .i64 b, .slice A5 (0 + 512) c5]) :: Own 5 1 (.slice A5 (0 + 512) c5) (0 + 512) (nums .u8 ([] ++ d)) :: (R ++ qs.map wdat)) HG.out S8.p4.p4.p4).p1.p2
      have ep : pcells (qs ++ [(b, d, .slice A5 512 c5)]) = pcells qs ++ [.int .i64 b, .slice A5 512 c5] := by simp [pcells]
      have S10 := Sep.snoc (f := wdat) (y := (b, d, .slice A5 512 c5)) (L := qs) (R := Own 41 2 (.slice A6 (j + 1) c6) (j + 1) (pcells qs ++ [.int .i64 b, .slice A5 512 c5]) :: RefA p s :: R) S9
      rw [← ep] at S10
      have e9 : pairs (qs ++ [(b, d, .slice A5 512 c5)]) = s.pend.take (j + 1) := by
        have := HP.out
        have hp2 := hpj
        rw [← hb, ← hd] at hp2
        rw [List.take_add_one, hp2, ← this]
        unfold pairs
        rw [List.map_append]
        rfl
      have HZ := Aside0.mk (And.intro e9 S10)
      have hjm : j + 1 ≤ s.pend.length := by have := HM.out; omega
      have hmj : s.pend.length - (j + 1) < s.pend.length - j := by omega
      clear S5 S6 S7 S8 S9 S10 e9 ep hpj hb hd e1 d5 y0 y1 d6 y6 z6 c1 x0 x1 HS3
      go_wp2
      exact ⟨⟨j + 1, A6, c6, _, hjm, by go_num, rfl, ⟨HZ.out.1⟩, HZ.out.2⟩, by simp [intOf]; omega⟩
    · have ej : j = L.m := by omega
      have hlti : ¬ ((j : Int) < (L.m : Int)) := by omega
      have hS := Aside0.mk S
      have hE : s.pend.length = j := by omega
      have HE := Aside0.mk hE
      clear S S1 hg hm hlt ej hj hE
      go_wp2
      go_ret
      have h1 := hS.out
      have h2 := HP.out
      rw [← HE.out] at h1 h2 ⊢
      rw [List.take_length] at h2
      exact ⟨A, c, rfl, qs, h2, h1⟩
end
end Go.Proofs.Ythnbmfkmaijibaa.Sep
/- The document's own device: Write, out of memory that was there before. -/
namespace Go.Proofs.Ythnbmfkmaijibaa.Sep
open Go.Proofs Go.RowKit Go.Proofs.YthnbmfkmaijibaaW.PrintWords Go.Proofs.YthnbmfkmaijibaaW.PrintLast Go.Proofs.YthnbmfkmaijibaaW.PrintMore Go.Proofs.Ythnbmfkmaijibaa.IMap Go.Proofs.Ythnbmfkmaijibaa.Dev Go.Proofs.Ythnbmfkmaijibaa.PDeviceReads Go.Proofs.Ythnbmfkmaijibaa.Help
set_option linter.unusedVariables false
set_option linter.unusedSimpArgs false
section
variable {w0 w w' : World} {p : Nat} {s : DS} {R : List Asn}
theorem rwrite_end_old {W : World} {L : RLay} {A5 A6 : Option Addr} {c5 c6 : Nat} {b : Int} {d : List Int} (hb : s.hasB b = true) (hg : RGood s.powered.2 L) (hd : d.length = 512)
    (S : Sep w0 W (Own 5 1 (.slice A5 512 c5) 512 (nums .u8 d) :: Blk p ((cellsR s.powered.2 L).setIfInBounds 1 (.slice A6 (L.m + 1) c6)) 110 :: Byt (some ⟨L.gl, 0, none⟩) (512 * L.n) L.cl s.powered.2.dur :: Own 41 2 (.slice A6 (L.m + 1) c6) (L.m + 1) (pcells L.qs ++ [.int .i64 b, .slice A5 512 c5]) :: (R ++ L.qs.map wdat))) :
    Sep w0 W (RefA p { s.powered.2 with pend := s.powered.2.pend ++ [(b, d)] } :: R) := rwrite_end hb hg hd S
set_option maxHeartbeats 4000000 in
set_option maxRecDepth 100000 in
theorem rwrite_on_old {A : Option Addr} {c : Nat} {d : List Int} (S : Sep w0 w (RefA p s :: R)) (hd : d.length = 512) (hrd : ∀ W, Below w0.heap.size w0 W → ReadsInt W .u8 A 512 d) (b : Int) (hb : s.hasB b = true) (hp : s.powered.1 = true) (hpl : s.pend.length ≤ 1000000000) : Calls Try.prog 66 #[.pointer (some ⟨p, 0, none⟩), .int .i64 b, .slice A 512 c] w fun e w' => e = .returned (.int .i64 0) ∧ Sep w0 w' (RefA p { s.powered.2 with pend := s.powered.2.pend ++ [(b, d)] } :: R) := by
  have hsz := rsize_s S
  have P := fails_s S
  rw [hp] at P
  have HP := Aside0.mk P
  have HB := Aside0.mk hb
  have HR0 := Aside0.mk hrd
  have HLN := Aside0.mk hd
  unfold DS.hasB at hb
  simp only [Bool.and_eq_true, decide_eq_true_eq] at hb
  have h1 : ¬ b < 0 := by omega
  have h2 : ¬ b ≥ (s.n : Int) := by omega
  clear S hb P hrd hd
  go_enter Try.func66, Try.ntmps66
  go_wp2_with fail
  refine hsz.mono ?_
  clear hsz
  rintro e w' ⟨rfl, rfl⟩
  go_wp2_with fail
  refine HP.out.mono ?_
  clear HP
  rintro e w2 ⟨rfl, S⟩
  obtain ⟨L, hg, S1⟩ := S.ropen
  have hm : L.m ≤ 1000000000 := by
    have e1 := hg.2.2.1
    have e2 := congrArg List.length hg.2.2.2
    rw [List.length_map] at e2
    have e3 : s.powered.2.pend = s.pend := by unfold DS.powered; split <;> (try split) <;> rfl
    rw [e3] at e2
    omega
  have HG := Aside0.mk hg
  have hrd := HR0.out _ S1.bel
  have HRD := Aside0.mk hrd
  have c1 := S1.cell 1 (v := .slice L.Aw L.m L.cw) rfl
  have f1 := S1.free 1
  have HS := Aside0.mk S1
  clear S S1 hg hrd HR0
  go_wp2
  go_region_law (first | (refine append_row_step (xs := []) (HS.out.drew.nils 5 1) (by rfl) (.const (.slice none 0 0)) (.tmp 28) 29 1 (by rfl) Try.underlying29 Dev.info5 (by decide) d A 512 c (by rfl) (by rfl) HRD.out (by decide) (by decide) ?_; intro A5 c5 w5 S5; have d5 := S5.p1.cell 1 (v := .slice L.Aw L.m L.cw) rfl; have e5 := S5.p1.free 1; have d5b := ka d5 (.cells #[.int .i64 b, .slice A5 512 c5] 41)) | ((refine append_step S5.p3 (by rfl) (.tmp 26) (.tmp 31) 31 (.agg #[.int .i64 0, .slice none 0 0]) 32 (by rfl) Try.underlying31 info_pd' rfl (by decide) (by decide) [.int .i64 b, .slice A5 512 c5] (by rfl) (by rfl) (by rfl) (by intro u hu; rcases List.mem_cons.1 hu with q | q; (rw [q]; rfl); (rw [List.mem_singleton.1 q]; rfl)) (by omega) ?_; intro A6 c6 w6 S6; have d6 := S6.p2.cell 1 (v := .slice L.Aw L.m L.cw) rfl; have e6 := S6.p2.free 1)))
  all_goals (
    rw [Nat.zero_add, List.nil_append] at S6
    have S7 := S6.p2.set 1 (.slice A6 (L.m + 1) c6)
    have HS7 := Aside0.mk S7
    clear S5 S6 S7 d5 e5 d5b d6 e6 c1 f1 HS HRD
    go_wp2
    go_ret
    exact ⟨rfl, rwrite_end_old HB.out HG.out HLN.out HS7.out.p1.p3.p2.p3⟩)
theorem rwrite_s {A : Option Addr} {c : Nat} {d : List Int} (S : Sep w0 w (RefA p s :: R)) (hrd : ∀ W, Below w0.heap.size w0 W → ReadsInt W .u8 A d.length d) (b : Int) (hpl : s.pend.length ≤ 1000000000) : Calls Try.prog 66 #[.pointer (some ⟨p, 0, none⟩), .int .i64 b, .slice A d.length c] w fun e w' => e = .returned (.int .i64 (s.write b d).1) ∧ Sep w0 w' (RefA p (s.write b d).2 :: R) := by
  unfold DS.write
  cases hb : s.hasB b with
  | false =>
    rw [if_neg (by simp)]
    exact rwrite_no S b hb
  | true =>
    rw [if_pos rfl]
    by_cases hd : d.length = 512
    · rw [if_pos hd]
      rw [hd] at hrd ⊢
      cases hp : s.powered.1 with
      | false =>
        rw [if_neg (by simp)]
        exact rwrite_fail S b hb hp
      | true =>
        rw [if_pos rfl]
        exact rwrite_on_old S hd hrd b hb hp hpl
    · rw [if_neg hd]
      exact rwrite_len S b hb hd
end
end Go.Proofs.Ythnbmfkmaijibaa.Sep
