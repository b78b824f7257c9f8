/- The document's own device: what its methods do. -/
import Derived.Test.YthnbmfkmaijibaaReadWalk
namespace Go.Proofs.Ythnbmfkmaijibaa.Sep
open Go.Proofs Go.RowKit Go.Proofs.YthnbmfkmaijibaaW.PrintWords Go.Proofs.YthnbmfkmaijibaaW.PrintLast Go.Proofs.YthnbmfkmaijibaaW.PrintMore Go.Proofs.Ythnbmfkmaijibaa.IMap Go.Proofs.Ythnbmfkmaijibaa.Dev Go.Proofs.Ythnbmfkmaijibaa.PDeviceReads Go.Proofs.Ythnbmfkmaijibaa.Help
set_option linter.unusedVariables false
set_option linter.unusedSimpArgs false
structure RLay where
  n : Nat
  gl : Nat
  cl : Nat
  Aw : Option Addr
  m : Nat
  cw : Nat
  qs : List (Int × List Int × Value)
def RGood (s : DS) (L : RLay) : Prop := s.Ok ∧ s.n = L.n ∧ L.qs.length = L.m ∧ pairs L.qs = s.pend
def cellsR (s : DS) (L : RLay) : Array Value := #[.slice (some ⟨L.gl, 0, none⟩) (512 * L.n) L.cl, .slice L.Aw L.m L.cw, .bool s.off, .int .i64 s.fuse]
abbrev headR (p : Nat) (s : DS) (L : RLay) : List Asn := [Blk p (cellsR s L) 110, Byt (some ⟨L.gl, 0, none⟩) (512 * L.n) L.cl s.dur, Own 41 2 (.slice L.Aw L.m L.cw) L.m (pcells L.qs)]
/-- The document's device at block p. -/
def RefA (p : Nat) (s : DS) : Asn := Ex (RGood s) fun L => All (headR p s L ++ L.qs.map wdat)
section
variable {w0 w w' : World} {p : Nat} {s : DS} {R : List Asn} {L : RLay}
theorem Sep.ropen (S : Sep w0 w (RefA p s :: R)) : ∃ L, RGood s L ∧ Sep w0 w (Blk p (cellsR s L) 110 :: Byt (some ⟨L.gl, 0, none⟩) (512 * L.n) L.cl s.dur :: Own 41 2 (.slice L.Aw L.m L.cw) L.m (pcells L.qs) :: (R ++ L.qs.map wdat)) := by
  obtain ⟨L, hg, S1⟩ := S.openE
  refine ⟨L, hg, S1.openA.perm ?_⟩
  exact ((List.perm_append_comm (l₁ := L.qs.map wdat) (l₂ := R)).cons _ |>.cons _ |>.cons _)
theorem Sep.rclose (hg : RGood s L) (S : Sep w0 w (Blk p (cellsR s L) 110 :: Byt (some ⟨L.gl, 0, none⟩) (512 * L.n) L.cl s.dur :: Own 41 2 (.slice L.Aw L.m L.cw) L.m (pcells L.qs) :: (R ++ L.qs.map wdat))) : Sep w0 w (RefA p s :: R) := by
  refine Sep.closeE (f := fun L => All (headR p s L ++ L.qs.map wdat)) L hg (Sep.closeA (S.perm ?_))
  exact ((List.perm_append_comm (l₁ := R) (l₂ := L.qs.map wdat)).cons _ |>.cons _ |>.cons _)
theorem Sep.rok (S : Sep w0 w (RefA p s :: R)) : s.Ok := by
  obtain ⟨L, hg, _⟩ := S.ropen
  exact hg.1
theorem rsize_s (S : Sep w0 w (RefA p s :: R)) : Calls Try.prog 64 #[.pointer (some ⟨p, 0, none⟩)] w fun e w' => e = .returned (.int .i64 (s.n : Int)) ∧ w' = w := by
  obtain ⟨L, hg, S1⟩ := S.ropen
  have c0 := S1.cell 0 (v := .slice (some ⟨L.gl, 0, none⟩) (512 * L.n) L.cl) rfl
  have hn := hg.2.1
  have h1 := hg.1.n1
  rw [hn] at h1
  rw [hn]
  clear S S1 hg hn
  have hq : Int.tdiv (512 * (L.n : Int)) 512 = (L.n : Int) := by rw [Int.tdiv_eq_ediv_of_nonneg (by omega)]; omega
  go_enter Try.func64, Try.ntmps64
  go_wp2
  go_ret
  exact ⟨by simp, rfl⟩
theorem rpower_s (S : Sep w0 w (RefA p s :: R)) : Calls Try.prog 65 #[.pointer (some ⟨p, 0, none⟩)] w fun e w' => e = .returned (.bool (!s.off)) ∧ w' = w := by
  obtain ⟨L, hg, S1⟩ := S.ropen
  have c2 := S1.cell 2 (v := .bool s.off) rfl
  clear S S1 hg
  go_enter Try.func65, Try.ntmps65
  go_wp2
  go_ret
  exact ⟨rfl, rfl⟩
theorem rarm_s (S : Sep w0 w (RefA p s :: R)) (k : Int) (hk : k < 9223372036854775808) : Calls Try.prog 68 #[.pointer (some ⟨p, 0, none⟩), .int .i64 k] w fun e w' => e = .returned (.int .i64 (s.arm k).1) ∧ Sep w0 w' (RefA p (s.arm k).2 :: R) := by
  obtain ⟨L, hg, S1⟩ := S.ropen
  have c2 := S1.cell 2 (v := .bool s.off) rfl
  have c3 := S1.cell 3 (v := .int .i64 s.fuse) rfl
  have f3 := S1.free 3
  have HS := Aside0.mk S
  have HS1 := Aside0.mk S1
  have HG := Aside0.mk hg
  clear S S1 hg
  go_enter Try.func68, Try.ntmps68
  by_cases h0 : k < 0
  · have e : s.arm k = (1, s) := by simp [DS.arm, h0]
    have HE := Aside0.mk e
    clear e
    go_wp2
    go_ret
    rw [HE.out]
    exact ⟨rfl, HS.out⟩
  · cases ho : s.off with
    | true =>
      have e : s.arm k = (3, s) := by simp [DS.arm, h0, ho]
      have HE := Aside0.mk e
      clear e
      rw [ho] at c2
      go_wp2
      go_ret
      rw [HE.out]
      exact ⟨rfl, HS.out⟩
    | false =>
      have e : s.arm k = (0, { s with fuse := k }) := by unfold DS.arm; rw [if_neg h0, ho, if_neg (by simp)]
      have HE := Aside0.mk e
      have ho' := Aside0.mk ho
      clear e
      rw [ho] at c2
      clear ho
      have S2 := HS1.out.set 3 (.int .i64 k)
      have HS2 := Aside0.mk S2
      clear S2
      go_wp2
      go_ret
      rw [HE.out]
      have h := HG.out
      have hok : DS.Ok { s with fuse := k } := ⟨h.1.n0, h.1.n1, h.1.len, h.1.pend, by simp; omega, by simp; omega⟩
      exact ⟨rfl, Sep.rclose (s := { s with fuse := k }) ⟨hok, h.2.1, h.2.2.1, h.2.2.2⟩ HS2.out⟩
theorem fails_s (S : Sep w0 w (RefA p s :: R)) : Calls Try.prog 73 #[.pointer (some ⟨p, 0, none⟩)] w fun e w' => e = .returned (.bool (!s.powered.1)) ∧ Sep w0 w' (RefA p s.powered.2 :: R) := by
  obtain ⟨L, hg, S1⟩ := S.ropen
  have c2 := S1.cell 2 (v := .bool s.off) rfl
  have c3 := S1.cell 3 (v := .int .i64 s.fuse) rfl
  have f2 := S1.free 2
  have f3 := S1.free 3
  have h0 := hg.1.fuse0
  have h1 := hg.1.fuse1
  have HS := Aside0.mk S
  have HS1 := Aside0.mk S1
  have HG := Aside0.mk hg
  clear S S1 hg
  go_enter Try.func73, Try.ntmps73
  cases ho : s.off with
  | true =>
    have HE : Aside0 (s.powered = (false, s)) := ⟨by simp [DS.powered, ho]⟩
    rw [ho] at c2
    clear ho
    go_wp2
    go_ret
    rw [HE.out]
    exact ⟨rfl, HS.out⟩
  | false =>
    rw [ho] at c2
    by_cases hf : s.fuse > 0
    · have HE : Aside0 (s.powered = (!(s.fuse - 1 == 0), { s with fuse := s.fuse - 1, off := s.fuse - 1 == 0 })) := ⟨by simp [DS.powered, ho, hf]⟩
      clear ho
      have hw : IntKind.i64.wrap (s.fuse - 1) = s.fuse - 1 := by rw [IntKind.wrap_i64]; omega
      have S2 := (HS1.out.set 3 (.int .i64 (s.fuse - 1))).set 2 (.bool (s.fuse - 1 == 0))
      have HS2 := Aside0.mk S2
      clear S2
      go_wp2
      go_ret
      rw [HE.out]
      have h := HG.out
      have hok : DS.Ok { s with fuse := s.fuse - 1, off := s.fuse - 1 == 0 } := ⟨h.1.n0, h.1.n1, h.1.len, h.1.pend, by simp; omega, by simp; omega⟩
      exact ⟨by simp, Sep.rclose (s := { s with fuse := s.fuse - 1, off := s.fuse - 1 == 0 }) ⟨hok, h.2.1, h.2.2.1, h.2.2.2⟩ HS2.out⟩
    · have HE : Aside0 (s.powered = (true, s)) := ⟨by unfold DS.powered; rw [ho, if_neg (by simp), if_neg (by omega)]⟩
      clear ho
      go_wp2
      go_ret
      rw [HE.out]
      exact ⟨rfl, HS.out⟩
end
end Go.Proofs.Ythnbmfkmaijibaa.Sep
