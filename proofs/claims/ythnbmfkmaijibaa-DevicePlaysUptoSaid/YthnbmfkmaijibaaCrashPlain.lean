/- Steps of writes and flushes: the plain law. -/
import Derived.Test.YthnbmfkmaijibaaDevSep
import Derived.Test.YthnbmfkmaijibaaAllPlain
namespace Go.Proofs.Ythnbmfkmaijibaa.Help
open Go.Proofs Go.RowKit Go.Proofs.YthnbmfkmaijibaaW.PrintWords Go.Proofs.YthnbmfkmaijibaaW.PrintLast Go.Proofs.YthnbmfkmaijibaaW.PrintMore Go.Proofs.Ythnbmfkmaijibaa.IMap Go.Proofs.Ythnbmfkmaijibaa.Dev Go.Proofs.Ythnbmfkmaijibaa.PDeviceReads Go.Proofs.Ythnbmfkmaijibaa.Sep
set_option linter.unusedVariables false
set_option linter.unusedSimpArgs false
def stp (N : Nat) (s : DS) (x : Wr) : DS := if x.2.2 then s.flush.2 else (s.write (plc x.1 N) (r x.2.1)).2
/-- The state behind k steps. -/
def run (N : Nat) (l : List Wr) : Nat → DS
  | 0 => DS.made (List.replicate (512 * N) 0)
  | k + 1 => stp N (run N l k) (l.getD k (0, 0, false))
theorem flush_yes {s : DS} (ho : s.off = false) (hf : s.fuse = 0) : s.flush = (0, s.settle fun _ => true) := by
  have hp : s.powered = (true, s) := by unfold DS.powered; rw [ho, if_neg (by simp), if_neg (by omega)]
  unfold DS.flush
  rw [hp, if_pos rfl]
structure Live (N : Nat) (s : DS) (k : Nat) : Prop where
  ok : s.Ok
  on : s.off = false
  fuse : s.fuse = 0
  n : s.n = N
  few : s.pend.length ≤ k
theorem settle_n {s : DS} (h : s.Ok) (keep : Nat → Bool) : (s.settle keep).n = s.n := by
  have hl : (s.settle keep).dur.length = s.dur.length := length_settled h.len h.pend _ (Nat.le_refl _)
  unfold DS.n
  rw [hl]
theorem write_ok {s : DS} (h : s.Ok) {b : Int} {d : List Int} (hb : 0 ≤ b ∧ b < (s.n : Int)) (hd : d.length = 512) : ({ s with pend := s.pend ++ [(b, d)] } : DS).Ok :=
  ⟨h.n0, h.n1, h.len, fun x hx => by
    rcases List.mem_append.1 hx with h1 | h1
    · exact h.pend x h1
    · rw [List.mem_singleton.1 h1]; exact ⟨hb.1, hb.2, hd⟩, h.fuse0, h.fuse1⟩
theorem Live.write {N : Nat} {s : DS} {k : Nat} (h : Live N s k) (h0 : 1 ≤ N) (h1 : N ≤ 4096) (b x : Int) : s.write (plc b N) (r x) = (0, { s with pend := s.pend ++ [(plc b N, r x)] }) ∧ Live N { s with pend := s.pend ++ [(plc b N, r x)] } (k + 1) := by
  have hb : 0 ≤ plc b N ∧ plc b N < (s.n : Int) := by rw [h.n]; exact plc_in h0 h1
  refine ⟨write_yes hb (er _) h.on h.fuse, write_ok h.ok hb (er _), h.on, h.fuse, h.n, ?_⟩
  have := h.few
  show (s.pend ++ [_]).length ≤ k + 1
  rw [List.length_append]
  simp
  omega
theorem Live.flush {N : Nat} {s : DS} {k : Nat} (h : Live N s k) : s.flush = (0, s.settle fun _ => true) ∧ Live N (s.settle fun _ => true) k :=
  ⟨flush_yes h.on h.fuse, h.ok.settle _, h.on, h.fuse, (settle_n h.ok _).trans h.n, Nat.zero_le _⟩
theorem Live.stp {N : Nat} {s : DS} {k : Nat} (h : Live N s k) (h0 : 1 ≤ N) (h1 : N ≤ 4096) (x : Wr) : Live N (stp N s x) (k + 1) := by
  unfold Help.stp
  split
  · rw [h.flush.1]
    have := h.flush.2
    exact ⟨this.ok, this.on, this.fuse, this.n, Nat.le_succ_of_le this.few⟩
  · rw [(h.write h0 h1 x.1 x.2.1).1]
    exact (h.write h0 h1 x.1 x.2.1).2
theorem run_live (N : Nat) (h0 : 1 ≤ N) (h1 : N ≤ 4096) (l : List Wr) : ∀ k, Live N (run N l k) k := by
  intro k
  induction k with
  | zero =>
    have hn : (DS.made (List.replicate (512 * N) (0 : Int))).n = N := by
      show (List.replicate (512 * N) (0 : Int)).length / 512 = N
      rw [List.length_replicate]
      omega
    exact ⟨made_ok h0 h1 (by rw [List.length_replicate]), rfl, rfl, hn, Nat.le_refl _⟩
  | succ k ih => exact ih.stp h0 h1 _
theorem run_flush {N : Nat} {l : List Wr} {k : Nat} {x : Wr} (hx : x = l.getD k (0, 0, false)) (h : x.2.2 = true) : run N l (k + 1) = (run N l k).flush.2 := by
  show stp N (run N l k) (l.getD k (0, 0, false)) = _
  unfold stp
  rw [← hx, if_pos h]
theorem run_write {N : Nat} {l : List Wr} {k : Nat} {x : Wr} (hx : x = l.getD k (0, 0, false)) (h : x.2.2 = false) : run N l (k + 1) = ((run N l k).write (plc x.1 N) (r x.2.1)).2 := by
  show stp N (run N l k) (l.getD k (0, 0, false)) = _
  unfold stp
  rw [← hx, if_neg (by rw [h]; simp)]
/-! ### a write laid byte by byte -/
theorem splice_nil (d : List Int) (o : Nat) : splice d o [] = d := by simp [splice]
theorem splice_step (d x : List Int) (o k : Nat) (hk : k < x.length) (h : o + x.length ≤ d.length) : (splice d o (x.take k)).set (o + k) (x.getD k 0) = splice d o (x.take (k + 1)) := by
  unfold splice
  have e1 : (d.take o).length = o := by simp; omega
  have e2 : (x.take k).length = k := by simp; omega
  rw [List.set_append, if_neg (by omega), e1, show o + k - o = k by omega, List.set_append, if_neg (by omega), e2, Nat.sub_self, List.take_succ_eq_append_getElem hk]
  have e3 : (x.take k ++ [x[k]]).length = k + 1 := by simp; omega
  rw [e3, List.append_assoc]
  have hok : o + k < d.length := by omega
  have e4 : d.drop (o + k) = d[o + k] :: d.drop (o + (k + 1)) := List.drop_eq_getElem_cons hok
  rw [e4, List.set_cons_zero]
  simp [List.getD_eq_getElem?_getD, List.getElem?_eq_getElem hk]
theorem settled_past {ks : List Bool} {ps : List (Int × List Int)} {d : List Int} {i : Nat} (h : ks.length ≤ i) : ∀ m, settled (fun j => ks.getD j false) ps d (i + m) = settled (fun j => ks.getD j false) ps d i := by
  intro m
  induction m with
  | zero => rfl
  | succ m ih =>
    show (if ks.getD (i + m) false then _ else settled (fun j => ks.getD j false) ps d (i + m)) = _
    have e : ks.getD (i + m) false = false := by rw [List.getD_eq_getElem?_getD, List.getElem?_eq_none (by omega)]; rfl
    rw [e, if_neg (by simp), ih]
theorem settled_end {ks : List Bool} {ps : List (Int × List Int)} {d : List Int} {i : Nat} (h : i = ps.length ∨ (i ≤ ps.length ∧ ks.length ≤ i)) : settled (fun j => ks.getD j false) ps d i = settled (fun j => ks.getD j false) ps d ps.length := by
  rcases h with rfl | ⟨h1, h2⟩
  · rfl
  · have := settled_past (ps := ps) (d := d) h2 (ps.length - i)
    rw [show i + (ps.length - i) = ps.length by omega] at this
    exact this.symm
theorem crash_dur {s : DS} {ks : List Bool} : (s.crash ks).dur = settled (fun j => ks.getD j false) s.pend s.dur s.pend.length := rfl
theorem settled_no {ks : List Bool} {ps : List (Int × List Int)} {d : List Int} {i : Nat} (h : ks.getD i false = false) : settled (fun j => ks.getD j false) ps d (i + 1) = settled (fun j => ks.getD j false) ps d i := by
  show (if ks.getD i false then _ else settled (fun j => ks.getD j false) ps d i) = _
  rw [h, if_neg (by simp)]
theorem settled_yes {ks : List Bool} {ps : List (Int × List Int)} {d : List Int} {i : Nat} {x : Int × List Int} (h : ks.getD i false = true) (hx : ps[i]? = some x) : settled (fun j => ks.getD j false) ps d (i + 1) = splice (settled (fun j => ks.getD j false) ps d i) (x.1.toNat * 512) x.2 := by
  show (if ks.getD i false then lay (settled (fun j => ks.getD j false) ps d i) (ps.getD i (0, [])).1 (ps.getD i (0, [])).2 else _) = _
  rw [h, if_pos rfl, List.getD_eq_getElem?_getD, hx]
  rfl
/-! ### whatever is done to it -/
structure Fit (N : Nat) (s : DS) (k : Nat) : Prop where
  ok : s.Ok
  n : s.n = N
  few : s.pend.length ≤ k
theorem Fit.up {N : Nat} {s : DS} {k m : Nat} (h : Fit N s k) (hm : k ≤ m) : Fit N s m := ⟨h.ok, h.n, Nat.le_trans h.few hm⟩
theorem powered_n (s : DS) : s.powered.2.n = s.n := by unfold DS.n; rw [powered_dur]
theorem Fit.powered {N : Nat} {s : DS} {k : Nat} (h : Fit N s k) : Fit N s.powered.2 k := ⟨h.ok.powered, (powered_n s).trans h.n, by rw [powered_pend]; exact h.few⟩
theorem Fit.write {N : Nat} {s : DS} {k : Nat} (h : Fit N s k) (b : Int) (d : List Int) : Fit N (s.write b d).2 (k + 1) := by
  unfold DS.write
  split
  · rename_i hb
    split
    · rename_i hd
      split
      · refine ⟨write_ok h.powered.ok (by rw [powered_n]; exact hasB_iff.1 hb) hd, h.powered.n, ?_⟩
        have := h.powered.few
        show (s.powered.2.pend ++ [_]).length ≤ k + 1
        rw [List.length_append]
        simp
        omega
      · exact h.powered.up (Nat.le_succ k)
    · exact h.up (Nat.le_succ k)
  · exact h.up (Nat.le_succ k)
theorem Fit.settle {N : Nat} {s : DS} {k : Nat} (h : Fit N s k) (keep : Nat → Bool) : Fit N (s.settle keep) k := ⟨h.ok.settle _, (settle_n h.ok _).trans h.n, Nat.zero_le _⟩
theorem Fit.flush {N : Nat} {s : DS} {k : Nat} (h : Fit N s k) : Fit N s.flush.2 (k + 1) := by
  unfold DS.flush
  split
  · exact (h.powered.settle _).up (Nat.le_succ k)
  · exact h.powered.up (Nat.le_succ k)
theorem Fit.crash {N : Nat} {s : DS} {k : Nat} (h : Fit N s k) (ks : List Bool) : Fit N (s.crash ks) k := by
  have := h.settle (fun i => ks.getD i false)
  exact ⟨⟨this.ok.n0, this.ok.n1, this.ok.len, this.ok.pend, Int.le_refl 0, by show (0 : Int) < _; omega⟩, this.n, this.few⟩
theorem Fit.arm {N : Nat} {s : DS} {k : Nat} (h : Fit N s k) (a : Int) (ha : a < 9223372036854775808) : Fit N (s.arm a).2 k := by
  unfold DS.arm
  split
  · exact h
  · split
    · exact h
    · exact ⟨⟨h.ok.n0, h.ok.n1, h.ok.len, h.ok.pend, by simp; omega, by simp; omega⟩, h.n, h.few⟩
theorem Live.fit {N : Nat} {s : DS} {k : Nat} (h : Live N s k) : Fit N s k := ⟨h.ok, h.n, h.few⟩
theorem lastD_mem {s : DS} {b : Int} {d : List Int} (h : s.lastD b = some d) : ∃ x ∈ s.pend, x.2 = d ∧ x.1 = b := by
  unfold DS.lastD at h
  cases hf : s.pend.reverse.find? (fun x => x.1 == b) with
  | none => rw [hf] at h; cases h
  | some x =>
    rw [hf] at h
    have h1 := List.mem_of_find?_eq_some hf
    have h2 := List.find?_some hf
    exact ⟨x, List.mem_reverse.1 h1, Option.some.inj h, by simpa using h2⟩
theorem read_len {s : DS} (h : s.Ok) (b : Int) : (s.read b).1.length ≤ 512 := by
  unfold DS.read
  split
  · split
    · exact Nat.zero_le _
    · show ((s.lastD b).getD (s.blk b)).length ≤ 512
      cases hl : s.lastD b with
      | none => simp [DS.blk]; omega
      | some d =>
        obtain ⟨x, hx, rfl, _⟩ := lastD_mem hl
        have := (h.pend x hx).2.2
        simp [this]
  · exact Nat.zero_le _
theorem Fit.few_ {N : Nat} {s : DS} {k : Nat} (h : Fit N s k) (hk : k ≤ 1000000) : s.pend.length ≤ 1000000000000 := by have := h.few; omega
theorem Fit.dur {N : Nat} {s : DS} {k : Nat} (h : Fit N s k) : s.dur.length = 512 * N := by have h1 := h.ok.len; rw [h.n] at h1; exact h1
theorem fit_of {N : Nat} {s : DS} {k : Nat} (h : Fit N s k) : fit s.dur = true := by
  have h1 := h.dur
  have h2 := h.ok.n0
  have h3 := h.ok.n1
  rw [h.n] at h2 h3
  simp [fit]
  omega
theorem crash_nil_is {s : DS} : s.crash [] = DS.made s.dur := by
  have h : ∀ i, settled (fun i => ([] : List Bool).getD i false) s.pend s.dur i = s.dur := by
    intro i
    induction i with
    | zero => rfl
    | succ i ih =>
      show (if ([] : List Bool).getD i false then _ else settled _ s.pend s.dur i) = _
      rw [show ([] : List Bool).getD i false = false from rfl, if_neg (by simp)]
      exact ih
  have h1 : (s.crash []).dur = s.dur := h _
  have h2 : s.crash [] = ⟨(s.crash []).dur, [], false, 0⟩ := rfl
  rw [h2, h1]
  rfl
theorem Fit.pend_lens {N : Nat} {s : DS} {k : Nat} (h : Fit N s k) : ∀ x ∈ s.pend, x.2.length ≤ 140737488355328 := fun x hx => by have := (h.ok.pend x hx).2.2; omega
end Go.Proofs.Ythnbmfkmaijibaa.Help
