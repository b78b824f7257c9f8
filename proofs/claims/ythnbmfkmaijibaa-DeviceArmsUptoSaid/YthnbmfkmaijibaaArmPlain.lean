/- DeviceArms: the plain law. -/
import Derived.Test.YthnbmfkmaijibaaCrashPlain
namespace Go.Proofs.Ythnbmfkmaijibaa.Help
open Go.Proofs Go.RowKit Go.Proofs.YthnbmfkmaijibaaW.PrintWords Go.Proofs.YthnbmfkmaijibaaW.PrintLast Go.Proofs.YthnbmfkmaijibaaW.PrintMore Go.Proofs.Ythnbmfkmaijibaa.IMap Go.Proofs.Ythnbmfkmaijibaa.Dev Go.Proofs.Ythnbmfkmaijibaa.PDeviceReads Go.Proofs.Ythnbmfkmaijibaa.Sep
set_option linter.unusedVariables false
set_option linter.unusedSimpArgs false
/-- An armed device beside one that is not. -/
structure Armed (N K i : Nat) (D C : DS) : Prop where
  dur : D.dur = C.dur
  pend : D.pend = C.pend
  live : Live N C i
  ok : D.Ok
  on : i < K → D.off = false ∧ D.fuse = ((K - i : Nat) : Int)
  no : K ≤ i → D.off = true
theorem Armed.n {N K i : Nat} {D C : DS} (h : Armed N K i D C) : D.n = N := by
  have := h.live.n
  unfold DS.n at this ⊢
  rw [h.dur]
  exact this
theorem Armed.fit {N K i : Nat} {D C : DS} (h : Armed N K i D C) : Fit N D i := ⟨h.ok, h.n, by rw [h.pend]; exact h.live.few⟩
theorem Armed.powered {N K i : Nat} {D C : DS} (h : Armed N K i D C) (hlt : i + 1 < K) : D.powered = (true, { D with fuse := ((K - (i + 1) : Nat) : Int), off := false }) := by
  obtain ⟨h1, h2⟩ := h.on (by omega)
  have e : D.fuse - 1 = ((K - (i + 1) : Nat) : Int) := by omega
  have e2 : (((K - (i + 1) : Nat) : Int) == 0) = false := beq_eq_false_iff_ne.2 (by omega)
  unfold DS.powered
  rw [h1, if_neg (by simp), if_pos (by omega), e, e2]
  rfl
theorem Armed.fails {N K i : Nat} {D C : DS} (h : Armed N K i D C) (hge : K ≤ i + 1) : D.powered.1 = false ∧ D.powered.2.off = true := by
  by_cases hi : i < K
  · obtain ⟨h1, h2⟩ := h.on hi
    have e : D.fuse - 1 = 0 := by omega
    unfold DS.powered
    rw [h1, if_neg (by simp), if_pos (by omega), e]
    exact ⟨rfl, rfl⟩
  · have h1 := h.no (by omega)
    unfold DS.powered
    rw [h1, if_pos rfl]
    exact ⟨rfl, h1⟩
theorem Armed.stay {N K i : Nat} {D C : DS} (h : Armed N K i D C) (hge : K ≤ i + 1) : Armed N K (i + 1) D.powered.2 C :=
  ⟨(powered_dur D).trans h.dur, (powered_pend D).trans h.pend, ⟨h.live.ok, h.live.on, h.live.fuse, h.live.n, Nat.le_succ_of_le h.live.few⟩, h.ok.powered, fun q => by omega, fun _ => (h.fails hge).2⟩
theorem Armed.flush {N K i : Nat} {D C : DS} (h : Armed N K i D C) (hlt : i + 1 < K) : D.flush.1 = 0 ∧ D.flush.2.off = false ∧ Armed N K (i + 1) D.flush.2 C.flush.2 := by
  have hp := h.powered hlt
  have hF : D.flush = (0, ({ D with fuse := ((K - (i + 1) : Nat) : Int), off := false } : DS).settle fun _ => true) := by
    unfold DS.flush
    rw [hp, if_pos rfl]
  have hC := h.live.flush
  have hok : D.flush.2.Ok := (h.fit.flush).ok
  have hL := hC.2
  rw [hF] at hok ⊢
  rw [hC.1]
  refine ⟨rfl, rfl, ?_, rfl, ⟨hL.ok, hL.on, hL.fuse, hL.n, Nat.le_succ_of_le hL.few⟩, hok, fun _ => ⟨rfl, rfl⟩, fun q => by omega⟩
  show settled _ D.pend D.dur D.pend.length = settled _ C.pend C.dur C.pend.length
  rw [h.dur, h.pend]
theorem Armed.flush_no {N K i : Nat} {D C : DS} (h : Armed N K i D C) (hge : K ≤ i + 1) : D.flush.1 = 3 ∧ D.flush.2.off = true ∧ Armed N K (i + 1) D.flush.2 C := by
  have hp := h.fails hge
  have hF : D.flush = (3, D.powered.2) := by
    unfold DS.flush
    rw [hp.1, if_neg (by simp)]
  rw [hF]
  exact ⟨rfl, hp.2, h.stay hge⟩
theorem Armed.write {N K i : Nat} {D C : DS} (h : Armed N K i D C) (h0 : 1 ≤ N) (h1 : N ≤ 4096) (hlt : i + 1 < K) (b x : Int) : (D.write (plc b N) (r x)).1 = 0 ∧ (D.write (plc b N) (r x)).2.off = false ∧ Armed N K (i + 1) (D.write (plc b N) (r x)).2 (C.write (plc b N) (r x)).2 := by
  have hp := h.powered hlt
  have hb : 0 ≤ plc b N ∧ plc b N < (D.n : Int) := by rw [h.n]; exact plc_in h0 h1
  have hW : D.write (plc b N) (r x) = (0, { D with fuse := ((K - (i + 1) : Nat) : Int), off := false, pend := D.pend ++ [(plc b N, r x)] }) := by
    unfold DS.write
    rw [if_pos (hasB_iff.2 hb), if_pos (er x), hp, if_pos rfl]
  have hC := h.live.write h0 h1 b x
  have hok := (h.fit.write (plc b N) (r x)).ok
  rw [hW] at hok ⊢
  rw [hC.1]
  refine ⟨rfl, rfl, h.dur, ?_, hC.2, hok, fun _ => ⟨rfl, rfl⟩, fun q => by omega⟩
  show D.pend ++ [_] = C.pend ++ [_]
  rw [h.pend]
theorem Armed.write_no {N K i : Nat} {D C : DS} (h : Armed N K i D C) (h0 : 1 ≤ N) (h1 : N ≤ 4096) (hge : K ≤ i + 1) (b x : Int) : (D.write (plc b N) (r x)).1 = 3 ∧ (D.write (plc b N) (r x)).2.off = true ∧ Armed N K (i + 1) (D.write (plc b N) (r x)).2 C := by
  have hp := h.fails hge
  have hb : 0 ≤ plc b N ∧ plc b N < (D.n : Int) := by rw [h.n]; exact plc_in h0 h1
  have hW : D.write (plc b N) (r x) = (3, D.powered.2) := by
    unfold DS.write
    rw [if_pos (hasB_iff.2 hb), if_pos (er x), hp.1, if_neg (by simp)]
  rw [hW]
  exact ⟨rfl, hp.2, h.stay hge⟩
theorem Fit.out {N : Nat} {s : DS} {k : Nat} (h : Fit N s k) (d : List Int) : s.write (N : Int) d = (52, s) := by
  unfold DS.write
  have hb : s.hasB (N : Int) = false := by
    cases e : s.hasB (N : Int) with
    | false => rfl
    | true => have := hasB_iff.1 e; rw [h.n] at this; omega
  rw [hb, if_neg (by simp)]
theorem Fit.short {N : Nat} {s : DS} {k : Nat} (h : Fit N s k) : s.write 0 [] = (53, s) := by
  unfold DS.write
  have hb : s.hasB 0 = true := hasB_iff.2 ⟨by omega, by have := h.ok.n0; omega⟩
  rw [hb, if_pos rfl, if_neg (by decide)]
theorem armed_start {N K : Nat} (h0 : 1 ≤ N) (h1 : N ≤ 4096) (hK : 1 ≤ K) (hK2 : K ≤ 200) (l : List Wr) : ((run N l 0).arm (K : Int)).1 = 0 ∧ Armed N K 0 ((run N l 0).arm (K : Int)).2 (run N l 0) := by
  have hl := run_live N h0 h1 l 0
  have hA : (run N l 0).arm (K : Int) = (0, { run N l 0 with fuse := (K : Int) }) := by
    unfold DS.arm
    rw [if_neg (by omega), if_neg (by rw [hl.on]; simp)]
  have hok := (hl.fit.arm (K : Int) (by omega)).ok
  rw [hA] at hok ⊢
  exact ⟨rfl, rfl, rfl, hl, hok, fun _ => ⟨hl.on, rfl⟩, fun q => by omega⟩
theorem Armed.read_no {N K i : Nat} {D C : DS} (h : Armed N K i D C) (hge : K ≤ i) : D.read 0 = ([], 3) ∧ D.arm 0 = (3, D) := by
  have hb : D.hasB 0 = true := hasB_iff.2 ⟨by omega, by have := h.ok.n0; omega⟩
  unfold DS.read DS.arm
  rw [hb, h.no hge, if_pos rfl, if_pos rfl, if_neg (by omega), if_pos rfl]
  exact ⟨rfl, rfl⟩
end Go.Proofs.Ythnbmfkmaijibaa.Help
