/- Flush, Crash. -/
import Derived.Test.YthnbmfkmaijibaaDevSettle
namespace Go.Proofs.Ythnbmfkmaijibaa.Dev
open Go.Proofs Go.RowKit Go.Proofs.YthnbmfkmaijibaaW.PrintWords Go.Proofs.YthnbmfkmaijibaaW.PrintLast Go.Proofs.YthnbmfkmaijibaaW.PrintMore Go.Proofs.Ythnbmfkmaijibaa.IMap Go.Proofs.Ythnbmfkmaijibaa.Locks
set_option linter.unusedVariables false
set_option linter.unusedSimpArgs false
set_option maxHeartbeats 1000000 in
theorem flush_any {w : World} {p : Nat} {s : DS} {F : Nat → Prop} (h : Dev w p s F) : Calls Try.prog 18 #[.pointer (some ⟨p, 0, none⟩)] w fun e w' => e = .returned (.int .i64 s.flush.1) ∧ Dev w' p s.flush.2 F ∧ Chg F w w' := by
  obtain ⟨L, h⟩ := h
  go_enter_defers Try.func18, Try.ntmps18
  go_wp2_with fail
  refine (Go.MuLone.lock_free muLib ⟨p, 0, none⟩ _ h.c0 (h.fz 0)).mono ?_
  rintro e w1 ⟨rfl, hw1⟩
  have h1 : DevL 1 w1 p s F L := by rw [hw1]; exact h.lock
  have k1 : Chg F w w1 := by rw [hw1]; exact Chg.set h.inp
  clear hw1
  cases hw : s.powered.1 with
  | false =>
    have e : s.flush = (3, s.powered.2) := by simp [DS.flush, hw]
    go_wp2_with (go_at_call 51; refine (powered_in h1).mono ?_; rw [hw]; rintro e w4 ⟨rfl, h4, k4⟩)
    refine leaves_cons (f := 50) (args := #[.pointer (some ⟨p, 0, none⟩)]) (by simp) (by simp [go_sem]) ?_
    refine (Go.MuLone.unlock_deferred muLib ⟨p, 0, none⟩ .returning _ h4.c0 (h4.fz 0)).mono ?_
    rintro e u2 w2 ⟨rfl, rfl, hw2⟩
    have h2 := h4.lock (lk' := 0)
    rw [← hw2] at h2
    have k2 := h4.chg0 (.int .i32 0)
    rw [← hw2] at k2
    clear hw2
    refine ⟨_, results_tmp rfl _ _ _, ?_⟩
    rw [e]
    exact ⟨rfl, ⟨_, h2⟩, (k1.trans k4).trans k2⟩
  | true =>
    have e : s.flush = (0, s.powered.2.settle fun _ => true) := by simp [DS.flush, hw]
    go_wp2_with (first | (go_at_call 51; refine (powered_in h1).mono ?_; rw [hw]; rintro e w4 ⟨rfl, h4, k4⟩) | (go_at_call 52; refine (settle_Flush1 h4).mono ?_; rintro e w5 ⟨rfl, ⟨L5, h5⟩, k5⟩))
    refine leaves_cons (f := 50) (args := #[.pointer (some ⟨p, 0, none⟩)]) (by simp) (by simp [go_sem]) ?_
    refine (Go.MuLone.unlock_deferred muLib ⟨p, 0, none⟩ .returning _ h5.c0 (h5.fz 0)).mono ?_
    rintro e u2 w2 ⟨rfl, rfl, hw2⟩
    have h2 := h5.lock (lk' := 0)
    rw [← hw2] at h2
    have k2 := h5.chg0 (.int .i32 0)
    rw [← hw2] at k2
    clear hw2
    refine ⟨_, results_tmp rfl _ _ _, ?_⟩
    rw [e]
    exact ⟨rfl, ⟨_, h2⟩, ((k1.trans k4).trans k5).trans k2⟩
theorem blk_up2 {w : World} {n : Nat} {x : Obj} (h : w.heap[n]? = some x) (o : Obj) : (w.alloc o).heap[n]? = some x := (Below.heap_alloc w o n (Array.getElem?_eq_some_iff.1 h).1).trans h
theorem crashed {lk : Int} {w : World} {p : Nat} {s : DS} {F : Nat → Prop} {L : Lay} (h : DevL lk w p s F L) :
    DevL lk ((w.setCell ⟨p, 5, none⟩ (.bool false)).setCell ⟨p, 6, none⟩ (.int .i64 0)) p { s with off := false, fuse := 0 } F L := by
  have ok1 : DS.Ok { s with off := false } := ⟨h.ok.n0, h.ok.n1, h.ok.len, h.ok.pend, h.ok.fuse0, h.ok.fuse1⟩
  exact (h.cell (s' := { s with off := false }) (i := 5) rfl rfl rfl rfl ok1).cell (i := 6) rfl rfl rfl rfl ⟨h.ok.n0, h.ok.n1, h.ok.len, h.ok.pend, by simp, by simp⟩
set_option maxHeartbeats 1000000 in
theorem crash_any {w : World} {p : Nat} {s : DS} {F : Nat → Prop} (h : Dev w p s F) (A : Option Addr) (c : Nat) (ks : List Bool) (hr : ReadsOf Value.bool false w A ks.length ks) (hA : ∀ a, A = some a → 0 < ks.length → ¬ F a.block) :
    Calls Try.prog 28 #[.pointer (some ⟨p, 0, none⟩), .slice A ks.length c] w fun e w' => e = .returned (.tuple #[]) ∧ Dev w' p (s.crash ks) F ∧ Chg F w w' := by
  obtain ⟨L, h0⟩ := h
  have hmf : ∀ (fn : Fn) (first cap : Array Value) (w : World), (Instr.makeFunc fn first cap).run Try.prog w = .ok (.func fn first cap) w := fun _ _ _ _ => rfl
  have hb := heap_at w (.cells #[.slice A ks.length c] 50)
  have hbF : ¬ F w.heap.size := fun q => by have := h0.lt _ q; omega
  go_enter_defers Try.func28, Try.ntmps28
  go_wp2_with fail
  have h : DevL 0 (w.alloc (.cells #[.slice A ks.length c] 50)) p s F L := h0.move (below_alloc (Below.refl _ _) _).size fun k hk => Below.heap_alloc w _ k (h0.lt k hk)
  refine (Go.MuLone.lock_free muLib ⟨p, 0, none⟩ _ h.c0 (h.fz 0)).mono ?_
  rintro e w1 ⟨rfl, hw1⟩
  have h1 : DevL 1 w1 p s F L := by rw [hw1]; exact h.lock
  have k0 : Chg F w (w.alloc (.cells #[.slice A ks.length c] 50)) := Chg.ofBelow (below_alloc (Below.refl _ _) _)
  have k1' : Chg F (w.alloc (.cells #[.slice A ks.length c] 50)) w1 := by rw [hw1]; exact Chg.set h.inp
  clear hw1
  have hb1 := (k1'.block w.heap.size (by rw [World.size_alloc]; omega) hbF).trans hb
  have k1 := k0.trans k1'
  have hr1 := reads_of_chg hr k1 hA
  go_wp2_with (go_at_call 52; refine (settle_Crash1 h1 w.heap.size A c ks hb1 hbF hr1 hA).mono ?_; rintro e w5 ⟨rfl, ⟨L5, h5⟩, k5⟩; have c55 := h5.c5; have c56 := h5.c6; have f55 := h5.fz 5; have f56 := h5.fz 6)
  have h6 := crashed h5
  refine leaves_cons (f := 50) (args := #[.pointer (some ⟨p, 0, none⟩)]) (by simp) (by simp [go_sem]) ?_
  refine (Go.MuLone.unlock_deferred muLib ⟨p, 0, none⟩ .returning _ h6.c0 (h6.fz 0)).mono ?_
  rintro e u2 w2 ⟨rfl, rfl, hw2⟩
  have h2 := h6.lock (lk' := 0)
  rw [← hw2] at h2
  have k2 := h6.chg0 (.int .i32 0)
  rw [← hw2] at k2
  clear hw2
  exact ⟨_, results_none rfl _ _ _, rfl, ⟨_, h2⟩, ((k1.trans k5).trans ((Chg.set h.inp).trans (Chg.set h.inp))).trans k2⟩
end Go.Proofs.Ythnbmfkmaijibaa.Dev
