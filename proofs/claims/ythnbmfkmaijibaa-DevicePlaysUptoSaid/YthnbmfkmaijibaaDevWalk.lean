/- The methods of a device: contracts. -/
import Derived.Test.YthnbmfkmaijibaaDevBase
import Derived.WalkKit
import Derived.StillTailTactics
import Derived.Defers
import Derived.Lib.SliceRun
import Derived.Lib.Hide
import Derived.Deep.RegionHeld3
import Derived.Deep.DeepCutAuto
import Derived.Deep.DeepMust
import Derived.Deep.DeepFit
namespace Go.Proofs.Ythnbmfkmaijibaa.Dev
open Go.Proofs Go.RowKit Go.Proofs.YthnbmfkmaijibaaW.PrintWords Go.Proofs.YthnbmfkmaijibaaW.PrintLast Go.Proofs.YthnbmfkmaijibaaW.PrintMore Go.Proofs.Ythnbmfkmaijibaa.IMap Go.Proofs.Ythnbmfkmaijibaa.Locks
set_option linter.unusedVariables false
set_option linter.unusedSimpArgs false
theorem n_is {s : DS} (h : s.Ok) : Int.tdiv (s.dur.length : Int) 512 = (s.n : Int) := by
  have := h.len
  rw [Int.tdiv_eq_ediv_of_nonneg (by omega)]
  unfold DS.n
  omega
theorem size_in {lk : Int} {w : World} {p : Nat} {s : DS} {F : Nat → Prop} {L : Lay} (h : DevL lk w p s F L) : Calls Try.prog 39 #[.pointer (some ⟨p, 0, none⟩)] w fun e w' => e = .returned (.int .i64 (s.n : Int)) ∧ w' = w := by
  obtain ⟨g, c, e⟩ := h.vd_is
  have c2 := h.c2
  rw [e] at c2
  have hn := n_is h.ok
  go_enter Try.func39, Try.ntmps39
  go_wp2
  go_ret
  have := h.ok.n1
  exact ⟨by simp [wrap64]; omega, rfl⟩
theorem has_in {lk : Int} {w : World} {p : Nat} {s : DS} {F : Nat → Prop} {L : Lay} (h : DevL lk w p s F L) (b : Int) : Calls Try.prog 54 #[.pointer (some ⟨p, 0, none⟩), .int .i64 b] w fun e w' => e = .returned (.bool (s.hasB b)) ∧ w' = w := by
  go_enter Try.func54, Try.ntmps54
  by_cases h0 : 0 ≤ b
  · go_wp2_with (go_at_call 39; refine (size_in h).mono ?_; rintro e w' ⟨rfl, rfl⟩)
    go_ret
    exact ⟨by simp [DS.hasB, h0], rfl⟩
  · go_wp2
    go_ret
    exact ⟨by simp [DS.hasB]; omega, rfl⟩
theorem powered_in {lk : Int} {w : World} {p : Nat} {s : DS} {F : Nat → Prop} {L : Lay} (h : DevL lk w p s F L) : Calls Try.prog 51 #[.pointer (some ⟨p, 0, none⟩)] w fun e w' => e = .returned (.bool s.powered.1) ∧ DevL lk w' p s.powered.2 F L ∧ Chg F w w' := by
  have c5 := h.c5
  have c6 := h.c6
  have f5 := h.fz 5
  have f6 := h.fz 6
  have h0 := h.ok.fuse0
  have h1 := h.ok.fuse1
  go_enter Try.func51, Try.ntmps51
  cases ho : s.off with
  | true =>
    rw [ho] at c5
    go_wp2
    go_ret
    have e : s.powered = (false, s) := by simp [DS.powered, ho]
    rw [e]
    exact ⟨rfl, h, Chg.refl _ _⟩
  | false =>
    rw [ho] at c5
    by_cases hf : s.fuse > 0
    · have hw : IntKind.i64.wrap (s.fuse - 1) = s.fuse - 1 := by rw [IntKind.wrap_i64]; omega
      go_wp2
      go_ret
      have e : s.powered = (!(s.fuse - 1 == 0), { s with fuse := s.fuse - 1, off := s.fuse - 1 == 0 }) := by simp [DS.powered, ho, hf]
      rw [e]
      refine ⟨rfl, (h.cell (s' := { s with fuse := s.fuse - 1 }) (i := 6) rfl rfl rfl rfl ?_).cell (i := 5) ?_ rfl rfl rfl ?_, (Chg.set h.inp).trans (Chg.set h.inp)⟩
      · exact ⟨h.ok.n0, h.ok.n1, h.ok.len, h.ok.pend, by simp; omega, by simp; omega⟩
      · rfl
      · exact ⟨h.ok.n0, h.ok.n1, h.ok.len, h.ok.pend, by simp; omega, by simp; omega⟩
    · go_wp2
      go_ret
      have e : s.powered = (true, s) := by unfold DS.powered; rw [ho, if_neg (by simp), if_neg (by omega)]
      rw [e]
      exact ⟨rfl, h, Chg.refl _ _⟩
theorem info5 : (Try.prog.info? 5).map (fun i => (i.zero, i.size, i.bytes)) = some (some (.int .u8 0), 1, 1) := by kernel_rfl
set_option maxRecDepth 100000 in
theorem clone_any (w : World) (A : Option Addr) (c : Nat) (l : List Int) (hr : ReadsInt w .u8 A l.length l) (hn : l.length ≤ 140737488355328) : Calls Try.prog 55 #[.slice A l.length c] w fun e w' => ∃ v : Value, e = .returned v ∧ w'.ownsRow w.heap.size 5 1 v l.length (nums .u8 l) ∧ Below w.heap.size w w' := by
  have he := fun (W : World) (a : Option Addr) (n c : Nat) => Go.Lib.run_eql_slice_nil (P := Try.prog) W 29 5 a n c 0 0 Try.underlying29
  go_enter Try.func55, Try.ntmps55
  cases A with
  | none =>
    have h0 : l.length = 0 := by
      have := hr.2.2
      by_cases h : 0 < l.length
      · obtain ⟨ad, e, _⟩ := this h
        cases e
      · omega
    obtain rfl := List.length_eq_zero_iff.1 h0
    go_wp2
    go_ret
    exact ⟨_, rfl, own_nil _ _ _ _, Below.refl _ _⟩
  | some ad =>
    have hr2 := fun o => ReadsInt.allocS hr o
    have HO : ∀ o : Array Value, o.size = 0 → (w.alloc (.cells o 5)).ownsRow w.heap.size 5 1 (.slice (some ⟨w.heap.size, 0, none⟩) 0 0) ([] : List Int).length (nums .u8 []) := fun o ho => World.ownsRow_made w o 0 (Nat.le_refl _) (by simp) (by simpa using ho)
    go_wp2_with ((with_reducible refine gate_builtin (b := .append) (xs := #[.tmp 5, .tmp 6]) rfl ?_); at_builtin; go_must (refine print_append_row (w0 := w) w.heap.size rfl (.tmp 5) (.tmp 6) 29 5 .u8 1 rfl Try.underlying29 info5 (by decide) _ ([] : List Int) l (some ad) l.length c rfl rfl ?aO ?aR ?aB ?aS ?aL ?_); (case aO => exact HO _ rfl); (case aR => exact hr2 _); (case aB => exact below_alloc (Below.refl _ _) _); (case aS => simp [World.size_alloc]); (case aL => simp; omega); intro v1 w1 hown hB2 hg2 hat)
    go_ret
    exact ⟨_, rfl, hown, hB2⟩
theorem clone_n (w : World) (A : Option Addr) (n c : Nat) (l : List Int) (hl : l.length = n) (hr : ReadsInt w .u8 A l.length l) (hn : l.length ≤ 140737488355328) : Calls Try.prog 55 #[.slice A n c] w fun e w' => ∃ v : Value, e = .returned v ∧ w'.ownsRow w.heap.size 5 1 v l.length (nums .u8 l) ∧ Below w.heap.size w w' := by
  subst hl
  exact clone_any w A c l hr hn
/-! ### Power, Arm, Durable -/
theorem power_any {w : World} {p : Nat} {s : DS} {F : Nat → Prop} (h : Dev w p s F) : Calls Try.prog 34 #[.pointer (some ⟨p, 0, none⟩)] w fun e w' => e = .returned (.bool (!s.off)) ∧ Dev w' p s F ∧ Chg F w w' := by
  obtain ⟨L, h⟩ := h
  go_enter_defers Try.func34, Try.ntmps34
  go_wp2_with fail
  refine (Go.MuLone.lock_free muLib ⟨p, 0, none⟩ _ h.c0 (h.fz 0)).mono ?_
  rintro e w1 ⟨rfl, hw1⟩
  have h1 : DevL 1 w1 p s F L := by rw [hw1]; exact h.lock
  have k1 : Chg F w w1 := by rw [hw1]; exact Chg.set h.inp
  clear hw1
  have c5 := h1.c5
  go_wp2
  refine leaves_cons (f := 50) (args := #[.pointer (some ⟨p, 0, none⟩)]) (by simp) (by simp [go_sem]) ?_
  refine (Go.MuLone.unlock_deferred muLib ⟨p, 0, none⟩ .returning _ h1.c0 (h1.fz 0)).mono ?_
  rintro e u2 w2 ⟨rfl, rfl, hw2⟩
  have h2 := h1.lock (lk' := 0)
  rw [← hw2] at h2
  have k2 := h1.chg0 (.int .i32 0)
  rw [← hw2] at k2
  clear hw2
  exact ⟨_, results_tmp rfl _ _ _, rfl, ⟨_, h2⟩, k1.trans k2⟩
theorem arm_any {w : World} {p : Nat} {s : DS} {F : Nat → Prop} (h : Dev w p s F) (k : Int) (hk : k < 9223372036854775808) : Calls Try.prog 40 #[.pointer (some ⟨p, 0, none⟩), .int .i64 k] w fun e w' => e = .returned (.int .i64 (s.arm k).1) ∧ Dev w' p (s.arm k).2 F ∧ Chg F w w' := by
  obtain ⟨L, h⟩ := h
  go_enter_defers Try.func40, Try.ntmps40
  go_wp2_with fail
  refine (Go.MuLone.lock_free muLib ⟨p, 0, none⟩ _ h.c0 (h.fz 0)).mono ?_
  rintro e w1 ⟨rfl, hw1⟩
  have h1 : DevL 1 w1 p s F L := by rw [hw1]; exact h.lock
  have k1 : Chg F w w1 := by rw [hw1]; exact Chg.set h.inp
  clear hw1
  have c5 := h1.c5
  have f6 := h1.fz 6
  have c6 := h1.c6
  by_cases h0 : k < 0
  · have e : s.arm k = (1, s) := by simp [DS.arm, h0]
    go_wp2
    refine leaves_cons (f := 50) (args := #[.pointer (some ⟨p, 0, none⟩)]) (by simp) (by simp [go_sem]) ?_
    refine (Go.MuLone.unlock_deferred muLib ⟨p, 0, none⟩ .returning _ h1.c0 (h1.fz 0)).mono ?_
    rintro e u2 w2 ⟨rfl, rfl, hw2⟩
    have h2 := h1.lock (lk' := 0)
    rw [← hw2] at h2
    have k2 := h1.chg0 (.int .i32 0)
    rw [← hw2] at k2
    clear hw2
    refine ⟨_, results_tmp rfl _ _ _, ?_⟩
    rw [e]
    exact ⟨rfl, ⟨_, h2⟩, k1.trans k2⟩
  · cases ho : s.off with
    | true =>
      have e : s.arm k = (3, s) := by simp [DS.arm, h0, ho]
      rw [ho] at c5
      go_wp2
      refine leaves_cons (f := 50) (args := #[.pointer (some ⟨p, 0, none⟩)]) (by simp) (by simp [go_sem]) ?_
      refine (Go.MuLone.unlock_deferred muLib ⟨p, 0, none⟩ .returning _ h1.c0 (h1.fz 0)).mono ?_
      rintro e u2 w2 ⟨rfl, rfl, hw2⟩
      have h2 := h1.lock (lk' := 0)
      rw [← hw2] at h2
      have k2 := h1.chg0 (.int .i32 0)
      rw [← hw2] at k2
      clear hw2
      refine ⟨_, results_tmp rfl _ _ _, ?_⟩
      rw [e]
      exact ⟨rfl, ⟨_, h2⟩, k1.trans k2⟩
    | false =>
      have e : s.arm k = (0, { s with fuse := k }) := by unfold DS.arm; rw [if_neg h0, ho, if_neg (by simp)]
      rw [ho] at c5
      have h1b : DevL 1 (w1.setCell ⟨p, 6, none⟩ (.int .i64 k)) p { s with fuse := k } F L := h1.cell (i := 6) rfl rfl rfl rfl ⟨h1.ok.n0, h1.ok.n1, h1.ok.len, h1.ok.pend, by simp; omega, by simp; omega⟩
      go_wp2
      refine leaves_cons (f := 50) (args := #[.pointer (some ⟨p, 0, none⟩)]) (by simp) (by simp [go_sem]) ?_
      refine (Go.MuLone.unlock_deferred muLib ⟨p, 0, none⟩ .returning _ h1b.c0 (h1b.fz 0)).mono ?_
      rintro e u2 w2 ⟨rfl, rfl, hw2⟩
      have h2 := h1b.lock (lk' := 0)
      rw [← hw2] at h2
      have k2 := h1b.chg0 (.int .i32 0)
      rw [← hw2] at k2
      clear hw2
      refine ⟨_, results_tmp rfl _ _ _, ?_⟩
      rw [e]
      exact ⟨rfl, ⟨_, h2⟩, (k1.trans (Chg.set h.inp)).trans k2⟩
theorem durable_any {w : World} {p : Nat} {s : DS} {F : Nat → Prop} (h : Dev w p s F) : Calls Try.prog 25 #[.pointer (some ⟨p, 0, none⟩)] w fun e w' => ∃ v, e = .returned v ∧ w'.ownsRow w.heap.size 5 1 v s.dur.length (nums .u8 s.dur) ∧ Dev w' p s F ∧ Chg F w w' := by
  obtain ⟨L, h⟩ := h
  go_enter_defers Try.func25, Try.ntmps25
  go_wp2_with fail
  refine (Go.MuLone.lock_free muLib ⟨p, 0, none⟩ _ h.c0 (h.fz 0)).mono ?_
  rintro e w1 ⟨rfl, hw1⟩
  have h1 : DevL 1 w1 p s F L := by rw [hw1]; exact h.lock
  have k1 : Chg F w w1 := by rw [hw1]; exact Chg.set h.inp
  clear hw1
  obtain ⟨g, c, e⟩ := h.vd_is
  have c2 := h1.c2
  rw [e] at c2
  have hd := h1.dur
  rw [e] at hd
  have hr := own_reads' hd
  have hn : s.dur.length ≤ 140737488355328 := by have := h.ok.len; have := h.ok.n1; omega
  go_wp2_with (go_at_call 55; refine (clone_any _ _ _ _ hr hn).mono ?_; rintro e w3 ⟨v, rfl, ho, hb⟩)
  have h3 : DevL 1 w3 p s F L := h1.move hb.size fun k hk => hb.block k (h1.lt k hk)
  refine leaves_cons (f := 50) (args := #[.pointer (some ⟨p, 0, none⟩)]) (by simp) (by simp [go_sem]) ?_
  refine (Go.MuLone.unlock_deferred muLib ⟨p, 0, none⟩ .returning _ h3.c0 (h3.fz 0)).mono ?_
  rintro e u2 w2 ⟨rfl, rfl, hw2⟩
  have h2 := h3.lock (lk' := 0)
  rw [← hw2] at h2
  have k2 := h3.chg0 (.int .i32 0)
  rw [← hw2] at k2
  clear hw2
  refine ⟨_, results_tmp rfl _ _ _, v, rfl, ?_, ⟨_, h2⟩, (k1.trans (Chg.ofBelow hb)).trans k2⟩
  have hsz := k1.size
  refine own_weaken (own_move ho fun k hk => k2.block k (own_lt ho k hk) fun hF => ?_) hsz
  have := own_base ho k hk
  have := h1.lt k hF
  omega
/-! ### block, Read -/
theorem blk_len {s : DS} (h : s.Ok) {b : Int} (hb : 0 ≤ b ∧ b < (s.n : Int)) : (s.blk b).length = 512 := by
  have := h.len
  simp [DS.blk]
  omega
theorem block_in {lk : Int} {w : World} {p : Nat} {s : DS} {F : Nat → Prop} {L : Lay} (h : DevL lk w p s F L) (b : Int) (hb : 0 ≤ b ∧ b < (s.n : Int)) :
    Calls Try.prog 56 #[.pointer (some ⟨p, 0, none⟩), .int .i64 b] w fun e w' => (∃ g c, L.vd = .slice (some ⟨g, 0, none⟩) s.dur.length c ∧ e = .returned (.slice (some ⟨g, b.toNat * 512, none⟩) 512 (c - b.toNat * 512))) ∧ w' = w := by
  obtain ⟨g, c, e⟩ := h.vd_is
  have c2 := h.c2
  rw [e] at c2
  have hl := h.ok.len
  have hn1 := h.ok.n1
  have hw1 : IntKind.i64.wrap (b * 512) = b * 512 := by rw [IntKind.wrap_i64]; omega
  have hw2 : IntKind.i64.wrap (b + 1) = b + 1 := by rw [IntKind.wrap_i64]; omega
  have hw3 : IntKind.i64.wrap ((b + 1) * 512) = (b + 1) * 512 := by rw [IntKind.wrap_i64]; omega
  have hd := h.dur
  rw [e] at hd
  have hcap : s.dur.length ≤ c := own_cap hd
  have hs1 : (0 : Int) ≤ (b + 1) * 512 := by omega
  have hs2 : (b + 1) * 512 ≤ (c : Int) := by omega
  have hs3 : (0 : Int) ≤ b * 512 := by omega
  have hs4 : b * 512 ≤ (((b + 1) * 512).toNat : Int) := by omega
  have hs5 : ¬ c = (b * 512).toNat := by omega
  have hs6 : ((b + 1) * 512).toNat - b.toNat * 512 = 512 := by omega
  have hs7 : (b * 512).toNat = b.toNat * 512 := by omega
  go_enter Try.func56, Try.ntmps56
  go_wp2
  go_ret
  exact ⟨⟨g, c, e, rfl⟩, rfl⟩
theorem wf_of {b : Int} (h1 : -9223372036854775808 ≤ b) (h2 : b < 9223372036854775808) : (Lit.int .i64 b).wf = true := by
  have e1 : IntKind.i64.min = -9223372036854775808 := by decide
  have e2 : IntKind.i64.max = 9223372036854775807 := by decide
  simp [Lit.wf, e1, e2]
  omega
theorem lastV_mem {ps : List (Int × List Int × Value)} {b : Int} {v : Value} (h : lastV ps b = some v) : ∃ x ∈ ps, x.1 = b ∧ x.2.2 = v := by
  unfold lastV at h
  cases hf : ps.reverse.find? (fun x => x.1 == b) with
  | none => rw [hf] at h; cases h
  | some x =>
    rw [hf] at h
    simp at h
    have h1 := List.find?_some hf
    have h2 := List.mem_of_find?_eq_some hf
    exact ⟨x, by simpa using h2, by simpa using h1, h⟩
theorem lastD_is {s : DS} {ps : List (Int × List Int × Value)} (hp : s.pend = ps.map fun x => (x.1, x.2.1)) (b : Int) : s.lastD b = (ps.reverse.find? (fun x => x.1 == b)).map (·.2.1) := by
  unfold DS.lastD
  rw [hp, ← List.map_reverse, List.find?_map]
  simp [Function.comp_def]
theorem blk_reads {lk : Int} {w : World} {p : Nat} {s : DS} {F : Nat → Prop} {L : Lay} (h : DevL lk w p s F L) {b : Int} (hb : 0 ≤ b ∧ b < (s.n : Int)) {g c : Nat} (e : L.vd = .slice (some ⟨g, 0, none⟩) s.dur.length c) :
    ReadsInt w .u8 (some ⟨g, b.toNat * 512, none⟩) (s.blk b).length (s.blk b) := by
  have hl := h.ok.len
  have hlen := blk_len h.ok hb
  have hd := h.dur
  rw [e] at hd
  have hr := own_reads' hd
  refine ⟨rfl, by omega, fun _ => ⟨_, rfl, fun j hj => ?_⟩⟩
  obtain ⟨ad, ea, hc⟩ := hr.2.2 (by omega)
  cases ea
  have := hc (b.toNat * 512 + j) (by omega)
  rw [add_plain] at this
  have ea : (⟨g, b.toNat * 512, none⟩ : Addr).add j = ⟨g, b.toNat * 512 + j, none⟩ := by unfold Addr.add; split <;> simp_all
  rw [ea, this]
  have e1 : (s.blk b).getD j 0 = s.dur.getD (b.toNat * 512 + j) 0 := by
    simp [DS.blk, List.getD_eq_getElem?_getD, List.getElem?_take, List.getElem?_drop]
    rw [if_pos (by omega)]
  rw [e1]
theorem last_both {ps : List (Int × List Int × Value)} {b : Int} {v : Value} (h : lastV ps b = some v) : ∃ x ∈ ps, x.2.2 = v ∧ ps.reverse.find? (fun x => x.1 == b) = some x := by
  unfold lastV at h
  cases hf : ps.reverse.find? (fun x => x.1 == b) with
  | none => rw [hf] at h; cases h
  | some x =>
    rw [hf] at h
    simp at h
    have h2 := List.mem_of_find?_eq_some hf
    exact ⟨x, by simpa using h2, h, rfl⟩
theorem own_fresh {lk : Int} {w w1 w4 w2 : World} {p n : Nat} {s : DS} {F : Nat → Prop} {L : Lay} {v : Value} {xs : List Value} (h1 : DevL lk w1 p s F L) (ho : w4.ownsRow w1.heap.size 5 1 v n xs) (hsz : w.heap.size ≤ w1.heap.size) (k2 : Chg F w4 w2) : w2.ownsRow w.heap.size 5 1 v n xs := by
  refine own_weaken (own_move ho fun k hk => k2.block k (own_lt ho k hk) fun hF => ?_) hsz
  have := own_base ho k hk
  have := h1.lt k hF
  omega
set_option maxHeartbeats 1000000 in
theorem read_any {w : World} {p : Nat} {s : DS} {F : Nat → Prop} (h : Dev w p s F) (b : Int) : Calls Try.prog 22 #[.pointer (some ⟨p, 0, none⟩), .int .i64 b] w fun e w' => ∃ v, e = .returned (.tuple #[v, .int .i64 (s.read b).2]) ∧ w'.ownsRow w.heap.size 5 1 v (s.read b).1.length (nums .u8 (s.read b).1) ∧ Dev w' p s F ∧ Chg F w w' := by
  obtain ⟨L, h⟩ := h
  go_enter_defers Try.func22, Try.ntmps22
  go_wp2_with fail
  refine (Go.MuLone.lock_free muLib ⟨p, 0, none⟩ _ h.c0 (h.fz 0)).mono ?_
  rintro e w1 ⟨rfl, hw1⟩
  have h1 : DevL 1 w1 p s F L := by rw [hw1]; exact h.lock
  have k1 : Chg F w w1 := by rw [hw1]; exact Chg.set h.inp
  clear hw1
  have hsz := k1.size
  have c5 := h1.c5
  have c4 := h1.c4
  cases hb : s.hasB b with
  | false =>
    have e : s.read b = ([], 52) := by simp [DS.read, hb]
    go_wp2_with (go_at_call 54; refine (has_in h1 b).mono ?_; rw [hb]; rintro e w3 ⟨rfl, rfl⟩)
    refine leaves_cons (f := 50) (args := #[.pointer (some ⟨p, 0, none⟩)]) (by simp) (by simp [go_sem]) ?_
    refine (Go.MuLone.unlock_deferred muLib ⟨p, 0, none⟩ .returning _ h1.c0 (h1.fz 0)).mono ?_
    rintro e u2 w2 ⟨rfl, rfl, hw2⟩
    have h2 := h1.lock (lk' := 0)
    rw [← hw2] at h2
    have k2 := h1.chg0 (.int .i32 0)
    rw [← hw2] at k2
    clear hw2
    refine ⟨_, results_tmp2 rfl _ _ _, ?_⟩
    rw [e]
    exact ⟨_, rfl, own_nil _ _ _ _, ⟨_, h2⟩, k1.trans k2⟩
  | true =>
    have hbn := hasB_iff.1 hb
    have hn1 := h1.ok.n1
    cases ho : s.off with
    | true =>
      have e : s.read b = ([], 3) := by simp [DS.read, hb, ho]
      rw [ho] at c5
      go_wp2_with (go_at_call 54; refine (has_in h1 b).mono ?_; rw [hb]; rintro e w3 ⟨rfl, rfl⟩)
      refine leaves_cons (f := 50) (args := #[.pointer (some ⟨p, 0, none⟩)]) (by simp) (by simp [go_sem]) ?_
      refine (Go.MuLone.unlock_deferred muLib ⟨p, 0, none⟩ .returning _ h1.c0 (h1.fz 0)).mono ?_
      rintro e u2 w2 ⟨rfl, rfl, hw2⟩
      have h2 := h1.lock (lk' := 0)
      rw [← hw2] at h2
      have k2 := h1.chg0 (.int .i32 0)
      rw [← hw2] at k2
      clear hw2
      refine ⟨_, results_tmp2 rfl _ _ _, ?_⟩
      rw [e]
      exact ⟨_, rfl, own_nil _ _ _ _, ⟨_, h2⟩, k1.trans k2⟩
    | false =>
      rw [ho] at c5
      have hwf := wf_of (b := b) (by omega) (by omega)
      have hlook := h1.map.look (z := .slice none 0 0) Try.underlying100 Try.underlying3 (by simp [go_sem]) hwf
      cases hv : lastV L.ps b with
      | none =>
        rw [hv] at hlook
        simp only [Option.getD_none, Option.isSome_none] at hlook
        have e : s.read b = (s.blk b, 0) := by
          have e1 : s.lastD b = none := by
            rw [lastD_is h1.pendIs]
            unfold lastV at hv
            simpa using hv
          simp [DS.read, hb, ho, e1]
        go_wp2_with (first | (go_at_call 54; refine (has_in h1 b).mono ?_; rw [hb]; rintro e w3 ⟨rfl, rfl⟩) | (go_at_call 56; refine (block_in h1 b hbn).mono ?_; rintro e w3 ⟨⟨g, c, hvd, rfl⟩, rfl⟩))
        refine (clone_n _ _ _ _ _ (blk_len h1.ok hbn) (blk_reads h1 hbn hvd) (by rw [blk_len h1.ok hbn]; decide)).mono ?_
        rintro e4 w4 ⟨v, rfl, hown, hb4⟩
        have h4 : DevL 1 w4 p s F L := h1.move hb4.size fun k hk => hb4.block k (h1.lt k hk)
        go_wp2
        refine leaves_cons (f := 50) (args := #[.pointer (some ⟨p, 0, none⟩)]) (by simp) (by simp [go_sem]) ?_
        refine (Go.MuLone.unlock_deferred muLib ⟨p, 0, none⟩ .returning _ h4.c0 (h4.fz 0)).mono ?_
        rintro e u2 w2 ⟨rfl, rfl, hw2⟩
        have h2 := h4.lock (lk' := 0)
        rw [← hw2] at h2
        have k2 := h4.chg0 (.int .i32 0)
        rw [← hw2] at k2
        clear hw2
        refine ⟨_, results_tmp2 rfl _ _ _, ?_⟩
        rw [e]
        exact ⟨_, rfl, own_fresh h1 hown hsz k2, ⟨_, h2⟩, (k1.trans (Chg.ofBelow hb4)).trans k2⟩
      | some v =>
        rw [hv] at hlook
        simp only [Option.getD_some, Option.isSome_some] at hlook
        obtain ⟨x, hx, hx1, hx2⟩ := last_both hv
        have e : s.read b = (x.2.1, 0) := by
          have e1 : s.lastD b = some x.2.1 := by rw [lastD_is h1.pendIs, hx2]; rfl
          simp [DS.read, hb, ho, e1]
        have hd := h1.data x hx
        rw [hx1] at hd
        obtain ⟨A, c, rfl⟩ := own_slice hd
        have hxl : x.2.1.length = 512 := by
          have := h1.ok.pend (x.1, x.2.1) (by rw [h1.pendIs]; exact List.mem_map.2 ⟨x, hx, rfl⟩)
          exact this.2.2
        have hr := own_reads' hd
        go_wp2_with (go_at_call 54; refine (has_in h1 b).mono ?_; rw [hb]; rintro e w3 ⟨rfl, rfl⟩)
        refine (clone_n _ _ _ _ _ hxl hr (by rw [hxl]; decide)).mono ?_
        rintro e4 w4 ⟨v, rfl, hown, hb4⟩
        have h4 : DevL 1 w4 p s F L := h1.move hb4.size fun k hk => hb4.block k (h1.lt k hk)
        go_wp2
        refine leaves_cons (f := 50) (args := #[.pointer (some ⟨p, 0, none⟩)]) (by simp) (by simp [go_sem]) ?_
        refine (Go.MuLone.unlock_deferred muLib ⟨p, 0, none⟩ .returning _ h4.c0 (h4.fz 0)).mono ?_
        rintro e u2 w2 ⟨rfl, rfl, hw2⟩
        have h2 := h4.lock (lk' := 0)
        rw [← hw2] at h2
        have k2 := h4.chg0 (.int .i32 0)
        rw [← hw2] at k2
        clear hw2
        refine ⟨_, results_tmp2 rfl _ _ _, ?_⟩
        rw [e]
        exact ⟨_, rfl, own_fresh h1 hown hsz k2, ⟨_, h2⟩, (k1.trans (Chg.ofBelow hb4)).trans k2⟩
end Go.Proofs.Ythnbmfkmaijibaa.Dev
