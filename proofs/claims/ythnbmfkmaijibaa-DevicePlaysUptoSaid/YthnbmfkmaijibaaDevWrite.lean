/- The methods of a device: Write, New, Image. -/
import Derived.Test.YthnbmfkmaijibaaDevWalk
namespace Go.Proofs.Ythnbmfkmaijibaa.Dev
open Go.Proofs Go.RowKit Go.Proofs.YthnbmfkmaijibaaW.PrintWords Go.Proofs.YthnbmfkmaijibaaW.PrintLast Go.Proofs.YthnbmfkmaijibaaW.PrintMore Go.Proofs.Ythnbmfkmaijibaa.IMap Go.Proofs.Ythnbmfkmaijibaa.Locks
set_option linter.unusedVariables false
set_option linter.unusedSimpArgs false
theorem infoPend : (Try.prog.info? 41).map (fun i => (i.zero, i.size, i.bytes)) = some (some (.agg #[.int .i64 0, .slice none 0 0]), 2, 32) := by kernel_rfl
theorem pcells_len (ps : List (Int × List Int × Value)) : (pcells ps).length = ps.length * 2 := by
  induction ps with
  | nil => rfl
  | cons x r ih =>
    have : pcells (x :: r) = [.int .i64 x.1, x.2.2] ++ pcells r := rfl
    rw [this, List.length_append, ih]
    simp
    omega
theorem pcells_append (ps qs : List (Int × List Int × Value)) : pcells (ps ++ qs) = pcells ps ++ pcells qs := by simp [pcells]
theorem lastV_append (ps : List (Int × List Int × Value)) (b : Int) (d : List Int) (v : Value) : lastV (ps ++ [(b, d, v)]) = upd (lastV ps) b (some v) := by
  funext k
  unfold lastV upd
  rw [List.reverse_append]
  by_cases e : k = b
  · subst e
    simp
  · rw [if_neg e]
    have : ((b : Int) == k) = false := beq_eq_false_iff_ne.2 fun x => e x.symm
    simp [this]
theorem reads_chg {w w' : World} {k : IntKind} {A : Option Addr} {n : Nat} {xs : List Int} {F : Nat → Prop} (h : ReadsInt w k A n xs) (hc : Chg F w w') (hA : ∀ a, A = some a → 0 < n → ¬ F a.block) : ReadsInt w' k A n xs := by
  refine ⟨h.1, h.2.1, fun hn => ?_⟩
  obtain ⟨ad, e, hr⟩ := h.2.2 hn
  refine ⟨ad, e, fun j hj => ?_⟩
  have h1 := hr j hj
  rw [← h1]
  refine World.cell?_of_block ?_
  refine hc.block _ (World.block_lt_of_cell? w _ h1) ?_
  rw [add_block]
  exact hA ad e hn
theorem Chg.trans' {F G : Nat → Prop} {a b c : World} (h : Chg F a b) (k : Chg G b c) (hG : ∀ k, k < a.heap.size → G k → F k) : Chg F a c :=
  ⟨k.os.trans h.os, k.tape.trans h.tape, k.output.trans h.output, Nat.le_trans h.size k.size, fun i hi hF => (k.block i (Nat.lt_of_lt_of_le hi h.size) fun hg => hF (hG i hi hg)).trans (h.block i hi hF)⟩
theorem own_map {w : World} {b base n size : Nat} {e : TypeId} {v : Value} {xs : List Value} {m : Int → Option Value} (h : MapAt w b m) (ho : w.ownsRow base e size v n xs) : ∀ k, v.ownBlock = some k → k ≠ b := by
  rintro k hk rfl
  obtain ⟨es, c, h1, _⟩ := h
  obtain ⟨cs, h2⟩ := own_typed ho k hk
  rw [h1] at h2
  cases h2
theorem own_two {w : World} {b base n n' size size' : Nat} {e e' : TypeId} {v v' : Value} {xs xs' : List Value} (h : w.ownsRow b e size v n xs) (h' : w.ownsRow base e' size' v' n' xs') (hne : e ≠ e') : ∀ k, v.ownBlock = some k → v'.ownBlock ≠ some k := by
  intro k hk hk'
  rcases own_type_ne h h' hne with h1 | h1
  · rw [h1] at hk; cases hk
  · exact h1 (hk.trans hk'.symm)
theorem map_off {lk : Int} {w : World} {p : Nat} {s : DS} {F : Nat → Prop} {L : Lay} (h : DevL lk w p s F L) : L.bm ≠ p := by
  intro e
  obtain ⟨es, c, h1, _⟩ := h.map
  rw [e, h.cells] at h1
  cases h1
theorem DevL.pushed {lk : Int} {w5 w6 w7 w8 : World} {p B : Nat} {s : DS} {F : Nat → Prop} {L : Lay} {v v1 : Value} {b : Int} {l : List Int} (h : DevL lk w5 p s F L) (hs6 : w5.heap.size ≤ w6.heap.size)
    (hk6 : ∀ k, k < w5.heap.size → L.vp.ownBlock ≠ some k → w6.heap[k]? = w5.heap[k]?) (ho : w6.ownsRow 0 41 2 v1 (L.ps.length + 1) (pcells L.ps ++ [.int .i64 b, v])) (hb : v1.ownBlock = L.vp.ownBlock ∨ ∃ k, v1.ownBlock = some k ∧ w5.heap.size ≤ k)
    (hw7 : w7 = w6.setCell ⟨p, 3, none⟩ v1) (hm : MapAt w8 L.bm (upd (lastV L.ps) b (some v))) (hs8 : w8.heap.size = w7.heap.size) (hk8 : ∀ k, k ≠ L.bm → w8.heap[k]? = w7.heap[k]?)
    (hv : w5.ownsRow B 5 1 v l.length (nums .u8 l)) (hvF : ∀ k, v.ownBlock = some k → ¬ F k) (hB : B ≤ w5.heap.size) (hbn : 0 ≤ b ∧ b < (s.n : Int)) (hl : l.length = 512) :
    DevL lk w8 p { s with pend := s.pend ++ [(b, l)] } (fun k => F k ∨ (B ≤ k ∧ k < w8.heap.size)) { L with vp := v1, ps := L.ps ++ [(b, l, v)] } := by
  have hsz7 : w7.heap.size = w6.heap.size := by rw [hw7]; simp [World.setCell]
  have hsz8 : w5.heap.size ≤ w8.heap.size := by omega
  have hpv : ∀ k, L.vp.ownBlock = some k → k ≠ p := own_off h.cells h.pend (by decide)
  have hp6 : w6.heap[p]? = w5.heap[p]? := hk6 p (h.lt p h.inp) fun e => hpv p e rfl
  have hp6' := hp6.trans h.cells
  have hbm6 : w6.heap[L.bm]? = w5.heap[L.bm]? := hk6 _ h.map.lt fun e => own_map h.map h.pend _ e rfl
  have hm6 : MapAt w6 L.bm (lastV L.ps) := h.map.move hbm6
  have hpbm : p ≠ L.bm := by
    rintro e
    obtain ⟨es, c, h1, _⟩ := h.map
    rw [← e, h.cells] at h1
    cases h1
  have h7 : ∀ k, k ≠ p → w7.heap[k]? = w6.heap[k]? := fun k hk => by rw [hw7]; exact Below.heap_setCell w6 ⟨p, 3, none⟩ v1 k hk
  have hall : ∀ k, k ≠ p → k ≠ L.bm → w8.heap[k]? = w6.heap[k]? := fun k h1 h2 => (hk8 k h2).trans (h7 k h1)
  have hall5 : ∀ k, k < w5.heap.size → k ≠ p → k ≠ L.bm → L.vp.ownBlock ≠ some k → w8.heap[k]? = w5.heap[k]? := fun k h0 h1 h2 h3 => (hall k h1 h2).trans (hk6 k h0 h3)
  have h5own : ∀ {base n : Nat} {u : Value} {xs : List Value}, w5.ownsRow base 5 1 u n xs → w8.ownsRow base 5 1 u n xs := fun hu => own_move hu fun k hk => hall5 k (own_lt hu k hk) (own_off h.cells hu (by decide) k hk) (own_map h.map hu k hk) (own_two hu h.pend (by decide) k hk)
  have hok : DS.Ok { s with pend := s.pend ++ [(b, l)] } := ⟨h.ok.n0, h.ok.n1, h.ok.len, fun x hx => by
    rcases List.mem_append.1 hx with h1 | h1
    · exact h.ok.pend x h1
    · rw [List.mem_singleton.1 h1]; exact ⟨hbn.1, hbn.2, hl⟩, h.ok.fuse0, h.ok.fuse1⟩
  refine ⟨?_, h5own h.dur, ?_, ?_, ?_, ?_, ?_, hok, .inl h.inp, .inl h.inm, fun k e => .inl (h.ind k e), ?_, ?_, ?_⟩
  · rw [hk8 p hpbm, hw7, heap_set hp6']
    rfl
  · have e1 : (L.ps ++ [(b, l, v)]).length = L.ps.length + 1 := by simp
    have e2 : pcells (L.ps ++ [(b, l, v)]) = pcells L.ps ++ [.int .i64 b, v] := by rw [pcells_append]; rfl
    show w8.ownsRow 0 _ 2 v1 (L.ps ++ [(b, l, v)]).length (pcells (L.ps ++ [(b, l, v)]))
    rw [e1, e2]
    exact own_move ho fun k hk => hall k (own_off hp6' ho (by decide) k hk) (own_map hm6 ho k hk)
  · show s.pend ++ [(b, l)] = (L.ps ++ [(b, l, v)]).map _
    rw [List.map_append, ← h.pendIs]
    rfl
  · intro x hx
    rcases List.mem_append.1 hx with h1 | h1
    · exact h5own (h.data x h1)
    · rw [List.mem_singleton.1 h1]; exact own_weaken (h5own hv) (Nat.zero_le _)
  · intro x hx
    rcases List.mem_append.1 hx with h1 | h1
    · exact h.apart x h1
    · rw [List.mem_singleton.1 h1]
      intro e
      obtain ⟨g, c, hg⟩ := h.vd_is
      rw [hg] at e
      exact hvF g e (h.ind g (by rw [hg]; rfl))
  · show MapAt w8 L.bm (lastV (L.ps ++ [(b, l, v)]))
    rw [lastV_append]
    exact hm
  · intro k e
    have hlt := own_lt ho k e
    rcases hb with h1 | ⟨k', h1, h2⟩
    · exact .inl (h.inq k (h1 ▸ e))
    · have : k' = k := by
        have := h1.symm.trans e
        cases this
        rfl
      subst this
      exact .inr ⟨by omega, by omega⟩
  · intro x hx k e
    rcases List.mem_append.1 hx with h1 | h1
    · exact .inl (h.inx x h1 k e)
    · rw [List.mem_singleton.1 h1] at e
      have := own_lt hv k e
      exact .inr ⟨own_base hv k e, by omega⟩
  · rintro k (e | e)
    · have := h.lt k e; omega
    · exact e.2
set_option maxHeartbeats 4000000 in
set_option maxRecDepth 100000 in
theorem write_any {w : World} {p : Nat} {s : DS} {F : Nat → Prop} (h : Dev w p s F) (b : Int) (A : Option Addr) (c : Nat) (l : List Int) (hr : ReadsInt w .u8 A l.length l) (hA : ∀ a, A = some a → 0 < l.length → ¬ F a.block) (hl : l.length ≤ 140737488355328) (hp : s.pend.length ≤ 1000000000000) :
    Calls Try.prog 20 #[.pointer (some ⟨p, 0, none⟩), .int .i64 b, .slice A l.length c] w fun e w' => e = .returned (.int .i64 (s.write b l).1) ∧ Dev w' p (s.write b l).2 (grow F w w') ∧ Chg F w w' := by
  obtain ⟨L, h⟩ := h
  go_enter_defers Try.func20, Try.ntmps20
  go_wp2_with fail
  refine (Go.MuLone.lock_free muLib ⟨p, 0, none⟩ _ h.c0 (h.fz 0)).mono ?_
  rintro e w1 ⟨rfl, hw1⟩
  have h1 : DevL 1 w1 p s F L := by rw [hw1]; exact h.lock
  have k1 : Chg F w w1 := by rw [hw1]; exact Chg.set h.inp
  clear hw1
  have hsz := k1.size
  have widen : ∀ {w2 : World} {s2 : DS} {L2 : Lay}, DevL 0 w2 p s2 F L2 → DevL 0 w2 p s2 (grow F w w2) L2 := fun h2 => h2.widen (fun k hk => .inl hk) (fun k hk => hk.elim (h2.lt k) (·.2))
  cases hb : s.hasB b with
  | false =>
    have e : s.write b l = (52, s) := by simp [DS.write, hb]
    go_wp2_with (go_at_call 54; refine (has_in h1 b).mono ?_; rw [hb]; rintro e w3 ⟨rfl, rfl⟩)
    refine leaves_cons (f := 50) (args := #[.pointer (some ⟨p, 0, none⟩)]) (by simp) (by simp [go_sem]) ?_
    refine (Go.MuLone.unlock_deferred muLib ⟨p, 0, none⟩ .returning _ h1.c0 (h1.fz 0)).mono ?_
    rintro e u2 w2 ⟨rfl, rfl, hw2⟩
    have h2 := h1.lock (lk' := 0)
    rw [← hw2] at h2
    have k2 := h1.chg0 (.int .i32 0)
    rw [← hw2] at k2
    clear hw2
    refine ⟨_, results_tmp rfl _ _ _, ?_⟩
    rw [e]
    exact ⟨rfl, ⟨_, widen h2⟩, k1.trans k2⟩
  | true =>
    have hbn := hasB_iff.1 hb
    have hn1 := h1.ok.n1
    by_cases h512 : l.length = 512
    · have hd1 : ((l.length : Int) != 512) = false := by rw [h512]; rfl
      have hpw : ∀ (x : Bool), x = s.powered.1 → True := fun _ _ => trivial
      cases hw : s.powered.1 with
      | false =>
        have e : s.write b l = (3, s.powered.2) := by simp [DS.write, hb, h512, hw]
        go_wp2_with (first | (go_at_call 54; refine (has_in h1 b).mono ?_; rw [hb]; rintro e w3 ⟨rfl, rfl⟩) | (go_at_call 51; refine (powered_in h1).mono ?_; rw [hw]; rintro e w4 ⟨rfl, h4, k4⟩))
        refine leaves_cons (f := 50) (args := #[.pointer (some ⟨p, 0, none⟩)]) (by simp) (by simp [go_sem]) ?_
        refine (Go.MuLone.unlock_deferred muLib ⟨p, 0, none⟩ .returning _ h4.c0 (h4.fz 0)).mono ?_
        rintro e u2 w2 ⟨rfl, rfl, hw2⟩
        have h2 := h4.lock (lk' := 0)
        rw [← hw2] at h2
        have k2 := h4.chg0 (.int .i32 0)
        rw [← hw2] at k2
        clear hw2
        refine ⟨_, results_tmp rfl _ _ _, ?_⟩
        rw [e]
        exact ⟨rfl, ⟨_, widen h2⟩, (k1.trans k4).trans k2⟩
      | true =>
        have e : s.write b l = (0, { s.powered.2 with pend := s.powered.2.pend ++ [(b, l)] }) := by simp [DS.write, hb, h512, hw]
        go_wp2_with (first | (go_at_call 54; refine (has_in h1 b).mono ?_; rw [hb]; rintro e w3 ⟨rfl, rfl⟩) | (go_at_call 51; refine (powered_in h1).mono ?_; rw [hw]; rintro e w4 ⟨rfl, h4, k4⟩))
        have hr4 := reads_chg hr (k1.trans k4) hA
        refine (clone_n _ _ _ _ _ h512 hr4 hl).mono ?_
        rintro e5 w5 ⟨v, rfl, hown, hb5⟩
        have h5 : DevL 1 w5 p s.powered.2 F L := h4.move hb5.size fun k hk => hb5.block k (h4.lt k hk)
        have c3 := h5.c3
        have hpl : s.powered.2.pend.length = L.ps.length := by rw [h5.pendIs]; simp
        rw [powered_pend] at hpl
        have hsz45 := hb5.size
        have hfresh : ∀ k, v.ownBlock = some k → w4.heap.size ≤ k := fun k hk => own_base hown k hk
        have hneF : ∀ k, v.ownBlock = some k → ¬ F k := fun k hk hF => by have := hfresh k hk; have := h4.lt k hF; omega
        have hwf := wf_of (b := b) (by omega) (by omega)
        rw [h512] at hown
        obtain ⟨Av, cv, rfl⟩ := own_slice hown
        go_wp2_with ((with_reducible refine gate_builtin (b := .append) (xs := #[.tmp 31, .tmp 35]) rfl ?_); at_builtin; go_must (refine print_append_cells (w0 := w5) 0 rfl (.tmp 31) (.tmp 35) 31 41 (.agg #[.int .i64 0, .slice none 0 0]) 2 32 rfl Try.underlying31 infoPend rfl (by decide) (by decide) L.vp L.ps.length (pcells L.ps) [.int .i64 b, .slice Av 512 cv] ?ahs ?ahx rfl ?a1 ?aO ?aB ?aS ?aL ?_); (case ahs => rfl); (case ahx => rfl); (case a1 => (intro u hu; simp only [List.mem_cons, List.not_mem_nil, or_false] at hu; rcases hu with rfl | rfl <;> rfl)); (case aO => exact h5.pend); (case aB => exact Below.refl _ _); (case aS => exact Nat.zero_le _); (case aL => rw [← hpl]; omega); go_must (intro v1 w6 hown6 hB6 hg6 hat6; obtain ⟨Aq, cq, rfl⟩ := own_slice hown6; have hsz6 := hg6.size; have hk6 : ∀ k, k < w5.heap.size → L.vp.ownBlock ≠ some k → w6.heap[k]? = w5.heap[k]? := (fun k h1 h2 => hg6.block k h1 (fun e => h2 e.symm)); have hp6 := (hk6 p (h5.lt p h5.inp) (fun e => own_off h5.cells h5.pend (by decide) p e rfl)).trans h5.cells; have c63 := (blk_cell hp6 3).trans rfl; have c64 := (blk_cell hp6 4).trans rfl; have f63 := blk_frozen hp6 3; obtain ⟨w8, hrun8, hm8, o8, t8, u8, s8, k8⟩ := MapAt.store (P := Try.prog) (t := 100) (k := 3) (e := 29) (MapAt.move (w1 := w6.setCell ⟨p, 3, none⟩ (.slice Aq (L.ps.length + 1) cq)) h5.map ((Below.heap_setCell w6 ⟨p, 3, none⟩ _ L.bm (map_off h5)).trans (hk6 _ h5.map.lt (fun e => own_map h5.map h5.pend _ e rfl)))) Try.underlying100 Try.underlying3 hwf (.slice Av 512 cv)))
        have h8 := h5.pushed hsz6 hk6 hown6 hat6 rfl hm8 s8 k8 (B := w4.heap.size) (by rw [h512]; exact hown) hneF hsz45 (by rw [show s.powered.2.n = s.n by unfold DS.n; rw [powered_dur]]; exact hbn) h512
        have hs7 : (w6.setCell ⟨p, 3, none⟩ (.slice Aq (L.ps.length + 1) cq)).heap.size = w6.heap.size := by simp [World.setCell]
        have k58 : Chg F w5 w8 := by
          refine ⟨o8.trans hg6.os, t8.trans hg6.tape, u8.trans hg6.output, by omega, fun k hk hF => ?_⟩
          have n1 : k ≠ p := fun e => hF (e ▸ h5.inp)
          have n2 : k ≠ L.bm := fun e => hF (e ▸ h5.inm)
          have n3 : L.vp.ownBlock ≠ some k := fun e => hF (h5.inq k e)
          exact ((k8 k n2).trans (Below.heap_setCell w6 ⟨p, 3, none⟩ _ k n1)).trans (hk6 k hk n3)
        have k18 : Chg F w w8 := ((k1.trans k4).trans (Chg.ofBelow hb5)).trans k58
        refine leaves_cons (f := 50) (args := #[.pointer (some ⟨p, 0, none⟩)]) (by simp) (by simp [go_sem]) ?_
        refine (Go.MuLone.unlock_deferred muLib ⟨p, 0, none⟩ .returning _ h8.c0 (h8.fz 0)).mono ?_
        rintro e u2 w2 ⟨rfl, rfl, hw2⟩
        have h2 := h8.lock (lk' := 0)
        rw [← hw2] at h2
        have k2 := h8.chg0 (.int .i32 0)
        rw [← hw2] at k2
        clear hw2
        refine ⟨_, results_tmp rfl _ _ _, ?_⟩
        rw [e]
        have hsz4 := k4.size
        have hsz2 := k2.size
        exact ⟨rfl, ⟨_, h2.widen (fun k hk => hk.elim .inl fun q => .inr ⟨by omega, by omega⟩) (fun k hk => hk.elim (fun q => h2.lt k (.inl q)) (·.2))⟩, k18.trans' k2 fun k hk hG => hG.elim id fun q => absurd q.1 (by omega)⟩
    · have hd1 : ((l.length : Int) != 512) = true := bne_iff_ne.2 (by omega)
      have e : s.write b l = (53, s) := by simp [DS.write, hb, h512]
      go_wp2_with (go_at_call 54; refine (has_in h1 b).mono ?_; rw [hb]; rintro e w3 ⟨rfl, rfl⟩)
      refine leaves_cons (f := 50) (args := #[.pointer (some ⟨p, 0, none⟩)]) (by simp) (by simp [go_sem]) ?_
      refine (Go.MuLone.unlock_deferred muLib ⟨p, 0, none⟩ .returning _ h1.c0 (h1.fz 0)).mono ?_
      rintro e u2 w2 ⟨rfl, rfl, hw2⟩
      have h2 := h1.lock (lk' := 0)
      rw [← hw2] at h2
      have k2 := h1.chg0 (.int .i32 0)
      rw [← hw2] at k2
      clear hw2
      refine ⟨_, results_tmp rfl _ _ _, ?_⟩
      rw [e]
      exact ⟨rfl, ⟨_, widen h2⟩, k1.trans k2⟩
end Go.Proofs.Ythnbmfkmaijibaa.Dev
