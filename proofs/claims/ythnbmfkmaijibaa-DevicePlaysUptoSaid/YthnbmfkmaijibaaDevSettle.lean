/- settle. -/
import Derived.Test.YthnbmfkmaijibaaDevMid
import Derived.StillTailTactics
namespace Go.Proofs.Ythnbmfkmaijibaa.Dev
open Go.Proofs Go.RowKit Go.Proofs.YthnbmfkmaijibaaW.PrintWords Go.Proofs.YthnbmfkmaijibaaW.PrintLast Go.Proofs.YthnbmfkmaijibaaW.PrintMore Go.Proofs.Ythnbmfkmaijibaa.IMap Go.Proofs.Ythnbmfkmaijibaa.Locks
set_option linter.unusedVariables false
set_option linter.unusedSimpArgs false
theorem reads_of_chg {α : Type} {enc : α → Value} {d : α} {w w' : World} {A : Option Addr} {n : Nat} {xs : List α} {F : Nat → Prop} (h : ReadsOf enc d w A n xs) (hc : Chg F w w') (hA : ∀ a, A = some a → 0 < n → ¬ F a.block) : ReadsOf enc d w' A n xs := by
  refine ⟨h.1, h.2.1, fun hn => ?_⟩
  obtain ⟨ad, e, hr⟩ := h.2.2 hn
  refine ⟨ad, e, fun j hj => ?_⟩
  have h1 := hr j hj
  rw [← h1]
  refine World.cell?_of_block ?_
  refine hc.block _ (World.block_lt_of_cell? w _ h1) ?_
  rw [add_block]
  exact hA ad e hn
theorem keep_all (w : World) (i : Int) : Calls Try.prog 53 #[.int .i64 i] w fun e w' => e = .returned (.bool true) ∧ w' = w := by
  go_enter Try.func53, Try.ntmps53
  go_wp2
  go_ret
  exact ⟨rfl, rfl⟩
def bool (b : Bool) : Value := .bool b
theorem keep_some (w : World) (kb : Nat) (A : Option Addr) (c : Nat) (ks : List Bool) (hk : w.heap[kb]? = some (.cells #[.slice A ks.length c] 50 (0, 0))) (hr : ReadsOf Value.bool false w A ks.length ks) (i : Nat) :
    Calls Try.prog 57 #[.int .i64 (i : Int), .pointer (some ⟨kb, 0, none⟩)] w fun e w' => e = .returned (.bool (ks.getD i false)) ∧ w' = w := by
  have c0 := (blk_cell hk 0).trans rfl
  have h63 := hr.2.1
  go_enter Try.func57, Try.ntmps57
  by_cases h : i < ks.length
  · have hi : ((i : Int) < (ks.length : Int)) := by omega
    obtain ⟨ad, rfl, hc⟩ := hr.2.2 (by omega)
    have hci := hc i h
    go_wp2
    go_ret
    have e : ks.getD i false = ks[i] := by rw [List.getD_eq_getElem?_getD, List.getElem?_eq_getElem h]; rfl
    rw [e]
    exact ⟨rfl, rfl⟩
  · have hi : ¬ ((i : Int) < (ks.length : Int)) := by omega
    have d1 : decide ((i : Int) < (ks.length : Int)) = false := decide_eq_false hi
    have e : ks.getD i false = false := by rw [List.getD_eq_getElem?_getD, List.getElem?_eq_none (by omega)]; rfl
    go_wp2
    go_ret
    exact ⟨rfl, rfl⟩
theorem pcells_at {ps : List (Int × List Int × Value)} {i : Nat} {x : Int × List Int × Value} (h : ps[i]? = some x) : (pcells ps)[i * 2]? = some (.int .i64 x.1) ∧ (pcells ps)[i * 2 + 1]? = some x.2.2 := by
  induction ps generalizing i with
  | nil => simp at h
  | cons y r ih =>
    have e : pcells (y :: r) = [.int .i64 y.1, y.2.2] ++ pcells r := rfl
    rw [e]
    cases i with
    | zero => simp at h; subst h; exact ⟨rfl, rfl⟩
    | succ i =>
      have := ih (i := i) (by simpa using h)
      rw [show (i + 1) * 2 = (i * 2) + 1 + 1 by omega]
      exact this
/-- What is left of the map ahead of round i. -/
def left (ps : List (Int × List Int × Value)) (m : Int → Option Value) : Nat → Int → Option Value
  | 0 => m
  | i + 1 => upd (left ps m i) (ps.getD i (0, [], .nilFunc)).1 none
theorem settled_step {keep : Nat → Bool} {s : DS} {ps : List (Int × List Int × Value)} (hp : s.pend = ps.map fun x => (x.1, x.2.1)) {k : Nat} {x : Int × List Int × Value} (hx : ps[k]? = some x) :
    settled keep s.pend s.dur (k + 1) = if keep k then lay (settled keep s.pend s.dur k) x.1 x.2.1 else settled keep s.pend s.dur k := by
  have e : s.pend.getD k (0, []) = (x.1, x.2.1) := by rw [List.getD_eq_getElem?_getD, hp, List.getElem?_map, hx]; rfl
  show (if keep k then lay _ (s.pend.getD k (0, [])).1 (s.pend.getD k (0, [])).2 else _) = _
  rw [e]
theorem left_step {ps : List (Int × List Int × Value)} {m : Int → Option Value} {k : Nat} {x : Int × List Int × Value} (hx : ps[k]? = some x) : left ps m (k + 1) = upd (left ps m k) x.1 none := by
  show upd (left ps m k) (ps.getD k (0, [], .nilFunc)).1 none = _
  rw [List.getD_eq_getElem?_getD, hx]
  rfl
theorem left_none {ps : List (Int × List Int × Value)} {m : Int → Option Value} {b : Int} {j : Nat} (hj : (ps.getD j (0, [], .nilFunc)).1 = b) : ∀ i, j < i → left ps m i b = none := by
  intro i
  induction i with
  | zero => intro h; omega
  | succ i ih =>
    intro h
    unfold left upd
    split
    · rfl
    · rename_i hne
      by_cases e : j = i
      · subst e; exact absurd hj.symm hne
      · exact ih (by omega)
theorem left_or {ps : List (Int × List Int × Value)} {m : Int → Option Value} {b : Int} : ∀ i, left ps m i b = none ∨ left ps m i b = m b := by
  intro i
  induction i with
  | zero => exact .inr rfl
  | succ i ih =>
    unfold left upd
    split
    · exact .inl rfl
    · exact ih
theorem left_all (ps : List (Int × List Int × Value)) : left ps (lastV ps) ps.length = fun _ => none := by
  funext b
  rcases left_or (ps := ps) (m := lastV ps) (b := b) ps.length with h | h
  · exact h
  · cases hv : lastV ps b with
    | none => rw [h, hv]
    | some v =>
      obtain ⟨x, hx, h1, _⟩ := lastV_mem hv
      obtain ⟨j, hj⟩ := List.getElem?_of_mem hx
      have hlt := (List.getElem?_eq_some_iff.1 hj).1
      exact left_none (j := j) (by rw [List.getD_eq_getElem?_getD, hj]; exact h1) _ hlt
theorem Mid.done {lk : Int} {w : World} {p : Nat} {s : DS} {d : List Int} {m : Int → Option Value} {F : Nat → Prop} {L : Lay} (h : Mid lk w p s d m F L) (hm : m = fun _ => none) {keep : Nat → Bool} (hd : d = (s.settle keep).dur) :
    DevL lk (w.setCell ⟨p, 3, none⟩ (.slice none 0 0)) p (s.settle keep) F { L with vp := .slice none 0 0, ps := [] } := by
  have ho : ∀ k, k ≠ p → (w.setCell ⟨p, 3, none⟩ (.slice none 0 0)).heap[k]? = w.heap[k]? := fun k hk => Below.heap_setCell w ⟨p, 3, none⟩ _ k hk
  have hlen : (s.settle keep).dur.length = s.dur.length := by rw [← hd]; exact h.dlen
  refine ⟨?_, ?_, own_nil _ _ _ _, rfl, by simp, by simp, ?_, h.ok.settle keep, h.inp, h.inm, h.ind, by simp [Value.ownBlock], by simp, fun k e => by have := h.lt k e; simpa [World.setCell] using this⟩
  · rw [heap_set h.cells]
    rfl
  · rw [hlen, ← hd]
    exact own_move h.dur fun k e => ho k (own_off h.cells h.dur (by decide) k e)
  · have := h.map.move (ho _ h.map_off)
    rw [hm] at this
    exact this
set_option maxHeartbeats 4000000 in
set_option maxRecDepth 100000 in
theorem settle_Flush1 {lk : Int} {w : World} {p : Nat} {s : DS} {F : Nat → Prop} {L : Lay} (h : DevL lk w p s F L) : Calls Try.prog 52 #[.pointer (some ⟨p, 0, none⟩), .func (.func 53) #[] #[]] w fun e w' => e = .returned (.tuple #[]) ∧ (∃ L', DevL lk w' p (s.settle (fun _ => true)) F L') ∧ Chg F w w' := by
  have hm := h.mid
  have c3 := hm.c3
  obtain ⟨Ap, cp, evp⟩ := own_slice hm.pend
  rw [evp] at c3
  have hpl : s.pend.length = L.ps.length := by rw [hm.pendIs]; simp
  have hps : L.ps.length ≤ 9223372036854775807 := by
    rcases hm.pend.2 with ⟨_, h1⟩ | ⟨g, cap, cur, h1, h2, h3, h4, h5, _⟩
    · omega
    · simp only [maxLen] at h5; omega
  go_enter Try.func52, Try.ntmps52
  go_wp2
  go_loopw [11] (fun i wr => ∃ k : Nat, k ≤ L.ps.length ∧ i = .int .i64 (k : Int) ∧ Aside0 (Mid lk wr p s (settled (fun _ => true) s.pend s.dur k) (left L.ps (lastV L.ps) k) F L) ∧ Aside0 (Chg F w wr)) (fun i _ => L.ps.length - (intOf i).toNat)
  case atStart => exact ⟨0, Nat.zero_le _, rfl, ⟨hm⟩, ⟨Chg.refl _ _⟩⟩
  case round =>
    obtain ⟨k, hk, rfl, HM, HC⟩ := hrel
    by_cases hlt : k < L.ps.length
    · have hlti : ((k : Int) < (L.ps.length : Int)) := by omega
      obtain ⟨x, hx⟩ : ∃ x, L.ps[k]? = some x := ⟨_, List.getElem?_eq_getElem hlt⟩
      have hxm : x ∈ L.ps := List.mem_of_getElem? hx
      have hp := HM.out.pend
      rw [evp] at hp
      obtain ⟨gp, cap, e, hgb, hgl⟩ := hp.form (by omega)
      cases e
      have cx := hp.cells (g := gp) rfl _ _ (pcells_at hx).1
      have cy := hp.cells (g := gp) rfl _ _ (pcells_at hx).2
      rw [add_plain] at cx cy
      have hxb := HM.out.ok.pend (x.1, x.2.1) (by rw [HM.out.pendIs]; exact List.mem_map.2 ⟨x, hxm, rfl⟩)
      obtain ⟨hx0, hx1, hx2⟩ := hxb
      simp only at hx0 hx1 hx2
      obtain ⟨gd, cd, evx, _, _⟩ := (HM.out.data x hxm).form (by omega)
      rw [evx, hx2] at cy
      obtain ⟨g, c, evd⟩ := HM.out.vd_is
      have hn1 := HM.out.ok.n1
      have hwf := wf_of (b := x.1) (by omega) (by omega)
      cases hkk : (fun _ => true) k with
      | true =>
        have HS : Aside0 (settled (fun _ => true) s.pend s.dur (k + 1) = lay (settled (fun _ => true) s.pend s.dur k) x.1 x.2.1) := ⟨by rw [settled_step HM.out.pendIs hx]; exact if_pos hkk⟩
        have hkk2 := hkk
        go_wp2
        have M1 := HM.out.below (w' := wr.alloc (.cells #[.int .i64 x.1, .slice (some ⟨gd, 0, none⟩) 512 cd] 41)) (below_alloc (Below.refl _ _) _)
        have hv := heap_at wr (.cells #[.int .i64 x.1, .slice (some ⟨gd, 0, none⟩) 512 cd] 41)
        have C1 : Chg F w (wr.alloc (.cells #[.int .i64 x.1, .slice (some ⟨gd, 0, none⟩) 512 cd] 41)) := HC.out.trans (Chg.ofBelow (below_alloc (Below.refl _ _) _))
        obtain ⟨W1, hW1⟩ : ∃ W1, W1 = wr.alloc (.cells #[.int .i64 x.1, .slice (some ⟨gd, 0, none⟩) 512 cd] 41) := ⟨_, rfl⟩
        rw [← hW1] at M1 hv C1 ⊢
        clear hW1
        have v0 := (blk_cell hv 0).trans rfl
        have v1 := (blk_cell hv 1).trans rfl
        obtain ⟨cur, hcur, hcs⟩ := M1.dur_cells evd
        have M2 : Mid lk W1.drew p s (settled (fun _ => true) s.pend s.dur k) (left L.ps (lastV L.ps) k) F L := M1.move (Nat.le_refl _) (fun _ _ => rfl)
        have C2 : Chg F w W1.drew := ⟨C1.os, C1.tape, C1.output, C1.size, C1.block⟩
        have hB := block_at M2 evd x.1 ⟨hx0, hx1⟩
        have hdl := M1.ok.len
        go_still_tail 6, (by kernel_rfl)
        still_call hB
        repeat still_step
        refine wpStill_nil ?_
        change wpList _ _ _ _ _ W1.drew
        refine wpList_copy_own rfl (.tmp 22) (.tmp 24) 29 29 rfl 5 Try.underlying29 (by kernel_rfl) g (x.1.toNat * 512) 512 (c - x.1.toNat * 512) ⟨gd, 0, none⟩ 512 cd rfl rfl cur 5 hcur (nums .u8 x.2.1) (by rw [nums_length, hx2]; rfl) ?_ (by rw [nums_length]; omega) (by simp [nums, Value.oneCell']) ?_
        · intro j v hj
          have := (M2.data x hxm)
          rw [evx] at this
          exact this.cells rfl j v hj
        have M3 := M2.laid evd ⟨hx0, hx1⟩ hx2 hcur
        have hgF : F g := M2.ind g (by rw [evd]; rfl)
        have hnF : ¬ F wr.heap.size := fun q => by have := HM.out.lt _ q; omega
        have hgn : wr.heap.size ≠ g := fun q => hnF (q ▸ hgF)
        have C3 : Chg F W1.drew (W1.drew.setRow g (cur.toList.take (x.1.toNat * 512) ++ (nums .u8 x.2.1 ++ cur.toList.drop (x.1.toNat * 512 + (nums .u8 x.2.1).length))).toArray) :=
          ⟨rfl, rfl, rfl, by simp [World.setRow], fun q _ hq => setRow_other _ g q _ fun q' => hq (q' ▸ hgF)⟩
        have hv3 := (setRow_other W1.drew g wr.heap.size (cur.toList.take (x.1.toNat * 512) ++ (nums .u8 x.2.1 ++ cur.toList.drop (x.1.toNat * 512 + (nums .u8 x.2.1).length))).toArray hgn).trans hv
        obtain ⟨W3, hW3⟩ : ∃ W3, W3 = W1.drew.setRow g (cur.toList.take (x.1.toNat * 512) ++ (nums .u8 x.2.1 ++ cur.toList.drop (x.1.toNat * 512 + (nums .u8 x.2.1).length))).toArray := ⟨_, rfl⟩
        rw [← hW3] at M3 C3 hv3 ⊢
        clear hW3
        have C3' := C2.trans C3
        clear v0 v1
        have v0 := (blk_cell hv3 0).trans rfl
        have v1 := (blk_cell hv3 1).trans rfl
        have c4 := M3.c4
        go_wp2
        have MD : Mid lk W3.drew p s _ _ F L := M3.move (Nat.le_refl _) (fun _ _ => rfl)
        have CD : Chg F w W3.drew := ⟨C3'.os, C3'.tape, C3'.output, C3'.size, C3'.block⟩
        go_still_tail 6, (by kernel_rfl)
        change wpList _ _ _ _ _ W3.drew
        refine wpList_drop rfl (.tmp 29) (.tmp 31) 100 3 rfl 29 Try.underlying100 Try.underlying3 L.bm _ MD.map x.1 hwf rfl rfl ?_
        intro W5 m5 o5 t5 u5 s5 k5
        have M5 := MD.mapped m5 s5 k5
        have C5 : Chg F w W5 := CD.trans ⟨o5, t5, u5, by omega, fun q _ hq => k5 q fun q2 => hq (q2 ▸ MD.inm)⟩
        go_wp2
        refine ⟨⟨k + 1, by omega, by go_num, ⟨?_⟩, ⟨C5⟩⟩, by simp [intOf]; omega⟩
        rw [HS.out, left_step hx]
        exact M5
      | false =>
        simp at hkk
    · obtain rfl : k = L.ps.length := by omega
      have c3 := HM.out.c3
      have f3 := HM.out.fz 3
      go_wp2
      go_end0
      refine ⟨rfl, ⟨_, HM.out.done (left_all _) ?_⟩, HC.out.trans (Chg.set h.inp)⟩
      show _ = settled _ s.pend s.dur s.pend.length
      rw [hpl]

set_option maxHeartbeats 4000000 in
set_option maxRecDepth 100000 in
theorem settle_Crash1 {lk : Int} {w : World} {p : Nat} {s : DS} {F : Nat → Prop} {L : Lay} (h : DevL lk w p s F L) (kb : Nat) (Ak : Option Addr) (ck : Nat) (ks : List Bool) (hkb : w.heap[kb]? = some (.cells #[.slice Ak ks.length ck] 50 (0, 0))) (hkF : ¬ F kb) (hkr : ReadsOf Value.bool false w Ak ks.length ks) (hkA : ∀ a, Ak = some a → 0 < ks.length → ¬ F a.block) : Calls Try.prog 52 #[.pointer (some ⟨p, 0, none⟩), .func (.func 57) #[] #[.pointer (some ⟨kb, 0, none⟩)]] w fun e w' => e = .returned (.tuple #[]) ∧ (∃ L', DevL lk w' p (s.settle (fun i => ks.getD i false)) F L') ∧ Chg F w w' := by
  have hm := h.mid
  have c3 := hm.c3
  obtain ⟨Ap, cp, evp⟩ := own_slice hm.pend
  rw [evp] at c3
  have hpl : s.pend.length = L.ps.length := by rw [hm.pendIs]; simp
  have hps : L.ps.length ≤ 9223372036854775807 := by
    rcases hm.pend.2 with ⟨_, h1⟩ | ⟨g, cap, cur, h1, h2, h3, h4, h5, _⟩
    · omega
    · simp only [maxLen] at h5; omega
  go_enter Try.func52, Try.ntmps52
  go_wp2
  go_loopw [11] (fun i wr => ∃ k : Nat, k ≤ L.ps.length ∧ i = .int .i64 (k : Int) ∧ Aside0 (Mid lk wr p s (settled (fun i => ks.getD i false) s.pend s.dur k) (left L.ps (lastV L.ps) k) F L) ∧ Aside0 (Chg F w wr)) (fun i _ => L.ps.length - (intOf i).toNat)
  case atStart => exact ⟨0, Nat.zero_le _, rfl, ⟨hm⟩, ⟨Chg.refl _ _⟩⟩
  case round =>
    obtain ⟨k, hk, rfl, HM, HC⟩ := hrel
    by_cases hlt : k < L.ps.length
    · have hlti : ((k : Int) < (L.ps.length : Int)) := by omega
      obtain ⟨x, hx⟩ : ∃ x, L.ps[k]? = some x := ⟨_, List.getElem?_eq_getElem hlt⟩
      have hxm : x ∈ L.ps := List.mem_of_getElem? hx
      have hp := HM.out.pend
      rw [evp] at hp
      obtain ⟨gp, cap, e, hgb, hgl⟩ := hp.form (by omega)
      cases e
      have cx := hp.cells (g := gp) rfl _ _ (pcells_at hx).1
      have cy := hp.cells (g := gp) rfl _ _ (pcells_at hx).2
      rw [add_plain] at cx cy
      have hxb := HM.out.ok.pend (x.1, x.2.1) (by rw [HM.out.pendIs]; exact List.mem_map.2 ⟨x, hxm, rfl⟩)
      obtain ⟨hx0, hx1, hx2⟩ := hxb
      simp only at hx0 hx1 hx2
      obtain ⟨gd, cd, evx, _, _⟩ := (HM.out.data x hxm).form (by omega)
      rw [evx, hx2] at cy
      obtain ⟨g, c, evd⟩ := HM.out.vd_is
      have hn1 := HM.out.ok.n1
      have hwf := wf_of (b := x.1) (by omega) (by omega)
      cases hkk : (fun i => ks.getD i false) k with
      | true =>
        have HS : Aside0 (settled (fun i => ks.getD i false) s.pend s.dur (k + 1) = lay (settled (fun i => ks.getD i false) s.pend s.dur k) x.1 x.2.1) := ⟨by rw [settled_step HM.out.pendIs hx]; exact if_pos hkk⟩
        have hlkb : kb < w.heap.size := (Array.getElem?_eq_some_iff.1 hkb).1; have hkbw := (HC.out.block kb hlkb hkF).trans hkb; have hkrw := reads_of_chg hkr HC.out hkA; have hkb2 : ∀ o, (wr.alloc o).heap[kb]? = some (.cells #[.slice Ak ks.length ck] 50 (0, 0)) := (fun o => (Below.heap_alloc wr o kb (by have := HC.out.size; omega)).trans hkbw); have hkr2 : ∀ o, ReadsOf Value.bool false (wr.alloc o) Ak ks.length ks := (fun o => reads_of_chg (F := fun _ => False) hkrw (Chg.ofBelow (below_alloc (Below.refl _ _) o)) (fun _ _ _ h => h)); have hkk2 : ks.getD k false = _ := hkk
        go_wp2_with (go_at_call 57; refine (keep_some _ kb Ak ck ks (hkb2 _) (hkr2 _) k).mono ?_; rw [hkk2]; rintro e w9 ⟨rfl, rfl⟩)
        have M1 := HM.out.below (w' := wr.alloc (.cells #[.int .i64 x.1, .slice (some ⟨gd, 0, none⟩) 512 cd] 41)) (below_alloc (Below.refl _ _) _)
        have hv := heap_at wr (.cells #[.int .i64 x.1, .slice (some ⟨gd, 0, none⟩) 512 cd] 41)
        have C1 : Chg F w (wr.alloc (.cells #[.int .i64 x.1, .slice (some ⟨gd, 0, none⟩) 512 cd] 41)) := HC.out.trans (Chg.ofBelow (below_alloc (Below.refl _ _) _))
        obtain ⟨W1, hW1⟩ : ∃ W1, W1 = wr.alloc (.cells #[.int .i64 x.1, .slice (some ⟨gd, 0, none⟩) 512 cd] 41) := ⟨_, rfl⟩
        rw [← hW1] at M1 hv C1 ⊢
        clear hW1
        have v0 := (blk_cell hv 0).trans rfl
        have v1 := (blk_cell hv 1).trans rfl
        obtain ⟨cur, hcur, hcs⟩ := M1.dur_cells evd
        have M2 : Mid lk W1.drew p s (settled (fun i => ks.getD i false) s.pend s.dur k) (left L.ps (lastV L.ps) k) F L := M1.move (Nat.le_refl _) (fun _ _ => rfl)
        have C2 : Chg F w W1.drew := ⟨C1.os, C1.tape, C1.output, C1.size, C1.block⟩
        have hB := block_at M2 evd x.1 ⟨hx0, hx1⟩
        have hdl := M1.ok.len
        go_still_tail 6, (by kernel_rfl)
        still_call hB
        repeat still_step
        refine wpStill_nil ?_
        change wpList _ _ _ _ _ W1.drew
        refine wpList_copy_own rfl (.tmp 22) (.tmp 24) 29 29 rfl 5 Try.underlying29 (by kernel_rfl) g (x.1.toNat * 512) 512 (c - x.1.toNat * 512) ⟨gd, 0, none⟩ 512 cd rfl rfl cur 5 hcur (nums .u8 x.2.1) (by rw [nums_length, hx2]; rfl) ?_ (by rw [nums_length]; omega) (by simp [nums, Value.oneCell']) ?_
        · intro j v hj
          have := (M2.data x hxm)
          rw [evx] at this
          exact this.cells rfl j v hj
        have M3 := M2.laid evd ⟨hx0, hx1⟩ hx2 hcur
        have hgF : F g := M2.ind g (by rw [evd]; rfl)
        have hnF : ¬ F wr.heap.size := fun q => by have := HM.out.lt _ q; omega
        have hgn : wr.heap.size ≠ g := fun q => hnF (q ▸ hgF)
        have C3 : Chg F W1.drew (W1.drew.setRow g (cur.toList.take (x.1.toNat * 512) ++ (nums .u8 x.2.1 ++ cur.toList.drop (x.1.toNat * 512 + (nums .u8 x.2.1).length))).toArray) :=
          ⟨rfl, rfl, rfl, by simp [World.setRow], fun q _ hq => setRow_other _ g q _ fun q' => hq (q' ▸ hgF)⟩
        have hv3 := (setRow_other W1.drew g wr.heap.size (cur.toList.take (x.1.toNat * 512) ++ (nums .u8 x.2.1 ++ cur.toList.drop (x.1.toNat * 512 + (nums .u8 x.2.1).length))).toArray hgn).trans hv
        obtain ⟨W3, hW3⟩ : ∃ W3, W3 = W1.drew.setRow g (cur.toList.take (x.1.toNat * 512) ++ (nums .u8 x.2.1 ++ cur.toList.drop (x.1.toNat * 512 + (nums .u8 x.2.1).length))).toArray := ⟨_, rfl⟩
        rw [← hW3] at M3 C3 hv3 ⊢
        clear hW3
        have C3' := C2.trans C3
        clear v0 v1
        have v0 := (blk_cell hv3 0).trans rfl
        have v1 := (blk_cell hv3 1).trans rfl
        have c4 := M3.c4
        go_wp2
        have MD : Mid lk W3.drew p s _ _ F L := M3.move (Nat.le_refl _) (fun _ _ => rfl)
        have CD : Chg F w W3.drew := ⟨C3'.os, C3'.tape, C3'.output, C3'.size, C3'.block⟩
        go_still_tail 6, (by kernel_rfl)
        change wpList _ _ _ _ _ W3.drew
        refine wpList_drop rfl (.tmp 29) (.tmp 31) 100 3 rfl 29 Try.underlying100 Try.underlying3 L.bm _ MD.map x.1 hwf rfl rfl ?_
        intro W5 m5 o5 t5 u5 s5 k5
        have M5 := MD.mapped m5 s5 k5
        have C5 : Chg F w W5 := CD.trans ⟨o5, t5, u5, by omega, fun q _ hq => k5 q fun q2 => hq (q2 ▸ MD.inm)⟩
        go_wp2
        refine ⟨⟨k + 1, by omega, by go_num, ⟨?_⟩, ⟨C5⟩⟩, by simp [intOf]; omega⟩
        rw [HS.out, left_step hx]
        exact M5
      | false =>
        have hlkb : kb < w.heap.size := (Array.getElem?_eq_some_iff.1 hkb).1; have hkbw := (HC.out.block kb hlkb hkF).trans hkb; have hkrw := reads_of_chg hkr HC.out hkA; have hkb2 : ∀ o, (wr.alloc o).heap[kb]? = some (.cells #[.slice Ak ks.length ck] 50 (0, 0)) := (fun o => (Below.heap_alloc wr o kb (by have := HC.out.size; omega)).trans hkbw); have hkr2 : ∀ o, ReadsOf Value.bool false (wr.alloc o) Ak ks.length ks := (fun o => reads_of_chg (F := fun _ => False) hkrw (Chg.ofBelow (below_alloc (Below.refl _ _) o)) (fun _ _ _ h => h)); have hkk2 : ks.getD k false = _ := hkk
        go_wp2_with (go_at_call 57; refine (keep_some _ kb Ak ck ks (hkb2 _) (hkr2 _) k).mono ?_; rw [hkk2]; rintro e w9 ⟨rfl, rfl⟩)
        have M1 := HM.out.below (w' := wr.alloc (.cells #[.int .i64 x.1, .slice (some ⟨gd, 0, none⟩) 512 cd] 41)) (below_alloc (Below.refl _ _) _)
        have hv := heap_at wr (.cells #[.int .i64 x.1, .slice (some ⟨gd, 0, none⟩) 512 cd] 41)
        have C1 : Chg F w (wr.alloc (.cells #[.int .i64 x.1, .slice (some ⟨gd, 0, none⟩) 512 cd] 41)) := HC.out.trans (Chg.ofBelow (below_alloc (Below.refl _ _) _))
        obtain ⟨W1, hW1⟩ : ∃ W1, W1 = wr.alloc (.cells #[.int .i64 x.1, .slice (some ⟨gd, 0, none⟩) 512 cd] 41) := ⟨_, rfl⟩
        rw [← hW1] at M1 hv C1 ⊢
        clear hW1
        have v0 := (blk_cell hv 0).trans rfl
        have v1 := (blk_cell hv 1).trans rfl
        have c4 := M1.c4
        go_wp2
        have MD : Mid lk W1.drew p s _ _ F L := M1.move (Nat.le_refl _) (fun _ _ => rfl)
        have CD : Chg F w W1.drew := ⟨C1.os, C1.tape, C1.output, C1.size, C1.block⟩
        go_still_tail 6, (by kernel_rfl)
        change wpList _ _ _ _ _ W1.drew
        refine wpList_drop rfl (.tmp 29) (.tmp 31) 100 3 rfl 29 Try.underlying100 Try.underlying3 L.bm _ MD.map x.1 hwf rfl rfl ?_
        intro W5 m5 o5 t5 u5 s5 k5
        have M5 := MD.mapped m5 s5 k5
        have C5 : Chg F w W5 := CD.trans ⟨o5, t5, u5, by omega, fun q _ hq => k5 q fun q2 => hq (q2 ▸ MD.inm)⟩
        go_wp2
        refine ⟨⟨k + 1, by omega, by go_num, ⟨?_⟩, ⟨C5⟩⟩, by simp [intOf]; omega⟩
        rw [settled_step M5.pendIs hx, left_step hx, if_neg (by rw [hkk]; simp)]
        exact M5
    · obtain rfl : k = L.ps.length := by omega
      have c3 := HM.out.c3
      have f3 := HM.out.fz 3
      go_wp2
      go_end0
      refine ⟨rfl, ⟨_, HM.out.done (left_all _) ?_⟩, HC.out.trans (Chg.set h.inp)⟩
      show _ = settled _ s.pend s.dur s.pend.length
      rw [hpl]

end Go.Proofs.Ythnbmfkmaijibaa.Dev
