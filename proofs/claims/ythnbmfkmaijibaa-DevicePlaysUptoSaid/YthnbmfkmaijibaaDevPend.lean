/- Pending. -/
import Derived.Test.YthnbmfkmaijibaaDevFlush
import Derived.Maps.AppendAt
import Derived.Deep.RegionLaw
namespace Go.Proofs.Ythnbmfkmaijibaa.Dev
open Go.Proofs Go.RowKit Go.Proofs.YthnbmfkmaijibaaW.PrintWords Go.Proofs.YthnbmfkmaijibaaW.PrintLast Go.Proofs.YthnbmfkmaijibaaW.PrintMore Go.Proofs.Ythnbmfkmaijibaa.IMap Go.Proofs.Ythnbmfkmaijibaa.Locks
set_option linter.unusedVariables false
set_option linter.unusedSimpArgs false
/-- A list of writes that was handed out: memory of its own. -/
structure Pends (w : World) (B : Nat) (v : Value) (l : List (Int × List Int)) (qs : List (Int × List Int × Value)) : Prop where
  is : l = qs.map fun x => (x.1, x.2.1)
  row : w.ownsRow B 41 2 v qs.length (pcells qs)
  data : ∀ x ∈ qs, w.ownsRow B 5 1 x.2.2 x.2.1.length (nums .u8 x.2.1)
  apart : qs.Pairwise fun x y => x.2.2.ownBlock = none ∨ x.2.2.ownBlock ≠ y.2.2.ownBlock
theorem Pends.below {w w' : World} {B : Nat} {v : Value} {l : List (Int × List Int)} {qs : List (Int × List Int × Value)} (h : Pends w B v l qs) (hb : Below w.heap.size w w') : Pends w' B v l qs :=
  ⟨h.is, pw_own_below h.row hb, fun x hx => pw_own_below (h.data x hx) hb, h.apart⟩
theorem pends_step {W2 w9 w10 : World} {B k cv : Nat} {u3 v9 : Value} {s : DS} {ps qs : List (Int × List Int × Value)} {x : Int × List Int × Value} {Av : Option Addr} (h : Pends W2 B u3 (s.pend.take k) qs) (hp : s.pend = ps.map fun x => (x.1, x.2.1)) (hx : ps[k]? = some x) (hx2 : x.2.1.length = 512) (hql : qs.length = k)
    (hb9 : Below W2.drew.heap.size W2.drew w9) (hown : w9.ownsRow W2.drew.heap.size 5 1 (.slice Av 512 cv) 512 (nums .u8 x.2.1)) (ho : w10.ownsRow 0 41 2 v9 (k + 1) (pcells qs ++ [.int .i64 x.1, .slice Av 512 cv]))
    (hg : w9.grownBy w10 u3.ownBlock) (hat : v9.ownBlock = u3.ownBlock ∨ ∃ b, v9.ownBlock = some b ∧ w9.heap.size ≤ b) (hB : B ≤ W2.heap.size) : Pends w10 B v9 (s.pend.take (k + 1)) (qs ++ [(x.1, x.2.1, .slice Av 512 cv)]) := by
  have hs9 : W2.heap.size ≤ w9.heap.size := hb9.size
  have hrow9 : w9.ownsRow B 41 2 u3 qs.length (pcells qs) := pw_own_below (w := W2.drew) h.row hb9
  have up : ∀ {base n : Nat} {v : Value} {xs : List Value}, w9.ownsRow base 5 1 v n xs → w10.ownsRow base 5 1 v n xs := fun hv => own_move hv fun q hq => hg.block q (own_lt hv q hq) fun e => own_two hv hrow9 (by decide) q hq e.symm
  have hk : k < s.pend.length := by rw [hp, List.length_map]; exact (List.getElem?_eq_some_iff.1 hx).1
  refine ⟨?_, ?_, ?_, ?_⟩
  · rw [List.take_succ_eq_append_getElem hk, List.map_append, ← h.is]
    have : s.pend[k] = (x.1, x.2.1) := by
      have e : s.pend[k]? = some (x.1, x.2.1) := by rw [hp, List.getElem?_map, hx]; rfl
      rw [List.getElem?_eq_getElem hk] at e
      exact Option.some.inj e
    rw [this]
    rfl
  · have e1 : (qs ++ [(x.1, x.2.1, Value.slice Av 512 cv)]).length = k + 1 := by simp [hql]
    rw [e1, pcells_append]
    refine own_up ho fun q hq => ?_
    rcases hat with h1 | ⟨b, h1, h2⟩
    · exact own_base h.row q (h1 ▸ hq)
    · have : b = q := by
        have := h1.symm.trans hq
        cases this
        rfl
      omega
  · intro y hy
    rcases List.mem_append.1 hy with h1 | h1
    · exact up (pw_own_below (w := W2.drew) (h.data y h1) hb9)
    · rw [List.mem_singleton.1 h1]
      show w10.ownsRow B 5 1 (.slice Av 512 cv) x.2.1.length (nums .u8 x.2.1)
      rw [hx2]
      exact own_weaken (up hown) hB
  · refine List.pairwise_append.2 ⟨h.apart, List.pairwise_singleton _ _, fun y hy z hz => ?_⟩
    rw [List.mem_singleton.1 hz]
    cases hyb : y.2.2.ownBlock with
    | none => exact .inl rfl
    | some q =>
      refine .inr fun e => ?_
      have h1 := own_lt (h.data y hy) q hyb
      have h2 := own_base hown q e.symm
      have h3 : W2.drew.heap.size = W2.heap.size := rfl
      omega
theorem cell_grown {W w1 : World} {row : Option Nat} {a : Addr} {v : Value} (hg : W.grownBy w1 row) (hne : some a.block ≠ row) (h : W.cell? a = some v) : w1.cell? a = some v :=
  (World.cell?_of_block (hg.block a.block (World.block_lt_of_cell? W _ h) hne)).trans h
theorem ka {w : World} {a : Addr} {v : Value} (h : w.cell? a = some v) (o : Obj) : (w.alloc o).cell? a = some v := pw_cell_below (below_alloc (Below.refl _ _) o) h
theorem kd {w : World} {a : Addr} {v : Value} (h : w.cell? a = some v) : w.drew.cell? a = some v := h
set_option maxHeartbeats 4000000 in
set_option maxRecDepth 100000 in
theorem pending_any {w : World} {p : Nat} {s : DS} {F : Nat → Prop} (h : Dev w p s F) (hp : s.pend.length ≤ 1000000000000) : Calls Try.prog 27 #[.pointer (some ⟨p, 0, none⟩)] w fun e w' => ∃ v qs, e = .returned v ∧ Pends w' w.heap.size v s.pend qs ∧ Dev w' p s F ∧ Chg F w w' := by
  obtain ⟨L, h⟩ := h
  go_enter_defers Try.func27, Try.ntmps27
  go_wp2_with fail
  refine (Go.MuLone.lock_free muLib ⟨p, 0, none⟩ _ h.c0 (h.fz 0)).mono ?_
  rintro e w1 ⟨rfl, hw1⟩
  have h1 : DevL 1 w1 p s F L := by rw [hw1]; exact h.lock
  have k1 : Chg F w w1 := by rw [hw1]; exact Chg.set h.inp
  clear hw1
  have hsz := k1.size
  have c3 := h1.c3
  obtain ⟨Ap, cp, evp⟩ := own_slice h1.pend
  rw [evp] at c3
  have hpl : s.pend.length = L.ps.length := by rw [h1.pendIs]; simp
  have hps : L.ps.length ≤ 1000000000000 := by omega
  have H1 := Aside0.mk h1
  have K1 := Aside0.mk k1
  clear hp
  go_wp2
  go_loopw [18, 3] (fun i v wr => ∃ k : Nat, k ≤ L.ps.length ∧ i = .int .i64 (k : Int) ∧ (∃ qs, Aside0 (Pends wr w1.heap.size v (s.pend.take k) qs)) ∧ Aside0 (Below w1.heap.size w1 wr)) (fun i _ _ => L.ps.length - (intOf i).toNat)
  case atStart => exact ⟨0, Nat.zero_le _, rfl, ⟨[], ⟨⟨by simp, own_nil _ _ _ _, by simp, by simp⟩⟩⟩, ⟨Below.refl _ _⟩⟩
  case round =>
    obtain ⟨k, hk, rfl, ⟨qs, HP⟩, HB⟩ := hrel
    by_cases hlt : k < L.ps.length
    · have hlti : ((k : Int) < (L.ps.length : Int)) := by omega
      obtain ⟨x, hx⟩ : ∃ x, L.ps[k]? = some x := ⟨_, List.getElem?_eq_getElem hlt⟩
      have hxm : x ∈ L.ps := List.mem_of_getElem? hx
      have hr := DevL.move H1.out HB.out.size fun q hq => HB.out.block q (H1.out.lt q hq)
      have hp := hr.pend
      rw [evp] at hp
      obtain ⟨gp, cap, e, hgb, hgl⟩ := hp.form (by omega)
      cases e
      have cx := hp.cells (g := gp) rfl _ _ (pcells_at hx).1
      have cy := hp.cells (g := gp) rfl _ _ (pcells_at hx).2
      rw [add_plain] at cx cy
      obtain ⟨_, _, hx2⟩ := hr.ok.pend (x.1, x.2.1) (by rw [hr.pendIs]; exact List.mem_map.2 ⟨x, hxm, rfl⟩)
      simp only at hx2
      obtain ⟨gd, cd, evx, _, hgdl⟩ := (hr.data x hxm).form (by omega)
      rw [evx, hx2] at cy
      have hrd := hr.data x hxm
      rw [evx] at hrd
      have hrr := ReadsInt.allocS (own_reads' hrd) (.cells #[.int .i64 x.1, .slice (some ⟨gd, 0, none⟩) 512 cd] 41)
      have HR := Aside0.mk hr
      clear hr
      have hql : qs.length = k := by
        have := congrArg List.length HP.out.is
        rw [List.length_take, List.length_map] at this
        omega
      have hvb : some wr.heap.size ≠ u3.ownBlock := fun e => by have := own_lt HP.out.row _ e.symm; omega
      go_wp2
      have hv := heap_at wr (.cells #[.int .i64 x.1, .slice (some ⟨gd, 0, none⟩) 512 cd] 41)
      have HP1 : Aside0 (Pends (wr.alloc (.cells #[.int .i64 x.1, .slice (some ⟨gd, 0, none⟩) 512 cd] 41)) w1.heap.size u3 (s.pend.take k) qs) := ⟨HP.out.below (below_alloc (Below.refl _ _) _)⟩
      have HB1 : Aside0 (Below w1.heap.size w1 (wr.alloc (.cells #[.int .i64 x.1, .slice (some ⟨gd, 0, none⟩) 512 cd] 41))) := ⟨below_call2 (below_alloc (Below.refl _ _) _) HB.out⟩
      have hsW : wr.heap.size < (wr.alloc (.cells #[.int .i64 x.1, .slice (some ⟨gd, 0, none⟩) 512 cd] 41)).heap.size := by rw [World.size_alloc]; omega
      obtain ⟨W2, hW2⟩ : ∃ W2, W2 = wr.alloc (.cells #[.int .i64 x.1, .slice (some ⟨gd, 0, none⟩) 512 cd] 41) := ⟨_, rfl⟩
      rw [← hW2] at hv hrr HP1 HB1 hsW ⊢
      clear hW2
      have v0 : W2.cell? ⟨wr.heap.size, 0, none⟩ = some (.int .i64 x.1) := (blk_cell hv 0).trans rfl
      have v1 : W2.cell? ⟨wr.heap.size, 1, none⟩ = some (.slice (some ⟨gd, 0, none⟩) 512 cd) := (blk_cell hv 1).trans rfl
      have hrd2 : ReadsInt W2.drew .u8 (some ⟨gd, 0, none⟩) x.2.1.length x.2.1 := hrr
      clear hrr hrd hv cx cy c3 hp
      go_region_held3 (fun w' => w'.cell? ⟨wr.heap.size, 0, none⟩ = some (.int .i64 x.1) ∧ w'.cell? ⟨wr.heap.size, 1, none⟩ = some (.slice (some ⟨gd, 0, none⟩) 512 cd)) (refine ⟨?_, ?_⟩ <;> (repeat (first | (with_reducible exact v0) | (with_reducible exact v1) | (with_reducible refine kd ?_) | (with_reducible refine ka ?_ _) | (with_reducible refine cell_grown (by assumption) hvb ?_) | (with_reducible refine pw_cell_below (by assumption) ?_))))
        (first | (go_at_call 55; refine (clone_n _ _ _ _ _ hx2 hrd2 (by rw [hx2]; decide)).mono ?_; rintro e w9 ⟨vq, rfl, hown, hb9⟩; rw [hx2] at hown; obtain ⟨Av, cv, rfl⟩ := own_slice hown) | (refine step_append_cells 0 rfl (.tmp 22) (.tmp 29) 31 41 (.agg #[.int .i64 0, .slice none 0 0]) 2 32 rfl Try.underlying31 infoPend rfl (by decide) (by decide) u3 k (pcells qs) [.int .i64 x.1, .slice Av 512 cv] ?ahs ?ahx rfl ?a1 ?aO ?aS ?aL ?_; (case ahs => rfl); (case ahx => rfl); (case a1 => (intro u hu; simp only [List.mem_cons, List.not_mem_nil, or_false] at hu; rcases hu with rfl | rfl <;> rfl)); (case aO => (have hq9 := own_weaken (pw_own_below (w := W2.drew) HP1.out.row hb9) (Nat.zero_le _); rw [hql] at hq9; exact hq9)); (case aS => exact Nat.zero_le _); (case aL => omega); intro v9 w10 hown6 hg6 hat6))
      have HP2 : Aside0 (Pends w10 w1.heap.size v9 (s.pend.take (k + 1)) (qs ++ [(x.1, x.2.1, .slice Av 512 cv)])) := ⟨pends_step HP1.out HR.out.pendIs hx hx2 hql hb9 hown hown6 hg6 hat6 HB1.out.size⟩
      have HB2 : Aside0 (Below w1.heap.size w1 w10) := ⟨(below_then (pw_below_drewN HB1.out 1) HB1.out.size hb9).grown hg6 (Nat.le_trans HB1.out.size hb9.size) fun q e => own_base HP1.out.row q e⟩
      clear hb9 hown hown6 hg6 hat6 v0 v1 hrd2
      go_wp2
      exact ⟨⟨k + 1, by omega, by go_num, ⟨_, HP2⟩, HB2⟩, by simp [intOf]; omega⟩
    · obtain rfl : k = L.ps.length := by omega
      have h3 : DevL 1 wr p s F L := DevL.move H1.out HB.out.size fun q hq => HB.out.block q (H1.out.lt q hq)
      clear h1 h k1
      go_wp2
      have h := h3
      refine leaves_cons (f := 50) (args := #[.pointer (some ⟨p, 0, none⟩)]) (by simp) (by simp [go_sem]) ?_
      refine (Go.MuLone.unlock_deferred muLib ⟨p, 0, none⟩ .returning _ h3.c0 (h3.fz 0)).mono ?_
      rintro e u2 w2 ⟨rfl, rfl, hw2⟩
      have h2 := h3.lock (lk' := 0)
      rw [← hw2] at h2
      have k2 := h3.chg0 (.int .i32 0)
      rw [← hw2] at k2
      clear hw2
      refine ⟨_, results_tmp rfl _ _ _, u3, qs, rfl, ?_, ⟨_, h2⟩, (K1.out.trans (Chg.ofBelow HB.out)).trans k2⟩
      have hP := HP.out
      have e : s.pend.take L.ps.length = s.pend := by rw [← hpl]; exact List.take_length
      rw [e] at hP
      have hlt : ∀ q, w1.heap.size ≤ q → ¬ F q := fun q hq hF => by have := H1.out.lt q hF; omega
      exact ⟨hP.is, own_weaken (own_move hP.row fun q hq => k2.block q (own_lt hP.row q hq) (hlt q (own_base hP.row q hq))) hsz,
        fun y hy => own_weaken (own_move (hP.data y hy) fun q hq => k2.block q (own_lt (hP.data y hy) q hq) (hlt q (own_base (hP.data y hy) q hq))) hsz, hP.apart⟩
end Go.Proofs.Ythnbmfkmaijibaa.Dev
