/- A slice that goes on behind its end: what it was and what it is, seen together. -/
import Derived.Test.YthnbmfkmaijibaaSepOps
import Derived.Deep.DeepAppendRoom
import Derived.ArgAppend
namespace Go.Proofs.Ythnbmfkmaijibaa.Sep
open Go.Proofs Go.RowKit Go.Proofs.YthnbmfkmaijibaaW.PrintWords Go.Proofs.YthnbmfkmaijibaaW.PrintLast Go.Proofs.YthnbmfkmaijibaaW.PrintMore Go.Proofs.Ythnbmfkmaijibaa.Dev
set_option linter.unusedVariables false
set_option linter.unusedSimpArgs false
/-- append either lays all anew or goes on in the same block. -/
theorem run_keeps {P : Program} {w : World} {t ty e : TypeId} {i : TypeInfo} {z : Value} {size bytes : Nat} (ht : P.underlying t = some (.slice e)) (hi : P.info? e = some i) (hz : i.zero = some z)
    (hsize : i.size = size) (hby : i.bytes = bytes) (hzs : z.cells.size = size) (hsz : 0 < size) {v : Value} {n : Nat} {xs : List Value} (hown : w.ownsRow 0 e size v n xs)
    (a : Addr) (m c : Nat) (news : List Value) (hl : news.length = m * size) (hnews : ∀ j u, news[j]? = some u → w.cell? (a.add j) = some u) (h1 : ∀ u ∈ news, u.oneCell' = true)
    (h63 : n + m ≤ maxLen) (hbytes : (n + m) * bytes ≤ 140737488355328) :
    ∃ v' w', (Builtin.append_ #[t, t] ty #[v, .slice (some a) m c]).run P w = .ok v' w' ∧
      ((w.grownBy w' none ∧ w'.ownsRow w.heap.size e size v' (n + m) (xs ++ news)) ∨
       (∃ g cap, v = .slice (some ⟨g, 0, none⟩) n cap ∧ v' = .slice (some ⟨g, 0, none⟩) (n + m) cap ∧ w.grownBy w' (some g) ∧ w'.ownsRow 0 e size v' (n + m) (xs ++ news))) := by
  rcases hown.2 with ⟨rfl, rfl⟩ | ⟨g, cap, cur, rfl, hbg, hg, hnc, hcm, hcs, htake⟩
  · have hx : xs = [] := List.eq_nil_of_length_eq_zero (by simpa using hown.1)
    subst hx
    obtain ⟨v', w', hr, q1, q2, _⟩ := run_append_own_at (P := P) w w.heap.size t ty e i z size bytes ht hi hz hsize hby hzs hsz (.slice none 0 0) 0 [] (World.ownsRow_nil w _ e size) a m c news hl hnews h1 h63 hbytes (Nat.le_refl _)
    exact ⟨v', w', hr, .inl ⟨q2, q1⟩⟩
  · by_cases hroom : n + m ≤ cap
    · obtain ⟨w', hr, q1, q2⟩ := run_append_own_spare (P := P) w 0 t ty e i size ht hi hsize g n cap xs hown a m c news hl hnews h1 hroom
      exact ⟨_, w', hr, .inr ⟨g, cap, rfl, rfl, q2, q1⟩⟩
    · obtain ⟨v', w', hr, q1, q2⟩ := run_append_arg_grows (P := P) w t ty e i z size bytes ht hi hz hsize hby hzs hsz ⟨g, 0, none⟩ n cap xs hown.1 (hown.cells (g := g) rfl) a m c news hl hnews (by omega) h63 hbytes
      exact ⟨v', w', hr, .inl ⟨q2, q1⟩⟩
/-- A row as it was (v0) and as it is (v): in one block, or in two. -/
structure Twin (e : TypeId) (size : Nat) (v0 : Value) (n0 : Nat) (xs0 : List Value) (v : Value) (n : Nat) (xs : List Value) (w : World) (F : Nat → Prop) : Prop where
  old : w.ownsRow 0 e size v0 n0 xs0
  new : w.ownsRow 0 e size v n xs
  in0 : ∀ k, v0.ownBlock = some k → F k
  in1 : ∀ k, v.ownBlock = some k → F k
  lt : ∀ k, F k → k < w.heap.size
  same : ∀ k, v0.ownBlock = some k → v.ownBlock = some k → ∃ A c, v0 = .slice A n0 c ∧ v = .slice A n c
  le : n0 ≤ n
  pre : xs.take (n0 * size) = xs0
def Twn (e : TypeId) (size : Nat) (v0 : Value) (n0 : Nat) (xs0 : List Value) (v : Value) (n : Nat) (xs : List Value) : Asn where
  H := Twin e size v0 n0 xs0 v n xs
  move := fun h hk => ⟨own_move h.old fun k e => hk k (h.in0 k e), own_move h.new fun k e => hk k (h.in1 k e), h.in0, h.in1, fun k hf => lt_move (h.lt k hf) (hk k hf), h.same, h.le, h.pre⟩
  lt := fun h => h.lt
section
variable {w0 w w' W : World} {e : TypeId} {size n0 n : Nat} {v0 v : Value} {xs0 xs : List Value} {R : List Asn}
theorem Sep.twin (S : Sep w0 w (Own e size v n xs :: R)) : Sep w0 w (Twn e size v n xs v n xs :: R) := by
  obtain ⟨F, h, _, hf⟩ := S.one
  refine hf w [Twn e size v n xs v n xs] (Star.one (G := F) ⟨h.1, h.1, h.2.1, h.2.1, h.2.2, fun k hk _ => ?_, Nat.le_refl _, ?_⟩ fun k hk => .inl hk) (Chg.refl _ _)
  · obtain ⟨A, c, rfl⟩ := own_slice h.1
    exact ⟨A, c, rfl, rfl⟩
  · rw [← h.1.1]; exact List.take_length
theorem Sep.twin_run {P : Program} {t ty : TypeId} {z : Value} {bytes : Nat} (S : Sep w0 W (Twn e size v0 n0 xs0 v n xs :: R))
    (ht : P.underlying t = some (.slice e)) (hinfo : (P.info? e).map (fun i => (i.zero, i.size, i.bytes)) = some (some z, size, bytes)) (hz : z.cells.size = size) (hs0 : 0 < size) (hb0 : 0 < bytes)
    (ys : List Value) (hys : ys.length = size) (h1 : ∀ u ∈ ys, u.oneCell' = true) (hl : (n + 1) * bytes ≤ 140737488355328) :
    ∃ A1 c1 w1, (Builtin.append_ #[t, t] ty #[v, .slice (some ⟨W.heap.size, 0, none⟩) 1 1]).run P (W.alloc (.cells ys.toArray e)) = .ok (.slice A1 (n + 1) c1) w1 ∧
      Sep w0 w1 (Twn e size v0 n0 xs0 (.slice A1 (n + 1) c1) (n + 1) (xs ++ ys) :: R) := by
  obtain ⟨F, h, hs, hf⟩ := S.one
  obtain ⟨i0, hi, hzz⟩ := Option.map_eq_some_iff.1 hinfo
  simp only [Prod.mk.injEq] at hzz
  obtain ⟨hz0, hz1, hz2⟩ := hzz
  have hlen : n + 1 ≤ 140737488355328 := Nat.le_trans (Nat.le_mul_of_pos_right _ hb0) hl
  obtain ⟨v1, w1, hrun, hr⟩ := run_keeps (P := P) (ty := ty) (w := W.alloc (.cells ys.toArray e)) ht hi hz0 hz1 hz2 hz hs0 (h.new.alloc _) ⟨W.heap.size, 0, none⟩ 1 1 ys (by rw [hys]; simp)
    (by simpa using World.news_of_block (cs := ys.toArray) (t := e) (fr := (0, 0)) (heap_alloc_new W (.cells ys.toArray e))) h1 (by simp only [maxLen]; omega) hl
  have hpre : (xs ++ ys).take (n0 * size) = xs0 := by
    rw [List.take_append_of_le_length (by rw [h.new.1]; exact Nat.mul_le_mul_right _ h.le)]
    exact h.pre
  have hsz : (W.alloc (.cells ys.toArray e)).heap.size = W.heap.size + 1 := by simp
  rcases hr with ⟨q1, q2⟩ | ⟨g, cap, rfl, rfl, q1, q2⟩
  · obtain ⟨A1, c1, rfl⟩ := own_slice q2
    have hg := World.grownBy.trans (World.grownBy_alloc W (.cells ys.toArray e) none) q1
    refine ⟨A1, c1, w1, hrun, ?_⟩
    have hb := own_base q2
    refine hf w1 [Twn e size v0 n0 xs0 (.slice A1 (n + 1) c1) (n + 1) (xs ++ ys)] (Star.one (G := grow F W w1) ⟨own_move h.old fun k hk => hg.block k (own_lt h.old k hk) (by intro hx; cases hx), own_weaken q2 (Nat.zero_le _), fun k hk => .inl (h.in0 k hk), fun k hk => .inr ⟨?_, own_lt q2 k hk⟩, ?_, fun k hk hk' => ?_, Nat.le_succ_of_le h.le, hpre⟩ fun k hk => hk) (Chg.grown hg fun k hk => by cases hk)
    · have := hb k hk; omega
    · intro k hk
      rcases hk with hk | hk
      · exact Nat.lt_of_lt_of_le (h.lt k hk) hg.size
      · exact hk.2
    · have g1 := own_lt h.old k hk
      have g2 := hb k hk'
      omega
  · have hg := World.grownBy.trans (World.grownBy_alloc W (.cells ys.toArray e) (some g)) q1
    refine ⟨_, cap, w1, hrun, ?_⟩
    refine hf w1 [Twn e size v0 n0 xs0 (.slice (some ⟨g, 0, none⟩) (n + 1) cap) (n + 1) (xs ++ ys)] (Star.one (G := F) ⟨?_, q2, h.in0, fun k hk => h.in1 k hk, fun k hk => Nat.lt_of_lt_of_le (h.lt k hk) hg.size, fun k hk hk' => ?_, Nat.le_succ_of_le h.le, hpre⟩ fun k hk => .inl hk) (Chg.grown hg fun k hk => by cases hk; exact h.in1 g rfl)
    · by_cases hb : v0.ownBlock = some g
      · obtain ⟨A, c, rfl, e2⟩ := h.same g hb rfl
        cases e2
        refine ⟨h.old.1, ?_⟩
        rcases q2.2 with ⟨e1, _⟩ | ⟨g', cap', cur, e1, b1, b2, b3, b4, b5, b6⟩
        · cases e1
        · cases e1
          refine .inr ⟨g, cap, cur, rfl, b1, b2, Nat.le_trans h.le (by omega), b4, b5, ?_⟩
          have h2 : cur.toList.take (n0 * size) = ((xs ++ ys)).take (n0 * size) := by
            rw [← b6, List.take_take, Nat.min_eq_left (Nat.mul_le_mul_right _ (Nat.le_succ_of_le h.le))]
          rw [h2, hpre]
      · exact own_move h.old fun k hk => hg.block k (own_lt h.old k hk) (by intro hx; cases hx; exact hb hk)
    · obtain ⟨A, c, e1, e2⟩ := h.same k hk hk'
      cases e2
      exact ⟨_, _, e1, rfl⟩
end
section
variable {P : Program} {ops : Array Oper} {rest : List Oper} {o : Oper} {a : Act} {Q : Exit → Act → World → Prop} {w0 W : World} {e : TypeId} {size n0 n : Nat} {v0 v : Value} {xs0 xs : List Value} {R : List Asn}
theorem twin_append (S : Sep w0 W (Twn e size v0 n0 xs0 v n xs :: R)) (hgd : o.guard = none) (s x : Operand) (t : TypeId) (z : Value) (bytes : Nat)
    (ho : o.op = .call { callee := .builtin .append, args := #[s, x], argTypes := #[t, t] })
    (ht : P.underlying t = some (.slice e)) (hinfo : (P.info? e).map (fun i => (i.zero, i.size, i.bytes)) = some (some z, size, bytes)) (hz : z.cells.size = size) (hs0 : 0 < size) (hb0 : 0 < bytes)
    (ys : List Value) (hs : a.eval s = v) (hx : a.eval x = .slice (some ⟨W.heap.size, 0, none⟩) 1 1) (hys : ys.length = size) (h1 : ∀ u ∈ ys, u.oneCell' = true) (hl : (n + 1) * bytes ≤ 140737488355328)
    (h : ∀ A1 c1 w1, Sep w0 w1 (Twn e size v0 n0 xs0 (.slice A1 (n + 1) c1) (n + 1) (xs ++ ys) :: R) → wpList P ops Q rest (a.put o.dst (.slice A1 (n + 1) c1)) w1) :
    wpList P ops Q (o :: rest) a (W.alloc (.cells ys.toArray e)) := by
  refine wpList_plain hgd fun K hK => ?_
  obtain ⟨A1, c1, w1, hrun, S1⟩ := S.twin_run (P := P) (t := t) (ty := o.type) ht hinfo hz hs0 hb0 ys hys h1 hl
  unfold Oper.wp
  simp [execOp, ho, resolve, invoke, builtin, hs, hx, hrun, Result.andThen]
  exact hK _ _ (h A1 c1 w1 S1)
theorem twin_step {K : Act → World → Prop} {E : Prop} (S : Sep w0 W (Twn e size v0 n0 xs0 v n xs :: R)) (hgd : o.guard = none) (s x : Operand) (t : TypeId) (z : Value) (bytes : Nat)
    (ho : o.op = .call { callee := .builtin .append, args := #[s, x], argTypes := #[t, t] })
    (ht : P.underlying t = some (.slice e)) (hinfo : (P.info? e).map (fun i => (i.zero, i.size, i.bytes)) = some (some z, size, bytes)) (hz : z.cells.size = size) (hs0 : 0 < size) (hb0 : 0 < bytes)
    (ys : List Value) (hs : a.eval s = v) (hx : a.eval x = .slice (some ⟨W.heap.size, 0, none⟩) 1 1) (hys : ys.length = size) (h1 : ∀ u ∈ ys, u.oneCell' = true) (hl : (n + 1) * bytes ≤ 140737488355328)
    (h : ∀ A1 c1 w1, Sep w0 w1 (Twn e size v0 n0 xs0 (.slice A1 (n + 1) c1) (n + 1) (xs ++ ys) :: R) → K (a.put o.dst (.slice A1 (n + 1) c1)) w1) :
    if Region.wanted o (yielded ops a.tmps) = true then Oper.wp P o a (W.alloc (.cells ys.toArray e)) K Q else E := by
  have hw : Region.wanted o (yielded ops a.tmps) = true := by simp [Region.wanted, hgd]
  rw [if_pos hw]
  obtain ⟨A1, c1, w1, hrun, S1⟩ := S.twin_run (P := P) (t := t) (ty := o.type) ht hinfo hz hs0 hb0 ys hys h1 hl
  unfold Oper.wp
  simp [execOp, ho, resolve, invoke, builtin, hs, hx, hrun, Result.andThen]
  exact h A1 c1 w1 S1
end
end Go.Proofs.Ythnbmfkmaijibaa.Sep
