/- A slice that goes on behind its end: what it was and what it is, seen together. -/
import Derived.Test.YthnbmfkmaijibaaSepOps
import Derived.Deep.DeepAppendRoom
import Derived.ArgAppend
import Derived.Test.YthnbmfkmaijibaaMRef
namespace Go.Proofs.Ythnbmfkmaijibaa.Sep
open Go.Proofs Go.RowKit Go.Proofs.YthnbmfkmaijibaaW.PrintWords Go.Proofs.YthnbmfkmaijibaaW.PrintLast Go.Proofs.YthnbmfkmaijibaaW.PrintMore Go.Proofs.Ythnbmfkmaijibaa.Dev
set_option linter.unusedVariables false
set_option linter.unusedSimpArgs false
/-- append either lays all anew or goes on in the same block. -/
theorem run_keeps {P : Program} {w : World} {t ty e : TypeId} {i : TypeInfo} {z : Value} {size bytes : Nat} (ht : P.underlying t = some (.slice e)) (hi : P.info? e = some i) (hz : i.zero = some z)
    (hsize : i.size = size) (hby : i.bytes = bytes) (hzs : z.cells.size = size) (hsz : 0 < size) {v : Value} {n : Nat} {xs : List Value} (hown : w.ownsRow 0 e size v n xs)
    (a : Addr) (m c : Nat) (news : List Value) (hl : news.length = m * size) (hnews : ∀ j u, news[j]? = some u → w.cell? (a.add j) = some u) (h1 : ∀ u ∈ news, u.oneCell' = true)
    (h63 : n + m ≤ maxLen) (hbytes : (n + m) * bytes ≤ 140737488355328) :
    ∃ v' w', (Builtin.append_ #[t, t] ty #[v, .slice (some a) m c]).run P w = .ok v' w' ∧
      ((w.grownBy w' none ∧ w'.ownsRow w.heap.size e size v' (n + m) (xs ++ news)) ∨
       (∃ g cap, v = .slice (some ⟨g, 0, none⟩) n cap ∧ v' = .slice (some ⟨g, 0, none⟩) (n + m) cap ∧ w.grownBy w' (some g) ∧ w'.ownsRow 0 e size v' (n + m) (xs ++ news))) := by
  rcases hown.2 with ⟨rfl, rfl⟩ | ⟨g, cap, cur, rfl, hbg, hg, hnc, hcm, hcs, htake⟩
  · have hx : xs = [] := List.eq_nil_of_length_eq_zero (by simpa using hown.1)
    subst hx
    obtain ⟨v', w', hr, q1, q2, _⟩ := run_append_own_at (P := P) w w.heap.size t ty e i z size bytes ht hi hz hsize hby hzs hsz (.slice none 0 0) 0 [] (World.ownsRow_nil w _ e size) a m c news hl hnews h1 h63 hbytes (Nat.le_refl _)
    exact ⟨v', w', hr, .inl ⟨q2, q1⟩⟩
  · by_cases hroom : n + m ≤ cap
    · obtain ⟨w', hr, q1, q2⟩ := run_append_own_spare (P := P) w 0 t ty e i size ht hi hsize g n cap xs hown a m c news hl hnews h1 hroom
      exact ⟨_, w', hr, .inr ⟨g, cap, rfl, rfl, q2, q1⟩⟩
    · obtain ⟨v', w', hr, q1, q2⟩ := run_append_arg_grows (P := P) w t ty e i z size bytes ht hi hz hsize hby hzs hsz ⟨g, 0, none⟩ n cap xs hown.1 (hown.cells (g := g) rfl) a m c news hl hnews (by omega) h63 hbytes
      exact ⟨v', w', hr, .inl ⟨q2, q1⟩⟩
/-- A row as it was (v0) and as it is (v): in one block, or in two. -/
structure Twin (e : TypeId) (size : Nat) (v0 : Value) (n0 : Nat) (xs0 : List Value) (v : Value) (n : Nat) (xs : List Value) (w : World) (F : Nat → Prop) : Prop where
  old : w.ownsRow 0 e size v0 n0 xs0
  new : w.ownsRow 0 e size v n xs
  in0 : ∀ k, v0.ownBlock = some k → F k
  in1 : ∀ k, v.ownBlock = some k → F k
  lt : ∀ k, F k → k < w.heap.size
  same : ∀ k, v0.ownBlock = some k → v.ownBlock = some k → ∃ A c, v0 = .slice A n0 c ∧ v = .slice A n c
  le : n0 ≤ n
  pre : xs.take (n0 * size) = xs0
def Twn (e : TypeId) (size : Nat) (v0 : Value) (n0 : Nat) (xs0 : List Value) (v : Value) (n : Nat) (xs : List Value) : Asn where
  H := Twin e size v0 n0 xs0 v n xs
  move := fun h hk => ⟨own_move h.old fun k e => hk k (h.in0 k e), own_move h.new fun k e => hk k (h.in1 k e), h.in0, h.in1, fun k hf => lt_move (h.lt k hf) (hk k hf), h.same, h.le, h.pre⟩
  lt := fun h => h.lt
section
variable {w0 w w' W : World} {e : TypeId} {size n0 n : Nat} {v0 v : Value} {xs0 xs : List Value} {R : List Asn}
theorem Sep.twin (S : Sep w0 w (Own e size v n xs :: R)) : Sep w0 w (Twn e size v n xs v n xs :: R) := by
  obtain ⟨F, h, _, hf⟩ := S.one
  refine hf w [Twn e size v n xs v n xs] (Star.one (G := F) ⟨h.1, h.1, h.2.1, h.2.1, h.2.2, fun k hk _ => ?_, Nat.le_refl _, ?_⟩ fun k hk => .inl hk) (Chg.refl _ _)
  · obtain ⟨A, c, rfl⟩ := own_slice h.1
    exact ⟨A, c, rfl, rfl⟩
  · rw [← h.1.1]; exact List.take_length
theorem Sep.twin_run {P : Program} {t ty : TypeId} {z : Value} {bytes : Nat} (S : Sep w0 W (Twn e size v0 n0 xs0 v n xs :: R))
    (ht : P.underlying t = some (.slice e)) (hinfo : (P.info? e).map (fun i => (i.zero, i.size, i.bytes)) = some (some z, size, bytes)) (hz : z.cells.size = size) (hs0 : 0 < size) (hb0 : 0 < bytes)
    (ys : List Value) (hys : ys.length = size) (h1 : ∀ u ∈ ys, u.oneCell' = true) (hl : (n + 1) * bytes ≤ 140737488355328) :
    ∃ A1 c1 w1, (Builtin.append_ #[t, t] ty #[v, .slice (some ⟨W.heap.size, 0, none⟩) 1 1]).run P (W.alloc (.cells ys.toArray e)) = .ok (.slice A1 (n + 1) c1) w1 ∧
      Sep w0 w1 (Twn e size v0 n0 xs0 (.slice A1 (n + 1) c1) (n + 1) (xs ++ ys) :: R) := by
  obtain ⟨F, h, hs, hf⟩ := S.one
  obtain ⟨i0, hi, hzz⟩ := Option.map_eq_some_iff.1 hinfo
  simp only [Prod.mk.injEq] at hzz
  obtain ⟨hz0, hz1, hz2⟩ := hzz
  have hlen : n + 1 ≤ 140737488355328 := Nat.le_trans (Nat.le_mul_of_pos_right _ hb0) hl
  obtain ⟨v1, w1, hrun, hr⟩ := run_keeps (P := P) (ty := ty) (w := W.alloc (.cells ys.toArray e)) ht hi hz0 hz1 hz2 hz hs0 (h.new.alloc _) ⟨W.heap.size, 0, none⟩ 1 1 ys (by rw [hys]; simp)
    (by simpa using World.news_of_block (cs := ys.toArray) (t := e) (fr := (0, 0)) (heap_alloc_new W (.cells ys.toArray e))) h1 (by simp only [maxLen]; omega) hl
  have hpre : (xs ++ ys).take (n0 * size) = xs0 := by
    rw [List.take_append_of_le_length (by rw [h.new.1]; exact Nat.mul_le_mul_right _ h.le)]
    exact h.pre
  have hsz : (W.alloc (.cells ys.toArray e)).heap.size = W.heap.size + 1 := by simp
  rcases hr with ⟨q1, q2⟩ | ⟨g, cap, rfl, rfl, q1, q2⟩
  · obtain ⟨A1, c1, rfl⟩ := own_slice q2
    have hg := World.grownBy.trans (World.grownBy_alloc W (.cells ys.toArray e) none) q1
    refine ⟨A1, c1, w1, hrun, ?_⟩
    have hb := own_base q2
    refine hf w1 [Twn e size v0 n0 xs0 (.slice A1 (n + 1) c1) (n + 1) (xs ++ ys)] (Star.one (G := grow F W w1) ⟨own_move h.old fun k hk => hg.block k (own_lt h.old k hk) (by intro hx; cases hx), own_weaken q2 (Nat.zero_le _), fun k hk => .inl (h.in0 k hk), fun k hk => .inr ⟨?_, own_lt q2 k hk⟩, ?_, fun k hk hk' => ?_, Nat.le_succ_of_le h.le, hpre⟩ fun k hk => hk) (Chg.grown hg fun k hk => by cases hk)
    · have := hb k hk; omega
    · intro k hk
      rcases hk with hk | hk
      · exact Nat.lt_of_lt_of_le (h.lt k hk) hg.size
      · exact hk.2
    · have g1 := own_lt h.old k hk
      have g2 := hb k hk'
      omega
  · have hg := World.grownBy.trans (World.grownBy_alloc W (.cells ys.toArray e) (some g)) q1
    refine ⟨_, cap, w1, hrun, ?_⟩
    refine hf w1 [Twn e size v0 n0 xs0 (.slice (some ⟨g, 0, none⟩) (n + 1) cap) (n + 1) (xs ++ ys)] (Star.one (G := F) ⟨?_, q2, h.in0, fun k hk => h.in1 k hk, fun k hk => Nat.lt_of_lt_of_le (h.lt k hk) hg.size, fun k hk hk' => ?_, Nat.le_succ_of_le h.le, hpre⟩ fun k hk => .inl hk) (Chg.grown hg fun k hk => by cases hk; exact h.in1 g rfl)
    · by_cases hb : v0.ownBlock = some g
      · obtain ⟨A, c, rfl, e2⟩ := h.same g hb rfl
        cases e2
        refine ⟨h.old.1, ?_⟩
        rcases q2.2 with ⟨e1, _⟩ | ⟨g', cap', cur, e1, b1, b2, b3, b4, b5, b6⟩
        · cases e1
        · cases e1
          refine .inr ⟨g, cap, cur, rfl, b1, b2, Nat.le_trans h.le (by omega), b4, b5, ?_⟩
          have h2 : cur.toList.take (n0 * size) = ((xs ++ ys)).take (n0 * size) := by
            rw [← b6, List.take_take, Nat.min_eq_left (Nat.mul_le_mul_right _ (Nat.le_succ_of_le h.le))]
          rw [h2, hpre]
      · exact own_move h.old fun k hk => hg.block k (own_lt h.old k hk) (by intro hx; cases hx; exact hb hk)
    · obtain ⟨A, c, e1, e2⟩ := h.same k hk hk'
      cases e2
      exact ⟨_, _, e1, rfl⟩
end
section
variable {P : Program} {ops : Array Oper} {rest : List Oper} {o : Oper} {a : Act} {Q : Exit → Act → World → Prop} {w0 W : World} {e : TypeId} {size n0 n : Nat} {v0 v : Value} {xs0 xs : List Value} {R : List Asn}
theorem twin_append (S : Sep w0 W (Twn e size v0 n0 xs0 v n xs :: R)) (hgd : o.guard = none) (s x : Operand) (t : TypeId) (z : Value) (bytes : Nat)
    (ho : o.op = .call { callee := .builtin .append, args := #[s, x], argTypes := #[t, t] })
    (ht : P.underlying t = some (.slice e)) (hinfo : (P.info? e).map (fun i => (i.zero, i.size, i.bytes)) = some (some z, size, bytes)) (hz : z.cells.size = size) (hs0 : 0 < size) (hb0 : 0 < bytes)
    (ys : List Value) (hs : a.eval s = v) (hx : a.eval x = .slice (some ⟨W.heap.size, 0, none⟩) 1 1) (hys : ys.length = size) (h1 : ∀ u ∈ ys, u.oneCell' = true) (hl : (n + 1) * bytes ≤ 140737488355328)
    (h : ∀ A1 c1 w1, Sep w0 w1 (Twn e size v0 n0 xs0 (.slice A1 (n + 1) c1) (n + 1) (xs ++ ys) :: R) → wpList P ops Q rest (a.put o.dst (.slice A1 (n + 1) c1)) w1) :
    wpList P ops Q (o :: rest) a (W.alloc (.cells ys.toArray e)) := by
  refine wpList_plain hgd fun K hK => ?_
  obtain ⟨A1, c1, w1, hrun, S1⟩ := S.twin_run (P := P) (t := t) (ty := o.type) ht hinfo hz hs0 hb0 ys hys h1 hl
  unfold Oper.wp
  simp [execOp, ho, resolve, invoke, builtin, hs, hx, hrun, Result.andThen]
  exact hK _ _ (h A1 c1 w1 S1)
theorem twin_step {K : Act → World → Prop} {E : Prop} (S : Sep w0 W (Twn e size v0 n0 xs0 v n xs :: R)) (hgd : o.guard = none) (s x : Operand) (t : TypeId) (z : Value) (bytes : Nat)
    (ho : o.op = .call { callee := .builtin .append, args := #[s, x], argTypes := #[t, t] })
    (ht : P.underlying t = some (.slice e)) (hinfo : (P.info? e).map (fun i => (i.zero, i.size, i.bytes)) = some (some z, size, bytes)) (hz : z.cells.size = size) (hs0 : 0 < size) (hb0 : 0 < bytes)
    (ys : List Value) (hs : a.eval s = v) (hx : a.eval x = .slice (some ⟨W.heap.size, 0, none⟩) 1 1) (hys : ys.length = size) (h1 : ∀ u ∈ ys, u.oneCell' = true) (hl : (n + 1) * bytes ≤ 140737488355328)
    (h : ∀ A1 c1 w1, Sep w0 w1 (Twn e size v0 n0 xs0 (.slice A1 (n + 1) c1) (n + 1) (xs ++ ys) :: R) → K (a.put o.dst (.slice A1 (n + 1) c1)) w1) :
    if Region.wanted o (yielded ops a.tmps) = true then Oper.wp P o a (W.alloc (.cells ys.toArray e)) K Q else E := by
  have hw : Region.wanted o (yielded ops a.tmps) = true := by simp [Region.wanted, hgd]
  rw [if_pos hw]
  obtain ⟨A1, c1, w1, hrun, S1⟩ := S.twin_run (P := P) (t := t) (ty := o.type) ht hinfo hz hs0 hb0 ys hys h1 hl
  unfold Oper.wp
  simp [execOp, ho, resolve, invoke, builtin, hs, hx, hrun, Result.andThen]
  exact h A1 c1 w1 S1
end
end Go.Proofs.Ythnbmfkmaijibaa.Sep
/- append(v, ys...) of whatever elements, told of a list of things that lie apart; as an operation and as a step of a drawn region. -/
namespace Go.Proofs.Ythnbmfkmaijibaa.Sep
open Go.Proofs Go.RowKit Go.Proofs.YthnbmfkmaijibaaW.PrintWords Go.Proofs.YthnbmfkmaijibaaW.PrintLast Go.Proofs.YthnbmfkmaijibaaW.PrintMore Go.Proofs.Ythnbmfkmaijibaa.Dev
set_option linter.unusedVariables false
set_option linter.unusedSimpArgs false
/-- What lies there. -/
def Lies (W : World) (A : Option Addr) (ys : List Value) : Prop := ∀ j u, ys[j]? = some u → ∃ ad, A = some ad ∧ W.cell? (ad.add j) = some u
section
variable {P : Program} {ops : Array Oper} {rest : List Oper} {o : Oper} {a : Act} {Q : Exit → Act → World → Prop} {w0 W w : World} {R : List Asn} {e : TypeId} {size n m c : Nat} {v : Value} {xs ys : List Value} {A : Option Addr}
theorem Sep.lies {g : Nat} (S : Sep w0 W (Own e size (.slice (some ⟨g, 0, none⟩) n c) n xs :: R)) (i m : Nat) : Lies W (some ⟨g, i * size, none⟩) ((xs.drop (i * size)).take m) := by
  intro j u hu
  refine ⟨_, rfl, ?_⟩
  have hj : j < m := by
    by_cases h : j < m
    · exact h
    · rw [List.getElem?_eq_none (by simp; omega)] at hu
      cases hu
  rw [List.getElem?_take_of_lt hj, List.getElem?_drop] at hu
  have h1 := S.row.cells (g := g) rfl _ _ hu
  rw [add_plain] at h1
  have ea : (⟨g, i * size, none⟩ : Addr).add j = ⟨g, i * size + j, none⟩ := by unfold Addr.add; split <;> simp_all
  rw [ea]
  exact h1
theorem Lies.new (W : World) (cs : Array Value) (t : TypeId) : Lies (W.alloc (.cells cs t)) (some ⟨W.heap.size, 0, none⟩) cs.toList := by
  intro j u hu
  have h := World.news_of_block (cs := cs) (t := t) (fr := (0, 0)) (heap_alloc_new W (.cells cs t)) j u (by simpa using hu)
  exact ⟨_, rfl, h⟩
theorem Lies.calm {w' : World} (h : Lies w A ys) (b : Below w.heap.size w w') : Lies w' A ys := fun j u hu => by
  obtain ⟨ad, e, h1⟩ := h j u hu
  exact ⟨ad, e, pw_cell_below b h1⟩
theorem rows_run {t ty : TypeId} {z : Value} {bytes : Nat} (S : Sep w0 W (Own e size v n xs :: R))
    (ht : P.underlying t = some (.slice e)) (hinfo : (P.info? e).map (fun i => (i.zero, i.size, i.bytes)) = some (some z, size, bytes)) (hz : z.cells.size = size) (hs0 : 0 < size) (hb0 : 0 < bytes)
    (hys : ys.length = m * size) (hA : Lies W A ys) (h1 : ∀ u ∈ ys, u.oneCell' = true) (hl : (n + m) * bytes ≤ 140737488355328) :
    ∃ A1 c1 w1, (Builtin.append_ #[t, t] ty #[v, .slice A m c]).run P W = .ok (.slice A1 (n + m) c1) w1 ∧ Sep w0 w1 (Own e size (.slice A1 (n + m) c1) (n + m) (xs ++ ys) :: R) := by
  obtain ⟨F, hF, _⟩ := S.hd
  obtain ⟨i0, hi, hzz⟩ := Option.map_eq_some_iff.1 hinfo
  simp only [Prod.mk.injEq] at hzz
  obtain ⟨hz0, hz1, hz2⟩ := hzz
  have hlen : n + m ≤ 140737488355328 := Nat.le_trans (Nat.le_mul_of_pos_right _ hb0) hl
  rcases A with _ | ad
  · have h0 : ys = [] := by
      cases ys with
      | nil => rfl
      | cons u l =>
        obtain ⟨ad, h, _⟩ := hA 0 u rfl
        cases h
    subst h0
    have hm : m = 0 := by
      rcases Nat.eq_zero_or_pos m with h | h
      · exact h
      · have := Nat.mul_pos h hs0
        simp at hys
        omega
    subst hm
    obtain ⟨A1, c1, rfl⟩ := own_slice hF.1
    refine ⟨A1, c1, W, ?_, by rw [List.append_nil]; exact S⟩
    rcases hF.1.2 with ⟨e1, hn⟩ | ⟨g, cap, cur, e1, _, _, hnc, _⟩
    · cases e1
      simp [Builtin.append_, run_underlying ht, sizeOf, typeInfo, hi, Builtin.lenOf, Builtin.firstCells]
    · cases e1
      simp [Builtin.append_, run_underlying ht, sizeOf, typeInfo, hi, Builtin.lenOf, Builtin.firstCells, hnc, storeCells]
  · obtain ⟨v1, w1, hrun, hown, hg, _, hat⟩ := run_append_own_at (P := P) W 0 t ty e i0 z size bytes ht hi hz0 hz1 hz2 hz hs0 v n xs hF.1 ad m c ys hys
      (fun j u hj => by
        obtain ⟨ad', e', hc⟩ := hA j u hj
        cases e'
        exact hc) h1 (by simp only [maxLen]; omega) hl (Nat.zero_le _)
    obtain ⟨A1, c1, rfl⟩ := own_slice hown
    exact ⟨A1, c1, w1, hrun, S.grown hown hg (hat.imp id fun q => ⟨_, q, Nat.le_refl _⟩)⟩
theorem append_rows (S : Sep w0 W (Own e size v n xs :: R)) (hgd : o.guard = none) (s x : Operand) (t : TypeId) (z : Value) (bytes : Nat)
    (ho : o.op = .call { callee := .builtin .append, args := #[s, x], argTypes := #[t, t] })
    (ht : P.underlying t = some (.slice e)) (hinfo : (P.info? e).map (fun i => (i.zero, i.size, i.bytes)) = some (some z, size, bytes)) (hz : z.cells.size = size) (hs0 : 0 < size) (hb0 : 0 < bytes)
    (ys : List Value) (A : Option Addr) (m c : Nat) (hs : a.eval s = v) (hx : a.eval x = .slice A m c) (hys : ys.length = m * size) (hA : Lies W A ys) (h1 : ∀ u ∈ ys, u.oneCell' = true) (hl : (n + m) * bytes ≤ 140737488355328)
    (h : ∀ A1 c1 w1, Sep w0 w1 (Own e size (.slice A1 (n + m) c1) (n + m) (xs ++ ys) :: R) → wpList P ops Q rest (a.put o.dst (.slice A1 (n + m) c1)) w1) : wpList P ops Q (o :: rest) a W := by
  refine wpList_plain hgd fun K hK => ?_
  obtain ⟨A1, c1, w1, hrun, S1⟩ := rows_run (P := P) (t := t) (ty := o.type) (c := c) S ht hinfo hz hs0 hb0 hys hA h1 hl
  unfold Oper.wp
  simp [execOp, ho, resolve, invoke, builtin, hs, hx, hrun, Result.andThen]
  exact hK _ _ (h A1 c1 w1 S1)
theorem append_rows_step {K : Act → World → Prop} {E : Prop} (S : Sep w0 W (Own e size v n xs :: R)) (hgd : o.guard = none) (s x : Operand) (t : TypeId) (z : Value) (bytes : Nat)
    (ho : o.op = .call { callee := .builtin .append, args := #[s, x], argTypes := #[t, t] })
    (ht : P.underlying t = some (.slice e)) (hinfo : (P.info? e).map (fun i => (i.zero, i.size, i.bytes)) = some (some z, size, bytes)) (hz : z.cells.size = size) (hs0 : 0 < size) (hb0 : 0 < bytes)
    (ys : List Value) (A : Option Addr) (m c : Nat) (hs : a.eval s = v) (hx : a.eval x = .slice A m c) (hys : ys.length = m * size) (hA : Lies W A ys) (h1 : ∀ u ∈ ys, u.oneCell' = true) (hl : (n + m) * bytes ≤ 140737488355328)
    (h : ∀ A1 c1 w1, Sep w0 w1 (Own e size (.slice A1 (n + m) c1) (n + m) (xs ++ ys) :: R) → K (a.put o.dst (.slice A1 (n + m) c1)) w1) :
    if Region.wanted o (yielded ops a.tmps) = true then Oper.wp P o a W K Q else E := by
  have hw : Region.wanted o (yielded ops a.tmps) = true := by simp [Region.wanted, hgd]
  rw [if_pos hw]
  obtain ⟨A1, c1, w1, hrun, S1⟩ := rows_run (P := P) (t := t) (ty := o.type) (c := c) S ht hinfo hz hs0 hb0 hys hA h1 hl
  unfold Oper.wp
  simp [execOp, ho, resolve, invoke, builtin, hs, hx, hrun, Result.andThen]
  exact h A1 c1 w1 S1
end
end Go.Proofs.Ythnbmfkmaijibaa.Sep
/- Lists that were written full with a mark each and may share memory; the book of them. -/
namespace Go.Proofs.Ythnbmfkmaijibaa.Sep
open Go.Proofs Go.RowKit Go.Proofs.YthnbmfkmaijibaaW.PrintWords Go.Proofs.YthnbmfkmaijibaaW.PrintLast Go.Proofs.YthnbmfkmaijibaaW.PrintMore Go.Proofs.Ythnbmfkmaijibaa.IMap Go.Proofs.Ythnbmfkmaijibaa.Dev Go.Proofs.Ythnbmfkmaijibaa.PDeviceReads Go.Proofs.Ythnbmfkmaijibaa.Help
set_option linter.unusedVariables false
set_option linter.unusedSimpArgs false
abbrev V3 := Value × Int × Nat
abbrev row3 (x : V3) : List Value := nums .u8 (List.replicate x.2.2 x.2.1)
/-- Each holds its mark, so often. They may share memory. -/
def HoldA (vs : List V3) : Asn where
  H w F := (∀ x ∈ vs, w.ownsRow 0 5 1 x.1 x.2.2 (row3 x) ∧ ∀ k, x.1.ownBlock = some k → F k) ∧ ∀ k, F k → k < w.heap.size
  move := fun h hk => ⟨fun x hx => ⟨own_move (h.1 x hx).1 fun k e => hk k ((h.1 x hx).2 k e), (h.1 x hx).2⟩, fun k hf => lt_move (h.2 k hf) (hk k hf)⟩
  lt := fun h => h.2
section
variable {w0 w w' W : World} {R : List Asn} {vs us : List V3} {v : Value} {m : Int} {n : Nat}
theorem Sep.hold0 (S : Sep w0 w R) : Sep w0 w (HoldA [] :: R) :=
  S.new (Below.refl _ _) (A := HoldA []) (G := fun _ => False) ⟨fun x hx => absurd hx (List.not_mem_nil), fun k h => h.elim⟩ fun k h => h.elim
theorem Sep.hold (S : Sep w0 w (Own 5 1 v n (nums .u8 (List.replicate n m)) :: R)) : Sep w0 w (HoldA [(v, m, n)] :: R) := by
  obtain ⟨F, h, _, hf⟩ := S.one
  refine hf w [HoldA [(v, m, n)]] (Star.one (G := F) ⟨fun x hx => ?_, h.2.2⟩ fun k hk => .inl hk) (Chg.refl _ _)
  rw [List.mem_singleton.1 hx]
  exact ⟨h.1, h.2.1⟩
theorem Sep.holdSub (S : Sep w0 w (HoldA vs :: R)) (hs : ∀ x ∈ us, x ∈ vs) : Sep w0 w (HoldA us :: R) := by
  obtain ⟨F, h, _, hf⟩ := S.one
  exact hf w [HoldA us] (Star.one (G := F) ⟨fun x hx => h.1 x (hs x hx), h.2⟩ fun k hk => .inl hk) (Chg.refl _ _)
theorem Sep.holdBoth (S : Sep w0 w (HoldA us :: HoldA vs :: R)) : Sep w0 w (HoldA (us ++ vs) :: R) := by
  obtain ⟨G, h1, h2, G', h3, h4, h5⟩ := S.star
  refine ⟨S.bel, fun k => G k ∨ G' k, ⟨fun x hx => ?_, fun k hk => hk.elim (h1.2 k) (h3.2 k)⟩, fun k hk => hk.elim (h2 k) fun q => (h4 k q).1, h5.mono fun k hk => ⟨hk.1.1, fun q => q.elim hk.1.2 hk.2⟩⟩
  rcases List.mem_append.1 hx with q | q
  · exact ⟨(h1.1 x q).1, fun k e => .inl ((h1.1 x q).2 k e)⟩
  · exact ⟨(h3.1 x q).1, fun k e => .inr ((h3.1 x q).2 k e)⟩
theorem Sep.held (S : Sep w0 w (HoldA vs :: R)) {x : V3} (hx : x ∈ vs) : w.ownsRow w0.heap.size 5 1 x.1 x.2.2 (row3 x) := by
  obtain ⟨F, h, hs⟩ := S.hd
  exact own_up (h.1 x hx).1 fun k e => hs k ((h.1 x hx).2 k e)
theorem rep_take {α : Type} {a : α} {k n : Nat} (h : k ≤ n) : (List.replicate n a).take k = List.replicate k a := by
  rw [List.take_replicate, Nat.min_eq_left h]
theorem Sep.hold_run {P : Program} {t ty : TypeId} (S : Sep w0 W (HoldA ((v, m, n) :: vs) :: R)) (hv : ∀ x ∈ vs, x.2.1 = m ∧ x.2.2 ≤ n + 1)
    (ht : P.underlying t = some (.slice 5)) (hinfo : (P.info? 5).map (fun i => (i.zero, i.size, i.bytes)) = some (some (.int .u8 0), 1, 1)) (hl : n + 1 ≤ 140737488355328) :
    ∃ A1 c1 w1, (Builtin.append_ #[t, t] ty #[v, .slice (some ⟨W.heap.size, 0, none⟩) 1 1]).run P (W.alloc (.cells #[.int .u8 m] 5)) = .ok (.slice A1 (n + 1) c1) w1 ∧
      Sep w0 w1 (HoldA ((.slice A1 (n + 1) c1, m, n + 1) :: (v, m, n) :: vs) :: R) := by
  obtain ⟨F, h, hs, hf⟩ := S.one
  obtain ⟨i0, hi, hzz⟩ := Option.map_eq_some_iff.1 hinfo
  simp only [Prod.mk.injEq] at hzz
  obtain ⟨hz0, hz1, hz2⟩ := hzz
  have hw : W.ownsRow 0 5 1 v n (row3 (v, m, n)) := (h.1 _ List.mem_cons_self).1
  have hF : ∀ k, v.ownBlock = some k → F k := (h.1 _ List.mem_cons_self).2
  obtain ⟨v1, w1, hrun, hr⟩ := run_keeps (P := P) (ty := ty) (w := W.alloc (.cells #[.int .u8 m] 5)) ht hi hz0 hz1 hz2 rfl (by decide) (hw.alloc _) ⟨W.heap.size, 0, none⟩ 1 1 [.int .u8 m] rfl
    (by simpa using World.news_of_block (cs := #[.int .u8 m]) (t := 5) (fr := (0, 0)) (heap_alloc_new W (.cells #[.int .u8 m] 5))) (by intro u hu; rw [List.mem_singleton.1 hu]; rfl) (by simp only [maxLen]; omega) (by omega)
  have hrow : row3 (v, m, n) ++ [.int .u8 m] = nums .u8 (List.replicate (n + 1) m) := by
    show (List.replicate n m).map (Value.int .u8) ++ [Value.int .u8 m] = (List.replicate (n + 1) m).map (Value.int .u8)
    rw [List.replicate_succ', List.map_append]
    rfl
  rw [hrow] at hr
  have hsz : (W.alloc (.cells #[.int .u8 m] 5)).heap.size = W.heap.size + 1 := by simp
  rcases hr with ⟨q1, q2⟩ | ⟨g, cap, rfl, rfl, q1, q2⟩
  · obtain ⟨A1, c1, rfl⟩ := own_slice q2
    have hg := World.grownBy.trans (World.grownBy_alloc W (.cells #[.int .u8 m] 5) none) q1
    refine ⟨A1, c1, w1, hrun, ?_⟩
    have hb := own_base q2
    refine hf w1 [HoldA _] (Star.one (G := grow F W w1) ⟨fun x hx => ?_, fun k hk => ?_⟩ fun k hk => hk) (Chg.grown hg fun k hk => by cases hk)
    · rcases List.mem_cons.1 hx with rfl | hx
      · refine ⟨own_weaken q2 (Nat.zero_le _), fun k hk => .inr ⟨?_, own_lt q2 k hk⟩⟩
        have := hb k hk
        omega
      · exact ⟨own_move (h.1 x hx).1 fun k hk => hg.block k (own_lt (h.1 x hx).1 k hk) (by intro q; cases q), fun k hk => .inl ((h.1 x hx).2 k hk)⟩
    · rcases hk with hk | hk
      · exact Nat.lt_of_lt_of_le (h.2 k hk) hg.size
      · exact hk.2
  · have hg := World.grownBy.trans (World.grownBy_alloc W (.cells #[.int .u8 m] 5) (some g)) q1
    refine ⟨_, cap, w1, hrun, ?_⟩
    refine hf w1 [HoldA _] (Star.one (G := F) ⟨fun x hx => ?_, fun k hk => Nat.lt_of_lt_of_le (h.2 k hk) hg.size⟩ fun k hk => .inl hk) (Chg.grown hg fun k hk => by cases hk; exact hF g rfl)
    rcases List.mem_cons.1 hx with rfl | hx'
    · exact ⟨q2, fun k hk => hF k hk⟩
    · have hxo := h.1 x hx'
      refine ⟨?_, hxo.2⟩
      have hxm : x.2.1 = m ∧ x.2.2 ≤ n + 1 := by
        rcases List.mem_cons.1 hx' with rfl | q
        · exact ⟨rfl, Nat.le_succ n⟩
        · exact hv x q
      by_cases hb : x.1.ownBlock = some g
      · refine ⟨hxo.1.1, ?_⟩
        rcases hxo.1.2 with ⟨e1, e2⟩ | ⟨g', cap', cur, e1, b1, b2, b3, b4, b5, b6⟩
        · exact .inl ⟨e1, e2⟩
        · rw [e1] at hb
          cases hb
          rcases hw.2 with ⟨e2, _⟩ | ⟨g2, cap2, cur2, e2, _, d2, _, _, d5, _⟩
          · cases e2
          · cases e2
            rw [d2] at b2
            cases b2
            rcases q2.2 with ⟨e3, _⟩ | ⟨g3, cap3, cur3, e3, f1, f2, f3, f4, f5, f6⟩
            · cases e3
            · cases e3
              refine .inr ⟨g', cap', cur3, e1, b1, f2, b3, b4, by omega, ?_⟩
              have h2 : cur3.toList.take (x.2.2 * 1) = (nums .u8 (List.replicate (n + 1) m)).take (x.2.2 * 1) := by
                rw [← f6, List.take_take, Nat.min_eq_left (by omega)]
              rw [h2]
              show ((List.replicate (n + 1) m).map (Value.int .u8)).take (x.2.2 * 1) = (List.replicate x.2.2 x.2.1).map (Value.int .u8)
              rw [← List.map_take, Nat.mul_one, rep_take hxm.2, hxm.1]
      · exact own_move hxo.1 fun k hk => hg.block k (own_lt hxo.1 k hk) (by intro q; cases q; exact hb hk)
end
section
variable {P : Program} {ops : Array Oper} {rest : List Oper} {o : Oper} {a : Act} {Q : Exit → Act → World → Prop} {w0 W : World} {R : List Asn} {vs : List V3} {v : Value} {m : Int} {n : Nat}
theorem hold_append (S : Sep w0 W (HoldA ((v, m, n) :: vs) :: R)) (hv : ∀ x ∈ vs, x.2.1 = m ∧ x.2.2 ≤ n + 1) (hgd : o.guard = none) (s x : Operand) (t : TypeId)
    (ho : o.op = .call { callee := .builtin .append, args := #[s, x], argTypes := #[t, t] })
    (ht : P.underlying t = some (.slice 5)) (hinfo : (P.info? 5).map (fun i => (i.zero, i.size, i.bytes)) = some (some (.int .u8 0), 1, 1))
    (hs : a.eval s = v) (hx : a.eval x = .slice (some ⟨W.heap.size, 0, none⟩) 1 1) (hl : n + 1 ≤ 140737488355328)
    (h : ∀ A1 c1 w1, Sep w0 w1 (HoldA ((.slice A1 (n + 1) c1, m, n + 1) :: (v, m, n) :: vs) :: R) → wpList P ops Q rest (a.put o.dst (.slice A1 (n + 1) c1)) w1) :
    wpList P ops Q (o :: rest) a (W.alloc (.cells #[.int .u8 m] 5)) := by
  refine wpList_plain hgd fun K hK => ?_
  obtain ⟨A1, c1, w1, hrun, S1⟩ := S.hold_run (P := P) (t := t) (ty := o.type) hv ht hinfo hl
  unfold Oper.wp
  simp [execOp, ho, resolve, invoke, builtin, hs, hx, hrun, Result.andThen]
  exact hK _ _ (h A1 c1 w1 S1)
end
end Go.Proofs.Ythnbmfkmaijibaa.Sep
/- keep, roomy, mark: the helpers of DevicePlays. -/
namespace Go.Proofs.Ythnbmfkmaijibaa.Sep
open Go.Proofs Go.RowKit Go.Proofs.YthnbmfkmaijibaaW.PrintWords Go.Proofs.YthnbmfkmaijibaaW.PrintLast Go.Proofs.YthnbmfkmaijibaaW.PrintMore Go.Proofs.Ythnbmfkmaijibaa.IMap Go.Proofs.Ythnbmfkmaijibaa.Dev Go.Proofs.Ythnbmfkmaijibaa.PDeviceReads Go.Proofs.Ythnbmfkmaijibaa.Help
set_option linter.unusedVariables false
set_option linter.unusedSimpArgs false
abbrev kcells (bk : List V3) : List Value := bk.flatMap fun x => [x.1, .int .u8 x.2.1, .int .i64 (x.2.2 : Int)]
/-- The book: k lists. -/
def BookA (A : Option Addr) (k c : Nat) : Asn := Ex (fun bk : List V3 => bk.length = k ∧ ∀ x ∈ bk, x.2.2 ≤ 3000000) fun bk => All [Own 117 3 (.slice A k c) k (kcells bk), HoldA bk]
theorem kcells_len (bk : List V3) : (kcells bk).length = bk.length * 3 := by
  induction bk with
  | nil => rfl
  | cons x l ih =>
    show (_ :: _ :: _ :: kcells l).length = _
    simp only [List.length_cons, ih]
    omega
theorem kcells_at {bk : List V3} {i : Nat} {x : V3} (h : bk[i]? = some x) : (kcells bk)[i * 3]? = some x.1 ∧ (kcells bk)[i * 3 + 1]? = some (.int .u8 x.2.1) ∧ (kcells bk)[i * 3 + 2]? = some (.int .i64 (x.2.2 : Int)) := by
  induction bk generalizing i with
  | nil => simp at h
  | cons y r ih =>
    have e : kcells (y :: r) = [y.1, .int .u8 y.2.1, .int .i64 (y.2.2 : Int)] ++ kcells r := rfl
    rw [e]
    cases i with
    | zero =>
      rw [List.getElem?_cons_zero] at h
      cases h
      exact ⟨rfl, rfl, rfl⟩
    | succ i =>
      rw [List.getElem?_cons_succ] at h
      have := ih h
      rw [List.getElem?_append_right (by simp; omega), List.getElem?_append_right (by simp; omega), List.getElem?_append_right (by simp; omega)]
      have e0 : (i + 1) * 3 - [y.1, Value.int .u8 y.2.1, Value.int .i64 (y.2.2 : Int)].length = i * 3 := by simp; omega
      have e1 : (i + 1) * 3 + 1 - [y.1, Value.int .u8 y.2.1, Value.int .i64 (y.2.2 : Int)].length = i * 3 + 1 := by simp; omega
      have e2 : (i + 1) * 3 + 2 - [y.1, Value.int .u8 y.2.1, Value.int .i64 (y.2.2 : Int)].length = i * 3 + 2 := by simp; omega
      rw [e0, e1, e2]
      exact this
theorem info_kept : (Try.prog.info? 117).map (fun i => (i.zero, i.size, i.bytes)) = some (some (.agg #[.slice none 0 0, .int .u8 0, .int .i64 0]), 3, 40) := by kernel_rfl
section
variable {w0 w w' : World} {R : List Asn} {A : Option Addr} {k c : Nat}
theorem Sep.bopen (S : Sep w0 w (BookA A k c :: R)) : ∃ bk : List V3, (bk.length = k ∧ ∀ x ∈ bk, x.2.2 ≤ 3000000) ∧ Sep w0 w (Own 117 3 (.slice A k c) k (kcells bk) :: HoldA bk :: R) := by
  obtain ⟨bk, h, S1⟩ := S.openE
  exact ⟨bk, h, S1.openA⟩
theorem Sep.bclose {bk : List V3} (h : bk.length = k ∧ ∀ x ∈ bk, x.2.2 ≤ 3000000) (S : Sep w0 w (Own 117 3 (.slice A k c) k (kcells bk) :: HoldA bk :: R)) : Sep w0 w (BookA A k c :: R) :=
  Sep.closeE (f := fun bk => All [Own 117 3 (.slice A k c) k (kcells bk), HoldA bk]) bk h (Sep.closeA (l := [_, _]) S)
theorem Sep.book0 (S : Sep w0 w R) : Sep w0 w (BookA none 0 0 :: R) := Sep.bclose (bk := []) ⟨rfl, fun x hx => absurd hx List.not_mem_nil⟩ (S.hold0.nils _ _)
theorem write_rep' {m n : Nat} {x : Int} {l : List Int} (hl : l.length = n) (h : m < n) : (List.replicate m x ++ l.drop m).set m x = List.replicate (m + 1) x ++ l.drop (m + 1) := by
  rw [List.set_append, if_neg (by simp), List.length_replicate, Nat.sub_self]
  have h' : m < l.length := by omega
  rw [List.drop_eq_getElem_cons h', List.set_cons_zero, List.replicate_succ', List.append_assoc]
  rfl
set_option maxHeartbeats 4000000 in
set_option maxRecDepth 100000 in
theorem bk_keep {Al : Option Addr} {n cl : Nat} {l : List Int} (S : Sep w0 w (BookA A k c :: Byt Al n cl l :: R)) (hk : k ≤ 1000000000000) (hn : n ≤ 2900000) (m : Int) :
    Calls Try.prog 60 #[.slice A k c, .slice Al n cl, .int .u8 m] w fun e w' => ∃ A' c', e = .returned (.slice A' (k + 3) c') ∧ Sep w0 w' (BookA A' (k + 3) c' :: R) := by
  have HL := Aside0.mk S.p1.len
  obtain ⟨w9, hw9⟩ : ∃ w9, w9 = w := ⟨_, rfl⟩
  go_enter Try.func60, Try.ntmps60
  go_wp2_with fail
  go_loopw [8] (fun i wr => ∃ j : Nat, j ≤ n ∧ i = .int .i64 (j : Int) ∧ Sep w0 wr (Byt Al n cl (List.replicate j m ++ l.drop j) :: BookA A k c :: R)) (fun i _ => n - (intOf i).toNat)
  case atStart => exact ⟨0, Nat.zero_le _, rfl, S.p1⟩
  case round =>
    clear S hw9
    obtain ⟨j, hj, rfl, S⟩ := hrel
    by_cases hlt : j < n
    · have hlti : (j : Int) < (n : Int) := by omega
      obtain ⟨g, rfl⟩ := S.addr (by omega)
      have ce := S.elem j hlt
      have fr := S.row_free (by omega) j
      have hst := S.store j m
      rw [write_rep' HL.out hlt] at hst
      have HST := Aside0.mk hst
      clear hst S
      go_wp2_with fail
      exact ⟨⟨j + 1, by omega, by go_num, HST.out⟩, by simp [intOf]; omega⟩
    · obtain rfl : j = n := by omega
      rw [List.drop_of_length_le (by rw [HL.out]; exact Nat.le_refl _), List.append_nil] at S
      have S1 := S.hold
      have hlti : ¬ ((j : Int) < (j : Int)) := by omega
      clear S hlt hj
      go_wp2_with ((with_reducible refine gate_builtin (b := .append) (xs := #[.tmp 23, .tmp 25]) rfl ?_); at_builtin; go_must (refine hold_append S1 (by intro x hx; cases hx) rfl (.tmp 23) (.tmp 25) 29 rfl Try.underlying29 Dev.info5 rfl rfl ?aL ?_); (case aL => omega); intro A1 c1 w1 S2)
      have HS2 := Aside0.mk (S2.holdSub (us := [(.slice Al j cl, m, j), (.slice A1 (j + 1) c1, m, j + 1), (.slice Al j cl, m, j)]) (by
        intro x hx
        simp only [List.mem_cons, List.not_mem_nil, or_false] at hx ⊢
        rcases hx with rfl | rfl | rfl
        · exact .inr rfl
        · exact .inl rfl
        · exact .inr rfl))
      clear S1 S2
      go_loopw [11, 10] (fun i g2 wr => ∃ (q : Nat) (A2 : Option Addr) (c2 : Nat), q ≤ 600 ∧ i = .int .i64 (q : Int) ∧ g2 = .slice A2 (j + q) c2 ∧ Sep w0 wr (HoldA [(.slice A2 (j + q) c2, m, j + q), (.slice A1 (j + 1) c1, m, j + 1), (.slice Al j cl, m, j)] :: BookA A k c :: R)) (fun i _ _ => 600 - (intOf i).toNat)
      case atStart => exact ⟨0, Al, cl, Nat.zero_le _, rfl, rfl, HS2.out⟩
      case round =>
        clear HS2
        obtain ⟨q, A2, c2, hq, rfl, rfl, S⟩ := hrel
        by_cases hlt : q < 600
        · have hlti : (q : Int) < 600 := by omega
          go_wp2_with ((with_reducible refine gate_builtin (b := .append) (xs := #[.tmp 32, .tmp 34]) rfl ?_); at_builtin; go_must (refine hold_append S (by intro x hx; simp only [List.mem_cons, List.not_mem_nil, or_false] at hx; rcases hx with rfl | rfl; (exact ⟨rfl, by show j + 1 ≤ j + q + 1; omega⟩); (exact ⟨rfl, by show j ≤ j + q + 1; omega⟩)) rfl (.tmp 32) (.tmp 34) 29 rfl Try.underlying29 Dev.info5 rfl rfl ?aL ?_); (case aL => omega); intro A3 c3 w3 S3)
          have HS3 := Aside0.mk (S3.holdSub (us := [(.slice A3 (j + (q + 1)) c3, m, j + (q + 1)), (.slice A1 (j + 1) c1, m, j + 1), (.slice Al j cl, m, j)]) (by
            intro x hx
            simp only [List.mem_cons, List.not_mem_nil, or_false] at hx ⊢
            rcases hx with rfl | rfl | rfl
            · exact .inl rfl
            · exact .inr (.inr (.inl rfl))
            · exact .inr (.inr (.inr rfl))))
          clear S S3
          exact ⟨⟨q + 1, A3, c3, by omega, by go_num, rfl, HS3.out⟩, by simp [intOf]; omega⟩
        · obtain rfl : q = 600 := by omega
          rw [show ((600 : Nat) : Int) = (600 : Int) from rfl]
          obtain ⟨bk, hbk, S1⟩ := S.p1.bopen
          have HB := Aside0.mk hbk
          clear S hlt hlti hbk
          go_wp2_with (first | ((with_reducible refine gate_builtin (b := .append) (xs := #[.tmp 36, .tmp 41]) rfl ?_); at_builtin; go_must (refine append_s S1 rfl (.tmp 36) (.tmp 41) 79 (.agg #[.slice none 0 0, .int .u8 0, .int .i64 0]) 40 rfl Try.underlying79 info_kept rfl (by decide) (by decide) [.slice Al j cl, .int .u8 m, .int .i64 (j : Int)] rfl rfl rfl ?a1 ?aL ?_); (case a1 => (intro u hu; simp only [List.mem_cons, List.not_mem_nil, or_false] at hu; rcases hu with rfl | rfl | rfl <;> rfl)); (case aL => omega); intro A4 c4 w4 S9) | ((with_reducible refine gate_builtin (b := .append) (xs := #[.tmp 43, .tmp 49]) rfl ?_); at_builtin; go_must (refine append_s S9 rfl (.tmp 43) (.tmp 49) 79 (.agg #[.slice none 0 0, .int .u8 0, .int .i64 0]) 40 rfl Try.underlying79 info_kept rfl (by decide) (by decide) [.slice A1 (j + 1) c1, .int .u8 m, .int .i64 ((j : Int) + 1)] rfl rfl rfl ?a1 ?aL ?_); (case a1 => (intro u hu; simp only [List.mem_cons, List.not_mem_nil, or_false] at hu; rcases hu with rfl | rfl | rfl <;> rfl)); (case aL => omega); intro A5 c5 w5 S10) | ((with_reducible refine gate_builtin (b := .append) (xs := #[.tmp 51, .tmp 57]) rfl ?_); at_builtin; go_must (refine append_s S10 rfl (.tmp 51) (.tmp 57) 79 (.agg #[.slice none 0 0, .int .u8 0, .int .i64 0]) 40 rfl Try.underlying79 info_kept rfl (by decide) (by decide) [.slice A2 (j + 600) c2, .int .u8 m, .int .i64 ((j : Int) + 600)] rfl rfl rfl ?a1 ?aL ?_); (case a1 => (intro u hu; simp only [List.mem_cons, List.not_mem_nil, or_false] at hu; rcases hu with rfl | rfl | rfl <;> rfl)); (case aL => omega); intro A6 c6 w6 S11))
          go_ret
          refine ⟨A6, c6, rfl, ?_⟩
          have hm : bk.length = k ∧ ∀ x ∈ bk, x.2.2 ≤ 3000000 := HB.out
          have S12 := (S11.p1.p2.holdBoth).holdSub (us := bk ++ [(.slice Al j cl, m, j), (.slice A1 (j + 1) c1, m, j + 1), (.slice A2 (j + 600) c2, m, j + 600)]) (by
            intro x hx
            rcases List.mem_append.1 hx with hx | hx
            · exact List.mem_append.2 (.inr hx)
            · refine List.mem_append.2 (.inl ?_)
              simp only [List.mem_cons, List.not_mem_nil, or_false] at hx ⊢
              rcases hx with rfl | rfl | rfl
              · exact .inr (.inr rfl)
              · exact .inr (.inl rfl)
              · exact .inl rfl)
          have e : kcells (bk ++ [(.slice Al j cl, m, j), (.slice A1 (j + 1) c1, m, j + 1), (.slice A2 (j + 600) c2, m, j + 600)]) = (kcells bk ++ [.slice Al j cl, .int .u8 m, .int .i64 (j : Int)]) ++ [.slice A1 (j + 1) c1, .int .u8 m, .int .i64 ((j : Int) + 1)] ++ [.slice A2 (j + 600) c2, .int .u8 m, .int .i64 ((j : Int) + 600)] := by
            show List.flatMap _ (bk ++ _) = _
            rw [List.flatMap_append, List.append_assoc, List.append_assoc]
            simp [kcells]
          have S13 := S12.swap
          rw [← e] at S13
          refine Sep.bclose ⟨by rw [List.length_append, hm.1]; rfl, fun x hx => ?_⟩ S13
          rcases List.mem_append.1 hx with hx | hx
          · exact hm.2 x hx
          · simp only [List.mem_cons, List.not_mem_nil, or_false] at hx
            rcases hx with rfl | rfl | rfl
            · show j ≤ 3000000; omega
            · show j + 1 ≤ 3000000; omega
            · show j + 600 ≤ 3000000; omega
end
end Go.Proofs.Ythnbmfkmaijibaa.Sep
/- roomy, mark, holds, lately: the helpers of DevicePlays. -/
namespace Go.Proofs.Ythnbmfkmaijibaa.Sep
open Go.Proofs Go.RowKit Go.Proofs.YthnbmfkmaijibaaW.PrintWords Go.Proofs.YthnbmfkmaijibaaW.PrintLast Go.Proofs.YthnbmfkmaijibaaW.PrintMore Go.Proofs.Ythnbmfkmaijibaa.IMap Go.Proofs.Ythnbmfkmaijibaa.Dev Go.Proofs.Ythnbmfkmaijibaa.PDeviceReads Go.Proofs.Ythnbmfkmaijibaa.Help
set_option linter.unusedVariables false
set_option linter.unusedSimpArgs false
section
variable {w0 w w' : World} {R : List Asn} {A : Option Addr} {k c : Nat}
theorem mark_s {y : Nat} {cs : Array Value} {st : Nat} (h5 : cs[5]? = some (.int .i64 (st : Int))) (hst : st ≤ 100000000) (S : Sep w0 w (Blk y cs 81 :: R)) :
    Calls Try.prog 61 #[.pointer (some ⟨y, 0, none⟩)] w fun e w' => ∃ m, e = .returned (.int .u8 m) ∧ w' = w := by
  have c5 := S.cell 5 (v := .int .i64 (st : Int)) h5
  have hq : Int.tmod (st : Int) 250 = ((st % 250 : Nat) : Int) := by rw [Int.tmod_eq_emod_of_nonneg (by omega)]; omega
  clear S h5
  go_enter Try.func61, Try.ntmps61
  go_wp2
  go_ret
  exact ⟨_, rfl, rfl⟩
theorem bk_bytes (S : Sep w0 w R) {A : Option Addr} {n c : Nat} {l : List Int} (hr : ReadsInt w .u8 A n l) (hc : n ≤ c) (hl : n ≤ 140737488351232) : Calls Try.prog 70 #[.slice A n c] w fun e w' => ∃ B d, e = .returned (.slice B n d) ∧ Sep w0 w' (Byt B n d l :: R) := by
  obtain rfl : l.length = n := hr.1
  refine (annexref_Bytes.calls (l.length + 1) A c l _ w (Kd.C_of_reads (enc := Value.int .u8) (d := (0 : Int)) (h1 := fun _ => rfl) hr) hc (bytes_is l (by omega))).mono ?_
  rintro e w' ⟨v, rfl, h3, b⟩
  have h5 : w'.ownsRow w.heap.size 5 1 v l.length (nums .u8 l) := Kd.own_of_R h3
  obtain ⟨B, d, rfl⟩ := own_slice h5
  exact ⟨B, d, rfl, S.row_new b h5⟩
set_option maxRecDepth 100000 in
set_option maxHeartbeats 1000000 in
theorem roomy_s (S : Sep w0 w R) {A : Option Addr} {n c : Nat} {l : List Int} (hr : ReadsInt w .u8 A n l) (hc : n ≤ c) (hl : n ≤ 1000000) : Calls Try.prog 59 #[.slice A n c] w fun e w' => ∃ B d, e = .returned (.slice B (n + 3) d) ∧ Sep w0 w' (Byt B (n + 3) d (l ++ [201, 202, 203]) :: R) := by
  have P := bk_bytes S hr hc (by omega)
  clear S hr
  go_enter Try.func59, Try.ntmps59
  go_wp2_with fail
  refine P.mono ?_
  clear P
  rintro e w1 ⟨B, d, rfl, S⟩
  have S1 := S.calm (below_alloc (Below.refl _ _) (.cells #[.int .u8 201, .int .u8 202, .int .u8 203] 5))
  clear S
  go_wp2_with ((with_reducible refine gate_builtin (b := .append) (xs := #[.tmp 6, .tmp 7]) rfl ?_); at_builtin; go_must (refine append_rows S1 rfl (.tmp 6) (.tmp 7) 29 (.int .u8 0) 1 rfl Try.underlying29 Dev.info5 rfl (by decide) (by decide) [.int .u8 201, .int .u8 202, .int .u8 203] (some ⟨w1.heap.size, 0, none⟩) 3 3 rfl rfl rfl (Lies.new w1 #[.int .u8 201, .int .u8 202, .int .u8 203] 5) ?a1 ?aL ?_); (case a1 => (intro u hu; simp only [List.mem_cons, List.not_mem_nil, or_false] at hu; rcases hu with rfl | rfl | rfl <;> rfl)); (case aL => omega); intro A2 c2 w2 S2)
  go_ret
  have e : nums .u8 (l ++ [201, 202, 203]) = nums .u8 l ++ [.int .u8 201, .int .u8 202, .int .u8 203] := by simp [nums]
  refine ⟨A2, c2, rfl, ?_⟩
  show Sep w0 w2 (Own 5 1 _ (n + 3) (nums .u8 (l ++ [201, 202, 203])) :: R)
  rw [e]
  exact S2
set_option maxRecDepth 100000 in
set_option maxHeartbeats 4000000 in
theorem holds_s (S : Sep w0 w (BookA A k c :: R)) (hk : k ≤ 1000000000000) : Calls Try.prog 44 #[.slice A k c] w fun e w' => e = .returned (.bool true) ∧ Sep w0 w' (BookA A k c :: R) := by
  go_enter Try.func44, Try.ntmps44
  go_wp2
  go_loopw [3] (fun i wr => ∃ j : Nat, j ≤ k ∧ i = .int .i64 (j : Int) ∧ Sep w0 wr (BookA A k c :: R)) (fun i _ => k - (intOf i).toNat)
  case atStart => exact ⟨0, Nat.zero_le _, rfl, S⟩
  case round =>
    clear S
    obtain ⟨j, hj, rfl, S⟩ := hrel
    by_cases hlt : j < k
    · have hlti : (j : Int) < (k : Int) := by omega
      obtain ⟨bk, hbk, S1⟩ := S.bopen
      have hjb : j < bk.length := by rw [hbk.1]; exact hlt
      obtain ⟨x, hx⟩ : ∃ x, x = bk[j] := ⟨_, rfl⟩
      have hxm : x ∈ bk := by rw [hx]; exact List.getElem_mem _
      have hxn := hbk.2 x hxm
      have hx9 : bk[j]? = some x := by rw [hx]; exact List.getElem?_eq_getElem hjb
      obtain ⟨g, rfl⟩ := S1.addr (by omega)
      have hka := kcells_at hx9
      have b0 := S1.valn _ hka.1
      have b1 := S1.valn _ hka.2.1
      have b2 := S1.valn _ hka.2.2
      have ho := S1.p1.held hxm
      obtain ⟨Ax, cx, e1⟩ := own_slice ho
      rw [e1] at b0 ho
      obtain ⟨n, hn⟩ : ∃ n, n = x.2.2 := ⟨_, rfl⟩
      obtain ⟨m, hm⟩ : ∃ m, m = x.2.1 := ⟨_, rfl⟩
      have hro : wr.ownsRow w0.heap.size 5 1 (.slice Ax n cx) n (nums .u8 (List.replicate n m)) := by
        rw [hn, hm]
        exact ho
      have hrd := own_reads' hro
      have HRD := Aside0.mk hrd
      rw [← hn] at b0 b2 hxn
      rw [← hm] at b1
      have hS := Aside0.mk S
      clear S S1 ho hro hrd e1 hbk hka hx hxm hx9 hn hm hjb
      obtain ⟨wo, rfl⟩ : ∃ wo : World, wo = wr := ⟨_, rfl⟩
      go_wp2
      go_quiet (fail)
      go_wp2
      go_loopw [4] (fun i wx => ∃ q : Nat, q ≤ n ∧ i = .int .i64 (q : Int) ∧ wx.cell? ⟨g, j * 3 + 2, none⟩ = some (.int .i64 (n : Int)) ∧ wx.cell? ⟨g, j * 3, none⟩ = some (.slice Ax n cx) ∧ wx.cell? ⟨g, j * 3 + 1, none⟩ = some (.int .u8 m) ∧ Aside0 (ReadsInt wx .u8 Ax n (List.replicate n m)) ∧ Aside0 (Sep w0 wx (BookA (some ⟨g, 0, none⟩) k c :: R))) (fun i _ => n - (intOf i).toNat)
      case atStart => exact ⟨0, Nat.zero_le _, rfl, b2, b0, b1, ⟨HRD.out⟩, ⟨hS.out.drewN _⟩⟩
      case round =>
        clear b2 b0 b1 HRD hS
        obtain ⟨q, hq, rfl, b2, b0, b1, HRD, hS⟩ := hrel
        by_cases hqn : q < n
        · have hqni : (q : Int) < (n : Int) := by omega
          obtain ⟨ad, rfl, hc⟩ := HRD.out.2.2 (by omega)
          have y0 := hc q hqn
          rw [show (List.replicate n m).getD q 0 = m by simp [List.getD_eq_getElem?_getD, hqn]] at y0
          clear hc
          go_wp2
          go_quiet (fail)
          go_wp2
          exact ⟨⟨q + 1, by omega, by go_num, b2, b0, b1, ⟨HRD.out⟩, ⟨hS.out.drewN _⟩⟩, by simp [intOf]; omega⟩
        · obtain rfl : q = n := by omega
          have hqni : ¬ ((q : Int) < (q : Int)) := by omega
          clear hqn
          go_wp2
          exact ⟨⟨j + 1, by omega, by go_num, hS.out⟩, by simp [intOf]; omega⟩
    · obtain rfl : j = k := by omega
      have hS := Aside0.mk S
      have hlti : ¬ ((j : Int) < (j : Int)) := by omega
      clear S hlt
      go_wp2
      go_ret
      exact ⟨rfl, hS.out⟩
end
end Go.Proofs.Ythnbmfkmaijibaa.Sep
/- lately: the last lists of the book. -/
namespace Go.Proofs.Ythnbmfkmaijibaa.Sep
open Go.Proofs Go.RowKit Go.Proofs.YthnbmfkmaijibaaW.PrintWords Go.Proofs.YthnbmfkmaijibaaW.PrintLast Go.Proofs.YthnbmfkmaijibaaW.PrintMore Go.Proofs.Ythnbmfkmaijibaa.IMap Go.Proofs.Ythnbmfkmaijibaa.Dev Go.Proofs.Ythnbmfkmaijibaa.PDeviceReads Go.Proofs.Ythnbmfkmaijibaa.Help
set_option linter.unusedVariables false
set_option linter.unusedSimpArgs false
section
variable {w0 w w' : World} {R : List Asn} {A : Option Addr} {k c : Nat}
theorem kcells_drop (bk : List V3) (i : Nat) : (kcells bk).drop (i * 3) = kcells (bk.drop i) := by
  induction i generalizing bk with
  | zero => simp
  | succ i ih =>
    cases bk with
    | nil => simp [kcells]
    | cons x l =>
      rw [List.drop_succ_cons, ← ih]
      show (_ :: _ :: _ :: kcells l).drop ((i + 1) * 3) = _
      rw [show (i + 1) * 3 = i * 3 + 3 by omega]
      simp [List.drop_succ_cons]
theorem one_kcells {bk : List V3} {u : Value} (h : u ∈ kcells bk) (hb : ∀ x ∈ bk, x.1.oneCell' = true) : u.oneCell' = true := by
  obtain ⟨x, hx, hu⟩ := List.mem_flatMap.1 h
  simp only [List.mem_cons, List.not_mem_nil, or_false] at hu
  rcases hu with rfl | rfl | rfl
  · exact hb x hx
  · rfl
  · rfl
theorem lately_0 (S : Sep w0 w (BookA none 0 0 :: R)) : Calls Try.prog 45 #[.slice none 0 0] w fun e w' => e = .returned (.slice none 0 0) ∧ Sep w0 w' (BookA none 0 0 :: R) := by
  go_enter Try.func45, Try.ntmps45
  go_wp2
  go_loop [3] (fun i => i = .int .i64 0) (fun i => 0)
  case atStart => exact rfl
  case round =>
    subst hrel
    go_wp2
    go_ret
    exact ⟨rfl, S⟩
set_option maxRecDepth 100000 in
set_option maxHeartbeats 4000000 in
theorem lately_1 (S : Sep w0 w (BookA A k c :: R)) (h0 : 0 < k) (hk : k ≤ 1000000000000) : Calls Try.prog 45 #[.slice A k c] w fun e w' => ∃ A' k' c', 0 < k' ∧ k' ≤ 200 ∧ e = .returned (.slice A' k' c') ∧ Sep w0 w' (BookA A' k' c' :: R) := by
  obtain ⟨bk, hbk, S1⟩ := S.bopen
  obtain ⟨g, rfl⟩ := S1.addr h0
  have HB := Aside0.mk hbk
  have hc : k ≤ c := own_cap S1.row
  have hcells : ∀ i x, bk[i]? = some x → w.cell? ⟨g, i * 3 + 2, none⟩ = some (.int .i64 (x.2.2 : Int)) := fun i x hx => S1.valn _ (kcells_at hx).2.2
  have HC := Aside0.mk hcells
  have HS := Aside0.mk S1
  clear S S1 hbk hcells
  go_enter Try.func45, Try.ntmps45
  go_wp2
  go_loop [3, 4] (fun i s => ∃ (j : Nat) (s' : Int), j ≤ k ∧ (0 ≤ s' ∧ s' ≤ 11000000) ∧ (j = k → s' = 0) ∧ k - j ≤ 200 ∧ i = .int .i64 (j : Int) ∧ s = .int .i64 s') (fun i _ => (intOf i).toNat)
  case atStart => exact ⟨k, 0, Nat.le_refl _, ⟨by decide, by decide⟩, fun _ => rfl, by omega, rfl, rfl⟩
  case round =>
    obtain ⟨j, s', hj, ⟨hs0, hs'⟩, hjk, hd, rfl, rfl⟩ := hrel
    have HJK := Aside0.mk hjk
    clear hjk
    by_cases hgo : 0 < j ∧ k - j < 200 ∧ s' < 8000000
    · obtain ⟨g1, g2, g3⟩ := hgo
      obtain ⟨i, rfl⟩ : ∃ i, j = i + 1 := ⟨j - 1, by omega⟩
      have hib : i < bk.length := by rw [HB.out.1]; omega
      obtain ⟨x, hx⟩ : ∃ x, bk[i]? = some x := ⟨_, List.getElem?_eq_getElem hib⟩
      have hxn := HB.out.2 x (List.mem_of_getElem? hx)
      have b2 := HC.out i x hx
      have e1 : ((i + 1 : Nat) : Int) - 1 = (i : Int) := by omega
      have d1 : ((i + 1 : Nat) : Int) > 0 := by omega
      have d2 : (k : Int) - ((i + 1 : Nat) : Int) < 200 := by omega
      have d3 : s' < 8000000 := g3
      have hik : (i : Int) < (k : Int) := by omega
      clear hx hib g1 g2 g3 HC
      go_wp2
      exact ⟨⟨i, s' + (x.2.2 : Int), by omega, by omega, fun h => by omega, by omega, by go_num, by go_num⟩, by first | (simp [intOf]; done) | (simp [intOf]; omega)⟩
    · have hjlt : j < k := by
        rcases Nat.lt_or_ge j k with h | h
        · exact h
        · have h1 : j = k := by omega
          have h2 := HJK.out h1
          exact absurd ⟨by omega, by omega, by omega⟩ hgo
      have hcs : ¬ ((j : Int) > 0) ∨ ((j : Int) > 0 ∧ ¬ ((k : Int) - (j : Int) < 200)) ∨ ((j : Int) > 0 ∧ ((k : Int) - (j : Int) < 200) ∧ ¬ (s' < 8000000)) := by omega
      have hjki : (j : Int) ≤ (k : Int) := by omega
      have hnum : (j + (k - j)) = k := by omega
      have hHL : Aside0 (Lies w (some ⟨g, j * 3, none⟩) (kcells (bk.drop j))) := ⟨by
        have h1 := HS.out.lies j ((k - j) * 3)
        rw [kcells_drop, List.take_of_length_le (by rw [kcells_len, List.length_drop, HB.out.1]; exact Nat.le_refl _)] at h1
        exact h1⟩
      have hLL : Aside0 ((kcells (bk.drop j)).length = (k - j) * 3) := ⟨by rw [kcells_len, List.length_drop, HB.out.1]⟩
      have hone : Aside0 (∀ u ∈ kcells (bk.drop j), u.oneCell' = true) := ⟨fun u hu => one_kcells hu fun x hx => by
        obtain ⟨Ax, cx, e⟩ := own_slice (HS.out.p1.held (List.mem_of_mem_drop hx))
        rw [e]
        rfl⟩
      have hcj : j < c := by omega
      clear hgo HC
      have fin : ∀ A1 c1 w1, Sep w0 w1 (Own 117 3 (.slice A1 (0 + (k - j)) c1) (0 + (k - j)) ([] ++ kcells (bk.drop j)) :: HoldA bk :: R) → Sep w0 w1 (BookA A1 (k - j) c1 :: R) := by
        intro A1 c1 w1 S2
        rw [Nat.zero_add, List.nil_append] at S2
        exact Sep.bclose ⟨by rw [List.length_drop, HB.out.1], fun x hx => HB.out.2 x (List.mem_of_mem_drop hx)⟩ ((S2.p1.holdSub (us := bk.drop j) fun x hx => List.mem_of_mem_drop hx).p1)
      have HF := Aside0.mk fin
      clear fin
      rcases hcs with h | ⟨h, h'⟩ | ⟨h, h', h''⟩
      all_goals (
        go_wp2_with ((with_reducible refine gate_builtin (b := .append) (xs := #[.const (.slice none 0 0), .tmp 31]) rfl ?_); at_builtin; go_must (refine append_rows ((HS.out.p1.nils 117 3).p2.drop) rfl (.const (.slice none 0 0)) (.tmp 31) 79 (.agg #[.slice none 0 0, .int .u8 0, .int .i64 0]) 40 rfl Try.underlying79 info_kept rfl (by decide) (by decide) (kcells (bk.drop j)) (some ⟨g, j * 3, none⟩) (k - j) (c - j) rfl rfl hLL.out hHL.out hone.out ?aL ?_); (case aL => omega); intro A1 c1 w1 S2)
        go_ret
        exact ⟨A1, k - j, by omega, hd, c1, rfl, HF.out A1 c1 w1 S2⟩)
end
end Go.Proofs.Ythnbmfkmaijibaa.Sep
/- lately, of any book. -/
namespace Go.Proofs.Ythnbmfkmaijibaa.Sep
open Go.Proofs Go.RowKit Go.Proofs.YthnbmfkmaijibaaW.PrintWords Go.Proofs.YthnbmfkmaijibaaW.PrintLast Go.Proofs.YthnbmfkmaijibaaW.PrintMore Go.Proofs.Ythnbmfkmaijibaa.IMap Go.Proofs.Ythnbmfkmaijibaa.Dev Go.Proofs.Ythnbmfkmaijibaa.PDeviceReads Go.Proofs.Ythnbmfkmaijibaa.Help
set_option linter.unusedVariables false
set_option linter.unusedSimpArgs false
section
variable {w0 w w' : World} {R : List Asn} {A : Option Addr} {k c : Nat}
set_option maxRecDepth 100000 in
set_option maxHeartbeats 4000000 in
theorem lately_g {g : Nat} (S : Sep w0 w (BookA (some ⟨g, 0, none⟩) 0 c :: R)) : Calls Try.prog 45 #[.slice (some ⟨g, 0, none⟩) 0 c] w fun e w' => ∃ A' k' c', k' ≤ 200 ∧ e = .returned (.slice A' k' c') ∧ Sep w0 w' (BookA A' k' c' :: R) := by
  have HS := Aside0.mk S
  clear S
  go_enter Try.func45, Try.ntmps45
  go_wp2
  go_loop [3] (fun i => i = .int .i64 0) (fun i => 0)
  case atStart => exact rfl
  case round =>
    subst hrel
    have fin : ∀ A1 c1 w1, Sep w0 w1 (Own 117 3 (.slice A1 (0 + 0) c1) (0 + 0) ([] ++ []) :: BookA (some ⟨g, 0, none⟩) 0 c :: R) → Sep w0 w1 (BookA A1 0 c1 :: R) := fun A1 c1 w1 S2 => Sep.bclose (bk := []) ⟨rfl, fun x hx => absurd hx List.not_mem_nil⟩ (S2.d1.hold0.p1)
    have HF := Aside0.mk fin
    clear fin
    by_cases hc0 : c = 0
    · subst hc0
      go_wp2_with ((with_reducible refine gate_builtin (b := .append) (xs := #[.const (.slice none 0 0), .tmp 31]) rfl ?_); at_builtin; go_must (refine append_rows (HS.out.nils 117 3) rfl (.const (.slice none 0 0)) (.tmp 31) 79 (.agg #[.slice none 0 0, .int .u8 0, .int .i64 0]) 40 rfl Try.underlying79 info_kept rfl (by decide) (by decide) [] (some ⟨g, 0, none⟩) 0 0 rfl rfl rfl (fun j u h => by cases h) (fun u h => absurd h List.not_mem_nil) (by decide) ?_); intro A1 c1 w1 S2)
      go_ret
      exact ⟨A1, 0, Nat.zero_le _, c1, rfl, HF.out A1 c1 w1 S2⟩
    · go_wp2_with ((with_reducible refine gate_builtin (b := .append) (xs := #[.const (.slice none 0 0), .tmp 31]) rfl ?_); at_builtin; go_must (refine append_rows (HS.out.nils 117 3) rfl (.const (.slice none 0 0)) (.tmp 31) 79 (.agg #[.slice none 0 0, .int .u8 0, .int .i64 0]) 40 rfl Try.underlying79 info_kept rfl (by decide) (by decide) [] (some ⟨g, 0, none⟩) 0 c rfl rfl rfl (fun j u h => by cases h) (fun u h => absurd h List.not_mem_nil) (by decide) ?_); intro A1 c1 w1 S2)
      go_ret
      exact ⟨A1, 0, Nat.zero_le _, c1, rfl, HF.out A1 c1 w1 S2⟩
theorem lately_s (S : Sep w0 w (BookA A k c :: R)) (hk : k ≤ 1000000000000) : Calls Try.prog 45 #[.slice A k c] w fun e w' => ∃ A' k' c', k' ≤ 200 ∧ e = .returned (.slice A' k' c') ∧ Sep w0 w' (BookA A' k' c' :: R) := by
  rcases Nat.eq_zero_or_pos k with rfl | h0
  · obtain ⟨bk, hbk, S1⟩ := S.bopen
    rcases S1.row.2 with ⟨e, _⟩ | ⟨g, cap, cur, e, _⟩
    · cases e
      refine (lately_0 S).mono ?_
      rintro e w' ⟨rfl, S⟩
      exact ⟨none, 0, 0, Nat.zero_le _, rfl, S⟩
    · cases e
      exact lately_g S
  · refine (lately_1 S h0 hk).mono ?_
    rintro e w' ⟨A', k', c', _, h, e1, S⟩
    exact ⟨A', k', c', h, e1, S⟩
end
end Go.Proofs.Ythnbmfkmaijibaa.Sep
