/- The operations that make and grow rows, told of a list of things that lie apart; one of many like things. -/
import Derived.Test.YtlhlmjkocmahmaaGreatDoorMA1
namespace Go.Proofs.YtlhlmjkocmahmaaGreatDoor.Sep
open Go.Proofs Go.RowKit Go.Proofs.YtlhlmjkocmahmaaGreatDoorW.PrintWords Go.Proofs.YtlhlmjkocmahmaaGreatDoorW.PrintLast Go.Proofs.YtlhlmjkocmahmaaGreatDoorW.PrintMore Go.Proofs.YtlhlmjkocmahmaaGreatDoor.Dev
set_option linter.unusedVariables false
set_option linter.unusedSimpArgs false
section
variable {P : Program} {ops : Array Oper} {rest : List Oper} {o : Oper} {a : Act} {Q : Exit → Act → World → Prop} {w0 W : World} {R : List Asn}
/-- append(v, y): y of 'size' cells, laid into a block of its own ahead of it. -/
theorem append_s {e : TypeId} {size n : Nat} {v : Value} {xs : List Value} (S : Sep w0 W (Own e size v n xs :: R)) (hgd : o.guard = none) (s x : Operand) (t : TypeId) (z : Value) (bytes : Nat)
    (ho : o.op = .call { callee := .builtin .append, args := #[s, x], argTypes := #[t, t] })
    (ht : P.underlying t = some (.slice e)) (hinfo : (P.info? e).map (fun i => (i.zero, i.size, i.bytes)) = some (some z, size, bytes)) (hz : z.cells.size = size) (hs0 : 0 < size) (hb0 : 0 < bytes)
    (ys : List Value) (hs : a.eval s = v) (hx : a.eval x = .slice (some ⟨W.heap.size, 0, none⟩) 1 1) (hys : ys.length = size) (h1 : ∀ u ∈ ys, u.oneCell' = true) (hl : (n + 1) * bytes ≤ 140737488355328)
    (h : ∀ A1 c1 w1, Sep w0 w1 (Own e size (.slice A1 (n + 1) c1) (n + 1) (xs ++ ys) :: R) → wpList P ops Q rest (a.put o.dst (.slice A1 (n + 1) c1)) w1) :
    wpList P ops Q (o :: rest) a (W.alloc (.cells ys.toArray e)) := by
  obtain ⟨F, h0, _⟩ := S.hd
  refine print_append_cells (w0 := W) 0 hgd s x t e z size bytes ho ht hinfo hz hs0 hb0 v n xs ys hs hx hys h1 h0.1 (Below.refl _ _) (Nat.zero_le _) hl ?_
  intro v1 w1 hown _ hg hat
  obtain ⟨A1, c1, rfl⟩ := own_slice hown
  exact h A1 c1 w1 (S.grown hown hg hat)
/-- The same as a step of a drawn region. -/
theorem append_step {K : Act → World → Prop} {E : Prop} {e : TypeId} {size n : Nat} {v : Value} {xs : List Value} (S : Sep w0 W (Own e size v n xs :: R)) (hgd : o.guard = none) (s x : Operand) (t : TypeId) (z : Value) (bytes : Nat)
    (ho : o.op = .call { callee := .builtin .append, args := #[s, x], argTypes := #[t, t] })
    (ht : P.underlying t = some (.slice e)) (hinfo : (P.info? e).map (fun i => (i.zero, i.size, i.bytes)) = some (some z, size, bytes)) (hz : z.cells.size = size) (hs0 : 0 < size) (hb0 : 0 < bytes)
    (ys : List Value) (hs : a.eval s = v) (hx : a.eval x = .slice (some ⟨W.heap.size, 0, none⟩) 1 1) (hys : ys.length = size) (h1 : ∀ u ∈ ys, u.oneCell' = true) (hl : (n + 1) * bytes ≤ 140737488355328)
    (h : ∀ A1 c1 w1, Sep w0 w1 (Own e size (.slice A1 (n + 1) c1) (n + 1) (xs ++ ys) :: R) → K (a.put o.dst (.slice A1 (n + 1) c1)) w1) :
    if Region.wanted o (yielded ops a.tmps) = true then Oper.wp P o a (W.alloc (.cells ys.toArray e)) K Q else E := by
  obtain ⟨F, h0, _⟩ := S.hd
  refine step_append_cells 0 hgd s x t e z size bytes ho ht hinfo hz hs0 hb0 v n xs ys hs hx hys h1 h0.1 (Nat.zero_le _) hl ?_
  intro v1 w1 hown hg hat
  obtain ⟨A1, c1, rfl⟩ := own_slice hown
  exact h A1 c1 w1 (S.grown hown hg hat)
/-- append(v, ys...) of whole numbers. -/
theorem append_row {e : TypeId} {k : IntKind} {n : Nat} {v : Value} {xs : List Int} (S : Sep w0 W (Own e 1 v n (nums k xs) :: R)) (hgd : o.guard = none) (s x : Operand) (t : TypeId) (bytes : Nat)
    (ho : o.op = .call { callee := .builtin .append, args := #[s, x], argTypes := #[t, t] })
    (ht : P.underlying t = some (.slice e)) (hinfo : (P.info? e).map (fun i => (i.zero, i.size, i.bytes)) = some (some (.int k 0), 1, bytes)) (hb0 : 0 < bytes)
    (ys : List Int) (A : Option Addr) (m c : Nat) (hs : a.eval s = v) (hx : a.eval x = .slice A m c) (HR : ReadsInt W k A m ys) (hl : (n + m) * bytes ≤ 140737488355328)
    (h : ∀ A1 c1 w1, Sep w0 w1 (Own e 1 (.slice A1 (n + m) c1) (n + m) (nums k (xs ++ ys)) :: R) → wpList P ops Q rest (a.put o.dst (.slice A1 (n + m) c1)) w1) : wpList P ops Q (o :: rest) a W := by
  obtain ⟨F, h0, _⟩ := S.hd
  have hn : xs.length = n := by have := h0.1.1; simpa [nums] using this
  have hm : ys.length = m := HR.1
  subst hn
  refine print_append_row (w0 := W) 0 hgd s x t e k bytes ho ht hinfo hb0 v xs ys A m c hs hx h0.1 HR (Below.refl _ _) (Nat.zero_le _) hl ?_
  intro v1 w1 hown _ hg hat
  rw [List.length_append, hm] at hown
  obtain ⟨A1, c1, rfl⟩ := own_slice hown
  exact h A1 c1 w1 (S.grown hown hg hat)
end
/-! ### one of many like things -/
section
variable {w0 w : World} {R : List Asn} {α : Type} {f : α → Asn} {L : List α}
theorem erase_perm {α : Type} : ∀ {l : List α} {i : Nat} (h : i < l.length), l.Perm (l[i] :: l.eraseIdx i)
  | a :: l, 0, _ => List.Perm.refl _
  | a :: l, i + 1, h => by
    have h' : i < l.length := by simpa using h
    show (a :: l).Perm (l[i] :: a :: l.eraseIdx i)
    exact ((erase_perm h').cons a).trans (List.Perm.swap _ _ _)
theorem set_perm {α : Type} (y : α) {l : List α} {i : Nat} (h : i < l.length) : (l.set i y).Perm (y :: l.eraseIdx i) := by
  have h' : i < (l.set i y).length := by simpa using h
  have := erase_perm h'
  rw [List.getElem_set_self, List.eraseIdx_set_eq] at this
  exact this
theorem Sep.focus (S : Sep w0 w (R ++ L.map f)) (i : Nat) (h : i < L.length) : Sep w0 w (f L[i] :: (R ++ (L.eraseIdx i).map f)) := by
  refine S.perm ?_
  have h1 := (erase_perm h).map f
  rw [List.map_cons] at h1
  exact ((List.Perm.refl R).append h1).trans List.perm_middle
theorem Sep.unfocus {y : α} {i : Nat} (S : Sep w0 w (f y :: (R ++ (L.eraseIdx i).map f))) (h : i < L.length) : Sep w0 w (R ++ (L.set i y).map f) := by
  refine S.perm ?_
  have h1 := (set_perm y h).map f
  rw [List.map_cons] at h1
  exact (List.perm_middle.symm).trans ((List.Perm.refl R).append h1.symm)
theorem Sep.snoc {y : α} (S : Sep w0 w (f y :: (R ++ L.map f))) : Sep w0 w (R ++ (L ++ [y]).map f) := by
  refine S.perm ?_
  rw [List.map_append, ← List.append_assoc]
  exact (List.perm_append_comm (l₁ := [f y]) (l₂ := R ++ L.map f))
theorem Sep.refocus {i : Nat} (h : i < L.length) (S : Sep w0 w (f L[i] :: (R ++ (L.eraseIdx i).map f))) : Sep w0 w (R ++ L.map f) := by
  have := S.unfocus h
  rwa [List.set_getElem_self] at this
/-- A row of pointers. -/
theorem Sep.ptr_at {e : TypeId} {g n c : Nat} {p : α → Nat} (S : Sep w0 w (Own e 1 (.slice (some ⟨g, 0, none⟩) n c) n (L.map fun d => Value.pointer (some ⟨p d, 0, none⟩)) :: R)) (k : Nat) (h : k < L.length) : w.cell? ⟨g, k, none⟩ = some (.pointer (some ⟨p L[k], 0, none⟩)) := by
  have y0 := S.row.cells (g := g) rfl k (.pointer (some ⟨p L[k], 0, none⟩)) (by rw [List.getElem?_map, List.getElem?_eq_getElem h]; rfl)
  rwa [add_plain] at y0
end
section
variable {w0 w : World} {R l : List Asn} {A : Asn}
theorem Sep.gather (S : Sep w0 w ((A :: R) ++ l)) : Sep w0 w (All (A :: l) :: R) :=
  Sep.closeA (S.perm (List.Perm.cons A List.perm_append_comm))
theorem Sep.spread (S : Sep w0 w (All (A :: l) :: R)) : Sep w0 w ((A :: R) ++ l) :=
  S.openA.perm (List.Perm.cons A List.perm_append_comm)
theorem Sep.put {e : TypeId} {g n c : Nat} {xs : List Value} (S : Sep w0 w (Own e 1 (.slice (some ⟨g, 0, none⟩) n c) n xs :: R)) (i : Nat) (v : Value) : Sep w0 (w.setCell ⟨g, i, none⟩ v) (Own e 1 (.slice (some ⟨g, 0, none⟩) n c) n (xs.set i v) :: R) := by
  obtain ⟨F, h, _⟩ := S.hd
  have h2 := h.1.stored i v
  exact S.grown h2.1 h2.2 (.inl rfl)
theorem Sep.val {e : TypeId} {g n c : Nat} {xs : List Value} (S : Sep w0 w (Own e 1 (.slice (some ⟨g, 0, none⟩) n c) n xs :: R)) (i : Nat) {v : Value} (h : xs[i]? = some v) : w.cell? ⟨g, i, none⟩ = some v := by
  have := S.row.cells (g := g) rfl i v h
  rwa [add_plain] at this
end
end Go.Proofs.YtlhlmjkocmahmaaGreatDoor.Sep
/- append(v, ys...) of whatever elements, told of a list of things that lie apart; as an operation and as a step of a drawn region. -/
namespace Go.Proofs.YtlhlmjkocmahmaaGreatDoor.Sep
open Go.Proofs Go.RowKit Go.Proofs.YtlhlmjkocmahmaaGreatDoorW.PrintWords Go.Proofs.YtlhlmjkocmahmaaGreatDoorW.PrintLast Go.Proofs.YtlhlmjkocmahmaaGreatDoorW.PrintMore Go.Proofs.YtlhlmjkocmahmaaGreatDoor.Dev
set_option linter.unusedVariables false
set_option linter.unusedSimpArgs false
/-- What lies there. -/
def Lies (W : World) (A : Option Addr) (ys : List Value) : Prop := ∀ j u, ys[j]? = some u → ∃ ad, A = some ad ∧ W.cell? (ad.add j) = some u
section
variable {P : Program} {ops : Array Oper} {rest : List Oper} {o : Oper} {a : Act} {Q : Exit → Act → World → Prop} {w0 W w : World} {R : List Asn} {e : TypeId} {size n m c : Nat} {v : Value} {xs ys : List Value} {A : Option Addr}
theorem Sep.lies {g : Nat} (S : Sep w0 W (Own e size (.slice (some ⟨g, 0, none⟩) n c) n xs :: R)) (i m : Nat) : Lies W (some ⟨g, i * size, none⟩) ((xs.drop (i * size)).take m) := by
  intro j u hu
  refine ⟨_, rfl, ?_⟩
  have hj : j < m := by
    by_cases h : j < m
    · exact h
    · rw [List.getElem?_eq_none (by simp; omega)] at hu
      cases hu
  rw [List.getElem?_take_of_lt hj, List.getElem?_drop] at hu
  have h1 := S.row.cells (g := g) rfl _ _ hu
  rw [add_plain] at h1
  have ea : (⟨g, i * size, none⟩ : Addr).add j = ⟨g, i * size + j, none⟩ := by unfold Addr.add; split <;> simp_all
  rw [ea]
  exact h1
theorem Lies.new (W : World) (cs : Array Value) (t : TypeId) : Lies (W.alloc (.cells cs t)) (some ⟨W.heap.size, 0, none⟩) cs.toList := by
  intro j u hu
  have h := World.news_of_block (cs := cs) (t := t) (fr := (0, 0)) (heap_alloc_new W (.cells cs t)) j u (by simpa using hu)
  exact ⟨_, rfl, h⟩
theorem Lies.calm {w' : World} (h : Lies w A ys) (b : Below w.heap.size w w') : Lies w' A ys := fun j u hu => by
  obtain ⟨ad, e, h1⟩ := h j u hu
  exact ⟨ad, e, pw_cell_below b h1⟩
theorem rows_run {t ty : TypeId} {z : Value} {bytes : Nat} (S : Sep w0 W (Own e size v n xs :: R))
    (ht : P.underlying t = some (.slice e)) (hinfo : (P.info? e).map (fun i => (i.zero, i.size, i.bytes)) = some (some z, size, bytes)) (hz : z.cells.size = size) (hs0 : 0 < size) (hb0 : 0 < bytes)
    (hys : ys.length = m * size) (hA : Lies W A ys) (h1 : ∀ u ∈ ys, u.oneCell' = true) (hl : (n + m) * bytes ≤ 140737488355328) :
    ∃ A1 c1 w1, (Builtin.append_ #[t, t] ty #[v, .slice A m c]).run P W = .ok (.slice A1 (n + m) c1) w1 ∧ Sep w0 w1 (Own e size (.slice A1 (n + m) c1) (n + m) (xs ++ ys) :: R) := by
  obtain ⟨F, hF, _⟩ := S.hd
  obtain ⟨i0, hi, hzz⟩ := Option.map_eq_some_iff.1 hinfo
  simp only [Prod.mk.injEq] at hzz
  obtain ⟨hz0, hz1, hz2⟩ := hzz
  have hlen : n + m ≤ 140737488355328 := Nat.le_trans (Nat.le_mul_of_pos_right _ hb0) hl
  rcases A with _ | ad
  · have h0 : ys = [] := by
      cases ys with
      | nil => rfl
      | cons u l =>
        obtain ⟨ad, h, _⟩ := hA 0 u rfl
        cases h
    subst h0
    have hm : m = 0 := by
      rcases Nat.eq_zero_or_pos m with h | h
      · exact h
      · have := Nat.mul_pos h hs0
        simp at hys
        omega
    subst hm
    obtain ⟨A1, c1, rfl⟩ := own_slice hF.1
    refine ⟨A1, c1, W, ?_, by rw [List.append_nil]; exact S⟩
    rcases hF.1.2 with ⟨e1, hn⟩ | ⟨g, cap, cur, e1, _, _, hnc, _⟩
    · cases e1
      simp [Builtin.append_, run_underlying ht, sizeOf, typeInfo, hi, Builtin.lenOf, Builtin.firstCells]
    · cases e1
      simp [Builtin.append_, run_underlying ht, sizeOf, typeInfo, hi, Builtin.lenOf, Builtin.firstCells, hnc, storeCells]
  · obtain ⟨v1, w1, hrun, hown, hg, _, hat⟩ := run_append_own_at (P := P) W 0 t ty e i0 z size bytes ht hi hz0 hz1 hz2 hz hs0 v n xs hF.1 ad m c ys hys
      (fun j u hj => by
        obtain ⟨ad', e', hc⟩ := hA j u hj
        cases e'
        exact hc) h1 (by simp only [maxLen]; omega) hl (Nat.zero_le _)
    obtain ⟨A1, c1, rfl⟩ := own_slice hown
    exact ⟨A1, c1, w1, hrun, S.grown hown hg (hat.imp id fun q => ⟨_, q, Nat.le_refl _⟩)⟩
theorem append_rows (S : Sep w0 W (Own e size v n xs :: R)) (hgd : o.guard = none) (s x : Operand) (t : TypeId) (z : Value) (bytes : Nat)
    (ho : o.op = .call { callee := .builtin .append, args := #[s, x], argTypes := #[t, t] })
    (ht : P.underlying t = some (.slice e)) (hinfo : (P.info? e).map (fun i => (i.zero, i.size, i.bytes)) = some (some z, size, bytes)) (hz : z.cells.size = size) (hs0 : 0 < size) (hb0 : 0 < bytes)
    (ys : List Value) (A : Option Addr) (m c : Nat) (hs : a.eval s = v) (hx : a.eval x = .slice A m c) (hys : ys.length = m * size) (hA : Lies W A ys) (h1 : ∀ u ∈ ys, u.oneCell' = true) (hl : (n + m) * bytes ≤ 140737488355328)
    (h : ∀ A1 c1 w1, Sep w0 w1 (Own e size (.slice A1 (n + m) c1) (n + m) (xs ++ ys) :: R) → wpList P ops Q rest (a.put o.dst (.slice A1 (n + m) c1)) w1) : wpList P ops Q (o :: rest) a W := by
  refine wpList_plain hgd fun K hK => ?_
  obtain ⟨A1, c1, w1, hrun, S1⟩ := rows_run (P := P) (t := t) (ty := o.type) (c := c) S ht hinfo hz hs0 hb0 hys hA h1 hl
  unfold Oper.wp
  simp [execOp, ho, resolve, invoke, builtin, hs, hx, hrun, Result.andThen]
  exact hK _ _ (h A1 c1 w1 S1)
theorem append_rows_step {K : Act → World → Prop} {E : Prop} (S : Sep w0 W (Own e size v n xs :: R)) (hgd : o.guard = none) (s x : Operand) (t : TypeId) (z : Value) (bytes : Nat)
    (ho : o.op = .call { callee := .builtin .append, args := #[s, x], argTypes := #[t, t] })
    (ht : P.underlying t = some (.slice e)) (hinfo : (P.info? e).map (fun i => (i.zero, i.size, i.bytes)) = some (some z, size, bytes)) (hz : z.cells.size = size) (hs0 : 0 < size) (hb0 : 0 < bytes)
    (ys : List Value) (A : Option Addr) (m c : Nat) (hs : a.eval s = v) (hx : a.eval x = .slice A m c) (hys : ys.length = m * size) (hA : Lies W A ys) (h1 : ∀ u ∈ ys, u.oneCell' = true) (hl : (n + m) * bytes ≤ 140737488355328)
    (h : ∀ A1 c1 w1, Sep w0 w1 (Own e size (.slice A1 (n + m) c1) (n + m) (xs ++ ys) :: R) → K (a.put o.dst (.slice A1 (n + m) c1)) w1) :
    if Region.wanted o (yielded ops a.tmps) = true then Oper.wp P o a W K Q else E := by
  have hw : Region.wanted o (yielded ops a.tmps) = true := by simp [Region.wanted, hgd]
  rw [if_pos hw]
  obtain ⟨A1, c1, w1, hrun, S1⟩ := rows_run (P := P) (t := t) (ty := o.type) (c := c) S ht hinfo hz hs0 hb0 hys hA h1 hl
  unfold Oper.wp
  simp [execOp, ho, resolve, invoke, builtin, hs, hx, hrun, Result.andThen]
  exact h A1 c1 w1 S1
end
end Go.Proofs.YtlhlmjkocmahmaaGreatDoor.Sep
/- A call of a Go function as a step of a region that draws its order. -/
namespace Go.Proofs.YtlhlmjkocmahmaaGreatDoor.Sep
open Go.Proofs Go.RowKit Go.Proofs.YtlhlmjkocmahmaaGreatDoorW.PrintWords Go.Proofs.YtlhlmjkocmahmaaGreatDoorW.PrintLast Go.Proofs.YtlhlmjkocmahmaaGreatDoorW.PrintMore Go.Proofs.YtlhlmjkocmahmaaGreatDoor.Dev
set_option linter.unusedVariables false
set_option linter.unusedSimpArgs false
/-- A call of a Go function as a step of a drawn region, by its contract. -/
theorem call_step {P : Program} {ops : Array Oper} {o : Oper} {a : Act} {K : Act → World → Prop} {Q : Exit → Act → World → Prop} {E : Prop} {W : World} {f : FuncId} {fn : Func} (hf : P.funcs[f]? = some fn) (hname : (fn.name == "runtime.NumGoroutine") = false) (hb : fn.body.isSome = true) (xs : Array Operand) (ts : Array TypeId)
    (hgd : o.guard = none) (ho : o.op = .call { callee := .value (.func f), args := xs, argTypes := ts }) (args : Array Value) (hargs : xs.map a.eval = args)
    (h : Calls P f args W fun e w' => ∃ v, e = .returned v ∧ K (a.put o.dst v) w') : if Region.wanted o (yielded ops a.tmps) = true then Oper.wp P o a W K Q else E := by
  have hw : Region.wanted o (yielded ops a.tmps) = true := by simp [Region.wanted, hgd]
  rw [if_pos hw]
  have he := enters_ hf hname hb args W
  have hrun : (execOp a.eval o).run P W = .ok (.enter f args) W := by
    unfold execOp
    simp [ho, resolve, Deferred.ofValue, invoke, Act.eval, hargs, he]
  unfold Oper.wp
  rw [hrun, Oper.upon_enter]
  refine h.mono fun e w'' hh => ?_
  obtain ⟨v, rfl, hk⟩ := hh
  exact hk
end Go.Proofs.YtlhlmjkocmahmaaGreatDoor.Sep
