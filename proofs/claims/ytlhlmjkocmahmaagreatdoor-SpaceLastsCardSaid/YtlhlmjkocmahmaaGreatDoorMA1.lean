/- What a call changes: some blocks alone; an append as a step of a drawn region. -/
import Derived.Test.YtlhlmjkocmahmaaGreatDoorProg
import Derived.Test.YtlhlmjkocmahmaaGreatDoorWWords
import Derived.Test.YtlhlmjkocmahmaaGreatDoorWLast
import Derived.Test.YtlhlmjkocmahmaaGreatDoorWMore
import Derived.Below
import Derived.OwnWalk
import Derived.Laws.CopyOwn
import Derived.Maps.AppendAt
import Derived.Deep.RegionLaw
namespace Go.Proofs.YtlhlmjkocmahmaaGreatDoor.Dev
open Go.Proofs Go.RowKit Go.Proofs.YtlhlmjkocmahmaaGreatDoorW.PrintWords Go.Proofs.YtlhlmjkocmahmaaGreatDoorW.PrintLast Go.Proofs.YtlhlmjkocmahmaaGreatDoorW.PrintMore
set_option linter.unusedVariables false
set_option linter.unusedSimpArgs false
/-! ### 3. what changes where -/
structure Chg (F : Nat → Prop) (w w' : World) : Prop where
  os : w'.os = w.os
  tape : w'.tape = w.tape
  output : w'.output = w.output
  size : w.heap.size ≤ w'.heap.size
  block : ∀ k, k < w.heap.size → ¬ F k → w'.heap[k]? = w.heap[k]?
theorem Chg.refl (F : Nat → Prop) (w : World) : Chg F w w := ⟨rfl, rfl, rfl, Nat.le_refl _, fun _ _ _ => rfl⟩
theorem Chg.trans {F : Nat → Prop} {a b c : World} (h : Chg F a b) (k : Chg F b c) : Chg F a c :=
  ⟨k.os.trans h.os, k.tape.trans h.tape, k.output.trans h.output, Nat.le_trans h.size k.size, fun i hi hF => (k.block i (Nat.lt_of_lt_of_le hi h.size) hF).trans (h.block i hi hF)⟩
theorem Chg.mono {F G : Nat → Prop} {a b : World} (h : Chg F a b) (hs : ∀ k, k < a.heap.size → F k → G k) : Chg G a b :=
  ⟨h.os, h.tape, h.output, h.size, fun k hk hG => h.block k hk fun hF => hG (hs k hk hF)⟩
theorem Chg.below {F : Nat → Prop} {a b : World} (h : Chg F a b) {B : Nat} (hB : B ≤ a.heap.size) (hF : ∀ k, F k → B ≤ k) : Below B a b :=
  ⟨h.os, h.tape, h.output, h.size, fun k hk => h.block k (by omega) fun hFk => by have := hF k hFk; omega⟩
theorem Chg.ofBelow {F : Nat → Prop} {a b : World} (h : Below a.heap.size a b) : Chg F a b := ⟨h.os, h.tape, h.output, h.size, fun k hk _ => h.block k hk⟩
theorem Chg.grown {F : Nat → Prop} {a b : World} {row : Option Nat} (h : a.grownBy b row) (hr : ∀ k, row = some k → F k) : Chg F a b :=
  ⟨h.os, h.tape, h.output, h.size, fun k hk hF => h.block k hk fun e => hF (hr k e.symm)⟩
theorem Chg.set {F : Nat → Prop} {w : World} {a : Addr} {v : Value} (h : F a.block) : Chg F w (w.setCell a v) :=
  ⟨rfl, rfl, rfl, by simp [World.setCell], fun k _ hk => Below.heap_setCell w a v k fun e => hk (e ▸ h)⟩
/-- The blocks of F and all that are new. -/
def grow (F : Nat → Prop) (w w' : World) : Nat → Prop := fun k => F k ∨ (w.heap.size ≤ k ∧ k < w'.heap.size)
theorem heap_set {w : World} {p i : Nat} {cs : Array Value} {t : TypeId} {fz : Nat × Nat} (h : w.heap[p]? = some (.cells cs t fz)) (v : Value) : (w.setCell ⟨p, i, none⟩ v).heap[p]? = some (.cells (cs.setIfInBounds i v) t fz) := by
  have hl : p < w.heap.size := (Array.getElem?_eq_some_iff.1 h).1
  simp [World.setCell, Array.getElem?_modify, h]
theorem add_block (a : Addr) (j : Nat) : (a.add j).block = a.block := by unfold Addr.add; split <;> rfl
theorem own_up {W : World} {b b' n size : Nat} {e : TypeId} {v : Value} {cs : List Value} (h : W.ownsRow b e size v n cs) (hb : ∀ k, v.ownBlock = some k → b' ≤ k) : W.ownsRow b' e size v n cs := by
  refine ⟨h.1, ?_⟩
  rcases h.2 with h1 | ⟨g, cap, cur, h1, h2, h3⟩
  · exact .inl h1
  · exact .inr ⟨g, cap, cur, h1, hb g (by rw [h1]; rfl), h3⟩
theorem step_append_cells {P : Program} {ops : Array Oper} {o : Oper} {a : Act} {K : Act → World → Prop} {Q : Exit → Act → World → Prop} {E : Prop} {W : World} (base : Nat) (hgd : o.guard = none) (s x : Operand) (t e : TypeId) (z : Value) (size bytes : Nat)
    (ho : o.op = .call { callee := .builtin .append, args := #[s, x], argTypes := #[t, t] })
    (ht : P.underlying t = some (.slice e)) (hinfo : (P.info? e).map (fun i => (i.zero, i.size, i.bytes)) = some (some z, size, bytes)) (hz : z.cells.size = size) (hs0 : 0 < size) (hb0 : 0 < bytes)
    (v : Value) (n : Nat) (xs ys : List Value) (hs : a.eval s = v) (hx : a.eval x = .slice (some ⟨W.heap.size, 0, none⟩) 1 1) (hys : ys.length = size) (h1 : ∀ u ∈ ys, u.oneCell' = true)
    (HO : W.ownsRow base e size v n xs) (hbase : base ≤ W.heap.size) (hl : (n + 1) * bytes ≤ 140737488355328)
    (h : ∀ v1 w1, w1.ownsRow base e size v1 (n + 1) (xs ++ ys) → W.grownBy w1 v.ownBlock → (v1.ownBlock = v.ownBlock ∨ ∃ b, v1.ownBlock = some b ∧ W.heap.size ≤ b) → K (a.put o.dst v1) w1) :
    if Region.wanted o (yielded ops a.tmps) = true then Oper.wp P o a (W.alloc (.cells ys.toArray e)) K Q else E := by
  have hw : Region.wanted o (yielded ops a.tmps) = true := by simp [Region.wanted, hgd]
  rw [if_pos hw]
  obtain ⟨i0, hi, hzz⟩ := Option.map_eq_some_iff.1 hinfo
  simp only [Prod.mk.injEq] at hzz
  obtain ⟨hz0, hz1, hz2⟩ := hzz
  have hlen : n + 1 ≤ 140737488355328 := Nat.le_trans (Nat.le_mul_of_pos_right _ hb0) hl
  obtain ⟨v1, w1, hrun, hown, hg, _, hat⟩ := run_append_own_at (P := P) (W.alloc (.cells ys.toArray e)) base t o.type e i0 z size bytes ht hi hz0 hz1 hz2 hz hs0 v n xs (HO.alloc _) ⟨W.heap.size, 0, none⟩ 1 1 ys (by rw [hys]; simp)
    (by simpa using World.news_of_block (cs := ys.toArray) (t := e) (fr := (0, 0)) (heap_alloc_new W (.cells ys.toArray e))) h1 (by simp only [maxLen]; omega) hl (by simp; omega)
  unfold Oper.wp
  simp [execOp, ho, resolve, invoke, builtin, hs, hx, hrun, Result.andThen]
  refine h v1 w1 hown (World.grownBy.trans (World.grownBy_alloc W _ _) hg) ?_
  rcases hat with hat | hat
  · exact .inl hat
  · exact .inr ⟨_, hat, by simp⟩
end Go.Proofs.YtlhlmjkocmahmaaGreatDoor.Dev
/- Memory as a list of things that lie apart, all of them new since a first world; what a call does to some of them leaves the others. -/
namespace Go.Proofs.YtlhlmjkocmahmaaGreatDoor.Sep
open Go.Proofs Go.RowKit Go.Proofs.YtlhlmjkocmahmaaGreatDoorW.PrintWords Go.Proofs.YtlhlmjkocmahmaaGreatDoorW.PrintLast Go.Proofs.YtlhlmjkocmahmaaGreatDoorW.PrintMore Go.Proofs.YtlhlmjkocmahmaaGreatDoor.Dev
set_option linter.unusedVariables false
set_option linter.unusedSimpArgs false
/-- What may lie in the blocks of a set. -/
structure Asn where
  H : World → (Nat → Prop) → Prop
  move : ∀ {w w' : World} {F : Nat → Prop}, H w F → (∀ k, F k → w'.heap[k]? = w.heap[k]?) → H w' F
  lt : ∀ {w : World} {F : Nat → Prop}, H w F → ∀ k, F k → k < w.heap.size
/-- These lie apart within F. -/
def Star : List Asn → World → (Nat → Prop) → Prop
  | [], _, _ => True
  | A :: As, w, F => ∃ G : Nat → Prop, A.H w G ∧ (∀ k, G k → F k) ∧ Star As w (fun k => F k ∧ ¬ G k)
theorem Star.mono {w : World} : ∀ {l : List Asn} {F F' : Nat → Prop}, Star l w F → (∀ k, F k → F' k) → Star l w F'
  | [], _, _, _, _ => trivial
  | _ :: _, _, _, ⟨G, h1, h2, h3⟩, hs => ⟨G, h1, fun k hk => hs k (h2 k hk), Star.mono h3 fun k hk => ⟨hs k hk.1, hk.2⟩⟩
theorem Star.lt {w : World} : ∀ {l : List Asn} {F : Nat → Prop}, Star l w F → Star l w (fun k => F k ∧ k < w.heap.size)
  | [], _, _ => trivial
  | A :: _, _, ⟨G, h1, h2, h3⟩ => ⟨G, h1, fun k hk => ⟨h2 k hk, A.lt h1 k hk⟩, Star.mono (Star.lt h3) fun k hk => ⟨⟨hk.1.1, hk.2⟩, hk.1.2⟩⟩
theorem Star.move {w w' : World} : ∀ {l : List Asn} {F : Nat → Prop}, Star l w F → (∀ k, F k → k < w.heap.size → w'.heap[k]? = w.heap[k]?) → Star l w' F
  | [], _, _, _ => trivial
  | A :: _, _, ⟨G, h1, h2, h3⟩, hk => ⟨G, A.move h1 fun k hg => hk k (h2 k hg) (A.lt h1 k hg), h2, Star.move h3 fun k hf => hk k hf.1⟩
theorem Star.swap {w : World} {A B : Asn} {l : List Asn} {F : Nat → Prop} (h : Star (A :: B :: l) w F) : Star (B :: A :: l) w F := by
  obtain ⟨G, h1, h2, G', h3, h4, h5⟩ := h
  exact ⟨G', h3, fun k hk => (h4 k hk).1, G, h1, fun k hk => ⟨h2 k hk, fun hk' => (h4 k hk').2 hk⟩, Star.mono h5 fun k hk => ⟨⟨hk.1.1, hk.2⟩, hk.1.2⟩⟩
theorem Star.perm {w : World} {l l' : List Asn} (p : l.Perm l') : ∀ {F : Nat → Prop}, Star l w F → Star l' w F := by
  induction p with
  | nil => exact fun h => h
  | cons x _ ih => exact fun ⟨G, h1, h2, h3⟩ => ⟨G, h1, h2, ih h3⟩
  | swap x y l => exact fun h => h.swap
  | trans _ _ ih1 ih2 => exact fun h => ih2 (ih1 h)
theorem Star.split {w : World} : ∀ {l1 l2 : List Asn} {F : Nat → Prop}, Star (l1 ++ l2) w F → ∃ G : Nat → Prop, (∀ k, G k → F k) ∧ Star l1 w G ∧ Star l2 w (fun k => F k ∧ ¬ G k)
  | [], _, F, h => ⟨fun _ => False, fun _ h => h.elim, trivial, Star.mono h fun k hk => ⟨hk, id⟩⟩
  | A :: l1, l2, F, ⟨G1, h1, h2, h3⟩ => by
    obtain ⟨G2, s, h4, h5⟩ := Star.split (l1 := l1) h3
    exact ⟨fun k => G1 k ∨ G2 k, fun k hk => hk.elim (h2 k) fun q => (s k q).1, ⟨G1, h1, fun k hk => .inl hk, Star.mono h4 fun k hk => ⟨.inr hk, (s k hk).2⟩⟩, Star.mono h5 fun k hk => ⟨hk.1.1, fun q => q.elim hk.1.2 hk.2⟩⟩
theorem Star.join {w : World} : ∀ {l1 l2 : List Asn} {F G : Nat → Prop}, (∀ k, G k → F k) → Star l1 w G → Star l2 w (fun k => F k ∧ ¬ G k) → Star (l1 ++ l2) w F
  | [], _, _, _, _, _, h => Star.mono h fun _ hk => hk.1
  | _ :: l1, _, F, G, hs, ⟨G1, h1, h2, h3⟩, h4 => ⟨G1, h1, fun k hk => hs k (h2 k hk), Star.join (l1 := l1) (G := fun k => G k ∧ ¬ G1 k) (fun k hk => ⟨hs k hk.1, hk.2⟩) h3 (Star.mono h4 fun k hk => ⟨⟨hk.1, fun q => hk.2 (h2 k q)⟩, fun q => hk.2 q.1⟩)⟩
theorem Star.one {w : World} {A : Asn} {F G : Nat → Prop} (h : A.H w G) (hs : ∀ k, G k → F k) : Star [A] w F := ⟨G, h, hs, trivial⟩
theorem Star.two {w : World} {A B : Asn} {F G G' : Nat → Prop} (h : A.H w G) (hs : ∀ k, G k → F k) (h' : B.H w G') (hs' : ∀ k, G' k → F k ∧ ¬ G k) : Star [A, B] w F := ⟨G, h, hs, G', h', hs', trivial⟩
/-- All of these as one thing. -/
def All (l : List Asn) : Asn where
  H w F := Star l w F ∧ ∀ k, F k → k < w.heap.size
  move := fun h hk => ⟨h.1.move fun k hf _ => hk k hf, fun k hf => by
    have h1 := h.2 k hf
    have h2 := hk k hf
    rw [Array.getElem?_eq_getElem h1] at h2
    exact (Array.getElem?_eq_some_iff.1 h2).1⟩
  lt := fun h => h.2
/-! ### a list of things since a first world -/
structure Sep (w0 w : World) (l : List Asn) : Prop where
  bel : Below w0.heap.size w0 w
  star : Star l w (fun k => w0.heap.size ≤ k)
section
variable {w0 w w' : World} {A B C : Asn} {R R' l : List Asn}
theorem Sep.start (w : World) : Sep w w [] := ⟨Below.refl _ _, trivial⟩
theorem Sep.perm (S : Sep w0 w l) (p : l.Perm R) : Sep w0 w R := ⟨S.bel, S.star.perm p⟩
/-- The i-th comes to the head. -/
def pull {α : Type} : Nat → List α → List α
  | 0, l => l
  | _ + 1, [] => []
  | n + 1, a :: l => match pull n l with
    | [] => [a]
    | b :: r => b :: a :: r
theorem pull_perm {α : Type} : ∀ (n : Nat) (l : List α), l.Perm (pull n l)
  | 0, l => List.Perm.refl l
  | _ + 1, [] => List.Perm.refl []
  | n + 1, a :: l => by
    have h := pull_perm n l
    show (a :: l).Perm (match pull n l with | [] => [a] | b :: r => b :: a :: r)
    generalize pull n l = q at h
    cases q with
    | nil => exact h.cons a
    | cons b r => exact (h.cons a).trans (List.Perm.swap b a r)
theorem pull_head {α : Type} {a : α} : ∀ {n : Nat} {l : List α}, l[n]? = some a → ∃ r, Go.Proofs.YtlhlmjkocmahmaaGreatDoor.Sep.pull n l = a :: r
  | 0, [], h => by cases h
  | 0, b :: l, h => by
    have : b = a := by simpa using h
    exact ⟨l, by rw [this]; rfl⟩
  | _ + 1, [], h => by cases h
  | n + 1, b :: l, h => by
    obtain ⟨r, hr⟩ := pull_head (n := n) (l := l) (by simpa using h)
    refine ⟨b :: r, ?_⟩
    show (match Go.Proofs.YtlhlmjkocmahmaaGreatDoor.Sep.pull n l with | [] => [b] | c :: r => c :: b :: r) = _
    rw [hr]
theorem Sep.pull (S : Sep w0 w l) (n : Nat) : Sep w0 w (pull n l) := S.perm (pull_perm n l)
theorem Sep.swap (S : Sep w0 w (A :: B :: R)) : Sep w0 w (B :: A :: R) := ⟨S.bel, S.star.swap⟩
theorem Sep.drop (S : Sep w0 w (A :: R)) : Sep w0 w R := by
  obtain ⟨G, _, _, h⟩ := S.star
  exact ⟨S.bel, h.mono fun k hk => hk.1⟩
theorem Sep.drop2 (S : Sep w0 w (A :: B :: R)) : Sep w0 w (A :: R) := S.swap.drop
theorem Sep.empty (S : Sep w0 w l) : Sep w0 w [] := ⟨S.bel, trivial⟩
theorem Sep.hd (S : Sep w0 w (A :: R)) : ∃ F, A.H w F ∧ ∀ k, F k → w0.heap.size ≤ k := by
  obtain ⟨G, h, hs, _⟩ := S.star
  exact ⟨G, h, hs⟩
theorem Sep.at_ (S : Sep w0 w l) (i : Nat) (h : l[i]? = some A := by rfl) : ∃ F, A.H w F ∧ ∀ k, F k → w0.heap.size ≤ k := by
  have hp : ∃ R, l.Perm (A :: R) := by
    obtain ⟨r, hr⟩ := pull_head h
    exact ⟨r, hr ▸ pull_perm i l⟩
  obtain ⟨R, hp⟩ := hp
  exact (S.perm hp).hd
theorem Sep.calm (S : Sep w0 w l) (b : Below w.heap.size w w') : Sep w0 w' l :=
  ⟨S.bel.trans (b.mono S.bel.size), S.star.move fun k _ hk => b.block k hk⟩
theorem Sep.drew (S : Sep w0 w l) : Sep w0 w.drew l := ⟨below_drew S.bel, S.star.move fun _ _ _ => rfl⟩
theorem Sep.drewN (S : Sep w0 w l) (n : Nat) : Sep w0 (w.drewN n) l := ⟨pw_below_drewN S.bel n, S.star.move fun _ _ _ => rfl⟩
/-- Some of it is changed, and what is new comes to it. -/
theorem Sep.frame {P : List Asn} (S : Sep w0 w (P ++ R)) : ∃ F : Nat → Prop, Star P w F ∧ (∀ k, F k → k < w.heap.size) ∧ ∀ (w' : World) (Q : List Asn), Star Q w' (grow F w w') → Chg F w w' → Sep w0 w' (Q ++ R) := by
  obtain ⟨G, hs, h1, h2⟩ := S.star.split
  refine ⟨fun k => G k ∧ k < w.heap.size, h1.lt, fun k hk => hk.2, fun w' Q hQ hc => ⟨S.bel.trans (hc.below S.bel.size fun k hk => hs k hk.1), ?_⟩⟩
  refine Star.join (G := grow (fun k => G k ∧ k < w.heap.size) w w') (fun k hk => hk.elim (fun q => hs k q.1) fun q => Nat.le_trans S.bel.size q.1) hQ ?_
  refine (h2.lt.move (w' := w') fun k hk hlt => hc.block k hlt fun q => hk.1.2 q.1).mono fun k hk => ⟨hk.1.1, fun q => ?_⟩
  rcases q with q | q
  · exact hk.1.2 q.1
  · omega
theorem Sep.one (S : Sep w0 w (A :: R)) : ∃ F : Nat → Prop, A.H w F ∧ (∀ k, F k → w0.heap.size ≤ k) ∧ ∀ (w' : World) (Q : List Asn), Star Q w' (grow F w w') → Chg F w w' → Sep w0 w' (Q ++ R) := by
  obtain ⟨G, h1, hs, h2⟩ := S.star
  refine ⟨G, h1, hs, fun w' Q hQ hc => ⟨S.bel.trans (hc.below S.bel.size fun k hk => hs k hk), ?_⟩⟩
  refine Star.join (G := grow G w w') (fun k hk => hk.elim (hs k) fun q => Nat.le_trans S.bel.size q.1) hQ ?_
  refine (h2.lt.move (w' := w') fun k hk hlt => hc.block k hlt fun q => hk.1.2 q).mono fun k hk => ⟨hk.1.1, fun q => ?_⟩
  rcases q with q | q
  · exact hk.1.2 q
  · omega
/-- The first is changed; the second is looked at. -/
theorem Sep.pair (S : Sep w0 w (A :: B :: R)) : ∃ F G : Nat → Prop, A.H w F ∧ B.H w G ∧ (∀ k, G k → ¬ F k) ∧ (∀ k, F k → w0.heap.size ≤ k) ∧ ∀ (w' : World) (Q : List Asn), Star Q w' (grow F w w') → Chg F w w' → Sep w0 w' (Q ++ B :: R) := by
  obtain ⟨G, h1, hs, G', h3, h4, h5⟩ := S.star
  refine ⟨G, G', h1, h3, fun k hk => (h4 k hk).2, hs, fun w' Q hQ hc => ⟨S.bel.trans (hc.below S.bel.size fun k hk => hs k hk), ?_⟩⟩
  have h2 : Star (B :: R) w (fun k => w0.heap.size ≤ k ∧ ¬ G k) := ⟨G', h3, h4, h5⟩
  refine Star.join (G := grow G w w') (fun k hk => hk.elim (hs k) fun q => Nat.le_trans S.bel.size q.1) hQ ?_
  refine (h2.lt.move (w' := w') fun k hk hlt => hc.block k hlt fun q => hk.1.2 q).mono fun k hk => ⟨hk.1.1, fun q => ?_⟩
  rcases q with q | q
  · exact hk.1.2 q
  · omega
/-- New things. -/
theorem Sep.news (S : Sep w0 w R) (b : Below w.heap.size w w') {Q : List Asn} (hQ : Star Q w' (fun k => w.heap.size ≤ k ∧ k < w'.heap.size)) : Sep w0 w' (Q ++ R) := by
  have S' : Sep w0 w ([] ++ R) := S
  obtain ⟨F, _, hlt, hf⟩ := S'.frame
  exact hf w' Q (hQ.mono fun k hk => .inr hk) (Chg.ofBelow b)
theorem Sep.new (S : Sep w0 w R) (b : Below w.heap.size w w') {G : Nat → Prop} (hA : A.H w' G) (hG : ∀ k, G k → w.heap.size ≤ k) : Sep w0 w' (A :: R) :=
  S.news b (Q := [A]) (Star.one hA fun k hk => ⟨hG k hk, A.lt hA k hk⟩)
end
theorem lt_move {w w' : World} {k : Nat} (h1 : k < w.heap.size) (h2 : w'.heap[k]? = w.heap[k]?) : k < w'.heap.size := by
  rw [Array.getElem?_eq_getElem h1] at h2
  exact (Array.getElem?_eq_some_iff.1 h2).1
/-! ### a block of cells -/
def Blk (p : Nat) (cs : Array Value) (t : TypeId) : Asn where
  H w F := w.heap[p]? = some (.cells cs t (0, 0)) ∧ F = fun k => k = p
  move := fun {w w' F} h hk => ⟨(hk p (by rw [h.2])).trans h.1, h.2⟩
  lt := fun {w F} h k hk => by
    rw [h.2] at hk
    have hk : k = p := hk
    subst hk
    exact (Array.getElem?_eq_some_iff.1 h.1).1
section
variable {w0 w w' : World} {p : Nat} {cs : Array Value} {t : TypeId} {R : List Asn}
theorem Sep.blk (S : Sep w0 w (Blk p cs t :: R)) : w.heap[p]? = some (.cells cs t (0, 0)) := by
  obtain ⟨F, h, _⟩ := S.hd
  exact h.1
theorem Sep.cell (S : Sep w0 w (Blk p cs t :: R)) (i : Nat) {v : Value} (h : cs[i]? = some v := by rfl) : w.cell? ⟨p, i, none⟩ = some v := (blk_cell S.blk i).trans h
theorem Sep.free (S : Sep w0 w (Blk p cs t :: R)) (i : Nat) : w.frozen? ⟨p, i, none⟩ = false := blk_frozen S.blk i
theorem Sep.set (S : Sep w0 w (Blk p cs t :: R)) (i : Nat) (v : Value) : Sep w0 (w.setCell ⟨p, i, none⟩ v) (Blk p (cs.setIfInBounds i v) t :: R) := by
  obtain ⟨F, h, _, hf⟩ := S.one
  have hp := h.2
  subst hp
  refine hf _ [Blk p (cs.setIfInBounds i v) t] (Star.one (G := fun k => k = p) ⟨heap_set h.1 v, rfl⟩ fun k hk => .inl hk) (Chg.set rfl)
theorem Sep.alloc (S : Sep w0 w R) (cs : Array Value) (t : TypeId) : Sep w0 (w.alloc (.cells cs t)) (Blk w.heap.size cs t :: R) :=
  S.new (below_alloc (Below.refl _ _) _) (A := Blk w.heap.size cs t) (G := fun k => k = w.heap.size) ⟨(MapKept.heap_alloc w _).1, rfl⟩ fun k hk => by rw [show k = _ from hk]; exact Nat.le_refl _
end
/-! ### a row of one's own -/
def Own (e : TypeId) (size : Nat) (v : Value) (n : Nat) (xs : List Value) : Asn where
  H w F := w.ownsRow 0 e size v n xs ∧ (∀ k, v.ownBlock = some k → F k) ∧ ∀ k, F k → k < w.heap.size
  move := fun h hk => ⟨own_move h.1 fun k e => hk k (h.2.1 k e), h.2.1, fun k hf => lt_move (h.2.2 k hf) (hk k hf)⟩
  lt := fun h => h.2.2
/-- A row of bytes of one's own. -/
abbrev Byt (A : Option Addr) (n c : Nat) (l : List Int) : Asn := Own 5 1 (.slice A n c) n (nums .u8 l)
section
variable {w0 w w' : World} {e : TypeId} {size n : Nat} {v : Value} {xs : List Value} {R : List Asn}
theorem Sep.row (S : Sep w0 w (Own e size v n xs :: R)) : w.ownsRow w0.heap.size e size v n xs := by
  obtain ⟨F, h, hs⟩ := S.hd
  refine ⟨h.1.1, ?_⟩
  rcases h.1.2 with h1 | ⟨g, cap, cur, h1, h2, h3⟩
  · exact .inl h1
  · exact .inr ⟨g, cap, cur, h1, hs g (h.2.1 g (by rw [h1]; rfl)), h3⟩
theorem Sep.row_new (S : Sep w0 w R) (b : Below w.heap.size w w') (h : w'.ownsRow w.heap.size e size v n xs) : Sep w0 w' (Own e size v n xs :: R) :=
  S.new b (A := Own e size v n xs) (G := fun k => v.ownBlock = some k) ⟨own_weaken h (Nat.zero_le _), fun k hk => hk, fun k hk => own_lt h k hk⟩ fun k hk => own_base h k hk
theorem Sep.nils (S : Sep w0 w R) (e : TypeId) (size : Nat) : Sep w0 w (Own e size (.slice none 0 0) 0 [] :: R) :=
  S.row_new (Below.refl _ _) (own_nil _ _ _ _)
/-- It has grown, or lies anew. -/
theorem Sep.grown {n' : Nat} {v' : Value} {xs' : List Value} (S : Sep w0 w (Own e size v n xs :: R)) (h : w'.ownsRow 0 e size v' n' xs') (hg : w.grownBy w' v.ownBlock) (hat : v'.ownBlock = v.ownBlock ∨ ∃ b, v'.ownBlock = some b ∧ w.heap.size ≤ b) : Sep w0 w' (Own e size v' n' xs' :: R) := by
  obtain ⟨F, h0, hs, hf⟩ := S.one
  refine hf w' [Own e size v' n' xs'] (Star.one (G := fun k => v'.ownBlock = some k) ⟨h, fun k hk => hk, fun k hk => own_lt h k hk⟩ fun k hk => ?_) (Chg.grown hg h0.2.1)
  rcases hat with h1 | ⟨b, h1, h2⟩
  · exact .inl (h0.2.1 k (h1 ▸ hk))
  · have : b = k := by
      have := h1.symm.trans hk
      cases this
      rfl
    exact .inr ⟨by omega, own_lt h k hk⟩
end
section
variable {w0 w w' : World} {A : Option Addr} {n c : Nat} {l : List Int} {R : List Asn} {k : IntKind} {e : TypeId}
theorem Sep.reads (S : Sep w0 w (Own e 1 (.slice A n c) n (nums k l) :: R)) : ReadsInt w k A n l := own_reads' S.row
theorem Sep.cap (S : Sep w0 w (Own e 1 (.slice A n c) n (nums k l) :: R)) : n ≤ c := own_cap S.row
theorem Sep.len (S : Sep w0 w (Own e 1 (.slice A n c) n (nums k l) :: R)) : l.length = n := by
  have := S.row.1
  simpa [nums] using this
end
section
variable {w0 w w' : World} {g n c : Nat} {l : List Int} {R : List Asn} {k : IntKind} {e : TypeId}
theorem Sep.addr {A : Option Addr} {size : Nat} {xs : List Value} (S : Sep w0 w (Own e size (.slice A n c) n xs :: R)) (h : 0 < n) : ∃ g, A = some ⟨g, 0, none⟩ := by
  obtain ⟨g, cap, e, _, _⟩ := S.row.form h
  cases e
  exact ⟨g, rfl⟩
theorem Sep.elem (S : Sep w0 w (Own e 1 (.slice (some ⟨g, 0, none⟩) n c) n (nums k l) :: R)) (i : Nat) (h : i < n) : w.cell? ⟨g, i, none⟩ = some (.int k (l.getD i 0)) := by
  have hl := S.len
  have := S.row.cells (g := g) rfl i (.int k (l.getD i 0)) (by simp [nums, List.getD_eq_getElem?_getD, List.getElem?_eq_getElem (show i < l.length by omega)])
  rwa [add_plain] at this
theorem Sep.open_ {A : Option Addr} {size : Nat} {xs : List Value} (S : Sep w0 w (Own e size (.slice A n c) n xs :: R)) (h : 0 < n) : ∃ g cur, A = some ⟨g, 0, none⟩ ∧ w.heap[g]? = some (.cells cur e (0, 0)) ∧ cur.size = c * size ∧ n ≤ c ∧ w0.heap.size ≤ g := by
  rcases S.row.2 with ⟨_, h1⟩ | ⟨g, cap, cur, h1, h2, h3, h4, _, h6, _⟩
  · omega
  · cases h1
    exact ⟨g, cur, rfl, h3, h6, h4, h2⟩
theorem Sep.row_free {size : Nat} {xs : List Value} (S : Sep w0 w (Own e size (.slice (some ⟨g, 0, none⟩) n c) n xs :: R)) (h : 0 < n) (i : Nat) : w.frozen? ⟨g, i, none⟩ = false := by
  obtain ⟨g', cur, h1, h2, _⟩ := S.open_ h
  cases h1
  exact blk_frozen h2 i
theorem Sep.store (S : Sep w0 w (Own e 1 (.slice (some ⟨g, 0, none⟩) n c) n (nums k l) :: R)) (i : Nat) (x : Int) : Sep w0 (w.setCell ⟨g, i, none⟩ (.int k x)) (Own e 1 (.slice (some ⟨g, 0, none⟩) n c) n (nums k (l.set i x)) :: R) := by
  obtain ⟨F, h, _⟩ := S.hd
  have h2 := own_store h.1 (i : Int) x
  rw [Int.toNat_natCast] at h2
  exact S.grown h2.1 h2.2 (.inl rfl)
/-- A part of it. -/
theorem Sep.part (S : Sep w0 w (Own e 1 (.slice (some ⟨g, 0, none⟩) n c) n (nums k l) :: R)) (o m : Nat) (h : o + m ≤ n) : ReadsInt w k (some ⟨g, o, none⟩) m ((l.drop o).take m) := by
  have hl := S.len
  have hr := S.reads
  refine ⟨by simp; omega, by have := hr.2.1; omega, fun hm => ⟨_, rfl, fun j hj => ?_⟩⟩
  have h1 := S.elem (o + j) (by omega)
  have ea : (⟨g, o, none⟩ : Addr).add j = ⟨g, o + j, none⟩ := by unfold Addr.add; split <;> simp_all
  rw [ea, h1]
  congr 2
  simp [List.getD_eq_getElem?_getD, List.getElem?_take, List.getElem?_drop, hj]
end
/-! ### whatever a row of one's own holds -/
def RowA {α : Type} (d : Kd α) (e : Nat) (v : Value) (xs : List α) : Asn where
  H w F := d.R e w 0 F v xs ∧ ∀ k, F k → k < w.heap.size
  move := fun h hk => ⟨Kd.R_move h.1 hk, fun k hf => lt_move (h.2 k hf) (hk k hf)⟩
  lt := fun h => h.2
section
variable {w0 w w' : World} {α : Type} {d : Kd α} {e : Nat} {v : Value} {xs : List α} {R : List Asn}
theorem Sep.row_read {A : Option Addr} {n c : Nat} (S : Sep w0 w (RowA d e (.slice A n c) xs :: R)) : n = xs.length ∧ n ≤ c ∧ d.C w A xs.length xs := by
  obtain ⟨F, h, _⟩ := S.hd
  exact Kd.R_reads' h.1
theorem Sep.row_slice (S : Sep w0 w (RowA d e v xs :: R)) : ∃ A c, v = .slice A xs.length c := by
  obtain ⟨F, h, _⟩ := S.hd
  exact Kd.R_slice h.1
theorem Sep.row_come {ok : Nat → Prop} (S : Sep w0 w R) (b : Below w.heap.size w w') (h : d.R e w' w.heap.size ok v xs) : Sep w0 w' (RowA d e v xs :: R) :=
  S.new b (A := RowA d e v xs) (G := fun k => w.heap.size ≤ k ∧ k < w'.heap.size) ⟨Kd.R_lower (Kd.R_mono (Kd.R_bound h) fun k hk => ⟨hk.2.1, hk.2.2.1⟩) (Nat.zero_le _), fun k hk => hk.2⟩ fun k hk => hk.1
end
/-! ### many things as one -/
section
variable {w0 w : World} {l R : List Asn}
theorem Sep.openA (S : Sep w0 w (All l :: R)) : Sep w0 w (l ++ R) := by
  obtain ⟨G, h1, h2, h3⟩ := S.star
  exact ⟨S.bel, Star.join h2 h1.1 h3⟩
theorem Sep.closeA (S : Sep w0 w (l ++ R)) : Sep w0 w (All l :: R) := by
  obtain ⟨G, h1, h2, h3⟩ := S.star.split
  exact ⟨S.bel, fun k => G k ∧ k < w.heap.size, ⟨h2.lt, fun k hk => hk.2⟩, fun k hk => h1 k hk.1, h3.mono fun k hk => ⟨hk.1, fun q => hk.2 q.1⟩⟩
end
section
variable {w0 w : World} {A B C D E F G : Asn} {R : List Asn}
theorem Sep.p1 (S : Sep w0 w (A :: B :: R)) : Sep w0 w (B :: A :: R) := S.pull 1
theorem Sep.p2 (S : Sep w0 w (A :: B :: C :: R)) : Sep w0 w (C :: A :: B :: R) := S.pull 2
theorem Sep.p3 (S : Sep w0 w (A :: B :: C :: D :: R)) : Sep w0 w (D :: A :: B :: C :: R) := S.pull 3
theorem Sep.p4 (S : Sep w0 w (A :: B :: C :: D :: E :: R)) : Sep w0 w (E :: A :: B :: C :: D :: R) := S.pull 4
theorem Sep.p5 (S : Sep w0 w (A :: B :: C :: D :: E :: F :: R)) : Sep w0 w (F :: A :: B :: C :: D :: E :: R) := S.pull 5
theorem Sep.p6 (S : Sep w0 w (A :: B :: C :: D :: E :: F :: G :: R)) : Sep w0 w (G :: A :: B :: C :: D :: E :: F :: R) := S.pull 6
theorem Sep.d1 (S : Sep w0 w (A :: B :: R)) : Sep w0 w (A :: R) := (S.pull 1).drop
theorem Sep.d2 (S : Sep w0 w (A :: B :: C :: R)) : Sep w0 w (A :: B :: R) := (S.pull 2).drop
theorem Sep.d3 (S : Sep w0 w (A :: B :: C :: D :: R)) : Sep w0 w (A :: B :: C :: R) := (S.pull 3).drop
theorem Sep.d4 (S : Sep w0 w (A :: B :: C :: D :: E :: R)) : Sep w0 w (A :: B :: C :: D :: R) := (S.pull 4).drop
theorem Sep.d5 (S : Sep w0 w (A :: B :: C :: D :: E :: F :: R)) : Sep w0 w (A :: B :: C :: D :: E :: R) := (S.pull 5).drop
end
/-! ### something of a form, its parts unknown -/
def Ex {ι : Type} (P : ι → Prop) (f : ι → Asn) : Asn where
  H w F := ∃ i, P i ∧ (f i).H w F
  move := fun ⟨i, hp, h⟩ hk => ⟨i, hp, (f i).move h hk⟩
  lt := fun ⟨i, _, h⟩ => (f i).lt h
section
variable {w0 w : World} {ι : Type} {P : ι → Prop} {f : ι → Asn} {R : List Asn}
theorem Sep.openE (S : Sep w0 w (Ex P f :: R)) : ∃ i, P i ∧ Sep w0 w (f i :: R) := by
  obtain ⟨G, ⟨i, hp, h1⟩, h2, h3⟩ := S.star
  exact ⟨i, hp, S.bel, G, h1, h2, h3⟩
theorem Sep.closeE (i : ι) (hp : P i) (S : Sep w0 w (f i :: R)) : Sep w0 w (Ex P f :: R) := by
  obtain ⟨G, h1, h2, h3⟩ := S.star
  exact ⟨S.bel, G, ⟨i, hp, h1⟩, h2, h3⟩
end
end Go.Proofs.YtlhlmjkocmahmaaGreatDoor.Sep
