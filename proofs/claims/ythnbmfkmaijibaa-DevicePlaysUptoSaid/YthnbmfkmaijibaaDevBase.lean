/- A device in the world: what it holds, where it lies, what a change elsewhere leaves. -/
import Derived.Test.YthnbmfkmaijibaaLocks
import Derived.Test.YthnbmfkmaijibaaChg
import Derived.Test.YthnbmfkmaijibaaIMap
import Derived.Conc.MuLone
import Derived.Test.YthnbmfkmaijibaaWWords
import Derived.Test.YthnbmfkmaijibaaWLast
import Derived.Test.YthnbmfkmaijibaaWMore
import Derived.Below
import Derived.OwnWalk
import Derived.Laws.CopyOwn
namespace Go.Proofs.Ythnbmfkmaijibaa.Dev
open Go.Proofs Go.RowKit Go.Proofs.YthnbmfkmaijibaaW.PrintWords Go.Proofs.YthnbmfkmaijibaaW.PrintLast Go.Proofs.YthnbmfkmaijibaaW.PrintMore Go.Proofs.Ythnbmfkmaijibaa.IMap
set_option linter.unusedVariables false
set_option linter.unusedSimpArgs false
/-! ### 1. what a device is, without a world -/
structure DS where
  dur : List Int
  pend : List (Int × List Int)
  off : Bool
  fuse : Int
def DS.n (s : DS) : Nat := s.dur.length / 512
def DS.hasB (s : DS) (b : Int) : Bool := decide (0 ≤ b) && decide (b < (s.n : Int))
def DS.lastD (s : DS) (b : Int) : Option (List Int) := (s.pend.reverse.find? (fun x => x.1 == b)).map (·.2)
def DS.blk (s : DS) (b : Int) : List Int := (s.dur.drop (b.toNat * 512)).take 512
def DS.read (s : DS) (b : Int) : List Int × Int := if s.hasB b then (if s.off then ([], 3) else ((s.lastD b).getD (s.blk b), 0)) else ([], 52)
def DS.powered (s : DS) : Bool × DS := if s.off then (false, s) else if s.fuse > 0 then (!(s.fuse - 1 == 0), { s with fuse := s.fuse - 1, off := s.fuse - 1 == 0 }) else (true, s)
def DS.write (s : DS) (b : Int) (d : List Int) : Int × DS :=
  if s.hasB b then (if d.length = 512 then (if s.powered.1 then (0, { s.powered.2 with pend := s.powered.2.pend ++ [(b, d)] }) else (3, s.powered.2)) else (53, s)) else (52, s)
def lay (dur : List Int) (b : Int) (d : List Int) : List Int := splice dur (b.toNat * 512) d
def settled (keep : Nat → Bool) (ps : List (Int × List Int)) (dur : List Int) : Nat → List Int
  | 0 => dur
  | i + 1 => if keep i then lay (settled keep ps dur i) (ps.getD i (0, [])).1 (ps.getD i (0, [])).2 else settled keep ps dur i
def DS.settle (s : DS) (keep : Nat → Bool) : DS := { s with dur := settled keep s.pend s.dur s.pend.length, pend := [] }
def DS.flush (s : DS) : Int × DS := if s.powered.1 then (0, s.powered.2.settle fun _ => true) else (3, s.powered.2)
def DS.arm (s : DS) (k : Int) : Int × DS := if k < 0 then (1, s) else if s.off then (3, s) else (0, { s with fuse := k })
def DS.crash (s : DS) (keep : List Bool) : DS := { s.settle (fun i => keep.getD i false) with off := false, fuse := 0 }
structure DS.Ok (s : DS) : Prop where
  n0 : 1 ≤ s.n
  n1 : s.n ≤ 4096
  len : s.dur.length = 512 * s.n
  pend : ∀ x ∈ s.pend, 0 ≤ x.1 ∧ x.1 < (s.n : Int) ∧ x.2.length = 512
  fuse0 : 0 ≤ s.fuse
  fuse1 : s.fuse < 9223372036854775808
theorem hasB_iff {s : DS} {b : Int} : s.hasB b = true ↔ 0 ≤ b ∧ b < (s.n : Int) := by simp [DS.hasB]
theorem DS.Ok.powered {s : DS} (h : s.Ok) : s.powered.2.Ok := by
  have h0 := h.fuse0
  have h1 := h.fuse1
  unfold DS.powered
  split
  · exact h
  · split
    · exact ⟨h.n0, h.n1, h.len, h.pend, by simp; omega, by simp; omega⟩
    · exact h
theorem powered_dur (s : DS) : s.powered.2.dur = s.dur := by
  unfold DS.powered
  repeat' split
  all_goals rfl
theorem powered_pend (s : DS) : s.powered.2.pend = s.pend := by
  unfold DS.powered
  repeat' split
  all_goals rfl
theorem length_lay {dur : List Int} {b : Int} {d : List Int} {n : Nat} (hl : dur.length = 512 * n) (hb : 0 ≤ b ∧ b < (n : Int)) (hd : d.length = 512) : (lay dur b d).length = dur.length := by
  unfold lay
  exact length_splice _ _ _ (by omega)
theorem length_settled {keep : Nat → Bool} {ps : List (Int × List Int)} {dur : List Int} {n : Nat} (hl : dur.length = 512 * n) (hp : ∀ x ∈ ps, 0 ≤ x.1 ∧ x.1 < (n : Int) ∧ x.2.length = 512) :
    ∀ i, i ≤ ps.length → (settled keep ps dur i).length = dur.length := by
  intro i
  induction i with
  | zero => intro _; rfl
  | succ i ih =>
    intro hi
    have h1 := ih (by omega)
    unfold settled
    split
    · have h2 : ps.getD i (0, []) ∈ ps := by
        rw [List.getD_eq_getElem?_getD, List.getElem?_eq_getElem (by omega)]
        exact List.getElem_mem _
      obtain ⟨a, b, c⟩ := hp _ h2
      rw [length_lay (n := n) (by omega) ⟨a, b⟩ c, h1]
    · exact h1
theorem DS.Ok.settle {s : DS} (h : s.Ok) (keep : Nat → Bool) : (s.settle keep).Ok := by
  have hl : (s.settle keep).dur.length = s.dur.length := length_settled h.len h.pend _ (Nat.le_refl _)
  have hn : (s.settle keep).n = s.n := by unfold DS.n; rw [hl]
  exact ⟨by rw [hn]; exact h.n0, by rw [hn]; exact h.n1, by rw [hn, hl]; exact h.len, by simp [DS.settle], h.fuse0, h.fuse1⟩
/-! ### 2. where it lies -/
structure Lay where
  vd : Value
  vp : Value
  bm : Nat
  ps : List (Int × List Int × Value)
def pcells (ps : List (Int × List Int × Value)) : List Value := ps.flatMap fun x => [.int .i64 x.1, x.2.2]
def lastV (ps : List (Int × List Int × Value)) (b : Int) : Option Value := (ps.reverse.find? (fun x => x.1 == b)).map (·.2.2)
structure DevL (lk : Int) (w : World) (p : Nat) (s : DS) (F : Nat → Prop) (L : Lay) : Prop where
  cells : w.heap[p]? = some (.cells #[.int .i32 lk, .int .u32 0, L.vd, L.vp, .map (some L.bm), .bool s.off, .int .i64 s.fuse] 102 (0, 0))
  dur : w.ownsRow 0 5 1 L.vd s.dur.length (nums .u8 s.dur)
  pend : w.ownsRow 0 41 2 L.vp L.ps.length (pcells L.ps)
  pendIs : s.pend = L.ps.map fun x => (x.1, x.2.1)
  data : ∀ x ∈ L.ps, w.ownsRow 0 5 1 x.2.2 x.2.1.length (nums .u8 x.2.1)
  apart : ∀ x ∈ L.ps, x.2.2.ownBlock ≠ L.vd.ownBlock
  map : MapAt w L.bm (lastV L.ps)
  ok : s.Ok
  inp : F p
  inm : F L.bm
  ind : ∀ k, L.vd.ownBlock = some k → F k
  inq : ∀ k, L.vp.ownBlock = some k → F k
  inx : ∀ x ∈ L.ps, ∀ k, x.2.2.ownBlock = some k → F k
  lt : ∀ k, F k → k < w.heap.size
def Dev (w : World) (p : Nat) (s : DS) (F : Nat → Prop) : Prop := ∃ L, DevL 0 w p s F L
/-! ### 3. what changes elsewhere -/
theorem DevL.move {lk : Int} {w w' : World} {p : Nat} {s : DS} {F : Nat → Prop} {L : Lay} (h : DevL lk w p s F L) (hs : w.heap.size ≤ w'.heap.size) (hk : ∀ k, F k → w'.heap[k]? = w.heap[k]?) : DevL lk w' p s F L :=
  ⟨(hk p h.inp).trans h.cells, own_move h.dur fun k e => hk k (h.ind k e), own_move h.pend fun k e => hk k (h.inq k e), h.pendIs, fun x hx => own_move (h.data x hx) fun k e => hk k (h.inx x hx k e), h.apart,
    h.map.move (hk _ h.inm), h.ok, h.inp, h.inm, h.ind, h.inq, h.inx, fun k e => Nat.lt_of_lt_of_le (h.lt k e) hs⟩
theorem DevL.widen {lk : Int} {w : World} {p : Nat} {s : DS} {F G : Nat → Prop} {L : Lay} (h : DevL lk w p s F L) (hs : ∀ k, F k → G k) (hG : ∀ k, G k → k < w.heap.size) : DevL lk w p s G L :=
  ⟨h.cells, h.dur, h.pend, h.pendIs, h.data, h.apart, h.map, h.ok, hs _ h.inp, hs _ h.inm, fun k e => hs k (h.ind k e), fun k e => hs k (h.inq k e), fun x hx k e => hs k (h.inx x hx k e), hG⟩
theorem Dev.chg {w w' : World} {p : Nat} {s : DS} {F G : Nat → Prop} (h : Dev w p s F) (hc : Chg G w w') (hd : ∀ k, F k → ¬ G k) : Dev w' p s F := by
  obtain ⟨L, h⟩ := h
  exact ⟨L, h.move hc.size fun k hk => hc.block k (h.lt k hk) (hd k hk)⟩
theorem Dev.below {w w' : World} {p : Nat} {s : DS} {F : Nat → Prop} (h : Dev w p s F) (hc : Below w.heap.size w w') : Dev w' p s F := by
  obtain ⟨L, h⟩ := h
  exact ⟨L, h.move hc.size fun k hk => hc.block k (h.lt k hk)⟩
theorem Dev.lt {w : World} {p : Nat} {s : DS} {F : Nat → Prop} (h : Dev w p s F) : ∀ k, F k → k < w.heap.size := by
  obtain ⟨L, h⟩ := h
  exact h.lt
theorem Dev.ok {w : World} {p : Nat} {s : DS} {F : Nat → Prop} (h : Dev w p s F) : s.Ok := by
  obtain ⟨L, h⟩ := h
  exact h.ok
/-! ### 4. its own cells -/
theorem ne_of_typed {w : World} {p q : Nat} {cs cs' : Array Value} {t t' : TypeId} (h : w.heap[p]? = some (.cells cs t (0, 0))) (h' : w.heap[q]? = some (.cells cs' t' (0, 0))) (hne : t ≠ t') : p ≠ q := by
  rintro rfl
  rw [h] at h'
  injection h' with h'
  injection h' with _ h'
  exact hne h'
theorem own_off {w : World} {p : Nat} {cs : Array Value} {t : TypeId} (h : w.heap[p]? = some (.cells cs t (0, 0))) {base n size : Nat} {e : TypeId} {v : Value} {xs : List Value} (ho : w.ownsRow base e size v n xs) (hne : e ≠ t) : ∀ k, v.ownBlock = some k → k ≠ p := by
  intro k hk
  obtain ⟨c, hc⟩ := own_typed ho k hk
  exact ne_of_typed hc h hne
/-- A cell of the device's own block is written: the rest stays. -/
theorem DevL.cell {lk lk' : Int} {w : World} {p i : Nat} {s s' : DS} {F : Nat → Prop} {L L' : Lay} {v : Value} (h : DevL lk w p s F L)
    (hc : (#[.int .i32 lk, .int .u32 0, L.vd, L.vp, .map (some L.bm), .bool s.off, .int .i64 s.fuse] : Array Value).setIfInBounds i v = #[.int .i32 lk', .int .u32 0, L'.vd, L'.vp, .map (some L'.bm), .bool s'.off, .int .i64 s'.fuse])
    (hd : s'.dur = s.dur) (hp : s'.pend = s.pend) (hL : L' = L) (hok : s'.Ok) : DevL lk' (w.setCell ⟨p, i, none⟩ v) p s' F L' := by
  subst hL
  have ho : ∀ k, k ≠ p → (w.setCell ⟨p, i, none⟩ v).heap[k]? = w.heap[k]? := fun k hk => Below.heap_setCell w ⟨p, i, none⟩ v k hk
  refine ⟨by rw [heap_set h.cells, hc], ?_, own_move h.pend fun k e => ho k (own_off h.cells h.pend (by decide) k e), by rw [hp]; exact h.pendIs, fun x hx => own_move (h.data x hx) fun k e => ho k (own_off h.cells (h.data x hx) (by decide) k e), h.apart,
    h.map.move (ho _ ?_), hok, h.inp, h.inm, h.ind, h.inq, h.inx, fun k e => by have := h.lt k e; simpa [World.setCell] using this⟩
  · rw [hd]
    exact own_move h.dur fun k e => ho k (own_off h.cells h.dur (by decide) k e)
  · obtain ⟨es, c, h1, _⟩ := h.map
    rintro e
    rw [e, h.cells] at h1
    cases h1
theorem DevL.lock {lk lk' : Int} {w : World} {p : Nat} {s : DS} {F : Nat → Prop} {L : Lay} (h : DevL lk w p s F L) : DevL lk' (w.setCell ⟨p, 0, none⟩ (.int .i32 lk')) p s F L := h.cell rfl rfl rfl rfl h.ok
theorem DevL.chg0 {lk : Int} {w : World} {p : Nat} {s : DS} {F : Nat → Prop} {L : Lay} (h : DevL lk w p s F L) (v : Value) : Chg F w (w.setCell ⟨p, 0, none⟩ v) := Chg.set h.inp
theorem DevL.c0 {lk : Int} {w : World} {p : Nat} {s : DS} {F : Nat → Prop} {L : Lay} (h : DevL lk w p s F L) : w.cell? ⟨p, 0, none⟩ = some (.int .i32 lk) := (blk_cell h.cells 0).trans rfl
theorem DevL.c2 {lk : Int} {w : World} {p : Nat} {s : DS} {F : Nat → Prop} {L : Lay} (h : DevL lk w p s F L) : w.cell? ⟨p, 2, none⟩ = some L.vd := (blk_cell h.cells 2).trans rfl
theorem DevL.c3 {lk : Int} {w : World} {p : Nat} {s : DS} {F : Nat → Prop} {L : Lay} (h : DevL lk w p s F L) : w.cell? ⟨p, 3, none⟩ = some L.vp := (blk_cell h.cells 3).trans rfl
theorem DevL.c4 {lk : Int} {w : World} {p : Nat} {s : DS} {F : Nat → Prop} {L : Lay} (h : DevL lk w p s F L) : w.cell? ⟨p, 4, none⟩ = some (.map (some L.bm)) := (blk_cell h.cells 4).trans rfl
theorem DevL.c5 {lk : Int} {w : World} {p : Nat} {s : DS} {F : Nat → Prop} {L : Lay} (h : DevL lk w p s F L) : w.cell? ⟨p, 5, none⟩ = some (.bool s.off) := (blk_cell h.cells 5).trans rfl
theorem DevL.c6 {lk : Int} {w : World} {p : Nat} {s : DS} {F : Nat → Prop} {L : Lay} (h : DevL lk w p s F L) : w.cell? ⟨p, 6, none⟩ = some (.int .i64 s.fuse) := (blk_cell h.cells 6).trans rfl
theorem DevL.fz {lk : Int} {w : World} {p : Nat} {s : DS} {F : Nat → Prop} {L : Lay} (h : DevL lk w p s F L) (i : Nat) : w.frozen? ⟨p, i, none⟩ = false := blk_frozen h.cells i
/-- Where its bytes lie. -/
theorem DevL.vd_is {lk : Int} {w : World} {p : Nat} {s : DS} {F : Nat → Prop} {L : Lay} (h : DevL lk w p s F L) : ∃ g c, L.vd = .slice (some ⟨g, 0, none⟩) s.dur.length c := by
  obtain ⟨g, c, e, _⟩ := h.dur.form (by have := h.ok.len; have := h.ok.n0; omega)
  exact ⟨g, c, e⟩
end Go.Proofs.Ythnbmfkmaijibaa.Dev
