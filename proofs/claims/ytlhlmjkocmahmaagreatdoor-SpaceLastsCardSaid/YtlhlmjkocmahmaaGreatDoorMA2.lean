/- sync.Mutex in this translation: its functions and types. -/
import Derived.Test.YtlhlmjkocmahmaaGreatDoorProg
import Derived.Conc.MuLib
import Derived.Conc.MuData
import Derived.KernelRfl
import Derived.Maps.Keyed
import Derived.Maps.OwnSet
import Derived.Test.YtlhlmjkocmahmaaGreatDoorMA1
import Derived.Conc.MuLone
import Derived.Test.YtlhlmjkocmahmaaGreatDoorWWords
import Derived.Test.YtlhlmjkocmahmaaGreatDoorWLast
import Derived.Test.YtlhlmjkocmahmaaGreatDoorWMore
import Derived.Below
import Derived.OwnWalk
import Derived.Laws.CopyOwn
import Derived.WalkKit
import Derived.StillTailTactics
import Derived.Defers
import Derived.Lib.SliceRun
import Derived.Lib.Hide
import Derived.Deep.RegionHeld3
import Derived.Deep.DeepCutAuto
import Derived.Deep.DeepMust
import Derived.Deep.DeepFit
import Derived.Maps.AppendAt
import Derived.Deep.RegionLaw
namespace Go.Proofs.YtlhlmjkocmahmaaGreatDoor.Locks
open Go.Proofs
abbrev muLink : Go.Conc.Locks.MuLink := { lock := 77, unlock := 78, ilock := 99, iunlock := 100, lockSlow := 128, unlockSlow := 131, disable := 124, enable := 126, acquire := 127, relMerge := 129, cas32 := 125, add32 := 130, tMutex := 146, tIMutex := 144, tPMutex := 174, tPIMutex := 207, tPI32 := 209, tUP := 191, tNoCopy := 141, tU32 := 142 }
theorem muLib : Go.Conc.Locks.MuLib Tryz.prog muLink :=
  ⟨Tryz.func77, Tryz.func78, Tryz.func99, Tryz.func100, Tryz.func124, Tryz.func126, Tryz.func127, Tryz.func129, Tryz.func125, Tryz.func130,
   Tryz.underlying144, Tryz.runUnderlying144, Tryz.sizeOf144, Tryz.isAgg144, Tryz.zeroValue144,
   Tryz.underlying146, Tryz.runUnderlying146, Tryz.sizeOf146, Tryz.isAgg146, Tryz.zeroValue146,
   Tryz.underlying174, Tryz.runUnderlying174, Tryz.sizeOf174, Tryz.isAgg174, Tryz.zeroValue174,
   Tryz.underlying207, Tryz.runUnderlying207, Tryz.sizeOf207, Tryz.isAgg207, Tryz.zeroValue207,
   Tryz.underlying209, Tryz.runUnderlying209, Tryz.sizeOf209, Tryz.isAgg209, Tryz.zeroValue209,
   Tryz.underlying191, Tryz.runUnderlying191, Tryz.sizeOf191, Tryz.isAgg191, Tryz.zeroValue191,
   Tryz.underlying141, Tryz.runUnderlying141, Tryz.sizeOf141, Tryz.isAgg141, Tryz.zeroValue141,
   Tryz.underlying21, Tryz.runUnderlying21, Tryz.sizeOf21, Tryz.isAgg21, Tryz.zeroValue21, by kernel_rfl⟩
end Go.Proofs.YtlhlmjkocmahmaaGreatDoor.Locks
/- A map with int keys, as a function from its keys to its values; the laws of its operations. -/
namespace Go.Proofs.YtlhlmjkocmahmaaGreatDoor.IMap
open Go.Proofs Go.ChangeMaps Go.MapKept Go.Maps
/-- What the entries hold. -/
structure Holds (es : List MapEntry) (m : Int → Option Value) : Prop where
  keys : ∀ (i : Nat) (e : MapEntry), es[i]? = some e → ∃ a, e.key = .int .i64 a ∧ (Lit.int .i64 a).wf = true
  apart : ∀ (i j : Nat) (e f : MapEntry), es[i]? = some e → es[j]? = some f → e.key = f.key → i = j
  is : ∀ k v, m k = some v ↔ ∃ (i : Nat) (e : MapEntry), es[i]? = some e ∧ e.key = .int .i64 k ∧ e.val = v
theorem Holds.no {es : List MapEntry} {m : Int → Option Value} (h : Holds es m) {k : Int} (hk : ∀ e ∈ es, e.key ≠ .int .i64 k) : m k = none := by
  cases hm : m k with
  | none => rfl
  | some v =>
    obtain ⟨i, e, h1, h2, _⟩ := (h.is k v).1 hm
    exact absurd h2 (hk e (List.mem_of_getElem? h1))
def upd (m : Int → Option Value) (k : Int) (o : Option Value) : Int → Option Value := fun x => if x = k then o else m x
theorem Holds.nil : Holds [] fun _ => none := ⟨by simp, by simp, by simp⟩
theorem Holds.push {es : List MapEntry} {m : Int → Option Value} (h : Holds es m) {k : Int} (hw : (Lit.int .i64 k).wf = true) (hk : ∀ e ∈ es, e.key ≠ .int .i64 k) (v : Value) (b : Nat) : Holds (es ++ [⟨.int .i64 k, v, b⟩]) (upd m k (some v)) := by
  have hat : ∀ (i : Nat) (e : MapEntry), (es ++ [(⟨.int .i64 k, v, b⟩ : MapEntry)])[i]? = some e → (es[i]? = some e) ∨ (i = es.length ∧ e = ⟨.int .i64 k, v, b⟩) := by
    intro i e he
    rw [List.getElem?_append] at he
    split at he
    · exact .inl he
    · rename_i hlt
      have : i - es.length = 0 := by
        by_cases h0 : i - es.length = 0
        · exact h0
        · rw [List.getElem?_eq_none (by simp; omega)] at he; cases he
      rw [this] at he
      simp at he
      exact .inr ⟨by omega, he.symm⟩
  refine ⟨?_, ?_, ?_⟩
  · intro i e he
    rcases hat i e he with h1 | ⟨_, rfl⟩
    · exact h.keys i e h1
    · exact ⟨k, rfl, hw⟩
  · intro i j e f he hf hef
    rcases hat i e he with h1 | ⟨rfl, rfl⟩ <;> rcases hat j f hf with h2 | ⟨rfl, rfl⟩
    · exact h.apart i j e f h1 h2 hef
    · exact absurd hef (hk e (List.mem_of_getElem? h1))
    · exact absurd hef.symm (hk f (List.mem_of_getElem? h2))
    · rfl
  · intro k' v'
    unfold upd
    by_cases e : k' = k
    · subst e
      rw [if_pos rfl]
      constructor
      · intro hv
        cases hv
        exact ⟨es.length, ⟨.int .i64 k', v, b⟩, by simp, rfl, rfl⟩
      · rintro ⟨i, e, h1, h2, rfl⟩
        rcases hat i e h1 with h3 | ⟨rfl, rfl⟩
        · exact absurd h2 (hk e (List.mem_of_getElem? h3))
        · rfl
    · rw [if_neg e, h.is]
      constructor
      · rintro ⟨i, e, h1, h2, h3⟩
        exact ⟨i, e, by rw [List.getElem?_append_left (List.getElem?_eq_some_iff.1 h1).1]; exact h1, h2, h3⟩
      · rintro ⟨i, e', h1, h2, h3⟩
        rcases hat i e' h1 with h4 | ⟨rfl, rfl⟩
        · exact ⟨i, e', h4, h2, h3⟩
        · simp at h2; exact absurd h2.symm e
theorem Holds.modify {es : List MapEntry} {m : Int → Option Value} (h : Holds es m) {k : Int} (hw : (Lit.int .i64 k).wf = true) {j : Nat} {e0 : MapEntry} (hj : es[j]? = some e0) (hk : e0.key = .int .i64 k) (v : Value) :
    Holds (es.modify j fun e => { e with key := .int .i64 k, val := v }) (upd m k (some v)) := by
  have hat : ∀ (i : Nat) (e : MapEntry), (es.modify j fun e => { e with key := .int .i64 k, val := v })[i]? = some e → (i ≠ j ∧ es[i]? = some e) ∨ (i = j ∧ e.key = .int .i64 k ∧ e.val = v) := by
    intro i e he
    rw [List.getElem?_modify] at he
    by_cases hij : j = i
    · subst hij
      rw [hj] at he
      simp at he
      subst he
      exact .inr ⟨rfl, rfl, rfl⟩
    · simp [hij] at he
      exact .inl ⟨fun x => hij x.symm, he⟩
  have hother : ∀ (i : Nat) (e : MapEntry), i ≠ j → es[i]? = some e → e.key ≠ .int .i64 k := fun i e hi he hek => hi (h.apart i j e e0 he hj (hek.trans hk.symm))
  refine ⟨?_, ?_, ?_⟩
  · intro i e he
    rcases hat i e he with ⟨_, h1⟩ | ⟨_, h1, _⟩
    · exact h.keys i e h1
    · exact ⟨k, h1, hw⟩
  · intro i i' e f he hf hef
    rcases hat i e he with ⟨n1, h1⟩ | ⟨rfl, h1, _⟩ <;> rcases hat i' f hf with ⟨n2, h2⟩ | ⟨rfl, h2, _⟩
    · exact h.apart i i' e f h1 h2 hef
    · exact absurd (hef.trans h2) (hother i e n1 h1)
    · exact absurd (hef.symm.trans h1) (hother i' f n2 h2)
    · rfl
  · intro k' v'
    unfold upd
    by_cases e : k' = k
    · subst e
      rw [if_pos rfl]
      constructor
      · intro hv
        cases hv
        exact ⟨j, { e0 with key := .int .i64 k', val := v }, by rw [List.getElem?_modify, hj]; simp, rfl, rfl⟩
      · rintro ⟨i, e, h1, h2, rfl⟩
        rcases hat i e h1 with ⟨n1, h3⟩ | ⟨_, _, h3⟩
        · exact absurd h2 (hother i e n1 h3)
        · rw [h3]
    · rw [if_neg e, h.is]
      constructor
      · rintro ⟨i, e', h1, h2, h3⟩
        have hij : j ≠ i := by
          rintro rfl
          rw [hj] at h1
          cases h1
          rw [hk] at h2
          simp at h2
          exact e h2.symm
        exact ⟨i, e', by rw [List.getElem?_modify]; simp [hij]; exact h1, h2, h3⟩
      · rintro ⟨i, e', h1, h2, h3⟩
        rcases hat i e' h1 with ⟨_, h4⟩ | ⟨_, h4, _⟩
        · exact ⟨i, e', h4, h2, h3⟩
        · rw [h4] at h2; simp at h2; exact absurd h2.symm e
theorem Holds.erase {es : List MapEntry} {m : Int → Option Value} (h : Holds es m) {k : Int} {j : Nat} {e0 : MapEntry} (hj : es[j]? = some e0) (hk : e0.key = .int .i64 k) : Holds (es.eraseIdx j) (upd m k none) := by
  have hat : ∀ (i : Nat) (e : MapEntry), (es.eraseIdx j)[i]? = some e → es[if i < j then i else i + 1]? = some e := by
    intro i e he
    rw [List.getElem?_eraseIdx] at he
    split at he
    · rename_i hlt; rw [if_pos hlt]; exact he
    · rename_i hlt; rw [if_neg hlt]; exact he
  have hto : ∀ (i : Nat) (e : MapEntry), i ≠ j → es[i]? = some e → ∃ i' : Nat, (es.eraseIdx j)[i']? = some e := by
    intro i e hi he
    by_cases hlt : i < j
    · exact ⟨i, by rw [List.getElem?_eraseIdx, if_pos hlt]; exact he⟩
    · refine ⟨i - 1, ?_⟩
      rw [List.getElem?_eraseIdx, if_neg (by omega), show i - 1 + 1 = i by omega]
      exact he
  refine ⟨fun i e he => h.keys _ e (hat i e he), ?_, ?_⟩
  · intro i i' e f he hf hef
    have := h.apart _ _ e f (hat i e he) (hat i' f hf) hef
    split at this <;> split at this <;> omega
  · intro k' v'
    unfold upd
    by_cases e : k' = k
    · subst e
      rw [if_pos rfl]
      constructor
      · intro hv; cases hv
      · rintro ⟨i, e, h1, h2, rfl⟩
        have h3 := hat i e h1
        have := h.apart _ _ e e0 h3 hj (h2.trans hk.symm)
        split at this <;> omega
    · rw [if_neg e, h.is]
      constructor
      · rintro ⟨i, e', h1, h2, h3⟩
        have hij : i ≠ j := by
          rintro rfl
          rw [hj] at h1
          cases h1
          rw [hk] at h2
          simp at h2
          exact e h2.symm
        obtain ⟨i', h4⟩ := hto i e' hij h1
        exact ⟨i', e', h4, h2, h3⟩
      · rintro ⟨i, e', h1, h2, h3⟩
        exact ⟨_, e', hat i e' h1, h2, h3⟩
theorem Holds.none_upd {es : List MapEntry} {m : Int → Option Value} (h : Holds es m) {k : Int} (hk : ∀ e ∈ es, e.key ≠ .int .i64 k) : Holds es (upd m k none) := by
  have : upd m k none = m := by
    funext x
    unfold upd
    by_cases e : x = k
    · rw [if_pos e, e, h.no hk]
    · rw [if_neg e]
  rw [this]
  exact h

/-- Block b of the world is a map that holds m. -/
def MapAt (w : World) (b : Nat) (m : Int → Option Value) : Prop := ∃ es clock, w.heap[b]? = some (.map es clock) ∧ Holds es.toList m
theorem MapAt.move {w w1 : World} {b : Nat} {m : Int → Option Value} (h : MapAt w b m) (e : w1.heap[b]? = w.heap[b]?) : MapAt w1 b m := by
  obtain ⟨es, c, h1, h2⟩ := h
  exact ⟨es, c, e.trans h1, h2⟩
theorem MapAt.lt {w : World} {b : Nat} {m : Int → Option Value} (h : MapAt w b m) : b < w.heap.size := by
  obtain ⟨es, c, h1, h2⟩ := h
  exact (Array.getElem?_eq_some_iff.1 h1).1
theorem MapAt.new (w : World) : MapAt (w.alloc (.map #[] 0)) w.heap.size fun _ => none := ⟨#[], 0, (MapKept.heap_alloc w _).1, Holds.nil⟩
theorem keysOf {P : Program} {k : TypeId} (hk : P.underlying k = some (.int .i64)) {es : List MapEntry} {m : Int → Option Value} (h : Holds es m) : ∀ e ∈ es, ∃ l, keyOf P k e.key = some l := by
  intro e he
  obtain ⟨i, hi⟩ := List.getElem?_of_mem he
  obtain ⟨a, h1, h2⟩ := h.keys i e hi
  exact ⟨_, by rw [h1]; exact keyOf_int_mk hk h2⟩
section
variable {P : Program} {t k e : TypeId} {w : World} {b : Nat} {m : Int → Option Value}
/-- `v, ok := m[x]` -/
theorem MapAt.look (h : MapAt w b m) (ht : P.underlying t = some (.map k e)) (hk : P.underlying k = some (.int .i64)) {z : Value} (hz : (zeroValue e).run P w = .ok z w) {x : Int} (hx : (Lit.int .i64 x).wf = true) :
    (Instr.lookup t (.map (some b)) (.int .i64 x) true).run P w = .ok (.tuple #[(m x).getD z, .bool (m x).isSome]) w := by
  obtain ⟨es, c, hb, H⟩ := h
  have K := int_keyed hk
  have hkey := keyOf_int_mk hk hx
  rcases K.find w hkey es.toList (keysOf hk H) with ⟨h1, h2⟩ | ⟨j, e0, h1, h2, h3⟩
  · rw [H.no h2]
    simp [Instr.lookup, run_underlying ht, MapKept.run_getObj_map hb, K.check w _ hkey, h1, hz, Result.andThen]
  · rw [(H.is x e0.val).2 ⟨j, e0, h2, h3, rfl⟩]
    simp [Instr.lookup, run_underlying ht, MapKept.run_getObj_map hb, K.check w _ hkey, h1, Result.andThen]
/-- `m[x] = v` -/
theorem MapAt.store (h : MapAt w b m) (ht : P.underlying t = some (.map k e)) (hk : P.underlying k = some (.int .i64)) {x : Int} (hx : (Lit.int .i64 x).wf = true) (v : Value) :
    ∃ w', (Instr.mapUpdate t (.map (some b)) (.int .i64 x) v).run P w = .ok () w' ∧ MapAt w' b (upd m x (some v)) ∧ w'.os = w.os ∧ w'.tape = w.tape ∧ w'.output = w.output ∧ w'.heap.size = w.heap.size ∧ ∀ i, i ≠ b → w'.heap[i]? = w.heap[i]? := by
  obtain ⟨es, c, hb, H⟩ := h
  have K := int_keyed hk
  have hkey := keyOf_int_mk hk hx
  rcases K.find w hkey es.toList (keysOf hk H) with ⟨h1, h2⟩ | ⟨j, e0, h1, h2, h3⟩
  · refine ⟨setBlock w b (.map (es.push ⟨.int .i64 x, v, c⟩) (c + 1)), ?_, ⟨_, _, heap_setBlock_same hb _, ?_⟩, rfl, rfl, rfl, by simp [setBlock], fun i hi => heap_setBlock_other hb _ hi⟩
    · simp [Instr.mapUpdate, run_underlying ht, MapKept.run_getObj_map hb, K.check w false hkey, h1, MapKept.run_setObj_map _ hb, Result.andThen, setBlock]
    · rw [Array.toList_push]
      exact H.push hx h2 v c
  · have hj : es[j]? = some e0 := by simpa using h2
    refine ⟨setBlock w b (.map (es.modify j fun e => { e with key := .int .i64 x, val := v }) c), ?_, ⟨_, _, heap_setBlock_same hb _, ?_⟩, rfl, rfl, rfl, by simp [setBlock], fun i hi => heap_setBlock_other hb _ hi⟩
    · simp [Instr.mapUpdate, run_underlying ht, MapKept.run_getObj_map hb, K.check w false hkey, h1, hj, h3, K.stays w hkey, MapKept.run_setObj_map _ hb, Result.andThen, setBlock]
    · rw [Array.toList_modify]
      exact H.modify hx h2 h3 v
/-- `delete(m, x)` -/
theorem MapAt.drop (h : MapAt w b m) (ht : P.underlying t = some (.map k e)) (hk : P.underlying k = some (.int .i64)) {x : Int} (hx : (Lit.int .i64 x).wf = true) (ty : TypeId) :
    ∃ w', (Builtin.delete_ #[t, k] ty #[.map (some b), .int .i64 x]).run P w = .ok (.tuple #[]) w' ∧ MapAt w' b (upd m x none) ∧ w'.os = w.os ∧ w'.tape = w.tape ∧ w'.output = w.output ∧ w'.heap.size = w.heap.size ∧ ∀ i, i ≠ b → w'.heap[i]? = w.heap[i]? := by
  obtain ⟨es, c, hb, H⟩ := h
  have K := int_keyed hk
  have hkey := keyOf_int_mk hk hx
  rcases K.find w hkey es.toList (keysOf hk H) with ⟨h1, h2⟩ | ⟨j, e0, h1, h2, h3⟩
  · refine ⟨setBlock w b (.map es c), ?_, ⟨_, _, heap_setBlock_same hb _, H.none_upd h2⟩, rfl, rfl, rfl, by simp [setBlock], fun i hi => heap_setBlock_other hb _ hi⟩
    simp [Builtin.delete_, run_underlying ht, MapKept.run_getObj_map hb, K.check w _ hkey, h1, MapKept.run_setObj_map _ hb, Result.andThen, setBlock]
  · have hjl : j < es.toList.length := (List.getElem?_eq_some_iff.1 h2).1
    have hjs : j < es.size := by simpa using hjl
    have hsub : (es.eraseIdxIfInBounds j).toList = es.toList.eraseIdx j := by
      unfold Array.eraseIdxIfInBounds
      rw [dif_pos hjs]
      simp
    refine ⟨setBlock w b (.map (es.eraseIdxIfInBounds j) c), ?_, ⟨_, _, heap_setBlock_same hb _, ?_⟩, rfl, rfl, rfl, by simp [setBlock], fun i hi => heap_setBlock_other hb _ hi⟩
    · simp [Builtin.delete_, run_underlying ht, MapKept.run_getObj_map hb, K.check w _ hkey, h1, MapKept.run_setObj_map _ hb, Result.andThen, setBlock]
    · rw [hsub]
      exact H.erase h2 h3
end
theorem wpList_drop {P : Program} {w : World} {ops : Array Oper} {rest : List Oper} {o : Oper} {a : Act} {Q : Exit → Act → World → Prop} (hg : o.guard = none) (mo xo : Operand) (t k : TypeId)
    (hop : o.op = Op.call { callee := Callee.builtin Builtin.delete, args := #[mo, xo], argTypes := #[t, k] }) (e : TypeId) (ht : P.underlying t = some (.map k e)) (hk : P.underlying k = some (.int .i64)) (b : Nat) (m : Int → Option Value) (h : MapAt w b m) (x : Int) (hw : (Lit.int .i64 x).wf = true)
    (hm : a.eval mo = .map (some b)) (hx : a.eval xo = .int .i64 x)
    (hK : ∀ w', MapAt w' b (upd m x none) → w'.os = w.os → w'.tape = w.tape → w'.output = w.output → w'.heap.size = w.heap.size → (∀ i, i ≠ b → w'.heap[i]? = w.heap[i]?) → wpList P ops Q rest (a.put o.dst (.tuple #[])) w') :
    wpList P ops Q (o :: rest) a w := by
  refine wpList_plain hg fun K' hK' => ?_
  obtain ⟨w', hrun, r1, r2, r3, r4, r5, r6⟩ := h.drop ht hk hw o.type
  unfold Oper.wp
  simp [execOp, hop, resolve, invoke, builtin, hm, hx, hrun, Result.andThen]
  exact hK' _ _ (hK w' r1 r2 r3 r4 r5 r6)
end Go.Proofs.YtlhlmjkocmahmaaGreatDoor.IMap
/- A device in the world: what it holds, where it lies, what a change elsewhere leaves. -/
namespace Go.Proofs.YtlhlmjkocmahmaaGreatDoor.Dev
open Go.Proofs Go.RowKit Go.Proofs.YtlhlmjkocmahmaaGreatDoorW.PrintWords Go.Proofs.YtlhlmjkocmahmaaGreatDoorW.PrintLast Go.Proofs.YtlhlmjkocmahmaaGreatDoorW.PrintMore Go.Proofs.YtlhlmjkocmahmaaGreatDoor.IMap
set_option linter.unusedVariables false
set_option linter.unusedSimpArgs false
/-! ### 1. what a device is, without a world -/
structure DS where
  dur : List Int
  pend : List (Int × List Int)
  off : Bool
  fuse : Int
def DS.n (s : DS) : Nat := s.dur.length / 512
def DS.hasB (s : DS) (b : Int) : Bool := decide (0 ≤ b) && decide (b < (s.n : Int))
def DS.lastD (s : DS) (b : Int) : Option (List Int) := (s.pend.reverse.find? (fun x => x.1 == b)).map (·.2)
def DS.blk (s : DS) (b : Int) : List Int := (s.dur.drop (b.toNat * 512)).take 512
def DS.read (s : DS) (b : Int) : List Int × Int := if s.hasB b then (if s.off then ([], 3) else ((s.lastD b).getD (s.blk b), 0)) else ([], 52)
def DS.powered (s : DS) : Bool × DS := if s.off then (false, s) else if s.fuse > 0 then (!(s.fuse - 1 == 0), { s with fuse := s.fuse - 1, off := s.fuse - 1 == 0 }) else (true, s)
def DS.write (s : DS) (b : Int) (d : List Int) : Int × DS :=
  if s.hasB b then (if d.length = 512 then (if s.powered.1 then (0, { s.powered.2 with pend := s.powered.2.pend ++ [(b, d)] }) else (3, s.powered.2)) else (53, s)) else (52, s)
def lay (dur : List Int) (b : Int) (d : List Int) : List Int := splice dur (b.toNat * 512) d
def settled (keep : Nat → Bool) (ps : List (Int × List Int)) (dur : List Int) : Nat → List Int
  | 0 => dur
  | i + 1 => if keep i then lay (settled keep ps dur i) (ps.getD i (0, [])).1 (ps.getD i (0, [])).2 else settled keep ps dur i
def DS.settle (s : DS) (keep : Nat → Bool) : DS := { s with dur := settled keep s.pend s.dur s.pend.length, pend := [] }
def DS.flush (s : DS) : Int × DS := if s.powered.1 then (0, s.powered.2.settle fun _ => true) else (3, s.powered.2)
def DS.arm (s : DS) (k : Int) : Int × DS := if k < 0 then (1, s) else if s.off then (3, s) else (0, { s with fuse := k })
def DS.crash (s : DS) (keep : List Bool) : DS := { s.settle (fun i => keep.getD i false) with off := false, fuse := 0 }
structure DS.Ok (s : DS) : Prop where
  n0 : 1 ≤ s.n
  n1 : s.n ≤ 4096
  len : s.dur.length = 512 * s.n
  pend : ∀ x ∈ s.pend, 0 ≤ x.1 ∧ x.1 < (s.n : Int) ∧ x.2.length = 512
  fuse0 : 0 ≤ s.fuse
  fuse1 : s.fuse < 9223372036854775808
theorem hasB_iff {s : DS} {b : Int} : s.hasB b = true ↔ 0 ≤ b ∧ b < (s.n : Int) := by simp [DS.hasB]
theorem DS.Ok.powered {s : DS} (h : s.Ok) : s.powered.2.Ok := by
  have h0 := h.fuse0
  have h1 := h.fuse1
  unfold DS.powered
  split
  · exact h
  · split
    · exact ⟨h.n0, h.n1, h.len, h.pend, by simp; omega, by simp; omega⟩
    · exact h
theorem powered_dur (s : DS) : s.powered.2.dur = s.dur := by
  unfold DS.powered
  repeat' split
  all_goals rfl
theorem powered_pend (s : DS) : s.powered.2.pend = s.pend := by
  unfold DS.powered
  repeat' split
  all_goals rfl
theorem length_lay {dur : List Int} {b : Int} {d : List Int} {n : Nat} (hl : dur.length = 512 * n) (hb : 0 ≤ b ∧ b < (n : Int)) (hd : d.length = 512) : (lay dur b d).length = dur.length := by
  unfold lay
  exact length_splice _ _ _ (by omega)
theorem length_settled {keep : Nat → Bool} {ps : List (Int × List Int)} {dur : List Int} {n : Nat} (hl : dur.length = 512 * n) (hp : ∀ x ∈ ps, 0 ≤ x.1 ∧ x.1 < (n : Int) ∧ x.2.length = 512) :
    ∀ i, i ≤ ps.length → (settled keep ps dur i).length = dur.length := by
  intro i
  induction i with
  | zero => intro _; rfl
  | succ i ih =>
    intro hi
    have h1 := ih (by omega)
    unfold settled
    split
    · have h2 : ps.getD i (0, []) ∈ ps := by
        rw [List.getD_eq_getElem?_getD, List.getElem?_eq_getElem (by omega)]
        exact List.getElem_mem _
      obtain ⟨a, b, c⟩ := hp _ h2
      rw [length_lay (n := n) (by omega) ⟨a, b⟩ c, h1]
    · exact h1
theorem DS.Ok.settle {s : DS} (h : s.Ok) (keep : Nat → Bool) : (s.settle keep).Ok := by
  have hl : (s.settle keep).dur.length = s.dur.length := length_settled h.len h.pend _ (Nat.le_refl _)
  have hn : (s.settle keep).n = s.n := by unfold DS.n; rw [hl]
  exact ⟨by rw [hn]; exact h.n0, by rw [hn]; exact h.n1, by rw [hn, hl]; exact h.len, by simp [DS.settle], h.fuse0, h.fuse1⟩
/-! ### 2. where it lies -/
structure Lay where
  vd : Value
  vp : Value
  bm : Nat
  ps : List (Int × List Int × Value)
def pcells (ps : List (Int × List Int × Value)) : List Value := ps.flatMap fun x => [.int .i64 x.1, x.2.2]
def lastV (ps : List (Int × List Int × Value)) (b : Int) : Option Value := (ps.reverse.find? (fun x => x.1 == b)).map (·.2.2)
structure DevL (lk : Int) (w : World) (p : Nat) (s : DS) (F : Nat → Prop) (L : Lay) : Prop where
  cells : w.heap[p]? = some (.cells #[.int .i32 lk, .int .u32 0, L.vd, L.vp, .map (some L.bm), .bool s.off, .int .i64 s.fuse] 149 (0, 0))
  dur : w.ownsRow 0 5 1 L.vd s.dur.length (nums .u8 s.dur)
  pend : w.ownsRow 0 176 2 L.vp L.ps.length (pcells L.ps)
  pendIs : s.pend = L.ps.map fun x => (x.1, x.2.1)
  data : ∀ x ∈ L.ps, w.ownsRow 0 5 1 x.2.2 x.2.1.length (nums .u8 x.2.1)
  apart : ∀ x ∈ L.ps, x.2.2.ownBlock ≠ L.vd.ownBlock
  map : MapAt w L.bm (lastV L.ps)
  ok : s.Ok
  inp : F p
  inm : F L.bm
  ind : ∀ k, L.vd.ownBlock = some k → F k
  inq : ∀ k, L.vp.ownBlock = some k → F k
  inx : ∀ x ∈ L.ps, ∀ k, x.2.2.ownBlock = some k → F k
  lt : ∀ k, F k → k < w.heap.size
def Dev (w : World) (p : Nat) (s : DS) (F : Nat → Prop) : Prop := ∃ L, DevL 0 w p s F L
/-! ### 3. what changes elsewhere -/
theorem DevL.move {lk : Int} {w w' : World} {p : Nat} {s : DS} {F : Nat → Prop} {L : Lay} (h : DevL lk w p s F L) (hs : w.heap.size ≤ w'.heap.size) (hk : ∀ k, F k → w'.heap[k]? = w.heap[k]?) : DevL lk w' p s F L :=
  ⟨(hk p h.inp).trans h.cells, own_move h.dur fun k e => hk k (h.ind k e), own_move h.pend fun k e => hk k (h.inq k e), h.pendIs, fun x hx => own_move (h.data x hx) fun k e => hk k (h.inx x hx k e), h.apart,
    h.map.move (hk _ h.inm), h.ok, h.inp, h.inm, h.ind, h.inq, h.inx, fun k e => Nat.lt_of_lt_of_le (h.lt k e) hs⟩
theorem DevL.widen {lk : Int} {w : World} {p : Nat} {s : DS} {F G : Nat → Prop} {L : Lay} (h : DevL lk w p s F L) (hs : ∀ k, F k → G k) (hG : ∀ k, G k → k < w.heap.size) : DevL lk w p s G L :=
  ⟨h.cells, h.dur, h.pend, h.pendIs, h.data, h.apart, h.map, h.ok, hs _ h.inp, hs _ h.inm, fun k e => hs k (h.ind k e), fun k e => hs k (h.inq k e), fun x hx k e => hs k (h.inx x hx k e), hG⟩
theorem Dev.chg {w w' : World} {p : Nat} {s : DS} {F G : Nat → Prop} (h : Dev w p s F) (hc : Chg G w w') (hd : ∀ k, F k → ¬ G k) : Dev w' p s F := by
  obtain ⟨L, h⟩ := h
  exact ⟨L, h.move hc.size fun k hk => hc.block k (h.lt k hk) (hd k hk)⟩
theorem Dev.below {w w' : World} {p : Nat} {s : DS} {F : Nat → Prop} (h : Dev w p s F) (hc : Below w.heap.size w w') : Dev w' p s F := by
  obtain ⟨L, h⟩ := h
  exact ⟨L, h.move hc.size fun k hk => hc.block k (h.lt k hk)⟩
theorem Dev.lt {w : World} {p : Nat} {s : DS} {F : Nat → Prop} (h : Dev w p s F) : ∀ k, F k → k < w.heap.size := by
  obtain ⟨L, h⟩ := h
  exact h.lt
theorem Dev.ok {w : World} {p : Nat} {s : DS} {F : Nat → Prop} (h : Dev w p s F) : s.Ok := by
  obtain ⟨L, h⟩ := h
  exact h.ok
/-! ### 4. its own cells -/
theorem ne_of_typed {w : World} {p q : Nat} {cs cs' : Array Value} {t t' : TypeId} (h : w.heap[p]? = some (.cells cs t (0, 0))) (h' : w.heap[q]? = some (.cells cs' t' (0, 0))) (hne : t ≠ t') : p ≠ q := by
  rintro rfl
  rw [h] at h'
  injection h' with h'
  injection h' with _ h'
  exact hne h'
theorem own_off {w : World} {p : Nat} {cs : Array Value} {t : TypeId} (h : w.heap[p]? = some (.cells cs t (0, 0))) {base n size : Nat} {e : TypeId} {v : Value} {xs : List Value} (ho : w.ownsRow base e size v n xs) (hne : e ≠ t) : ∀ k, v.ownBlock = some k → k ≠ p := by
  intro k hk
  obtain ⟨c, hc⟩ := own_typed ho k hk
  exact ne_of_typed hc h hne
/-- A cell of the device's own block is written: the rest stays. -/
theorem DevL.cell {lk lk' : Int} {w : World} {p i : Nat} {s s' : DS} {F : Nat → Prop} {L L' : Lay} {v : Value} (h : DevL lk w p s F L)
    (hc : (#[.int .i32 lk, .int .u32 0, L.vd, L.vp, .map (some L.bm), .bool s.off, .int .i64 s.fuse] : Array Value).setIfInBounds i v = #[.int .i32 lk', .int .u32 0, L'.vd, L'.vp, .map (some L'.bm), .bool s'.off, .int .i64 s'.fuse])
    (hd : s'.dur = s.dur) (hp : s'.pend = s.pend) (hL : L' = L) (hok : s'.Ok) : DevL lk' (w.setCell ⟨p, i, none⟩ v) p s' F L' := by
  subst hL
  have ho : ∀ k, k ≠ p → (w.setCell ⟨p, i, none⟩ v).heap[k]? = w.heap[k]? := fun k hk => Below.heap_setCell w ⟨p, i, none⟩ v k hk
  refine ⟨by rw [heap_set h.cells, hc], ?_, own_move h.pend fun k e => ho k (own_off h.cells h.pend (by decide) k e), by rw [hp]; exact h.pendIs, fun x hx => own_move (h.data x hx) fun k e => ho k (own_off h.cells (h.data x hx) (by decide) k e), h.apart,
    h.map.move (ho _ ?_), hok, h.inp, h.inm, h.ind, h.inq, h.inx, fun k e => by have := h.lt k e; simpa [World.setCell] using this⟩
  · rw [hd]
    exact own_move h.dur fun k e => ho k (own_off h.cells h.dur (by decide) k e)
  · obtain ⟨es, c, h1, _⟩ := h.map
    rintro e
    rw [e, h.cells] at h1
    cases h1
theorem DevL.lock {lk lk' : Int} {w : World} {p : Nat} {s : DS} {F : Nat → Prop} {L : Lay} (h : DevL lk w p s F L) : DevL lk' (w.setCell ⟨p, 0, none⟩ (.int .i32 lk')) p s F L := h.cell rfl rfl rfl rfl h.ok
theorem DevL.chg0 {lk : Int} {w : World} {p : Nat} {s : DS} {F : Nat → Prop} {L : Lay} (h : DevL lk w p s F L) (v : Value) : Chg F w (w.setCell ⟨p, 0, none⟩ v) := Chg.set h.inp
theorem DevL.c0 {lk : Int} {w : World} {p : Nat} {s : DS} {F : Nat → Prop} {L : Lay} (h : DevL lk w p s F L) : w.cell? ⟨p, 0, none⟩ = some (.int .i32 lk) := (blk_cell h.cells 0).trans rfl
theorem DevL.c2 {lk : Int} {w : World} {p : Nat} {s : DS} {F : Nat → Prop} {L : Lay} (h : DevL lk w p s F L) : w.cell? ⟨p, 2, none⟩ = some L.vd := (blk_cell h.cells 2).trans rfl
theorem DevL.c3 {lk : Int} {w : World} {p : Nat} {s : DS} {F : Nat → Prop} {L : Lay} (h : DevL lk w p s F L) : w.cell? ⟨p, 3, none⟩ = some L.vp := (blk_cell h.cells 3).trans rfl
theorem DevL.c4 {lk : Int} {w : World} {p : Nat} {s : DS} {F : Nat → Prop} {L : Lay} (h : DevL lk w p s F L) : w.cell? ⟨p, 4, none⟩ = some (.map (some L.bm)) := (blk_cell h.cells 4).trans rfl
theorem DevL.c5 {lk : Int} {w : World} {p : Nat} {s : DS} {F : Nat → Prop} {L : Lay} (h : DevL lk w p s F L) : w.cell? ⟨p, 5, none⟩ = some (.bool s.off) := (blk_cell h.cells 5).trans rfl
theorem DevL.c6 {lk : Int} {w : World} {p : Nat} {s : DS} {F : Nat → Prop} {L : Lay} (h : DevL lk w p s F L) : w.cell? ⟨p, 6, none⟩ = some (.int .i64 s.fuse) := (blk_cell h.cells 6).trans rfl
theorem DevL.fz {lk : Int} {w : World} {p : Nat} {s : DS} {F : Nat → Prop} {L : Lay} (h : DevL lk w p s F L) (i : Nat) : w.frozen? ⟨p, i, none⟩ = false := blk_frozen h.cells i
/-- Where its bytes lie. -/
theorem DevL.vd_is {lk : Int} {w : World} {p : Nat} {s : DS} {F : Nat → Prop} {L : Lay} (h : DevL lk w p s F L) : ∃ g c, L.vd = .slice (some ⟨g, 0, none⟩) s.dur.length c := by
  obtain ⟨g, c, e, _⟩ := h.dur.form (by have := h.ok.len; have := h.ok.n0; omega)
  exact ⟨g, c, e⟩
end Go.Proofs.YtlhlmjkocmahmaaGreatDoor.Dev
/- The methods of a device: contracts. -/
namespace Go.Proofs.YtlhlmjkocmahmaaGreatDoor.Dev
open Go.Proofs Go.RowKit Go.Proofs.YtlhlmjkocmahmaaGreatDoorW.PrintWords Go.Proofs.YtlhlmjkocmahmaaGreatDoorW.PrintLast Go.Proofs.YtlhlmjkocmahmaaGreatDoorW.PrintMore Go.Proofs.YtlhlmjkocmahmaaGreatDoor.IMap Go.Proofs.YtlhlmjkocmahmaaGreatDoor.Locks
set_option linter.unusedVariables false
set_option linter.unusedSimpArgs false
theorem n_is {s : DS} (h : s.Ok) : Int.tdiv (s.dur.length : Int) 512 = (s.n : Int) := by
  have := h.len
  rw [Int.tdiv_eq_ediv_of_nonneg (by omega)]
  unfold DS.n
  omega
theorem size_in {lk : Int} {w : World} {p : Nat} {s : DS} {F : Nat → Prop} {L : Lay} (h : DevL lk w p s F L) : Calls Tryz.prog 102 #[.pointer (some ⟨p, 0, none⟩)] w fun e w' => e = .returned (.int .i64 (s.n : Int)) ∧ w' = w := by
  obtain ⟨g, c, e⟩ := h.vd_is
  have c2 := h.c2
  rw [e] at c2
  have hn := n_is h.ok
  go_enter Tryz.func102, Tryz.ntmps102
  go_wp2
  go_ret
  have := h.ok.n1
  exact ⟨by simp [wrap64]; omega, rfl⟩
theorem has_in {lk : Int} {w : World} {p : Nat} {s : DS} {F : Nat → Prop} {L : Lay} (h : DevL lk w p s F L) (b : Int) : Calls Tryz.prog 103 #[.pointer (some ⟨p, 0, none⟩), .int .i64 b] w fun e w' => e = .returned (.bool (s.hasB b)) ∧ w' = w := by
  go_enter Tryz.func103, Tryz.ntmps103
  by_cases h0 : 0 ≤ b
  · go_wp2_with (go_at_call 102; refine (size_in h).mono ?_; rintro e w' ⟨rfl, rfl⟩)
    go_ret
    exact ⟨by simp [DS.hasB, h0], rfl⟩
  · go_wp2
    go_ret
    exact ⟨by simp [DS.hasB]; omega, rfl⟩
theorem powered_in {lk : Int} {w : World} {p : Nat} {s : DS} {F : Nat → Prop} {L : Lay} (h : DevL lk w p s F L) : Calls Tryz.prog 113 #[.pointer (some ⟨p, 0, none⟩)] w fun e w' => e = .returned (.bool s.powered.1) ∧ DevL lk w' p s.powered.2 F L ∧ Chg F w w' := by
  have c5 := h.c5
  have c6 := h.c6
  have f5 := h.fz 5
  have f6 := h.fz 6
  have h0 := h.ok.fuse0
  have h1 := h.ok.fuse1
  go_enter Tryz.func113, Tryz.ntmps113
  cases ho : s.off with
  | true =>
    rw [ho] at c5
    go_wp2
    go_ret
    have e : s.powered = (false, s) := by simp [DS.powered, ho]
    rw [e]
    exact ⟨rfl, h, Chg.refl _ _⟩
  | false =>
    rw [ho] at c5
    by_cases hf : s.fuse > 0
    · have hw : IntKind.i64.wrap (s.fuse - 1) = s.fuse - 1 := by rw [IntKind.wrap_i64]; omega
      go_wp2
      go_ret
      have e : s.powered = (!(s.fuse - 1 == 0), { s with fuse := s.fuse - 1, off := s.fuse - 1 == 0 }) := by simp [DS.powered, ho, hf]
      rw [e]
      refine ⟨rfl, (h.cell (s' := { s with fuse := s.fuse - 1 }) (i := 6) rfl rfl rfl rfl ?_).cell (i := 5) ?_ rfl rfl rfl ?_, (Chg.set h.inp).trans (Chg.set h.inp)⟩
      · exact ⟨h.ok.n0, h.ok.n1, h.ok.len, h.ok.pend, by simp; omega, by simp; omega⟩
      · rfl
      · exact ⟨h.ok.n0, h.ok.n1, h.ok.len, h.ok.pend, by simp; omega, by simp; omega⟩
    · go_wp2
      go_ret
      have e : s.powered = (true, s) := by unfold DS.powered; rw [ho, if_neg (by simp), if_neg (by omega)]
      rw [e]
      exact ⟨rfl, h, Chg.refl _ _⟩
theorem info5 : (Tryz.prog.info? 5).map (fun i => (i.zero, i.size, i.bytes)) = some (some (.int .u8 0), 1, 1) := by kernel_rfl
set_option maxRecDepth 100000 in
theorem clone_any (w : World) (A : Option Addr) (c : Nat) (l : List Int) (hr : ReadsInt w .u8 A l.length l) (hn : l.length ≤ 140737488355328) : Calls Tryz.prog 76 #[.slice A l.length c] w fun e w' => ∃ v : Value, e = .returned v ∧ w'.ownsRow w.heap.size 5 1 v l.length (nums .u8 l) ∧ Below w.heap.size w w' := by
  have he := fun (W : World) (a : Option Addr) (n c : Nat) => Go.Lib.run_eql_slice_nil (P := Tryz.prog) W 57 5 a n c 0 0 Tryz.underlying57
  go_enter Tryz.func76, Tryz.ntmps76
  cases A with
  | none =>
    have h0 : l.length = 0 := by
      have := hr.2.2
      by_cases h : 0 < l.length
      · obtain ⟨ad, e, _⟩ := this h
        cases e
      · omega
    obtain rfl := List.length_eq_zero_iff.1 h0
    go_wp2
    go_ret
    exact ⟨_, rfl, own_nil _ _ _ _, Below.refl _ _⟩
  | some ad =>
    have hr2 := fun o => ReadsInt.allocS hr o
    have HO : ∀ o : Array Value, o.size = 0 → (w.alloc (.cells o 5)).ownsRow w.heap.size 5 1 (.slice (some ⟨w.heap.size, 0, none⟩) 0 0) ([] : List Int).length (nums .u8 []) := fun o ho => World.ownsRow_made w o 0 (Nat.le_refl _) (by simp) (by simpa using ho)
    go_wp2_with ((with_reducible refine gate_builtin (b := .append) (xs := #[.tmp 5, .tmp 6]) rfl ?_); at_builtin; go_must (refine print_append_row (w0 := w) w.heap.size rfl (.tmp 5) (.tmp 6) 57 5 .u8 1 rfl Tryz.underlying57 info5 (by decide) _ ([] : List Int) l (some ad) l.length c rfl rfl ?aO ?aR ?aB ?aS ?aL ?_); (case aO => exact HO _ rfl); (case aR => exact hr2 _); (case aB => exact below_alloc (Below.refl _ _) _); (case aS => simp [World.size_alloc]); (case aL => simp; omega); intro v1 w1 hown hB2 hg2 hat)
    go_ret
    exact ⟨_, rfl, hown, hB2⟩
theorem clone_n (w : World) (A : Option Addr) (n c : Nat) (l : List Int) (hl : l.length = n) (hr : ReadsInt w .u8 A l.length l) (hn : l.length ≤ 140737488355328) : Calls Tryz.prog 76 #[.slice A n c] w fun e w' => ∃ v : Value, e = .returned v ∧ w'.ownsRow w.heap.size 5 1 v l.length (nums .u8 l) ∧ Below w.heap.size w w' := by
  subst hl
  exact clone_any w A c l hr hn
/-! ### Power, Arm, Durable -/
theorem power_any {w : World} {p : Nat} {s : DS} {F : Nat → Prop} (h : Dev w p s F) : Calls Tryz.prog 90 #[.pointer (some ⟨p, 0, none⟩)] w fun e w' => e = .returned (.bool (!s.off)) ∧ Dev w' p s F ∧ Chg F w w' := by
  obtain ⟨L, h⟩ := h
  go_enter_defers Tryz.func90, Tryz.ntmps90
  go_wp2_with fail
  refine (Go.MuLone.lock_free muLib ⟨p, 0, none⟩ _ h.c0 (h.fz 0)).mono ?_
  rintro e w1 ⟨rfl, hw1⟩
  have h1 : DevL 1 w1 p s F L := by rw [hw1]; exact h.lock
  have k1 : Chg F w w1 := by rw [hw1]; exact Chg.set h.inp
  clear hw1
  have c5 := h1.c5
  go_wp2
  refine leaves_cons (f := 78) (args := #[.pointer (some ⟨p, 0, none⟩)]) (by simp) (by simp [go_sem]) ?_
  refine (Go.MuLone.unlock_deferred muLib ⟨p, 0, none⟩ .returning _ h1.c0 (h1.fz 0)).mono ?_
  rintro e u2 w2 ⟨rfl, rfl, hw2⟩
  have h2 := h1.lock (lk' := 0)
  rw [← hw2] at h2
  have k2 := h1.chg0 (.int .i32 0)
  rw [← hw2] at k2
  clear hw2
  exact ⟨_, results_tmp rfl _ _ _, rfl, ⟨_, h2⟩, k1.trans k2⟩
theorem durable_any {w : World} {p : Nat} {s : DS} {F : Nat → Prop} (h : Dev w p s F) : Calls Tryz.prog 42 #[.pointer (some ⟨p, 0, none⟩)] w fun e w' => ∃ v, e = .returned v ∧ w'.ownsRow w.heap.size 5 1 v s.dur.length (nums .u8 s.dur) ∧ Dev w' p s F ∧ Chg F w w' := by
  obtain ⟨L, h⟩ := h
  go_enter_defers Tryz.func42, Tryz.ntmps42
  go_wp2_with fail
  refine (Go.MuLone.lock_free muLib ⟨p, 0, none⟩ _ h.c0 (h.fz 0)).mono ?_
  rintro e w1 ⟨rfl, hw1⟩
  have h1 : DevL 1 w1 p s F L := by rw [hw1]; exact h.lock
  have k1 : Chg F w w1 := by rw [hw1]; exact Chg.set h.inp
  clear hw1
  obtain ⟨g, c, e⟩ := h.vd_is
  have c2 := h1.c2
  rw [e] at c2
  have hd := h1.dur
  rw [e] at hd
  have hr := own_reads' hd
  have hn : s.dur.length ≤ 140737488355328 := by have := h.ok.len; have := h.ok.n1; omega
  go_wp2_with (go_at_call 76; refine (clone_any _ _ _ _ hr hn).mono ?_; rintro e w3 ⟨v, rfl, ho, hb⟩)
  have h3 : DevL 1 w3 p s F L := h1.move hb.size fun k hk => hb.block k (h1.lt k hk)
  refine leaves_cons (f := 78) (args := #[.pointer (some ⟨p, 0, none⟩)]) (by simp) (by simp [go_sem]) ?_
  refine (Go.MuLone.unlock_deferred muLib ⟨p, 0, none⟩ .returning _ h3.c0 (h3.fz 0)).mono ?_
  rintro e u2 w2 ⟨rfl, rfl, hw2⟩
  have h2 := h3.lock (lk' := 0)
  rw [← hw2] at h2
  have k2 := h3.chg0 (.int .i32 0)
  rw [← hw2] at k2
  clear hw2
  refine ⟨_, results_tmp rfl _ _ _, v, rfl, ?_, ⟨_, h2⟩, (k1.trans (Chg.ofBelow hb)).trans k2⟩
  have hsz := k1.size
  refine own_weaken (own_move ho fun k hk => k2.block k (own_lt ho k hk) fun hF => ?_) hsz
  have := own_base ho k hk
  have := h1.lt k hF
  omega
/-! ### block, Read -/
theorem blk_len {s : DS} (h : s.Ok) {b : Int} (hb : 0 ≤ b ∧ b < (s.n : Int)) : (s.blk b).length = 512 := by
  have := h.len
  simp [DS.blk]
  omega
theorem block_in {lk : Int} {w : World} {p : Nat} {s : DS} {F : Nat → Prop} {L : Lay} (h : DevL lk w p s F L) (b : Int) (hb : 0 ≤ b ∧ b < (s.n : Int)) :
    Calls Tryz.prog 101 #[.pointer (some ⟨p, 0, none⟩), .int .i64 b] w fun e w' => (∃ g c, L.vd = .slice (some ⟨g, 0, none⟩) s.dur.length c ∧ e = .returned (.slice (some ⟨g, b.toNat * 512, none⟩) 512 (c - b.toNat * 512))) ∧ w' = w := by
  obtain ⟨g, c, e⟩ := h.vd_is
  have c2 := h.c2
  rw [e] at c2
  have hl := h.ok.len
  have hn1 := h.ok.n1
  have hw1 : IntKind.i64.wrap (b * 512) = b * 512 := by rw [IntKind.wrap_i64]; omega
  have hw2 : IntKind.i64.wrap (b + 1) = b + 1 := by rw [IntKind.wrap_i64]; omega
  have hw3 : IntKind.i64.wrap ((b + 1) * 512) = (b + 1) * 512 := by rw [IntKind.wrap_i64]; omega
  have hd := h.dur
  rw [e] at hd
  have hcap : s.dur.length ≤ c := own_cap hd
  have hs1 : (0 : Int) ≤ (b + 1) * 512 := by omega
  have hs2 : (b + 1) * 512 ≤ (c : Int) := by omega
  have hs3 : (0 : Int) ≤ b * 512 := by omega
  have hs4 : b * 512 ≤ (((b + 1) * 512).toNat : Int) := by omega
  have hs5 : ¬ c = (b * 512).toNat := by omega
  have hs6 : ((b + 1) * 512).toNat - b.toNat * 512 = 512 := by omega
  have hs7 : (b * 512).toNat = b.toNat * 512 := by omega
  go_enter Tryz.func101, Tryz.ntmps101
  go_wp2
  go_ret
  exact ⟨⟨g, c, e, rfl⟩, rfl⟩
theorem wf_of {b : Int} (h1 : -9223372036854775808 ≤ b) (h2 : b < 9223372036854775808) : (Lit.int .i64 b).wf = true := by
  have e1 : IntKind.i64.min = -9223372036854775808 := by decide
  have e2 : IntKind.i64.max = 9223372036854775807 := by decide
  simp [Lit.wf, e1, e2]
  omega
theorem lastV_mem {ps : List (Int × List Int × Value)} {b : Int} {v : Value} (h : lastV ps b = some v) : ∃ x ∈ ps, x.1 = b ∧ x.2.2 = v := by
  unfold lastV at h
  cases hf : ps.reverse.find? (fun x => x.1 == b) with
  | none => rw [hf] at h; cases h
  | some x =>
    rw [hf] at h
    simp at h
    have h1 := List.find?_some hf
    have h2 := List.mem_of_find?_eq_some hf
    exact ⟨x, by simpa using h2, by simpa using h1, h⟩
theorem lastD_is {s : DS} {ps : List (Int × List Int × Value)} (hp : s.pend = ps.map fun x => (x.1, x.2.1)) (b : Int) : s.lastD b = (ps.reverse.find? (fun x => x.1 == b)).map (·.2.1) := by
  unfold DS.lastD
  rw [hp, ← List.map_reverse, List.find?_map]
  simp [Function.comp_def]
theorem blk_reads {lk : Int} {w : World} {p : Nat} {s : DS} {F : Nat → Prop} {L : Lay} (h : DevL lk w p s F L) {b : Int} (hb : 0 ≤ b ∧ b < (s.n : Int)) {g c : Nat} (e : L.vd = .slice (some ⟨g, 0, none⟩) s.dur.length c) :
    ReadsInt w .u8 (some ⟨g, b.toNat * 512, none⟩) (s.blk b).length (s.blk b) := by
  have hl := h.ok.len
  have hlen := blk_len h.ok hb
  have hd := h.dur
  rw [e] at hd
  have hr := own_reads' hd
  refine ⟨rfl, by omega, fun _ => ⟨_, rfl, fun j hj => ?_⟩⟩
  obtain ⟨ad, ea, hc⟩ := hr.2.2 (by omega)
  cases ea
  have := hc (b.toNat * 512 + j) (by omega)
  rw [add_plain] at this
  have ea : (⟨g, b.toNat * 512, none⟩ : Addr).add j = ⟨g, b.toNat * 512 + j, none⟩ := by unfold Addr.add; split <;> simp_all
  rw [ea, this]
  have e1 : (s.blk b).getD j 0 = s.dur.getD (b.toNat * 512 + j) 0 := by
    simp [DS.blk, List.getD_eq_getElem?_getD, List.getElem?_take, List.getElem?_drop]
    rw [if_pos (by omega)]
  rw [e1]
theorem last_both {ps : List (Int × List Int × Value)} {b : Int} {v : Value} (h : lastV ps b = some v) : ∃ x ∈ ps, x.2.2 = v ∧ ps.reverse.find? (fun x => x.1 == b) = some x := by
  unfold lastV at h
  cases hf : ps.reverse.find? (fun x => x.1 == b) with
  | none => rw [hf] at h; cases h
  | some x =>
    rw [hf] at h
    simp at h
    have h2 := List.mem_of_find?_eq_some hf
    exact ⟨x, by simpa using h2, h, rfl⟩
theorem own_fresh {lk : Int} {w w1 w4 w2 : World} {p n : Nat} {s : DS} {F : Nat → Prop} {L : Lay} {v : Value} {xs : List Value} (h1 : DevL lk w1 p s F L) (ho : w4.ownsRow w1.heap.size 5 1 v n xs) (hsz : w.heap.size ≤ w1.heap.size) (k2 : Chg F w4 w2) : w2.ownsRow w.heap.size 5 1 v n xs := by
  refine own_weaken (own_move ho fun k hk => k2.block k (own_lt ho k hk) fun hF => ?_) hsz
  have := own_base ho k hk
  have := h1.lt k hF
  omega
set_option maxHeartbeats 1000000 in
theorem read_any {w : World} {p : Nat} {s : DS} {F : Nat → Prop} (h : Dev w p s F) (b : Int) : Calls Tryz.prog 82 #[.pointer (some ⟨p, 0, none⟩), .int .i64 b] w fun e w' => ∃ v, e = .returned (.tuple #[v, .int .i64 (s.read b).2]) ∧ w'.ownsRow w.heap.size 5 1 v (s.read b).1.length (nums .u8 (s.read b).1) ∧ Dev w' p s F ∧ Chg F w w' := by
  obtain ⟨L, h⟩ := h
  go_enter_defers Tryz.func82, Tryz.ntmps82
  go_wp2_with fail
  refine (Go.MuLone.lock_free muLib ⟨p, 0, none⟩ _ h.c0 (h.fz 0)).mono ?_
  rintro e w1 ⟨rfl, hw1⟩
  have h1 : DevL 1 w1 p s F L := by rw [hw1]; exact h.lock
  have k1 : Chg F w w1 := by rw [hw1]; exact Chg.set h.inp
  clear hw1
  have hsz := k1.size
  have c5 := h1.c5
  have c4 := h1.c4
  cases hb : s.hasB b with
  | false =>
    have e : s.read b = ([], 52) := by simp [DS.read, hb]
    go_wp2_with (go_at_call 103; refine (has_in h1 b).mono ?_; rw [hb]; rintro e w3 ⟨rfl, rfl⟩)
    refine leaves_cons (f := 78) (args := #[.pointer (some ⟨p, 0, none⟩)]) (by simp) (by simp [go_sem]) ?_
    refine (Go.MuLone.unlock_deferred muLib ⟨p, 0, none⟩ .returning _ h1.c0 (h1.fz 0)).mono ?_
    rintro e u2 w2 ⟨rfl, rfl, hw2⟩
    have h2 := h1.lock (lk' := 0)
    rw [← hw2] at h2
    have k2 := h1.chg0 (.int .i32 0)
    rw [← hw2] at k2
    clear hw2
    refine ⟨_, results_tmp2 rfl _ _ _, ?_⟩
    rw [e]
    exact ⟨_, rfl, own_nil _ _ _ _, ⟨_, h2⟩, k1.trans k2⟩
  | true =>
    have hbn := hasB_iff.1 hb
    have hn1 := h1.ok.n1
    cases ho : s.off with
    | true =>
      have e : s.read b = ([], 3) := by simp [DS.read, hb, ho]
      rw [ho] at c5
      go_wp2_with (go_at_call 103; refine (has_in h1 b).mono ?_; rw [hb]; rintro e w3 ⟨rfl, rfl⟩)
      refine leaves_cons (f := 78) (args := #[.pointer (some ⟨p, 0, none⟩)]) (by simp) (by simp [go_sem]) ?_
      refine (Go.MuLone.unlock_deferred muLib ⟨p, 0, none⟩ .returning _ h1.c0 (h1.fz 0)).mono ?_
      rintro e u2 w2 ⟨rfl, rfl, hw2⟩
      have h2 := h1.lock (lk' := 0)
      rw [← hw2] at h2
      have k2 := h1.chg0 (.int .i32 0)
      rw [← hw2] at k2
      clear hw2
      refine ⟨_, results_tmp2 rfl _ _ _, ?_⟩
      rw [e]
      exact ⟨_, rfl, own_nil _ _ _ _, ⟨_, h2⟩, k1.trans k2⟩
    | false =>
      rw [ho] at c5
      have hwf := wf_of (b := b) (by omega) (by omega)
      have hlook := h1.map.look (z := .slice none 0 0) Tryz.underlying113 Tryz.underlying3 (by simp [go_sem]) hwf
      cases hv : lastV L.ps b with
      | none =>
        rw [hv] at hlook
        simp only [Option.getD_none, Option.isSome_none] at hlook
        have e : s.read b = (s.blk b, 0) := by
          have e1 : s.lastD b = none := by
            rw [lastD_is h1.pendIs]
            unfold lastV at hv
            simpa using hv
          simp [DS.read, hb, ho, e1]
        go_wp2_with (first | (go_at_call 103; refine (has_in h1 b).mono ?_; rw [hb]; rintro e w3 ⟨rfl, rfl⟩) | (go_at_call 101; refine (block_in h1 b hbn).mono ?_; rintro e w3 ⟨⟨g, c, hvd, rfl⟩, rfl⟩))
        refine (clone_n _ _ _ _ _ (blk_len h1.ok hbn) (blk_reads h1 hbn hvd) (by rw [blk_len h1.ok hbn]; decide)).mono ?_
        rintro e4 w4 ⟨v, rfl, hown, hb4⟩
        have h4 : DevL 1 w4 p s F L := h1.move hb4.size fun k hk => hb4.block k (h1.lt k hk)
        go_wp2
        refine leaves_cons (f := 78) (args := #[.pointer (some ⟨p, 0, none⟩)]) (by simp) (by simp [go_sem]) ?_
        refine (Go.MuLone.unlock_deferred muLib ⟨p, 0, none⟩ .returning _ h4.c0 (h4.fz 0)).mono ?_
        rintro e u2 w2 ⟨rfl, rfl, hw2⟩
        have h2 := h4.lock (lk' := 0)
        rw [← hw2] at h2
        have k2 := h4.chg0 (.int .i32 0)
        rw [← hw2] at k2
        clear hw2
        refine ⟨_, results_tmp2 rfl _ _ _, ?_⟩
        rw [e]
        exact ⟨_, rfl, own_fresh h1 hown hsz k2, ⟨_, h2⟩, (k1.trans (Chg.ofBelow hb4)).trans k2⟩
      | some v =>
        rw [hv] at hlook
        simp only [Option.getD_some, Option.isSome_some] at hlook
        obtain ⟨x, hx, hx1, hx2⟩ := last_both hv
        have e : s.read b = (x.2.1, 0) := by
          have e1 : s.lastD b = some x.2.1 := by rw [lastD_is h1.pendIs, hx2]; rfl
          simp [DS.read, hb, ho, e1]
        have hd := h1.data x hx
        rw [hx1] at hd
        obtain ⟨A, c, rfl⟩ := own_slice hd
        have hxl : x.2.1.length = 512 := by
          have := h1.ok.pend (x.1, x.2.1) (by rw [h1.pendIs]; exact List.mem_map.2 ⟨x, hx, rfl⟩)
          exact this.2.2
        have hr := own_reads' hd
        go_wp2_with (go_at_call 103; refine (has_in h1 b).mono ?_; rw [hb]; rintro e w3 ⟨rfl, rfl⟩)
        refine (clone_n _ _ _ _ _ hxl hr (by rw [hxl]; decide)).mono ?_
        rintro e4 w4 ⟨v, rfl, hown, hb4⟩
        have h4 : DevL 1 w4 p s F L := h1.move hb4.size fun k hk => hb4.block k (h1.lt k hk)
        go_wp2
        refine leaves_cons (f := 78) (args := #[.pointer (some ⟨p, 0, none⟩)]) (by simp) (by simp [go_sem]) ?_
        refine (Go.MuLone.unlock_deferred muLib ⟨p, 0, none⟩ .returning _ h4.c0 (h4.fz 0)).mono ?_
        rintro e u2 w2 ⟨rfl, rfl, hw2⟩
        have h2 := h4.lock (lk' := 0)
        rw [← hw2] at h2
        have k2 := h4.chg0 (.int .i32 0)
        rw [← hw2] at k2
        clear hw2
        refine ⟨_, results_tmp2 rfl _ _ _, ?_⟩
        rw [e]
        exact ⟨_, rfl, own_fresh h1 hown hsz k2, ⟨_, h2⟩, (k1.trans (Chg.ofBelow hb4)).trans k2⟩
end Go.Proofs.YtlhlmjkocmahmaaGreatDoor.Dev
/- The methods of a device: Write, New, Image. -/
namespace Go.Proofs.YtlhlmjkocmahmaaGreatDoor.Dev
open Go.Proofs Go.RowKit Go.Proofs.YtlhlmjkocmahmaaGreatDoorW.PrintWords Go.Proofs.YtlhlmjkocmahmaaGreatDoorW.PrintLast Go.Proofs.YtlhlmjkocmahmaaGreatDoorW.PrintMore Go.Proofs.YtlhlmjkocmahmaaGreatDoor.IMap Go.Proofs.YtlhlmjkocmahmaaGreatDoor.Locks
set_option linter.unusedVariables false
set_option linter.unusedSimpArgs false
theorem infoPend : (Tryz.prog.info? 176).map (fun i => (i.zero, i.size, i.bytes)) = some (some (.agg #[.int .i64 0, .slice none 0 0]), 2, 32) := by kernel_rfl
theorem pcells_len (ps : List (Int × List Int × Value)) : (pcells ps).length = ps.length * 2 := by
  induction ps with
  | nil => rfl
  | cons x r ih =>
    have : pcells (x :: r) = [.int .i64 x.1, x.2.2] ++ pcells r := rfl
    rw [this, List.length_append, ih]
    simp
    omega
theorem pcells_append (ps qs : List (Int × List Int × Value)) : pcells (ps ++ qs) = pcells ps ++ pcells qs := by simp [pcells]
theorem lastV_append (ps : List (Int × List Int × Value)) (b : Int) (d : List Int) (v : Value) : lastV (ps ++ [(b, d, v)]) = upd (lastV ps) b (some v) := by
  funext k
  unfold lastV upd
  rw [List.reverse_append]
  by_cases e : k = b
  · subst e
    simp
  · rw [if_neg e]
    have : ((b : Int) == k) = false := beq_eq_false_iff_ne.2 fun x => e x.symm
    simp [this]
theorem reads_chg {w w' : World} {k : IntKind} {A : Option Addr} {n : Nat} {xs : List Int} {F : Nat → Prop} (h : ReadsInt w k A n xs) (hc : Chg F w w') (hA : ∀ a, A = some a → 0 < n → ¬ F a.block) : ReadsInt w' k A n xs := by
  refine ⟨h.1, h.2.1, fun hn => ?_⟩
  obtain ⟨ad, e, hr⟩ := h.2.2 hn
  refine ⟨ad, e, fun j hj => ?_⟩
  have h1 := hr j hj
  rw [← h1]
  refine World.cell?_of_block ?_
  refine hc.block _ (World.block_lt_of_cell? w _ h1) ?_
  rw [add_block]
  exact hA ad e hn
theorem Chg.trans' {F G : Nat → Prop} {a b c : World} (h : Chg F a b) (k : Chg G b c) (hG : ∀ k, k < a.heap.size → G k → F k) : Chg F a c :=
  ⟨k.os.trans h.os, k.tape.trans h.tape, k.output.trans h.output, Nat.le_trans h.size k.size, fun i hi hF => (k.block i (Nat.lt_of_lt_of_le hi h.size) fun hg => hF (hG i hi hg)).trans (h.block i hi hF)⟩
theorem own_map {w : World} {b base n size : Nat} {e : TypeId} {v : Value} {xs : List Value} {m : Int → Option Value} (h : MapAt w b m) (ho : w.ownsRow base e size v n xs) : ∀ k, v.ownBlock = some k → k ≠ b := by
  rintro k hk rfl
  obtain ⟨es, c, h1, _⟩ := h
  obtain ⟨cs, h2⟩ := own_typed ho k hk
  rw [h1] at h2
  cases h2
theorem own_two {w : World} {b base n n' size size' : Nat} {e e' : TypeId} {v v' : Value} {xs xs' : List Value} (h : w.ownsRow b e size v n xs) (h' : w.ownsRow base e' size' v' n' xs') (hne : e ≠ e') : ∀ k, v.ownBlock = some k → v'.ownBlock ≠ some k := by
  intro k hk hk'
  rcases own_type_ne h h' hne with h1 | h1
  · rw [h1] at hk; cases hk
  · exact h1 (hk.trans hk'.symm)
theorem map_off {lk : Int} {w : World} {p : Nat} {s : DS} {F : Nat → Prop} {L : Lay} (h : DevL lk w p s F L) : L.bm ≠ p := by
  intro e
  obtain ⟨es, c, h1, _⟩ := h.map
  rw [e, h.cells] at h1
  cases h1
theorem DevL.pushed {lk : Int} {w5 w6 w7 w8 : World} {p B : Nat} {s : DS} {F : Nat → Prop} {L : Lay} {v v1 : Value} {b : Int} {l : List Int} (h : DevL lk w5 p s F L) (hs6 : w5.heap.size ≤ w6.heap.size)
    (hk6 : ∀ k, k < w5.heap.size → L.vp.ownBlock ≠ some k → w6.heap[k]? = w5.heap[k]?) (ho : w6.ownsRow 0 176 2 v1 (L.ps.length + 1) (pcells L.ps ++ [.int .i64 b, v])) (hb : v1.ownBlock = L.vp.ownBlock ∨ ∃ k, v1.ownBlock = some k ∧ w5.heap.size ≤ k)
    (hw7 : w7 = w6.setCell ⟨p, 3, none⟩ v1) (hm : MapAt w8 L.bm (upd (lastV L.ps) b (some v))) (hs8 : w8.heap.size = w7.heap.size) (hk8 : ∀ k, k ≠ L.bm → w8.heap[k]? = w7.heap[k]?)
    (hv : w5.ownsRow B 5 1 v l.length (nums .u8 l)) (hvF : ∀ k, v.ownBlock = some k → ¬ F k) (hB : B ≤ w5.heap.size) (hbn : 0 ≤ b ∧ b < (s.n : Int)) (hl : l.length = 512) :
    DevL lk w8 p { s with pend := s.pend ++ [(b, l)] } (fun k => F k ∨ (B ≤ k ∧ k < w8.heap.size)) { L with vp := v1, ps := L.ps ++ [(b, l, v)] } := by
  have hsz7 : w7.heap.size = w6.heap.size := by rw [hw7]; simp [World.setCell]
  have hsz8 : w5.heap.size ≤ w8.heap.size := by omega
  have hpv : ∀ k, L.vp.ownBlock = some k → k ≠ p := own_off h.cells h.pend (by decide)
  have hp6 : w6.heap[p]? = w5.heap[p]? := hk6 p (h.lt p h.inp) fun e => hpv p e rfl
  have hp6' := hp6.trans h.cells
  have hbm6 : w6.heap[L.bm]? = w5.heap[L.bm]? := hk6 _ h.map.lt fun e => own_map h.map h.pend _ e rfl
  have hm6 : MapAt w6 L.bm (lastV L.ps) := h.map.move hbm6
  have hpbm : p ≠ L.bm := by
    rintro e
    obtain ⟨es, c, h1, _⟩ := h.map
    rw [← e, h.cells] at h1
    cases h1
  have h7 : ∀ k, k ≠ p → w7.heap[k]? = w6.heap[k]? := fun k hk => by rw [hw7]; exact Below.heap_setCell w6 ⟨p, 3, none⟩ v1 k hk
  have hall : ∀ k, k ≠ p → k ≠ L.bm → w8.heap[k]? = w6.heap[k]? := fun k h1 h2 => (hk8 k h2).trans (h7 k h1)
  have hall5 : ∀ k, k < w5.heap.size → k ≠ p → k ≠ L.bm → L.vp.ownBlock ≠ some k → w8.heap[k]? = w5.heap[k]? := fun k h0 h1 h2 h3 => (hall k h1 h2).trans (hk6 k h0 h3)
  have h5own : ∀ {base n : Nat} {u : Value} {xs : List Value}, w5.ownsRow base 5 1 u n xs → w8.ownsRow base 5 1 u n xs := fun hu => own_move hu fun k hk => hall5 k (own_lt hu k hk) (own_off h.cells hu (by decide) k hk) (own_map h.map hu k hk) (own_two hu h.pend (by decide) k hk)
  have hok : DS.Ok { s with pend := s.pend ++ [(b, l)] } := ⟨h.ok.n0, h.ok.n1, h.ok.len, fun x hx => by
    rcases List.mem_append.1 hx with h1 | h1
    · exact h.ok.pend x h1
    · rw [List.mem_singleton.1 h1]; exact ⟨hbn.1, hbn.2, hl⟩, h.ok.fuse0, h.ok.fuse1⟩
  refine ⟨?_, h5own h.dur, ?_, ?_, ?_, ?_, ?_, hok, .inl h.inp, .inl h.inm, fun k e => .inl (h.ind k e), ?_, ?_, ?_⟩
  · rw [hk8 p hpbm, hw7, heap_set hp6']
    rfl
  · have e1 : (L.ps ++ [(b, l, v)]).length = L.ps.length + 1 := by simp
    have e2 : pcells (L.ps ++ [(b, l, v)]) = pcells L.ps ++ [.int .i64 b, v] := by rw [pcells_append]; rfl
    show w8.ownsRow 0 _ 2 v1 (L.ps ++ [(b, l, v)]).length (pcells (L.ps ++ [(b, l, v)]))
    rw [e1, e2]
    exact own_move ho fun k hk => hall k (own_off hp6' ho (by decide) k hk) (own_map hm6 ho k hk)
  · show s.pend ++ [(b, l)] = (L.ps ++ [(b, l, v)]).map _
    rw [List.map_append, ← h.pendIs]
    rfl
  · intro x hx
    rcases List.mem_append.1 hx with h1 | h1
    · exact h5own (h.data x h1)
    · rw [List.mem_singleton.1 h1]; exact own_weaken (h5own hv) (Nat.zero_le _)
  · intro x hx
    rcases List.mem_append.1 hx with h1 | h1
    · exact h.apart x h1
    · rw [List.mem_singleton.1 h1]
      intro e
      obtain ⟨g, c, hg⟩ := h.vd_is
      rw [hg] at e
      exact hvF g e (h.ind g (by rw [hg]; rfl))
  · show MapAt w8 L.bm (lastV (L.ps ++ [(b, l, v)]))
    rw [lastV_append]
    exact hm
  · intro k e
    have hlt := own_lt ho k e
    rcases hb with h1 | ⟨k', h1, h2⟩
    · exact .inl (h.inq k (h1 ▸ e))
    · have : k' = k := by
        have := h1.symm.trans e
        cases this
        rfl
      subst this
      exact .inr ⟨by omega, by omega⟩
  · intro x hx k e
    rcases List.mem_append.1 hx with h1 | h1
    · exact .inl (h.inx x h1 k e)
    · rw [List.mem_singleton.1 h1] at e
      have := own_lt hv k e
      exact .inr ⟨own_base hv k e, by omega⟩
  · rintro k (e | e)
    · have := h.lt k e; omega
    · exact e.2
set_option maxHeartbeats 4000000 in
set_option maxRecDepth 100000 in
theorem write_any {w : World} {p : Nat} {s : DS} {F : Nat → Prop} (h : Dev w p s F) (b : Int) (A : Option Addr) (c : Nat) (l : List Int) (hr : ReadsInt w .u8 A l.length l) (hA : ∀ a, A = some a → 0 < l.length → ¬ F a.block) (hl : l.length ≤ 140737488355328) (hp : s.pend.length ≤ 1000000000000) :
    Calls Tryz.prog 87 #[.pointer (some ⟨p, 0, none⟩), .int .i64 b, .slice A l.length c] w fun e w' => e = .returned (.int .i64 (s.write b l).1) ∧ Dev w' p (s.write b l).2 (grow F w w') ∧ Chg F w w' := by
  obtain ⟨L, h⟩ := h
  go_enter_defers Tryz.func87, Tryz.ntmps87
  go_wp2_with fail
  refine (Go.MuLone.lock_free muLib ⟨p, 0, none⟩ _ h.c0 (h.fz 0)).mono ?_
  rintro e w1 ⟨rfl, hw1⟩
  have h1 : DevL 1 w1 p s F L := by rw [hw1]; exact h.lock
  have k1 : Chg F w w1 := by rw [hw1]; exact Chg.set h.inp
  clear hw1
  have hsz := k1.size
  have widen : ∀ {w2 : World} {s2 : DS} {L2 : Lay}, DevL 0 w2 p s2 F L2 → DevL 0 w2 p s2 (grow F w w2) L2 := fun h2 => h2.widen (fun k hk => .inl hk) (fun k hk => hk.elim (h2.lt k) (·.2))
  cases hb : s.hasB b with
  | false =>
    have e : s.write b l = (52, s) := by simp [DS.write, hb]
    go_wp2_with (go_at_call 103; refine (has_in h1 b).mono ?_; rw [hb]; rintro e w3 ⟨rfl, rfl⟩)
    refine leaves_cons (f := 78) (args := #[.pointer (some ⟨p, 0, none⟩)]) (by simp) (by simp [go_sem]) ?_
    refine (Go.MuLone.unlock_deferred muLib ⟨p, 0, none⟩ .returning _ h1.c0 (h1.fz 0)).mono ?_
    rintro e u2 w2 ⟨rfl, rfl, hw2⟩
    have h2 := h1.lock (lk' := 0)
    rw [← hw2] at h2
    have k2 := h1.chg0 (.int .i32 0)
    rw [← hw2] at k2
    clear hw2
    refine ⟨_, results_tmp rfl _ _ _, ?_⟩
    rw [e]
    exact ⟨rfl, ⟨_, widen h2⟩, k1.trans k2⟩
  | true =>
    have hbn := hasB_iff.1 hb
    have hn1 := h1.ok.n1
    by_cases h512 : l.length = 512
    · have hd1 : ((l.length : Int) != 512) = false := by rw [h512]; rfl
      have hpw : ∀ (x : Bool), x = s.powered.1 → True := fun _ _ => trivial
      cases hw : s.powered.1 with
      | false =>
        have e : s.write b l = (3, s.powered.2) := by simp [DS.write, hb, h512, hw]
        go_wp2_with (first | (go_at_call 103; refine (has_in h1 b).mono ?_; rw [hb]; rintro e w3 ⟨rfl, rfl⟩) | (go_at_call 113; refine (powered_in h1).mono ?_; rw [hw]; rintro e w4 ⟨rfl, h4, k4⟩))
        refine leaves_cons (f := 78) (args := #[.pointer (some ⟨p, 0, none⟩)]) (by simp) (by simp [go_sem]) ?_
        refine (Go.MuLone.unlock_deferred muLib ⟨p, 0, none⟩ .returning _ h4.c0 (h4.fz 0)).mono ?_
        rintro e u2 w2 ⟨rfl, rfl, hw2⟩
        have h2 := h4.lock (lk' := 0)
        rw [← hw2] at h2
        have k2 := h4.chg0 (.int .i32 0)
        rw [← hw2] at k2
        clear hw2
        refine ⟨_, results_tmp rfl _ _ _, ?_⟩
        rw [e]
        exact ⟨rfl, ⟨_, widen h2⟩, (k1.trans k4).trans k2⟩
      | true =>
        have e : s.write b l = (0, { s.powered.2 with pend := s.powered.2.pend ++ [(b, l)] }) := by simp [DS.write, hb, h512, hw]
        go_wp2_with (first | (go_at_call 103; refine (has_in h1 b).mono ?_; rw [hb]; rintro e w3 ⟨rfl, rfl⟩) | (go_at_call 113; refine (powered_in h1).mono ?_; rw [hw]; rintro e w4 ⟨rfl, h4, k4⟩))
        have hr4 := reads_chg hr (k1.trans k4) hA
        refine (clone_n _ _ _ _ _ h512 hr4 hl).mono ?_
        rintro e5 w5 ⟨v, rfl, hown, hb5⟩
        have h5 : DevL 1 w5 p s.powered.2 F L := h4.move hb5.size fun k hk => hb5.block k (h4.lt k hk)
        have c3 := h5.c3
        have hpl : s.powered.2.pend.length = L.ps.length := by rw [h5.pendIs]; simp
        rw [powered_pend] at hpl
        have hsz45 := hb5.size
        have hfresh : ∀ k, v.ownBlock = some k → w4.heap.size ≤ k := fun k hk => own_base hown k hk
        have hneF : ∀ k, v.ownBlock = some k → ¬ F k := fun k hk hF => by have := hfresh k hk; have := h4.lt k hF; omega
        have hwf := wf_of (b := b) (by omega) (by omega)
        rw [h512] at hown
        obtain ⟨Av, cv, rfl⟩ := own_slice hown
        go_wp2_with ((with_reducible refine gate_builtin (b := .append) (xs := #[.tmp 31, .tmp 35]) rfl ?_); at_builtin; go_must (refine print_append_cells (w0 := w5) 0 rfl (.tmp 31) (.tmp 35) 147 176 (.agg #[.int .i64 0, .slice none 0 0]) 2 32 rfl Tryz.underlying147 infoPend rfl (by decide) (by decide) L.vp L.ps.length (pcells L.ps) [.int .i64 b, .slice Av 512 cv] ?ahs ?ahx rfl ?a1 ?aO ?aB ?aS ?aL ?_); (case ahs => rfl); (case ahx => rfl); (case a1 => (intro u hu; simp only [List.mem_cons, List.not_mem_nil, or_false] at hu; rcases hu with rfl | rfl <;> rfl)); (case aO => exact h5.pend); (case aB => exact Below.refl _ _); (case aS => exact Nat.zero_le _); (case aL => rw [← hpl]; omega); go_must (intro v1 w6 hown6 hB6 hg6 hat6; obtain ⟨Aq, cq, rfl⟩ := own_slice hown6; have hsz6 := hg6.size; have hk6 : ∀ k, k < w5.heap.size → L.vp.ownBlock ≠ some k → w6.heap[k]? = w5.heap[k]? := (fun k h1 h2 => hg6.block k h1 (fun e => h2 e.symm)); have hp6 := (hk6 p (h5.lt p h5.inp) (fun e => own_off h5.cells h5.pend (by decide) p e rfl)).trans h5.cells; have c63 := (blk_cell hp6 3).trans rfl; have c64 := (blk_cell hp6 4).trans rfl; have f63 := blk_frozen hp6 3; obtain ⟨w8, hrun8, hm8, o8, t8, u8, s8, k8⟩ := MapAt.store (P := Tryz.prog) (t := 113) (k := 3) (e := 57) (MapAt.move (w1 := w6.setCell ⟨p, 3, none⟩ (.slice Aq (L.ps.length + 1) cq)) h5.map ((Below.heap_setCell w6 ⟨p, 3, none⟩ _ L.bm (map_off h5)).trans (hk6 _ h5.map.lt (fun e => own_map h5.map h5.pend _ e rfl)))) Tryz.underlying113 Tryz.underlying3 hwf (.slice Av 512 cv)))
        have h8 := h5.pushed hsz6 hk6 hown6 hat6 rfl hm8 s8 k8 (B := w4.heap.size) (by rw [h512]; exact hown) hneF hsz45 (by rw [show s.powered.2.n = s.n by unfold DS.n; rw [powered_dur]]; exact hbn) h512
        have hs7 : (w6.setCell ⟨p, 3, none⟩ (.slice Aq (L.ps.length + 1) cq)).heap.size = w6.heap.size := by simp [World.setCell]
        have k58 : Chg F w5 w8 := by
          refine ⟨o8.trans hg6.os, t8.trans hg6.tape, u8.trans hg6.output, by omega, fun k hk hF => ?_⟩
          have n1 : k ≠ p := fun e => hF (e ▸ h5.inp)
          have n2 : k ≠ L.bm := fun e => hF (e ▸ h5.inm)
          have n3 : L.vp.ownBlock ≠ some k := fun e => hF (h5.inq k e)
          exact ((k8 k n2).trans (Below.heap_setCell w6 ⟨p, 3, none⟩ _ k n1)).trans (hk6 k hk n3)
        have k18 : Chg F w w8 := ((k1.trans k4).trans (Chg.ofBelow hb5)).trans k58
        refine leaves_cons (f := 78) (args := #[.pointer (some ⟨p, 0, none⟩)]) (by simp) (by simp [go_sem]) ?_
        refine (Go.MuLone.unlock_deferred muLib ⟨p, 0, none⟩ .returning _ h8.c0 (h8.fz 0)).mono ?_
        rintro e u2 w2 ⟨rfl, rfl, hw2⟩
        have h2 := h8.lock (lk' := 0)
        rw [← hw2] at h2
        have k2 := h8.chg0 (.int .i32 0)
        rw [← hw2] at k2
        clear hw2
        refine ⟨_, results_tmp rfl _ _ _, ?_⟩
        rw [e]
        have hsz4 := k4.size
        have hsz2 := k2.size
        exact ⟨rfl, ⟨_, h2.widen (fun k hk => hk.elim .inl fun q => .inr ⟨by omega, by omega⟩) (fun k hk => hk.elim (fun q => h2.lt k (.inl q)) (·.2))⟩, k18.trans' k2 fun k hk hG => hG.elim id fun q => absurd q.1 (by omega)⟩
    · have hd1 : ((l.length : Int) != 512) = true := bne_iff_ne.2 (by omega)
      have e : s.write b l = (53, s) := by simp [DS.write, hb, h512]
      go_wp2_with (go_at_call 103; refine (has_in h1 b).mono ?_; rw [hb]; rintro e w3 ⟨rfl, rfl⟩)
      refine leaves_cons (f := 78) (args := #[.pointer (some ⟨p, 0, none⟩)]) (by simp) (by simp [go_sem]) ?_
      refine (Go.MuLone.unlock_deferred muLib ⟨p, 0, none⟩ .returning _ h1.c0 (h1.fz 0)).mono ?_
      rintro e u2 w2 ⟨rfl, rfl, hw2⟩
      have h2 := h1.lock (lk' := 0)
      rw [← hw2] at h2
      have k2 := h1.chg0 (.int .i32 0)
      rw [← hw2] at k2
      clear hw2
      refine ⟨_, results_tmp rfl _ _ _, ?_⟩
      rw [e]
      exact ⟨rfl, ⟨_, widen h2⟩, k1.trans k2⟩
end Go.Proofs.YtlhlmjkocmahmaaGreatDoor.Dev
/- The makers of a device: New, Image. -/
namespace Go.Proofs.YtlhlmjkocmahmaaGreatDoor.Dev
open Go.Proofs Go.RowKit Go.Proofs.YtlhlmjkocmahmaaGreatDoorW.PrintWords Go.Proofs.YtlhlmjkocmahmaaGreatDoorW.PrintLast Go.Proofs.YtlhlmjkocmahmaaGreatDoorW.PrintMore Go.Proofs.YtlhlmjkocmahmaaGreatDoor.IMap Go.Proofs.YtlhlmjkocmahmaaGreatDoor.Locks
set_option linter.unusedVariables false
set_option linter.unusedSimpArgs false
def DS.made (d : List Int) : DS := ⟨d, [], false, 0⟩
theorem made_ok {d : List Int} {n : Nat} (h0 : 1 ≤ n) (h1 : n ≤ 4096) (hl : d.length = 512 * n) : (DS.made d).Ok := by
  have hn : (DS.made d).n = n := by
    show d.length / 512 = n
    omega
  exact ⟨by rw [hn]; exact h0, by rw [hn]; exact h1, by rw [hn]; exact hl, by simp [DS.made], by simp [DS.made], by simp [DS.made]⟩
theorem heap_at (w : World) (o : Obj) : (w.alloc o).heap[w.heap.size]? = some o := (MapKept.heap_alloc w o).1
theorem below_call2 {w X w' : World} (k : Below X.heap.size X w') (h : Below w.heap.size w X) : Below w.heap.size w w' := h.trans (k.mono h.size)
theorem made_any (w : World) (B : Nat) (v : Value) (d : List Int) (hv : w.ownsRow B 5 1 v d.length (nums .u8 d)) (hok : (DS.made d).Ok) :
    Calls Tryz.prog 75 #[v] w fun e w' => ∃ q, e = .returned (.pointer (some ⟨q, 0, none⟩)) ∧ Dev w' q (DS.made d) (fun k => v.ownBlock = some k ∨ (w.heap.size ≤ k ∧ k < w'.heap.size)) ∧ Below w.heap.size w w' := by
  obtain ⟨A, c, rfl⟩ := own_slice hv
  go_enter Tryz.func75, Tryz.ntmps75
  have hmm : ∀ W : World, (Instr.makeMap 113 none).run Tryz.prog W = .ok (.map (some W.heap.size)) (W.alloc (.map #[] 0)) := fun W => rfl
  go_wp2
  go_ret
  have hs1 : (w.alloc (.map #[] 0)).heap.size = w.heap.size + 1 := World.size_alloc ..
  obtain ⟨w1, hw1⟩ : ∃ w1, w1 = w.alloc (.map #[] 0) := ⟨_, rfl⟩
  have hm1 : MapAt w1 w.heap.size fun _ => none := by rw [hw1]; exact MapAt.new w
  have hv1 := own_alloc hv (.map #[] 0)
  have hb1 : Below w.heap.size w w1 := by rw [hw1]; exact below_alloc (Below.refl _ _) _
  rw [← hw1] at hv1 hs1
  rw [← hw1]
  refine ⟨w.heap.size + 1, rfl, ⟨⟨.slice A d.length c, .slice none 0 0, w.heap.size, []⟩, ?_⟩, below_alloc hb1 _⟩
  have hlt := own_lt hv
  have hs2 : ∀ o, (w1.alloc o).heap.size = w.heap.size + 2 := fun o => by rw [World.size_alloc, hs1]
  refine ⟨?_, own_weaken (own_alloc hv1 _) (Nat.zero_le _), own_nil _ _ _ _, rfl, by simp, by simp, ?_, hok, ?_, ?_, fun k e => .inl e, by simp [Value.ownBlock], by simp, ?_⟩
  · rw [← hs1]
    exact heap_at w1 _
  · exact hm1.move (Below.heap_alloc w1 _ _ (by omega))
  · exact .inr ⟨by omega, by rw [hs2]; omega⟩
  · exact .inr ⟨Nat.le_refl _, by rw [hs2]; show w.heap.size < _; omega⟩
  · intro k hk
    rw [hs2] at hk ⊢
    rcases hk with h1 | h1
    · have := hlt k h1; omega
    · omega
theorem new_no (w : World) (n : Int) (h : n < 1 ∨ n > 4096) : Calls Tryz.prog 52 #[.int .i64 n] w fun e w' => e = .returned (.pointer none) ∧ w' = w := by
  go_enter Tryz.func52, Tryz.ntmps52
  by_cases h1 : n < 1
  · go_wp2
    go_ret
    exact ⟨rfl, rfl⟩
  · have h2 : n > 4096 := h.resolve_left h1
    go_wp2
    go_ret
    exact ⟨rfl, rfl⟩
set_option maxRecDepth 100000 in
theorem new_any (w : World) (n : Nat) (h0 : 1 ≤ n) (h1 : n ≤ 4096) : Calls Tryz.prog 52 #[.int .i64 (n : Int)] w fun e w' => ∃ q, e = .returned (.pointer (some ⟨q, 0, none⟩)) ∧ Dev w' q (DS.made (List.replicate (512 * n) 0)) (fun k => w.heap.size ≤ k ∧ k < w'.heap.size) ∧ Below w.heap.size w w' := by
  have hw : IntKind.i64.wrap ((n : Int) * 512) = ((512 * n : Nat) : Int) := by rw [IntKind.wrap_i64]; omega
  have hmk := print_make (P := Tryz.prog) 57 5 .u8 1 Tryz.underlying57 info5 (by decide) (512 * n) (by omega)
  have hmk2 : ∀ W : World, (Instr.makeSlice 57 (.int .i64 (512 * (n : Int))) (.int .i64 (512 * (n : Int)))).run Tryz.prog W = .ok (.slice (some ⟨W.heap.size, 0, none⟩) (512 * n) (512 * n)) (W.alloc (.cells (madeCells #[.int .u8 0] (512 * n)) 5)) := fun W => by simpa using hmk W
  clear hmk
  have hg1 : ¬ (n : Int) < 1 := by omega
  have hg2 : ¬ (n : Int) > 4096 := by omega
  have hlen : (List.replicate (512 * n) (0 : Int)).length = 512 * n := by simp
  have hown := own_made (w) 0 5 .u8 (512 * n) (Nat.zero_le _) (by omega)
  have hv := hown
  rw [← hlen] at hv
  go_enter Tryz.func52, Tryz.ntmps52
  go_wp2_with fail
  refine (made_any _ 0 _ (List.replicate (512 * n) 0) ?_ (made_ok h0 h1 hlen)).mono ?_
  · rw [hlen]
    exact hown
  rintro e w' ⟨q, rfl, hd, hb⟩
  have hb0 : Below w.heap.size w (w.alloc (.cells (madeCells #[.int .u8 0] (512 * n)) 5)) := below_alloc (Below.refl _ _) _
  have hs0 : (w.alloc (.cells (madeCells #[.int .u8 0] (512 * n)) 5)).heap.size = w.heap.size + 1 := World.size_alloc ..
  have hs1 := hb.size
  rw [hs0] at hs1
  have hdev : Dev w' q (DS.made (List.replicate (512 * n) 0)) (fun k => w.heap.size ≤ k ∧ k < w'.heap.size) := by
    obtain ⟨L, hd⟩ := hd
    refine ⟨L, hd.widen (fun k hk => ?_) fun k hk => hk.2⟩
    rcases hk with h | h
    · have : w.heap.size = k := by simpa [Value.ownBlock] using h
      omega
    · omega
  have hbel := below_call2 hb hb0
  go_wp2
  go_ret
  exact ⟨q, rfl, hdev, hbel⟩
/-- The bytes make a device. -/
def fit (d : List Int) : Bool := decide (d.length % 512 = 0) && (decide (1 ≤ d.length / 512) && decide (d.length / 512 ≤ 4096))
theorem fit_ok {d : List Int} (h : fit d = true) : (DS.made d).Ok := by
  simp [fit] at h
  exact made_ok h.2.1 h.2.2 (by omega)
def ImagePost (d : List Int) (w : World) (e : Ending) (w' : World) : Prop := if fit d then ∃ q, e = .returned (.tuple #[.pointer (some ⟨q, 0, none⟩), .int .i64 0]) ∧ Dev w' q (DS.made d) (fun k => w.heap.size ≤ k ∧ k < w'.heap.size) else e = .returned (.tuple #[.pointer none, .int .i64 51])
theorem image_no {d : List Int} (h : fit d = false) (w w' : World) : ImagePost d w (.returned (.tuple #[.pointer none, .int .i64 51])) w' := by simp [ImagePost, h]
theorem image_yes {d : List Int} (h : fit d = true) (w w' : World) (q : Nat) (hd : Dev w' q (DS.made d) (fun k => w.heap.size ≤ k ∧ k < w'.heap.size)) : ImagePost d w (.returned (.tuple #[.pointer (some ⟨q, 0, none⟩), .int .i64 0])) w' := by
  unfold ImagePost
  rw [if_pos h]
  exact ⟨q, rfl, hd⟩
set_option maxRecDepth 100000 in
set_option maxHeartbeats 1000000 in
theorem image_any (w : World) (A : Option Addr) (c : Nat) (d : List Int) (hr : ReadsInt w .u8 A d.length d) : Calls Tryz.prog 41 #[.slice A d.length c] w fun e w' =>
    ImagePost d w e w' ∧ Below w.heap.size w w' := by
  have hd63 : d.length ≤ 9223372036854775807 := hr.2.1
  have hq : Int.tdiv (d.length : Int) 512 = ((d.length / 512 : Nat) : Int) := by rw [Int.tdiv_eq_ediv_of_nonneg (by omega)]; omega
  have hm : Int.tmod (d.length : Int) 512 = ((d.length % 512 : Nat) : Int) := by rw [Int.tmod_eq_emod_of_nonneg (by omega)]; omega
  have hw1 : wrap64 ((d.length / 512 : Nat) : Int) = ((d.length / 512 : Nat) : Int) := by unfold wrap64; omega
  have hw2 : wrap64 ((d.length % 512 : Nat) : Int) = ((d.length % 512 : Nat) : Int) := by unfold wrap64; omega
  go_enter Tryz.func41, Tryz.ntmps41
  cases hf : fit d with
  | false =>
    have hbel := Below.refl w.heap.size w
    by_cases g1 : (d.length : Int) % 512 = 0
    · by_cases g2 : (d.length : Int) / 512 < 1
      · have d2 : decide ((d.length : Int) / 512 < 1) = true := decide_eq_true g2
        go_wp2
        go_ret2
        exact ⟨image_no hf w w, hbel⟩
      · have d2 : decide ((d.length : Int) / 512 < 1) = false := decide_eq_false g2
        have d3 : decide (4096 < (d.length : Int) / 512) = true := decide_eq_true (by
          have := hf
          simp only [fit, Bool.and_eq_false_iff, decide_eq_false_iff_not] at this
          omega)
        go_wp2
        go_ret2
        exact ⟨image_no hf w w, hbel⟩
    · have d1 : ((d.length : Int) % 512 != 0) = true := bne_iff_ne.2 g1
      go_wp2
      go_ret2
      exact ⟨image_no hf w w, hbel⟩
  | true =>
    have hok := fit_ok hf
    have hfit := Aside0.mk hf
    have hlen : d.length ≤ 140737488355328 := by have := hok.len; have := hok.n1; have e : (DS.made d).dur.length = d.length := rfl; omega
    simp only [fit, Bool.and_eq_true, decide_eq_true_eq] at hf
    have g1 : (d.length : Int) % 512 = 0 := by omega
    have g2 : ¬ ((d.length : Int) / 512 < 1) := by omega
    have g2' : 1 ≤ ((d.length : Int) / 512) := by omega
    have g3 : ¬ (4096 < (d.length : Int) / 512) := by omega
    have g3' : ((d.length : Int) / 512) ≤ 4096 := by omega
    have d2 : decide ((d.length : Int) / 512 < 1) = false := decide_eq_false g2
    have d3 : decide (4096 < (d.length : Int) / 512) = false := decide_eq_false g3
    go_wp2_with fail
    refine (clone_any _ _ _ _ hr hlen).mono ?_
    rintro e w1 ⟨v, rfl, hown, hb1⟩
    go_wp2_with fail
    refine (made_any _ _ _ _ hown hok).mono ?_
    rintro e w' ⟨q, rfl, hd, hb2⟩
    have hdev : Dev w' q (DS.made d) (fun k => w.heap.size ≤ k ∧ k < w'.heap.size) := by
      obtain ⟨L, hd⟩ := hd
      refine ⟨L, hd.widen (fun k hk => ?_) fun k hk => hk.2⟩
      have h1 := hb1.size
      have h2 := hb2.size
      rcases hk with h | h
      · have := own_base hown k h
        have := own_lt hown k h
        omega
      · omega
    have hbel := below_call2 hb2 hb1
    go_wp2
    go_ret2
    exact ⟨image_yes hfit.out w _ q hdev, hbel⟩
end Go.Proofs.YtlhlmjkocmahmaaGreatDoor.Dev
/- A device within settle: its map is not yet that of its writes. -/
namespace Go.Proofs.YtlhlmjkocmahmaaGreatDoor.Dev
open Go.Proofs Go.RowKit Go.Proofs.YtlhlmjkocmahmaaGreatDoorW.PrintWords Go.Proofs.YtlhlmjkocmahmaaGreatDoorW.PrintLast Go.Proofs.YtlhlmjkocmahmaaGreatDoorW.PrintMore Go.Proofs.YtlhlmjkocmahmaaGreatDoor.IMap Go.Proofs.YtlhlmjkocmahmaaGreatDoor.Locks
set_option linter.unusedVariables false
set_option linter.unusedSimpArgs false
structure Mid (lk : Int) (w : World) (p : Nat) (s : DS) (d : List Int) (m : Int → Option Value) (F : Nat → Prop) (L : Lay) : Prop where
  cells : w.heap[p]? = some (.cells #[.int .i32 lk, .int .u32 0, L.vd, L.vp, .map (some L.bm), .bool s.off, .int .i64 s.fuse] 149 (0, 0))
  dur : w.ownsRow 0 5 1 L.vd s.dur.length (nums .u8 d)
  pend : w.ownsRow 0 176 2 L.vp L.ps.length (pcells L.ps)
  pendIs : s.pend = L.ps.map fun x => (x.1, x.2.1)
  data : ∀ x ∈ L.ps, w.ownsRow 0 5 1 x.2.2 x.2.1.length (nums .u8 x.2.1)
  apart : ∀ x ∈ L.ps, x.2.2.ownBlock ≠ L.vd.ownBlock
  map : MapAt w L.bm m
  ok : s.Ok
  inp : F p
  inm : F L.bm
  ind : ∀ k, L.vd.ownBlock = some k → F k
  inq : ∀ k, L.vp.ownBlock = some k → F k
  inx : ∀ x ∈ L.ps, ∀ k, x.2.2.ownBlock = some k → F k
  lt : ∀ k, F k → k < w.heap.size
theorem DevL.mid {lk : Int} {w : World} {p : Nat} {s : DS} {F : Nat → Prop} {L : Lay} (h : DevL lk w p s F L) : Mid lk w p s s.dur (lastV L.ps) F L :=
  ⟨h.cells, h.dur, h.pend, h.pendIs, h.data, h.apart, h.map, h.ok, h.inp, h.inm, h.ind, h.inq, h.inx, h.lt⟩
section
variable {lk : Int} {w w' : World} {p : Nat} {s : DS} {d : List Int} {m : Int → Option Value} {F : Nat → Prop} {L : Lay}
theorem Mid.move (h : Mid lk w p s d m F L) (hs : w.heap.size ≤ w'.heap.size) (hk : ∀ k, F k → w'.heap[k]? = w.heap[k]?) : Mid lk w' p s d m F L :=
  ⟨(hk p h.inp).trans h.cells, own_move h.dur fun k e => hk k (h.ind k e), own_move h.pend fun k e => hk k (h.inq k e), h.pendIs, fun x hx => own_move (h.data x hx) fun k e => hk k (h.inx x hx k e), h.apart,
    h.map.move (hk _ h.inm), h.ok, h.inp, h.inm, h.ind, h.inq, h.inx, fun k e => Nat.lt_of_lt_of_le (h.lt k e) hs⟩
theorem Mid.below (h : Mid lk w p s d m F L) (hb : Below w.heap.size w w') : Mid lk w' p s d m F L := h.move hb.size fun k hk => hb.block k (h.lt k hk)
theorem Mid.c2 (h : Mid lk w p s d m F L) : w.cell? ⟨p, 2, none⟩ = some L.vd := (blk_cell h.cells 2).trans rfl
theorem Mid.c3 (h : Mid lk w p s d m F L) : w.cell? ⟨p, 3, none⟩ = some L.vp := (blk_cell h.cells 3).trans rfl
theorem Mid.c4 (h : Mid lk w p s d m F L) : w.cell? ⟨p, 4, none⟩ = some (.map (some L.bm)) := (blk_cell h.cells 4).trans rfl
theorem Mid.fz (h : Mid lk w p s d m F L) (i : Nat) : w.frozen? ⟨p, i, none⟩ = false := blk_frozen h.cells i
theorem Mid.vd_is (h : Mid lk w p s d m F L) : ∃ g c, L.vd = .slice (some ⟨g, 0, none⟩) s.dur.length c := by
  obtain ⟨g, c, e, _⟩ := h.dur.form (by have := h.ok.len; have := h.ok.n0; omega)
  exact ⟨g, c, e⟩
theorem Mid.map_off (h : Mid lk w p s d m F L) : L.bm ≠ p := by
  intro e
  obtain ⟨es, c, h1, _⟩ := h.map
  rw [e, h.cells] at h1
  cases h1
theorem Mid.dlen (h : Mid lk w p s d m F L) : d.length = s.dur.length := by
  have := h.dur.1
  simpa [nums] using this
/-- The map has changed. -/
theorem Mid.mapped (h : Mid lk w p s d m F L) {m' : Int → Option Value} (hm : MapAt w' L.bm m') (hs : w'.heap.size = w.heap.size) (hk : ∀ k, k ≠ L.bm → w'.heap[k]? = w.heap[k]?) : Mid lk w' p s d m' F L := by
  refine ⟨(hk p fun e => h.map_off e.symm).trans h.cells, own_move h.dur fun k e => hk k (own_map h.map h.dur k e), own_move h.pend fun k e => hk k (own_map h.map h.pend k e), h.pendIs,
    fun x hx => own_move (h.data x hx) fun k e => hk k (own_map h.map (h.data x hx) k e), h.apart, hm, h.ok, h.inp, h.inm, h.ind, h.inq, h.inx, fun k e => by rw [hs]; exact h.lt k e⟩
theorem block_mid (h : Mid lk w p s d m F L) (b : Int) (hb : 0 ≤ b ∧ b < (s.n : Int)) :
    Calls Tryz.prog 101 #[.pointer (some ⟨p, 0, none⟩), .int .i64 b] w fun e w' => (∃ g c, L.vd = .slice (some ⟨g, 0, none⟩) s.dur.length c ∧ e = .returned (.slice (some ⟨g, b.toNat * 512, none⟩) 512 (c - b.toNat * 512))) ∧ w' = w := by
  obtain ⟨g, c, e⟩ := h.vd_is
  have c2 := h.c2
  rw [e] at c2
  have hl := h.ok.len
  have hn1 := h.ok.n1
  have hw1 : IntKind.i64.wrap (b * 512) = b * 512 := by rw [IntKind.wrap_i64]; omega
  have hw2 : IntKind.i64.wrap (b + 1) = b + 1 := by rw [IntKind.wrap_i64]; omega
  have hw3 : IntKind.i64.wrap ((b + 1) * 512) = (b + 1) * 512 := by rw [IntKind.wrap_i64]; omega
  have hd := h.dur
  rw [e] at hd
  have hcap : s.dur.length ≤ c := own_cap hd
  have hs1 : (0 : Int) ≤ (b + 1) * 512 := by omega
  have hs2 : (b + 1) * 512 ≤ (c : Int) := by omega
  have hs3 : (0 : Int) ≤ b * 512 := by omega
  have hs4 : b * 512 ≤ (((b + 1) * 512).toNat : Int) := by omega
  have hs5 : ¬ c = (b * 512).toNat := by omega
  have hs6 : ((b + 1) * 512).toNat - b.toNat * 512 = 512 := by omega
  have hs7 : (b * 512).toNat = b.toNat * 512 := by omega
  go_enter Tryz.func101, Tryz.ntmps101
  go_wp2
  go_ret
  exact ⟨⟨g, c, e, rfl⟩, rfl⟩
theorem block_at (h : Mid lk w p s d m F L) {g c : Nat} (e : L.vd = .slice (some ⟨g, 0, none⟩) s.dur.length c) (b : Int) (hb : 0 ≤ b ∧ b < (s.n : Int)) :
    Calls Tryz.prog 101 #[.pointer (some ⟨p, 0, none⟩), .int .i64 b] w fun e w' => e = .returned (.slice (some ⟨g, b.toNat * 512, none⟩) 512 (c - b.toNat * 512)) ∧ w' = w := by
  refine (block_mid h b hb).mono ?_
  rintro e1 w1 ⟨⟨g', c', h1, h2⟩, h3⟩
  rw [e] at h1
  cases h1
  exact ⟨h2, h3⟩
theorem Mid.dur_cells (h : Mid lk w p s d m F L) {g c : Nat} (e : L.vd = .slice (some ⟨g, 0, none⟩) s.dur.length c) : ∃ cur, w.heap[g]? = some (.cells cur 5 (0, 0)) ∧ s.dur.length ≤ cur.size := by
  have hd := h.dur
  rw [e] at hd
  rcases hd.2 with ⟨h1, _⟩ | ⟨g', cap, cur', h1, h2, h3, h4, h5, h6, h7⟩
  · cases h1
  · cases h1
    exact ⟨cur', h3, by omega⟩
/-- A block is laid over the lasting bytes. -/
theorem Mid.laid (h : Mid lk w p s d m F L) {g c : Nat} (e : L.vd = .slice (some ⟨g, 0, none⟩) s.dur.length c) {b : Int} (hb : 0 ≤ b ∧ b < (s.n : Int)) {x : List Int} (hx : x.length = 512) {cur : Array Value} (hg : w.heap[g]? = some (.cells cur 5 (0, 0))) :
    Mid lk (w.setRow g (cur.toList.take (b.toNat * 512) ++ (nums .u8 x ++ cur.toList.drop (b.toNat * 512 + (nums .u8 x).length))).toArray) p s (lay d b x) m F L := by
  have hdl := h.dlen
  have hl := h.ok.len
  have hgF : F g := h.ind g (by rw [e]; rfl)
  have ho : ∀ k, k ≠ g → (w.setRow g (cur.toList.take (b.toNat * 512) ++ (nums .u8 x ++ cur.toList.drop (b.toNat * 512 + (nums .u8 x).length))).toArray).heap[k]? = w.heap[k]? := fun k hk => setRow_other w g k _ hk
  have hne : ∀ k, k ≠ g → some k ≠ L.vd.ownBlock := fun k hk e' => by
    rw [e] at e'
    have : k = g := by simpa [Value.ownBlock] using e'
    exact hk this
  have hpg : p ≠ g := fun e' => (own_off h.cells h.dur (by decide) g (by rw [e]; rfl)) e'.symm
  have hmg : L.bm ≠ g := fun e' => (own_map h.map h.dur g (by rw [e]; rfl)) e'.symm
  have hs : (w.setRow g (cur.toList.take (b.toNat * 512) ++ (nums .u8 x ++ cur.toList.drop (b.toNat * 512 + (nums .u8 x).length))).toArray).heap.size = w.heap.size := by simp [World.setRow]
  refine ⟨(ho p hpg).trans h.cells, ?_, own_move h.pend fun k hk => ho k ?_, h.pendIs, fun y hy => own_move (h.data y hy) fun k hk => ho k ?_, h.apart, h.map.move (ho _ hmg), h.ok, h.inp, h.inm, h.ind, h.inq, h.inx, fun k hk => by rw [hs]; exact h.lt k hk⟩
  · have hd := h.dur
    rw [e] at hd ⊢
    refine ⟨by rw [nums_length]; unfold lay; rw [length_splice _ _ _ (by omega)]; omega, .inr ?_⟩
    rcases hd.2 with ⟨h1, _⟩ | ⟨g', cap, cur', h1, h2, h3, h4, h5, h6, h7⟩
    · cases h1
    · cases h1
      rw [hg] at h3
      cases h3
      refine ⟨g, c, _, rfl, h2, setRow_heap w g _ _ 5 _ hg, h4, h5, ?_, ?_⟩
      · simp [nums_length, hx]
        omega
      · have hcl : cur.toList.length = c := by simpa using h6
        have h7' : cur.toList.take s.dur.length = nums .u8 d := by simpa using h7
        have hcur : cur.toList = nums .u8 d ++ cur.toList.drop s.dur.length := by rw [← h7', List.take_append_drop]
        have hnl : (nums .u8 d).length = s.dur.length := by rw [nums_length, hdl]
        have hxl : (nums .u8 x).length = 512 := by rw [nums_length, hx]
        generalize cur.toList.drop s.dur.length = R at hcur
        have key1 : List.take (b.toNat * 512) cur.toList = List.take (b.toNat * 512) (nums .u8 d) := by rw [hcur, List.take_append_of_le_length (by omega)]
        have key2 : List.drop (b.toNat * 512 + 512) cur.toList = List.drop (b.toNat * 512 + 512) (nums .u8 d) ++ R := by rw [hcur, List.drop_append_of_le_length (by omega)]
        have e1 : List.take (b.toNat * 512) (nums .u8 d) ++ (nums .u8 x ++ (List.drop (b.toNat * 512 + 512) (nums .u8 d) ++ R)) = nums .u8 (lay d b x) ++ R := by
          unfold lay splice
          rw [hx]
          simp [nums, List.map_take, List.map_drop]
        show List.take (s.dur.length * 1) (List.take (b.toNat * 512) cur.toList ++ (nums .u8 x ++ List.drop (b.toNat * 512 + (nums .u8 x).length) cur.toList)) = _
        rw [hxl, key1, key2]
        rw [e1]
        have e2 : (nums .u8 (lay d b x)).length = s.dur.length := by
          rw [nums_length]
          unfold lay
          rw [length_splice _ _ _ (by omega)]
          omega
        exact List.take_left' (by omega)
  · rintro rfl
    exact own_two h.pend h.dur (by decide) k hk (by rw [e]; rfl)
  · rintro rfl
    exact h.apart y hy (by rw [hk, e]; rfl)
end
end Go.Proofs.YtlhlmjkocmahmaaGreatDoor.Dev
/- settle. -/
namespace Go.Proofs.YtlhlmjkocmahmaaGreatDoor.Dev
open Go.Proofs Go.RowKit Go.Proofs.YtlhlmjkocmahmaaGreatDoorW.PrintWords Go.Proofs.YtlhlmjkocmahmaaGreatDoorW.PrintLast Go.Proofs.YtlhlmjkocmahmaaGreatDoorW.PrintMore Go.Proofs.YtlhlmjkocmahmaaGreatDoor.IMap Go.Proofs.YtlhlmjkocmahmaaGreatDoor.Locks
set_option linter.unusedVariables false
set_option linter.unusedSimpArgs false
theorem reads_of_chg {α : Type} {enc : α → Value} {d : α} {w w' : World} {A : Option Addr} {n : Nat} {xs : List α} {F : Nat → Prop} (h : ReadsOf enc d w A n xs) (hc : Chg F w w') (hA : ∀ a, A = some a → 0 < n → ¬ F a.block) : ReadsOf enc d w' A n xs := by
  refine ⟨h.1, h.2.1, fun hn => ?_⟩
  obtain ⟨ad, e, hr⟩ := h.2.2 hn
  refine ⟨ad, e, fun j hj => ?_⟩
  have h1 := hr j hj
  rw [← h1]
  refine World.cell?_of_block ?_
  refine hc.block _ (World.block_lt_of_cell? w _ h1) ?_
  rw [add_block]
  exact hA ad e hn
theorem keep_all (w : World) (i : Int) : Calls Tryz.prog 123 #[.int .i64 i] w fun e w' => e = .returned (.bool true) ∧ w' = w := by
  go_enter Tryz.func123, Tryz.ntmps123
  go_wp2
  go_ret
  exact ⟨rfl, rfl⟩
def bool (b : Bool) : Value := .bool b
theorem keep_some (w : World) (kb : Nat) (A : Option Addr) (c : Nat) (ks : List Bool) (hk : w.heap[kb]? = some (.cells #[.slice A ks.length c] 84 (0, 0))) (hr : ReadsOf Value.bool false w A ks.length ks) (i : Nat) :
    Calls Tryz.prog 80 #[.int .i64 (i : Int), .pointer (some ⟨kb, 0, none⟩)] w fun e w' => e = .returned (.bool (ks.getD i false)) ∧ w' = w := by
  have c0 := (blk_cell hk 0).trans rfl
  have h63 := hr.2.1
  go_enter Tryz.func80, Tryz.ntmps80
  by_cases h : i < ks.length
  · have hi : ((i : Int) < (ks.length : Int)) := by omega
    obtain ⟨ad, rfl, hc⟩ := hr.2.2 (by omega)
    have hci := hc i h
    go_wp2
    go_ret
    have e : ks.getD i false = ks[i] := by rw [List.getD_eq_getElem?_getD, List.getElem?_eq_getElem h]; rfl
    rw [e]
    exact ⟨rfl, rfl⟩
  · have hi : ¬ ((i : Int) < (ks.length : Int)) := by omega
    have d1 : decide ((i : Int) < (ks.length : Int)) = false := decide_eq_false hi
    have e : ks.getD i false = false := by rw [List.getD_eq_getElem?_getD, List.getElem?_eq_none (by omega)]; rfl
    go_wp2
    go_ret
    exact ⟨rfl, rfl⟩
theorem pcells_at {ps : List (Int × List Int × Value)} {i : Nat} {x : Int × List Int × Value} (h : ps[i]? = some x) : (pcells ps)[i * 2]? = some (.int .i64 x.1) ∧ (pcells ps)[i * 2 + 1]? = some x.2.2 := by
  induction ps generalizing i with
  | nil => simp at h
  | cons y r ih =>
    have e : pcells (y :: r) = [.int .i64 y.1, y.2.2] ++ pcells r := rfl
    rw [e]
    cases i with
    | zero => simp at h; subst h; exact ⟨rfl, rfl⟩
    | succ i =>
      have := ih (i := i) (by simpa using h)
      rw [show (i + 1) * 2 = (i * 2) + 1 + 1 by omega]
      exact this
/-- What is left of the map ahead of round i. -/
def left (ps : List (Int × List Int × Value)) (m : Int → Option Value) : Nat → Int → Option Value
  | 0 => m
  | i + 1 => upd (left ps m i) (ps.getD i (0, [], .nilFunc)).1 none
theorem settled_step {keep : Nat → Bool} {s : DS} {ps : List (Int × List Int × Value)} (hp : s.pend = ps.map fun x => (x.1, x.2.1)) {k : Nat} {x : Int × List Int × Value} (hx : ps[k]? = some x) :
    settled keep s.pend s.dur (k + 1) = if keep k then lay (settled keep s.pend s.dur k) x.1 x.2.1 else settled keep s.pend s.dur k := by
  have e : s.pend.getD k (0, []) = (x.1, x.2.1) := by rw [List.getD_eq_getElem?_getD, hp, List.getElem?_map, hx]; rfl
  show (if keep k then lay _ (s.pend.getD k (0, [])).1 (s.pend.getD k (0, [])).2 else _) = _
  rw [e]
theorem left_step {ps : List (Int × List Int × Value)} {m : Int → Option Value} {k : Nat} {x : Int × List Int × Value} (hx : ps[k]? = some x) : left ps m (k + 1) = upd (left ps m k) x.1 none := by
  show upd (left ps m k) (ps.getD k (0, [], .nilFunc)).1 none = _
  rw [List.getD_eq_getElem?_getD, hx]
  rfl
theorem left_none {ps : List (Int × List Int × Value)} {m : Int → Option Value} {b : Int} {j : Nat} (hj : (ps.getD j (0, [], .nilFunc)).1 = b) : ∀ i, j < i → left ps m i b = none := by
  intro i
  induction i with
  | zero => intro h; omega
  | succ i ih =>
    intro h
    unfold left upd
    split
    · rfl
    · rename_i hne
      by_cases e : j = i
      · subst e; exact absurd hj.symm hne
      · exact ih (by omega)
theorem left_or {ps : List (Int × List Int × Value)} {m : Int → Option Value} {b : Int} : ∀ i, left ps m i b = none ∨ left ps m i b = m b := by
  intro i
  induction i with
  | zero => exact .inr rfl
  | succ i ih =>
    unfold left upd
    split
    · exact .inl rfl
    · exact ih
theorem left_all (ps : List (Int × List Int × Value)) : left ps (lastV ps) ps.length = fun _ => none := by
  funext b
  rcases left_or (ps := ps) (m := lastV ps) (b := b) ps.length with h | h
  · exact h
  · cases hv : lastV ps b with
    | none => rw [h, hv]
    | some v =>
      obtain ⟨x, hx, h1, _⟩ := lastV_mem hv
      obtain ⟨j, hj⟩ := List.getElem?_of_mem hx
      have hlt := (List.getElem?_eq_some_iff.1 hj).1
      exact left_none (j := j) (by rw [List.getD_eq_getElem?_getD, hj]; exact h1) _ hlt
theorem Mid.done {lk : Int} {w : World} {p : Nat} {s : DS} {d : List Int} {m : Int → Option Value} {F : Nat → Prop} {L : Lay} (h : Mid lk w p s d m F L) (hm : m = fun _ => none) {keep : Nat → Bool} (hd : d = (s.settle keep).dur) :
    DevL lk (w.setCell ⟨p, 3, none⟩ (.slice none 0 0)) p (s.settle keep) F { L with vp := .slice none 0 0, ps := [] } := by
  have ho : ∀ k, k ≠ p → (w.setCell ⟨p, 3, none⟩ (.slice none 0 0)).heap[k]? = w.heap[k]? := fun k hk => Below.heap_setCell w ⟨p, 3, none⟩ _ k hk
  have hlen : (s.settle keep).dur.length = s.dur.length := by rw [← hd]; exact h.dlen
  refine ⟨?_, ?_, own_nil _ _ _ _, rfl, by simp, by simp, ?_, h.ok.settle keep, h.inp, h.inm, h.ind, by simp [Value.ownBlock], by simp, fun k e => by have := h.lt k e; simpa [World.setCell] using this⟩
  · rw [heap_set h.cells]
    rfl
  · rw [hlen, ← hd]
    exact own_move h.dur fun k e => ho k (own_off h.cells h.dur (by decide) k e)
  · have := h.map.move (ho _ h.map_off)
    rw [hm] at this
    exact this
set_option maxHeartbeats 4000000 in
set_option maxRecDepth 100000 in
theorem settle_Flush1 {lk : Int} {w : World} {p : Nat} {s : DS} {F : Nat → Prop} {L : Lay} (h : DevL lk w p s F L) : Calls Tryz.prog 79 #[.pointer (some ⟨p, 0, none⟩), .func (.func 123) #[] #[]] w fun e w' => e = .returned (.tuple #[]) ∧ (∃ L', DevL lk w' p (s.settle (fun _ => true)) F L') ∧ Chg F w w' := by
  have hm := h.mid
  have c3 := hm.c3
  obtain ⟨Ap, cp, evp⟩ := own_slice hm.pend
  rw [evp] at c3
  have hpl : s.pend.length = L.ps.length := by rw [hm.pendIs]; simp
  have hps : L.ps.length ≤ 9223372036854775807 := by
    rcases hm.pend.2 with ⟨_, h1⟩ | ⟨g, cap, cur, h1, h2, h3, h4, h5, _⟩
    · omega
    · simp only [maxLen] at h5; omega
  go_enter Tryz.func79, Tryz.ntmps79
  go_wp2
  go_loopw [11] (fun i wr => ∃ k : Nat, k ≤ L.ps.length ∧ i = .int .i64 (k : Int) ∧ Aside0 (Mid lk wr p s (settled (fun _ => true) s.pend s.dur k) (left L.ps (lastV L.ps) k) F L) ∧ Aside0 (Chg F w wr)) (fun i _ => L.ps.length - (intOf i).toNat)
  case atStart => exact ⟨0, Nat.zero_le _, rfl, ⟨hm⟩, ⟨Chg.refl _ _⟩⟩
  case round =>
    obtain ⟨k, hk, rfl, HM, HC⟩ := hrel
    by_cases hlt : k < L.ps.length
    · have hlti : ((k : Int) < (L.ps.length : Int)) := by omega
      obtain ⟨x, hx⟩ : ∃ x, L.ps[k]? = some x := ⟨_, List.getElem?_eq_getElem hlt⟩
      have hxm : x ∈ L.ps := List.mem_of_getElem? hx
      have hp := HM.out.pend
      rw [evp] at hp
      obtain ⟨gp, cap, e, hgb, hgl⟩ := hp.form (by omega)
      cases e
      have cx := hp.cells (g := gp) rfl _ _ (pcells_at hx).1
      have cy := hp.cells (g := gp) rfl _ _ (pcells_at hx).2
      rw [add_plain] at cx cy
      have hxb := HM.out.ok.pend (x.1, x.2.1) (by rw [HM.out.pendIs]; exact List.mem_map.2 ⟨x, hxm, rfl⟩)
      obtain ⟨hx0, hx1, hx2⟩ := hxb
      simp only at hx0 hx1 hx2
      obtain ⟨gd, cd, evx, _, _⟩ := (HM.out.data x hxm).form (by omega)
      rw [evx, hx2] at cy
      obtain ⟨g, c, evd⟩ := HM.out.vd_is
      have hn1 := HM.out.ok.n1
      have hwf := wf_of (b := x.1) (by omega) (by omega)
      cases hkk : (fun _ => true) k with
      | true =>
        have HS : Aside0 (settled (fun _ => true) s.pend s.dur (k + 1) = lay (settled (fun _ => true) s.pend s.dur k) x.1 x.2.1) := ⟨by rw [settled_step HM.out.pendIs hx]; exact if_pos hkk⟩
        have hkk2 := hkk
        go_wp2
        have M1 := HM.out.below (w' := wr.alloc (.cells #[.int .i64 x.1, .slice (some ⟨gd, 0, none⟩) 512 cd] 176)) (below_alloc (Below.refl _ _) _)
        have hv := heap_at wr (.cells #[.int .i64 x.1, .slice (some ⟨gd, 0, none⟩) 512 cd] 176)
        have C1 : Chg F w (wr.alloc (.cells #[.int .i64 x.1, .slice (some ⟨gd, 0, none⟩) 512 cd] 176)) := HC.out.trans (Chg.ofBelow (below_alloc (Below.refl _ _) _))
        obtain ⟨W1, hW1⟩ : ∃ W1, W1 = wr.alloc (.cells #[.int .i64 x.1, .slice (some ⟨gd, 0, none⟩) 512 cd] 176) := ⟨_, rfl⟩
        rw [← hW1] at M1 hv C1 ⊢
        clear hW1
        have v0 := (blk_cell hv 0).trans rfl
        have v1 := (blk_cell hv 1).trans rfl
        obtain ⟨cur, hcur, hcs⟩ := M1.dur_cells evd
        have M2 : Mid lk W1.drew p s (settled (fun _ => true) s.pend s.dur k) (left L.ps (lastV L.ps) k) F L := M1.move (Nat.le_refl _) (fun _ _ => rfl)
        have C2 : Chg F w W1.drew := ⟨C1.os, C1.tape, C1.output, C1.size, C1.block⟩
        have hB := block_at M2 evd x.1 ⟨hx0, hx1⟩
        have hdl := M1.ok.len
        go_still_tail 6, (by kernel_rfl)
        still_call hB
        repeat still_step
        refine wpStill_nil ?_
        change wpList _ _ _ _ _ W1.drew
        refine wpList_copy_own rfl (.tmp 22) (.tmp 24) 57 57 rfl 5 Tryz.underlying57 (by kernel_rfl) g (x.1.toNat * 512) 512 (c - x.1.toNat * 512) ⟨gd, 0, none⟩ 512 cd rfl rfl cur 5 hcur (nums .u8 x.2.1) (by rw [nums_length, hx2]; rfl) ?_ (by rw [nums_length]; omega) (by simp [nums, Value.oneCell']) ?_
        · intro j v hj
          have := (M2.data x hxm)
          rw [evx] at this
          exact this.cells rfl j v hj
        have M3 := M2.laid evd ⟨hx0, hx1⟩ hx2 hcur
        have hgF : F g := M2.ind g (by rw [evd]; rfl)
        have hnF : ¬ F wr.heap.size := fun q => by have := HM.out.lt _ q; omega
        have hgn : wr.heap.size ≠ g := fun q => hnF (q ▸ hgF)
        have C3 : Chg F W1.drew (W1.drew.setRow g (cur.toList.take (x.1.toNat * 512) ++ (nums .u8 x.2.1 ++ cur.toList.drop (x.1.toNat * 512 + (nums .u8 x.2.1).length))).toArray) :=
          ⟨rfl, rfl, rfl, by simp [World.setRow], fun q _ hq => setRow_other _ g q _ fun q' => hq (q' ▸ hgF)⟩
        have hv3 := (setRow_other W1.drew g wr.heap.size (cur.toList.take (x.1.toNat * 512) ++ (nums .u8 x.2.1 ++ cur.toList.drop (x.1.toNat * 512 + (nums .u8 x.2.1).length))).toArray hgn).trans hv
        obtain ⟨W3, hW3⟩ : ∃ W3, W3 = W1.drew.setRow g (cur.toList.take (x.1.toNat * 512) ++ (nums .u8 x.2.1 ++ cur.toList.drop (x.1.toNat * 512 + (nums .u8 x.2.1).length))).toArray := ⟨_, rfl⟩
        rw [← hW3] at M3 C3 hv3 ⊢
        clear hW3
        have C3' := C2.trans C3
        clear v0 v1
        have v0 := (blk_cell hv3 0).trans rfl
        have v1 := (blk_cell hv3 1).trans rfl
        have c4 := M3.c4
        go_wp2
        have MD : Mid lk W3.drew p s _ _ F L := M3.move (Nat.le_refl _) (fun _ _ => rfl)
        have CD : Chg F w W3.drew := ⟨C3'.os, C3'.tape, C3'.output, C3'.size, C3'.block⟩
        go_still_tail 6, (by kernel_rfl)
        change wpList _ _ _ _ _ W3.drew
        refine wpList_drop rfl (.tmp 29) (.tmp 31) 113 3 rfl 57 Tryz.underlying113 Tryz.underlying3 L.bm _ MD.map x.1 hwf rfl rfl ?_
        intro W5 m5 o5 t5 u5 s5 k5
        have M5 := MD.mapped m5 s5 k5
        have C5 : Chg F w W5 := CD.trans ⟨o5, t5, u5, by omega, fun q _ hq => k5 q fun q2 => hq (q2 ▸ MD.inm)⟩
        go_wp2
        refine ⟨⟨k + 1, by omega, by go_num, ⟨?_⟩, ⟨C5⟩⟩, by simp [intOf]; omega⟩
        rw [HS.out, left_step hx]
        exact M5
      | false =>
        simp at hkk
    · obtain rfl : k = L.ps.length := by omega
      have c3 := HM.out.c3
      have f3 := HM.out.fz 3
      go_wp2
      go_end0
      refine ⟨rfl, ⟨_, HM.out.done (left_all _) ?_⟩, HC.out.trans (Chg.set h.inp)⟩
      show _ = settled _ s.pend s.dur s.pend.length
      rw [hpl]

set_option maxHeartbeats 4000000 in
set_option maxRecDepth 100000 in
theorem settle_Crash1 {lk : Int} {w : World} {p : Nat} {s : DS} {F : Nat → Prop} {L : Lay} (h : DevL lk w p s F L) (kb : Nat) (Ak : Option Addr) (ck : Nat) (ks : List Bool) (hkb : w.heap[kb]? = some (.cells #[.slice Ak ks.length ck] 84 (0, 0))) (hkF : ¬ F kb) (hkr : ReadsOf Value.bool false w Ak ks.length ks) (hkA : ∀ a, Ak = some a → 0 < ks.length → ¬ F a.block) : Calls Tryz.prog 79 #[.pointer (some ⟨p, 0, none⟩), .func (.func 80) #[] #[.pointer (some ⟨kb, 0, none⟩)]] w fun e w' => e = .returned (.tuple #[]) ∧ (∃ L', DevL lk w' p (s.settle (fun i => ks.getD i false)) F L') ∧ Chg F w w' := by
  have hm := h.mid
  have c3 := hm.c3
  obtain ⟨Ap, cp, evp⟩ := own_slice hm.pend
  rw [evp] at c3
  have hpl : s.pend.length = L.ps.length := by rw [hm.pendIs]; simp
  have hps : L.ps.length ≤ 9223372036854775807 := by
    rcases hm.pend.2 with ⟨_, h1⟩ | ⟨g, cap, cur, h1, h2, h3, h4, h5, _⟩
    · omega
    · simp only [maxLen] at h5; omega
  go_enter Tryz.func79, Tryz.ntmps79
  go_wp2
  go_loopw [11] (fun i wr => ∃ k : Nat, k ≤ L.ps.length ∧ i = .int .i64 (k : Int) ∧ Aside0 (Mid lk wr p s (settled (fun i => ks.getD i false) s.pend s.dur k) (left L.ps (lastV L.ps) k) F L) ∧ Aside0 (Chg F w wr)) (fun i _ => L.ps.length - (intOf i).toNat)
  case atStart => exact ⟨0, Nat.zero_le _, rfl, ⟨hm⟩, ⟨Chg.refl _ _⟩⟩
  case round =>
    obtain ⟨k, hk, rfl, HM, HC⟩ := hrel
    by_cases hlt : k < L.ps.length
    · have hlti : ((k : Int) < (L.ps.length : Int)) := by omega
      obtain ⟨x, hx⟩ : ∃ x, L.ps[k]? = some x := ⟨_, List.getElem?_eq_getElem hlt⟩
      have hxm : x ∈ L.ps := List.mem_of_getElem? hx
      have hp := HM.out.pend
      rw [evp] at hp
      obtain ⟨gp, cap, e, hgb, hgl⟩ := hp.form (by omega)
      cases e
      have cx := hp.cells (g := gp) rfl _ _ (pcells_at hx).1
      have cy := hp.cells (g := gp) rfl _ _ (pcells_at hx).2
      rw [add_plain] at cx cy
      have hxb := HM.out.ok.pend (x.1, x.2.1) (by rw [HM.out.pendIs]; exact List.mem_map.2 ⟨x, hxm, rfl⟩)
      obtain ⟨hx0, hx1, hx2⟩ := hxb
      simp only at hx0 hx1 hx2
      obtain ⟨gd, cd, evx, _, _⟩ := (HM.out.data x hxm).form (by omega)
      rw [evx, hx2] at cy
      obtain ⟨g, c, evd⟩ := HM.out.vd_is
      have hn1 := HM.out.ok.n1
      have hwf := wf_of (b := x.1) (by omega) (by omega)
      cases hkk : (fun i => ks.getD i false) k with
      | true =>
        have HS : Aside0 (settled (fun i => ks.getD i false) s.pend s.dur (k + 1) = lay (settled (fun i => ks.getD i false) s.pend s.dur k) x.1 x.2.1) := ⟨by rw [settled_step HM.out.pendIs hx]; exact if_pos hkk⟩
        have hlkb : kb < w.heap.size := (Array.getElem?_eq_some_iff.1 hkb).1; have hkbw := (HC.out.block kb hlkb hkF).trans hkb; have hkrw := reads_of_chg hkr HC.out hkA; have hkb2 : ∀ o, (wr.alloc o).heap[kb]? = some (.cells #[.slice Ak ks.length ck] 84 (0, 0)) := (fun o => (Below.heap_alloc wr o kb (by have := HC.out.size; omega)).trans hkbw); have hkr2 : ∀ o, ReadsOf Value.bool false (wr.alloc o) Ak ks.length ks := (fun o => reads_of_chg (F := fun _ => False) hkrw (Chg.ofBelow (below_alloc (Below.refl _ _) o)) (fun _ _ _ h => h)); have hkk2 : ks.getD k false = _ := hkk
        go_wp2_with (go_at_call 80; refine (keep_some _ kb Ak ck ks (hkb2 _) (hkr2 _) k).mono ?_; rw [hkk2]; rintro e w9 ⟨rfl, rfl⟩)
        have M1 := HM.out.below (w' := wr.alloc (.cells #[.int .i64 x.1, .slice (some ⟨gd, 0, none⟩) 512 cd] 176)) (below_alloc (Below.refl _ _) _)
        have hv := heap_at wr (.cells #[.int .i64 x.1, .slice (some ⟨gd, 0, none⟩) 512 cd] 176)
        have C1 : Chg F w (wr.alloc (.cells #[.int .i64 x.1, .slice (some ⟨gd, 0, none⟩) 512 cd] 176)) := HC.out.trans (Chg.ofBelow (below_alloc (Below.refl _ _) _))
        obtain ⟨W1, hW1⟩ : ∃ W1, W1 = wr.alloc (.cells #[.int .i64 x.1, .slice (some ⟨gd, 0, none⟩) 512 cd] 176) := ⟨_, rfl⟩
        rw [← hW1] at M1 hv C1 ⊢
        clear hW1
        have v0 := (blk_cell hv 0).trans rfl
        have v1 := (blk_cell hv 1).trans rfl
        obtain ⟨cur, hcur, hcs⟩ := M1.dur_cells evd
        have M2 : Mid lk W1.drew p s (settled (fun i => ks.getD i false) s.pend s.dur k) (left L.ps (lastV L.ps) k) F L := M1.move (Nat.le_refl _) (fun _ _ => rfl)
        have C2 : Chg F w W1.drew := ⟨C1.os, C1.tape, C1.output, C1.size, C1.block⟩
        have hB := block_at M2 evd x.1 ⟨hx0, hx1⟩
        have hdl := M1.ok.len
        go_still_tail 6, (by kernel_rfl)
        still_call hB
        repeat still_step
        refine wpStill_nil ?_
        change wpList _ _ _ _ _ W1.drew
        refine wpList_copy_own rfl (.tmp 22) (.tmp 24) 57 57 rfl 5 Tryz.underlying57 (by kernel_rfl) g (x.1.toNat * 512) 512 (c - x.1.toNat * 512) ⟨gd, 0, none⟩ 512 cd rfl rfl cur 5 hcur (nums .u8 x.2.1) (by rw [nums_length, hx2]; rfl) ?_ (by rw [nums_length]; omega) (by simp [nums, Value.oneCell']) ?_
        · intro j v hj
          have := (M2.data x hxm)
          rw [evx] at this
          exact this.cells rfl j v hj
        have M3 := M2.laid evd ⟨hx0, hx1⟩ hx2 hcur
        have hgF : F g := M2.ind g (by rw [evd]; rfl)
        have hnF : ¬ F wr.heap.size := fun q => by have := HM.out.lt _ q; omega
        have hgn : wr.heap.size ≠ g := fun q => hnF (q ▸ hgF)
        have C3 : Chg F W1.drew (W1.drew.setRow g (cur.toList.take (x.1.toNat * 512) ++ (nums .u8 x.2.1 ++ cur.toList.drop (x.1.toNat * 512 + (nums .u8 x.2.1).length))).toArray) :=
          ⟨rfl, rfl, rfl, by simp [World.setRow], fun q _ hq => setRow_other _ g q _ fun q' => hq (q' ▸ hgF)⟩
        have hv3 := (setRow_other W1.drew g wr.heap.size (cur.toList.take (x.1.toNat * 512) ++ (nums .u8 x.2.1 ++ cur.toList.drop (x.1.toNat * 512 + (nums .u8 x.2.1).length))).toArray hgn).trans hv
        obtain ⟨W3, hW3⟩ : ∃ W3, W3 = W1.drew.setRow g (cur.toList.take (x.1.toNat * 512) ++ (nums .u8 x.2.1 ++ cur.toList.drop (x.1.toNat * 512 + (nums .u8 x.2.1).length))).toArray := ⟨_, rfl⟩
        rw [← hW3] at M3 C3 hv3 ⊢
        clear hW3
        have C3' := C2.trans C3
        clear v0 v1
        have v0 := (blk_cell hv3 0).trans rfl
        have v1 := (blk_cell hv3 1).trans rfl
        have c4 := M3.c4
        go_wp2
        have MD : Mid lk W3.drew p s _ _ F L := M3.move (Nat.le_refl _) (fun _ _ => rfl)
        have CD : Chg F w W3.drew := ⟨C3'.os, C3'.tape, C3'.output, C3'.size, C3'.block⟩
        go_still_tail 6, (by kernel_rfl)
        change wpList _ _ _ _ _ W3.drew
        refine wpList_drop rfl (.tmp 29) (.tmp 31) 113 3 rfl 57 Tryz.underlying113 Tryz.underlying3 L.bm _ MD.map x.1 hwf rfl rfl ?_
        intro W5 m5 o5 t5 u5 s5 k5
        have M5 := MD.mapped m5 s5 k5
        have C5 : Chg F w W5 := CD.trans ⟨o5, t5, u5, by omega, fun q _ hq => k5 q fun q2 => hq (q2 ▸ MD.inm)⟩
        go_wp2
        refine ⟨⟨k + 1, by omega, by go_num, ⟨?_⟩, ⟨C5⟩⟩, by simp [intOf]; omega⟩
        rw [HS.out, left_step hx]
        exact M5
      | false =>
        have hlkb : kb < w.heap.size := (Array.getElem?_eq_some_iff.1 hkb).1; have hkbw := (HC.out.block kb hlkb hkF).trans hkb; have hkrw := reads_of_chg hkr HC.out hkA; have hkb2 : ∀ o, (wr.alloc o).heap[kb]? = some (.cells #[.slice Ak ks.length ck] 84 (0, 0)) := (fun o => (Below.heap_alloc wr o kb (by have := HC.out.size; omega)).trans hkbw); have hkr2 : ∀ o, ReadsOf Value.bool false (wr.alloc o) Ak ks.length ks := (fun o => reads_of_chg (F := fun _ => False) hkrw (Chg.ofBelow (below_alloc (Below.refl _ _) o)) (fun _ _ _ h => h)); have hkk2 : ks.getD k false = _ := hkk
        go_wp2_with (go_at_call 80; refine (keep_some _ kb Ak ck ks (hkb2 _) (hkr2 _) k).mono ?_; rw [hkk2]; rintro e w9 ⟨rfl, rfl⟩)
        have M1 := HM.out.below (w' := wr.alloc (.cells #[.int .i64 x.1, .slice (some ⟨gd, 0, none⟩) 512 cd] 176)) (below_alloc (Below.refl _ _) _)
        have hv := heap_at wr (.cells #[.int .i64 x.1, .slice (some ⟨gd, 0, none⟩) 512 cd] 176)
        have C1 : Chg F w (wr.alloc (.cells #[.int .i64 x.1, .slice (some ⟨gd, 0, none⟩) 512 cd] 176)) := HC.out.trans (Chg.ofBelow (below_alloc (Below.refl _ _) _))
        obtain ⟨W1, hW1⟩ : ∃ W1, W1 = wr.alloc (.cells #[.int .i64 x.1, .slice (some ⟨gd, 0, none⟩) 512 cd] 176) := ⟨_, rfl⟩
        rw [← hW1] at M1 hv C1 ⊢
        clear hW1
        have v0 := (blk_cell hv 0).trans rfl
        have v1 := (blk_cell hv 1).trans rfl
        have c4 := M1.c4
        go_wp2
        have MD : Mid lk W1.drew p s _ _ F L := M1.move (Nat.le_refl _) (fun _ _ => rfl)
        have CD : Chg F w W1.drew := ⟨C1.os, C1.tape, C1.output, C1.size, C1.block⟩
        go_still_tail 6, (by kernel_rfl)
        change wpList _ _ _ _ _ W1.drew
        refine wpList_drop rfl (.tmp 29) (.tmp 31) 113 3 rfl 57 Tryz.underlying113 Tryz.underlying3 L.bm _ MD.map x.1 hwf rfl rfl ?_
        intro W5 m5 o5 t5 u5 s5 k5
        have M5 := MD.mapped m5 s5 k5
        have C5 : Chg F w W5 := CD.trans ⟨o5, t5, u5, by omega, fun q _ hq => k5 q fun q2 => hq (q2 ▸ MD.inm)⟩
        go_wp2
        refine ⟨⟨k + 1, by omega, by go_num, ⟨?_⟩, ⟨C5⟩⟩, by simp [intOf]; omega⟩
        rw [settled_step M5.pendIs hx, left_step hx, if_neg (by rw [hkk]; simp)]
        exact M5
    · obtain rfl : k = L.ps.length := by omega
      have c3 := HM.out.c3
      have f3 := HM.out.fz 3
      go_wp2
      go_end0
      refine ⟨rfl, ⟨_, HM.out.done (left_all _) ?_⟩, HC.out.trans (Chg.set h.inp)⟩
      show _ = settled _ s.pend s.dur s.pend.length
      rw [hpl]

end Go.Proofs.YtlhlmjkocmahmaaGreatDoor.Dev
/- Flush, Crash. -/
namespace Go.Proofs.YtlhlmjkocmahmaaGreatDoor.Dev
open Go.Proofs Go.RowKit Go.Proofs.YtlhlmjkocmahmaaGreatDoorW.PrintWords Go.Proofs.YtlhlmjkocmahmaaGreatDoorW.PrintLast Go.Proofs.YtlhlmjkocmahmaaGreatDoorW.PrintMore Go.Proofs.YtlhlmjkocmahmaaGreatDoor.IMap Go.Proofs.YtlhlmjkocmahmaaGreatDoor.Locks
set_option linter.unusedVariables false
set_option linter.unusedSimpArgs false
set_option maxHeartbeats 1000000 in
theorem flush_any {w : World} {p : Nat} {s : DS} {F : Nat → Prop} (h : Dev w p s F) : Calls Tryz.prog 97 #[.pointer (some ⟨p, 0, none⟩)] w fun e w' => e = .returned (.int .i64 s.flush.1) ∧ Dev w' p s.flush.2 F ∧ Chg F w w' := by
  obtain ⟨L, h⟩ := h
  go_enter_defers Tryz.func97, Tryz.ntmps97
  go_wp2_with fail
  refine (Go.MuLone.lock_free muLib ⟨p, 0, none⟩ _ h.c0 (h.fz 0)).mono ?_
  rintro e w1 ⟨rfl, hw1⟩
  have h1 : DevL 1 w1 p s F L := by rw [hw1]; exact h.lock
  have k1 : Chg F w w1 := by rw [hw1]; exact Chg.set h.inp
  clear hw1
  cases hw : s.powered.1 with
  | false =>
    have e : s.flush = (3, s.powered.2) := by simp [DS.flush, hw]
    go_wp2_with (go_at_call 113; refine (powered_in h1).mono ?_; rw [hw]; rintro e w4 ⟨rfl, h4, k4⟩)
    refine leaves_cons (f := 78) (args := #[.pointer (some ⟨p, 0, none⟩)]) (by simp) (by simp [go_sem]) ?_
    refine (Go.MuLone.unlock_deferred muLib ⟨p, 0, none⟩ .returning _ h4.c0 (h4.fz 0)).mono ?_
    rintro e u2 w2 ⟨rfl, rfl, hw2⟩
    have h2 := h4.lock (lk' := 0)
    rw [← hw2] at h2
    have k2 := h4.chg0 (.int .i32 0)
    rw [← hw2] at k2
    clear hw2
    refine ⟨_, results_tmp rfl _ _ _, ?_⟩
    rw [e]
    exact ⟨rfl, ⟨_, h2⟩, (k1.trans k4).trans k2⟩
  | true =>
    have e : s.flush = (0, s.powered.2.settle fun _ => true) := by simp [DS.flush, hw]
    go_wp2_with (first | (go_at_call 113; refine (powered_in h1).mono ?_; rw [hw]; rintro e w4 ⟨rfl, h4, k4⟩) | (go_at_call 79; refine (settle_Flush1 h4).mono ?_; rintro e w5 ⟨rfl, ⟨L5, h5⟩, k5⟩))
    refine leaves_cons (f := 78) (args := #[.pointer (some ⟨p, 0, none⟩)]) (by simp) (by simp [go_sem]) ?_
    refine (Go.MuLone.unlock_deferred muLib ⟨p, 0, none⟩ .returning _ h5.c0 (h5.fz 0)).mono ?_
    rintro e u2 w2 ⟨rfl, rfl, hw2⟩
    have h2 := h5.lock (lk' := 0)
    rw [← hw2] at h2
    have k2 := h5.chg0 (.int .i32 0)
    rw [← hw2] at k2
    clear hw2
    refine ⟨_, results_tmp rfl _ _ _, ?_⟩
    rw [e]
    exact ⟨rfl, ⟨_, h2⟩, ((k1.trans k4).trans k5).trans k2⟩
theorem blk_up2 {w : World} {n : Nat} {x : Obj} (h : w.heap[n]? = some x) (o : Obj) : (w.alloc o).heap[n]? = some x := (Below.heap_alloc w o n (Array.getElem?_eq_some_iff.1 h).1).trans h
theorem crashed {lk : Int} {w : World} {p : Nat} {s : DS} {F : Nat → Prop} {L : Lay} (h : DevL lk w p s F L) :
    DevL lk ((w.setCell ⟨p, 5, none⟩ (.bool false)).setCell ⟨p, 6, none⟩ (.int .i64 0)) p { s with off := false, fuse := 0 } F L := by
  have ok1 : DS.Ok { s with off := false } := ⟨h.ok.n0, h.ok.n1, h.ok.len, h.ok.pend, h.ok.fuse0, h.ok.fuse1⟩
  exact (h.cell (s' := { s with off := false }) (i := 5) rfl rfl rfl rfl ok1).cell (i := 6) rfl rfl rfl rfl ⟨h.ok.n0, h.ok.n1, h.ok.len, h.ok.pend, by simp, by simp⟩
set_option maxHeartbeats 1000000 in
theorem crash_any {w : World} {p : Nat} {s : DS} {F : Nat → Prop} (h : Dev w p s F) (A : Option Addr) (c : Nat) (ks : List Bool) (hr : ReadsOf Value.bool false w A ks.length ks) (hA : ∀ a, A = some a → 0 < ks.length → ¬ F a.block) :
    Calls Tryz.prog 43 #[.pointer (some ⟨p, 0, none⟩), .slice A ks.length c] w fun e w' => e = .returned (.tuple #[]) ∧ Dev w' p (s.crash ks) F ∧ Chg F w w' := by
  obtain ⟨L, h0⟩ := h
  have hmf : ∀ (fn : Fn) (first cap : Array Value) (w : World), (Instr.makeFunc fn first cap).run Tryz.prog w = .ok (.func fn first cap) w := fun _ _ _ _ => rfl
  have hb := heap_at w (.cells #[.slice A ks.length c] 84)
  have hbF : ¬ F w.heap.size := fun q => by have := h0.lt _ q; omega
  go_enter_defers Tryz.func43, Tryz.ntmps43
  go_wp2_with fail
  have h : DevL 0 (w.alloc (.cells #[.slice A ks.length c] 84)) p s F L := h0.move (below_alloc (Below.refl _ _) _).size fun k hk => Below.heap_alloc w _ k (h0.lt k hk)
  refine (Go.MuLone.lock_free muLib ⟨p, 0, none⟩ _ h.c0 (h.fz 0)).mono ?_
  rintro e w1 ⟨rfl, hw1⟩
  have h1 : DevL 1 w1 p s F L := by rw [hw1]; exact h.lock
  have k0 : Chg F w (w.alloc (.cells #[.slice A ks.length c] 84)) := Chg.ofBelow (below_alloc (Below.refl _ _) _)
  have k1' : Chg F (w.alloc (.cells #[.slice A ks.length c] 84)) w1 := by rw [hw1]; exact Chg.set h.inp
  clear hw1
  have hb1 := (k1'.block w.heap.size (by rw [World.size_alloc]; omega) hbF).trans hb
  have k1 := k0.trans k1'
  have hr1 := reads_of_chg hr k1 hA
  go_wp2_with (go_at_call 79; refine (settle_Crash1 h1 w.heap.size A c ks hb1 hbF hr1 hA).mono ?_; rintro e w5 ⟨rfl, ⟨L5, h5⟩, k5⟩; have c55 := h5.c5; have c56 := h5.c6; have f55 := h5.fz 5; have f56 := h5.fz 6)
  have h6 := crashed h5
  refine leaves_cons (f := 78) (args := #[.pointer (some ⟨p, 0, none⟩)]) (by simp) (by simp [go_sem]) ?_
  refine (Go.MuLone.unlock_deferred muLib ⟨p, 0, none⟩ .returning _ h6.c0 (h6.fz 0)).mono ?_
  rintro e u2 w2 ⟨rfl, rfl, hw2⟩
  have h2 := h6.lock (lk' := 0)
  rw [← hw2] at h2
  have k2 := h6.chg0 (.int .i32 0)
  rw [← hw2] at k2
  clear hw2
  exact ⟨_, results_none rfl _ _ _, rfl, ⟨_, h2⟩, ((k1.trans k5).trans ((Chg.set h.inp).trans (Chg.set h.inp))).trans k2⟩
end Go.Proofs.YtlhlmjkocmahmaaGreatDoor.Dev
/- Pending. -/
namespace Go.Proofs.YtlhlmjkocmahmaaGreatDoor.Dev
open Go.Proofs Go.RowKit Go.Proofs.YtlhlmjkocmahmaaGreatDoorW.PrintWords Go.Proofs.YtlhlmjkocmahmaaGreatDoorW.PrintLast Go.Proofs.YtlhlmjkocmahmaaGreatDoorW.PrintMore Go.Proofs.YtlhlmjkocmahmaaGreatDoor.IMap Go.Proofs.YtlhlmjkocmahmaaGreatDoor.Locks
set_option linter.unusedVariables false
set_option linter.unusedSimpArgs false
/-- A list of writes that was handed out: memory of its own. -/
structure Pends (w : World) (B : Nat) (v : Value) (l : List (Int × List Int)) (qs : List (Int × List Int × Value)) : Prop where
  is : l = qs.map fun x => (x.1, x.2.1)
  row : w.ownsRow B 176 2 v qs.length (pcells qs)
  data : ∀ x ∈ qs, w.ownsRow B 5 1 x.2.2 x.2.1.length (nums .u8 x.2.1)
  apart : qs.Pairwise fun x y => x.2.2.ownBlock = none ∨ x.2.2.ownBlock ≠ y.2.2.ownBlock
theorem Pends.below {w w' : World} {B : Nat} {v : Value} {l : List (Int × List Int)} {qs : List (Int × List Int × Value)} (h : Pends w B v l qs) (hb : Below w.heap.size w w') : Pends w' B v l qs :=
  ⟨h.is, pw_own_below h.row hb, fun x hx => pw_own_below (h.data x hx) hb, h.apart⟩
theorem pends_step {W2 w9 w10 : World} {B k cv : Nat} {u3 v9 : Value} {s : DS} {ps qs : List (Int × List Int × Value)} {x : Int × List Int × Value} {Av : Option Addr} (h : Pends W2 B u3 (s.pend.take k) qs) (hp : s.pend = ps.map fun x => (x.1, x.2.1)) (hx : ps[k]? = some x) (hx2 : x.2.1.length = 512) (hql : qs.length = k)
    (hb9 : Below W2.drew.heap.size W2.drew w9) (hown : w9.ownsRow W2.drew.heap.size 5 1 (.slice Av 512 cv) 512 (nums .u8 x.2.1)) (ho : w10.ownsRow 0 176 2 v9 (k + 1) (pcells qs ++ [.int .i64 x.1, .slice Av 512 cv]))
    (hg : w9.grownBy w10 u3.ownBlock) (hat : v9.ownBlock = u3.ownBlock ∨ ∃ b, v9.ownBlock = some b ∧ w9.heap.size ≤ b) (hB : B ≤ W2.heap.size) : Pends w10 B v9 (s.pend.take (k + 1)) (qs ++ [(x.1, x.2.1, .slice Av 512 cv)]) := by
  have hs9 : W2.heap.size ≤ w9.heap.size := hb9.size
  have hrow9 : w9.ownsRow B 176 2 u3 qs.length (pcells qs) := pw_own_below (w := W2.drew) h.row hb9
  have up : ∀ {base n : Nat} {v : Value} {xs : List Value}, w9.ownsRow base 5 1 v n xs → w10.ownsRow base 5 1 v n xs := fun hv => own_move hv fun q hq => hg.block q (own_lt hv q hq) fun e => own_two hv hrow9 (by decide) q hq e.symm
  have hk : k < s.pend.length := by rw [hp, List.length_map]; exact (List.getElem?_eq_some_iff.1 hx).1
  refine ⟨?_, ?_, ?_, ?_⟩
  · rw [List.take_succ_eq_append_getElem hk, List.map_append, ← h.is]
    have : s.pend[k] = (x.1, x.2.1) := by
      have e : s.pend[k]? = some (x.1, x.2.1) := by rw [hp, List.getElem?_map, hx]; rfl
      rw [List.getElem?_eq_getElem hk] at e
      exact Option.some.inj e
    rw [this]
    rfl
  · have e1 : (qs ++ [(x.1, x.2.1, Value.slice Av 512 cv)]).length = k + 1 := by simp [hql]
    rw [e1, pcells_append]
    refine own_up ho fun q hq => ?_
    rcases hat with h1 | ⟨b, h1, h2⟩
    · exact own_base h.row q (h1 ▸ hq)
    · have : b = q := by
        have := h1.symm.trans hq
        cases this
        rfl
      omega
  · intro y hy
    rcases List.mem_append.1 hy with h1 | h1
    · exact up (pw_own_below (w := W2.drew) (h.data y h1) hb9)
    · rw [List.mem_singleton.1 h1]
      show w10.ownsRow B 5 1 (.slice Av 512 cv) x.2.1.length (nums .u8 x.2.1)
      rw [hx2]
      exact own_weaken (up hown) hB
  · refine List.pairwise_append.2 ⟨h.apart, List.pairwise_singleton _ _, fun y hy z hz => ?_⟩
    rw [List.mem_singleton.1 hz]
    cases hyb : y.2.2.ownBlock with
    | none => exact .inl rfl
    | some q =>
      refine .inr fun e => ?_
      have h1 := own_lt (h.data y hy) q hyb
      have h2 := own_base hown q e.symm
      have h3 : W2.drew.heap.size = W2.heap.size := rfl
      omega
theorem cell_grown {W w1 : World} {row : Option Nat} {a : Addr} {v : Value} (hg : W.grownBy w1 row) (hne : some a.block ≠ row) (h : W.cell? a = some v) : w1.cell? a = some v :=
  (World.cell?_of_block (hg.block a.block (World.block_lt_of_cell? W _ h) hne)).trans h
theorem ka {w : World} {a : Addr} {v : Value} (h : w.cell? a = some v) (o : Obj) : (w.alloc o).cell? a = some v := pw_cell_below (below_alloc (Below.refl _ _) o) h
theorem kd {w : World} {a : Addr} {v : Value} (h : w.cell? a = some v) : w.drew.cell? a = some v := h
end Go.Proofs.YtlhlmjkocmahmaaGreatDoor.Dev
/- What a device is, without a world: the plain law. -/
namespace Go.Proofs.YtlhlmjkocmahmaaGreatDoor.Help
open Go.Proofs Go.RowKit Go.Proofs.YtlhlmjkocmahmaaGreatDoorW.PrintWords Go.Proofs.YtlhlmjkocmahmaaGreatDoorW.PrintLast Go.Proofs.YtlhlmjkocmahmaaGreatDoorW.PrintMore Go.Proofs.YtlhlmjkocmahmaaGreatDoor.IMap Go.Proofs.YtlhlmjkocmahmaaGreatDoor.Dev
set_option linter.unusedVariables false
set_option linter.unusedSimpArgs false
theorem settled_same {k1 k2 : Nat → Bool} {ps : List (Int × List Int)} {d : List Int} : ∀ i, (∀ j, j < i → k1 j = k2 j) → settled k1 ps d i = settled k2 ps d i := by
  intro i
  induction i with
  | zero => intro _; rfl
  | succ i ih =>
    intro h
    unfold settled
    rw [ih (fun j hj => h j (by omega)), h i (by omega)]
theorem settle_n {s : DS} (h : s.Ok) (keep : Nat → Bool) : (s.settle keep).n = s.n := by
  have hl : (s.settle keep).dur.length = s.dur.length := length_settled h.len h.pend _ (Nat.le_refl _)
  unfold DS.n
  rw [hl]
theorem write_ok {s : DS} (h : s.Ok) {b : Int} {d : List Int} (hb : 0 ≤ b ∧ b < (s.n : Int)) (hd : d.length = 512) : ({ s with pend := s.pend ++ [(b, d)] } : DS).Ok :=
  ⟨h.n0, h.n1, h.len, fun x hx => by
    rcases List.mem_append.1 hx with h1 | h1
    · exact h.pend x h1
    · rw [List.mem_singleton.1 h1]; exact ⟨hb.1, hb.2, hd⟩, h.fuse0, h.fuse1⟩
/-! ### a write laid byte by byte -/
theorem splice_nil (d : List Int) (o : Nat) : splice d o [] = d := by simp [splice]
theorem splice_step (d x : List Int) (o k : Nat) (hk : k < x.length) (h : o + x.length ≤ d.length) : (splice d o (x.take k)).set (o + k) (x.getD k 0) = splice d o (x.take (k + 1)) := by
  unfold splice
  have e1 : (d.take o).length = o := by simp; omega
  have e2 : (x.take k).length = k := by simp; omega
  rw [List.set_append, if_neg (by omega), e1, show o + k - o = k by omega, List.set_append, if_neg (by omega), e2, Nat.sub_self, List.take_succ_eq_append_getElem hk]
  have e3 : (x.take k ++ [x[k]]).length = k + 1 := by simp; omega
  rw [e3, List.append_assoc]
  have hok : o + k < d.length := by omega
  have e4 : d.drop (o + k) = d[o + k] :: d.drop (o + (k + 1)) := List.drop_eq_getElem_cons hok
  rw [e4, List.set_cons_zero]
  simp [List.getD_eq_getElem?_getD, List.getElem?_eq_getElem hk]
theorem settled_past {ks : List Bool} {ps : List (Int × List Int)} {d : List Int} {i : Nat} (h : ks.length ≤ i) : ∀ m, settled (fun j => ks.getD j false) ps d (i + m) = settled (fun j => ks.getD j false) ps d i := by
  intro m
  induction m with
  | zero => rfl
  | succ m ih =>
    show (if ks.getD (i + m) false then _ else settled (fun j => ks.getD j false) ps d (i + m)) = _
    have e : ks.getD (i + m) false = false := by rw [List.getD_eq_getElem?_getD, List.getElem?_eq_none (by omega)]; rfl
    rw [e, if_neg (by simp), ih]
theorem settled_end {ks : List Bool} {ps : List (Int × List Int)} {d : List Int} {i : Nat} (h : i = ps.length ∨ (i ≤ ps.length ∧ ks.length ≤ i)) : settled (fun j => ks.getD j false) ps d i = settled (fun j => ks.getD j false) ps d ps.length := by
  rcases h with rfl | ⟨h1, h2⟩
  · rfl
  · have := settled_past (ps := ps) (d := d) h2 (ps.length - i)
    rw [show i + (ps.length - i) = ps.length by omega] at this
    exact this.symm
theorem crash_dur {s : DS} {ks : List Bool} : (s.crash ks).dur = settled (fun j => ks.getD j false) s.pend s.dur s.pend.length := rfl
theorem settled_no {ks : List Bool} {ps : List (Int × List Int)} {d : List Int} {i : Nat} (h : ks.getD i false = false) : settled (fun j => ks.getD j false) ps d (i + 1) = settled (fun j => ks.getD j false) ps d i := by
  show (if ks.getD i false then _ else settled (fun j => ks.getD j false) ps d i) = _
  rw [h, if_neg (by simp)]
theorem settled_yes {ks : List Bool} {ps : List (Int × List Int)} {d : List Int} {i : Nat} {x : Int × List Int} (h : ks.getD i false = true) (hx : ps[i]? = some x) : settled (fun j => ks.getD j false) ps d (i + 1) = splice (settled (fun j => ks.getD j false) ps d i) (x.1.toNat * 512) x.2 := by
  show (if ks.getD i false then lay (settled (fun j => ks.getD j false) ps d i) (ps.getD i (0, [])).1 (ps.getD i (0, [])).2 else _) = _
  rw [h, if_pos rfl, List.getD_eq_getElem?_getD, hx]
  rfl
structure Fit (N : Nat) (s : DS) (k : Nat) : Prop where
  ok : s.Ok
  n : s.n = N
  few : s.pend.length ≤ k
theorem Fit.up {N : Nat} {s : DS} {k m : Nat} (h : Fit N s k) (hm : k ≤ m) : Fit N s m := ⟨h.ok, h.n, Nat.le_trans h.few hm⟩
theorem powered_n (s : DS) : s.powered.2.n = s.n := by unfold DS.n; rw [powered_dur]
theorem Fit.powered {N : Nat} {s : DS} {k : Nat} (h : Fit N s k) : Fit N s.powered.2 k := ⟨h.ok.powered, (powered_n s).trans h.n, by rw [powered_pend]; exact h.few⟩
theorem Fit.write {N : Nat} {s : DS} {k : Nat} (h : Fit N s k) (b : Int) (d : List Int) : Fit N (s.write b d).2 (k + 1) := by
  unfold DS.write
  split
  · rename_i hb
    split
    · rename_i hd
      split
      · refine ⟨write_ok h.powered.ok (by rw [powered_n]; exact hasB_iff.1 hb) hd, h.powered.n, ?_⟩
        have := h.powered.few
        show (s.powered.2.pend ++ [_]).length ≤ k + 1
        rw [List.length_append]
        simp
        omega
      · exact h.powered.up (Nat.le_succ k)
    · exact h.up (Nat.le_succ k)
  · exact h.up (Nat.le_succ k)
theorem Fit.settle {N : Nat} {s : DS} {k : Nat} (h : Fit N s k) (keep : Nat → Bool) : Fit N (s.settle keep) k := ⟨h.ok.settle _, (settle_n h.ok _).trans h.n, Nat.zero_le _⟩
theorem Fit.flush {N : Nat} {s : DS} {k : Nat} (h : Fit N s k) : Fit N s.flush.2 (k + 1) := by
  unfold DS.flush
  split
  · exact (h.powered.settle _).up (Nat.le_succ k)
  · exact h.powered.up (Nat.le_succ k)
theorem Fit.crash {N : Nat} {s : DS} {k : Nat} (h : Fit N s k) (ks : List Bool) : Fit N (s.crash ks) k := by
  have := h.settle (fun i => ks.getD i false)
  exact ⟨⟨this.ok.n0, this.ok.n1, this.ok.len, this.ok.pend, Int.le_refl 0, by show (0 : Int) < _; omega⟩, this.n, this.few⟩
theorem Fit.arm {N : Nat} {s : DS} {k : Nat} (h : Fit N s k) (a : Int) (ha : a < 9223372036854775808) : Fit N (s.arm a).2 k := by
  unfold DS.arm
  split
  · exact h
  · split
    · exact h
    · exact ⟨⟨h.ok.n0, h.ok.n1, h.ok.len, h.ok.pend, by simp; omega, by simp; omega⟩, h.n, h.few⟩
theorem lastD_mem {s : DS} {b : Int} {d : List Int} (h : s.lastD b = some d) : ∃ x ∈ s.pend, x.2 = d ∧ x.1 = b := by
  unfold DS.lastD at h
  cases hf : s.pend.reverse.find? (fun x => x.1 == b) with
  | none => rw [hf] at h; cases h
  | some x =>
    rw [hf] at h
    have h1 := List.mem_of_find?_eq_some hf
    have h2 := List.find?_some hf
    exact ⟨x, List.mem_reverse.1 h1, Option.some.inj h, by simpa using h2⟩
theorem read_len {s : DS} (h : s.Ok) (b : Int) : (s.read b).1.length ≤ 512 := by
  unfold DS.read
  split
  · split
    · exact Nat.zero_le _
    · show ((s.lastD b).getD (s.blk b)).length ≤ 512
      cases hl : s.lastD b with
      | none => simp [DS.blk]; omega
      | some d =>
        obtain ⟨x, hx, rfl, _⟩ := lastD_mem hl
        have := (h.pend x hx).2.2
        simp [this]
  · exact Nat.zero_le _
theorem Fit.few_ {N : Nat} {s : DS} {k : Nat} (h : Fit N s k) (hk : k ≤ 1000000) : s.pend.length ≤ 1000000000000 := by have := h.few; omega
theorem Fit.dur {N : Nat} {s : DS} {k : Nat} (h : Fit N s k) : s.dur.length = 512 * N := by have h1 := h.ok.len; rw [h.n] at h1; exact h1
theorem fit_of {N : Nat} {s : DS} {k : Nat} (h : Fit N s k) : fit s.dur = true := by
  have h1 := h.dur
  have h2 := h.ok.n0
  have h3 := h.ok.n1
  rw [h.n] at h2 h3
  simp [fit]
  omega
theorem crash_nil_is {s : DS} : s.crash [] = DS.made s.dur := by
  have h : ∀ i, settled (fun i => ([] : List Bool).getD i false) s.pend s.dur i = s.dur := by
    intro i
    induction i with
    | zero => rfl
    | succ i ih =>
      show (if ([] : List Bool).getD i false then _ else settled _ s.pend s.dur i) = _
      rw [show ([] : List Bool).getD i false = false from rfl, if_neg (by simp)]
      exact ih
  have h1 : (s.crash []).dur = s.dur := h _
  have h2 : s.crash [] = ⟨(s.crash []).dur, [], false, 0⟩ := rfl
  rw [h2, h1]
  rfl
theorem Fit.pend_lens {N : Nat} {s : DS} {k : Nat} (h : Fit N s k) : ∀ x ∈ s.pend, x.2.length ≤ 140737488355328 := fun x hx => by have := (h.ok.pend x hx).2.2; omega
theorem write_512 {w : World} {p : Nat} {s : DS} {F : Nat → Prop} (h : Dev w p s F) (b : Int) (A : Option Addr) (c : Nat) (l : List Int) (hl : l.length = 512) (hr : ReadsInt w .u8 A 512 l) (hA : ∀ a, A = some a → 0 < 512 → ¬ F a.block) (hp : s.pend.length ≤ 1000000000000) :
    Calls Tryz.prog 87 #[.pointer (some ⟨p, 0, none⟩), .int .i64 b, .slice A 512 c] w fun e w' => e = .returned (.int .i64 (s.write b l).1) ∧ Dev w' p (s.write b l).2 (grow F w w') ∧ Chg F w w' := by
  have := write_any h b A c l (by rw [hl]; exact hr) (by rw [hl]; exact hA) (by rw [hl]; decide) hp
  rw [hl] at this
  exact this
end Go.Proofs.YtlhlmjkocmahmaaGreatDoor.Help
/- The device's methods and the laws' helpers, told of a list of things that lie apart. -/
namespace Go.Proofs.YtlhlmjkocmahmaaGreatDoor.Sep
open Go.Proofs Go.RowKit Go.Proofs.YtlhlmjkocmahmaaGreatDoorW.PrintWords Go.Proofs.YtlhlmjkocmahmaaGreatDoorW.PrintLast Go.Proofs.YtlhlmjkocmahmaaGreatDoorW.PrintMore Go.Proofs.YtlhlmjkocmahmaaGreatDoor.IMap Go.Proofs.YtlhlmjkocmahmaaGreatDoor.Dev Go.Proofs.YtlhlmjkocmahmaaGreatDoor.Help
set_option linter.unusedVariables false
set_option linter.unusedSimpArgs false
/-- A device. -/
def DevA (p : Nat) (s : DS) : Asn where
  H w F := Dev w p s F
  move := fun {w w' F} h hk => by
    obtain ⟨L, h⟩ := h
    exact ⟨L, ⟨(hk p h.inp).trans h.cells, own_move h.dur fun k e => hk k (h.ind k e), own_move h.pend fun k e => hk k (h.inq k e), h.pendIs, fun x hx => own_move (h.data x hx) fun k e => hk k (h.inx x hx k e), h.apart,
      h.map.move (hk _ h.inm), h.ok, h.inp, h.inm, h.ind, h.inq, h.inx, fun k e => lt_move (h.lt k e) (hk k e)⟩⟩
  lt := fun h => h.lt
section
variable {w0 w w' : World} {p : Nat} {s : DS} {R : List Asn}
theorem Sep.ok (S : Sep w0 w (DevA p s :: R)) : s.Ok := by
  obtain ⟨F, h, _⟩ := S.hd
  exact Dev.ok h
/-- A call that changes a device within its blocks. -/
theorem Sep.dev_step {s' : DS} {F : Nat → Prop} (hf : ∀ (w' : World) (Q : List Asn), Star Q w' (grow F w w') → Chg F w w' → Sep w0 w' (Q ++ R)) (d : Dev w' p s' F) (c : Chg F w w') : Sep w0 w' (DevA p s' :: R) :=
  hf w' [DevA p s'] (Star.one (A := DevA p s') d fun k hk => .inl hk) c
theorem Sep.dev_grow {s' : DS} {F : Nat → Prop} (hf : ∀ (w' : World) (Q : List Asn), Star Q w' (grow F w w') → Chg F w w' → Sep w0 w' (Q ++ R)) (d : Dev w' p s' (grow F w w')) (c : Chg F w w') : Sep w0 w' (DevA p s' :: R) :=
  hf w' [DevA p s'] (Star.one (A := DevA p s') d fun k hk => hk) c
theorem Sep.dev_row {e : TypeId} {size n : Nat} {v : Value} {xs : List Value} {F : Nat → Prop} (hF : ∀ k, F k → k < w.heap.size) (hf : ∀ (w' : World) (Q : List Asn), Star Q w' (grow F w w') → Chg F w w' → Sep w0 w' (Q ++ R)) (d : Dev w' p s F) (c : Chg F w w') (h : w'.ownsRow w.heap.size e size v n xs) :
    Sep w0 w' (Own e size v n xs :: DevA p s :: R) := by
  refine hf w' [Own e size v n xs, DevA p s] (Star.two (A := Own e size v n xs) (B := DevA p s) (G := fun k => v.ownBlock = some k) (G' := F) ⟨own_weaken h (Nat.zero_le _), fun k hk => hk, fun k hk => own_lt h k hk⟩ (fun k hk => .inr ⟨own_base h k hk, own_lt h k hk⟩) d fun k hk => ⟨.inl hk, fun hv => ?_⟩) c
  have := own_base h k hv
  have := hF k hk
  omega
theorem new_s (S : Sep w0 w R) (n : Nat) (h0 : 1 ≤ n) (h1 : n ≤ 4096) : Calls Tryz.prog 52 #[.int .i64 (n : Int)] w fun e w' => ∃ q, e = .returned (.pointer (some ⟨q, 0, none⟩)) ∧ Sep w0 w' (DevA q (DS.made (List.replicate (512 * n) 0)) :: R) := by
  refine (new_any w n h0 h1).mono ?_
  rintro e w' ⟨q, rfl, d, b⟩
  exact ⟨q, rfl, S.new b (A := DevA q _) d fun k hk => hk.1⟩
def ImageP (d : List Int) (w0 : World) (R : List Asn) (e : Ending) (w' : World) : Prop := if fit d then ∃ q, e = .returned (.tuple #[.pointer (some ⟨q, 0, none⟩), .int .i64 0]) ∧ Sep w0 w' (DevA q (DS.made d) :: R) else e = .returned (.tuple #[.pointer none, .int .i64 51]) ∧ Sep w0 w' R
theorem image_s (S : Sep w0 w R) (A : Option Addr) (c : Nat) (d : List Int) (hr : ReadsInt w .u8 A d.length d) : Calls Tryz.prog 41 #[.slice A d.length c] w (ImageP d w0 R) := by
  refine (image_any w A c d hr).mono ?_
  rintro e w' ⟨h, b⟩
  unfold ImageP
  unfold ImagePost at h
  split
  · rename_i hfit
    rw [if_pos hfit] at h
    obtain ⟨q, rfl, d⟩ := h
    exact ⟨q, rfl, S.new b (A := DevA q _) d fun k hk => hk.1⟩
  · rename_i hfit
    rw [if_neg hfit] at h
    exact ⟨h, S.calm b⟩
theorem image_yes_s (S : Sep w0 w R) (A : Option Addr) (n c : Nat) (d : List Int) (hn : d.length = n) (hr : ReadsInt w .u8 A n d) (hfit : fit d = true) : Calls Tryz.prog 41 #[.slice A n c] w fun e w' => ∃ q, e = .returned (.tuple #[.pointer (some ⟨q, 0, none⟩), .int .i64 0]) ∧ Sep w0 w' (DevA q (DS.made d) :: R) := by
  subst hn
  refine (image_s S A c d hr).mono ?_
  intro e w' h
  unfold ImageP at h
  rw [if_pos hfit] at h
  exact h
/-- Written out of a row of one's own. -/
theorem write_s {A : Option Addr} {c : Nat} {l : List Int} (S : Sep w0 w (DevA p s :: Byt A 512 c l :: R)) (b : Int) (hp : s.pend.length ≤ 1000000000000) :
    Calls Tryz.prog 87 #[.pointer (some ⟨p, 0, none⟩), .int .i64 b, .slice A 512 c] w fun e w' => e = .returned (.int .i64 (s.write b l).1) ∧ Sep w0 w' (DevA p (s.write b l).2 :: Byt A 512 c l :: R) := by
  obtain ⟨F, G, hd, hb, hne, _, hf⟩ := S.pair
  have hr : ReadsInt w .u8 A 512 l := own_reads' hb.1
  have hl : l.length = 512 := by have := hb.1.1; simpa [nums] using this
  refine (write_512 (show Dev w p s F from hd) b A c l hl hr (fun a e _ => hne _ (hb.2.1 _ (by rw [e]; rfl))) hp).mono ?_
  rintro e w' ⟨rfl, d, c⟩
  exact ⟨rfl, Sep.dev_grow hf d c⟩
/-- Written out of memory that was there before. -/
theorem write_old {A : Option Addr} {c : Nat} {l : List Int} (S : Sep w0 w (DevA p s :: R)) (b : Int) (hr : ReadsInt w .u8 A l.length l) (hA : ∀ a, A = some a → 0 < l.length → a.block < w0.heap.size) (hl : l.length ≤ 140737488355328) (hp : s.pend.length ≤ 1000000000000) :
    Calls Tryz.prog 87 #[.pointer (some ⟨p, 0, none⟩), .int .i64 b, .slice A l.length c] w fun e w' => e = .returned (.int .i64 (s.write b l).1) ∧ Sep w0 w' (DevA p (s.write b l).2 :: R) := by
  obtain ⟨F, hd, hlow, hf⟩ := S.one
  refine (write_any (show Dev w p s F from hd) b A c l hr (fun a e h hF => by have := hlow _ hF; have := hA a e h; omega) hl hp).mono ?_
  rintro e w' ⟨rfl, d, c⟩
  exact ⟨rfl, Sep.dev_grow hf d c⟩
theorem write_nil (S : Sep w0 w (DevA p s :: R)) (b : Int) (hp : s.pend.length ≤ 1000000000000) :
    Calls Tryz.prog 87 #[.pointer (some ⟨p, 0, none⟩), .int .i64 b, .slice none 0 0] w fun e w' => e = .returned (.int .i64 (s.write b []).1) ∧ Sep w0 w' (DevA p (s.write b []).2 :: R) :=
  write_old S (A := none) (c := 0) (l := []) b ⟨rfl, by decide, fun h => absurd h (Nat.lt_irrefl 0)⟩ (fun a h => by cases h) (Nat.zero_le _) hp
/-- Written out of a part of something that lies apart. -/
theorem write_part {B : Asn} {A : Option Addr} {c : Nat} {l : List Int} (S : Sep w0 w (DevA p s :: B :: R)) (b : Int) (hB : ∀ G, B.H w G → ReadsInt w .u8 A l.length l ∧ ∀ a, A = some a → 0 < l.length → G a.block) (hl : l.length ≤ 140737488355328) (hp : s.pend.length ≤ 1000000000000) :
    Calls Tryz.prog 87 #[.pointer (some ⟨p, 0, none⟩), .int .i64 b, .slice A l.length c] w fun e w' => e = .returned (.int .i64 (s.write b l).1) ∧ Sep w0 w' (DevA p (s.write b l).2 :: B :: R) := by
  obtain ⟨F, G, hd, hb, hne, _, hf⟩ := S.pair
  obtain ⟨hr, hA⟩ := hB G hb
  refine (write_any (show Dev w p s F from hd) b A c l hr (fun a e h hF => hne _ (hA a e h) hF) hl hp).mono ?_
  rintro e w' ⟨rfl, d, c⟩
  exact ⟨rfl, Sep.dev_grow hf d c⟩
theorem read_s (S : Sep w0 w (DevA p s :: R)) (b : Int) : Calls Tryz.prog 82 #[.pointer (some ⟨p, 0, none⟩), .int .i64 b] w fun e w' => ∃ A c, e = .returned (.tuple #[.slice A (s.read b).1.length c, .int .i64 (s.read b).2]) ∧ Sep w0 w' (Byt A (s.read b).1.length c (s.read b).1 :: DevA p s :: R) := by
  obtain ⟨F, hd, hlow, hf⟩ := S.one
  refine (read_any (show Dev w p s F from hd) b).mono ?_
  rintro e w' ⟨v, rfl, ho, d, c⟩
  obtain ⟨A, c', rfl⟩ := own_slice ho
  exact ⟨A, c', rfl, Sep.dev_row (Dev.lt hd) hf d c ho⟩
theorem durable_s (S : Sep w0 w (DevA p s :: R)) : Calls Tryz.prog 42 #[.pointer (some ⟨p, 0, none⟩)] w fun e w' => ∃ A c, e = .returned (.slice A s.dur.length c) ∧ Sep w0 w' (Byt A s.dur.length c s.dur :: DevA p s :: R) := by
  obtain ⟨F, hd, hlow, hf⟩ := S.one
  refine (durable_any (show Dev w p s F from hd)).mono ?_
  rintro e w' ⟨v, rfl, ho, d, c⟩
  obtain ⟨A, c', rfl⟩ := own_slice ho
  exact ⟨A, c', rfl, Sep.dev_row (Dev.lt hd) hf d c ho⟩
theorem flush_s (S : Sep w0 w (DevA p s :: R)) : Calls Tryz.prog 97 #[.pointer (some ⟨p, 0, none⟩)] w fun e w' => e = .returned (.int .i64 s.flush.1) ∧ Sep w0 w' (DevA p s.flush.2 :: R) := by
  obtain ⟨F, hd, hlow, hf⟩ := S.one
  refine (flush_any (show Dev w p s F from hd)).mono ?_
  rintro e w' ⟨rfl, d, c⟩
  exact ⟨rfl, Sep.dev_step hf d c⟩
theorem power_s (S : Sep w0 w (DevA p s :: R)) : Calls Tryz.prog 90 #[.pointer (some ⟨p, 0, none⟩)] w fun e w' => e = .returned (.bool (!s.off)) ∧ Sep w0 w' (DevA p s :: R) := by
  obtain ⟨F, hd, hlow, hf⟩ := S.one
  refine (power_any (show Dev w p s F from hd)).mono ?_
  rintro e w' ⟨rfl, d, c⟩
  exact ⟨rfl, Sep.dev_step hf d c⟩
theorem size_s (S : Sep w0 w (DevA p s :: R)) : Calls Tryz.prog 102 #[.pointer (some ⟨p, 0, none⟩)] w fun e w' => e = .returned (.int .i64 (s.n : Int)) ∧ w' = w := by
  obtain ⟨F, hd, hlow⟩ := S.hd
  obtain ⟨L, h⟩ := (show Dev w p s F from hd)
  exact size_in h
theorem crash_nil (S : Sep w0 w (DevA p s :: R)) : Calls Tryz.prog 43 #[.pointer (some ⟨p, 0, none⟩), .slice none 0 0] w fun e w' => e = .returned (.tuple #[]) ∧ Sep w0 w' (DevA p (s.crash []) :: R) := by
  obtain ⟨F, hd, hlow, hf⟩ := S.one
  refine (crash_any (show Dev w p s F from hd) none 0 [] ⟨rfl, by decide, fun h => absurd h (Nat.lt_irrefl 0)⟩ (fun a h => by cases h)).mono ?_
  rintro e w' ⟨rfl, d, c⟩
  exact ⟨rfl, Sep.dev_step hf d c⟩
/-- Kept as a list says that was there before. -/
theorem crash_old (S : Sep w0 w (DevA p s :: R)) (A : Option Addr) (c : Nat) (ks : List Bool) (hr : ReadsOf Value.bool false w A ks.length ks) (hA : ∀ a, A = some a → 0 < ks.length → a.block < w0.heap.size) : Calls Tryz.prog 43 #[.pointer (some ⟨p, 0, none⟩), .slice A ks.length c] w fun e w' => e = .returned (.tuple #[]) ∧ Sep w0 w' (DevA p (s.crash ks) :: R) := by
  obtain ⟨F, hd, hlow, hf⟩ := S.one
  refine (crash_any (show Dev w p s F from hd) A c ks hr (fun a e h hF => by have := hlow _ hF; have := hA a e h; omega)).mono ?_
  rintro e w' ⟨rfl, d, c⟩
  exact ⟨rfl, Sep.dev_step hf d c⟩
theorem crash_part {B : Asn} (S : Sep w0 w (DevA p s :: B :: R)) (A : Option Addr) (c : Nat) (ks : List Bool) (hB : ∀ G, B.H w G → ReadsOf Value.bool false w A ks.length ks ∧ ∀ a, A = some a → 0 < ks.length → G a.block) : Calls Tryz.prog 43 #[.pointer (some ⟨p, 0, none⟩), .slice A ks.length c] w fun e w' => e = .returned (.tuple #[]) ∧ Sep w0 w' (DevA p (s.crash ks) :: B :: R) := by
  obtain ⟨F, G, hd, hb, hne, _, hf⟩ := S.pair
  obtain ⟨hr, hA⟩ := hB G hb
  refine (crash_any (show Dev w p s F from hd) A c ks hr (fun a e h hF => hne _ (hA a e h) hF)).mono ?_
  rintro e w' ⟨rfl, d, c⟩
  exact ⟨rfl, Sep.dev_step hf d c⟩
end
/-! ### lists of writes that were handed out -/
def PendA (v : Value) (l : List (Int × List Int)) (qs : List (Int × List Int × Value)) : Asn where
  H w F := Pends w 0 v l qs ∧ (∀ k, v.ownBlock = some k → F k) ∧ (∀ x ∈ qs, ∀ k, x.2.2.ownBlock = some k → F k) ∧ ∀ k, F k → k < w.heap.size
  move := fun h hk => ⟨⟨h.1.is, own_move h.1.row fun k e => hk k (h.2.1 k e), fun x hx => own_move (h.1.data x hx) fun k e => hk k (h.2.2.1 x hx k e), h.1.apart⟩, h.2.1, h.2.2.1, fun k hf => lt_move (h.2.2.2 k hf) (hk k hf)⟩
  lt := fun h => h.2.2.2
section
variable {w0 w w' : World} {p : Nat} {s : DS} {R : List Asn}
theorem pends_base {w : World} {B : Nat} {v : Value} {l : List (Int × List Int)} {qs : List (Int × List Int × Value)} (h : Pends w B v l qs) : (PendA v l qs).H w (fun k => B ≤ k ∧ k < w.heap.size) :=
  ⟨⟨h.is, own_weaken h.row (Nat.zero_le _), fun x hx => own_weaken (h.data x hx) (Nat.zero_le _), h.apart⟩, fun k e => ⟨own_base h.row k e, own_lt h.row k e⟩, fun x hx k e => ⟨own_base (h.data x hx) k e, own_lt (h.data x hx) k e⟩, fun k hk => hk.2⟩
/-- An element of such a list. -/
theorem Sep.pend_at {A : Option Addr} {n c : Nat} {l : List (Int × List Int)} {qs : List (Int × List Int × Value)} (S : Sep w0 w (PendA (.slice A n c) l qs :: R)) (hl : l.length = n) (i : Nat) (hi : i < n) :
    ∃ g x, A = some ⟨g, 0, none⟩ ∧ qs[i]? = some x ∧ l[i]? = some (x.1, x.2.1) ∧ w.cell? ⟨g, i * 2, none⟩ = some (.int .i64 x.1) ∧ w.cell? ⟨g, i * 2 + 1, none⟩ = some x.2.2 ∧ w.ownsRow w0.heap.size 5 1 x.2.2 x.2.1.length (nums .u8 x.2.1) := by
  obtain ⟨F, h, hs⟩ := S.hd
  have hP := h.1
  have hq : qs.length = n := by rw [← hl, hP.is, List.length_map]
  have hx : qs[i]? = some qs[i] := List.getElem?_eq_getElem (by omega)
  have hrow := hP.row
  rw [hq] at hrow
  obtain ⟨g, cap, e, _, _⟩ := hrow.form (by omega)
  cases e
  have c1 := hrow.cells (g := g) rfl _ _ (pcells_at hx).1
  have c2 := hrow.cells (g := g) rfl _ _ (pcells_at hx).2
  rw [add_plain] at c1 c2
  refine ⟨g, qs[i], rfl, hx, ?_, c1, c2, ?_⟩
  · rw [hP.is, List.getElem?_map, hx]; rfl
  · have hm := List.mem_of_getElem? hx
    exact own_up (hP.data _ hm) fun k e => hs k (h.2.2.1 _ hm k e)
end
section
variable {w0 w w' : World} {R : List Asn}
theorem bools_in {A : Option Addr} {ks : List Bool} (h : Kd.C Kd.bool w0 A ks.length ks) (hb : Below w0.heap.size w0 w) : ReadsOf Value.bool false w A ks.length ks ∧ ∀ a, A = some a → 0 < ks.length → a.block < w0.heap.size := by
  have h1 := Kd.reads_of_C (d := false) h
  refine ⟨⟨h1.1, h1.2.1, fun hn => ?_⟩, fun a e hn => ?_⟩
  · obtain ⟨ad, e, hr⟩ := h1.2.2 hn
    exact ⟨ad, e, fun j hj => pw_cell_below hb (hr j hj)⟩
  · obtain ⟨ad, e', hr⟩ := h1.2.2 hn
    have := World.block_lt_of_cell? _ _ (hr 0 hn)
    rw [Dev.add_block] at this
    rw [e] at e'
    cases e'
    exact this
end
end Go.Proofs.YtlhlmjkocmahmaaGreatDoor.Sep
