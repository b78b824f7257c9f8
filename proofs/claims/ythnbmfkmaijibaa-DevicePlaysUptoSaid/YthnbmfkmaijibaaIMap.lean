/- A map with int keys, as a function from its keys to its values; the laws of its operations. -/
import Derived.Test.YthnbmfkmaijibaaProg
import Derived.Maps.Keyed
import Derived.Maps.OwnSet
namespace Go.Proofs.Ythnbmfkmaijibaa.IMap
open Go.Proofs Go.ChangeMaps Go.MapKept Go.Maps
/-- What the entries hold. -/
structure Holds (es : List MapEntry) (m : Int → Option Value) : Prop where
  keys : ∀ (i : Nat) (e : MapEntry), es[i]? = some e → ∃ a, e.key = .int .i64 a ∧ (Lit.int .i64 a).wf = true
  apart : ∀ (i j : Nat) (e f : MapEntry), es[i]? = some e → es[j]? = some f → e.key = f.key → i = j
  is : ∀ k v, m k = some v ↔ ∃ (i : Nat) (e : MapEntry), es[i]? = some e ∧ e.key = .int .i64 k ∧ e.val = v
theorem Holds.no {es : List MapEntry} {m : Int → Option Value} (h : Holds es m) {k : Int} (hk : ∀ e ∈ es, e.key ≠ .int .i64 k) : m k = none := by
  cases hm : m k with
  | none => rfl
  | some v =>
    obtain ⟨i, e, h1, h2, _⟩ := (h.is k v).1 hm
    exact absurd h2 (hk e (List.mem_of_getElem? h1))
def upd (m : Int → Option Value) (k : Int) (o : Option Value) : Int → Option Value := fun x => if x = k then o else m x
theorem Holds.nil : Holds [] fun _ => none := ⟨by simp, by simp, by simp⟩
theorem Holds.push {es : List MapEntry} {m : Int → Option Value} (h : Holds es m) {k : Int} (hw : (Lit.int .i64 k).wf = true) (hk : ∀ e ∈ es, e.key ≠ .int .i64 k) (v : Value) (b : Nat) : Holds (es ++ [⟨.int .i64 k, v, b⟩]) (upd m k (some v)) := by
  have hat : ∀ (i : Nat) (e : MapEntry), (es ++ [(⟨.int .i64 k, v, b⟩ : MapEntry)])[i]? = some e → (es[i]? = some e) ∨ (i = es.length ∧ e = ⟨.int .i64 k, v, b⟩) := by
    intro i e he
    rw [List.getElem?_append] at he
    split at he
    · exact .inl he
    · rename_i hlt
      have : i - es.length = 0 := by
        by_cases h0 : i - es.length = 0
        · exact h0
        · rw [List.getElem?_eq_none (by simp; omega)] at he; cases he
      rw [this] at he
      simp at he
      exact .inr ⟨by omega, he.symm⟩
  refine ⟨?_, ?_, ?_⟩
  · intro i e he
    rcases hat i e he with h1 | ⟨_, rfl⟩
    · exact h.keys i e h1
    · exact ⟨k, rfl, hw⟩
  · intro i j e f he hf hef
    rcases hat i e he with h1 | ⟨rfl, rfl⟩ <;> rcases hat j f hf with h2 | ⟨rfl, rfl⟩
    · exact h.apart i j e f h1 h2 hef
    · exact absurd hef (hk e (List.mem_of_getElem? h1))
    · exact absurd hef.symm (hk f (List.mem_of_getElem? h2))
    · rfl
  · intro k' v'
    unfold upd
    by_cases e : k' = k
    · subst e
      rw [if_pos rfl]
      constructor
      · intro hv
        cases hv
        exact ⟨es.length, ⟨.int .i64 k', v, b⟩, by simp, rfl, rfl⟩
      · rintro ⟨i, e, h1, h2, rfl⟩
        rcases hat i e h1 with h3 | ⟨rfl, rfl⟩
        · exact absurd h2 (hk e (List.mem_of_getElem? h3))
        · rfl
    · rw [if_neg e, h.is]
      constructor
      · rintro ⟨i, e, h1, h2, h3⟩
        exact ⟨i, e, by rw [List.getElem?_append_left (List.getElem?_eq_some_iff.1 h1).1]; exact h1, h2, h3⟩
      · rintro ⟨i, e', h1, h2, h3⟩
        rcases hat i e' h1 with h4 | ⟨rfl, rfl⟩
        · exact ⟨i, e', h4, h2, h3⟩
        · simp at h2; exact absurd h2.symm e
theorem Holds.modify {es : List MapEntry} {m : Int → Option Value} (h : Holds es m) {k : Int} (hw : (Lit.int .i64 k).wf = true) {j : Nat} {e0 : MapEntry} (hj : es[j]? = some e0) (hk : e0.key = .int .i64 k) (v : Value) :
    Holds (es.modify j fun e => { e with key := .int .i64 k, val := v }) (upd m k (some v)) := by
  have hat : ∀ (i : Nat) (e : MapEntry), (es.modify j fun e => { e with key := .int .i64 k, val := v })[i]? = some e → (i ≠ j ∧ es[i]? = some e) ∨ (i = j ∧ e.key = .int .i64 k ∧ e.val = v) := by
    intro i e he
    rw [List.getElem?_modify] at he
    by_cases hij : j = i
    · subst hij
      rw [hj] at he
      simp at he
      subst he
      exact .inr ⟨rfl, rfl, rfl⟩
    · simp [hij] at he
      exact .inl ⟨fun x => hij x.symm, he⟩
  have hother : ∀ (i : Nat) (e : MapEntry), i ≠ j → es[i]? = some e → e.key ≠ .int .i64 k := fun i e hi he hek => hi (h.apart i j e e0 he hj (hek.trans hk.symm))
  refine ⟨?_, ?_, ?_⟩
  · intro i e he
    rcases hat i e he with ⟨_, h1⟩ | ⟨_, h1, _⟩
    · exact h.keys i e h1
    · exact ⟨k, h1, hw⟩
  · intro i i' e f he hf hef
    rcases hat i e he with ⟨n1, h1⟩ | ⟨rfl, h1, _⟩ <;> rcases hat i' f hf with ⟨n2, h2⟩ | ⟨rfl, h2, _⟩
    · exact h.apart i i' e f h1 h2 hef
    · exact absurd (hef.trans h2) (hother i e n1 h1)
    · exact absurd (hef.symm.trans h1) (hother i' f n2 h2)
    · rfl
  · intro k' v'
    unfold upd
    by_cases e : k' = k
    · subst e
      rw [if_pos rfl]
      constructor
      · intro hv
        cases hv
        exact ⟨j, { e0 with key := .int .i64 k', val := v }, by rw [List.getElem?_modify, hj]; simp, rfl, rfl⟩
      · rintro ⟨i, e, h1, h2, rfl⟩
        rcases hat i e h1 with ⟨n1, h3⟩ | ⟨_, _, h3⟩
        · exact absurd h2 (hother i e n1 h3)
        · rw [h3]
    · rw [if_neg e, h.is]
      constructor
      · rintro ⟨i, e', h1, h2, h3⟩
        have hij : j ≠ i := by
          rintro rfl
          rw [hj] at h1
          cases h1
          rw [hk] at h2
          simp at h2
          exact e h2.symm
        exact ⟨i, e', by rw [List.getElem?_modify]; simp [hij]; exact h1, h2, h3⟩
      · rintro ⟨i, e', h1, h2, h3⟩
        rcases hat i e' h1 with ⟨_, h4⟩ | ⟨_, h4, _⟩
        · exact ⟨i, e', h4, h2, h3⟩
        · rw [h4] at h2; simp at h2; exact absurd h2.symm e
theorem Holds.erase {es : List MapEntry} {m : Int → Option Value} (h : Holds es m) {k : Int} {j : Nat} {e0 : MapEntry} (hj : es[j]? = some e0) (hk : e0.key = .int .i64 k) : Holds (es.eraseIdx j) (upd m k none) := by
  have hat : ∀ (i : Nat) (e : MapEntry), (es.eraseIdx j)[i]? = some e → es[if i < j then i else i + 1]? = some e := by
    intro i e he
    rw [List.getElem?_eraseIdx] at he
    split at he
    · rename_i hlt; rw [if_pos hlt]; exact he
    · rename_i hlt; rw [if_neg hlt]; exact he
  have hto : ∀ (i : Nat) (e : MapEntry), i ≠ j → es[i]? = some e → ∃ i' : Nat, (es.eraseIdx j)[i']? = some e := by
    intro i e hi he
    by_cases hlt : i < j
    · exact ⟨i, by rw [List.getElem?_eraseIdx, if_pos hlt]; exact he⟩
    · refine ⟨i - 1, ?_⟩
      rw [List.getElem?_eraseIdx, if_neg (by omega), show i - 1 + 1 = i by omega]
      exact he
  refine ⟨fun i e he => h.keys _ e (hat i e he), ?_, ?_⟩
  · intro i i' e f he hf hef
    have := h.apart _ _ e f (hat i e he) (hat i' f hf) hef
    split at this <;> split at this <;> omega
  · intro k' v'
    unfold upd
    by_cases e : k' = k
    · subst e
      rw [if_pos rfl]
      constructor
      · intro hv; cases hv
      · rintro ⟨i, e, h1, h2, rfl⟩
        have h3 := hat i e h1
        have := h.apart _ _ e e0 h3 hj (h2.trans hk.symm)
        split at this <;> omega
    · rw [if_neg e, h.is]
      constructor
      · rintro ⟨i, e', h1, h2, h3⟩
        have hij : i ≠ j := by
          rintro rfl
          rw [hj] at h1
          cases h1
          rw [hk] at h2
          simp at h2
          exact e h2.symm
        obtain ⟨i', h4⟩ := hto i e' hij h1
        exact ⟨i', e', h4, h2, h3⟩
      · rintro ⟨i, e', h1, h2, h3⟩
        exact ⟨_, e', hat i e' h1, h2, h3⟩
theorem Holds.none_upd {es : List MapEntry} {m : Int → Option Value} (h : Holds es m) {k : Int} (hk : ∀ e ∈ es, e.key ≠ .int .i64 k) : Holds es (upd m k none) := by
  have : upd m k none = m := by
    funext x
    unfold upd
    by_cases e : x = k
    · rw [if_pos e, e, h.no hk]
    · rw [if_neg e]
  rw [this]
  exact h

/-- Block b of the world is a map that holds m. -/
def MapAt (w : World) (b : Nat) (m : Int → Option Value) : Prop := ∃ es clock, w.heap[b]? = some (.map es clock) ∧ Holds es.toList m
theorem MapAt.move {w w1 : World} {b : Nat} {m : Int → Option Value} (h : MapAt w b m) (e : w1.heap[b]? = w.heap[b]?) : MapAt w1 b m := by
  obtain ⟨es, c, h1, h2⟩ := h
  exact ⟨es, c, e.trans h1, h2⟩
theorem MapAt.lt {w : World} {b : Nat} {m : Int → Option Value} (h : MapAt w b m) : b < w.heap.size := by
  obtain ⟨es, c, h1, h2⟩ := h
  exact (Array.getElem?_eq_some_iff.1 h1).1
theorem MapAt.new (w : World) : MapAt (w.alloc (.map #[] 0)) w.heap.size fun _ => none := ⟨#[], 0, (MapKept.heap_alloc w _).1, Holds.nil⟩
theorem keysOf {P : Program} {k : TypeId} (hk : P.underlying k = some (.int .i64)) {es : List MapEntry} {m : Int → Option Value} (h : Holds es m) : ∀ e ∈ es, ∃ l, keyOf P k e.key = some l := by
  intro e he
  obtain ⟨i, hi⟩ := List.getElem?_of_mem he
  obtain ⟨a, h1, h2⟩ := h.keys i e hi
  exact ⟨_, by rw [h1]; exact keyOf_int_mk hk h2⟩
section
variable {P : Program} {t k e : TypeId} {w : World} {b : Nat} {m : Int → Option Value}
/-- `v, ok := m[x]` -/
theorem MapAt.look (h : MapAt w b m) (ht : P.underlying t = some (.map k e)) (hk : P.underlying k = some (.int .i64)) {z : Value} (hz : (zeroValue e).run P w = .ok z w) {x : Int} (hx : (Lit.int .i64 x).wf = true) :
    (Instr.lookup t (.map (some b)) (.int .i64 x) true).run P w = .ok (.tuple #[(m x).getD z, .bool (m x).isSome]) w := by
  obtain ⟨es, c, hb, H⟩ := h
  have K := int_keyed hk
  have hkey := keyOf_int_mk hk hx
  rcases K.find w hkey es.toList (keysOf hk H) with ⟨h1, h2⟩ | ⟨j, e0, h1, h2, h3⟩
  · rw [H.no h2]
    simp [Instr.lookup, run_underlying ht, MapKept.run_getObj_map hb, K.check w _ hkey, h1, hz, Result.andThen]
  · rw [(H.is x e0.val).2 ⟨j, e0, h2, h3, rfl⟩]
    simp [Instr.lookup, run_underlying ht, MapKept.run_getObj_map hb, K.check w _ hkey, h1, Result.andThen]
/-- `m[x] = v` -/
theorem MapAt.store (h : MapAt w b m) (ht : P.underlying t = some (.map k e)) (hk : P.underlying k = some (.int .i64)) {x : Int} (hx : (Lit.int .i64 x).wf = true) (v : Value) :
    ∃ w', (Instr.mapUpdate t (.map (some b)) (.int .i64 x) v).run P w = .ok () w' ∧ MapAt w' b (upd m x (some v)) ∧ w'.os = w.os ∧ w'.tape = w.tape ∧ w'.output = w.output ∧ w'.heap.size = w.heap.size ∧ ∀ i, i ≠ b → w'.heap[i]? = w.heap[i]? := by
  obtain ⟨es, c, hb, H⟩ := h
  have K := int_keyed hk
  have hkey := keyOf_int_mk hk hx
  rcases K.find w hkey es.toList (keysOf hk H) with ⟨h1, h2⟩ | ⟨j, e0, h1, h2, h3⟩
  · refine ⟨setBlock w b (.map (es.push ⟨.int .i64 x, v, c⟩) (c + 1)), ?_, ⟨_, _, heap_setBlock_same hb _, ?_⟩, rfl, rfl, rfl, by simp [setBlock], fun i hi => heap_setBlock_other hb _ hi⟩
    · simp [Instr.mapUpdate, run_underlying ht, MapKept.run_getObj_map hb, K.check w false hkey, h1, MapKept.run_setObj_map _ hb, Result.andThen, setBlock]
    · rw [Array.toList_push]
      exact H.push hx h2 v c
  · have hj : es[j]? = some e0 := by simpa using h2
    refine ⟨setBlock w b (.map (es.modify j fun e => { e with key := .int .i64 x, val := v }) c), ?_, ⟨_, _, heap_setBlock_same hb _, ?_⟩, rfl, rfl, rfl, by simp [setBlock], fun i hi => heap_setBlock_other hb _ hi⟩
    · simp [Instr.mapUpdate, run_underlying ht, MapKept.run_getObj_map hb, K.check w false hkey, h1, hj, h3, K.stays w hkey, MapKept.run_setObj_map _ hb, Result.andThen, setBlock]
    · rw [Array.toList_modify]
      exact H.modify hx h2 h3 v
/-- `delete(m, x)` -/
theorem MapAt.drop (h : MapAt w b m) (ht : P.underlying t = some (.map k e)) (hk : P.underlying k = some (.int .i64)) {x : Int} (hx : (Lit.int .i64 x).wf = true) (ty : TypeId) :
    ∃ w', (Builtin.delete_ #[t, k] ty #[.map (some b), .int .i64 x]).run P w = .ok (.tuple #[]) w' ∧ MapAt w' b (upd m x none) ∧ w'.os = w.os ∧ w'.tape = w.tape ∧ w'.output = w.output ∧ w'.heap.size = w.heap.size ∧ ∀ i, i ≠ b → w'.heap[i]? = w.heap[i]? := by
  obtain ⟨es, c, hb, H⟩ := h
  have K := int_keyed hk
  have hkey := keyOf_int_mk hk hx
  rcases K.find w hkey es.toList (keysOf hk H) with ⟨h1, h2⟩ | ⟨j, e0, h1, h2, h3⟩
  · refine ⟨setBlock w b (.map es c), ?_, ⟨_, _, heap_setBlock_same hb _, H.none_upd h2⟩, rfl, rfl, rfl, by simp [setBlock], fun i hi => heap_setBlock_other hb _ hi⟩
    simp [Builtin.delete_, run_underlying ht, MapKept.run_getObj_map hb, K.check w _ hkey, h1, MapKept.run_setObj_map _ hb, Result.andThen, setBlock]
  · have hjl : j < es.toList.length := (List.getElem?_eq_some_iff.1 h2).1
    have hjs : j < es.size := by simpa using hjl
    have hsub : (es.eraseIdxIfInBounds j).toList = es.toList.eraseIdx j := by
      unfold Array.eraseIdxIfInBounds
      rw [dif_pos hjs]
      simp
    refine ⟨setBlock w b (.map (es.eraseIdxIfInBounds j) c), ?_, ⟨_, _, heap_setBlock_same hb _, ?_⟩, rfl, rfl, rfl, by simp [setBlock], fun i hi => heap_setBlock_other hb _ hi⟩
    · simp [Builtin.delete_, run_underlying ht, MapKept.run_getObj_map hb, K.check w _ hkey, h1, MapKept.run_setObj_map _ hb, Result.andThen, setBlock]
    · rw [hsub]
      exact H.erase h2 h3
end
theorem wpList_drop {P : Program} {w : World} {ops : Array Oper} {rest : List Oper} {o : Oper} {a : Act} {Q : Exit → Act → World → Prop} (hg : o.guard = none) (mo xo : Operand) (t k : TypeId)
    (hop : o.op = Op.call { callee := Callee.builtin Builtin.delete, args := #[mo, xo], argTypes := #[t, k] }) (e : TypeId) (ht : P.underlying t = some (.map k e)) (hk : P.underlying k = some (.int .i64)) (b : Nat) (m : Int → Option Value) (h : MapAt w b m) (x : Int) (hw : (Lit.int .i64 x).wf = true)
    (hm : a.eval mo = .map (some b)) (hx : a.eval xo = .int .i64 x)
    (hK : ∀ w', MapAt w' b (upd m x none) → w'.os = w.os → w'.tape = w.tape → w'.output = w.output → w'.heap.size = w.heap.size → (∀ i, i ≠ b → w'.heap[i]? = w.heap[i]?) → wpList P ops Q rest (a.put o.dst (.tuple #[])) w') :
    wpList P ops Q (o :: rest) a w := by
  refine wpList_plain hg fun K' hK' => ?_
  obtain ⟨w', hrun, r1, r2, r3, r4, r5, r6⟩ := h.drop ht hk hw o.type
  unfold Oper.wp
  simp [execOp, hop, resolve, invoke, builtin, hm, hx, hrun, Result.andThen]
  exact hK' _ _ (hK w' r1 r2 r3 r4 r5 r6)
end Go.Proofs.Ythnbmfkmaijibaa.IMap
