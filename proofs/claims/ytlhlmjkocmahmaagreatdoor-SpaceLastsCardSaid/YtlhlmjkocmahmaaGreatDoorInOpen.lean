/- What comes in reads as Lean values: whole numbers, bools, slices, structs, to any depth; with its size. -/
import Derived.Test.YtlhlmjkocmahmaaGreatDoorRows
import Derived.Test.YtlhlmjkocmahmaaGreatDoorWWords
import Derived.SizedLaws
import Derived.ChangeSlices
import Derived.Deep.Slices
import Derived.Deep.CondSized
import Derived.OpenShut
namespace Go.Proofs.YtlhlmjkocmahmaaGreatDoor.In
open Go.ChangeShapes Go.WideShapes Go.Deep Go.Proofs.YtlhlmjkocmahmaaGreatDoorW.PrintWords
set_option linter.unusedVariables false
set_option linter.unusedSimpArgs false

def zsum {α : Type} (Z : α → Nat) : List α → Nat
  | [] => 0
  | x :: l => Z x + zsum Z l
theorem zsum_mem {α : Type} {Z : α → Nat} {x : α} {l : List α} (h : x ∈ l) : Z x ≤ zsum Z l := by
  induction l with
  | nil => cases h
  | cons y l ih =>
    simp only [zsum]
    cases List.mem_cons.1 h with
    | inl e => subst e; omega
    | inr e => have := ih e; omega
theorem zsum_len {α : Type} {Z : α → Nat} {l : List α} (h : ∀ x ∈ l, 1 ≤ Z x) : l.length ≤ zsum Z l := by
  induction l with
  | nil => exact Nat.zero_le _
  | cons y l ih =>
    simp only [zsum, List.length_cons]
    have := h y List.mem_cons_self
    have := ih (fun x hx => h x (List.mem_cons_of_mem _ hx))
    omega

/-- A reading of type t is of kind d: a Lean value v, of measure at most the reading's bulk, and good. -/
structure Opens {α : Type} (P : Program) (t : TypeId) (d : Kd α) (Z : α → Nat) (G : α → Prop) : Prop where
  sz : P.cellsOf t = d.sz
  one : ∀ v, 1 ≤ Z v
  out : ∀ {H : Type} {enc : TypeId × Value → H} {w : World} {base : Nat} {held : Bool} {fuel : Nat} {cs : List Value} {x : DataW H × List MemPlace},
    DataW.trod enc P w base (fun _ => true) held fuel t cs = some x → (∀ n ∈ x.1.weights P t, n ≤ 140737488351232) → ∃ v : α, d.K w v cs ∧ Z v ≤ Rows.uptoBulk x.1 ∧ G v

theorem opens_int {P : Program} {t : TypeId} {k : IntKind} (ht : P.underlying t = some (.int k)) (hc : P.cellsOf t = 1) : Opens P t (Kd.int k) (fun _ => 1) (fun v => (Lit.int k v).wf = true) where
  sz := hc
  one := fun _ => Nat.le_refl _
  out := by
    intro H enc w base held fuel cs x h _
    obtain ⟨n, rfl, rfl, hw⟩ := DataW.trod_int ht h
    exact ⟨n, rfl, Nat.le_refl _, hw⟩

theorem opens_bool {P : Program} {t : TypeId} (ht : P.underlying t = some .bool) (hc : P.cellsOf t = 1) : Opens P t Kd.bool (fun _ => 1) (fun _ => True) where
  sz := hc
  one := fun _ => Nat.le_refl _
  out := by
    intro H enc w base held fuel cs x h _
    obtain ⟨b, rfl, rfl⟩ := DataW.trod_bool ht h
    exact ⟨b, rfl, Nat.le_refl _, trivial⟩

theorem bulkAll_map {H : Type} (l : List Nat) (D : Nat → DataW H) (Z : Nat → Nat) (h : ∀ i ∈ l, Z i ≤ Rows.uptoBulk (D i)) : zsum Z l ≤ Rows.uptoBulkAll (l.map D) := by
  induction l with
  | nil => exact Nat.zero_le _
  | cons x l ih =>
    simp only [zsum, List.map_cons, Rows.uptoBulkAll]
    have := h x List.mem_cons_self
    have := ih (fun i hi => h i (List.mem_cons_of_mem _ hi))
    omega
theorem zsum_map {α β : Type} (Z : β → Nat) (f : α → β) (l : List α) : zsum Z (l.map f) = zsum (fun a => Z (f a)) l := by
  induction l with
  | nil => rfl
  | cons x l ih => simp only [List.map_cons, zsum, ih]
theorem weights_mem_all {H : Type} {P : Program} {e : TypeId} {d : DataW H} : ∀ {l : List (DataW H)}, d ∈ l → ∀ n ∈ d.weights P e, n ∈ DataW.weightsAll P e l
  | y :: l, h, n, hn => by
    simp only [DataW.weightsAll, List.mem_append]
    cases List.mem_cons.1 h with
    | inl e => subst e; exact .inl hn
    | inr e => exact .inr (weights_mem_all e n hn)

theorem cells_at {w : World} {base : Nat} {a : Addr} {n : Nat} {cs : List Value} (h : w.cells? base a n = some cs) : cs.length = n ∧ ∀ i u, cs[i]? = some u → w.cell? (a.add i) = some u := by
  obtain ⟨_, hl, hg⟩ := World.cells?_some h
  refine ⟨hl, fun i u hu => ?_⟩
  have hi : i < cs.length := (List.getElem?_eq_some_iff.1 hu).1
  have := hg i (by omega)
  rw [this, hu]

theorem opens_slice {α : Type} [Inhabited α] {P : Program} {t e : TypeId} {d : Kd α} {Z : α → Nat} {G : α → Prop} {B : Nat} (ht : P.underlying t = some (.slice e)) (hc : P.cellsOf t = 1) (hB : P.bytesOf e = B) (ho : Opens P e d Z G) :
    Opens P t (Kd.slice e d) (fun l => 1 + zsum Z l) (fun l => l.length * B ≤ 140737488351232 ∧ ∀ x ∈ l, G x) where
  sz := hc
  one := fun _ => by omega
  out := by
    intro H enc w base held fuel cs x h hwt
    rcases open_slice ht h with ⟨rfl, rfl⟩ | ⟨a, len, cap, m, n, D, Pl, rfl, hb, hl, hm, hmm, rfl, hx⟩
    · refine ⟨[], ⟨none, 0, rfl, Nat.le_refl _, rfl, Nat.zero_le _, fun h => by cases h⟩, ?_, by simp, by simp⟩
      simp [Rows.uptoBulk, zsum]
    · simp only [if_true] at hmm
      obtain rfl : m = cap := hmm
      have each : ∀ i, i < len → ∃ v : α, (∃ c, c.length = d.sz ∧ d.K w v c ∧ ∀ j u, c[j]? = some u → w.cell? (a.add (i * d.sz + j)) = some u) ∧ Z v ≤ Rows.uptoBulk (D i) ∧ G v := by
        intro i hi
        obtain ⟨c, h1, h2⟩ := hx i (by omega)
        obtain ⟨v, hK, hZ, hG⟩ := ho.out h2 (fun q hq => hwt q (by
          simp only [DataW.weights, ht, List.mem_cons, List.mem_append]
          exact .inr (.inl (weights_mem_all (List.mem_map.2 ⟨i, List.mem_range.2 hi, rfl⟩) q hq))))
        obtain ⟨hcl, hcc⟩ := cells_at h1
        refine ⟨v, ⟨c, by rw [hcl, ho.sz], hK, fun j u hu => ?_⟩, hZ, hG⟩
        have := hcc j u hu
        rw [Deep.add_add, ho.sz] at this
        exact this
      obtain ⟨V, hV⟩ := choose_lt each
      have hlen : ((List.range len).map V).length = len := by simp
      refine ⟨(List.range len).map V, ?_, ?_, ?_, ?_⟩
      · refine ⟨some a, m, by rw [hlen], by rw [hlen]; exact hl, by rw [hlen], by rw [hlen]; unfold maxLen at hm; omega, fun _ => ⟨a, rfl, fun j p hp => ?_⟩⟩
        rw [List.getElem?_map] at hp
        obtain ⟨i, hi, rfl⟩ := Option.map_eq_some_iff.1 hp
        rw [List.getElem?_eq_some_iff] at hi
        obtain ⟨hi1, hi2⟩ := hi
        simp only [List.length_range] at hi1
        rw [List.getElem_range] at hi2
        subst hi2
        exact (hV j hi1).1
      · rw [zsum_map]
        have := bulkAll_map (List.range len) D (fun i => Z (V i)) (fun i hi => (hV i (List.mem_range.1 hi)).2.1)
        simp only [Rows.uptoBulk]
        omega
      · have := hwt ((((List.range len).map D).length + ((List.range (m - len)).map fun j => D (len + j)).length) * P.bytesOf e) (by simp [DataW.weights, ht])
        rw [hB] at this
        simp only [List.length_map, List.length_range] at this ⊢
        exact Nat.le_trans (Nat.mul_le_mul_right _ (by omega)) this
      · intro x hx
        obtain ⟨i, hi, rfl⟩ := List.mem_map.1 hx
        exact (hV i (List.mem_range.1 hi)).2.2

/-- The fields from offset o on, of kind d. -/
structure Fields {α : Type} (P : Program) (fs : List Field) (o : Nat) (d : Kd α) (Z : α → Nat) (G : α → Prop) : Prop where
  one : ∀ v, 1 ≤ Z v
  out : ∀ {H : Type} {enc : TypeId × Value → H} {w : World} {base : Nat} {held : Bool} {fuel : Nat} {cs : List Value} {xs : List (DataW H × List MemPlace)},
    xs.length = fs.length → (∀ (i : Nat) (f : Field), fs[i]? = some f → DataW.trod enc P w base (fun _ => true) held fuel f.type ((cs.drop f.offset).take (P.cellsOf f.type)) = xs[i]?) →
    (∀ n ∈ DataW.weightsEach P (fs.map (·.type)) (xs.map (·.1)), n ≤ 140737488351232) → ∃ v : α, d.K w v ((cs.drop o).take d.sz) ∧ Z v ≤ Rows.uptoBulkAll (xs.map (·.1)) ∧ G v
theorem fields_one {α : Type} {P : Program} {f : Field} {d : Kd α} {Z : α → Nat} {G : α → Prop} {t o : Nat} (hf : f.type = t) (hof : f.offset = o) (h : Opens P t d Z G) : Fields P [f] o d Z G where
  one := h.one
  out := by
    intro H enc w base held fuel cs xs hl hx hw
    subst hf; subst hof
    match xs, hl with
    | [y], _ =>
      have hy := hx 0 f rfl
      rw [h.sz] at hy
      obtain ⟨v, hK, hZ, hG⟩ := h.out hy (fun n hn => hw n (by simp [DataW.weightsEach, hn]))
      exact ⟨v, hK, by simpa [Rows.uptoBulkAll] using hZ, hG⟩
theorem fields_cons {α β : Type} {P : Program} {f : Field} {fs : List Field} {d : Kd α} {d2 : Kd β} {Z : α → Nat} {Z2 : β → Nat} {G : α → Prop} {G2 : β → Prop} {t o o2 : Nat} (hf : f.type = t) (hof : f.offset = o) (h : Opens P t d Z G) (ho2 : o + d.sz = o2) (h2 : Fields P fs o2 d2 Z2 G2) :
    Fields P (f :: fs) o (Kd.pair d d2) (fun v => Z v.1 + Z2 v.2) (fun v => G v.1 ∧ G2 v.2) where
  one := fun v => by have := h.one v.1; omega
  out := by
    intro H enc w base held fuel cs xs hl hx hw
    subst hf; subst hof
    match xs, hl with
    | y :: ys, hl =>
      have hy := hx 0 f rfl
      rw [h.sz] at hy
      obtain ⟨v, hK, hZ, hG⟩ := h.out hy (fun n hn => hw n (by simp [DataW.weightsEach, hn]))
      obtain ⟨v2, hK2, hZ2, hG2⟩ := h2.out (xs := ys) (by simpa using hl) (fun i f hf => by simpa using hx (i + 1) f (by simpa using hf)) (fun n hn => hw n (by simp only [List.map_cons, DataW.weightsEach, List.mem_append]; exact .inr hn))
      refine ⟨(v, v2), ⟨_, _, ?_, hK, hK2⟩, ?_, hG, hG2⟩
      · show (cs.drop f.offset).take (d.sz + d2.sz) = _
        rw [List.take_add, List.drop_drop, ho2]
      · simp only [List.map_cons, Rows.uptoBulkAll]
        omega
theorem opens_struct {α : Type} {P : Program} {t : TypeId} {fs : Array Field} {d : Kd α} {Z : α → Nat} {G : α → Prop} (ht : P.underlying t = some (.struct fs)) (hc : P.cellsOf t = d.sz) (h : Fields P fs.toList 0 d Z G) : Opens P t d Z G where
  sz := hc
  one := h.one
  out := by
    intro H enc w base held fuel cs x hx hw
    obtain ⟨xs, n, rfl, rfl, hl, hlen, hf⟩ := DataW.trod_struct ht hx
    obtain ⟨v, hK, hZ, hG⟩ := h.out (xs := xs) (by simpa using hlen) (fun i f hf' => hf i f (by simpa using hf')) (fun n hn => hw n (by simp only [DataW.weights, ht]; exact hn))
    refine ⟨v, ?_, ?_, hG⟩
    · have : (cs.drop 0).take d.sz = cs := by rw [List.drop_zero, List.take_of_length_le (by omega)]
      rwa [this] at hK
    · simp only [Rows.uptoBulk]; omega
theorem opens_iso {α β : Type} {P : Program} {t : TypeId} {d : Kd α} {Z : α → Nat} {G : α → Prop} (f : β → α) (g : α → β) (hfg : ∀ x, f (g x) = x) (h : Opens P t d Z G) : Opens P t (Kd.iso d f) (fun b => Z (f b)) (fun b => G (f b)) where
  sz := h.sz
  one := fun v => h.one _
  out := by
    intro H enc w base held fuel cs x hx hw
    obtain ⟨v, hK, hZ, hG⟩ := h.out hx hw
    refine ⟨g v, ?_, ?_, ?_⟩
    · show d.K w (f (g v)) cs
      rw [hfg]; exact hK
    · show Z (f (g v)) ≤ _
      rw [hfg]; exact hZ
    · show G (f (g v))
      rw [hfg]; exact hG

/-- An argument that is a slice. -/
theorem slice_arg {α : Type} {P : Program} {t e : TypeId} {d : Kd α} {Z : List α → Nat} {G : List α → Prop} (ho : Opens P t (Kd.slice e d) Z G) {H : Type} {enc : TypeId × Value → H} {w : World} {base : Nat} {held : Bool} {a : Option Addr} {len cap : Nat} {x : DataW H} {ps : List MemPlace}
    (h : DataW.Trod enc P w base (fun _ => true) held t (.slice a len cap) x ps) (hw : ∀ n ∈ x.weights P t, n ≤ 140737488351232) : ∃ xs : List α, len = xs.length ∧ xs.length ≤ cap ∧ d.C w a xs.length xs ∧ Z xs ≤ Rows.uptoBulk x ∧ G xs := by
  obtain ⟨fuel, hf⟩ := h
  obtain ⟨xs, ⟨A, c, e1, hl, hC⟩, hZ, hG⟩ := ho.out hf hw
  simp [Value.cells] at e1
  obtain ⟨rfl, rfl, rfl⟩ := e1
  exact ⟨xs, rfl, hl, hC, hZ, hG⟩
/-- An argument that is an array of four whole numbers. -/
theorem arr4_arg {P : Program} {t e : TypeId} {k : IntKind} (ht : P.underlying t = some (.array 4 e)) (he : P.underlying e = some (.int k)) (hc : P.cellsOf t = 4) (ce : P.cellsOf e = 1) {H : Type} {enc : TypeId × Value → H} {w : World} {r : Reach} {b0 base : Nat} {spare : Nat → Bool} {held : Bool} {v : Value} {x : DataW H} {ps : List MemPlace}
    (hv : Value.okWide P w r b0 t v) (h : DataW.Trod enc P w base spare held t v x ps) :
    ∃ x0 x1 x2 x3 : Int, v = .agg #[.int k x0, .int k x1, .int k x2, .int k x3] ∧ (Lit.int k x0).wf = true ∧ (Lit.int k x1).wf = true ∧ (Lit.int k x2).wf = true ∧ (Lit.int k x3).wf = true := by
  unfold Value.okWide at hv
  rw [ht] at hv
  obtain ⟨cs, rfl, hs, _⟩ := hv
  rw [hc] at hs
  obtain ⟨fuel, hf⟩ := h
  obtain ⟨xs, n, _, _, _, hxl, hx⟩ := DataW.trod_array ht hf
  rw [ce] at hx
  have each : ∀ i, i < 4 → ∃ y : Int, cs[i]? = some (.int k y) ∧ (Lit.int k y).wf = true := by
    intro i hi
    have h1 := hx i hi
    have hl : i < xs.length := by rw [hxl]; exact hi
    rw [List.getElem?_eq_getElem hl] at h1
    obtain ⟨y, e1, _, hw⟩ := DataW.trod_int he h1
    refine ⟨y, ?_, hw⟩
    have e2 : ((Value.agg cs).cells.toList.drop (i * 1)).take 1 = [Value.int k y] := e1
    have e3 : (cs.toList.drop i).take 1 = [Value.int k y] := by simpa [Value.cells] using e2
    have e4 : cs.toList[i]? = some (Value.int k y) := by
      have := congrArg (fun l => l[0]?) e3
      simpa [List.getElem?_take, List.getElem?_drop] using this
    simpa using e4
  obtain ⟨x0, c0, w0⟩ := each 0 (by decide)
  obtain ⟨x1, c1, w1⟩ := each 1 (by decide)
  obtain ⟨x2, c2, w2⟩ := each 2 (by decide)
  obtain ⟨x3, c3, w3⟩ := each 3 (by decide)
  refine ⟨x0, x1, x2, x3, ?_, w0, w1, w2, w3⟩
  congr 1
  apply Array.ext
  · simpa using hs
  · intro i h1 h2
    have hi : i < 4 := by omega
    match i, hi with
    | 0, _ => simpa [Array.getElem?_eq_getElem h1] using c0
    | 1, _ => simpa [Array.getElem?_eq_getElem h1] using c1
    | 2, _ => simpa [Array.getElem?_eq_getElem h1] using c2
    | 3, _ => simpa [Array.getElem?_eq_getElem h1] using c3
/-- The reach, argument by argument. -/
theorem reach_each {H : Type} {P : Program} {ts : List TypeId} {ds : List (DataW H)} (hsz : (DataW.weightsEach P ts ds).all (· ≤ reachBytes) = true) {j : Nat} {t : TypeId} {d : DataW H} (ht : ts[j]? = some t) (hd : ds[j]? = some d) : ∀ n ∈ d.weights P t, n ≤ 140737488351232 := fun n hn => by
  have := List.all_eq_true.1 hsz _ (DataW.weights_mem_each ht hd n hn)
  exact of_decide_eq_true this
theorem bound {H : Type} {l : List (DataW H)} (hk : Rows.uptoSmall H l = true) : Rows.uptoBulkAll l ≤ 1048576 := of_decide_eq_true hk
theorem part_le {H : Type} {d : DataW H} {l : List (DataW H)} (h : d ∈ l) : Rows.uptoBulk d ≤ Rows.uptoBulkAll l := by
  induction l with
  | nil => cases h
  | cons x r ih =>
    simp only [Rows.uptoBulkAll]
    cases List.mem_cons.1 h with
    | inl e => subst e; omega
    | inr e => have := ih e; omega
theorem small {H : Type} {d : DataW H} {l : List (DataW H)} (hk : Rows.uptoSmall H l = true) (h : d ∈ l) : Rows.uptoBulk d ≤ 1048576 := Nat.le_trans (part_le h) (bound hk)
end Go.Proofs.YtlhlmjkocmahmaaGreatDoor.In
