/- What a device reads as, block by block; what a crash and a flush leave. -/
import Derived.Test.YtlhlmjkocmahmaaGreatDoorMA5
namespace Go.Proofs.YtlhlmjkocmahmaaGreatDoor.Jr
open Go.Proofs Go.RowKit Go.Proofs.YtlhlmjkocmahmaaGreatDoorW.PrintWords Go.Proofs.YtlhlmjkocmahmaaGreatDoor.Dev Go.Proofs.YtlhlmjkocmahmaaGreatDoor.Help
set_option linter.unusedVariables false
set_option linter.unusedSimpArgs false
def blkI (d : List Int) (b : Int) : List Int := (d.drop (b.toNat * 512)).take 512
theorem blk_is (s : DS) (b : Int) : s.blk b = blkI s.dur b := rfl
theorem blk_gen (B : Nat) {d x : List Int} {n c b : Nat} (hl : d.length = B * n) (hx : x.length = B) (hc : c < n) (hb : b < n) : ((splice d (c * B) x).drop (b * B)).take B = if c = b then x else (d.drop (b * B)).take B := by
  unfold splice
  have hcn : c * B + B ≤ B * n := by rw [← Nat.succ_mul, Nat.mul_comm B n]; exact Nat.mul_le_mul_right _ hc
  have hbn : b * B + B ≤ B * n := by rw [← Nat.succ_mul, Nat.mul_comm B n]; exact Nat.mul_le_mul_right _ hb
  have e1 : (d.take (c * B)).length = c * B := by rw [List.length_take]; omega
  rw [hx]
  by_cases h : c = b
  · subst h
    rw [if_pos rfl, List.drop_left' e1, List.take_left' hx]
  · rw [if_neg h]
    by_cases hlt : b < c
    · have hm : b * B + B ≤ c * B := by rw [← Nat.succ_mul]; exact Nat.mul_le_mul_right _ hlt
      have h1 : b * B ≤ (d.take (c * B)).length := by rw [e1]; omega
      have h2 : B ≤ ((d.take (c * B)).drop (b * B)).length := by rw [List.length_drop, e1]; omega
      rw [List.drop_append_of_le_length h1, List.take_append_of_le_length h2, List.drop_take, List.take_take, Nat.min_eq_left (by omega)]
    · have hm : c * B + B ≤ b * B := by rw [← Nat.succ_mul]; exact Nat.mul_le_mul_right _ (by omega)
      have h1 : (d.take (c * B)).length ≤ b * B := by rw [e1]; omega
      have h2 : x.length ≤ b * B - c * B := by rw [hx]; omega
      rw [List.drop_append, List.drop_eq_nil_of_le h1, List.nil_append, e1, List.drop_append, List.drop_eq_nil_of_le h2, List.nil_append, List.drop_drop, hx]
      congr 2
      omega
theorem blk_lay {d x : List Int} {N : Nat} (hl : d.length = 512 * N) (hx : x.length = 512) {c b : Int} (hc : 0 ≤ c ∧ c < (N : Int)) (hb : 0 ≤ b ∧ b < (N : Int)) : blkI (lay d c x) b = if c = b then x else blkI d b := by
  have h := blk_gen 512 (c := c.toNat) (b := b.toNat) hl hx (by omega) (by omega)
  unfold blkI lay
  rw [h]
  by_cases e : c = b
  · rw [if_pos (by omega), if_pos e]
  · rw [if_neg (by omega), if_neg e]
theorem settled_blk {N : Nat} {keep : Nat → Bool} {d : List Int} {ps : List (Int × List Int)} (hl : d.length = 512 * N) (hp : ∀ x ∈ ps, 0 ≤ x.1 ∧ x.1 < (N : Int) ∧ x.2.length = 512) {b : Int} (hb : 0 ≤ b ∧ b < (N : Int)) :
    ∀ i, i ≤ ps.length → blkI (settled keep ps d i) b = blkI d b ∨ ∃ j, j < i ∧ keep j = true ∧ ps[j]? = some (b, blkI (settled keep ps d i) b) := by
  intro i
  induction i with
  | zero => intro _; exact .inl rfl
  | succ i ih =>
    intro hi
    have hx : ps.getD i (0, []) = ps[i] := by rw [List.getD_eq_getElem?_getD, List.getElem?_eq_getElem (by omega)]; rfl
    have hm := hp ps[i] (List.getElem_mem _)
    by_cases hk : keep i = true
    · have e : settled keep ps d (i + 1) = lay (settled keep ps d i) ps[i].1 ps[i].2 := by
        show (if keep i then lay (settled keep ps d i) (ps.getD i (0, [])).1 (ps.getD i (0, [])).2 else _) = _
        rw [if_pos hk, hx]
      rw [e, blk_lay (by rw [length_settled hl hp i (by omega)]; exact hl) hm.2.2 ⟨hm.1, hm.2.1⟩ hb]
      by_cases hc : ps[i].1 = b
      · rw [if_pos hc]
        exact .inr ⟨i, Nat.lt_succ_self i, hk, by rw [List.getElem?_eq_getElem (by omega), ← hc]⟩
      · rw [if_neg hc]
        rcases ih (by omega) with h | ⟨j, h1, h2, h3⟩
        · exact .inl h
        · exact .inr ⟨j, by omega, h2, h3⟩
    · have e : settled keep ps d (i + 1) = settled keep ps d i := by
        show (if keep i then _ else settled keep ps d i) = _
        rw [if_neg hk]
      rw [e]
      rcases ih (by omega) with h | ⟨j, h1, h2, h3⟩
      · exact .inl h
      · exact .inr ⟨j, by omega, h2, h3⟩
def lastI (ps : List (Int × List Int)) (d : List Int) (b : Int) : List Int := ((ps.reverse.find? (fun x => x.1 == b)).map (·.2)).getD (blkI d b)
theorem settled_all {N : Nat} {d : List Int} {ps : List (Int × List Int)} (hl : d.length = 512 * N) (hp : ∀ x ∈ ps, 0 ≤ x.1 ∧ x.1 < (N : Int) ∧ x.2.length = 512) {b : Int} (hb : 0 ≤ b ∧ b < (N : Int)) :
    ∀ i, i ≤ ps.length → blkI (settled (fun _ => true) ps d i) b = lastI (ps.take i) d b := by
  intro i
  induction i with
  | zero => intro _; rfl
  | succ i ih =>
    intro hi
    have hx : ps.getD i (0, []) = ps[i] := by rw [List.getD_eq_getElem?_getD, List.getElem?_eq_getElem (by omega)]; rfl
    have hm := hp ps[i] (List.getElem_mem _)
    show blkI (if true then lay (settled (fun _ => true) ps d i) (ps.getD i (0, [])).1 (ps.getD i (0, [])).2 else _) b = _
    rw [if_pos rfl, hx, blk_lay (by rw [length_settled hl hp i (by omega)]; exact hl) hm.2.2 ⟨hm.1, hm.2.1⟩ hb, ih (by omega)]
    unfold lastI
    rw [List.take_succ_eq_append_getElem (by omega), List.reverse_append, List.reverse_singleton, List.singleton_append, List.find?_cons]
    by_cases h : ps[i].1 = b
    · rw [if_pos h, show (ps[i].1 == b) = true from by simpa using h]
      rfl
    · rw [if_neg h, show (ps[i].1 == b) = false from by simpa using h]
/-- A block as it is read. -/
def vw (s : DS) (b : Int) : List Int := (s.lastD b).getD (s.blk b)
theorem vw_is (s : DS) (b : Int) : vw s b = lastI s.pend s.dur b := rfl
theorem read_vw {s : DS} {b : Int} (ho : s.off = false) (hb : 0 ≤ b ∧ b < (s.n : Int)) : s.read b = (vw s b, 0) := by
  unfold DS.read
  rw [if_pos (hasB_iff.2 hb), ho, if_neg (by simp)]
  rfl
theorem read_off {s : DS} {b : Int} (ho : s.off = true) (hb : 0 ≤ b ∧ b < (s.n : Int)) : s.read b = ([], 3) := by
  unfold DS.read
  rw [if_pos (hasB_iff.2 hb), ho, if_pos rfl]
theorem crash_blk {s : DS} (h : s.Ok) (ks : List Bool) {b : Int} (hb : 0 ≤ b ∧ b < (s.n : Int)) : (s.crash ks).blk b = s.blk b ∨ ∃ j, ks.getD j false = true ∧ s.pend[j]? = some (b, (s.crash ks).blk b) := by
  rcases settled_blk (keep := fun i => ks.getD i false) h.len h.pend hb s.pend.length (Nat.le_refl _) with h1 | ⟨j, h1, h2, h3⟩
  · exact .inl h1
  · exact .inr ⟨j, h2, h3⟩
theorem flush_blk {s : DS} (h : s.Ok) {b : Int} (hb : 0 ≤ b ∧ b < (s.n : Int)) : (s.settle fun _ => true).blk b = vw s b := by
  have := settled_all h.len h.pend hb s.pend.length (Nat.le_refl _)
  rw [List.take_length] at this
  exact this
theorem vw_nil {s : DS} (h : s.pend = []) (b : Int) : vw s b = s.blk b := by
  rw [vw_is, h]
  rfl
theorem vw_snoc (s : DS) (c : Int) (x : List Int) (b : Int) : vw { s with pend := s.pend ++ [(c, x)] } b = if c = b then x else vw s b := by
  rw [vw_is, vw_is]
  show lastI (s.pend ++ [(c, x)]) s.dur b = _
  unfold lastI
  rw [List.reverse_append, List.reverse_singleton, List.singleton_append, List.find?_cons]
  by_cases h : c = b
  · rw [if_pos h, show (c == b) = true from by simpa using h]
    rfl
  · rw [if_neg h, show (c == b) = false from by simpa using h]
theorem blkI_len {d : List Int} {N : Nat} (hl : d.length = 512 * N) {b : Int} (hb : 0 ≤ b ∧ b < (N : Int)) : (blkI d b).length = 512 := by
  unfold blkI
  rw [List.length_take, List.length_drop]
  omega
theorem lastI_mem (ps : List (Int × List Int)) (d : List Int) (b : Int) : lastI ps d b = blkI d b ∨ (b, lastI ps d b) ∈ ps := by
  unfold lastI
  cases hf : ps.reverse.find? (fun x => x.1 == b) with
  | none => exact .inl rfl
  | some x =>
    have h1 := List.mem_of_find?_eq_some hf
    have h2 : x.1 = b := by simpa using List.find?_some hf
    right
    show (b, x.2) ∈ ps
    rw [← h2]
    exact List.mem_reverse.1 h1
theorem vw_len {s : DS} (h : s.Ok) {b : Int} (hb : 0 ≤ b ∧ b < (s.n : Int)) : (vw s b).length = 512 := by
  rcases lastI_mem s.pend s.dur b with h1 | h1
  · rw [vw_is, h1]
    exact blkI_len h.len hb
  · exact (h.pend _ h1).2.2
/-- All that it holds are bytes. -/
structure DByte (s : DS) : Prop where
  dur : Byte s.dur
  pend : ∀ x ∈ s.pend, Byte x.2
theorem vw_byte {s : DS} (h : DByte s) (b : Int) : Byte (vw s b) := by
  rcases lastI_mem s.pend s.dur b with h1 | h1
  · rw [vw_is, h1]
    exact (h.dur.drop _).take _
  · exact h.pend _ h1
theorem byte_splice {l m : List Int} (h : Byte l) (k : Byte m) (o : Nat) : Byte (splice l o m) := by
  unfold splice
  first
    | exact (h.take _).app (k.app (h.drop _))
    | exact ((h.take _).app k).app (h.drop _)
theorem byte_settled {keep : Nat → Bool} {d : List Int} {ps : List (Int × List Int)} (h : Byte d) (hp : ∀ x ∈ ps, Byte x.2) : ∀ i, Byte (settled keep ps d i)
  | 0 => h
  | i + 1 => by
    show Byte (if keep i then lay (settled keep ps d i) (ps.getD i (0, [])).1 (ps.getD i (0, [])).2 else settled keep ps d i)
    split
    · refine byte_splice (byte_settled h hp i) ?_ _
      rw [List.getD_eq_getElem?_getD]
      cases hx : ps[i]? with
      | none => exact byte_nil
      | some x => exact hp x (List.mem_of_getElem? hx)
    · exact byte_settled h hp i
theorem DByte.settle {s : DS} (h : DByte s) (keep : Nat → Bool) : DByte (s.settle keep) := ⟨byte_settled h.dur h.pend _, fun x hx => by cases hx⟩
theorem DByte.powered {s : DS} (h : DByte s) : DByte s.powered.2 := ⟨by rw [powered_dur]; exact h.dur, by rw [powered_pend]; exact h.pend⟩
theorem DByte.write {s : DS} (h : DByte s) (b : Int) {d : List Int} (hd : Byte d) : DByte (s.write b d).2 := by
  unfold DS.write
  split
  · split
    · split
      · refine ⟨h.powered.dur, fun x hx => ?_⟩
        rcases List.mem_append.1 hx with hx | hx
        · exact h.powered.pend x hx
        · rw [List.mem_singleton.1 hx]
          exact hd
      · exact h.powered
    · exact h
  · exact h
theorem DByte.flush {s : DS} (h : DByte s) : DByte s.flush.2 := by
  unfold DS.flush
  split
  · exact h.powered.settle _
  · exact h.powered
theorem DByte.crash {s : DS} (h : DByte s) (ks : List Bool) : DByte (s.crash ks) := ⟨(h.settle _).dur, fun x hx => by cases hx⟩
theorem DByte.arm {s : DS} (h : DByte s) (k : Int) : DByte (s.arm k).2 := by
  unfold DS.arm
  split
  · exact h
  · split
    · exact h
    · exact ⟨h.dur, h.pend⟩
theorem DByte.made {d : List Int} (h : Byte d) : DByte (DS.made d) := ⟨h, fun x hx => by cases hx⟩
/-! ### one operation of the device -/
theorem powered_cases {s : DS} (ho : s.off = false) : (s.powered.1 = true ∧ s.powered.2.off = false) ∨ (s.powered.1 = false ∧ s.powered.2.off = true) := by
  unfold DS.powered
  rw [ho]
  simp only [Bool.false_eq_true, if_false]
  by_cases hf : s.fuse > 0
  · rw [if_pos hf]
    cases h1 : (s.fuse - 1 == 0)
    · exact .inl ⟨rfl, rfl⟩
    · exact .inr ⟨rfl, rfl⟩
  · rw [if_neg hf]
    exact .inl ⟨rfl, ho⟩
/-- What a write does, the power on: it pends, or the power fails and nothing is done. -/
theorem write_cases {s : DS} (ho : s.off = false) {b : Int} {d : List Int} (hb : 0 ≤ b ∧ b < (s.n : Int)) (hd : d.length = 512) :
    ((s.write b d).1 = 0 ∧ (s.write b d).2.off = false ∧ (s.write b d).2.pend = s.pend ++ [(b, d)] ∧ (s.write b d).2.dur = s.dur) ∨ ((s.write b d).1 = 3 ∧ (s.write b d).2.off = true ∧ (s.write b d).2.pend = s.pend ∧ (s.write b d).2.dur = s.dur) := by
  unfold DS.write
  rw [if_pos (hasB_iff.2 hb), if_pos hd]
  rcases powered_cases ho with ⟨h1, h2⟩ | ⟨h1, h2⟩
  · rw [if_pos h1]
    exact .inl ⟨rfl, h2, by show s.powered.2.pend ++ _ = _; rw [powered_pend], powered_dur s⟩
  · rw [if_neg (by rw [h1]; decide)]
    exact .inr ⟨rfl, h2, powered_pend s, powered_dur s⟩
theorem flush_cases {s : DS} (ho : s.off = false) :
    (s.flush.1 = 0 ∧ s.flush.2.off = false ∧ s.flush.2.pend = [] ∧ s.flush.2.dur = settled (fun _ => true) s.pend s.dur s.pend.length) ∨ (s.flush.1 = 3 ∧ s.flush.2.off = true ∧ s.flush.2.pend = s.pend ∧ s.flush.2.dur = s.dur) := by
  unfold DS.flush
  rcases powered_cases ho with ⟨h1, h2⟩ | ⟨h1, h2⟩
  · rw [if_pos h1]
    refine .inl ⟨rfl, h2, rfl, ?_⟩
    show settled _ s.powered.2.pend s.powered.2.dur s.powered.2.pend.length = _
    rw [powered_pend, powered_dur]
  · rw [if_neg (by rw [h1]; decide)]
    exact .inr ⟨rfl, h2, powered_pend s, powered_dur s⟩
end Go.Proofs.YtlhlmjkocmahmaaGreatDoor.Jr
/- The journal's log: what is found in it; what a disk recovers to. -/
namespace Go.Proofs.YtlhlmjkocmahmaaGreatDoor.Jr
open Go.Proofs Go.RowKit Go.Proofs.YtlhlmjkocmahmaaGreatDoorW.PrintWords Go.Proofs.YtlhlmjkocmahmaaGreatDoor.Dev Go.Proofs.YtlhlmjkocmahmaaGreatDoor.Help
open Go.Proofs.YtlhlmjkocmahmaaGreatDoor.SM (lkp ins over Up)
set_option linter.unusedVariables false
set_option linter.unusedSimpArgs false
abbrev SMb := List (Int × List Int)
/-- A device's blocks, and where the journal lies. -/
structure Geo where
  n : Int
  start : Int
  size : Int
structure Geo.Ok (G : Geo) : Prop where
  start0 : 0 ≤ G.start
  size0 : 27 ≤ G.size
  fit : G.size ≤ G.n - G.start
  n1 : G.n ≤ 4096
def Geo.places (G : Geo) : Int := G.size - 1
/-- The block of a place, counted round. -/
def Geo.at_ (G : Geo) (p : Int) : Int := G.start + 1 + p % G.places
def Geo.out (G : Geo) (b : Int) : Bool := decide (0 ≤ b) && decide (b < G.n) && (decide (b < G.start) || decide (G.start + G.size ≤ b))
abbrev maxNum : Int := 4611686018427387904
def prevOk (prev : Option Int) (b : Int) : Bool := match prev with | none => true | some p => decide (p < b)
def foundE (G : Geo) (D : Int → List Int) (place : Int) : List (Int × Int) → Int → Option Int → Option SMb
  | [], _, _ => some []
  | x :: r, i, prev => if G.out x.1 && prevOk prev x.1 then (match unesc (D (G.at_ (place + 1 + i))) x.2 with | none => none | some d => (foundE G D place r (i + 1) (some x.1)).map fun m => (x.1, d) :: m) else none
/-- The transaction at a place, if it is whole and has that number. -/
def found (G : Geo) (D : Int → List Int) (place seq left : Int) : Option SMb :=
  match readDesc (D (G.at_ place)) seq with
  | none => none
  | some es => if (es.length : Int) + 2 ≤ left then (match foundE G D place es 0 none with | none => none | some m => if isCommit (D (G.at_ (place + 1 + (es.length : Int)))) seq then some m else none) else none
def scan (G : Geo) (D : Int → List Int) : Nat → Int → Int → Int → SMb → Int → Int × Int × SMb × Int
  | 0, seq, place, left, away, taken => (seq, place, away, taken)
  | f + 1, seq, place, left, away, taken => if seq ≤ maxNum ∧ 3 ≤ left then (match found G D place seq left with | none => (seq, place, away, taken) | some m => scan G D f (seq + 1) ((place + (m.length : Int) + 2) % G.places) (left - ((m.length : Int) + 2)) (over away m) (taken + 1)) else (seq, place, away, taken)
section
variable {G : Geo} {D D' : Int → List Int}
theorem places_pos (h : G.Ok) : 26 ≤ G.places := by have := h.size0; unfold Geo.places; omega
theorem at_range (h : G.Ok) (p : Int) : G.start + 1 ≤ G.at_ p ∧ G.at_ p < G.start + G.size ∧ 0 ≤ G.at_ p ∧ G.at_ p < G.n := by
  have h1 := places_pos h
  have h2 := Int.emod_nonneg p (show G.places ≠ 0 by omega)
  have h3 := Int.emod_lt_of_pos p (show 0 < G.places by omega)
  have h4 := h.start0
  have h5 := h.fit
  unfold Geo.at_
  unfold Geo.places at *
  omega
theorem at_mod (p k : Int) : G.at_ (p % G.places + k) = G.at_ (p + k) := by
  unfold Geo.at_
  rw [Int.emod_add_emod]
theorem at_mod0 (p : Int) : G.at_ (p % G.places) = G.at_ p := by
  unfold Geo.at_
  rw [Int.emod_emod_of_dvd _ (Int.dvd_refl _)]
theorem at_inj (h : G.Ok) {p q : Int} (e : G.at_ p = G.at_ q) (h1 : p ≤ q) (h2 : q < p + G.places) : p = q := by
  have h3 := places_pos h
  have e2 : p % G.places = q % G.places := by unfold Geo.at_ at e; omega
  have e3 := Int.emod_emod_of_dvd q (Int.dvd_refl G.places)
  have : (q - p) % G.places = 0 := by rw [Int.sub_emod, e2, Int.sub_self, Int.zero_emod]
  rw [Int.emod_eq_of_lt (by omega) (by omega)] at this
  omega
theorem out_not_log (h : G.Ok) {b : Int} (hb : G.out b = true) : (∀ p, b ≠ G.at_ p) ∧ b ≠ G.start ∧ 0 ≤ b ∧ b < G.n := by
  unfold Geo.out at hb
  simp at hb
  have := h.size0
  refine ⟨fun p e => ?_, by omega, by omega, by omega⟩
  have := at_range h p
  omega
theorem start_not_log (h : G.Ok) (p : Int) : G.start ≠ G.at_ p := by
  have := at_range h p
  omega
theorem start_in (h : G.Ok) : G.start < G.n := by
  have := h.size0
  have := h.fit
  omega
/-- One transaction as it stands in the log. -/
def ents (m : SMb) : List (Int × Int) := m.map fun x => (x.1, flagOf x.2)
theorem ents_len (m : SMb) : (ents m).length = m.length := by simp [ents]
structure Trans (G : Geo) (D : Int → List Int) (s p : Int) (m : SMb) : Prop where
  desc : D (G.at_ p) = descB s (ents m)
  img : ∀ (i : Nat) (x : Int × List Int), m[i]? = some x → D (G.at_ (p + 1 + (i : Int))) = esc x.2
  com : D (G.at_ (p + 1 + (m.length : Int))) = commitB s
structure Good (G : Geo) (m : SMb) : Prop where
  up : Up m
  len0 : 1 ≤ m.length
  len1 : m.length ≤ 24
  in_ : ∀ x ∈ m, G.out x.1 = true ∧ x.2.length = 512 ∧ Byte x.2
theorem foundE_is (hG : G.Ok) (p : Int) : ∀ (r : SMb) (i : Int) (prev : Option Int), (∀ (j : Nat) (x : Int × List Int), r[j]? = some x → D (G.at_ (p + 1 + (i + (j : Int)))) = esc x.2) → Up r → (∀ x ∈ r, G.out x.1 = true ∧ prevOk prev x.1 = true) → foundE G D p (ents r) i prev = some r
  | [], _, _, _, _, _ => rfl
  | x :: r, i, prev, hd, hu, ho => by
    have h0 := hd 0 x rfl
    have u2 := List.pairwise_cons.1 hu
    have ho0 := ho x (by simp)
    rw [show i + ((0 : Nat) : Int) = i by omega] at h0
    show foundE G D p ((x.1, flagOf x.2) :: ents r) i prev = _
    unfold foundE
    rw [ho0.1, ho0.2]
    simp only [Bool.and_self, if_true]
    rw [h0, unesc_esc]
    have ih := foundE_is hG p r (i + 1) (some x.1) (fun j y hy => by
      have := hd (j + 1) y (by simpa using hy)
      rw [← this]
      congr 2
      omega) u2.2 (fun y hy => ⟨(ho y (by simp [hy])).1, by simp [prevOk]; exact u2.1 y hy⟩)
    simp only [ih]
    rfl
theorem ents_ok (hG : G.Ok) {m : SMb} (h : Good G m) : ∀ x ∈ ents m, EntOk x := by
  intro x hx
  obtain ⟨y, hy, rfl⟩ := List.mem_map.1 hx
  have h1 := out_not_log hG (h.in_ y hy).1
  have h2 := flag_range y.2
  have h3 := hG.n1
  exact ⟨h1.2.2.1, by show y.1 ≤ 4096; omega, h2.1, h2.2⟩
theorem found_trans (hG : G.Ok) {s p left : Int} {m : SMb} (h : Trans G D s p m) (hm : Good G m) (h0 : 0 ≤ s) (h1 : s ≤ maxNum) (hl : (m.length : Int) + 2 ≤ left) : found G D p s left = some m := by
  have hM : maxNum = 4611686018427387904 := rfl
  unfold found
  rw [h.desc, readDesc_descB (by rw [ents_len]; exact hm.len0) (by rw [ents_len]; exact hm.len1) (ents_ok hG hm) h0 h1, if_pos rfl]
  simp only [ents_len]
  rw [if_pos hl, foundE_is hG p m 0 none (fun j x hx => by rw [Int.zero_add]; exact h.img j x hx) hm.up fun x hx => ⟨(hm.in_ x hx).1, rfl⟩]
  simp only [h.com, isCommit_commitB (s := s) (t := s) ⟨h0, by omega⟩ ⟨h0, by omega⟩, decide_true, if_true]
/-- No commit of that number or a greater one lies in the log. -/
def NoCom (G : Geo) (D : Int → List Int) (s : Int) : Prop := ∀ p t, s ≤ t → t ≤ maxNum → isCommit (D (G.at_ p)) t = false
theorem found_none {s p left : Int} (h : NoCom G D s) (h1 : s ≤ maxNum) : found G D p s left = none := by
  unfold found
  cases readDesc (D (G.at_ p)) s with
  | none => rfl
  | some es =>
    simp only
    split
    · cases foundE G D p es 0 none with
      | none => rfl
      | some m =>
        simp only
        rw [h _ s (Int.le_refl _) h1, if_neg (by simp)]
    · rfl
theorem foundE_mod (p : Int) : ∀ (es : List (Int × Int)) (i : Int) (prev : Option Int), foundE G D (p % G.places) es i prev = foundE G D p es i prev
  | [], _, _ => rfl
  | x :: r, i, prev => by
    unfold foundE
    rw [Int.add_assoc, at_mod, Int.add_assoc, foundE_mod p r]
theorem found_mod (p s left : Int) : found G D (p % G.places) s left = found G D p s left := by
  unfold found
  rw [at_mod0]
  cases readDesc (D (G.at_ p)) s with
  | none => rfl
  | some es =>
    simp only [foundE_mod]
    rw [Int.add_assoc, at_mod, Int.add_assoc]
/-- The log's transactions from a place on (counted on, not round). -/
def Chain (G : Geo) (D : Int → List Int) : Int → Int → List SMb → Prop
  | _, _, [] => True
  | s, p, m :: r => Trans G D s p m ∧ Good G m ∧ Chain G D (s + 1) (p + (m.length : Int) + 2) r
def tot : List SMb → Int
  | [] => 0
  | m :: r => (m.length : Int) + 2 + tot r
def overs (A : SMb) (Ts : List SMb) : SMb := Ts.foldl over A
theorem tot_nonneg : ∀ Ts : List SMb, 0 ≤ tot Ts
  | [] => Int.le_refl _
  | m :: r => by have := tot_nonneg r; unfold tot; omega
theorem tot_len : ∀ Ts : List SMb, 2 * (Ts.length : Int) ≤ tot Ts
  | [] => Int.le_refl _
  | m :: r => by have := tot_len r; unfold tot; rw [List.length_cons]; omega
theorem tot_snoc : ∀ (Ts : List SMb) (m : SMb), tot (Ts ++ [m]) = tot Ts + ((m.length : Int) + 2)
  | [], m => by simp [tot]
  | x :: r, m => by
    show (x.length : Int) + 2 + tot (r ++ [m]) = (x.length : Int) + 2 + tot r + _
    rw [tot_snoc r m]
    omega
theorem scan_chain (hG : G.Ok) : ∀ (Ts : List SMb) (f : Nat) (s p left : Int) (A : SMb) (taken : Int), Chain G D s p Ts → tot Ts ≤ left → 0 ≤ s → s + (Ts.length : Int) ≤ maxNum + 1 → Ts.length ≤ f → NoCom G D (s + (Ts.length : Int)) →
    scan G D f s (p % G.places) left A taken = (s + (Ts.length : Int), (p + tot Ts) % G.places, overs A Ts, taken + (Ts.length : Int))
  | [], f, s, p, left, A, taken, _, _, _, hs, _, hn => by
    have e : ((([] : List SMb).length : Nat) : Int) = 0 := rfl
    have hn' : NoCom G D s := by rw [e, Int.add_zero] at hn; exact hn
    show _ = (s + 0, (p + 0) % G.places, A, taken + 0)
    rw [Int.add_zero, Int.add_zero, Int.add_zero]
    cases f with
    | zero => rfl
    | succ f =>
      unfold scan
      split
      · rename_i h
        rw [found_none hn' h.1]
      · rfl
  | m :: r, f, s, p, left, A, taken, hc, ht, h0, hs, hf, hn => by
    obtain ⟨hT, hg, hr⟩ := hc
    have hl0 := hg.len0
    have ht0 := tot_nonneg r
    unfold tot at ht
    rw [List.length_cons] at *
    obtain ⟨f, rfl⟩ : ∃ k, f = k + 1 := ⟨f - 1, by omega⟩
    unfold scan
    rw [if_pos ⟨by omega, by omega⟩, found_mod, found_trans hG hT hg h0 (by omega) (by omega)]
    simp only
    have e1 : (p % G.places + (m.length : Int) + 2) % G.places = (p + (m.length : Int) + 2) % G.places := by
      rw [Int.add_assoc, Int.emod_add_emod, Int.add_assoc]
    rw [e1, scan_chain hG r f (s + 1) (p + (m.length : Int) + 2) (left - ((m.length : Int) + 2)) (over A m) (taken + 1) hr (by omega) (by omega) (by omega) (by omega) (by
      have e2 : s + 1 + (r.length : Int) = s + ((r.length + 1 : Nat) : Int) := by omega
      rw [e2]
      exact hn)]
    have e3 : p + (m.length : Int) + 2 + tot r = p + tot (m :: r) := by show _ = p + ((m.length : Int) + 2 + tot r); omega
    rw [e3]
    refine Prod.ext (by show s + 1 + (r.length : Int) = s + ((r.length + 1 : Nat) : Int); omega) (Prod.ext rfl (Prod.ext rfl ?_))
    show taken + 1 + (r.length : Int) = taken + ((r.length + 1 : Nat) : Int)
    omega
theorem chain_move (hG : G.Ok) : ∀ (Ts : List SMb) (s p : Int), Chain G D s p Ts → (∀ i, 0 ≤ i → i < tot Ts → D' (G.at_ (p + i)) = D (G.at_ (p + i))) → Chain G D' s p Ts
  | [], _, _, _, _ => trivial
  | m :: r, s, p, ⟨hT, hg, hr⟩, h => by
    have ht0 := tot_nonneg r
    have e : tot (m :: r) = (m.length : Int) + 2 + tot r := rfl
    refine ⟨⟨?_, fun i x hx => ?_, ?_⟩, hg, chain_move hG r _ _ hr fun i h0 h1 => ?_⟩
    · have := h 0 (Int.le_refl _) (by omega)
      rw [Int.add_zero] at this
      rw [this]
      exact hT.desc
    · have hi := (List.getElem?_eq_some_iff.1 hx).1
      have := h (1 + (i : Int)) (by omega) (by omega)
      rw [← Int.add_assoc] at this
      rw [this]
      exact hT.img i x hx
    · have := h (1 + (m.length : Int)) (by omega) (by omega)
      rw [← Int.add_assoc] at this
      rw [this]
      exact hT.com
    · have := h ((m.length : Int) + 2 + i) (by omega) (by omega)
      have e2 : p + ((m.length : Int) + 2 + i) = p + (m.length : Int) + 2 + i := by omega
      rwa [e2] at this
theorem chain_snoc : ∀ (Ts : List SMb) (s p : Int) (m : SMb), Chain G D s p Ts → Trans G D (s + (Ts.length : Int)) (p + tot Ts) m → Good G m → Chain G D s p (Ts ++ [m])
  | [], s, p, m, _, hT, hg => by
    have e : ((([] : List SMb).length : Nat) : Int) = 0 := rfl
    rw [e, Int.add_zero, show p + tot [] = p from Int.add_zero p] at hT
    exact ⟨hT, hg, trivial⟩
  | x :: r, s, p, m, ⟨h1, h2, h3⟩, hT, hg => by
    refine ⟨h1, h2, chain_snoc r _ _ m h3 ?_ hg⟩
    have e1 : s + 1 + (r.length : Int) = s + (((x :: r).length : Nat) : Int) := by rw [List.length_cons]; omega
    have e2 : p + (x.length : Int) + 2 + tot r = p + tot (x :: r) := by show _ = p + ((x.length : Int) + 2 + tot r); omega
    rw [e1, e2]
    exact hT
theorem chain_good : ∀ (Ts : List SMb) (s p : Int), Chain G D s p Ts → ∀ m ∈ Ts, Good G m
  | m :: r, s, p, ⟨_, h2, h3⟩, x, hx => by
    rcases List.mem_cons.1 hx with e | hx
    · rw [e]; exact h2
    · exact chain_good r _ _ h3 x hx
theorem up_overs : ∀ (Ts : List SMb) (A : SMb), Up A → Up (overs A Ts)
  | [], _, h => h
  | m :: r, A, h => up_overs r _ (h.over m)
/-- What the journal's disk recovers to: the head, the transactions behind it, what the blocks outside hold. -/
structure Rec (G : Geo) (D : Int → List Int) (s p : Int) (Ts : List SMb) (W : Int → List Int) : Prop where
  head : D G.start = headB s p
  s0 : 1 ≤ s
  s1 : s + (Ts.length : Int) ≤ maxNum + 1
  p0 : 0 ≤ p
  p1 : p < G.places
  chain : Chain G D s p Ts
  tot_ : tot Ts ≤ G.places
  nocom : NoCom G D (s + (Ts.length : Int))
  want : ∀ b, G.out b = true → W b = (lkp (overs [] Ts) b).getD (D b)
  len : ∀ b, 0 ≤ b → b < G.n → (D b).length = 512
  cnt : s + (Ts.length : Int) = ((W (-1)).length : Int)
/-- Blocks outside may be changed to what they should hold. -/
theorem Rec.home (hG : G.Ok) {s p : Int} {Ts : List SMb} {W : Int → List Int} (h : Rec G D s p Ts W) (h1 : ∀ b, 0 ≤ b → b < G.n → G.out b = false → D' b = D b) (h2 : ∀ b, G.out b = true → D' b = D b ∨ lkp (overs [] Ts) b = some (D' b)) (hl : ∀ b, 0 ≤ b → b < G.n → (D' b).length = 512) : Rec G D' s p Ts W := by
  have hlog : ∀ q, D' (G.at_ q) = D (G.at_ q) := fun q => h1 _ (at_range hG q).2.2.1 (at_range hG q).2.2.2 (by
    cases ho : G.out (G.at_ q) with
    | false => rfl
    | true => exact absurd rfl ((out_not_log hG ho).1 q))
  have hst : D' G.start = D G.start := h1 _ hG.start0 (start_in hG) (by
    cases ho : G.out G.start with
    | false => rfl
    | true => exact absurd rfl (out_not_log hG ho).2.1)
  refine ⟨hst.trans h.head, h.s0, h.s1, h.p0, h.p1, chain_move hG _ _ _ h.chain fun i _ _ => hlog _, h.tot_, fun q t h3 h4 => by rw [hlog]; exact h.nocom q t h3 h4, fun b hb => ?_, hl, h.cnt⟩
  rw [h.want b hb]
  rcases h2 b hb with e | e
  · rw [e]
  · rw [e]
    rfl
/-- All home, and the head set on: nothing is left in the log. -/
theorem Rec.headed (hG : G.Ok) {s p : Int} {Ts : List SMb} {W : Int → List Int} (h : Rec G D s p Ts W) (h1 : D' G.start = headB (s + (Ts.length : Int)) ((p + tot Ts) % G.places)) (h2 : ∀ b, G.out b = true → D' b = W b) (h3 : ∀ q, D' (G.at_ q) = D (G.at_ q)) (hl : ∀ b, 0 ≤ b → b < G.n → (D' b).length = 512) : Rec G D' (s + (Ts.length : Int)) ((p + tot Ts) % G.places) [] W := by
  have hp := places_pos hG
  have e : ((([] : List SMb).length : Nat) : Int) = 0 := rfl
  have h4 := h.s0
  refine ⟨h1, by omega, by rw [e, Int.add_zero]; exact h.s1, Int.emod_nonneg _ (by omega), Int.emod_lt_of_pos _ (by omega), trivial, by show (0 : Int) ≤ _; omega, ?_, fun b hb => (h2 b hb).symm, hl, by rw [e, Int.add_zero]; exact h.cnt⟩
  rw [e, Int.add_zero]
  intro q t h5 h6
  rw [h3]
  exact h.nocom q t h5 h6
/-- The free places may be written, but for a commit. -/
theorem Rec.log (hG : G.Ok) {s p : Int} {Ts : List SMb} {W : Int → List Int} (h : Rec G D s p Ts W) (h1 : ∀ b, 0 ≤ b → b < G.n → (∀ i, 0 ≤ i → i < G.places - tot Ts → b ≠ G.at_ (p + tot Ts + i)) → D' b = D b) (h2 : NoCom G D' (s + (Ts.length : Int))) (hl : ∀ b, 0 ≤ b → b < G.n → (D' b).length = 512) : Rec G D' s p Ts W := by
  have hlog : ∀ i, 0 ≤ i → i < tot Ts → D' (G.at_ (p + i)) = D (G.at_ (p + i)) := fun i h3 h4 => h1 _ (at_range hG _).2.2.1 (at_range hG _).2.2.2 fun j h5 h6 e => by
    have := at_inj hG e (by omega) (by have := h.tot_; omega)
    omega
  refine ⟨(h1 _ hG.start0 (start_in hG) fun i _ _ => start_not_log hG _).trans h.head, h.s0, h.s1, h.p0, h.p1, chain_move hG _ _ _ h.chain hlog, h.tot_, h2, fun b hb => ?_, hl, h.cnt⟩
  rw [h.want b hb, h1 b (out_not_log hG hb).2.2.1 (out_not_log hG hb).2.2.2 fun i _ _ => (out_not_log hG hb).1 _]
/-- What is wanted, a transaction later (at -1: as many zeros as the next transaction's number). -/
def laid (W : Int → List Int) (m : SMb) : Int → List Int := fun b => if b = -1 then 0 :: W (-1) else (lkp m b).getD (W b)
/-- What a new journal's blocks hold. -/
def zeroW : Int → List Int := fun b => if b = -1 then [0] else List.replicate 512 0
theorem Rec.commit (hG : G.Ok) {s p : Int} {Ts : List SMb} {W : Int → List Int} {m : SMb} (h : Rec G D s p Ts W) (h1 : ∀ b, 0 ≤ b → b < G.n → (∀ i, 0 ≤ i → i < G.places - tot Ts → b ≠ G.at_ (p + tot Ts + i)) → D' b = D b) (hT : Trans G D' (s + (Ts.length : Int)) (p + tot Ts) m) (hm : Good G m) (hfit : (m.length : Int) + 2 ≤ G.places - tot Ts) (hseq : s + (Ts.length : Int) ≤ maxNum)
    (h2 : NoCom G D' (s + (Ts.length : Int) + 1)) (hl : ∀ b, 0 ≤ b → b < G.n → (D' b).length = 512) : Rec G D' s p (Ts ++ [m]) (laid W m) := by
  have hlog : ∀ i, 0 ≤ i → i < tot Ts → D' (G.at_ (p + i)) = D (G.at_ (p + i)) := fun i h3 h4 => h1 _ (at_range hG _).2.2.1 (at_range hG _).2.2.2 fun j h5 h6 e => by
    have := at_inj hG e (by omega) (by have := h.tot_; omega)
    omega
  have el : ((Ts ++ [m]).length : Int) = (Ts.length : Int) + 1 := by rw [List.length_append]; simp
  refine ⟨(h1 _ hG.start0 (start_in hG) fun i _ _ => start_not_log hG _).trans h.head, h.s0, by rw [el]; omega, h.p0, h.p1, chain_snoc _ _ _ _ (chain_move hG _ _ _ h.chain hlog) hT hm, by rw [tot_snoc]; omega, by rw [el, ← Int.add_assoc]; exact h2, fun b hb => ?_, hl, by rw [el]; have := h.cnt; show _ = (((0 :: W (-1)).length : Nat) : Int); rw [List.length_cons]; omega⟩
  unfold laid overs
  rw [if_neg (show ¬ b = -1 by have := (out_not_log hG hb).2.2.1; omega), List.foldl_append, List.foldl_cons, List.foldl_nil, h.want b hb, h1 b (out_not_log hG hb).2.2.1 (out_not_log hG hb).2.2.2 fun i _ _ => (out_not_log hG hb).1 _, SM.look_over _ _ hm.up]
  unfold overs
  cases lkp m b <;> rfl
end
end Go.Proofs.YtlhlmjkocmahmaaGreatDoor.Jr
/- What the journal's methods do to a device, without a world; what a crash at any point leaves. -/
namespace Go.Proofs.YtlhlmjkocmahmaaGreatDoor.Jr
open Go.Proofs Go.RowKit Go.Proofs.YtlhlmjkocmahmaaGreatDoorW.PrintWords Go.Proofs.YtlhlmjkocmahmaaGreatDoor.Dev Go.Proofs.YtlhlmjkocmahmaaGreatDoor.Help
open Go.Proofs.YtlhlmjkocmahmaaGreatDoor.SM (lkp ins over Up)
set_option linter.unusedVariables false
set_option linter.unusedSimpArgs false
/-- Writes one behind the other, till one fails. -/
def writes (s : DS) : List (Int × List Int) → Int × DS
  | [] => (0, s)
  | x :: r => if (s.write x.1 x.2).1 = 0 then writes (s.write x.1 x.2).2 r else s.write x.1 x.2
/-- Flush, head, flush. -/
def headed (G : Geo) (s : DS) (seq place : Int) : Int × DS :=
  if s.flush.1 = 0 then (if (s.flush.2.write G.start (headB seq place)).1 = 0 then (s.flush.2.write G.start (headB seq place)).2.flush else s.flush.2.write G.start (headB seq place)) else s.flush
structure JS where
  seq : Int
  place : Int
  free : Int
  away : SMb
def checkpoint (G : Geo) (s : DS) (J : JS) (also : Bool) : Int × DS × JS :=
  if J.away = [] ∧ also = false then (0, s, J)
  else if (writes s J.away).1 = 0 then (if (headed G (writes s J.away).2 J.seq J.place).1 = 0 then (0, (headed G (writes s J.away).2 J.seq J.place).2, { J with away := [], free := G.places }) else ((headed G (writes s J.away).2 J.seq J.place).1, (headed G (writes s J.away).2 J.seq J.place).2, J))
  else ((writes s J.away).1, (writes s J.away).2, J)
/-- A transaction's blocks as they are written into the log. -/
def logW (G : Geo) (place : Int) : Int → List (List Int) → List (Int × List Int)
  | _, [] => []
  | i, d :: r => (G.at_ (place + i), d) :: logW G place (i + 1) r
def images (seq : Int) (m : SMb) : List (List Int) := descB seq (ents m) :: m.map fun x => esc x.2
/-- The log's writes, a flush, the commit, a flush. -/
def logged (G : Geo) (s : DS) (seq place : Int) (m : SMb) : Int × DS :=
  let a := writes s (logW G place 0 (images seq m))
  if a.1 = 0 then
    (let b := a.2.flush
     if b.1 = 0 then
       (let c := b.2.write (G.at_ (place + ((m.length : Int) + 1))) (commitB seq)
        if c.1 = 0 then c.2.flush else c)
     else b)
  else a
/-- The transaction into the log, with a checkpoint ahead of it if there is no room. -/
def room (G : Geo) (s : DS) (J : JS) (m : SMb) : Int × DS × JS := if (m.length : Int) + 2 > J.free then checkpoint G s J false else (0, s, J)
def after (G : Geo) (J : JS) (m : SMb) : JS := ⟨J.seq + 1, (J.place + (m.length : Int) + 2) % G.places, J.free - ((m.length : Int) + 2), over J.away m⟩
section
variable {G : Geo} {s : DS}
structure Fits (G : Geo) (s : DS) : Prop where
  geo : G.Ok
  n : G.n = (s.n : Int)
  ok : s.Ok
  byte : DByte s
def InB (G : Geo) (l : List (Int × List Int)) : Prop := ∀ x ∈ l, 0 ≤ x.1 ∧ x.1 < G.n ∧ x.2.length = 512 ∧ Byte x.2
theorem Fits.write (h : Fits G s) {b : Int} {d : List Int} (hd : Byte d) : Fits G (s.write b d).2 := by
  have hf : Fit s.n s s.pend.length := ⟨h.ok, rfl, Nat.le_refl _⟩
  have h2 := hf.write b d
  exact ⟨h.geo, by rw [h.n, h2.n], h2.ok, h.byte.write b hd⟩
theorem Fits.flush (h : Fits G s) : Fits G s.flush.2 := by
  have hf : Fit s.n s s.pend.length := ⟨h.ok, rfl, Nat.le_refl _⟩
  have h2 := hf.flush
  exact ⟨h.geo, by rw [h.n, h2.n], h2.ok, h.byte.flush⟩
theorem Fits.crash (h : Fits G s) (ks : List Bool) : Fits G (s.crash ks) := by
  have hf : Fit s.n s s.pend.length := ⟨h.ok, rfl, Nat.le_refl _⟩
  have h2 := hf.crash ks
  exact ⟨h.geo, by rw [h.n, h2.n], h2.ok, h.byte.crash ks⟩
theorem Fits.writes : ∀ (l : List (Int × List Int)) {s : DS} (h : Fits G s) (hl : ∀ x ∈ l, Byte x.2), Fits G (Jr.writes s l).2
  | [], _, h, _ => h
  | x :: r, s, h, hl => by
    unfold Jr.writes
    split
    · exact Fits.writes r (h.write (hl x (by simp))) fun y hy => hl y (by simp [hy])
    · exact h.write (hl x (by simp))
theorem writes_cases (hG : G.Ok) : ∀ (l : List (Int × List Int)) {s : DS} (h : Fits G s) (ho : s.off = false) (hl : InB G l),
    ((Jr.writes s l).1 = 0 ∧ (Jr.writes s l).2.off = false ∧ (Jr.writes s l).2.pend = s.pend ++ l ∧ (Jr.writes s l).2.dur = s.dur) ∨ ((Jr.writes s l).1 = 3 ∧ (Jr.writes s l).2.off = true ∧ (∃ i, (Jr.writes s l).2.pend = s.pend ++ l.take i) ∧ (Jr.writes s l).2.dur = s.dur)
  | [], s, h, ho, _ => .inl ⟨rfl, ho, by rw [List.append_nil]; rfl, rfl⟩
  | x :: r, s, h, ho, hl => by
    have hx := hl x (by simp)
    rcases write_cases (s := s) ho (b := x.1) (d := x.2) ⟨hx.1, by rw [← h.n]; exact hx.2.1⟩ hx.2.2.1 with ⟨h1, h2, h3, h4⟩ | ⟨h1, h2, h3, h4⟩
    · unfold Jr.writes
      rw [if_pos h1]
      rcases writes_cases hG r (h.write hx.2.2.2) h2 fun y hy => hl y (by simp [hy]) with ⟨k1, k2, k3, k4⟩ | ⟨k1, k2, ⟨i, k3⟩, k4⟩
      · exact .inl ⟨k1, k2, by rw [k3, h3, List.append_assoc]; rfl, k4.trans h4⟩
      · exact .inr ⟨k1, k2, ⟨i + 1, by rw [k3, h3, List.append_assoc]; rfl⟩, k4.trans h4⟩
    · unfold Jr.writes
      rw [if_neg (by omega)]
      exact .inr ⟨h1, h2, ⟨0, by rw [h3]; simp⟩, h4⟩
/-- What a device recovers to. -/
def Recs (G : Geo) (s : DS) (W : Int → List Int) : Prop := ∃ s0 p0 Ts, Rec G s.blk s0 p0 Ts W
/-- A commit of the log. -/
def isCom (G : Geo) (x : Int × List Int) : Bool := decide (G.start < x.1) && decide (x.1 < G.start + G.size) && decide (x.2.take 4 = magicC)
/-- Whatever survives, the same is recovered, and there is no commit among it. -/
def Safe (G : Geo) (s : DS) (W : Int → List Int) : Prop := (∀ ks, Recs G (s.crash ks) W) ∧ ∀ x ∈ s.pend, isCom G x = false
/-- A journal that is open, as its disk has it. -/
structure Live (G : Geo) (s : DS) (J : JS) (W : Int → List Int) : Prop where
  fits : Fits G s
  off : s.off = false
  pend : s.pend = []
  is : ∃ s0 p0 Ts, Rec G s.blk s0 p0 Ts W ∧ J.seq = s0 + (Ts.length : Int) ∧ J.place = (p0 + tot Ts) % G.places ∧ J.free = G.places - tot Ts ∧ J.away = overs [] Ts
theorem blk_len' (h : Fits G s) {b : Int} (h0 : 0 ≤ b) (h1 : b < G.n) : (s.blk b).length = 512 := blkI_len h.ok.len ⟨h0, by rw [← h.n]; exact h1⟩
theorem blk_dur {s t : DS} (h : s.dur = t.dur) (b : Int) : s.blk b = t.blk b := by rw [blk_is, blk_is, h]
/-- What pends, survives or not: each block is as it lasted, or as something that pends says. -/
theorem crash_in (h : Fits G s) (ks : List Bool) {b : Int} (h0 : 0 ≤ b) (h1 : b < G.n) : (s.crash ks).blk b = s.blk b ∨ (b, (s.crash ks).blk b) ∈ s.pend := by
  rcases crash_blk h.ok ks ⟨h0, by rw [← h.n]; exact h1⟩ with e | ⟨j, _, e⟩
  · exact .inl e
  · exact .inr (List.mem_of_getElem? e)
theorem crash_len (h : Fits G s) (ks : List Bool) : ∀ b, 0 ≤ b → b < G.n → ((s.crash ks).blk b).length = 512 := fun b h0 h1 => blk_len' (h.crash ks) h0 h1
/-! ### what is away goes home -/
theorem live_away {G : Geo} {D : Int → List Int} {s p : Int} {Ts : List SMb} {W : Int → List Int} (hG : G.Ok) (h : Rec G D s p Ts W) : Up (overs [] Ts) ∧ ∀ x ∈ overs [] Ts, G.out x.1 = true ∧ x.2.length = 512 ∧ Byte x.2 := by
  refine ⟨up_overs Ts [] List.Pairwise.nil, ?_⟩
  have : ∀ (Ts : List SMb) (A : SMb), (∀ x ∈ A, G.out x.1 = true ∧ x.2.length = 512 ∧ Byte x.2) → (∀ m ∈ Ts, Good G m) → ∀ x ∈ overs A Ts, G.out x.1 = true ∧ x.2.length = 512 ∧ Byte x.2 := by
    intro Ts
    induction Ts with
    | nil => exact fun A hA _ => hA
    | cons m r ih =>
      intro A hA hm
      refine ih (over A m) ?_ fun y hy => hm y (by simp [hy])
      have hg := (hm m (by simp)).in_
      clear ih hm
      generalize m = l at hg
      induction l generalizing A with
      | nil => exact hA
      | cons x l ih2 =>
        refine ih2 (ins A x.1 x.2) (fun y hy => ?_) fun y hy => hg y (by simp [hy])
        rcases SM.mem_ins hy with e | hy
        · rw [e]
          exact hg x (by simp)
        · exact hA y hy
  exact this Ts [] (fun x hx => by cases hx) (chain_good Ts s p h.chain)
theorem start_in_ (h : G.Ok) : 0 ≤ G.start ∧ G.start < G.n := ⟨h.start0, start_in h⟩
theorem out_in {b : Int} (hG : G.Ok) (hb : G.out b = true) : 0 ≤ b ∧ b < G.n := (out_not_log hG hb).2.2
theorem out_start (hG : G.Ok) : G.out G.start = false := by
  cases ho : G.out G.start with
  | false => rfl
  | true => exact absurd rfl (out_not_log hG ho).2.1
theorem out_at (hG : G.Ok) (q : Int) : G.out (G.at_ q) = false := by
  cases ho : G.out (G.at_ q) with
  | false => rfl
  | true => exact absurd rfl ((out_not_log hG ho).1 q)
/-- Something of what should be home pends: the same is recovered, whatever survives. -/
theorem home_safe {t : DS} {s0 p0 : Int} {Ts : List SMb} {W : Int → List Int} (ht : Fits G t) (h : Rec G t.blk s0 p0 Ts W) (hp : ∀ x ∈ t.pend, lkp (overs [] Ts) x.1 = some x.2 ∧ G.out x.1 = true) : Safe G t W := by
  refine ⟨fun ks => ⟨s0, p0, Ts, h.home ht.geo (fun b h0 h1 ho => ?_) (fun b ho => ?_) (crash_len ht ks)⟩, fun x hx => ?_⟩
  · rcases crash_in ht ks h0 h1 with e | e
    · exact e
    · have := (hp _ e).2
      rw [ho] at this
      cases this
  · have hb := out_in ht.geo ho
    rcases crash_in ht ks hb.1 hb.2 with e | e
    · exact .inl e
    · exact .inr (hp _ e).1
  · have ho := (hp x hx).2
    unfold Geo.out at ho
    unfold isCom
    simp at ho ⊢
    omega
/-- A head pends, all is home: whichever lasts, the same is recovered. -/
theorem head_safe {t : DS} {s0 p0 : Int} {Ts : List SMb} {W : Int → List Int} (ht : Fits G t) (h : Rec G t.blk s0 p0 Ts W) (hw : ∀ b, G.out b = true → t.blk b = W b) (hp : ∀ x ∈ t.pend, x = (G.start, headB (s0 + (Ts.length : Int)) ((p0 + tot Ts) % G.places))) : Safe G t W := by
  refine ⟨fun ks => ?_, fun x hx => ?_⟩
  · have hother : ∀ b, 0 ≤ b → b < G.n → b ≠ G.start → (t.crash ks).blk b = t.blk b := fun b h0 h1 hne => by
      rcases crash_in ht ks h0 h1 with e | e
      · exact e
      · have := congrArg Prod.fst (hp _ e)
        exact absurd this hne
    rcases crash_in ht ks ht.geo.start0 (start_in ht.geo) with e | e
    · refine ⟨s0, p0, Ts, h.home ht.geo (fun b h0 h1 ho => ?_) (fun b ho => .inl (hother b (out_in ht.geo ho).1 (out_in ht.geo ho).2 (out_not_log ht.geo ho).2.1)) (crash_len ht ks)⟩
      by_cases hb : b = G.start
      · rw [hb]
        exact e
      · exact hother b h0 h1 hb
    · have e2 := congrArg Prod.snd (hp _ e)
      exact ⟨_, _, [], h.headed ht.geo e2 (fun b ho => (hother b (out_in ht.geo ho).1 (out_in ht.geo ho).2 (out_not_log ht.geo ho).2.1).trans (hw b ho)) (fun q => hother _ (at_range ht.geo q).2.2.1 (at_range ht.geo q).2.2.2 (fun e => start_not_log ht.geo q e.symm)) (crash_len ht ks)⟩
  · rw [hp x hx]
    unfold isCom
    simp
/-- The flush of what should be home. -/
theorem home_flush {t t' : DS} {s0 p0 : Int} {Ts : List SMb} {W : Int → List Int} (ht : Fits G t) (ht' : Fits G t') (h : Rec G t.blk s0 p0 Ts W) (hp : t.pend = overs [] Ts) (hd : t'.dur = settled (fun _ => true) t.pend t.dur t.pend.length) : Rec G t'.blk s0 p0 Ts W ∧ ∀ b, G.out b = true → t'.blk b = W b := by
  have hblk : ∀ b, 0 ≤ b → b < G.n → t'.blk b = vw t b := fun b h0 h1 => by
    rw [← flush_blk ht.ok ⟨h0, by rw [← ht.n]; exact h1⟩]
    exact blk_dur hd b
  obtain ⟨hu, hin⟩ := live_away ht.geo h
  have hvw : ∀ b, vw t b = (lkp (overs [] Ts) b).getD (t.blk b) := fun b => by
    rw [vw_is, hp]
    unfold lastI
    congr 1
    cases hf : (overs [] Ts).reverse.find? (fun x => x.1 == b) with
    | none =>
      have := List.find?_eq_none.1 hf
      rw [SM.look_none_of fun x hx => by have := this x (List.mem_reverse.2 hx); simpa using this]
      rfl
    | some x =>
      have h1 := List.mem_reverse.1 (List.mem_of_find?_eq_some hf)
      have h2 : x.1 = b := by simpa using List.find?_some hf
      rw [← h2, SM.look_of_mem hu (show (x.1, x.2) ∈ overs [] Ts from h1)]
      rfl
  have hW : ∀ b, G.out b = true → t'.blk b = W b := fun b ho => by
    rw [hblk b (out_in ht.geo ho).1 (out_in ht.geo ho).2, hvw, h.want b ho]
  refine ⟨h.home ht.geo (fun b h0 h1 ho => ?_) (fun b ho => ?_) (fun b h0 h1 => blk_len' ht' h0 h1), hW⟩
  · rw [hblk b h0 h1, hvw, SM.look_none_of fun x hx e => by have := (hin x hx).1; rw [e, ho] at this; cases this]
    rfl
  · rw [hblk b (out_in ht.geo ho).1 (out_in ht.geo ho).2, hvw]
    cases hl : lkp (overs [] Ts) b with
    | none => exact .inl rfl
    | some d => exact .inr rfl
end
end Go.Proofs.YtlhlmjkocmahmaaGreatDoor.Jr
/- The journal's checkpoint, its log, its opening: what is recovered, whatever happens. -/
namespace Go.Proofs.YtlhlmjkocmahmaaGreatDoor.Jr
open Go.Proofs Go.RowKit Go.Proofs.YtlhlmjkocmahmaaGreatDoorW.PrintWords Go.Proofs.YtlhlmjkocmahmaaGreatDoor.Dev Go.Proofs.YtlhlmjkocmahmaaGreatDoor.Help
open Go.Proofs.YtlhlmjkocmahmaaGreatDoor.SM (lkp ins over Up)
open Go.Proofs.YtlhlmjkocmahmaaGreatDoor.Sep (be be_len)
set_option linter.unusedVariables false
set_option linter.unusedSimpArgs false
section
variable {G : Geo} {s t : DS} {J : JS} {W : Int → List Int} {m : SMb}
theorem blk_fun {s t : DS} (h : s.dur = t.dur) : s.blk = t.blk := funext fun b => blk_dur h b
theorem overs_nil {Ts : List SMb} (hm : ∀ m ∈ Ts, 1 ≤ m.length) (h : overs [] Ts = []) : Ts = [] := by
  cases Ts with
  | nil => rfl
  | cons m r =>
    exfalso
    have hl := hm m (by simp)
    cases m with
    | nil => simp at hl
    | cons x l =>
      have key : ∀ (Ts : List SMb) (A : SMb), A ≠ [] → overs A Ts ≠ [] := by
        intro Ts
        induction Ts with
        | nil => exact fun A hA => hA
        | cons m r ih =>
          intro A hA
          refine ih _ ?_
          clear ih
          induction m generalizing A with
          | nil => exact hA
          | cons y l ih2 =>
            refine ih2 (ins A y.1 y.2) ?_
            cases A with
            | nil => simp [ins]
            | cons z q =>
              unfold ins
              repeat' split
              all_goals simp
      have key2 : ∀ (l : SMb) (A : SMb), A ≠ [] → over A l ≠ [] := fun l A hA => key [l] A hA
      exact key r (over [] (x :: l)) (key2 l (ins [] x.1 x.2) (by simp [ins])) h
/-- What a checkpoint comes to. -/
theorem checkpoint_rec {s0 p0 : Int} {Ts : List SMb} (hf : Fits G s) (ho : s.off = false) (hp : s.pend = []) (h : Rec G s.blk s0 p0 Ts W) (j1 : J.seq = s0 + (Ts.length : Int)) (j2 : J.place = (p0 + tot Ts) % G.places) (j3 : J.away = overs [] Ts) (also : Bool) (ha : Ts = [] → also = false) :
    ((checkpoint G s J also).1 = 0 ∧ (∃ s1 p1, Rec G (checkpoint G s J also).2.1.blk s1 p1 [] W ∧ J.seq = s1 ∧ J.place = p1) ∧ Fits G (checkpoint G s J also).2.1 ∧ (checkpoint G s J also).2.1.off = false ∧ (checkpoint G s J also).2.1.pend = [] ∧
      (checkpoint G s J also).2.2.seq = J.seq ∧ (checkpoint G s J also).2.2.place = J.place ∧ (checkpoint G s J also).2.2.away = [] ∧ (checkpoint G s J also).2.2.free = if Ts = [] then J.free else G.places) ∨
    ((checkpoint G s J also).1 = 3 ∧ Fits G (checkpoint G s J also).2.1 ∧ (checkpoint G s J also).2.1.off = true ∧ Safe G (checkpoint G s J also).2.1 W) := by
  have hG := hf.geo
  obtain ⟨hu, hin⟩ := live_away hG h
  have hgood := chain_good Ts s0 p0 h.chain
  have hIB : InB G (overs [] Ts) := fun x hx => ⟨(out_in hG (hin x hx).1).1, (out_in hG (hin x hx).1).2, (hin x hx).2⟩
  have hBy : ∀ x ∈ overs [] Ts, Byte x.2 := fun x hx => (hin x hx).2.2
  by_cases hT : Ts = []
  · subst hT
    left
    have e : checkpoint G s J also = (0, s, J) := by
      unfold checkpoint
      rw [if_pos ⟨j3, ha rfl⟩]
    rw [e]
    have j1' : J.seq = s0 := by simpa using j1
    have j2' : J.place = p0 := by
      rw [j2]
      show (p0 + 0) % G.places = p0
      rw [Int.add_zero, Int.emod_eq_of_lt h.p0 h.p1]
    exact ⟨rfl, ⟨s0, p0, h, j1', j2'⟩, hf, ho, hp, rfl, rfl, j3, by rw [if_pos rfl]⟩
  · have hne : ¬ (J.away = [] ∧ also = false) := fun q => hT (overs_nil (fun m hm => (hgood m hm).len0) (by rw [← j3]; exact q.1))
    have hcp : ∀ {a : Int × DS}, a = writes s J.away → checkpoint G s J also = if a.1 = 0 then (if (headed G a.2 J.seq J.place).1 = 0 then (0, (headed G a.2 J.seq J.place).2, { J with away := [], free := G.places }) else ((headed G a.2 J.seq J.place).1, (headed G a.2 J.seq J.place).2, J)) else (a.1, a.2, J) := by
      rintro a rfl
      unfold checkpoint
      rw [if_neg hne]
    obtain ⟨a, haw⟩ : ∃ a, a = writes s J.away := ⟨_, rfl⟩
    have hca := hcp haw
    have hfa : Fits G a.2 := by rw [haw, j3]; exact Fits.writes _ hf hBy
    have hcs : ((a.1 = 0 ∧ a.2.off = false ∧ a.2.pend = s.pend ++ overs [] Ts ∧ a.2.dur = s.dur) ∨ (a.1 = 3 ∧ a.2.off = true ∧ (∃ i, a.2.pend = s.pend ++ (overs [] Ts).take i) ∧ a.2.dur = s.dur)) := by
      rw [haw, j3]
      exact writes_cases hG _ hf ho hIB
    rw [hca]
    clear hca hcp haw
    rw [hp] at hcs
    rcases hcs with ⟨a1, a2, a3, a4⟩ | ⟨a1, a2, ⟨i, a3⟩, a4⟩
    · rw [if_pos a1]
      rw [List.nil_append] at a3
      have hRa : Rec G a.2.blk s0 p0 Ts W := by rw [blk_fun a4]; exact h
      obtain ⟨f, hff⟩ : ∃ f, f = a.2.flush := ⟨_, rfl⟩
      have hF : Fits G f.2 := by rw [hff]; exact hfa.flush
      have hfc := flush_cases (s := a.2) a2
      rw [← hff] at hfc
      have hhd : headed G a.2 J.seq J.place = if f.1 = 0 then (if (f.2.write G.start (headB J.seq J.place)).1 = 0 then (f.2.write G.start (headB J.seq J.place)).2.flush else f.2.write G.start (headB J.seq J.place)) else f := by
        rw [hff]
        rfl
      rw [hhd]
      clear hhd
      rcases hfc with ⟨f1, f2, f3, f4⟩ | ⟨f1, f2, f3, f4⟩
      · rw [if_pos f1]
        obtain ⟨hRf, hWf⟩ := home_flush hfa hF hRa a3 f4
        obtain ⟨g, hg⟩ : ∃ g, g = f.2.write G.start (headB J.seq J.place) := ⟨_, rfl⟩
        have hbh : Byte (headB J.seq J.place) := by
          unfold headB
          refine blk_byte (by rw [List.length_append, headHead_len, be_len]; decide) ?_
          unfold headHead magicH
          refine Byte.app (Byte.app (Byte.app (Byte.app ?_ (be_byte _ _)) (be_byte _ _)) (be_byte _ _)) (be_byte _ _)
          intro y hy
          simp at hy
          omega
        have hFg : Fits G g.2 := by rw [hg]; exact hF.write hbh
        have hst := start_in_ hG
        have hgc := write_cases (s := f.2) f2 (b := G.start) (d := headB J.seq J.place) ⟨hst.1, by rw [← hF.n]; exact hst.2⟩ (headB_len _ _)
        rw [← hg] at hgc ⊢
        clear hg
        rcases hgc with ⟨g1, g2, g3, g4⟩ | ⟨g1, g2, g3, g4⟩
        · rw [if_pos g1]
          rw [f3, List.nil_append] at g3
          have hRg : Rec G g.2.blk s0 p0 Ts W := by rw [blk_fun g4]; exact hRf
          have hWg : ∀ b, G.out b = true → g.2.blk b = W b := by rw [blk_fun g4]; exact hWf
          obtain ⟨k, hk⟩ : ∃ k, k = g.2.flush := ⟨_, rfl⟩
          have hFk : Fits G k.2 := by rw [hk]; exact hFg.flush
          have hkc := flush_cases (s := g.2) g2
          rw [← hk] at hkc ⊢
          clear hk
          rcases hkc with ⟨k1, k2, k3, k4⟩ | ⟨k1, k2, k3, k4⟩
          · rw [if_pos k1]
            have hblk : ∀ b, 0 ≤ b → b < G.n → k.2.blk b = if G.start = b then headB J.seq J.place else g.2.blk b := fun b h0 h1 => by
              have e1 : k.2.blk b = vw g.2 b := by
                rw [← flush_blk hFg.ok ⟨h0, by rw [← hFg.n]; exact h1⟩]
                exact blk_dur k4 b
              rw [e1, vw_is, g3]
              unfold lastI
              simp only [List.reverse_singleton, List.find?_cons, List.find?_nil]
              by_cases hb : G.start = b
              · rw [if_pos hb, show (G.start == b) = true from by simpa using hb]
                rfl
              · rw [if_neg hb, show (G.start == b) = false from by simpa using hb]
                rfl
            have hR := hRg.headed hG (D' := k.2.blk) (by rw [hblk _ hst.1 hst.2, if_pos rfl, j1, j2]) (fun b hb => by rw [hblk b (out_in hG hb).1 (out_in hG hb).2, if_neg fun e => (out_not_log hG hb).2.1 e.symm]; exact hWg b hb) (fun q => by rw [hblk _ (at_range hG q).2.2.1 (at_range hG q).2.2.2, if_neg (start_not_log hG q)]) fun b h0 h1 => blk_len' hFk h0 h1
            exact .inl ⟨rfl, ⟨_, _, hR, j1, j2⟩, hFk, k2, k3, rfl, rfl, rfl, by rw [if_neg hT]⟩
          · rw [if_neg (by omega)]
            have hRk : Rec G k.2.blk s0 p0 Ts W := by rw [blk_fun k4]; exact hRg
            refine .inr ⟨k1, hFk, k2, head_safe hFk hRk (by rw [blk_fun k4]; exact hWg) fun x hx => ?_⟩
            rw [k3, g3, List.mem_singleton] at hx
            rw [hx, j1, j2]
        · have hg1 : ¬ g.1 = 0 := by omega
          rw [if_neg hg1, if_neg hg1]
          refine .inr ⟨g1, hFg, g2, head_safe hFg (by rw [blk_fun g4]; exact hRf) (by rw [blk_fun g4]; exact hWf) fun x hx => ?_⟩
          rw [g3, f3] at hx
          cases hx
      · have hf1 : ¬ f.1 = 0 := by omega
        rw [if_neg hf1, if_neg hf1]
        refine .inr ⟨f1, hF, f2, home_safe hF (by rw [blk_fun f4]; exact hRa) fun x hx => ?_⟩
        rw [f3, a3] at hx
        exact ⟨SM.look_of_mem hu hx, (hin x hx).1⟩
    · rw [if_neg (by omega)]
      refine .inr ⟨a1, hfa, a2, home_safe hfa (by rw [blk_fun a4]; exact h) fun x hx => ?_⟩
      rw [a3, List.nil_append] at hx
      have hx := List.mem_of_mem_take hx
      exact ⟨SM.look_of_mem hu hx, (hin x hx).1⟩
/-! ### the log -/
theorem logW_get (place : Int) : ∀ (l : List (List Int)) (i : Int) (j : Nat), (logW G place i l)[j]? = (l[j]?).map fun d => (G.at_ (place + (i + (j : Int))), d)
  | [], i, j => by simp [logW]
  | d :: r, i, 0 => by simp [logW]
  | d :: r, i, j + 1 => by
    show (logW G place (i + 1) r)[j]? = _
    rw [logW_get place r (i + 1) j]
    show _ = (r[j]?).map _
    have e : i + 1 + (j : Int) = i + ((j + 1 : Nat) : Int) := by omega
    rw [e]
theorem logW_len (place : Int) : ∀ (l : List (List Int)) (i : Int), (logW G place i l).length = l.length
  | [], _ => rfl
  | d :: r, i => by simp [logW, logW_len place r]
theorem images_len (seq : Int) (m : SMb) : (images seq m).length = m.length + 1 := by simp [images]
theorem images_ok {seq : Int} (hm : Good G m) : ∀ d ∈ images seq m, d.length = 512 ∧ Byte d ∧ d.take 4 ≠ magicC := by
  intro d hd
  rcases List.mem_cons.1 hd with e | hd
  · rw [e]
    refine ⟨descB_len _ _, ?_, by rw [desc_not_commit]; decide⟩
    unfold descB
    refine blk_byte (by rw [descHead_len, ents_len]; have := hm.len1; omega) ?_
    unfold descHead magicD
    refine Byte.app (Byte.app (Byte.app ?_ (be_byte _ _)) (be_byte _ _)) ?_
    · intro y hy
      simp at hy
      omega
    · have : ∀ es : List (Int × Int), Byte (entB es) := by
        intro es
        induction es with
        | nil => exact byte_nil
        | cons x r ih => exact Byte.app (Byte.app (be_byte _ _) (be_byte _ _)) ih
      exact this _
  · obtain ⟨x, hx, rfl⟩ := List.mem_map.1 hd
    have h1 := hm.in_ x hx
    refine ⟨by rw [esc_len (by omega)]; exact h1.2.1, ?_, esc_magic.2⟩
    unfold esc
    split
    · exact h1.2.2
    · refine Byte.app ?_ (h1.2.2.drop 4)
      intro y hy
      simp at hy
      omega
/-- Blocks of the free places pend, none of them a commit: the same is recovered. -/
theorem log_safe {s0 p0 : Int} {Ts : List SMb} (ht : Fits G t) (h : Rec G t.blk s0 p0 Ts W) (hp : ∀ x ∈ t.pend, (∃ i, 0 ≤ i ∧ i < G.places - tot Ts ∧ x.1 = G.at_ (p0 + tot Ts + i)) ∧ x.2.take 4 ≠ magicC) : Safe G t W := by
  refine ⟨fun ks => ⟨s0, p0, Ts, h.log ht.geo (fun b h0 h1 hb => ?_) (fun q u h3 h4 => ?_) (crash_len ht ks)⟩, fun x hx => ?_⟩
  · rcases crash_in ht ks h0 h1 with e | e
    · exact e
    · obtain ⟨⟨i, i0, i1, e1⟩, _⟩ := hp _ e
      exact absurd e1 (hb i i0 i1)
  · rcases crash_in ht ks (at_range ht.geo q).2.2.1 (at_range ht.geo q).2.2.2 with e | e
    · rw [e]
      exact h.nocom q u h3 h4
    · exact isCommit_no (hp _ e).2
  · unfold isCom
    simp [(hp x hx).2]
theorem lastI_mem_of {ps : List (Int × List Int)} {d : List Int} {b : Int} {x : List Int} (hn : (ps.map (·.1)).Nodup) (h : (b, x) ∈ ps) : lastI ps d b = x := by
  unfold lastI
  cases hf : ps.reverse.find? (fun x => x.1 == b) with
  | none =>
    have := List.find?_eq_none.1 hf (b, x) (List.mem_reverse.2 h)
    simp at this
  | some y =>
    have h1 := List.mem_reverse.1 (List.mem_of_find?_eq_some hf)
    have h2 : y.1 = b := by simpa using List.find?_some hf
    have : y = (b, x) := by
      clear hf
      induction ps with
      | nil => cases h
      | cons z r ih =>
        rw [List.map_cons, List.nodup_cons] at hn
        rcases List.mem_cons.1 h1 with e1 | h1
        · rcases List.mem_cons.1 h with e2 | h
          · rw [e1, e2]
          · exfalso
            refine hn.1 (List.mem_map.2 ⟨(b, x), h, ?_⟩)
            rw [← e1, h2]
        · rcases List.mem_cons.1 h with e2 | h
          · exfalso
            refine hn.1 (List.mem_map.2 ⟨y, h1, ?_⟩)
            rw [← e2, h2]
          · exact ih hn.2 h h1
    rw [this]
    rfl
theorem lastI_no {ps : List (Int × List Int)} {d : List Int} {b : Int} (h : ∀ x ∈ ps, x.1 ≠ b) : lastI ps d b = blkI d b := by
  rcases lastI_mem ps d b with e | e
  · exact e
  · exact absurd rfl (h _ e)
end
end Go.Proofs.YtlhlmjkocmahmaaGreatDoor.Jr
/- A transaction into the log; the journal opened: what is recovered, whatever happens. -/
namespace Go.Proofs.YtlhlmjkocmahmaaGreatDoor.Jr
open Go.Proofs Go.RowKit Go.Proofs.YtlhlmjkocmahmaaGreatDoorW.PrintWords Go.Proofs.YtlhlmjkocmahmaaGreatDoor.Dev Go.Proofs.YtlhlmjkocmahmaaGreatDoor.Help
open Go.Proofs.YtlhlmjkocmahmaaGreatDoor.SM (lkp ins over Up)
open Go.Proofs.YtlhlmjkocmahmaaGreatDoor.Sep (be be_len)
set_option linter.unusedVariables false
set_option linter.unusedSimpArgs false
section
variable {G : Geo} {s t : DS} {J : JS} {W : Int → List Int} {m : SMb}
/-- Is a commit of the log among what pends and survives? -/
def survives (G : Geo) : List (Int × List Int) → List Bool → Bool
  | x :: r, k :: ks => (k && isCom G x) || survives G r ks
  | _, _ => false
theorem survives_no {l : List (Int × List Int)} (h : ∀ x ∈ l, isCom G x = false) (ks : List Bool) : survives G l ks = false := by
  induction l generalizing ks with
  | nil => rfl
  | cons x r ih =>
    cases ks with
    | nil => rfl
    | cons k ks =>
      unfold survives
      rw [h x (by simp), ih (fun y hy => h y (by simp [hy]))]
      simp
/-- What is left when the power has failed in a commit: the transaction whole if its commit survives, else not at all. -/
structure Doubt (G : Geo) (s : DS) (W W' : Int → List Int) : Prop where
  fits : Fits G s
  off : s.off = true
  yes : ∀ ks, survives G s.pend ks = true → Recs G (s.crash ks) W'
  no : ∀ ks, survives G s.pend ks = false → Recs G (s.crash ks) W
theorem Safe.doubt {W' : Int → List Int} (h : Safe G s W) (hf : Fits G s) (ho : s.off = true) : Doubt G s W W' :=
  ⟨hf, ho, fun ks hk => absurd hk (by rw [survives_no h.2 ks]; decide), fun ks _ => h.1 ks⟩
theorem commit_byte (seq : Int) : Byte (commitB seq) := by
  unfold commitB
  have hl : (magicC ++ be 4 0 ++ be 8 (u64 seq)).length = 16 := by simp [magicC, be_len]
  refine blk_byte (by omega) ?_
  refine Byte.app (Byte.app ?_ (be_byte _ _)) (be_byte _ _)
  intro y hy
  unfold magicC at hy
  simp at hy
  omega
theorem isCommit_len {b : List Int} {s : Int} (h : b.take 4 ≠ magicC) : isCommit b s = false := isCommit_no h
/-- The commit has come to last. -/
theorem commit_done {s0 p0 : Int} {Ts : List SMb} (hf : Fits G s) (ht : Fits G t) (h : Rec G s.blk s0 p0 Ts W) (hm : Good G m) (hfit : (m.length : Int) + 2 ≤ G.places - tot Ts) (hseq : s0 + (Ts.length : Int) ≤ maxNum)
    (hd : s.blk (G.at_ (p0 + tot Ts)) = descB (s0 + (Ts.length : Int)) (ents m)) (hi : ∀ (i : Nat) (x : Int × List Int), m[i]? = some x → s.blk (G.at_ (p0 + tot Ts + 1 + (i : Int))) = esc x.2)
    (hb : ∀ b, 0 ≤ b → b < G.n → t.blk b = if G.at_ (p0 + tot Ts + 1 + (m.length : Int)) = b then commitB (s0 + (Ts.length : Int)) else s.blk b) : Rec G t.blk s0 p0 (Ts ++ [m]) (laid W m) := by
  have hG := hf.geo
  have hM : maxNum = 4611686018427387904 := rfl
  have hs0 := h.s0
  have ht0 := tot_nonneg Ts
  have hb2 : ∀ q, t.blk (G.at_ q) = if G.at_ (p0 + tot Ts + 1 + (m.length : Int)) = G.at_ q then commitB (s0 + (Ts.length : Int)) else s.blk (G.at_ q) := fun q => hb _ (at_range hG q).2.2.1 (at_range hG q).2.2.2
  have hne : ∀ i, 0 ≤ i → i < (m.length : Int) + 1 → ¬ G.at_ (p0 + tot Ts + 1 + (m.length : Int)) = G.at_ (p0 + tot Ts + i) := fun i h0 h1 e => by
    have := at_inj hG e.symm (by omega) (by omega)
    omega
  refine h.commit hG (fun b h0 h1 hnb => ?_) ⟨?_, fun i x hx => ?_, ?_⟩ hm hfit hseq (fun q u h3 h4 => ?_) fun b h0 h1 => blk_len' ht h0 h1
  · rw [hb b h0 h1, if_neg fun e => ?_]
    refine hnb (1 + (m.length : Int)) (by omega) (by omega) ?_
    rw [← e]
    congr 1
    omega
  · have := hne 0 (by omega) (by omega)
    rw [Int.add_zero] at this
    rw [hb2, if_neg this]
    exact hd
  · have hlt := (List.getElem?_eq_some_iff.1 hx).1
    have := hne (1 + (i : Int)) (by omega) (by omega)
    rw [← Int.add_assoc] at this
    rw [hb2, if_neg this]
    exact hi i x hx
  · rw [hb2, if_pos rfl]
  · rw [hb2]
    split
    · rw [isCommit_commitB ⟨by omega, by omega⟩ ⟨by omega, by omega⟩]
      exact decide_eq_false (by omega)
    · exact h.nocom q u (by omega) h4
theorem logged_live (h : Live G s J W) (hm : Good G m) (hfit : (m.length : Int) + 2 ≤ J.free) (hseq : J.seq ≤ maxNum) :
    ((logged G s J.seq J.place m).1 = 0 ∧ Live G (logged G s J.seq J.place m).2 (after G J m) (laid W m)) ∨ ((logged G s J.seq J.place m).1 = 3 ∧ Doubt G (logged G s J.seq J.place m).2 W (laid W m)) := by
  obtain ⟨hf, ho, hp, s0, p0, Ts, hR, j1, j2, j3, j4⟩ := h
  have hG := hf.geo
  have hM : maxNum = 4611686018427387904 := rfl
  have hs0 := hR.s0
  have ht0 := tot_nonneg Ts
  have hpl := places_pos hG
  have hl1 := hm.len1
  have hok := images_ok (seq := J.seq) hm
  have hlen := images_len J.seq m
  have hat : ∀ i, G.at_ (J.place + i) = G.at_ (p0 + tot Ts + i) := fun i => by rw [j2, at_mod]
  have hget := fun j => logW_get (G := G) J.place (images J.seq m) 0 j
  have hmem : ∀ x ∈ logW G J.place 0 (images J.seq m), ∃ j : Nat, j < m.length + 1 ∧ x.1 = G.at_ (p0 + tot Ts + (j : Int)) ∧ (images J.seq m)[j]? = some x.2 := fun x hx => by
    obtain ⟨j, hj⟩ := List.getElem?_of_mem hx
    rw [hget j] at hj
    obtain ⟨d, hd, rfl⟩ := Option.map_eq_some_iff.1 hj
    have := (List.getElem?_eq_some_iff.1 hd).1
    exact ⟨j, by omega, by rw [Int.zero_add, hat], hd⟩
  have hIB : InB G (logW G J.place 0 (images J.seq m)) := fun x hx => by
    obtain ⟨j, _, e, hd⟩ := hmem x hx
    have := hok _ (List.mem_of_getElem? hd)
    have hr := at_range hG (p0 + tot Ts + (j : Int))
    rw [e]
    exact ⟨hr.2.2.1, hr.2.2.2, this.1, this.2.1⟩
  have hpend : ∀ l : List (Int × List Int), (∀ x ∈ l, x ∈ logW G J.place 0 (images J.seq m)) → ∀ x ∈ l, (∃ i, 0 ≤ i ∧ i < G.places - tot Ts ∧ x.1 = G.at_ (p0 + tot Ts + i)) ∧ x.2.take 4 ≠ magicC := fun l hl x hx => by
    obtain ⟨j, hj, e, hd⟩ := hmem x (hl x hx)
    exact ⟨⟨(j : Int), by omega, by omega, e⟩, (hok _ (List.mem_of_getElem? hd)).2.2⟩
  obtain ⟨a, haw⟩ : ∃ a, a = writes s (logW G J.place 0 (images J.seq m)) := ⟨_, rfl⟩
  have hlg : logged G s J.seq J.place m = if a.1 = 0 then (if a.2.flush.1 = 0 then (if (a.2.flush.2.write (G.at_ (J.place + ((m.length : Int) + 1))) (commitB J.seq)).1 = 0 then (a.2.flush.2.write (G.at_ (J.place + ((m.length : Int) + 1))) (commitB J.seq)).2.flush else a.2.flush.2.write (G.at_ (J.place + ((m.length : Int) + 1))) (commitB J.seq)) else a.2.flush) else a := by
    rw [haw]
    rfl
  rw [hlg]
  clear hlg
  have hFa : Fits G a.2 := by rw [haw]; exact Fits.writes _ hf fun x hx => (hIB x hx).2.2.2
  have hca := writes_cases hG _ hf ho hIB
  rw [← haw, hp] at hca
  clear haw
  rcases hca with ⟨a1, a2, a3, a4⟩ | ⟨a1, a2, ⟨i, a3⟩, a4⟩
  · rw [if_pos a1, List.nil_append] at *
    have hRa : Rec G a.2.blk s0 p0 Ts W := by rw [blk_fun a4]; exact hR
    obtain ⟨f, hff⟩ : ∃ f, f = a.2.flush := ⟨_, rfl⟩
    have hF : Fits G f.2 := by rw [hff]; exact hFa.flush
    have hfc := flush_cases (s := a.2) a2
    rw [← hff] at hfc ⊢
    clear hff
    rcases hfc with ⟨f1, f2, f3, f4⟩ | ⟨f1, f2, f3, f4⟩
    · rw [if_pos f1]
      have hnd : ((logW G J.place 0 (images J.seq m)).map (·.1)).Nodup := by
        rw [List.nodup_iff_pairwise_ne, List.pairwise_iff_getElem]
        intro x y hx hy hxy
        have hx' : x < (logW G J.place 0 (images J.seq m)).length := by simpa using hx
        have hy' : y < (logW G J.place 0 (images J.seq m)).length := by simpa using hy
        rw [List.getElem_map, List.getElem_map]
        have gx := hget x
        have gy := hget y
        rw [logW_len, hlen] at hx' hy'
        rw [List.getElem?_eq_getElem (by rw [logW_len, hlen]; exact hx'), List.getElem?_eq_getElem (by rw [hlen]; exact hx')] at gx
        rw [List.getElem?_eq_getElem (by rw [logW_len, hlen]; exact hy'), List.getElem?_eq_getElem (by rw [hlen]; exact hy')] at gy
        rw [Option.some.inj gx, Option.some.inj gy]
        show G.at_ _ ≠ G.at_ _
        rw [hat, hat]
        intro e
        have := at_inj hG e (by omega) (by omega)
        omega
      have hblk : ∀ b, 0 ≤ b → b < G.n → f.2.blk b = lastI (logW G J.place 0 (images J.seq m)) a.2.dur b := fun b h0 h1 => by
        have e1 : f.2.blk b = vw a.2 b := by
          rw [← flush_blk hFa.ok ⟨h0, by rw [← hFa.n]; exact h1⟩]
          exact blk_dur f4 b
        rw [e1, vw_is, a3]
      have himg : ∀ (j : Nat) (d : List Int), (images J.seq m)[j]? = some d → f.2.blk (G.at_ (p0 + tot Ts + (j : Int))) = d := fun j d hd => by
        have hr := at_range hG (p0 + tot Ts + (j : Int))
        rw [hblk _ hr.2.2.1 hr.2.2.2]
        refine lastI_mem_of hnd (List.mem_of_getElem? (i := j) ?_)
        rw [hget j, hd, Int.zero_add, hat]
        rfl
      have hRf : Rec G f.2.blk s0 p0 Ts W := by
        refine hRa.log hG (fun b h0 h1 hb => ?_) (fun q u h3 h4 => ?_) fun b h0 h1 => blk_len' hF h0 h1
        · rw [hblk b h0 h1]
          refine lastI_no fun x hx e => ?_
          obtain ⟨j, hj, e1, _⟩ := hmem x hx
          exact hb (j : Int) (by omega) (by omega) (by rw [← e, e1])
        · have hr := at_range hG q
          rw [hblk _ hr.2.2.1 hr.2.2.2]
          rcases lastI_mem (logW G J.place 0 (images J.seq m)) a.2.dur (G.at_ q) with e | e
          · rw [e]
            exact hRa.nocom q u h3 h4
          · exact isCommit_no (hpend _ (fun x hx => hx) _ e).2
      have hdesc : f.2.blk (G.at_ (p0 + tot Ts)) = descB (s0 + (Ts.length : Int)) (ents m) := by
        have := himg 0 _ rfl
        rw [show p0 + tot Ts + ((0 : Nat) : Int) = p0 + tot Ts from Int.add_zero _, j1] at this
        exact this
      have hims : ∀ (i : Nat) (x : Int × List Int), m[i]? = some x → f.2.blk (G.at_ (p0 + tot Ts + 1 + (i : Int))) = esc x.2 := fun i x hx => by
        have := himg (i + 1) (esc x.2) (by
          show (m.map fun x => esc x.2)[i]? = _
          rw [List.getElem?_map, hx]
          rfl)
        rw [← this]
        congr 2
        omega
      have hcb : G.at_ (J.place + ((m.length : Int) + 1)) = G.at_ (p0 + tot Ts + 1 + (m.length : Int)) := by
        rw [hat]
        congr 1
        omega
      rw [hcb]
      have hr := at_range hG (p0 + tot Ts + 1 + (m.length : Int))
      obtain ⟨g, hg⟩ : ∃ g, g = f.2.write (G.at_ (p0 + tot Ts + 1 + (m.length : Int))) (commitB J.seq) := ⟨_, rfl⟩
      have hFg : Fits G g.2 := by rw [hg]; exact hF.write (commit_byte _)
      have hgc := write_cases (s := f.2) f2 (b := G.at_ (p0 + tot Ts + 1 + (m.length : Int))) (d := commitB J.seq) ⟨hr.2.2.1, by rw [← hF.n]; exact hr.2.2.2⟩ (commitB_len _)
      rw [← hg] at hgc ⊢
      clear hg
      rcases hgc with ⟨g1, g2, g3, g4⟩ | ⟨g1, g2, g3, g4⟩
      · rw [if_pos g1]
        rw [f3, List.nil_append] at g3
        have hRg : Rec G g.2.blk s0 p0 Ts W := by rw [blk_fun g4]; exact hRf
        have hdg : g.2.blk (G.at_ (p0 + tot Ts)) = descB (s0 + (Ts.length : Int)) (ents m) := by rw [blk_fun g4]; exact hdesc
        have hig : ∀ (i : Nat) (x : Int × List Int), m[i]? = some x → g.2.blk (G.at_ (p0 + tot Ts + 1 + (i : Int))) = esc x.2 := by rw [blk_fun g4]; exact hims
        have hdone : ∀ t : DS, Fits G t → (∀ b, 0 ≤ b → b < G.n → t.blk b = if G.at_ (p0 + tot Ts + 1 + (m.length : Int)) = b then commitB J.seq else g.2.blk b) → Rec G t.blk s0 p0 (Ts ++ [m]) (laid W m) := fun t ht hb =>
          commit_done hFg ht hRg hm (by omega) (by omega) hdg hig (by rw [← j1]; exact hb)
        obtain ⟨k, hk⟩ : ∃ k, k = g.2.flush := ⟨_, rfl⟩
        have hFk : Fits G k.2 := by rw [hk]; exact hFg.flush
        have hkc := flush_cases (s := g.2) g2
        rw [← hk] at hkc ⊢
        clear hk
        rcases hkc with ⟨k1, k2, k3, k4⟩ | ⟨k1, k2, k3, k4⟩
        · have hRk := hdone k.2 hFk fun b h0 h1 => by
            have e1 : k.2.blk b = vw g.2 b := by
              rw [← flush_blk hFg.ok ⟨h0, by rw [← hFg.n]; exact h1⟩]
              exact blk_dur k4 b
            rw [e1, vw_is, g3]
            unfold lastI
            simp only [List.reverse_singleton, List.find?_cons, List.find?_nil]
            by_cases hb : G.at_ (p0 + tot Ts + 1 + (m.length : Int)) = b
            · rw [if_pos hb, show (G.at_ (p0 + tot Ts + 1 + (m.length : Int)) == b) = true from by simpa using hb]
              rfl
            · rw [if_neg hb, show (G.at_ (p0 + tot Ts + 1 + (m.length : Int)) == b) = false from by simpa using hb]
              rfl
          have el : ((Ts ++ [m]).length : Int) = (Ts.length : Int) + 1 := by rw [List.length_append]; simp
          refine .inl ⟨k1, hFk, k2, k3, s0, p0, Ts ++ [m], hRk, ?_, ?_, ?_, ?_⟩
          · show J.seq + 1 = _
            rw [el]
            omega
          · show (J.place + (m.length : Int) + 2) % G.places = _
            rw [tot_snoc, j2, Int.add_assoc, Int.emod_add_emod, ← Int.add_assoc p0]
          · show J.free - _ = _
            rw [tot_snoc]
            omega
          · show over J.away m = _
            unfold overs
            rw [List.foldl_append, j4]
            rfl
        · have hcom : isCom G (G.at_ (p0 + tot Ts + 1 + (m.length : Int)), commitB J.seq) = true := by
            unfold isCom
            rw [commitB_magic]
            simp
            omega
          refine .inr ⟨k1, hFk, k2, fun ks hks => ?_, fun ks hks => ?_⟩
          · rw [k3, g3] at hks
            cases ks with
            | nil => cases hks
            | cons c ks =>
              unfold survives at hks
              rw [hcom] at hks
              have hc : c = true := by
                cases c with
                | true => rfl
                | false => cases ks <;> simp [survives] at hks
              subst hc
              refine ⟨s0, p0, _, hdone _ (hFk.crash _) fun b h0 h1 => ?_⟩
              have e1 : (k.2.crash (true :: ks)).blk b = blkI (lay k.2.dur (G.at_ (p0 + tot Ts + 1 + (m.length : Int))) (commitB J.seq)) b := by
                rw [blk_is]
                show blkI (settled _ k.2.pend k.2.dur k.2.pend.length) b = _
                rw [k3, g3]
                rfl
              rw [e1, blk_lay hFk.ok.len (commitB_len _) ⟨hr.2.2.1, by rw [← hFk.n]; exact hr.2.2.2⟩ ⟨h0, by rw [← hFk.n]; exact h1⟩, k4]
              rfl
          · have hall : ∀ b, 0 ≤ b → b < G.n → (k.2.crash ks).blk b = g.2.blk b := fun b h0 h1 => by
              rcases crash_blk hFk.ok ks ⟨h0, by rw [← hFk.n]; exact h1⟩ with e | ⟨j, hj, e⟩
              · rw [e]
                exact blk_dur k4 b
              · exfalso
                rw [k3, g3] at e hks
                cases j with
                | zero =>
                  cases ks with
                  | nil => simp at hj
                  | cons c ks =>
                    unfold survives at hks
                    rw [hcom] at hks
                    simp at hj
                    subst hj
                    simp at hks
                | succ j => simp at e
            exact ⟨s0, p0, Ts, hRg.log hG (fun b h0 h1 _ => hall b h0 h1) (fun q u h3 h4 => by rw [hall _ (at_range hG q).2.2.1 (at_range hG q).2.2.2]; exact hRg.nocom q u h3 h4) (crash_len hFk ks)⟩
      · have hg1 : ¬ g.1 = 0 := by omega
        rw [if_neg hg1]
        refine .inr ⟨g1, Safe.doubt (log_safe hFg (by rw [blk_fun g4]; exact hRf) fun x hx => ?_) hFg g2⟩
        rw [g3, f3] at hx
        cases hx
    · have hf1 : ¬ f.1 = 0 := by omega
      rw [if_neg hf1]
      refine .inr ⟨f1, Safe.doubt (log_safe hF (by rw [blk_fun f4]; exact hRa) (by rw [f3, a3]; exact hpend _ fun x hx => hx)) hF f2⟩
  · have ha1 : ¬ a.1 = 0 := by omega
    rw [if_neg ha1]
    refine .inr ⟨a1, Safe.doubt (log_safe hFa (by rw [blk_fun a4]; exact hR) ?_) hFa a2⟩
    rw [a3, List.nil_append]
    exact hpend _ fun x hx => List.mem_of_mem_take hx
end
end Go.Proofs.YtlhlmjkocmahmaaGreatDoor.Jr
/- A commit whole, the journal opened, a new journal: what is recovered, whatever happens. -/
namespace Go.Proofs.YtlhlmjkocmahmaaGreatDoor.Jr
open Go.Proofs Go.RowKit Go.Proofs.YtlhlmjkocmahmaaGreatDoorW.PrintWords Go.Proofs.YtlhlmjkocmahmaaGreatDoor.Dev Go.Proofs.YtlhlmjkocmahmaaGreatDoor.Help
open Go.Proofs.YtlhlmjkocmahmaaGreatDoor.SM (lkp ins over Up)
open Go.Proofs.YtlhlmjkocmahmaaGreatDoor.Sep (be be_len)
set_option linter.unusedVariables false
set_option linter.unusedSimpArgs false
/-- Commit of the blocks m, there being some. -/
def commit (G : Geo) (s : DS) (J : JS) (m : SMb) : Int × DS × JS :=
  if (room G s J m).1 = 0 then
    (if (logged G (room G s J m).2.1 (room G s J m).2.2.seq (room G s J m).2.2.place m).1 = 0 then (0, (logged G (room G s J m).2.1 (room G s J m).2.2.seq (room G s J m).2.2.place m).2, after G (room G s J m).2.2 m)
     else ((logged G (room G s J m).2.1 (room G s J m).2.2.seq (room G s J m).2.2.place m).1, (logged G (room G s J m).2.1 (room G s J m).2.2.seq (room G s J m).2.2.place m).2, (room G s J m).2.2))
  else room G s J m
/-- Open: the number of the error, the journal and how many transactions were taken. -/
def openJ (G : Geo) (s : DS) : Int × DS × Option (JS × Int) :=
  if s.off = true then (3, s, none)
  else
    let h := readHead (vw s G.start) G.places
    if h.2.2 = true then
      let r := scan G (vw s) G.places.toNat h.1 h.2.1 G.places [] 0
      let c := checkpoint G s ⟨r.1, r.2.1, 0, r.2.2.1⟩ (decide (0 < r.2.2.2))
      if c.1 = 0 then (0, c.2.1, some (⟨c.2.2.seq, c.2.2.place, G.places, c.2.2.away⟩, r.2.2.2)) else (c.1, c.2.1, none)
    else (71, s, none)
/-- What Format writes ahead of the head. -/
def zerosW (G : Geo) : Nat → List (Int × List Int)
  | 0 => []
  | i + 1 => zerosW G i ++ [(G.at_ (i : Int), List.replicate 512 0)]
def format (G : Geo) (s : DS) : Int × DS :=
  if (writes s (zerosW G G.places.toNat)).1 = 0 then headed G (writes s (zerosW G G.places.toNat)).2 1 0 else writes s (zerosW G G.places.toNat)
section
variable {G : Geo} {s t : DS} {J : JS} {W : Int → List Int} {m : SMb}
theorem live_free (h : Live G s J W) : J.free ≤ G.places ∧ 0 ≤ J.free ∧ 1 ≤ J.seq := by
  obtain ⟨hf, ho, hp, s0, p0, Ts, hR, j1, j2, j3, j4⟩ := h
  have h1 := tot_nonneg Ts
  have h2 := hR.tot_
  have h3 := hR.s0
  omega
theorem checkpoint_live (h : Live G s J W) :
    ((checkpoint G s J false).1 = 0 ∧ Live G (checkpoint G s J false).2.1 (checkpoint G s J false).2.2 W ∧ (checkpoint G s J false).2.2 = ⟨J.seq, J.place, G.places, []⟩) ∨ ((checkpoint G s J false).1 = 3 ∧ Fits G (checkpoint G s J false).2.1 ∧ (checkpoint G s J false).2.1.off = true ∧ Safe G (checkpoint G s J false).2.1 W) := by
  obtain ⟨hf, ho, hp, s0, p0, Ts, hR, j1, j2, j3, j4⟩ := h
  rcases checkpoint_rec hf ho hp hR j1 j2 j4 false (fun _ => rfl) with ⟨c1, ⟨s1, p1, c2, c3, c4⟩, c5, c6, c7, c8, c9, c10, c11⟩ | h
  · left
    have hfree : (checkpoint G s J false).2.2.free = G.places := by
      rw [c11]
      by_cases hT : Ts = []
      · rw [if_pos hT, j3, hT]
        show G.places - 0 = _
        omega
      · rw [if_neg hT]
    have e : (checkpoint G s J false).2.2 = ⟨J.seq, J.place, G.places, []⟩ := by
      have key : ∀ x : JS, x.seq = J.seq → x.place = J.place → x.free = G.places → x.away = [] → x = ⟨J.seq, J.place, G.places, []⟩ := by
        rintro ⟨a, b, c, d⟩ h1 h2 h3 h4
        simp only at h1 h2 h3 h4
        rw [h1, h2, h3, h4]
      exact key _ c8 c9 hfree c10
    refine ⟨c1, ⟨c5, c6, c7, s1, p1, [], c2, ?_, ?_, ?_, ?_⟩, e⟩
    · rw [c8, c3]
      exact (Int.add_zero _).symm
    · rw [c9, c4]
      show p1 = (p1 + 0) % G.places
      rw [Int.add_zero, Int.emod_eq_of_lt c2.p0 c2.p1]
    · rw [hfree]
      show _ = G.places - 0
      omega
    · rw [c10]
      rfl
  · exact .inr h
theorem commit_live (h : Live G s J W) (hm : Good G m) (hseq : J.seq ≤ maxNum) :
    ((commit G s J m).1 = 0 ∧ Live G (commit G s J m).2.1 (commit G s J m).2.2 (laid W m) ∧ (commit G s J m).2.2 = after G (if (m.length : Int) + 2 > J.free then ⟨J.seq, J.place, G.places, []⟩ else J) m) ∨ ((commit G s J m).1 = 3 ∧ Doubt G (commit G s J m).2.1 W (laid W m)) := by
  have hpl := places_pos h.fits.geo
  have hl1 := hm.len1
  have hroom : ((room G s J m).1 = 0 ∧ Live G (room G s J m).2.1 (room G s J m).2.2 W ∧ (room G s J m).2.2 = (if (m.length : Int) + 2 > J.free then ⟨J.seq, J.place, G.places, []⟩ else J)) ∨ ((room G s J m).1 = 3 ∧ Fits G (room G s J m).2.1 ∧ (room G s J m).2.1.off = true ∧ Safe G (room G s J m).2.1 W) := by
    unfold room
    split
    · exact checkpoint_live h
    · exact .inl ⟨rfl, h, rfl⟩
  unfold commit
  rcases hroom with ⟨r1, r2, r3⟩ | ⟨r1, r2, r3, r4⟩
  · rw [if_pos r1]
    have hseq' : (room G s J m).2.2.seq = J.seq := by rw [r3]; split <;> rfl
    have hfit : (m.length : Int) + 2 ≤ (room G s J m).2.2.free := by
      rw [r3]
      split
      · show _ ≤ G.places
        omega
      · omega
    rcases logged_live r2 hm hfit (by rw [hseq']; exact hseq) with ⟨l1, l2⟩ | ⟨l1, l2⟩
    · rw [if_pos l1]
      exact .inl ⟨rfl, l2, by rw [r3]⟩
    · rw [if_neg (by omega)]
      exact .inr ⟨l1, l2⟩
  · rw [if_neg (by omega)]
    exact .inr ⟨r1, r4.doubt r2 r3⟩
theorem vw_fun (hp : s.pend = []) : vw s = s.blk := funext fun b => vw_nil hp b
theorem open_rec {s0 p0 : Int} {Ts : List SMb} (hf : Fits G s) (ho : s.off = false) (hp : s.pend = []) (h : Rec G s.blk s0 p0 Ts W) :
    ((openJ G s).1 = 0 ∧ (∃ J, (openJ G s).2.2 = some (J, (Ts.length : Int)) ∧ Live G (openJ G s).2.1 J W ∧ J.free = G.places ∧ J.away = []) ∧ (∃ s1 p1, Rec G (openJ G s).2.1.blk s1 p1 [] W) ∧ (Ts = [] → (openJ G s).2.1 = s)) ∨
    ((openJ G s).1 = 3 ∧ (openJ G s).2.2 = none ∧ Fits G (openJ G s).2.1 ∧ (openJ G s).2.1.off = true ∧ Safe G (openJ G s).2.1 W ∧ Ts ≠ []) := by
  have hG := hf.geo
  have hpl := places_pos hG
  have hM : maxNum = 4611686018427387904 := rfl
  have hs1 := h.s1
  have hs0 := h.s0
  have hlen := tot_len Ts
  have htt := h.tot_
  have hrh : readHead (vw s G.start) G.places = (s0, p0, true) := by
    rw [vw_fun hp, h.head]
    refine readHead_headB hs0 (by omega) h.p0 h.p1 ?_
    have h1 := hG.n1
    have h2 := hG.fit
    have h3 := hG.start0
    unfold Geo.places
    omega
  have hsc : scan G (vw s) G.places.toNat s0 p0 G.places [] 0 = (s0 + (Ts.length : Int), (p0 + tot Ts) % G.places, overs [] Ts, (Ts.length : Int)) := by
    rw [vw_fun hp]
    have := scan_chain hG Ts G.places.toNat s0 p0 G.places [] 0 h.chain htt (by omega) hs1 (by omega) h.nocom
    rw [Int.emod_eq_of_lt h.p0 h.p1, Int.zero_add] at this
    exact this
  have hop : openJ G s = if (checkpoint G s ⟨s0 + (Ts.length : Int), (p0 + tot Ts) % G.places, 0, overs [] Ts⟩ (decide (0 < (Ts.length : Int)))).1 = 0 then (0, (checkpoint G s ⟨s0 + (Ts.length : Int), (p0 + tot Ts) % G.places, 0, overs [] Ts⟩ (decide (0 < (Ts.length : Int)))).2.1, some (⟨(checkpoint G s ⟨s0 + (Ts.length : Int), (p0 + tot Ts) % G.places, 0, overs [] Ts⟩ (decide (0 < (Ts.length : Int)))).2.2.seq, (checkpoint G s ⟨s0 + (Ts.length : Int), (p0 + tot Ts) % G.places, 0, overs [] Ts⟩ (decide (0 < (Ts.length : Int)))).2.2.place, G.places, (checkpoint G s ⟨s0 + (Ts.length : Int), (p0 + tot Ts) % G.places, 0, overs [] Ts⟩ (decide (0 < (Ts.length : Int)))).2.2.away⟩, (Ts.length : Int))) else ((checkpoint G s ⟨s0 + (Ts.length : Int), (p0 + tot Ts) % G.places, 0, overs [] Ts⟩ (decide (0 < (Ts.length : Int)))).1, (checkpoint G s ⟨s0 + (Ts.length : Int), (p0 + tot Ts) % G.places, 0, overs [] Ts⟩ (decide (0 < (Ts.length : Int)))).2.1, none) := by
    unfold openJ
    rw [ho, if_neg (by decide)]
    simp only [hrh, if_true, hsc]
  have hck := checkpoint_rec (J := ⟨s0 + (Ts.length : Int), (p0 + tot Ts) % G.places, 0, overs [] Ts⟩) hf ho hp h rfl rfl rfl (decide (0 < (Ts.length : Int))) (fun e => by rw [e]; rfl)
  have hno : Ts = [] → (checkpoint G s ⟨s0 + (Ts.length : Int), (p0 + tot Ts) % G.places, 0, overs [] Ts⟩ (decide (0 < (Ts.length : Int)))).2.1 = s := fun e => by
    subst e
    rfl
  have hno2 : Ts = [] → (checkpoint G s ⟨s0 + (Ts.length : Int), (p0 + tot Ts) % G.places, 0, overs [] Ts⟩ (decide (0 < (Ts.length : Int)))).1 = 0 := fun e => by
    subst e
    rfl
  generalize checkpoint G s ⟨s0 + (Ts.length : Int), (p0 + tot Ts) % G.places, 0, overs [] Ts⟩ (decide (0 < (Ts.length : Int))) = c at *
  rw [hop]
  rcases hck with ⟨c1, ⟨s1, p1, c2, c3, c4⟩, c5, c6, c7, c8, c9, c10, c11⟩ | ⟨c1, c2, c3, c4⟩
  · rw [if_pos c1]
    refine .inl ⟨rfl, ⟨_, rfl, ⟨c5, c6, c7, s1, p1, [], c2, ?_, ?_, ?_, ?_⟩, rfl, c10⟩, ⟨s1, p1, c2⟩, hno⟩
    · show c.2.2.seq = _
      rw [c8, c3]
      exact (Int.add_zero _).symm
    · show c.2.2.place = _
      rw [c9, c4]
      show p1 = (p1 + 0) % G.places
      rw [Int.add_zero, Int.emod_eq_of_lt c2.p0 c2.p1]
    · show G.places = G.places - 0
      omega
    · show c.2.2.away = _
      rw [c10]
      rfl
  · rw [if_neg (by omega)]
    exact .inr ⟨c1, rfl, c2, c3, c4, fun e => by have := hno2 e; omega⟩
/-! ### a new journal -/
theorem writes_calm (hG : G.Ok) : ∀ (l : List (Int × List Int)) {s : DS} (h : Fits G s) (ho : s.off = false) (h0 : s.fuse = 0) (hl : InB G l), (Jr.writes s l).1 = 0 ∧ (Jr.writes s l).2.fuse = 0
  | [], s, h, ho, h0, _ => ⟨rfl, h0⟩
  | x :: r, s, h, ho, h0, hl => by
    have hx := hl x (by simp)
    have hpw : s.powered = (true, s) := by
      unfold DS.powered
      rw [ho, h0]
      rfl
    have hw : s.write x.1 x.2 = (0, { s with pend := s.pend ++ [(x.1, x.2)] }) := by
      unfold DS.write
      rw [if_pos (hasB_iff.2 ⟨hx.1, by rw [← h.n]; exact hx.2.1⟩), if_pos hx.2.2.1, hpw]
      rfl
    have hF := h.write (b := x.1) hx.2.2.2
    unfold Jr.writes
    rw [hw] at hF ⊢
    rw [if_pos rfl]
    exact writes_calm hG r hF ho h0 fun y hy => hl y (by simp [hy])
theorem zerosW_mem : ∀ (n : Nat) (x : Int × List Int), x ∈ zerosW G n → ∃ i : Nat, i < n ∧ x = (G.at_ (i : Int), List.replicate 512 0)
  | n + 1, x, hx => by
    rcases List.mem_append.1 hx with h | h
    · obtain ⟨i, hi, e⟩ := zerosW_mem n x h
      exact ⟨i, by omega, e⟩
    · exact ⟨n, by omega, List.mem_singleton.1 h⟩
theorem flush_calm (ho : s.off = false) (h0 : s.fuse = 0) : s.flush.1 = 0 ∧ s.flush.2.fuse = 0 := by
  have hpw : s.powered = (true, s) := by
    unfold DS.powered
    rw [ho, h0]
    rfl
  unfold DS.flush
  rw [hpw]
  exact ⟨rfl, h0⟩
/-- Format of a device that is new. -/
theorem format_new (hG : G.Ok) (hn : G.n = (s.n : Int)) (hs : s = DS.made (List.replicate (512 * s.n) 0)) (hok : s.Ok) :
    (format G s).1 = 0 ∧ (format G s).2.fuse = 0 ∧ Fits G (format G s).2 ∧ (format G s).2.off = false ∧ (format G s).2.pend = [] ∧ Rec G (format G s).2.blk 1 0 [] zeroW := by
  have ho : s.off = false := by rw [hs]; rfl
  have hp : s.pend = [] := by rw [hs]; rfl
  have h0 : s.fuse = 0 := by rw [hs]; rfl
  have hd : s.dur = List.replicate (512 * s.n) 0 := congrArg DS.dur hs
  have hB : DByte s := ⟨by rw [hd]; exact byte_zeros _, fun x hx => by rw [hp] at hx; cases hx⟩
  have hf : Fits G s := ⟨hG, hn, hok, hB⟩
  have hpl := places_pos hG
  have hz : ∀ b, 0 ≤ b → b < G.n → s.blk b = List.replicate 512 0 := fun b h1 h2 => by
    rw [blk_is]
    unfold blkI
    rw [hd, List.drop_replicate, List.take_replicate]
    congr 1
    omega
  have hIB : InB G (zerosW G G.places.toNat) := fun x hx => by
    obtain ⟨i, hi, rfl⟩ := zerosW_mem _ x hx
    have := at_range hG (i : Int)
    exact ⟨this.2.2.1, this.2.2.2, List.length_replicate .., byte_zeros _⟩
  obtain ⟨a, haw⟩ : ∃ a, a = writes s (zerosW G G.places.toNat) := ⟨_, rfl⟩
  have hFa : Fits G a.2 := by rw [haw]; exact Fits.writes _ hf fun x hx => (hIB x hx).2.2.2
  have hcalm := writes_calm hG _ hf ho h0 hIB
  have hcs := writes_cases hG _ hf ho hIB
  rw [← haw] at hcalm hcs
  rw [hp] at hcs
  have hft : format G s = if a.1 = 0 then headed G a.2 1 0 else a := by rw [haw]; rfl
  rw [hft, if_pos hcalm.1]
  clear hft haw
  rcases hcs with ⟨a1, a2, a3, a4⟩ | ⟨a1, _⟩
  · rw [List.nil_append] at a3
    obtain ⟨f, hff⟩ : ∃ f, f = a.2.flush := ⟨_, rfl⟩
    have hF : Fits G f.2 := by rw [hff]; exact hFa.flush
    have hfc := flush_cases (s := a.2) a2
    have hfl := flush_calm a2 hcalm.2
    rw [← hff] at hfc hfl
    have hhd : headed G a.2 1 0 = if f.1 = 0 then (if (f.2.write G.start (headB 1 0)).1 = 0 then (f.2.write G.start (headB 1 0)).2.flush else f.2.write G.start (headB 1 0)) else f := by rw [hff]; rfl
    rw [hhd, if_pos hfl.1]
    clear hhd
    rcases hfc with ⟨f1, f2, f3, f4⟩ | ⟨f1, _⟩
    · have hblk : ∀ b, 0 ≤ b → b < G.n → f.2.blk b = List.replicate 512 0 := fun b h1 h2 => by
        have e1 : f.2.blk b = vw a.2 b := by
          rw [← flush_blk hFa.ok ⟨h1, by rw [← hFa.n]; exact h2⟩]
          exact blk_dur f4 b
        rw [e1, vw_is, a3, a4]
        rcases lastI_mem (zerosW G G.places.toNat) s.dur b with e | e
        · rw [e]
          exact hz b h1 h2
        · obtain ⟨i, _, e2⟩ := zerosW_mem _ _ e
          exact congrArg Prod.snd e2
      have hbh : Byte (headB 1 0) := by
        unfold headB
        refine blk_byte (by rw [List.length_append, headHead_len, be_len]; decide) ?_
        unfold headHead magicH
        refine Byte.app (Byte.app (Byte.app (Byte.app ?_ (be_byte _ _)) (be_byte _ _)) (be_byte _ _)) (be_byte _ _)
        intro y hy
        simp at hy
        omega
      have hst := start_in_ hG
      have hone : InB G [(G.start, headB 1 0)] := fun x hx => by rw [List.mem_singleton.1 hx]; exact ⟨hst.1, hst.2, headB_len _ _, hbh⟩
      have hwc := writes_calm hG [(G.start, headB 1 0)] hF f2 hfl.2 hone
      have hww : Jr.writes f.2 [(G.start, headB 1 0)] = f.2.write G.start (headB 1 0) := by
        unfold Jr.writes Jr.writes
        split
        · rename_i h
          exact Prod.ext h.symm rfl
        · rfl
      rw [hww] at hwc
      obtain ⟨g, hg⟩ : ∃ g, g = f.2.write G.start (headB 1 0) := ⟨_, rfl⟩
      have hFg : Fits G g.2 := by rw [hg]; exact hF.write hbh
      have hgc := write_cases (s := f.2) f2 (b := G.start) (d := headB 1 0) ⟨hst.1, by rw [← hF.n]; exact hst.2⟩ (headB_len _ _)
      rw [← hg] at hgc hwc ⊢
      rw [if_pos hwc.1]
      clear hg hww
      rcases hgc with ⟨g1, g2, g3, g4⟩ | ⟨g1, _⟩
      · rw [f3, List.nil_append] at g3
        have hkl := flush_calm g2 hwc.2
        have hkc := flush_cases (s := g.2) g2
        rcases hkc with ⟨k1, k2, k3, k4⟩ | ⟨k1, _⟩
        · have hFk := hFg.flush
          have hblk2 : ∀ b, 0 ≤ b → b < G.n → g.2.flush.2.blk b = if G.start = b then headB 1 0 else List.replicate 512 0 := fun b h1 h2 => by
            have e1 : g.2.flush.2.blk b = vw g.2 b := by
              rw [← flush_blk hFg.ok ⟨h1, by rw [← hFg.n]; exact h2⟩]
              exact blk_dur k4 b
            rw [e1, vw_is, g3]
            unfold lastI
            simp only [List.reverse_singleton, List.find?_cons, List.find?_nil]
            by_cases hb : G.start = b
            · rw [if_pos hb, show (G.start == b) = true from by simpa using hb]
              rfl
            · rw [if_neg hb, show (G.start == b) = false from by simpa using hb]
              show blkI g.2.dur b = _
              rw [g4]
              exact hblk b h1 h2
          refine ⟨k1, hkl.2, hFk, k2, k3, ⟨by rw [hblk2 _ hst.1 hst.2, if_pos rfl], by decide, by decide, by decide, by omega, trivial, by show (0 : Int) ≤ _; omega, fun q u _ _ => ?_, fun b hb => ?_, fun b h1 h2 => blk_len' hFk h1 h2, rfl⟩⟩
          · have hr := at_range hG q
            rw [hblk2 _ hr.2.2.1 hr.2.2.2, if_neg (start_not_log hG q)]
            refine isCommit_no ?_
            rw [List.take_replicate]
            decide
          · have hr := out_not_log hG hb
            rw [hblk2 b hr.2.2.1 hr.2.2.2, if_neg fun e => hr.2.1 e.symm]
            unfold zeroW
            rw [if_neg (by have := hr.2.2.1; omega)]
            rfl
        · omega
      · omega
    · omega
  · omega
end
end Go.Proofs.YtlhlmjkocmahmaaGreatDoor.Jr
