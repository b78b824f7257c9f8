/- What a device reads as: the plain law of DeviceReads. -/
import Derived.Test.YthnbmfkmaijibaaCrashPlain
namespace Go.Proofs.Ythnbmfkmaijibaa.Help
open Go.Proofs Go.RowKit Go.Proofs.YthnbmfkmaijibaaW.PrintWords Go.Proofs.YthnbmfkmaijibaaW.PrintLast Go.Proofs.YthnbmfkmaijibaaW.PrintMore Go.Proofs.Ythnbmfkmaijibaa.IMap Go.Proofs.Ythnbmfkmaijibaa.Dev Go.Proofs.Ythnbmfkmaijibaa.PDeviceReads Go.Proofs.Ythnbmfkmaijibaa.Sep
set_option linter.unusedVariables false
set_option linter.unusedSimpArgs false
def blkOf (d : List Int) (b : Nat) : List Int := (d.drop (b * 512)).take 512
/-- The block as it was written last. -/
def lastOf (ps : List (Int × List Int)) (d : List Int) (b : Nat) : List Int := ((ps.reverse.find? (fun x => x.1 == (b : Int))).map (·.2)).getD (blkOf d b)
theorem read_is {N : Nat} {s : DS} {k : Nat} (h : Fit N s k) (ho : s.off = false) (b : Nat) (hb : b < N) : s.read (b : Int) = (lastOf s.pend s.dur b, 0) := by
  unfold DS.read
  rw [if_pos (hasB_iff.2 ⟨by omega, by rw [h.n]; omega⟩), ho, if_neg (by simp)]
  rfl
theorem blk_gen (B : Nat) {d x : List Int} {n c b : Nat} (hl : d.length = B * n) (hx : x.length = B) (hc : c < n) (hb : b < n) : ((splice d (c * B) x).drop (b * B)).take B = if c = b then x else (d.drop (b * B)).take B := by
  unfold splice
  have hcn : c * B + B ≤ B * n := by rw [← Nat.succ_mul, Nat.mul_comm B n]; exact Nat.mul_le_mul_right _ hc
  have hbn : b * B + B ≤ B * n := by rw [← Nat.succ_mul, Nat.mul_comm B n]; exact Nat.mul_le_mul_right _ hb
  have e1 : (d.take (c * B)).length = c * B := by rw [List.length_take]; omega
  rw [hx]
  by_cases h : c = b
  · subst h
    rw [if_pos rfl, List.drop_left' e1, List.take_left' hx]
  · rw [if_neg h]
    by_cases hlt : b < c
    · have hm : b * B + B ≤ c * B := by rw [← Nat.succ_mul]; exact Nat.mul_le_mul_right _ hlt
      have h1 : b * B ≤ (d.take (c * B)).length := by rw [e1]; omega
      have h2 : B ≤ ((d.take (c * B)).drop (b * B)).length := by rw [List.length_drop, e1]; omega
      rw [List.drop_append_of_le_length h1, List.take_append_of_le_length h2, List.drop_take, List.take_take, Nat.min_eq_left (by omega)]
    · have hm : c * B + B ≤ b * B := by rw [← Nat.succ_mul]; exact Nat.mul_le_mul_right _ (by omega)
      have h1 : (d.take (c * B)).length ≤ b * B := by rw [e1]; omega
      have h2 : x.length ≤ b * B - c * B := by rw [hx]; omega
      rw [List.drop_append, List.drop_eq_nil_of_le h1, List.nil_append, e1, List.drop_append, List.drop_eq_nil_of_le h2, List.nil_append, List.drop_drop, hx]
      congr 2
      omega
theorem blk_lay {d x : List Int} {N : Nat} (hl : d.length = 512 * N) (hx : x.length = 512) {c : Int} (hc : 0 ≤ c ∧ c < (N : Int)) (b : Nat) (hb : b < N) : blkOf (lay d c x) b = if c == (b : Int) then x else blkOf d b := by
  have h := blk_gen 512 (c := c.toNat) (b := b) hl hx (by omega) hb
  unfold blkOf lay
  rw [h]
  by_cases e : c = (b : Int)
  · rw [if_pos (by omega), if_pos (by simpa using e)]
  · rw [if_neg (by omega), if_neg (by simpa using e)]
theorem blk_settled {N : Nat} {d : List Int} {ps : List (Int × List Int)} (hl : d.length = 512 * N) (hp : ∀ x ∈ ps, 0 ≤ x.1 ∧ x.1 < (N : Int) ∧ x.2.length = 512) (b : Nat) (hb : b < N) :
    ∀ i, i ≤ ps.length → blkOf (settled (fun _ => true) ps d i) b = lastOf (ps.take i) d b := by
  intro i
  induction i with
  | zero => intro _; rfl
  | succ i ih =>
    intro hi
    have hx : ps.getD i (0, []) = ps[i] := by rw [List.getD_eq_getElem?_getD, List.getElem?_eq_getElem (by omega)]; rfl
    have hm := hp ps[i] (List.getElem_mem _)
    show blkOf (if true then lay (settled (fun _ => true) ps d i) (ps.getD i (0, [])).1 (ps.getD i (0, [])).2 else _) b = _
    rw [if_pos rfl, hx, blk_lay (by rw [length_settled hl hp i (by omega)]; exact hl) hm.2.2 ⟨hm.1, hm.2.1⟩ b hb, ih (by omega)]
    unfold lastOf
    rw [List.take_succ_eq_append_getElem (by omega), List.reverse_append, List.reverse_singleton, List.singleton_append, List.find?_cons]
    split
    · rename_i h; rw [h]; rfl
    · rename_i h; simp at h; rw [show (ps[i].1 == (b : Int)) = false from by simpa using h]
theorem flat_blks : ∀ (N : Nat) (d : List Int), d.length = 512 * N → ((List.range N).map (blkOf d)).flatten = d := by
  intro N
  induction N with
  | zero =>
    intro d h
    have h0 : d = [] := List.eq_nil_of_length_eq_zero (by omega)
    rw [h0]
    rfl
  | succ N ih =>
    intro d h
    have e : ((List.range N).map (blkOf d)) = (List.range N).map (blkOf (d.take (512 * N))) := by
      refine List.map_congr_left fun b hb => ?_
      have hb := List.mem_range.1 hb
      have hm : (b + 1) * 512 ≤ N * 512 := Nat.mul_le_mul_right _ hb
      have hb1 : (b + 1) * 512 = b * 512 + 512 := Nat.succ_mul b 512
      unfold blkOf
      rw [List.drop_take, List.take_take, Nat.min_eq_left (by omega)]
    rw [List.range_succ, List.map_append, List.flatten_append, e, ih (d.take (512 * N)) (by rw [List.length_take]; omega)]
    show d.take (512 * N) ++ [blkOf d N].flatten = d
    rw [List.flatten_singleton]
    have h2 : (d.drop (512 * N)).take 512 = d.drop (512 * N) := List.take_of_length_le (by rw [List.length_drop]; omega)
    unfold blkOf
    rw [Nat.mul_comm N 512, h2, List.take_append_drop]
/-- What the law keeps beside the device. -/
def nows (N : Nat) (s : DS) : List (List Int) := (List.range N).map (lastOf s.pend s.dur)
theorem nows_len (N : Nat) (s : DS) : (nows N s).length = N := by simp [nows]
theorem nows_at (N : Nat) (s : DS) (b : Nat) (hb : b < N) : (nows N s)[b]? = some (lastOf s.pend s.dur b) := by simp [nows, hb]
theorem nows_flush {N : Nat} {s : DS} {k : Nat} (h : Live N s k) : nows N s = nows N (s.settle fun _ => true) ∧ (nows N s).flatten = (s.settle fun _ => true).dur := by
  have hd := h.fit.dur
  have hp : ∀ x ∈ s.pend, 0 ≤ x.1 ∧ x.1 < (N : Int) ∧ x.2.length = 512 := fun x hx => by have := h.ok.pend x hx; rw [h.n] at this; exact this
  have hl : (s.settle fun _ => true).dur.length = 512 * N := (h.flush.2).fit.dur
  have e : nows N s = (List.range N).map (blkOf (s.settle fun _ => true).dur) := by
    refine List.map_congr_left fun b hb => ?_
    have := blk_settled hd hp b (List.mem_range.1 hb) s.pend.length (Nat.le_refl _)
    rw [List.take_length] at this
    exact this.symm
  refine ⟨e, ?_⟩
  rw [e]
  exact flat_blks N _ hl
theorem nows_write {N : Nat} {s : DS} {b : Nat} (x : List Int) (hb : b < N) : nows N { s with pend := s.pend ++ [((b : Int), x)] } = (nows N s).set b x := by
  refine List.ext_getElem? fun i => ?_
  by_cases hi : i < N
  · rw [nows_at N _ i hi, List.getElem?_set, nows_len]
    unfold lastOf
    show some ((((s.pend ++ [((b : Int), x)]).reverse.find? (fun y => y.1 == (i : Int))).map (·.2)).getD (blkOf s.dur i)) = _
    rw [List.reverse_append, List.reverse_singleton, List.singleton_append, List.find?_cons]
    by_cases e : b = i
    · subst e
      rw [if_pos rfl, if_pos hb]
      simp
    · rw [if_neg e, nows_at N s i hi]
      have : ((b : Int) == (i : Int)) = false := beq_eq_false_iff_ne.2 (by omega)
      simp only [this]
      rfl
  · rw [List.getElem?_eq_none (by rw [nows_len]; omega), List.getElem?_eq_none (by rw [List.length_set, nows_len]; omega)]
theorem nows_made (N : Nat) : nows N (DS.made (List.replicate (512 * N) 0)) = List.replicate N (r 0) := by
  refine List.ext_getElem? fun i => ?_
  by_cases hi : i < N
  · rw [nows_at N _ i hi, List.getElem?_replicate, if_pos hi]
    show some (blkOf (List.replicate (512 * N) 0) i) = _
    unfold blkOf r
    have hm : (i + 1) * 512 ≤ N * 512 := Nat.mul_le_mul_right _ hi
    have hb1 : (i + 1) * 512 = i * 512 + 512 := Nat.succ_mul i 512
    rw [List.drop_replicate, List.take_replicate, Nat.min_eq_left (by omega)]
  · rw [List.getElem?_eq_none (by rw [nows_len]; omega), List.getElem?_eq_none (by rw [List.length_replicate]; omega)]
theorem flat_rep (N : Nat) : (List.replicate N (r 0)).flatten = List.replicate (512 * N) 0 := by
  have h := flat_blks N (List.replicate (512 * N) 0) List.length_replicate
  have h2 := nows_made N
  have : nows N (DS.made (List.replicate (512 * N) (0 : Int))) = (List.range N).map (blkOf (List.replicate (512 * N) 0)) := rfl
  rw [← h2, this, h]
/-! ### flat, as it is printed -/
theorem bytes_l (l : List Int) (hn : l.length ≤ 140737488355328) : ∀ (d k : Nat) (i : Nat), i + d = l.length → d < k → annexref_Bytes.l0 k l (l.take i) (i : Int) = some l := by
  intro d
  induction d with
  | zero =>
    intro k i hi hk
    obtain ⟨k, rfl⟩ : ∃ m, k = m + 1 := ⟨k - 1, by omega⟩
    simp only [annexref_Bytes.l0]
    rw [if_neg (by omega), List.take_of_length_le (by omega)]
  | succ d ih =>
    intro k i hi hk
    obtain ⟨k, rfl⟩ : ∃ m, k = m + 1 := ⟨k - 1, by omega⟩
    have hlt : i < l.length := by omega
    simp only [annexref_Bytes.l0]
    rw [if_pos (by omega), if_pos (by omega), if_pos (by rw [List.length_take]; omega), rd_at l i hlt, wrap_up hlt hn]
    have e : l.take i ++ [l[i]] = l.take (i + 1) := (List.take_succ_eq_append_getElem hlt).symm
    rw [e]
    exact ih k (i + 1) (by omega) (by omega)
theorem bytes_is (l : List Int) (hn : l.length ≤ 140737488355328) : annexref_Bytes.f (l.length + 1) l = some l := by
  have := bytes_l l hn l.length (l.length + 1) 0 (by omega) (by omega)
  exact this
theorem join_l (a b : List Int) (hn : a.length + b.length ≤ 140737488355328) : ∀ (d k : Nat) (i : Nat), i + d = b.length → d < k → annexref_Join.l0 k b (a ++ b.take i) (i : Int) = some (a ++ b) := by
  intro d
  induction d with
  | zero =>
    intro k i hi hk
    obtain ⟨k, rfl⟩ : ∃ m, k = m + 1 := ⟨k - 1, by omega⟩
    simp only [annexref_Join.l0]
    rw [if_neg (by omega), List.take_of_length_le (by omega)]
  | succ d ih =>
    intro k i hi hk
    obtain ⟨k, rfl⟩ : ∃ m, k = m + 1 := ⟨k - 1, by omega⟩
    have hlt : i < b.length := by omega
    simp only [annexref_Join.l0]
    rw [if_pos (by omega), if_pos (by omega), if_pos (by rw [List.length_append, List.length_take]; omega), rd_at b i hlt, wrap_up hlt (by omega)]
    have e : a ++ b.take i ++ [b[i]] = a ++ b.take (i + 1) := by rw [List.append_assoc, List.take_succ_eq_append_getElem hlt]
    rw [e]
    exact ih k (i + 1) (by omega) (by omega)
theorem join_is (a b : List Int) (hn : a.length + b.length ≤ 140737488355328) : annexref_Join.f (a.length + b.length + 1) a b = some (a ++ b) := by
  unfold annexref_Join.f
  rw [at_rounds (annexref_Bytes.mono a) (k := a.length + 1) (by omega) (bytes_is a (by omega))]
  have := join_l a b hn b.length (a.length + b.length + 1) 0 (by omega) (by omega)
  rw [List.take_zero, List.append_nil] at this
  exact this
theorem rd_L {l : List (List Int)} {i : Nat} (h : i < l.length) : rd_L1 l (i : Int) = l[i] := by simp [rd_L1, h]
theorem flat_l (l : List (List Int)) (hn : l.length ≤ 140737488355328) (D : Nat) (hD : l.flatten.length ≤ D) (hD2 : D ≤ 140737488355328) :
    ∀ (d k : Nat) (i : Nat), i + d = l.length → d + D + 1 < k → annexlaw5_flat.l0 k l (l.take i).flatten (i : Int) = some l.flatten := by
  intro d
  induction d with
  | zero =>
    intro k i hi hk
    obtain ⟨k, rfl⟩ : ∃ m, k = m + 1 := ⟨k - 1, by omega⟩
    simp only [annexlaw5_flat.l0]
    rw [if_neg (by omega), List.take_of_length_le (by omega)]
  | succ d ih =>
    intro k i hi hk
    obtain ⟨k, rfl⟩ : ∃ m, k = m + 1 := ⟨k - 1, by omega⟩
    have hlt : i < l.length := by omega
    have e : (l.take i).flatten ++ l[i] = (l.take (i + 1)).flatten := by rw [List.take_succ_eq_append_getElem hlt, List.flatten_append, List.flatten_singleton]
    have hb : (l.take (i + 1)).flatten.length ≤ D := by
      have : l.flatten = (l.take (i + 1)).flatten ++ (l.drop (i + 1)).flatten := by rw [← List.flatten_append, List.take_append_drop]
      rw [this, List.length_append] at hD
      omega
    have hb2 := hb
    rw [← e, List.length_append] at hb2
    simp only [annexlaw5_flat.l0]
    rw [if_pos (by omega), if_pos (by omega), rd_L hlt, at_rounds (annexref_Join.mono _ _) (k := (l.take i).flatten.length + l[i].length + 1) (by omega) (join_is _ _ (by omega)), wrap_up hlt hn]
    simp only [Option.bind_some]
    rw [e]
    exact ih k (i + 1) (by omega) (by omega)
theorem flat_is (l : List (List Int)) (hn : l.length ≤ 140737488355328) (hD : l.flatten.length ≤ 140737488355328) : annexlaw5_flat.f (l.length + l.flatten.length + 2) l = some l.flatten :=
  flat_l l hn l.flatten.length (Nat.le_refl _) hD l.length _ 0 (by omega) (by omega)
end Go.Proofs.Ythnbmfkmaijibaa.Help
