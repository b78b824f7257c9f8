/- The plain law of SumNear: a change within four neighbouring bytes is always told. -/
import Derived.Test.YtmddjfplkifdmaaMendPlain
namespace Go.Proofs.Ytmddjfplkifdmaa.NearPlain
open Go.RowKit Go.Proofs.YtmddjfplkifdmaaW.PrintWords Go.Proofs.Ytmddjfplkifdmaa.SumPlain Go.Proofs.Ytmddjfplkifdmaa.MendPlain
set_option linter.unusedVariables false
set_option linter.unusedSimpArgs false
/-- A difference of one byte does not fall away in three further steps. -/
theorem key (D e1 e2 e3 q : Int) (hD : -255 ≤ D ∧ D ≤ 255) (h1 : -510 ≤ e1 ∧ e1 ≤ 510) (h2 : -510 ≤ e2 ∧ e2 ≤ 510) (h3 : -510 ≤ e3 ∧ e3 ≤ 510)
    (h : 1099511627776 * (567675 * D + 870 * e1 + e2) + (82312875 * D + 189225 * e1 + 435 * e2 + e3) = 18446744073709551616 * q) : D = 0 := by
  have hL : 82312875 * D + 189225 * e1 + 435 * e2 + e3 = 0 := by omega
  have hA : 567675 * D + 870 * e1 + e2 = 16777216 * q := by omega
  have hD1 : D ≤ 1 := by omega
  have hD2 : -1 ≤ D := by omega
  rcases (by omega : D = 0 ∨ D = 1 ∨ D = -1) with h | h | h
  · exact h
  · subst h
    have a1 : 16777216 * q ≤ 1011885 := by omega
    have a2 : 123465 ≤ 16777216 * q := by omega
    omega
  · subst h
    have a1 : -1011885 ≤ 16777216 * q := by omega
    have a2 : 16777216 * q ≤ -123465 := by omega
    omega
/-- The differences of three steps, each up to a multiple of 2^64. -/
theorem chain (D D1 D2 e1 e2 e3 c0 c1 c2 : Int) (hD : -255 ≤ D ∧ D ≤ 255) (h1 : -510 ≤ e1 ∧ e1 ≤ 510) (h2 : -510 ≤ e2 ∧ e2 ≤ 510) (h3 : -510 ≤ e3 ∧ e3 ≤ 510)
    (g1 : D1 = 1099511628211 * D + e1 - 18446744073709551616 * c0) (g2 : D2 = 1099511628211 * D1 + e2 - 18446744073709551616 * c1) (g3 : 0 = 1099511628211 * D2 + e3 - 18446744073709551616 * c2) : D = 0 := by
  subst g1
  subst g2
  refine key D e1 e2 e3 (c2 + 1099511628211 * c1 + 1208925820571204291060521 * c0 - 72057594123452416 * D - 65536 * e1) hD h1 h2 h3 ?_
  omega
theorem X_b {h x : Int} (hh : IsU h) (hx : IsB x) : X h x / 256 = h / 256 ∧ IsU (X h x) := by
  have e := X_nat hh (u_of_b hx)
  have hxx : x.toNat / 256 = 0 := by unfold IsB at hx; omega
  have e1 : (h.toNat ^^^ x.toNat) >>> 8 = (h.toNat >>> 8) ^^^ (x.toNat >>> 8) := Nat.shiftRight_xor_distrib
  simp only [Nat.shiftRight_eq_div_pow] at e1
  have e2 : (2 : Nat) ^ 8 = 256 := rfl
  rw [e2, hxx, Nat.xor_zero] at e1
  have hr : IsU (X h x) := by
    refine ⟨X_pos hh (u_of_b hx), ?_⟩
    unfold X
    rw [xor_bv]
    have := (bv h ^^^ bv x).isLt
    omega
  refine ⟨?_, hr⟩
  rw [e]
  unfold IsU at hh
  omega
theorem X_inj {h x y : Int} (hx : IsU x) (hy : IsU y) (e : X h x = X h y) : x = y := by
  unfold X at e
  rw [xor_bv, xor_bv] at e
  have e1 : bv h ^^^ bv x = bv h ^^^ bv y := by
    apply BitVec.eq_of_toNat_eq
    omega
  have e2 : bv h ^^^ (bv h ^^^ bv x) = bv h ^^^ (bv h ^^^ bv y) := by rw [e1]
  rw [← BitVec.xor_assoc, ← BitVec.xor_assoc, BitVec.xor_self, BitVec.zero_xor, BitVec.zero_xor] at e2
  have := bv_toNat hx
  have := bv_toNat hy
  rw [e2] at *
  omega
theorem stepN_X (h x : Int) : stepN h x = (X h x * 1099511628211) % 18446744073709551616 := by
  unfold stepN X
  rw [wrap_u64]
  have : IntKind.u64.wrap x = x % 18446744073709551616 := wrap_u64 x
  have e : Go.bits .xor .u64 h (IntKind.u64.wrap x) = Go.bits .xor .u64 h x := by rw [xor_bv, xor_bv, bv_wrap]
  rw [e]
theorem step_u (h x : Int) : IsU (stepN h x) := stepN_range h x
/-- Two steps by bytes: how far apart. -/
theorem step_far {u u' x x' : Int} (hu : IsU u) (hu' : IsU u') (hx : IsB x) (hx' : IsB x') : ∃ e, -510 ≤ e ∧ e ≤ 510 ∧ X u x - X u' x' = (u - u') + e := by
  obtain ⟨a1, a2⟩ := X_b hu hx
  obtain ⟨b1, b2⟩ := X_b hu' hx'
  refine ⟨(X u x - X u' x') - (u - u'), ?_, ?_, ?_⟩
  · omega
  · omega
  · omega
theorem step_same {u x x' : Int} (hu : IsU u) (hx : IsB x) (hx' : IsB x') : -255 ≤ X u x - X u x' ∧ X u x - X u x' ≤ 255 := by
  obtain ⟨a1, a2⟩ := X_b hu hx
  obtain ⟨b1, b2⟩ := X_b hu hx'
  omega
theorem step_inj_X {u u' x x' : Int} (hu : IsU (X u x)) (hu' : IsU (X u' x')) (e : stepN u x = stepN u' x') : X u x = X u' x' := by
  rw [stepN_bv, stepN_bv] at e
  have e1 : (bv u ^^^ bv x) * bv 1099511628211 = (bv u' ^^^ bv x') * bv 1099511628211 := by
    apply BitVec.eq_of_toNat_eq
    omega
  have e2 : (bv u ^^^ bv x) * bv 1099511628211 * bv 14886173955864302971 = (bv u' ^^^ bv x') * bv 1099511628211 * bv 14886173955864302971 := by rw [e1]
  rw [BitVec.mul_assoc, BitVec.mul_assoc, prime_inv, BitVec.mul_one, BitVec.mul_one] at e2
  unfold X
  rw [xor_bv, xor_bv, e2]
theorem sx (u v : Int) : ∃ c, stepN u v = 1099511628211 * X u v - 18446744073709551616 * c := ⟨X u v * 1099511628211 / 18446744073709551616, by rw [stepN_X]; omega⟩
theorem zero_of {g x y : Int} (hx : IsB x) (hy : IsB y) (h : X g x - X g y = 0) : x = y := X_inj (h := g) (u_of_b hx) (u_of_b hy) (by omega)
theorem first0 {g x y : Int} (hg : IsU g) (hx : IsB x) (hy : IsB y) (e : stepN g x = stepN g y) : x = y := by
  have := step_inj_X (X_b hg hx).2 (X_b hg hy).2 e
  exact zero_of (g := g) hx hy (by omega)
theorem first1 {g x y x1 y1 : Int} (hg : IsU g) (hx : IsB x) (hy : IsB y) (b1 : IsB x1) (c1 : IsB y1) (e : stepN (stepN g x) x1 = stepN (stepN g y) y1) : x = y := by
  have hd := step_same hg hx hy
  obtain ⟨ca, ea⟩ := sx g x
  obtain ⟨cb, eb⟩ := sx g y
  obtain ⟨e1, p1, q1, r1⟩ := step_far (step_u g x) (step_u g y) b1 c1
  have h9 := step_inj_X (X_b (step_u g x) b1).2 (X_b (step_u g y) c1).2 e
  exact zero_of (g := g) hx hy (chain (X g x - X g y) 0 0 e1 0 0 (ca - cb) 0 0 hd ⟨p1, q1⟩ (by omega) (by omega) (by omega) (by omega) (by omega))
theorem first2 {g x y x1 y1 x2 y2 : Int} (hg : IsU g) (hx : IsB x) (hy : IsB y) (b1 : IsB x1) (c1 : IsB y1) (b2 : IsB x2) (c2 : IsB y2) (e : stepN (stepN (stepN g x) x1) x2 = stepN (stepN (stepN g y) y1) y2) : x = y := by
  have hd := step_same hg hx hy
  obtain ⟨ca, ea⟩ := sx g x
  obtain ⟨cb, eb⟩ := sx g y
  obtain ⟨e1, p1, q1, r1⟩ := step_far (step_u g x) (step_u g y) b1 c1
  obtain ⟨cc, ec⟩ := sx (stepN g x) x1
  obtain ⟨cd, ed⟩ := sx (stepN g y) y1
  obtain ⟨e2, p2, q2, r2⟩ := step_far (step_u (stepN g x) x1) (step_u (stepN g y) y1) b2 c2
  have h9 := step_inj_X (X_b (step_u (stepN g x) x1) b2).2 (X_b (step_u (stepN g y) y1) c2).2 e
  exact zero_of (g := g) hx hy (chain (X g x - X g y) (X (stepN g x) x1 - X (stepN g y) y1) 0 e1 e2 0 (ca - cb) (cc - cd) 0 hd ⟨p1, q1⟩ ⟨p2, q2⟩ (by omega) (by omega) (by omega) (by omega))
theorem first3 {g x y x1 y1 x2 y2 x3 y3 : Int} (hg : IsU g) (hx : IsB x) (hy : IsB y) (b1 : IsB x1) (c1 : IsB y1) (b2 : IsB x2) (c2 : IsB y2) (b3 : IsB x3) (c3 : IsB y3) (e : stepN (stepN (stepN (stepN g x) x1) x2) x3 = stepN (stepN (stepN (stepN g y) y1) y2) y3) : x = y := by
  have hd := step_same hg hx hy
  obtain ⟨ca, ea⟩ := sx g x
  obtain ⟨cb, eb⟩ := sx g y
  obtain ⟨e1, p1, q1, r1⟩ := step_far (step_u g x) (step_u g y) b1 c1
  obtain ⟨cc, ec⟩ := sx (stepN g x) x1
  obtain ⟨cd, ed⟩ := sx (stepN g y) y1
  obtain ⟨e2, p2, q2, r2⟩ := step_far (step_u (stepN g x) x1) (step_u (stepN g y) y1) b2 c2
  obtain ⟨ce, ee⟩ := sx (stepN (stepN g x) x1) x2
  obtain ⟨cf, ef⟩ := sx (stepN (stepN g y) y1) y2
  obtain ⟨e3, p3, q3, r3⟩ := step_far (step_u (stepN (stepN g x) x1) x2) (step_u (stepN (stepN g y) y1) y2) b3 c3
  have h9 := step_inj_X (X_b (step_u (stepN (stepN g x) x1) x2) b3).2 (X_b (step_u (stepN (stepN g y) y1) y2) c3).2 e
  exact zero_of (g := g) hx hy (chain (X g x - X g y) (X (stepN g x) x1 - X (stepN g y) y1) (X (stepN (stepN g x) x1) x2 - X (stepN (stepN g y) y1) y2) e1 e2 e3 (ca - cb) (cc - cd) (ce - cf) hd ⟨p1, q1⟩ ⟨p2, q2⟩ ⟨p3, q3⟩ (by omega) (by omega) (by omega))
/-- Of lists of at most four bytes the sums tell the lists apart. -/
theorem short_inj : ∀ (a b : List Int) (g : Int), IsU g → Bs a → Bs b → a.length = b.length → a.length ≤ 4 → moreN g a = moreN g b → a = b
  | [], [], _, _, _, _, _, _, _ => rfl
  | [], _ :: _, _, _, _, _, h, _, _ => by cases h
  | _ :: _, [], _, _, _, _, h, _, _ => by cases h
  | x :: a, y :: b, g, hg, ha, hb, hl, h4, e => by
    have hx : IsB x := ha x (by simp)
    have hy : IsB y := hb y (by simp)
    have ha' : Bs a := fun z hz => ha z (List.mem_cons_of_mem _ hz)
    have hb' : Bs b := fun z hz => hb z (List.mem_cons_of_mem _ hz)
    have hl' : a.length = b.length := by simpa using hl
    have h3 : a.length ≤ 3 := by simpa using h4
    have hxy : x = y := by
      rcases a with _ | ⟨x1, _ | ⟨x2, _ | ⟨x3, _ | ⟨x4, a⟩⟩⟩⟩
      · rcases b with _ | ⟨y1, b⟩
        · exact first0 hg hx hy e
        · simp at hl'
      · rcases b with _ | ⟨y1, _ | ⟨y2, b⟩⟩
        · simp at hl'
        · exact first1 hg hx hy (ha' _ (by simp)) (hb' _ (by simp)) e
        · simp at hl'
      · rcases b with _ | ⟨y1, _ | ⟨y2, _ | ⟨y3, b⟩⟩⟩
        · simp at hl'
        · simp at hl'
        · exact first2 hg hx hy (ha' _ (by simp)) (hb' _ (by simp)) (ha' _ (by simp)) (hb' _ (by simp)) e
        · simp at hl'
      · rcases b with _ | ⟨y1, _ | ⟨y2, _ | ⟨y3, _ | ⟨y4, b⟩⟩⟩⟩
        · simp at hl'
        · simp at hl'
        · simp at hl'
        · exact first3 hg hx hy (ha' _ (by simp)) (hb' _ (by simp)) (ha' _ (by simp)) (hb' _ (by simp)) (ha' _ (by simp)) (hb' _ (by simp)) e
        · simp at hl'
      · simp at h3
    subst hxy
    have := short_inj a b (stepN g x) (step_u g x) ha' hb' hl' (by omega) e
    rw [this]
/-- Lists that are alike outside of four neighbouring bytes. -/
theorem near_inj (p a b s : List Int) (g : Int) (hg : IsU g) (ha : Bs a) (hb : Bs b) (hl : a.length = b.length) (h4 : a.length ≤ 4) (e : moreN g (p ++ (a ++ s)) = moreN g (p ++ (b ++ s))) : a = b := by
  rw [moreN_append, moreN_append, moreN_append, moreN_append] at e
  have hu : IsU (moreN g p) := moreN_range p g hg.1 hg.2
  have e2 := (moreN_inj s _ _ (moreN_range a _ hu.1 hu.2).1 (moreN_range a _ hu.1 hu.2).2 (moreN_range b _ hu.1 hu.2).1 (moreN_range b _ hu.1 hu.2).2).1 e
  exact short_inj a b _ hu ha hb hl h4 e2
/-- The list with its bytes from p on changed, k of them. -/
def xl (l : List Int) (p : Nat) (xs : Nat → Int) : Nat → List Int
  | 0 => l
  | k + 1 => (xl l p xs k).set (p + k) (Go.bits .xor .u8 (rd (xl l p xs k) ((p : Int) + (k : Int))) (xs k))
def unl (xs : Nat → Int) : Nat → Bool
  | 0 => false
  | k + 1 => unl xs k || (xs k != 0)
theorem xl_len (l : List Int) (p : Nat) (xs : Nat → Int) : ∀ k, (xl l p xs k).length = l.length
  | 0 => rfl
  | k + 1 => by rw [xl, List.length_set, xl_len l p xs k]
theorem xl_get (l : List Int) (p : Nat) (xs : Nat → Int) : ∀ (k i : Nat) (hi : i < l.length), (xl l p xs k)[i]? = some (if p ≤ i ∧ i < p + k then Go.bits .xor .u8 l[i] (xs (i - p)) else l[i])
  | 0, i, hi => by
    rw [if_neg (by omega)]
    exact List.getElem?_eq_getElem hi
  | k + 1, i, hi => by
    have ih := xl_get l p xs k
    rw [xl, List.getElem?_set]
    by_cases e : p + k = i
    · subst e
      rw [if_pos rfl, if_pos (by rw [xl_len]; exact hi), if_pos (by omega)]
      have h1 := ih (p + k) hi
      rw [if_neg (by omega)] at h1
      have e2 : rd (xl l p xs k) ((p : Int) + (k : Int)) = l[p + k] := by
        unfold rd
        have e3 : ((p : Int) + (k : Int)).toNat = p + k := by omega
        rw [e3, List.getD_eq_getElem?_getD, h1]
        rfl
      have e4 : p + k - p = k := by omega
      rw [e2, e4]
    · rw [if_neg e, ih i hi]
      by_cases h : p ≤ i ∧ i < p + k
      · rw [if_pos h, if_pos (by omega)]
      · rw [if_neg h, if_neg (by omega)]
theorem unl_false (xs : Nat → Int) : ∀ k, unl xs k = false → ∀ j, j < k → xs j = 0
  | 0, _, j, hj => absurd hj (Nat.not_lt_zero _)
  | k + 1, h, j, hj => by
    simp only [unl, Bool.or_eq_false_iff, bne_eq_false_iff_eq] at h
    rcases Nat.lt_succ_iff_lt_or_eq.1 hj with h1 | h1
    · exact unl_false xs k h.1 j h1
    · subst h1; exact h.2
theorem unl_true (xs : Nat → Int) : ∀ k, unl xs k = true → ∃ j, j < k ∧ xs j ≠ 0
  | 0, h => by cases h
  | k + 1, h => by
    simp only [unl, Bool.or_eq_true, bne_iff_ne] at h
    rcases h with h | h
    · obtain ⟨j, hj, hx⟩ := unl_true xs k h
      exact ⟨j, by omega, hx⟩
    · exact ⟨k, by omega, h⟩
theorem xor_zero8 {a : Int} (ha : IsB a) : Go.bits .xor .u8 a 0 = a := by
  rw [xor8_nat ha ⟨by decide, by decide⟩]
  unfold IsB at ha
  simp
  omega
theorem xl_same (l : List Int) (p : Nat) (xs : Nat → Int) (m : Nat) (hb : Bs l) (h : ∀ j, j < m → xs j = 0) : xl l p xs m = l := by
  apply List.ext_getElem?
  intro i
  by_cases hi : i < l.length
  · rw [xl_get l p xs m i hi, List.getElem?_eq_getElem hi]
    split
    · rename_i hc
      rw [h (i - p) (by omega), xor_zero8 (hb _ (List.getElem_mem hi))]
    · rfl
  · rw [List.getElem?_eq_none (by rw [xl_len]; omega), List.getElem?_eq_none (by omega)]
theorem xl_bs (l : List Int) (p : Nat) (xs : Nat → Int) (m : Nat) (hb : Bs l) (hx : ∀ j, IsB (xs j)) : Bs (xl l p xs m) := by
  intro y hy
  obtain ⟨i, hi, rfl⟩ := List.getElem_of_mem hy
  have hi2 : i < l.length := by rw [xl_len] at hi; exact hi
  have h1 := xl_get l p xs m i hi2
  rw [List.getElem?_eq_getElem hi] at h1
  have h2 := Option.some.inj h1
  rw [h2]
  split
  · exact xor8_b (hb _ (List.getElem_mem hi2)) (hx _)
  · exact hb _ (List.getElem_mem hi2)
theorem cut3 (l : List Int) (p m : Nat) (h : p + m ≤ l.length) : l = l.take p ++ ((l.drop p).take m ++ l.drop (p + m)) := by
  have e : l.drop (p + m) = (l.drop p).drop m := by rw [List.drop_drop]
  rw [e, List.take_append_drop, List.take_append_drop]
/-- The law. -/
theorem near (l : List Int) (p : Nat) (xs : Nat → Int) (m : Nat) (g : Int) (hg : IsU g) (hb : Bs l) (hx : ∀ j, IsB (xs j)) (hm : m ≤ 4) (hp : p + m ≤ l.length) : (moreN g l != moreN g (xl l p xs m)) = unl xs m := by
  cases hu : unl xs m with
  | false =>
    rw [xl_same l p xs m hb (unl_false xs m hu)]
    simp
  | true =>
    rw [bne_iff_ne]
    intro e
    obtain ⟨j, hj, hne⟩ := unl_true xs m hu
    have hl := xl_len l p xs m
    have e1 := cut3 l p m hp
    have e2 := cut3 (xl l p xs m) p m (by omega)
    have t1 : (xl l p xs m).take p = l.take p := by
      apply List.ext_getElem?
      intro i
      by_cases hi : i < p
      · rw [List.getElem?_take_of_lt hi, List.getElem?_take_of_lt hi, xl_get l p xs m i (by omega), if_neg (by omega), List.getElem?_eq_getElem (by omega)]
      · rw [List.getElem?_eq_none (by rw [List.length_take]; omega), List.getElem?_eq_none (by rw [List.length_take]; omega)]
    have t2 : (xl l p xs m).drop (p + m) = l.drop (p + m) := by
      apply List.ext_getElem?
      intro i
      rw [List.getElem?_drop, List.getElem?_drop]
      by_cases hi : p + m + i < l.length
      · rw [xl_get l p xs m _ hi, if_neg (by omega), List.getElem?_eq_getElem hi]
      · rw [List.getElem?_eq_none (by omega), List.getElem?_eq_none (by omega)]
    rw [t1, t2] at e2
    have e3 : moreN g (l.take p ++ ((l.drop p).take m ++ l.drop (p + m))) = moreN g (l.take p ++ (((xl l p xs m).drop p).take m ++ l.drop (p + m))) := by
      rw [← e1, ← e2]; exact e
    have hbx := xl_bs l p xs m hb hx
    have e4 := near_inj (l.take p) _ _ _ g hg (fun z hz => hb z (List.mem_of_mem_drop (List.mem_of_mem_take hz))) (fun z hz => hbx z (List.mem_of_mem_drop (List.mem_of_mem_take hz))) (by simp [hl]) (by rw [List.length_take]; omega) e3
    have e5 := congrArg (fun z : List Int => z[j]?) e4
    simp only [List.getElem?_take_of_lt hj, List.getElem?_drop] at e5
    have hpj : p + j < l.length := by omega
    rw [xl_get l p xs m (p + j) hpj, if_pos (by omega), List.getElem?_eq_getElem hpj] at e5
    have e6 := Option.some.inj e5
    have e7 : p + j - p = j := by omega
    rw [e7] at e6
    exact xor8_ne (hb _ (List.getElem_mem hpj)) (hx j) hne e6.symm
end Go.Proofs.Ytmddjfplkifdmaa.NearPlain
