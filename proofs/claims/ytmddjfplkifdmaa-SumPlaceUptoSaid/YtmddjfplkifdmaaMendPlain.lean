/- The plain law of Mend: what it answers is the document's answer, and the only change of one byte that brings the sum. -/
import Derived.Test.YtmddjfplkifdmaaMendWalk
namespace Go.Proofs.Ytmddjfplkifdmaa.MendPlain
open Go.RowKit Go.Proofs.YtmddjfplkifdmaaW.PrintWords Go.Proofs.Ytmddjfplkifdmaa.SumPlain Go.Proofs.Ytmddjfplkifdmaa.Mend
set_option linter.unusedVariables false
set_option linter.unusedSimpArgs false
def IsU (h : Int) : Prop := 0 ≤ h ∧ h < 18446744073709551616
def IsB (x : Int) : Prop := 0 ≤ x ∧ x < 256
def Bs (l : List Int) : Prop := ∀ x ∈ l, IsB x
theorem offset_u : IsU 14695981039346656037 := ⟨by decide, by decide⟩
theorem isAt_u (l : List Int) (k : Nat) : IsU (isAt l k) := moreN_range _ _ offset_u.1 offset_u.2
theorem mustAt_eq (l : List Int) (want : Int) (k : Nat) : mustAt l want k = backN (backsN want (l.drop (k + 1))) 0 := rfl
theorem mustAt_u (l : List Int) (want : Int) (k : Nat) : IsU (mustAt l want k) := backN_range _ _
/-- The exclusive or of two numbers of 64 bits. -/
def X (h m : Int) : Int := Go.bits .xor .u64 h m
theorem X_nat {h m : Int} (hh : IsU h) (hm : IsU m) : X h m = ((h.toNat ^^^ m.toNat : Nat) : Int) := by
  unfold X
  rw [xor_bv, BitVec.toNat_xor]
  have a1 : (bv h).toNat = h.toNat := by have := toNat_bv_of hh.1 hh.2; omega
  have a2 : (bv m).toNat = m.toNat := by have := toNat_bv_of hm.1 hm.2; omega
  rw [a1, a2]
theorem xor_small (a b : Nat) : a ^^^ b < 256 ↔ a / 256 = b / 256 := by
  have e : (a ^^^ b) >>> 8 = (a >>> 8) ^^^ (b >>> 8) := Nat.shiftRight_xor_distrib
  simp only [Nat.shiftRight_eq_div_pow] at e
  have e2 : (2 : Nat) ^ 8 = 256 := rfl
  rw [e2] at e
  constructor
  · intro h
    have h0 : (a ^^^ b) / 256 = 0 := Nat.div_eq_of_lt h
    rw [h0] at e
    have e3 : a / 256 ^^^ (a / 256 ^^^ b / 256) = a / 256 ^^^ 0 := by rw [← e]
    rw [← Nat.xor_assoc, Nat.xor_self, Nat.zero_xor, Nat.xor_zero] at e3
    exact e3.symm
  · intro h
    rw [h, Nat.xor_self] at e
    omega
theorem xor_low (a b : Nat) : (a % 256) ^^^ (b % 256) = (a ^^^ b) % 256 := by
  have := Nat.xor_mod_two_pow (a := a) (b := b) (n := 8)
  exact this.symm
theorem hitB_iff {h m : Int} (hh : IsU h) (hm : IsU m) : hitB h m = true ↔ h / 256 = m / 256 := by
  unfold hitB Split.ob
  simp only [Bool.and_eq_true, beq_iff_eq]
  unfold IsU at hh hm
  have p1 : (256 : Int) ^ 1 = 256 := rfl
  have p2 : (256 : Int) ^ 2 = 65536 := rfl
  have p3 : (256 : Int) ^ 3 = 16777216 := rfl
  have p4 : (256 : Int) ^ 4 = 4294967296 := rfl
  have p5 : (256 : Int) ^ 5 = 1099511627776 := rfl
  have p6 : (256 : Int) ^ 6 = 281474976710656 := rfl
  have p7 : (256 : Int) ^ 7 = 72057594037927936 := rfl
  rw [p1, p2, p3, p4, p5, p6, p7]
  constructor
  · intro h
    omega
  · intro h
    omega
theorem hitB_X {h m : Int} (hh : IsU h) (hm : IsU m) : hitB h m = true ↔ X h m < 256 := by
  rw [hitB_iff hh hm, X_nat hh hm]
  have := xor_small h.toNat m.toNat
  unfold IsU at hh hm
  constructor
  · intro e
    have : h.toNat ^^^ m.toNat < 256 := this.2 (by omega)
    omega
  · intro e
    have := this.1 (by omega)
    omega
/-- The byte that Mend tells. -/
theorem byte_X {h m : Int} (hh : IsU h) (hm : IsU m) (hx : X h m < 256) : Go.bits .xor .u8 (Split.ob h 0) (Split.ob m 0) = X h m := by
  have hn := X_nat hh hm
  unfold IsU at hh hm
  have e : Go.bits .xor .u8 (Split.ob h 0) (Split.ob m 0) = (((h.toNat % 256) ^^^ (m.toNat % 256) : Nat) : Int) := by
    unfold Go.bits
    simp only []
    have b1 : (BitVec.ofInt (IntKind.u8).bits (Split.ob h 0)).toNat = h.toNat % 256 := by
      show (BitVec.ofInt 8 (Split.ob h 0)).toNat = _
      rw [BitVec.toNat_ofInt]
      unfold Split.ob
      simp
      omega
    have b2 : (BitVec.ofInt (IntKind.u8).bits (Split.ob m 0)).toNat = m.toNat % 256 := by
      show (BitVec.ofInt 8 (Split.ob m 0)).toNat = _
      rw [BitVec.toNat_ofInt]
      unfold Split.ob
      simp
      omega
    rw [BitVec.toNat_xor, b1, b2, xor_low]
    show IntKind.u8.wrap _ = _
    simp [IntKind.wrap, IntKind.bits, IntKind.signed]
  rw [e, xor_low, hn]
  rw [hn] at hx
  omega
theorem bv_zero : bv 0 = 0#64 := by decide
theorem bv_back0 (T : Int) : bv (backN T 0) = bv T * bv 14886173955864302971 := by
  rw [backN_bv, bv_nat, bv_zero, BitVec.xor_zero]
theorem bv_toNat {y : Int} (hy : IsU y) : ((bv y).toNat : Int) = y := toNat_bv_of hy.1 hy.2
theorem change_iff {h T y : Int} (hT : IsU T) (hy : IsU y) : stepN h y = T ↔ y = X h (backN T 0) := by
  unfold X
  rw [xor_bv, bv_back0, stepN_bv]
  constructor
  · intro e
    have e1 : bv T = (bv h ^^^ bv y) * bv 1099511628211 := by rw [← e, bv_nat]
    rw [e1, BitVec.mul_assoc, prime_inv, BitVec.mul_one, ← BitVec.xor_assoc, BitVec.xor_self, BitVec.zero_xor]
    exact (bv_toNat hy).symm
  · intro e
    have e1 : bv y = bv h ^^^ (bv T * bv 14886173955864302971) := by rw [e, bv_nat]
    rw [e1, ← BitVec.xor_assoc, BitVec.xor_self, BitVec.zero_xor, BitVec.mul_assoc, inv_prime, BitVec.mul_one]
    exact bv_toNat hT
theorem set_split (l : List Int) (k : Nat) (y : Int) (hk : k < l.length) : l.set k y = l.take k ++ y :: l.drop (k + 1) := by
  rw [List.set_eq_take_append_cons_drop, if_pos hk]
theorem more_eq_iff {a want : Int} (l : List Int) (ha : IsU a) (hw : IsU want) : moreN a l = want ↔ a = backsN want l := by
  constructor
  · intro e; rw [← e, backs_more l a ha.1 ha.2]
  · intro e; rw [e, more_backs l want hw.1 hw.2]
theorem backs_u (l : List Int) {w : Int} (hw : IsU w) : IsU (backsN w l) := backsN_range l w hw.1 hw.2
/-- Which change of the k-th byte brings the sum. -/
theorem set_sum {l : List Int} {want y : Int} {k : Nat} (hk : k < l.length) (hw : IsU want) (hy : IsU y) : moreN 14695981039346656037 (l.set k y) = want ↔ y = X (isAt l k) (mustAt l want k) := by
  rw [set_split l k y hk, moreN_append]
  show moreN (stepN (isAt l k) y) (l.drop (k + 1)) = want ↔ _
  rw [more_eq_iff _ (stepN_range _ _) hw, mustAt_eq]
  exact change_iff (backs_u _ hw) hy
theorem hit_X (l : List Int) (want : Int) (k : Nat) : hit l want k = true ↔ X (isAt l k) (mustAt l want k) < 256 := hitB_X (isAt_u l k) (mustAt_u l want k)
theorem X_pos {h m : Int} (hh : IsU h) (hm : IsU m) : 0 ≤ X h m := by rw [X_nat hh hm]; exact Int.natCast_nonneg _
theorem u_of_b {x : Int} (h : IsB x) : IsU x := ⟨h.1, by have := h.2; omega⟩
/-- The three answers. -/
theorem mend_has {l : List Int} {want : Int} (h : moreN 14695981039346656037 l = want) : mendN l want = (-1, 0, true) := by unfold mendN; rw [if_pos h]
theorem mend_hit {l : List Int} {want : Int} {k : Nat} (h : ¬ moreN 14695981039346656037 l = want) (hk : k < l.length) (hh : hit l want k = true) (hn : ∀ j, j < k → hit l want j = false) : mendN l want = ((k : Int), X (isAt l k) (mustAt l want k), true) := by
  unfold mendN
  rw [if_neg h, find_at l.length k hk hh hn]
  simp only
  rw [byte_X (isAt_u l k) (mustAt_u l want k) ((hit_X l want k).1 hh)]
theorem mend_none {l : List Int} {want : Int} (h : ¬ moreN 14695981039346656037 l = want) (hn : ∀ j, j < l.length → hit l want j = false) : mendN l want = (0, 0, false) := by
  unfold mendN
  rw [if_neg h, find_no l.length hn]
theorem mend_cases (l : List Int) (want : Int) : (moreN 14695981039346656037 l = want ∧ mendN l want = (-1, 0, true)) ∨
    (¬ moreN 14695981039346656037 l = want ∧ ∃ k, k < l.length ∧ hit l want k = true ∧ (∀ j, j < k → hit l want j = false) ∧ mendN l want = ((k : Int), X (isAt l k) (mustAt l want k), true)) ∨
    (¬ moreN 14695981039346656037 l = want ∧ (∀ j, j < l.length → hit l want j = false) ∧ mendN l want = (0, 0, false)) := by
  by_cases h : moreN 14695981039346656037 l = want
  · exact .inl ⟨h, mend_has h⟩
  · refine .inr ?_
    cases e : (List.range l.length).find? (hit l want) with
    | some k =>
      rw [List.find?_range_eq_some] at e
      obtain ⟨h1, h2, h3⟩ := e
      have hk : k < l.length := by simpa using h2
      have hn : ∀ j, j < k → hit l want j = false := fun j hj => by simpa using h3 j hj
      exact .inl ⟨h, k, hk, h1, hn, mend_hit h hk h1 hn⟩
    | none =>
      rw [List.find?_eq_none] at e
      have hn : ∀ j, j < l.length → hit l want j = false := fun j hj => by simpa using e j (List.mem_range.2 hj)
      exact .inr ⟨h, hn, mend_none h hn⟩
/-- What was found mends. -/
theorem hit_mends {l : List Int} {want : Int} {k : Nat} (hw : IsU want) (hk : k < l.length) : moreN 14695981039346656037 (l.set k (X (isAt l k) (mustAt l want k))) = want := by
  refine (set_sum hk hw ⟨X_pos (isAt_u l k) (mustAt_u l want k), ?_⟩).2 rfl
  unfold X
  rw [xor_bv]
  have := (bv (isAt l k) ^^^ bv (mustAt l want k)).isLt
  omega
/-- Where nothing is found no byte mends. -/
theorem no_mends {l : List Int} {want y : Int} {k : Nat} (hw : IsU want) (hk : k < l.length) (hy : IsB y) (hn : hit l want k = false) : ¬ moreN 14695981039346656037 (l.set k y) = want := by
  intro e
  have e2 := (set_sum hk hw (u_of_b hy)).1 e
  have : hit l want k = true := (hit_X l want k).2 (by rw [← e2]; exact hy.2)
  rw [hn] at this
  cases this
/-- A change of one byte is found there or ahead of it. -/
theorem change_found {l : List Int} {want y : Int} {k : Nat} (hw : IsU want) (hk : k < l.length) (hy : IsB y) (e : moreN 14695981039346656037 (l.set k y) = want) : hit l want k = true := by
  have e2 := (set_sum hk hw (u_of_b hy)).1 e
  exact (hit_X l want k).2 (by rw [← e2]; exact hy.2)
theorem must_wrap (l : List Int) (want : Int) (k : Nat) : IntKind.u64.wrap (backsN want (l.drop (k + 1)) * 14886173955864302971) = mustAt l want k := by
  rw [mustAt_eq, backN_bv, bv_zero, BitVec.xor_zero, wrap_bv, bv_mul]
theorem X_comm (h m : Int) : X h m = X m h := by unfold X; rw [xor_bv, xor_bv, BitVec.xor_comm]
theorem ofInt8 {a : Int} (h : IsB a) : (BitVec.ofInt 8 a).toNat = a.toNat := by
  unfold IsB at h
  rw [BitVec.toNat_ofInt]
  simp
  omega
theorem xor8_nat {a x : Int} (ha : IsB a) (hx : IsB x) : Go.bits .xor .u8 a x = ((a.toNat ^^^ x.toNat : Nat) : Int) := by
  unfold Go.bits
  simp only []
  have b1 : (BitVec.ofInt (IntKind.u8).bits a).toNat = a.toNat := ofInt8 ha
  have b2 : (BitVec.ofInt (IntKind.u8).bits x).toNat = x.toNat := ofInt8 hx
  rw [BitVec.toNat_xor, b1, b2]
  have hlt : a.toNat ^^^ x.toNat < 2 ^ 8 := Nat.xor_lt_two_pow (by unfold IsB at ha; omega) (by unfold IsB at hx; omega)
  show IntKind.u8.wrap _ = _
  simp [IntKind.wrap, IntKind.bits, IntKind.signed]
  omega
theorem xor8_b {a x : Int} (ha : IsB a) (hx : IsB x) : IsB (Go.bits .xor .u8 a x) := by
  rw [xor8_nat ha hx]
  have hlt : a.toNat ^^^ x.toNat < 2 ^ 8 := Nat.xor_lt_two_pow (by unfold IsB at ha; omega) (by unfold IsB at hx; omega)
  unfold IsB
  omega
theorem xor8_ne {a x : Int} (ha : IsB a) (hx : IsB x) (h0 : x ≠ 0) : Go.bits .xor .u8 a x ≠ a := by
  intro e
  rw [xor8_nat ha hx] at e
  unfold IsB at ha hx
  have e2 : a.toNat ^^^ x.toNat = a.toNat := by omega
  have e3 : a.toNat ^^^ (a.toNat ^^^ x.toNat) = a.toNat ^^^ a.toNat := by rw [e2]
  rw [← Nat.xor_assoc, Nat.xor_self, Nat.zero_xor] at e3
  omega
/-- Two bytes at one place that both bring the sum are one. -/
theorem set_unique {l : List Int} {want y z : Int} {k : Nat} (hk : k < l.length) (hw : IsU want) (hy : IsB y) (hz : IsB z) (e1 : moreN 14695981039346656037 (l.set k y) = want) (e2 : moreN 14695981039346656037 (l.set k z) = want) : y = z := by
  rw [(set_sum hk hw (u_of_b hy)).1 e1, (set_sum hk hw (u_of_b hz)).1 e2]
end Go.Proofs.Ytmddjfplkifdmaa.MendPlain
