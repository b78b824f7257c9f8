/- DeviceMany: the plain law. -/
import Derived.Test.YthnbmfkmaijibaaCrashPlain
import Derived.Test.YthnbmfkmaijibaaSepOps
namespace Go.Proofs.Ythnbmfkmaijibaa.Help
open Go.Proofs Go.RowKit Go.Proofs.YthnbmfkmaijibaaW.PrintWords Go.Proofs.YthnbmfkmaijibaaW.PrintLast Go.Proofs.YthnbmfkmaijibaaW.PrintMore Go.Proofs.Ythnbmfkmaijibaa.IMap Go.Proofs.Ythnbmfkmaijibaa.Dev Go.Proofs.Ythnbmfkmaijibaa.PDeviceReads Go.Proofs.Ythnbmfkmaijibaa.Sep
set_option linter.unusedVariables false
set_option linter.unusedSimpArgs false
abbrev ptr (p : Nat) : Value := .pointer (some ⟨p, 0, none⟩)
/-- The i-th device as it is made; behind its write. -/
def bs (N : Nat) (v : Nat → Int) (i : Nat) : DS := DS.made (if i % 2 = 1 then List.replicate (512 * N) (v i) else List.replicate (512 * N) 0)
def st1 (N : Nat) (v : Nat → Int) (a : Int) (i : Nat) : DS := if i % 3 = 0 then ((bs N v i).arm a).2 else bs N v i
def st2 (N : Nat) (v : Nat → Int) (a : Int) (i : Nat) : DS := ((st1 N v a i).write 0 (r (200 + i))).2
theorem bs_fit {N : Nat} (h0 : 1 ≤ N) (h1 : N ≤ 4096) (v : Nat → Int) (i : Nat) : Fit N (bs N v i) 0 := by
  have hl : (bs N v i).dur.length = 512 * N := by
    show (if i % 2 = 1 then List.replicate (512 * N) (v i) else List.replicate (512 * N) 0).length = _
    split <;> rw [List.length_replicate]
  have hn : (bs N v i).n = N := by unfold DS.n; rw [hl]; omega
  exact ⟨made_ok (d := (bs N v i).dur) h0 h1 hl, hn, Nat.le_refl _⟩
theorem st1_fit {N : Nat} (h0 : 1 ≤ N) (h1 : N ≤ 4096) (v : Nat → Int) {a : Int} (ha : a < 9223372036854775808) (i : Nat) : Fit N (st1 N v a i) 0 := by
  unfold st1
  split
  · exact (bs_fit h0 h1 v i).arm a ha
  · exact bs_fit h0 h1 v i
theorem st2_fit {N : Nat} (h0 : 1 ≤ N) (h1 : N ≤ 4096) (v : Nat → Int) {a : Int} (ha : a < 9223372036854775808) (i : Nat) : Fit N (st2 N v a i) 1 := (st1_fit h0 h1 v ha i).write _ _
theorem st1_powered {N : Nat} {v : Nat → Int} {a : Int} (ha : 2 ≤ a) (i : Nat) : (st1 N v a i).powered.1 = true ∧ (st1 N v a i).powered.2.pend = [] ∧ (st1 N v a i).powered.2.off = false ∧ (st1 N v a i).powered.2.dur = (bs N v i).dur := by
  unfold st1
  split
  · have e : (bs N v i).arm a = (0, { bs N v i with fuse := a }) := by
      unfold DS.arm
      rw [if_neg (by omega), if_neg (by show ¬ (false = true); simp)]
    rw [e]
    have e2 : (a - 1 == 0) = false := beq_eq_false_iff_ne.2 (by omega)
    unfold DS.powered
    rw [if_neg (by show ¬ (false = true); simp), if_pos (by show a > 0; omega)]
    refine ⟨?_, rfl, ?_, rfl⟩
    · show (!(a - 1 == 0)) = true
      rw [e2]; rfl
    · show (a - 1 == 0) = false
      exact e2
  · unfold DS.powered
    rw [if_neg (by show ¬ (false = true); simp), if_neg (by show ¬ ((0 : Int) > 0); omega)]
    exact ⟨rfl, rfl, rfl, rfl⟩
theorem st2_is {N : Nat} (h0 : 1 ≤ N) (h1 : N ≤ 4096) {v : Nat → Int} {a : Int} (ha : 2 ≤ a) (ha2 : a < 9223372036854775808) (i : Nat) : ((st1 N v a i).write 0 (r (200 + i))).1 = 0 ∧ (st2 N v a i).read 0 = (r (200 + i), 0) ∧ (st2 N v a i).dur = (bs N v i).dur ∧ (st2 N v a i).pend.length = 1 := by
  have hp := st1_powered (N := N) (v := v) ha i
  have hf := st1_fit h0 h1 v ha2 i
  have hb : (st1 N v a i).hasB 0 = true := hasB_iff.2 ⟨by omega, by rw [hf.n]; omega⟩
  have hW : (st1 N v a i).write 0 (r (200 + i)) = (0, { (st1 N v a i).powered.2 with pend := [(0, r (200 + i))] }) := by
    unfold DS.write
    rw [if_pos hb, if_pos (er _), hp.1, if_pos rfl, hp.2.1]
    rfl
  have h2 : st2 N v a i = { (st1 N v a i).powered.2 with pend := [(0, r (200 + i))] } := by
    unfold st2
    rw [hW]
  refine ⟨by rw [hW], ?_, ?_, ?_⟩
  · have hf2 := st2_fit h0 h1 v ha2 i
    have hb2 : (st2 N v a i).hasB 0 = true := hasB_iff.2 ⟨by omega, by rw [hf2.n]; omega⟩
    unfold DS.read
    rw [if_pos hb2, h2, if_neg (by show ¬ ((st1 N v a i).powered.2.off = true); rw [hp.2.2.1]; simp)]
    rfl
  · rw [h2]; exact hp.2.2.2
  · rw [h2]; rfl
theorem fill_step {m n : Nat} {x : Int} {l : List Int} (hl : l.length = n) (h : m < n) : (List.replicate m x ++ l.drop m).set m x = List.replicate (m + 1) x ++ l.drop (m + 1) := by
  rw [List.set_append, if_neg (by simp), List.length_replicate, Nat.sub_self]
  have h' : m < l.length := by omega
  rw [List.drop_eq_getElem_cons h', List.set_cons_zero, List.replicate_succ', List.append_assoc]
  rfl
end Go.Proofs.Ythnbmfkmaijibaa.Help
