/- DeviceAll: the plain law. -/
import Derived.Test.YthnbmfkmaijibaaDevWs
namespace Go.Proofs.Ythnbmfkmaijibaa.Help
open Go.Proofs Go.RowKit Go.Proofs.YthnbmfkmaijibaaW.PrintWords Go.Proofs.YthnbmfkmaijibaaW.PrintLast Go.Proofs.YthnbmfkmaijibaaW.PrintMore Go.Proofs.Ythnbmfkmaijibaa.IMap Go.Proofs.Ythnbmfkmaijibaa.Dev Go.Proofs.Ythnbmfkmaijibaa.PDeviceReads
set_option linter.unusedVariables false
set_option linter.unusedSimpArgs false
/-- The block that a number names. -/
def plc (b : Int) (N : Nat) : Int := Int.tmod (wrap64 (Int.tmod b (N : Int) + (N : Int))) (N : Int)
theorem plc_in {b : Int} {N : Nat} (h0 : 1 ≤ N) (h1 : N ≤ 4096) : 0 ≤ plc b N ∧ plc b N < (N : Int) := by
  have a1 : Int.tmod b (N : Int) < (N : Int) := Int.tmod_lt_of_pos _ (by omega)
  have a2 : -(N : Int) < Int.tmod b (N : Int) := Int.lt_tmod_of_pos _ (by omega)
  unfold plc
  have w : wrap64 (Int.tmod b (N : Int) + (N : Int)) = Int.tmod b (N : Int) + (N : Int) := by unfold wrap64; omega
  rw [w, Int.tmod_eq_emod_of_nonneg (by omega)]
  exact ⟨Int.emod_nonneg _ (by omega), Int.emod_lt_of_pos _ (by omega)⟩
theorem place_any (b : Int) (N : Nat) (h0 : 1 ≤ N) (w : World) : Calls Try.prog 17 #[.int .i64 b, .int .i64 (N : Int)] w fun e w' => e = .returned (.int .i64 (plc b N)) ∧ Below w.heap.size w w' :=
  (annexlaw5_place.calls b N (plc b N) w (by unfold annexlaw5_place.f plc; rw [if_neg (by omega)])).mono fun e w' h => ⟨h.1, h.2.below⟩
def sz (n : Int) : Nat := (1 + (Int.tmod (wrap64 ((Int.tmod n 64) + 64)) 64)).toNat
theorem sz_in (n : Int) : 1 ≤ sz n ∧ sz n ≤ 64 ∧ wrap64 (1 + (Int.tmod (wrap64 ((Int.tmod n 64) + 64)) 64)) = (sz n : Int) := by
  have a1 : Int.tmod n 64 < 64 := Int.tmod_lt_of_pos _ (by omega)
  have a2 : -64 < Int.tmod n 64 := Int.lt_tmod_of_pos _ (by omega)
  have w : wrap64 (Int.tmod n 64 + 64) = Int.tmod n 64 + 64 := by unfold wrap64; omega
  have a3 := Int.emod_nonneg (Int.tmod n 64 + 64) (show (64 : Int) ≠ 0 by omega)
  have a4 := Int.emod_lt_of_pos (Int.tmod n 64 + 64) (show (0 : Int) < 64 by omega)
  unfold sz
  rw [w, Int.tmod_eq_emod_of_nonneg (show 0 ≤ Int.tmod n 64 + 64 by omega)]
  refine ⟨by omega, by omega, ?_⟩
  unfold wrap64
  omega
theorem size_any (n : Int) (w : World) : Calls Try.prog 13 #[.int .i64 n] w fun e w' => e = .returned (.int .i64 (sz n : Int)) ∧ Below w.heap.size w w' :=
  (annexlaw5_size.calls n (sz n : Int) w (by unfold annexlaw5_size.f; rw [(sz_in n).2.2])).mono fun e w' h => ⟨h.1, h.2.below⟩
/-- The state behind k writes. -/
def st (N : Nat) (l : List Wr) : Nat → DS
  | 0 => DS.made (List.replicate (512 * N) 0)
  | k + 1 => ((st N l k).write (plc (l.getD k (0, 0, false)).1 N) (r (l.getD k (0, 0, false)).2.1)).2
theorem write_yes {s : DS} {b : Int} {d : List Int} (hb : 0 ≤ b ∧ b < (s.n : Int)) (hd : d.length = 512) (ho : s.off = false) (hf : s.fuse = 0) : s.write b d = (0, { s with pend := s.pend ++ [(b, d)] }) := by
  have hp : s.powered = (true, s) := by unfold DS.powered; rw [ho, if_neg (by simp), if_neg (by omega)]
  unfold DS.write
  rw [if_pos (hasB_iff.2 hb), if_pos hd, hp]
  rfl
theorem st_is (N : Nat) (h0 : 1 ≤ N) (h1 : N ≤ 4096) (l : List Wr) : ∀ k, (st N l k).off = false ∧ (st N l k).fuse = 0 ∧ (st N l k).n = N ∧ (st N l k).pend.length = k := by
  intro k
  induction k with
  | zero =>
    refine ⟨rfl, rfl, ?_, rfl⟩
    show (List.replicate (512 * N) (0 : Int)).length / 512 = N
    rw [List.length_replicate]
    omega
  | succ k ih =>
    obtain ⟨i1, i2, i3, i4⟩ := ih
    show (((st N l k).write _ _).2).off = false ∧ (((st N l k).write _ _).2).fuse = 0 ∧ (((st N l k).write _ _).2).n = N ∧ (((st N l k).write _ _).2).pend.length = k + 1
    rw [write_yes (by rw [i3]; exact plc_in h0 h1) (er _) i1 i2]
    refine ⟨i1, i2, i3, ?_⟩
    show ((st N l k).pend ++ [_]).length = k + 1
    rw [List.length_append, i4]
    rfl
theorem settled_same {k1 k2 : Nat → Bool} {ps : List (Int × List Int)} {d : List Int} : ∀ i, (∀ j, j < i → k1 j = k2 j) → settled k1 ps d i = settled k2 ps d i := by
  intro i
  induction i with
  | zero => intro _; rfl
  | succ i ih =>
    intro h
    unfold settled
    rw [ih (fun j hj => h j (by omega)), h i (by omega)]
theorem all_is {s : DS} (ho : s.off = false) (hf : s.fuse = 0) (L : Nat) (hL : s.pend.length ≤ L) : s.flush.1 = 0 ∧ (s.crash (List.replicate L true)).dur = s.flush.2.dur := by
  have hp : s.powered = (true, s) := by unfold DS.powered; rw [ho, if_neg (by simp), if_neg (by omega)]
  unfold DS.flush
  rw [hp, if_pos rfl]
  refine ⟨rfl, ?_⟩
  show settled _ s.pend s.dur s.pend.length = settled _ s.pend s.dur s.pend.length
  refine settled_same _ fun j hj => ?_
  rw [List.getD_eq_getElem?_getD, List.getElem?_replicate, if_pos (by omega)]
  rfl
/-! ### two devices -/
theorem At.other {w0 w w' : World} {q : Nat} {s : DS} {F G : Nat → Prop} (h : At w0 w q s G) (c : Chg F w w') (hlow : ∀ k, F k → w0.heap.size ≤ k) (hd : ∀ k, G k → ¬ F k) : At w0 w' q s G :=
  ⟨h.dev.chg c hd, h.low, h.bel.trans (c.below h.bel.size hlow)⟩
theorem far_grow {w0 w w' : World} {q : Nat} {s : DS} {F G : Nat → Prop} (h : At w0 w q s G) (hd : ∀ k, G k → ¬ F k) : ∀ k, G k → ¬ grow F w w' k := fun k hk hg => hg.elim (hd k hk) fun e => by have := h.dev.lt k hk; omega
end Go.Proofs.Ythnbmfkmaijibaa.Help
