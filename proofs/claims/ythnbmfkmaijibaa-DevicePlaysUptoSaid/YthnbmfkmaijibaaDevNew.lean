/- The makers of a device: New, Image. -/
import Derived.Test.YthnbmfkmaijibaaDevWrite
namespace Go.Proofs.Ythnbmfkmaijibaa.Dev
open Go.Proofs Go.RowKit Go.Proofs.YthnbmfkmaijibaaW.PrintWords Go.Proofs.YthnbmfkmaijibaaW.PrintLast Go.Proofs.YthnbmfkmaijibaaW.PrintMore Go.Proofs.Ythnbmfkmaijibaa.IMap Go.Proofs.Ythnbmfkmaijibaa.Locks
set_option linter.unusedVariables false
set_option linter.unusedSimpArgs false
def DS.made (d : List Int) : DS := ⟨d, [], false, 0⟩
theorem made_ok {d : List Int} {n : Nat} (h0 : 1 ≤ n) (h1 : n ≤ 4096) (hl : d.length = 512 * n) : (DS.made d).Ok := by
  have hn : (DS.made d).n = n := by
    show d.length / 512 = n
    omega
  exact ⟨by rw [hn]; exact h0, by rw [hn]; exact h1, by rw [hn]; exact hl, by simp [DS.made], by simp [DS.made], by simp [DS.made]⟩
theorem heap_at (w : World) (o : Obj) : (w.alloc o).heap[w.heap.size]? = some o := (MapKept.heap_alloc w o).1
theorem below_call2 {w X w' : World} (k : Below X.heap.size X w') (h : Below w.heap.size w X) : Below w.heap.size w w' := h.trans (k.mono h.size)
theorem made_any (w : World) (B : Nat) (v : Value) (d : List Int) (hv : w.ownsRow B 5 1 v d.length (nums .u8 d)) (hok : (DS.made d).Ok) :
    Calls Try.prog 47 #[v] w fun e w' => ∃ q, e = .returned (.pointer (some ⟨q, 0, none⟩)) ∧ Dev w' q (DS.made d) (fun k => v.ownBlock = some k ∨ (w.heap.size ≤ k ∧ k < w'.heap.size)) ∧ Below w.heap.size w w' := by
  obtain ⟨A, c, rfl⟩ := own_slice hv
  go_enter Try.func47, Try.ntmps47
  have hmm : ∀ W : World, (Instr.makeMap 100 none).run Try.prog W = .ok (.map (some W.heap.size)) (W.alloc (.map #[] 0)) := fun W => rfl
  go_wp2
  go_ret
  have hs1 : (w.alloc (.map #[] 0)).heap.size = w.heap.size + 1 := World.size_alloc ..
  obtain ⟨w1, hw1⟩ : ∃ w1, w1 = w.alloc (.map #[] 0) := ⟨_, rfl⟩
  have hm1 : MapAt w1 w.heap.size fun _ => none := by rw [hw1]; exact MapAt.new w
  have hv1 := own_alloc hv (.map #[] 0)
  have hb1 : Below w.heap.size w w1 := by rw [hw1]; exact below_alloc (Below.refl _ _) _
  rw [← hw1] at hv1 hs1
  rw [← hw1]
  refine ⟨w.heap.size + 1, rfl, ⟨⟨.slice A d.length c, .slice none 0 0, w.heap.size, []⟩, ?_⟩, below_alloc hb1 _⟩
  have hlt := own_lt hv
  have hs2 : ∀ o, (w1.alloc o).heap.size = w.heap.size + 2 := fun o => by rw [World.size_alloc, hs1]
  refine ⟨?_, own_weaken (own_alloc hv1 _) (Nat.zero_le _), own_nil _ _ _ _, rfl, by simp, by simp, ?_, hok, ?_, ?_, fun k e => .inl e, by simp [Value.ownBlock], by simp, ?_⟩
  · rw [← hs1]
    exact heap_at w1 _
  · exact hm1.move (Below.heap_alloc w1 _ _ (by omega))
  · exact .inr ⟨by omega, by rw [hs2]; omega⟩
  · exact .inr ⟨Nat.le_refl _, by rw [hs2]; show w.heap.size < _; omega⟩
  · intro k hk
    rw [hs2] at hk ⊢
    rcases hk with h1 | h1
    · have := hlt k h1; omega
    · omega
theorem new_no (w : World) (n : Int) (h : n < 1 ∨ n > 4096) : Calls Try.prog 14 #[.int .i64 n] w fun e w' => e = .returned (.pointer none) ∧ w' = w := by
  go_enter Try.func14, Try.ntmps14
  by_cases h1 : n < 1
  · go_wp2
    go_ret
    exact ⟨rfl, rfl⟩
  · have h2 : n > 4096 := h.resolve_left h1
    go_wp2
    go_ret
    exact ⟨rfl, rfl⟩
set_option maxRecDepth 100000 in
theorem new_any (w : World) (n : Nat) (h0 : 1 ≤ n) (h1 : n ≤ 4096) : Calls Try.prog 14 #[.int .i64 (n : Int)] w fun e w' => ∃ q, e = .returned (.pointer (some ⟨q, 0, none⟩)) ∧ Dev w' q (DS.made (List.replicate (512 * n) 0)) (fun k => w.heap.size ≤ k ∧ k < w'.heap.size) ∧ Below w.heap.size w w' := by
  have hw : IntKind.i64.wrap ((n : Int) * 512) = ((512 * n : Nat) : Int) := by rw [IntKind.wrap_i64]; omega
  have hmk := print_make (P := Try.prog) 29 5 .u8 1 Try.underlying29 info5 (by decide) (512 * n) (by omega)
  have hmk2 : ∀ W : World, (Instr.makeSlice 29 (.int .i64 (512 * (n : Int))) (.int .i64 (512 * (n : Int)))).run Try.prog W = .ok (.slice (some ⟨W.heap.size, 0, none⟩) (512 * n) (512 * n)) (W.alloc (.cells (madeCells #[.int .u8 0] (512 * n)) 5)) := fun W => by simpa using hmk W
  clear hmk
  have hg1 : ¬ (n : Int) < 1 := by omega
  have hg2 : ¬ (n : Int) > 4096 := by omega
  have hlen : (List.replicate (512 * n) (0 : Int)).length = 512 * n := by simp
  have hown := own_made (w) 0 5 .u8 (512 * n) (Nat.zero_le _) (by omega)
  have hv := hown
  rw [← hlen] at hv
  go_enter Try.func14, Try.ntmps14
  go_wp2_with fail
  refine (made_any _ 0 _ (List.replicate (512 * n) 0) ?_ (made_ok h0 h1 hlen)).mono ?_
  · rw [hlen]
    exact hown
  rintro e w' ⟨q, rfl, hd, hb⟩
  have hb0 : Below w.heap.size w (w.alloc (.cells (madeCells #[.int .u8 0] (512 * n)) 5)) := below_alloc (Below.refl _ _) _
  have hs0 : (w.alloc (.cells (madeCells #[.int .u8 0] (512 * n)) 5)).heap.size = w.heap.size + 1 := World.size_alloc ..
  have hs1 := hb.size
  rw [hs0] at hs1
  have hdev : Dev w' q (DS.made (List.replicate (512 * n) 0)) (fun k => w.heap.size ≤ k ∧ k < w'.heap.size) := by
    obtain ⟨L, hd⟩ := hd
    refine ⟨L, hd.widen (fun k hk => ?_) fun k hk => hk.2⟩
    rcases hk with h | h
    · have : w.heap.size = k := by simpa [Value.ownBlock] using h
      omega
    · omega
  have hbel := below_call2 hb hb0
  go_wp2
  go_ret
  exact ⟨q, rfl, hdev, hbel⟩
/-- The bytes make a device. -/
def fit (d : List Int) : Bool := decide (d.length % 512 = 0) && (decide (1 ≤ d.length / 512) && decide (d.length / 512 ≤ 4096))
theorem fit_ok {d : List Int} (h : fit d = true) : (DS.made d).Ok := by
  simp [fit] at h
  exact made_ok h.2.1 h.2.2 (by omega)
def ImagePost (d : List Int) (w : World) (e : Ending) (w' : World) : Prop := if fit d then ∃ q, e = .returned (.tuple #[.pointer (some ⟨q, 0, none⟩), .int .i64 0]) ∧ Dev w' q (DS.made d) (fun k => w.heap.size ≤ k ∧ k < w'.heap.size) else e = .returned (.tuple #[.pointer none, .int .i64 51])
theorem image_no {d : List Int} (h : fit d = false) (w w' : World) : ImagePost d w (.returned (.tuple #[.pointer none, .int .i64 51])) w' := by simp [ImagePost, h]
theorem image_yes {d : List Int} (h : fit d = true) (w w' : World) (q : Nat) (hd : Dev w' q (DS.made d) (fun k => w.heap.size ≤ k ∧ k < w'.heap.size)) : ImagePost d w (.returned (.tuple #[.pointer (some ⟨q, 0, none⟩), .int .i64 0])) w' := by
  unfold ImagePost
  rw [if_pos h]
  exact ⟨q, rfl, hd⟩
set_option maxRecDepth 100000 in
set_option maxHeartbeats 1000000 in
theorem image_any (w : World) (A : Option Addr) (c : Nat) (d : List Int) (hr : ReadsInt w .u8 A d.length d) : Calls Try.prog 36 #[.slice A d.length c] w fun e w' =>
    ImagePost d w e w' ∧ Below w.heap.size w w' := by
  have hd63 : d.length ≤ 9223372036854775807 := hr.2.1
  have hq : Int.tdiv (d.length : Int) 512 = ((d.length / 512 : Nat) : Int) := by rw [Int.tdiv_eq_ediv_of_nonneg (by omega)]; omega
  have hm : Int.tmod (d.length : Int) 512 = ((d.length % 512 : Nat) : Int) := by rw [Int.tmod_eq_emod_of_nonneg (by omega)]; omega
  have hw1 : wrap64 ((d.length / 512 : Nat) : Int) = ((d.length / 512 : Nat) : Int) := by unfold wrap64; omega
  have hw2 : wrap64 ((d.length % 512 : Nat) : Int) = ((d.length % 512 : Nat) : Int) := by unfold wrap64; omega
  go_enter Try.func36, Try.ntmps36
  cases hf : fit d with
  | false =>
    have hbel := Below.refl w.heap.size w
    by_cases g1 : (d.length : Int) % 512 = 0
    · by_cases g2 : (d.length : Int) / 512 < 1
      · have d2 : decide ((d.length : Int) / 512 < 1) = true := decide_eq_true g2
        go_wp2
        go_ret2
        exact ⟨image_no hf w w, hbel⟩
      · have d2 : decide ((d.length : Int) / 512 < 1) = false := decide_eq_false g2
        have d3 : decide (4096 < (d.length : Int) / 512) = true := decide_eq_true (by
          have := hf
          simp only [fit, Bool.and_eq_false_iff, decide_eq_false_iff_not] at this
          omega)
        go_wp2
        go_ret2
        exact ⟨image_no hf w w, hbel⟩
    · have d1 : ((d.length : Int) % 512 != 0) = true := bne_iff_ne.2 g1
      go_wp2
      go_ret2
      exact ⟨image_no hf w w, hbel⟩
  | true =>
    have hok := fit_ok hf
    have hfit := Aside0.mk hf
    have hlen : d.length ≤ 140737488355328 := by have := hok.len; have := hok.n1; have e : (DS.made d).dur.length = d.length := rfl; omega
    simp only [fit, Bool.and_eq_true, decide_eq_true_eq] at hf
    have g1 : (d.length : Int) % 512 = 0 := by omega
    have g2 : ¬ ((d.length : Int) / 512 < 1) := by omega
    have g2' : 1 ≤ ((d.length : Int) / 512) := by omega
    have g3 : ¬ (4096 < (d.length : Int) / 512) := by omega
    have g3' : ((d.length : Int) / 512) ≤ 4096 := by omega
    have d2 : decide ((d.length : Int) / 512 < 1) = false := decide_eq_false g2
    have d3 : decide (4096 < (d.length : Int) / 512) = false := decide_eq_false g3
    go_wp2_with fail
    refine (clone_any _ _ _ _ hr hlen).mono ?_
    rintro e w1 ⟨v, rfl, hown, hb1⟩
    go_wp2_with fail
    refine (made_any _ _ _ _ hown hok).mono ?_
    rintro e w' ⟨q, rfl, hd, hb2⟩
    have hdev : Dev w' q (DS.made d) (fun k => w.heap.size ≤ k ∧ k < w'.heap.size) := by
      obtain ⟨L, hd⟩ := hd
      refine ⟨L, hd.widen (fun k hk => ?_) fun k hk => hk.2⟩
      have h1 := hb1.size
      have h2 := hb2.size
      rcases hk with h | h
      · have := own_base hown k h
        have := own_lt hown k h
        omega
      · omega
    have hbel := below_call2 hb2 hb1
    go_wp2
    go_ret2
    exact ⟨image_yes hfit.out w _ q hdev, hbel⟩
end Go.Proofs.Ythnbmfkmaijibaa.Dev
