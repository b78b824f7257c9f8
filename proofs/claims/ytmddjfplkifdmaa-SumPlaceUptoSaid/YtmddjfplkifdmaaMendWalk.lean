/- The walk of sum.Mend. -/
import Derived.Test.YtmddjfplkifdmaaSplit
import Derived.Test.YtmddjfplkifdmaaSumPlain
import Derived.Test.YtmddjfplkifdmaaEq8
import Derived.StillTailTactics
import Derived.Outline
import Derived.Lib.Hide
import Derived.Deep.DeepMust
import Derived.Deep.RegionHeld3
import Derived.Deep.DeepCutAuto
import Derived.Deep.DeepFit
namespace Go.Proofs.Ytmddjfplkifdmaa.Mend
open Go.RowKit Go.Proofs.YtmddjfplkifdmaaW.PrintWords Go.Proofs.YtmddjfplkifdmaaW.PrintLast Go.Proofs.YtmddjfplkifdmaaW.PrintMore Go.Proofs.Ytmddjfplkifdmaa.SumPlain Go.Proofs.Ytmddjfplkifdmaa.PSumPlace
set_option linter.unusedVariables false
set_option linter.unusedSimpArgs false
theorem step_any (h x : Int) (w : World) : Calls Try.prog 30 #[.int .u64 h, .int .u8 x] w fun e w' => e = .returned (.int .u64 (stepN h x)) ∧ w = w' := by
  go_enter Try.func30, Try.ntmps30
  go_wp2
  go_ret
  exact ⟨rfl, rfl⟩
def backU (h x u : Int) : Int := Go.bits .xor .u64 (IntKind.u64.wrap (h * u)) (IntKind.u64.wrap x)
theorem back_any (h x u : Int) (w : World) : Calls Try.prog 33 #[.int .u64 h, .int .u8 x, .int .u64 u] w fun e w' => e = .returned (.int .u64 (backU h x u)) ∧ w = w' := by
  go_enter Try.func33, Try.ntmps33
  go_wp2
  go_ret
  exact ⟨rfl, rfl⟩
theorem inverse_8 : sum_inverse.f 8 = some 14886173955864302971 := by decide +kernel
theorem inverse_any (w : World) : Calls Try.prog 32 #[] w fun e w' => e = .returned (.int .u64 14886173955864302971) ∧ ∃ n, w' = w.drewN n := (sum_inverse.calls 8 _ w inverse_8).mono fun e w' h => ⟨h.1, h.2.out⟩
/-- Do the numbers agree but for the lowest byte? -/
def hitB (h m : Int) : Bool := (Split.ob h 1 == Split.ob m 1) && ((Split.ob h 2 == Split.ob m 2) && ((Split.ob h 3 == Split.ob m 3) && ((Split.ob h 4 == Split.ob m 4) && ((Split.ob h 5 == Split.ob m 5) && ((Split.ob h 6 == Split.ob m 6) && (Split.ob h 7 == Split.ob m 7))))))
def isAt (l : List Int) (k : Nat) : Int := moreN 14695981039346656037 (l.take k)
def mustAt (l : List Int) (want : Int) (k : Nat) : Int := backU (backsN want (l.drop (k + 1))) 0 14886173955864302971
def hit (l : List Int) (want : Int) (k : Nat) : Bool := hitB (isAt l k) (mustAt l want k)
/-- What Mend answers. -/
def mendN (l : List Int) (want : Int) : Int × Int × Bool :=
  if moreN 14695981039346656037 l = want then (-1, 0, true) else
  match (List.range l.length).find? (hit l want) with
  | some k => ((k : Int), Go.bits .xor .u8 (Split.ob (isAt l k) 0) (Split.ob (mustAt l want k) 0), true)
  | none => (0, 0, false)
def MendPost (l : List Int) (want : Int) (w : World) (e : Ending) (w' : World) : Prop :=
  e = .returned (.tuple #[.int .i64 (mendN l want).1, .int .u8 (mendN l want).2.1, .bool (mendN l want).2.2]) ∧ Below w.heap.size w w'
theorem find_at {p : Nat → Bool} : ∀ (n k : Nat), k < n → p k = true → (∀ j, j < k → p j = false) → (List.range n).find? p = some k := by
  intro n k hk hp hn
  rw [List.find?_range_eq_some]
  exact ⟨hp, by simpa using hk, fun j hj => by simp [hn j hj]⟩
theorem find_no {p : Nat → Bool} (n : Nat) (hn : ∀ j, j < n → p j = false) : (List.range n).find? p = none := by
  rw [List.find?_eq_none]
  intro x hx
  simp [hn x (List.mem_range.1 hx)]
/-- The sums of the beginnings. -/
def headsN (l : List Int) (i : Nat) : List Int := (List.range (i + 1)).map fun j => moreN 14695981039346656037 (l.take j)
theorem headsN_len (l : List Int) (i : Nat) : (headsN l i).length = i + 1 := by simp [headsN]
theorem headsN_get (l : List Int) (i j : Nat) (h : j ≤ i) : rd (headsN l i) (j : Int) = moreN 14695981039346656037 (l.take j) := by
  simp [rd, headsN, List.getElem?_range (show j < i + 1 by omega)]
theorem headsN_succ (l : List Int) (i : Nat) (h : i < l.length) : headsN l (i + 1) = headsN l i ++ [stepN (rd (headsN l i) (i : Int)) (rd l (i : Int))] := by
  rw [headsN_get l i i (Nat.le_refl _), rd_at l i h]
  unfold headsN
  rw [List.range_succ, List.map_append, List.map_singleton, List.take_succ_eq_append_getElem h, moreN_append]
  rfl
/-- What the sum must be ahead of each end, from place k on. -/
def tailsN (l : List Int) (want : Int) (k : Nat) : List Int := (List.range (l.length + 1)).map fun j => if j < k then 0 else backsN want (l.drop j)
theorem tailsN_len (l : List Int) (want : Int) (k : Nat) : (tailsN l want k).length = l.length + 1 := by simp [tailsN]
theorem tailsN_get (l : List Int) (want : Int) (k j : Nat) (h : k ≤ j) (hj : j ≤ l.length) : rd (tailsN l want k) (j : Int) = backsN want (l.drop j) := by
  simp [rd, tailsN, List.getElem?_range (show j < l.length + 1 by omega)]
  omega
theorem tailsN_first (l : List Int) (want : Int) : (List.replicate (l.length + 1) (0 : Int)).set l.length want = tailsN l want l.length := by
  apply List.ext_getElem
  · simp [tailsN]
  · intro i h1 h2
    simp [tailsN, List.getElem_set]
    simp at h1
    by_cases e : i = l.length
    · subst e; simp [backsN]
    · rw [if_neg (by omega), if_pos (by omega)]
theorem tailsN_step (l : List Int) (want : Int) (k : Nat) (h : k < l.length) : (tailsN l want (k + 1)).set k (backN (rd (tailsN l want (k + 1)) ((k + 1 : Nat) : Int)) (rd l (k : Int))) = tailsN l want k := by
  rw [tailsN_get l want (k + 1) (k + 1) (Nat.le_refl _) (by omega), rd_at l k h]
  apply List.ext_getElem
  · simp [tailsN]
  · intro i h1 h2
    simp [tailsN, List.getElem_set]
    by_cases e : k = i
    · subst e
      rw [if_pos rfl, if_neg (by omega), List.drop_eq_getElem_cons h]
      rfl
    · rw [if_neg e]
      by_cases e2 : i < k
      · rw [if_pos (by omega), if_pos e2]
      · rw [if_neg (by omega), if_neg e2]
theorem ka {w : World} {a : Addr} {v : Value} (h : w.cell? a = some v) (o : Obj) : (w.alloc o).cell? a = some v := pw_cell_below (below_alloc (Below.refl _ _) o) h
theorem kd {w : World} {a : Addr} {v : Value} (h : w.cell? a = some v) : w.drew.cell? a = some v := h
theorem below_call {w X w' : World} (k : Below X.heap.size X w') (h : Below w.heap.size w X) : Below w.heap.size w w' := h.trans (k.mono h.size)
theorem blk_at {w : World} {n : Nat} (o : Obj) (_ : True) (h : n = w.heap.size) : (w.alloc o).heap[n]? = some o := by
  subst h
  exact heap_alloc_new w o
theorem blk_up {w : World} {n : Nat} {x : Obj} (h : w.heap[n]? = some x) (o : Obj) : (w.alloc o).heap[n]? = some x := by
  have hl : n < w.heap.size := (Array.getElem?_eq_some_iff.1 h).1
  exact ((below_alloc (Below.refl _ w) o).block n hl).trans h
theorem blk_dr {w : World} {n : Nat} {x : Obj} (h : w.heap[n]? = some x) : w.drew.heap[n]? = some x := h
theorem bcell {W w1 : World} (hb : Below W.heap.size W w1) : (∀ b o, b < W.heap.size → w1.cell? ⟨b, o, none⟩ = W.cell? ⟨b, o, none⟩) ∧ (∀ b o, b < W.heap.size → w1.frozen? ⟨b, o, none⟩ = W.frozen? ⟨b, o, none⟩) :=
  ⟨fun b o h => hb.cell (p := ⟨b, o, none⟩) h, fun b o h => hb.frozen (p := ⟨b, o, none⟩) h⟩
theorem info25 : (Try.prog.info? 25).map (fun i => (i.zero, i.size, i.bytes)) = some (some (.int .u64 0), 1, 8) := by kernel_rfl
set_option maxHeartbeats 4000000 in
set_option maxRecDepth 100000 in
theorem mend_any (l : List Int) (A : Option Addr) (c : Nat) (want : Int) (w : World) (hr : Kd.C (Kd.int .u8) w A l.length l) (hc : l.length ≤ c) (hn : l.length ≤ 1048576) :
    Calls Try.prog 26 #[.slice A l.length c, .int .u64 want] w (MendPost l want w) := by
  have HR := Aside0.mk hr
  clear hr
  have hn2 : (l.length : Int) ≤ 1048576 := by omega
  have hmk : ∀ W : World, (Instr.makeSlice 47 (.int .i64 ((l.length : Int) + 1)) (.int .i64 ((l.length : Int) + 1))).run Try.prog W = .ok (.slice (some ⟨W.heap.size, 0, none⟩) (l.length + 1) (l.length + 1)) (W.alloc (.cells (madeCells #[.int .u64 0] (l.length + 1)) 25)) := by
    intro W
    have := print_make (P := Try.prog) 47 25 .u64 8 Try.underlying47 info25 (by decide) (l.length + 1) (by omega) W
    simpa using this
  go_enter Try.func26, Try.ntmps26
  go_wp2
  go_loopw [7, 20] (fun v7 i wr => ∃ k : Nat, k ≤ l.length ∧ i = .int .i64 k ∧ Aside0 (wr.ownsRow w.heap.size 25 1 v7 (headsN l k).length (nums .u64 (headsN l k))) ∧ Aside0 (Below w.heap.size w wr)) (fun _ i _ => l.length - (intOf i).toNat)
  case atStart =>
    refine ⟨0, Nat.zero_le _, rfl, ⟨?_⟩, ⟨below_alloc (Below.refl _ _) _⟩⟩
    exact own_lit w w.heap.size 25 .u64 [14695981039346656037] (Nat.le_refl _) (by decide)
  case round =>
    obtain ⟨k, hk, rfl, HO, HB⟩ := hrel
    obtain ⟨Ah, ch, rfl⟩ := own_slice HO.out
    by_cases hlt : k < l.length
    · have hlti : ((k : Int) < (l.length : Int)) := by omega
      obtain ⟨ad, rfl, hx⟩ := Kd.at_int HR.out (k : Int) (by omega) hlti
      replace hx := (HB.out.cell (World.block_lt_of_cell? w _ hx)).trans hx
      obtain ⟨g, cap, e, hgb, hgl⟩ := HO.out.form (by rw [headsN_len]; omega)
      cases e
      obtain ⟨hy, hyf⟩ := own_at HO.out (k : Int) (by omega) (by rw [headsN_len]; omega)
      have hkh : ((k : Int) < ((headsN l k).length : Int)) := by rw [headsN_len]; omega
      have hbs : w.heap.size ≤ wr.heap.size := HB.out.size
      simp only [Int.toNat_natCast] at hx hy hyf
      have Hlen := Aside0.mk (headsN_len l k)
      go_wp2_with (first | (go_at_call 30; refine (step_any _ _ _).mono ?_; rintro e w' ⟨rfl, rfl⟩) | ((with_reducible refine gate_builtin (b := .append) (xs := #[.tmp 25, .tmp 32]) rfl ?_); at_builtin; go_must (refine print_append_num (w0 := w) w.heap.size rfl (.tmp 25) (.tmp 32) 47 25 .u64 8 rfl Try.underlying47 info25 (by decide) _ (headsN l k) (stepN (rd (headsN l k) (k : Int)) (rd l (k : Int))) rfl rfl ?aO ?aB ?aS ?aL ?_); (case aO => exact HO.out); (case aB => exact HB.out); (case aS => exact hbs); (case aL => rw [Hlen.out]; omega); intro v1 w1 hown hB2 hg2 hat; have HO2 := Aside0.mk hown; have HB2 := Aside0.mk hB2; clear hown hB2 hg2 hat))
      refine ⟨⟨k + 1, by omega, by go_num, ⟨?_⟩, HB2⟩, by simp [intOf]; omega⟩
      rw [headsN_succ l k hlt]
      exact HO2.out
    · obtain rfl : k = l.length := by omega
      obtain ⟨g, cap, e, hgb, hgl⟩ := HO.out.form (by rw [headsN_len]; omega)
      cases e
      obtain ⟨hy, hyf⟩ := own_at HO.out (l.length : Int) (by omega) (by rw [headsN_len]; omega)
      have hkh : ((l.length : Int) < ((headsN l l.length).length : Int)) := by rw [headsN_len]; omega
      have hbs : w.heap.size ≤ wr.heap.size := HB.out.size
      simp only [Int.toNat_natCast] at hy hyf
      have Hlen := Aside0.mk (headsN_len l l.length)
      by_cases hw : rd (headsN l l.length) (l.length : Int) = want
      · have hwb : (rd (headsN l l.length) (l.length : Int) == want) = true := beq_iff_eq.mpr hw
        have hfin : mendN l want = (-1, 0, true) := by
          unfold mendN
          rw [if_pos]
          rw [headsN_get l l.length l.length (Nat.le_refl _), List.take_length] at hw
          exact hw
        clear hw
        have Hfin := Aside0.mk hfin
        clear hfin
        go_wp2
        go_ret3
        exact ⟨by rw [Hfin.out]; rfl, HB.out⟩
      · have hwb : (rd (headsN l l.length) (l.length : Int) == want) = false := beq_eq_false_iff_ne.mpr hw
        have Hnw : Aside0 (¬ moreN 14695981039346656037 l = want) := by
          refine ⟨?_⟩
          rw [headsN_get l l.length l.length (Nat.le_refl _), List.take_length] at hw
          exact hw
        clear hw
        have hz : ∀ n, ((wr.drewN n).alloc (.cells (madeCells #[.int .u64 0] (l.length + 1)) 25)).cell? ⟨wr.heap.size, l.length, none⟩ = some (.int .u64 0) ∧ ((wr.drewN n).alloc (.cells (madeCells #[.int .u64 0] (l.length + 1)) 25)).frozen? ⟨wr.heap.size, l.length, none⟩ = false := by
          intro n
          have := own_at (own_made (wr.drewN n) 0 25 .u64 (l.length + 1) (Nat.zero_le _) (by omega)) (l.length : Int) (by omega) (by omega)
          simpa [rd] using this
        have hz1 := fun n => (hz n).1
        have hz2 := fun n => (hz n).2
        clear hz
        go_wp2_with ((go_at_call 32; refine (inverse_any _).mono ?_; rintro e w' ⟨rfl, ⟨n, rfl⟩⟩))
        clear hz1 hz2 hy hyf
        have HB1 : Aside0 (Below w.heap.size w (((wr.drewN n).alloc (.cells (madeCells #[.int .u64 0] (l.length + 1)) 25)).setCell ⟨wr.heap.size, l.length, none⟩ (.int .u64 want))) := ⟨below_set (by exact below_alloc (pw_below_drewN HB.out n) _) (by exact hbs)⟩
        have HT1 := Aside0.mk (own_store (own_made (wr.drewN n) 0 25 .u64 (l.length + 1) (Nat.zero_le _) (by omega)) (l.length : Int) want)
        have HH1 : Aside0 ((((wr.drewN n).alloc (.cells (madeCells #[.int .u64 0] (l.length + 1)) 25)).setCell ⟨wr.heap.size, l.length, none⟩ (.int .u64 want)).ownsRow w.heap.size 25 1 (.slice (some ⟨g, 0, none⟩) (headsN l l.length).length ch) (headsN l l.length).length (nums .u64 (headsN l l.length))) :=
          ⟨own_other (pw_own_below (pw_own_below HO.out (pw_below_drewN (Below.refl _ _) n)) (below_alloc (Below.refl _ _) _)) HT1.out.2 (.inr (by simp [Value.ownBlock]; omega))⟩
        obtain ⟨wo, rfl⟩ : ∃ x : World, x = wr := ⟨_, rfl⟩
        go_loopw [12] (fun i wq => ∃ k : Nat, k ≤ l.length ∧ i = .int .i64 ((k : Int) - 1) ∧ Aside0 (wq.ownsRow 0 25 1 (.slice (some ⟨wo.heap.size, 0, none⟩) (l.length + 1) (l.length + 1)) (l.length + 1) (nums .u64 (tailsN l want k))) ∧ Aside0 (wq.ownsRow w.heap.size 25 1 (.slice (some ⟨g, 0, none⟩) (headsN l l.length).length ch) (headsN l l.length).length (nums .u64 (headsN l l.length))) ∧ Aside0 (Below w.heap.size w wq)) (fun i _ => (intOf i + 1).toNat)
        case atStart =>
          refine ⟨l.length, Nat.le_refl _, rfl, ⟨?_⟩, HH1, HB1⟩
          have := HT1.out.1
          simp only [Int.toNat_natCast, tailsN_first] at this
          exact this
        case round =>
          obtain ⟨k, hk, rfl, HT, HH, HB2⟩ := hrel
          clear HB1 HT1 HH1
          by_cases h0 : k = 0
          · subst h0
            go_wp2
            go_loopw [75] (fun i wq => ∃ k : Nat, k ≤ l.length ∧ i = .int .i64 (k : Int) ∧ Aside0 (∀ j, j < k → hit l want j = false) ∧ Aside0 (wq.ownsRow 0 25 1 (.slice (some ⟨wo.heap.size, 0, none⟩) (l.length + 1) (l.length + 1)) (l.length + 1) (nums .u64 (tailsN l want 0))) ∧ Aside0 (wq.ownsRow w.heap.size 25 1 (.slice (some ⟨g, 0, none⟩) (headsN l l.length).length ch) (headsN l l.length).length (nums .u64 (headsN l l.length))) ∧ Aside0 (Below w.heap.size w wq)) (fun i _ => l.length - (intOf i).toNat)
            case atStart => exact ⟨0, Nat.zero_le _, rfl, ⟨fun j hj => absurd hj (Nat.not_lt_zero _)⟩, HT, HH, HB2⟩
            case round =>
              clear HT HH HB2
              obtain ⟨k, hk, rfl, HN, HT, HH, HB2⟩ := hrel
              by_cases hlt : k < l.length
              · have hlti : ((k : Int) < (l.length : Int)) := by omega
                have hkh2 : ((k : Int) < ((headsN l l.length).length : Int)) := by rw [headsN_len]; omega
                obtain ⟨ht, htf⟩ := own_at HT.out ((k : Int) + 1) (by omega) (by omega)
                obtain ⟨hu, huf⟩ := own_at HH.out (k : Int) (by omega) (by rw [headsN_len]; omega)
                have ej1 : ((k : Int) + 1).toNat = k + 1 := by omega
                simp only [Int.toNat_natCast, ej1] at ht hu
                have hs1 : IntKind.i64.wrap ((k : Int) + 1) = (k : Int) + 1 := by rw [IntKind.wrap_i64]; omega
                have hs2 : (0 : Int) ≤ (k : Int) + 1 := by omega
                have hs3 : (k : Int) + 1 < (l.length : Int) + 1 := by omega
                go_wp2
                go_cut [14, 15] (fun v14 v15 wq => ∃ b1 b2 : Nat, v14 = .pointer (some ⟨b1, 0, none⟩) ∧ v15 = .pointer (some ⟨b2, 0, none⟩) ∧ Aside0 (b1 ≠ b2 ∧ wr.heap.size ≤ b1 ∧ wr.heap.size ≤ b2 ∧ wq.heap[b1]? = some (.cells #[.int .u8 (Split.ob (rd (headsN l l.length) (k : Int)) 0), .int .u8 (Split.ob (rd (headsN l l.length) (k : Int)) 1), .int .u8 (Split.ob (rd (headsN l l.length) (k : Int)) 2), .int .u8 (Split.ob (rd (headsN l l.length) (k : Int)) 3), .int .u8 (Split.ob (rd (headsN l l.length) (k : Int)) 4), .int .u8 (Split.ob (rd (headsN l l.length) (k : Int)) 5), .int .u8 (Split.ob (rd (headsN l l.length) (k : Int)) 6), .int .u8 (Split.ob (rd (headsN l l.length) (k : Int)) 7)] 49 (0, 0)) ∧ wq.heap[b2]? = some (.cells #[.int .u8 (Split.ob (backU (rd (tailsN l want 0) ((k : Int) + 1)) 0 14886173955864302971) 0), .int .u8 (Split.ob (backU (rd (tailsN l want 0) ((k : Int) + 1)) 0 14886173955864302971) 1), .int .u8 (Split.ob (backU (rd (tailsN l want 0) ((k : Int) + 1)) 0 14886173955864302971) 2), .int .u8 (Split.ob (backU (rd (tailsN l want 0) ((k : Int) + 1)) 0 14886173955864302971) 3), .int .u8 (Split.ob (backU (rd (tailsN l want 0) ((k : Int) + 1)) 0 14886173955864302971) 4), .int .u8 (Split.ob (backU (rd (tailsN l want 0) ((k : Int) + 1)) 0 14886173955864302971) 5), .int .u8 (Split.ob (backU (rd (tailsN l want 0) ((k : Int) + 1)) 0 14886173955864302971) 6), .int .u8 (Split.ob (backU (rd (tailsN l want 0) ((k : Int) + 1)) 0 14886173955864302971) 7)] 49 (0, 0)) ∧ Below wr.heap.size wr wq))
                case first =>
                  have h0a : 0 ≤ rd (headsN l l.length) (k : Int) := by
                    rw [headsN_get l l.length k (by omega)]
                    exact (moreN_range _ _ (by decide) (by decide)).1
                  have h0b : 0 ≤ backU (rd (tailsN l want 0) ((k : Int) + 1)) 0 14886173955864302971 := (backN_range _ _).1
                  go_region_held3 (fun w' => w'.cell? ⟨g, k, none⟩ = some (.int .u64 (rd (headsN l l.length) (k : Int))) ∧ w'.cell? ⟨wo.heap.size, k + 1, none⟩ = some (.int .u64 (rd (tailsN l want 0) ((k : Int) + 1)))) (refine ⟨?_, ?_⟩ <;> (repeat (first | exact hu | exact ht | refine ka ?_ _ | refine kd ?_)))
                    (first | (go_at_call 33; refine (back_any _ _ _ _).mono ?_; rintro e w' ⟨rfl, rfl⟩) | (go_at_call 34; refine (Split.split_any _ _ ?_).mono ?_; (first | exact h0a | exact h0b); rintro e w' ⟨rfl, rfl⟩))
                  all_goals
                    go_wp2_with fail
                    go_meet
                    case rel =>
                      refine ⟨_, _, rfl, rfl, ⟨?_, ?_, ?_, ?_, ?_, ?_⟩⟩
                      · omega
                      · omega
                      · omega
                      · repeat (first | (refine blk_at _ trivial ?_; (simp only [World.size_alloc]; done)) | refine blk_up ?_ _ | refine blk_dr ?_)
                      · repeat (first | (refine blk_at _ trivial ?_; (simp only [World.size_alloc]; done)) | refine blk_up ?_ _ | refine blk_dr ?_)
                      · repeat (first | exact Below.refl _ _ | refine Below.drew ?_ | refine below_alloc ?_ _)
                case rest =>
                  obtain ⟨b1, b2, rfl, rfl, HA⟩ := hcut
                  obtain ⟨hne, hb1, hb2, hk1, hk2, hBw⟩ := HA.out
                  clear HA
                  have hne1 : ¬ b1 = b2 := hne
                  have hne2 : ¬ b2 = b1 := fun e => hne e.symm
                  have x1 := fun (i : Nat) (v : Value) (h : _ = some v) => (blk_cell hk1 i).trans h
                  have x2 := fun (i : Nat) (v : Value) (h : _ = some v) => (blk_cell hk2 i).trans h
                  have c10 := x1 0 _ rfl
                  have c11 := x1 1 _ rfl
                  have c12 := x1 2 _ rfl
                  have c13 := x1 3 _ rfl
                  have c14 := x1 4 _ rfl
                  have c15 := x1 5 _ rfl
                  have c16 := x1 6 _ rfl
                  have c17 := x1 7 _ rfl
                  have c20 := x2 0 _ rfl
                  have c21 := x2 1 _ rfl
                  have c22 := x2 2 _ rfl
                  have c23 := x2 3 _ rfl
                  have c24 := x2 4 _ rfl
                  have c25 := x2 5 _ rfl
                  have c26 := x2 6 _ rfl
                  have c27 := x2 7 _ rfl
                  have f1 : ∀ i, wc.frozen? ⟨b1, i, none⟩ = false := fun i => blk_frozen hk1 i
                  have f2 : ∀ i, wc.frozen? ⟨b2, i, none⟩ = false := fun i => blk_frozen hk2 i
                  clear x1 x2
                  have Hk1 := Aside0.mk hk1
                  have Hk2 := Aside0.mk hk2
                  have HBw := Aside0.mk hBw
                  clear hk1 hk2 hBw hne
                  have heq := Eq8.eql8
                  have Hh := Aside0.mk (headsN_get l l.length k (by omega))
                  have Ht := Aside0.mk (tailsN_get l want 0 (k + 1) (by omega) (by omega))
                  have hhit : hit l want k = hitB (rd (headsN l l.length) (k : Int)) (backU (rd (tailsN l want 0) ((k : Int) + 1)) 0 14886173955864302971) := by
                    unfold hit isAt mustAt
                    rw [Hh.out]
                    have := Ht.out
                    simp only [Int.natCast_add, Int.natCast_one] at this
                    rw [this]
                  cases hb : hit l want k with
                  | true =>
                    rw [hb] at hhit
                    have h7 := hhit.symm
                    simp only [hitB, Bool.and_eq_true] at h7
                    have Hb := Aside0.mk hb
                    clear hb hhit
                    go_wp2
                    go_ret3
                    refine ⟨?_, ?_⟩
                    · unfold mendN
                      rw [if_neg Hnw.out, find_at l.length k hlt Hb.out HN.out]
                      simp only [isAt, mustAt]
                      rw [← Hh.out, ← Ht.out]
                      rfl
                    · exact below_call (below_set HBw.out hb1) HB2.out
                  | false =>
                    rw [hb] at hhit
                    have H7 := Aside0.mk hhit.symm
                    have Hb := Aside0.mk hb
                    clear hb hhit
                    go_wp2
                    · exfalso
                      have hx : hitB (rd (headsN l l.length) (k : Int)) (backU (rd (tailsN l want 0) ((k : Int) + 1)) 0 14886173955864302971) = true := by
                        simp only [hitB, Bool.and_eq_true]
                        assumption
                      rw [H7.out] at hx
                      cases hx
                    · have hg1 : wr.heap.size ≤ b1 := hb1
                      have HBs := below_set (j := 0) (v := .int .u8 (Split.ob (backU (rd (tailsN l want 0) ((k : Int) + 1)) 0 14886173955864302971) 0)) HBw.out hg1
                      refine ⟨⟨k + 1, by omega, by go_num, ⟨?_⟩, ⟨pw_own_below HT.out HBs⟩, ⟨pw_own_below HH.out HBs⟩, ⟨below_call HBs HB2.out⟩⟩, by simp [intOf]; omega⟩
                      intro j hj
                      rcases Nat.lt_succ_iff_lt_or_eq.1 hj with h | h
                      · exact HN.out j h
                      · subst h; exact Hb.out
              · go_wp2
                go_ret3
                refine ⟨?_, HB2.out⟩
                unfold mendN
                rw [if_neg Hnw.out, find_no l.length (fun j hj => HN.out j (by omega))]
                rfl
          · obtain ⟨j, rfl⟩ : ∃ j, k = j + 1 := ⟨k - 1, by omega⟩
            have ej : ((j + 1 : Nat) : Int) - 1 = (j : Int) := by omega
            simp only [ej]
            clear ej h0
            have hjl : (j : Int) < (l.length : Int) := by omega
            obtain ⟨ad, rfl, hx⟩ := Kd.at_int HR.out (j : Int) (by omega) hjl
            replace hx := (HB2.out.cell (World.block_lt_of_cell? w _ hx)).trans hx
            obtain ⟨ht, htf⟩ := own_at HT.out ((j : Int) + 1) (by omega) (by omega)
            obtain ⟨hu, huf⟩ := own_at HT.out (j : Int) (by omega) (by omega)
            have ej1 : ((j : Int) + 1).toNat = j + 1 := by omega
            simp only [Int.toNat_natCast, ej1] at hx ht hu htf huf
            have hs1 : IntKind.i64.wrap ((j : Int) + 1) = (j : Int) + 1 := by rw [IntKind.wrap_i64]; omega
            have hs2 : (0 : Int) ≤ (j : Int) + 1 := by omega
            have hs3 : (j : Int) + 1 < (l.length : Int) + 1 := by omega
            have hs4 : (j : Int) < (l.length : Int) + 1 := by omega
            go_wp2
            go_still_tail 14, (by kernel_rfl)
            still_call ((back_any _ _ _ _).mono fun e w' h => ⟨h.1, h.2.symm⟩)
            repeat still_step
            refine wpStill_nil ?_
            change wpList _ _ _ _ _ wr.drew
            go_wp2
            have HT' := own_store (pw_own_below HT.out (below_drew (Below.refl _ _))) (j : Int) (backU (rd (tailsN l want (j + 1)) ((j : Int) + 1)) (rd l (j : Int)) 14886173955864302971)
            have HH' := own_other (pw_own_below HH.out (below_drew (Below.refl _ _))) HT'.2 (.inr (by simp [Value.ownBlock]; omega))
            simp only [Int.toNat_natCast] at HT' HH'
            refine ⟨⟨j, by omega, rfl, ⟨?_⟩, ⟨HH'⟩, ⟨below_set (below_drew HB2.out) (by exact hbs)⟩⟩, by simp [intOf]⟩
            have := HT'.1
            have e1 : backU (rd (tailsN l want (j + 1)) ((j : Int) + 1)) (rd l (j : Int)) 14886173955864302971 = backN (rd (tailsN l want (j + 1)) ((j + 1 : Nat) : Int)) (rd l (j : Int)) := rfl
            rw [e1, tailsN_step l want j (by omega)] at this
            exact this
end Go.Proofs.Ytmddjfplkifdmaa.Mend
