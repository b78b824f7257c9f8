/- DeviceMany: the walk. -/
import Derived.Test.YthnbmfkmaijibaaManyPlain
import Derived.Test.YthnbmfkmaijibaaAllWalk
import Derived.Deep.CutBlock
namespace Go.Proofs.Ythnbmfkmaijibaa.Help
open Go.Proofs Go.RowKit Go.Proofs.YthnbmfkmaijibaaW.PrintWords Go.Proofs.YthnbmfkmaijibaaW.PrintLast Go.Proofs.YthnbmfkmaijibaaW.PrintMore Go.Proofs.Ythnbmfkmaijibaa.IMap Go.Proofs.Ythnbmfkmaijibaa.Dev Go.Proofs.Ythnbmfkmaijibaa.PDeviceReads Go.Proofs.Ythnbmfkmaijibaa.Sep
set_option linter.unusedVariables false
set_option linter.unusedSimpArgs false
theorem infoPtr : (Try.prog.info? 25).map (fun i => (i.zero, i.size, i.bytes)) = some (some (.pointer none), 1, 8) := by kernel_rfl
set_option maxHeartbeats 4000000 in
set_option maxRecDepth 100000 in
theorem many_any (n x arm : Int) (hx : 0 ≤ x ∧ x ≤ 255) (w : World) :
    Calls Try.prog 9 #[.int .i64 n, .int .u8 x, .int .i64 arm] w fun e w' => e = .returned (.bool true) ∧ Below w.heap.size w w' := by
  obtain ⟨N, hN0, hN1, hN⟩ : ∃ N : Nat, 1 ≤ N ∧ N ≤ 4 ∧ wrap64 (1 + Int.tmod (wrap64 (Int.tmod n 4 + 4)) 4) = (N : Int) := by
    have a1 : Int.tmod n 4 < 4 := Int.tmod_lt_of_pos _ (by omega)
    have a2 : -4 < Int.tmod n 4 := Int.lt_tmod_of_pos _ (by omega)
    have w : wrap64 (Int.tmod n 4 + 4) = Int.tmod n 4 + 4 := by unfold wrap64; omega
    rw [w, Int.tmod_eq_emod_of_nonneg (by omega)]
    have a3 := Int.emod_nonneg (Int.tmod n 4 + 4) (show (4 : Int) ≠ 0 by omega)
    have a4 := Int.emod_lt_of_pos (Int.tmod n 4 + 4) (show (0 : Int) < 4 by omega)
    refine ⟨(1 + (Int.tmod n 4 + 4) % 4).toNat, by omega, by omega, ?_⟩
    unfold wrap64
    omega
  obtain ⟨a, ha0, ha1, ha⟩ : ∃ a : Int, 2 ≤ a ∧ a ≤ 4 ∧ wrap64 (2 + Int.tmod (wrap64 (Int.tmod arm 3 + 3)) 3) = a := by
    have a1 : Int.tmod arm 3 < 3 := Int.tmod_lt_of_pos _ (by omega)
    have a2 : -3 < Int.tmod arm 3 := Int.lt_tmod_of_pos _ (by omega)
    have w : wrap64 (Int.tmod arm 3 + 3) = Int.tmod arm 3 + 3 := by unfold wrap64; omega
    rw [w, Int.tmod_eq_emod_of_nonneg (by omega)]
    have a3 := Int.emod_nonneg (Int.tmod arm 3 + 3) (show (3 : Int) ≠ 0 by omega)
    have a4 := Int.emod_lt_of_pos (Int.tmod arm 3 + 3) (show (0 : Int) < 3 by omega)
    refine ⟨2 + (Int.tmod arm 3 + 3) % 3, by omega, by omega, ?_⟩
    unfold wrap64
    omega
  have hmk := print_make (P := Try.prog) 29 5 .u8 1 Try.underlying29 Dev.info5 (by decide) (512 * N) (by omega)
  have hmk2 : ∀ W : World, (Instr.makeSlice 29 (.int .i64 ((N : Int) * 512)) (.int .i64 ((N : Int) * 512))).run Try.prog W = .ok (.slice (some ⟨W.heap.size, 0, none⟩) (512 * N) (512 * N)) (W.alloc (.cells (madeCells #[.int .u8 0] (512 * N)) 5)) := fun W => by have := hmk W; rw [show ((512 * N : Nat) : Int) = (N : Int) * 512 by omega] at this; exact this
  have HA := Aside0.mk ha
  clear hmk ha
  go_enter Try.func9, Try.ntmps9
  go_wp2_with fail
  refine (known_s (Sep.start w)).mono ?_
  rintro e w1 ⟨rfl, S⟩
  go_upto_region 3 with fail
  rw [hN]
  clear hN
  go_wp2
  have S1 : Sep w (w1.alloc (.cells (madeCells #[.int .u8 0] (512 * N)) 5)) [Own 25 1 (.slice none 0 0) 0 [], Byt (some ⟨w1.heap.size, 0, none⟩) (512 * N) (512 * N) (List.replicate (512 * N) 0)] := (S.row_new (below_alloc (Below.refl _ _) _) (own_made w1 w1.heap.size 5 .u8 (512 * N) (Nat.le_refl _) (by omega))).nils _ _
  obtain ⟨gb, hgb⟩ : ∃ gb, gb = w1.heap.size := ⟨_, rfl⟩
  obtain ⟨w2, hw2⟩ : ∃ w2, w2 = w1.alloc (.cells (madeCells #[.int .u8 0] (512 * N)) 5) := ⟨_, rfl⟩
  rw [← hw2, ← hgb] at S1
  rw [← hw2, ← hgb]
  clear hw2 hgb S hmk2
  go_loopw [8, 10] (fun l i wr => ∃ (k : Nat) (L : List (Nat × DS)) (A : Option Addr) (c : Nat) (lb : List Int), k ≤ 20 ∧ i = .int .i64 (k : Int) ∧ l = .slice A k c ∧ Aside0 (L.length = k) ∧ Aside0 (lb.length = 512 * N) ∧ Aside0 (∀ j (h : j < L.length), L[j].2 = st1 N (fun i => (x + (i : Int)) % 256) a j) ∧ Sep w wr ([Own 25 1 (.slice A k c) k (L.map fun d => ptr d.1), Byt (some ⟨gb, 0, none⟩) (512 * N) (512 * N) lb] ++ L.map fun d => DevA d.1 d.2)) (fun _ i _ => 20 - (intOf i).toNat)
  case atStart => exact ⟨0, [], none, 0, _, Nat.zero_le _, rfl, rfl, ⟨rfl⟩, ⟨List.length_replicate⟩, ⟨fun j h => absurd h (Nat.not_lt_zero j)⟩, S1⟩
  case round =>
    clear S1
    obtain ⟨k, L, A, c, lb, hk, rfl, rfl, HL, HB, HS, S⟩ := hrel
    obtain ⟨wo, rfl⟩ : ∃ wo : World, wo = wr := ⟨_, rfl⟩
    by_cases hlt : k < 20
    · have hlti : (k : Int) < 20 := by omega
      go_wp2
      go_loopw [11] (fun i wq => ∃ m : Nat, m ≤ 512 * N ∧ i = .int .i64 (m : Int) ∧ Sep w wq ([Byt (some ⟨gb, 0, none⟩) (512 * N) (512 * N) (List.replicate m ((x + (k : Int)) % 256) ++ lb.drop m), Own 25 1 (.slice A k c) k (L.map fun d => ptr d.1)] ++ L.map fun d => DevA d.1 d.2)) (fun i _ => 512 * N - (intOf i).toNat)
      case atStart => exact ⟨0, Nat.zero_le _, rfl, S.swap⟩
      case round =>
        clear S
        obtain ⟨m, hm, rfl, S⟩ := hrel
        by_cases hltm : m < 512 * N
        · have d3 : (m : Int) < 512 * (N : Int) := by omega
          have ce := S.elem m (by omega)
          have fr := S.row_free (by omega) m
          have hst := S.store m ((x + (k : Int)) % 256)
          rw [fill_step HB.out (by omega)] at hst
          have HST := Aside0.mk hst
          clear hst S
          go_wp2
          exact ⟨⟨m + 1, by omega, by go_num, HST.out⟩, by simp [intOf]; omega⟩
        · obtain rfl : m = 512 * N := by omega
          rw [List.drop_of_length_le (by rw [HB.out]; exact Nat.le_refl _), List.append_nil] at S
          clear hltm
          go_wp2_with fail
          refine (new_s S N hN0 (by omega)).mono ?_
          clear S
          rintro e v1 ⟨q, rfl, S⟩
          by_cases h2 : k % 2 = 1
          · have e2 : ((k : Int) % 2 == 1) = true := beq_iff_eq.2 (by omega)
            have hfit : fit (List.replicate (512 * N) ((x + (k : Int)) % 256)) = true := by simp [fit]; omega
            have HF := Aside0.mk hfit
            clear hfit
            go_wp2_with fail
            refine (image_yes_s S _ _ _ _ List.length_replicate (S.pull 1).reads HF.out).mono ?_
            clear S
            rintro e v2 ⟨q, rfl, S⟩
            replace S := S.drop2
            have hbs : DS.made (List.replicate (512 * N) ((x + (k : Int)) % 256)) = bs N (fun i => (x + (i : Int)) % 256) k := by unfold bs; rw [if_pos h2]
            rw [hbs] at S
            clear hbs
            by_cases h3 : k % 3 = 0
            · have e3 : ((k : Int) % 3 == 0) = true := beq_iff_eq.2 (by omega)
              have ha := HA.out
              go_wp2_with (go_at_call 19; refine (num_any _ _).mono ?_; rintro e w' ⟨rfl, rfl⟩)
              rw [ha]
              clear ha
              refine (arm_s S a (by omega)).mono ?_
              clear S
              rintro e v5 ⟨rfl, S⟩
              have hs1 : ((bs N (fun i => (x + (i : Int)) % 256) k).arm a).2 = st1 N (fun i => (x + (i : Int)) % 256) a k := by unfold st1; rw [if_pos h3]
              rw [hs1] at S
              clear hs1
              go_wp2_with (first | (go_at_call 19; refine (num_any _ _).mono ?_; rintro e w' ⟨rfl, rfl⟩) | ((with_reducible refine gate_builtin (b := .append) (xs := #[.tmp 77, .tmp 79]) rfl ?_); at_builtin; go_must (refine append_s (S.pull 2) rfl (.tmp 77) (.tmp 79) 72 (.pointer none) 8 rfl Try.underlying72 infoPtr rfl (by decide) (by decide) [ptr q] rfl rfl rfl ?a1 ?aL ?_); (case a1 => (intro u hu; rw [List.mem_singleton.1 hu]; rfl)); (case aL => omega); intro A1 c1 w9 S9))
              clear S
              refine ⟨⟨k + 1, L ++ [(q, st1 N (fun i => (x + (i : Int)) % 256) a k)], A1, c1, List.replicate (512 * N) ((x + (k : Int)) % 256), by omega, by go_num, rfl, ⟨by rw [List.length_append, HL.out]; rfl⟩, ⟨List.length_replicate⟩, ⟨fun j h => ?_⟩, ?_⟩, by simp [intOf]; omega⟩
              · rw [List.length_append, HL.out] at h
                by_cases hj : j < k
                · rw [List.getElem_append_left (by rw [HL.out]; exact hj)]
                  exact HS.out j (by rw [HL.out]; exact hj)
                · obtain rfl : j = k := by simp at h; omega
                  rw [List.getElem_append_right (by rw [HL.out]; omega)]
                  simp [HL.out]
              · have S10 := Sep.Sep.snoc (f := fun d : Nat × DS => DevA d.1 d.2) (R := [Own 25 1 (.slice A1 (k + 1) c1) (k + 1) (L.map (fun d => ptr d.1) ++ [ptr q]), Byt (some ⟨gb, 0, none⟩) (512 * N) (512 * N) (List.replicate (512 * N) ((x + (k : Int)) % 256))]) (y := (q, st1 N (fun i => (x + (i : Int)) % 256) a k)) (L := L) (S9.pull 1)
                rw [List.map_append (f := fun d : Nat × DS => ptr d.1)]
                exact S10
            · have e3 : ((k : Int) % 3 == 0) = false := beq_eq_false_iff_ne.2 (by omega)
              have hs1 : bs N (fun i => (x + (i : Int)) % 256) k = st1 N (fun i => (x + (i : Int)) % 256) a k := by unfold st1; rw [if_neg h3]
              rw [hs1] at S
              clear hs1
              go_wp2_with (first | (go_at_call 19; refine (num_any _ _).mono ?_; rintro e w' ⟨rfl, rfl⟩) | ((with_reducible refine gate_builtin (b := .append) (xs := #[.tmp 77, .tmp 79]) rfl ?_); at_builtin; go_must (refine append_s (S.pull 2) rfl (.tmp 77) (.tmp 79) 72 (.pointer none) 8 rfl Try.underlying72 infoPtr rfl (by decide) (by decide) [ptr q] rfl rfl rfl ?a1 ?aL ?_); (case a1 => (intro u hu; rw [List.mem_singleton.1 hu]; rfl)); (case aL => omega); intro A1 c1 w9 S9))
              clear S
              refine ⟨⟨k + 1, L ++ [(q, st1 N (fun i => (x + (i : Int)) % 256) a k)], A1, c1, List.replicate (512 * N) ((x + (k : Int)) % 256), by omega, by go_num, rfl, ⟨by rw [List.length_append, HL.out]; rfl⟩, ⟨List.length_replicate⟩, ⟨fun j h => ?_⟩, ?_⟩, by simp [intOf]; omega⟩
              · rw [List.length_append, HL.out] at h
                by_cases hj : j < k
                · rw [List.getElem_append_left (by rw [HL.out]; exact hj)]
                  exact HS.out j (by rw [HL.out]; exact hj)
                · obtain rfl : j = k := by simp at h; omega
                  rw [List.getElem_append_right (by rw [HL.out]; omega)]
                  simp [HL.out]
              · have S10 := Sep.Sep.snoc (f := fun d : Nat × DS => DevA d.1 d.2) (R := [Own 25 1 (.slice A1 (k + 1) c1) (k + 1) (L.map (fun d => ptr d.1) ++ [ptr q]), Byt (some ⟨gb, 0, none⟩) (512 * N) (512 * N) (List.replicate (512 * N) ((x + (k : Int)) % 256))]) (y := (q, st1 N (fun i => (x + (i : Int)) % 256) a k)) (L := L) (S9.pull 1)
                rw [List.map_append (f := fun d : Nat × DS => ptr d.1)]
                exact S10
          · have e2 : ((k : Int) % 2 == 1) = false := beq_eq_false_iff_ne.2 (by omega)
            have hbs : DS.made (List.replicate (512 * N) 0) = bs N (fun i => (x + (i : Int)) % 256) k := by unfold bs; rw [if_neg h2]
            rw [hbs] at S
            clear hbs
            by_cases h3 : k % 3 = 0
            · have e3 : ((k : Int) % 3 == 0) = true := beq_iff_eq.2 (by omega)
              have ha := HA.out
              go_wp2_with (go_at_call 19; refine (num_any _ _).mono ?_; rintro e w' ⟨rfl, rfl⟩)
              rw [ha]
              clear ha
              refine (arm_s S a (by omega)).mono ?_
              clear S
              rintro e v5 ⟨rfl, S⟩
              have hs1 : ((bs N (fun i => (x + (i : Int)) % 256) k).arm a).2 = st1 N (fun i => (x + (i : Int)) % 256) a k := by unfold st1; rw [if_pos h3]
              rw [hs1] at S
              clear hs1
              go_wp2_with (first | (go_at_call 19; refine (num_any _ _).mono ?_; rintro e w' ⟨rfl, rfl⟩) | ((with_reducible refine gate_builtin (b := .append) (xs := #[.tmp 77, .tmp 79]) rfl ?_); at_builtin; go_must (refine append_s (S.pull 2) rfl (.tmp 77) (.tmp 79) 72 (.pointer none) 8 rfl Try.underlying72 infoPtr rfl (by decide) (by decide) [ptr q] rfl rfl rfl ?a1 ?aL ?_); (case a1 => (intro u hu; rw [List.mem_singleton.1 hu]; rfl)); (case aL => omega); intro A1 c1 w9 S9))
              clear S
              refine ⟨⟨k + 1, L ++ [(q, st1 N (fun i => (x + (i : Int)) % 256) a k)], A1, c1, List.replicate (512 * N) ((x + (k : Int)) % 256), by omega, by go_num, rfl, ⟨by rw [List.length_append, HL.out]; rfl⟩, ⟨List.length_replicate⟩, ⟨fun j h => ?_⟩, ?_⟩, by simp [intOf]; omega⟩
              · rw [List.length_append, HL.out] at h
                by_cases hj : j < k
                · rw [List.getElem_append_left (by rw [HL.out]; exact hj)]
                  exact HS.out j (by rw [HL.out]; exact hj)
                · obtain rfl : j = k := by simp at h; omega
                  rw [List.getElem_append_right (by rw [HL.out]; omega)]
                  simp [HL.out]
              · have S10 := Sep.Sep.snoc (f := fun d : Nat × DS => DevA d.1 d.2) (R := [Own 25 1 (.slice A1 (k + 1) c1) (k + 1) (L.map (fun d => ptr d.1) ++ [ptr q]), Byt (some ⟨gb, 0, none⟩) (512 * N) (512 * N) (List.replicate (512 * N) ((x + (k : Int)) % 256))]) (y := (q, st1 N (fun i => (x + (i : Int)) % 256) a k)) (L := L) (S9.pull 1)
                rw [List.map_append (f := fun d : Nat × DS => ptr d.1)]
                exact S10
            · have e3 : ((k : Int) % 3 == 0) = false := beq_eq_false_iff_ne.2 (by omega)
              have hs1 : bs N (fun i => (x + (i : Int)) % 256) k = st1 N (fun i => (x + (i : Int)) % 256) a k := by unfold st1; rw [if_neg h3]
              rw [hs1] at S
              clear hs1
              go_wp2_with (first | (go_at_call 19; refine (num_any _ _).mono ?_; rintro e w' ⟨rfl, rfl⟩) | ((with_reducible refine gate_builtin (b := .append) (xs := #[.tmp 77, .tmp 79]) rfl ?_); at_builtin; go_must (refine append_s (S.pull 2) rfl (.tmp 77) (.tmp 79) 72 (.pointer none) 8 rfl Try.underlying72 infoPtr rfl (by decide) (by decide) [ptr q] rfl rfl rfl ?a1 ?aL ?_); (case a1 => (intro u hu; rw [List.mem_singleton.1 hu]; rfl)); (case aL => omega); intro A1 c1 w9 S9))
              clear S
              refine ⟨⟨k + 1, L ++ [(q, st1 N (fun i => (x + (i : Int)) % 256) a k)], A1, c1, List.replicate (512 * N) ((x + (k : Int)) % 256), by omega, by go_num, rfl, ⟨by rw [List.length_append, HL.out]; rfl⟩, ⟨List.length_replicate⟩, ⟨fun j h => ?_⟩, ?_⟩, by simp [intOf]; omega⟩
              · rw [List.length_append, HL.out] at h
                by_cases hj : j < k
                · rw [List.getElem_append_left (by rw [HL.out]; exact hj)]
                  exact HS.out j (by rw [HL.out]; exact hj)
                · obtain rfl : j = k := by simp at h; omega
                  rw [List.getElem_append_right (by rw [HL.out]; omega)]
                  simp [HL.out]
              · have S10 := Sep.Sep.snoc (f := fun d : Nat × DS => DevA d.1 d.2) (R := [Own 25 1 (.slice A1 (k + 1) c1) (k + 1) (L.map (fun d => ptr d.1) ++ [ptr q]), Byt (some ⟨gb, 0, none⟩) (512 * N) (512 * N) (List.replicate (512 * N) ((x + (k : Int)) % 256))]) (y := (q, st1 N (fun i => (x + (i : Int)) % 256) a k)) (L := L) (S9.pull 1)
                rw [List.map_append (f := fun d : Nat × DS => ptr d.1)]
                exact S10
    · obtain rfl : k = 20 := by omega
      clear hlt
      rw [show ((20 : Nat) : Int) = (20 : Int) from rfl]
      go_wp2
      obtain ⟨g, rfl⟩ := S.addr (by omega)
      go_loopw [15] (fun i wr => ∃ (k : Nat) (L : List (Nat × DS)), k ≤ 20 ∧ i = .int .i64 (k : Int) ∧ Aside0 (L.length = 20) ∧ Aside0 (∀ j (h : j < L.length), L[j].2 = if j < k then st2 N (fun i => (x + (i : Int)) % 256) a j else st1 N (fun i => (x + (i : Int)) % 256) a j) ∧ Sep w wr ([Own 25 1 (.slice (some ⟨g, 0, none⟩) 20 c) 20 (L.map fun d => ptr d.1), Byt (some ⟨gb, 0, none⟩) (512 * N) (512 * N) lb] ++ L.map fun d => DevA d.1 d.2)) (fun i _ => 20 - (intOf i).toNat)
      case atStart => exact ⟨0, L, Nat.zero_le _, rfl, HL, ⟨fun j h => by rw [if_neg (Nat.not_lt_zero j)]; exact HS.out j h⟩, S⟩
      case round =>
        clear S HL HS L
        obtain ⟨k, L, hk, rfl, HL, HS, S⟩ := hrel
        by_cases hlt : k < 20
        · have hlti : (k : Int) < 20 := by omega
          have hkl : k < L.length := by rw [HL.out]; exact hlt
          have HK := Aside0.mk hkl
          have y0 := S.row.cells (g := g) rfl k (ptr L[k].1) (by rw [List.getElem?_map, List.getElem?_eq_getElem hkl]; rfl)
          rw [add_plain] at y0
          have hst := HS.out k hkl
          rw [if_neg (Nat.lt_irrefl k)] at hst
          have HW := Aside0.mk (st2_is hN0 (by omega) (v := fun i => (x + (i : Int)) % 256) ha0 (by omega) k)
          obtain ⟨y, hy⟩ : ∃ y, y = L[k] := ⟨_, rfl⟩
          rw [← hy] at y0 hst
          have HY := Aside0.mk hy
          have HST := Aside0.mk hst
          have i1 : IntKind.i64.wrap (200 + (k : Int)) = 200 + (k : Int) := by rw [IntKind.wrap_i64]; omega
          have i2 : IntKind.u8.wrap (200 + (k : Int)) = 200 + (k : Int) := by rw [IntKind.wrap_u8]; omega
          clear hy hst
          go_wp2
          go_region_held3 (fun W => W.cell? ⟨g, k, none⟩ = some (ptr y.1)) (first | exact S11 | (repeat (first | (with_reducible exact y0) | (with_reducible refine kd ?_) | (with_reducible refine pw_cell_below (by assumption) ?_))))
            (first | (go_at_call 21; refine (full_r (200 + (k : Int)) _).mono ?_; rintro e w9 ⟨vf, rfl, hvf, hb9⟩; obtain ⟨Af, cf, rfl⟩ := own_slice hvf) | (go_at_call 20; have S10 := Sep.Sep.focus (R := [Byt Af 512 cf (r (200 + (k : Int))), Own 25 1 (.slice (some ⟨g, 0, none⟩) 20 c) 20 (L.map fun d => ptr d.1), Byt (some ⟨gb, 0, none⟩) (512 * N) (512 * N) lb]) (S.drew.row_new hb9 hvf) k hkl; rw [← HY.out] at S10; have P := write_s (p := y.1) (s := y.2) (S10.pull 1).swap 0 (by rw [HST.out]; exact (st1_fit hN0 (by omega) _ (by omega) k).few_ (by omega)); rw [HST.out, HW.out.1] at P; refine P.mono ?_; clear P S10; rintro e w10 ⟨rfl, S10⟩; replace S10 := S10.drop2; have S11 := Sep.Sep.ptr_at (p := fun d : Nat × DS => d.1) S10.drop k hkl; rw [← HY.out] at S11))
          clear S11 S
          go_wp2_with (go_at_call 19; refine (num_any _ _).mono ?_; rintro e w' ⟨rfl, rfl⟩)
          refine ⟨⟨k + 1, L.set k (y.1, st2 N (fun i => (x + (i : Int)) % 256) a k), by omega, by go_num, ⟨by rw [List.length_set, HL.out]⟩, ⟨fun j h => ?_⟩, ?_⟩, by simp [intOf]; omega⟩
          · rw [List.getElem_set]
            by_cases hj : k = j
            · subst hj
              rw [if_pos rfl, if_pos (by omega)]
            · rw [if_neg hj, HS.out j (by rw [List.length_set] at h; exact h)]
              by_cases hjk : j < k
              · rw [if_pos hjk, if_pos (by omega)]
              · rw [if_neg hjk, if_neg (by omega)]
          · have e1 : (L.set k (y.1, st2 N (fun i => (x + (i : Int)) % 256) a k)).map (fun d => ptr d.1) = L.map fun d => ptr d.1 := by
              rw [List.map_set, HY.out]
              have h2 : k < (L.map fun d => ptr d.1).length := by rw [List.length_map]; exact hkl
              have h3 : ptr L[k].1 = (L.map fun d => ptr d.1)[k] := by rw [List.getElem_map]
              rw [h3, List.set_getElem_self]
            rw [e1]
            exact Sep.Sep.unfocus (f := fun d : Nat × DS => DevA d.1 d.2) (R := [Own 25 1 (.slice (some ⟨g, 0, none⟩) 20 c) 20 (L.map fun d => ptr d.1), Byt (some ⟨gb, 0, none⟩) (512 * N) (512 * N) lb]) (y := (y.1, st2 N (fun i => (x + (i : Int)) % 256) a k)) (i := k) S10 hkl
        · obtain rfl : k = 20 := by omega
          rw [show ((20 : Nat) : Int) = (20 : Int) from rfl]
          have HQ : Aside0 (∀ j (h : j < L.length), L[j].2 = st2 N (fun i => (x + (i : Int)) % 256) a j) := ⟨fun j h => by rw [HS.out j h, if_pos (by rw [HL.out] at h; exact h)]⟩
          clear HS hlt
          go_wp2
          go_loopw [17] (fun i wr => ∃ k : Nat, k ≤ 20 ∧ i = .int .i64 ((k : Int) - 1) ∧ Sep w wr ([Own 25 1 (.slice (some ⟨g, 0, none⟩) 20 c) 20 (L.map fun d => ptr d.1), Byt (some ⟨gb, 0, none⟩) (512 * N) (512 * N) lb] ++ L.map fun d => DevA d.1 d.2)) (fun i _ => (intOf i + 1).toNat)
          case atStart => exact ⟨20, Nat.le_refl _, rfl, S⟩
          case round =>
            clear S
            obtain ⟨k, hk, rfl, S⟩ := hrel
            by_cases hk0 : k = 0
            · subst hk0
              rw [show ((0 : Nat) : Int) - 1 = -1 from rfl]
              have hB := S.bel
              clear S
              go_wp2
              go_ret
              exact ⟨rfl, hB⟩
            · obtain ⟨j, rfl⟩ : ∃ j, k = j + 1 := ⟨k - 1, by omega⟩
              rw [show ((j + 1 : Nat) : Int) - 1 = (j : Int) by omega]
              have hj20 : (j : Int) < 20 := by omega
              have hjl : j < L.length := by rw [HL.out]; omega
              have y0 := Sep.Sep.ptr_at (p := fun d : Nat × DS => d.1) S j hjl
              have hst := HQ.out j hjl
              have HW := Aside0.mk (st2_is hN0 (by omega) (v := fun i => (x + (i : Int)) % 256) ha0 (by omega) j)
              have HF := Aside0.mk (st2_fit hN0 (by omega) (fun i => (x + (i : Int)) % 256) (a := a) (by omega) j)
              have S10 := Sep.Sep.focus (f := fun d : Nat × DS => DevA d.1 d.2) (R := [Own 25 1 (.slice (some ⟨g, 0, none⟩) 20 c) 20 (L.map fun d => ptr d.1), Byt (some ⟨gb, 0, none⟩) (512 * N) (512 * N) lb]) S j hjl
              obtain ⟨y, hy⟩ : ∃ y, y = L[j] := ⟨_, rfl⟩
              rw [← hy] at y0 hst S10
              have HY := Aside0.mk hy
              have HST := Aside0.mk hst
              have i2 : IntKind.u8.wrap (200 + (j : Int)) = 200 + (j : Int) := by rw [IntKind.wrap_u8]; omega
              clear hy hst S
              have S := S10
              clear S10
              go_wp2_with fail
              have P := read_s (p := y.1) (s := y.2) S 0
              rw [HST.out, HW.out.2.1] at P
              simp only [er] at P
              refine P.mono ?_
              clear P S y0
              rintro e v1 ⟨Ar, cr, rfl, S⟩
              go_wp2_with fail
              refine (full_s S (200 + (j : Int))).mono ?_
              clear S
              rintro e v2 ⟨Af, cf, rfl, S⟩
              go_wp2_with fail
              refine (same_t S _ _ _ _ _ _ (r (200 + (j : Int))) (r (200 + (j : Int))) rfl (S.pull 1).reads S.reads (S.pull 1).cap S.cap (by decide)).mono ?_
              clear S
              rintro e v3 ⟨rfl, S⟩
              replace S := S.drop.drop
              have y1 := Sep.Sep.ptr_at (p := fun d : Nat × DS => d.1) S.drop j hjl
              rw [← HY.out] at y1
              have hdl : (bs N (fun i => (x + (i : Int)) % 256) j).dur.length = 512 * N := by rw [← HW.out.2.2.1]; exact HF.out.dur
              have hm : ((512 : Int) * ((N : Nat) : Int) != ((N : Nat) : Int) * 512) = false := by simp; omega
              go_wp2_with fail
              have P := durable_s S
              rw [HW.out.2.2.1, hdl] at P
              refine P.mono ?_
              clear P S y1 hdl
              rintro e v4 ⟨Ad, cd, rfl, S⟩
              obtain ⟨gd, rfl⟩ := S.addr (by omega)
              have z0 := S.elem 0 (by omega)
              have y2 := Sep.Sep.ptr_at (p := fun d : Nat × DS => d.1) S.drop.drop j hjl
              rw [← HY.out] at y2
              have HZ := Aside0.mk S
              have hlen0 : (0 : Int) < 512 * (N : Int) := by omega
              by_cases h2 : j % 2 = 1
              · have e2 : ((j : Int) % 2 == 1) = true := beq_iff_eq.2 (by omega)
                have hz : (bs N (fun i => (x + (i : Int)) % 256) j).dur.getD 0 0 = (x + (j : Int)) % 256 := by
                  show (if j % 2 = 1 then List.replicate (512 * N) ((x + (j : Int)) % 256) else List.replicate (512 * N) 0).getD 0 0 = _
                  rw [if_pos h2, List.getD_eq_getElem?_getD, List.getElem?_replicate, if_pos (by omega)]
                  rfl
                rw [hz] at z0
                clear hz S
                go_wp2_with (go_at_call 19; refine (num_any _ _).mono ?_; rintro e w' ⟨rfl, rfl⟩)
                have P := pending_s HZ.out.drop (HF.out.few_ (by omega))
                rw [HW.out.2.2.2] at P
                refine P.mono ?_
                clear P HZ z0 y2
                rintro e v5 ⟨Ap, cp, qs, rfl, S⟩
                replace S := S.drop
                rw [← HST.out, HY.out] at S
                replace S := Sep.Sep.refocus (f := fun d : Nat × DS => DevA d.1 d.2) (R := [Own 25 1 (.slice (some ⟨g, 0, none⟩) 20 c) 20 (L.map fun d => ptr d.1), Byt (some ⟨gb, 0, none⟩) (512 * N) (512 * N) lb]) hjl S
                go_wp2
                exact ⟨⟨j, by omega, by go_num, S⟩, by simp [intOf]⟩
              · have e2 : ((j : Int) % 2 == 1) = false := beq_eq_false_iff_ne.2 (by omega)
                have hz : (bs N (fun i => (x + (i : Int)) % 256) j).dur.getD 0 0 = 0 := by
                  show (if j % 2 = 1 then List.replicate (512 * N) ((x + (j : Int)) % 256) else List.replicate (512 * N) 0).getD 0 0 = _
                  rw [if_neg h2, List.getD_eq_getElem?_getD, List.getElem?_replicate, if_pos (by omega)]
                  rfl
                rw [hz] at z0
                clear hz S
                go_wp2_with (go_at_call 19; refine (num_any _ _).mono ?_; rintro e w' ⟨rfl, rfl⟩)
                have P := pending_s HZ.out.drop (HF.out.few_ (by omega))
                rw [HW.out.2.2.2] at P
                refine P.mono ?_
                clear P HZ z0 y2
                rintro e v5 ⟨Ap, cp, qs, rfl, S⟩
                replace S := S.drop
                rw [← HST.out, HY.out] at S
                replace S := Sep.Sep.refocus (f := fun d : Nat × DS => DevA d.1 d.2) (R := [Own 25 1 (.slice (some ⟨g, 0, none⟩) 20 c) 20 (L.map fun d => ptr d.1), Byt (some ⟨gb, 0, none⟩) (512 * N) (512 * N) lb]) hjl S
                go_wp2
                exact ⟨⟨j, by omega, by go_num, S⟩, by simp [intOf]⟩
end Go.Proofs.Ythnbmfkmaijibaa.Help
