/- SumPlace: the walk. -/
import Derived.Test.YtmddjfplkifdmaaPureSumPlace
import Derived.Test.YtmddjfplkifdmaaSepOps
import Derived.Deep.RegionHeld3
import Derived.Deep.DeepMust
import Derived.Deep.CutBlock
namespace Go.Proofs.Ytmddjfplkifdmaa.Sep
open Go.Proofs Go.RowKit Go.Proofs.YtmddjfplkifdmaaW.PrintWords Go.Proofs.YtmddjfplkifdmaaW.PrintLast Go.Proofs.YtmddjfplkifdmaaW.PrintMore Go.Proofs.Ytmddjfplkifdmaa.Dev Go.Proofs.Ytmddjfplkifdmaa.QSumPlace Go.Proofs.Ytmddjfplkifdmaa.SumPlain Go.Proofs.Ytmddjfplkifdmaa.Pure
set_option linter.unusedVariables false
set_option linter.unusedSimpArgs false
abbrev BL := Value × List Int
abbrev vls (L : List BL) : List Value := L.map fun d => d.1
abbrev bls (L : List BL) : List (List Int) := L.map fun d => d.2
/-- A list of bytes in memory of its own. -/
def dv (d : BL) : Asn := Own 5 1 d.1 d.2.length (nums .u8 d.2)
theorem placeN' (at_ : Int) (n : Nat) (hn : 0 < n) (hn2 : n ≤ 1048576) (h : (Lit.int .i64 at_).wf = true) : ∃ p : Nat, p < n ∧ Int.tmod (wrap64 ((Int.tmod at_ (n : Int)) + (n : Int))) (n : Int) = (p : Int) := by
  have h1 : Int.tmod at_ (n : Int) < (n : Int) := Int.tmod_lt_of_pos _ (by omega)
  have h2 : -(n : Int) < Int.tmod at_ (n : Int) := Int.lt_tmod_of_pos _ (by omega)
  have w : wrap64 ((Int.tmod at_ (n : Int)) + (n : Int)) = (Int.tmod at_ (n : Int)) + (n : Int) := by unfold wrap64; omega
  rw [w]
  have h3 : 0 ≤ (Int.tmod at_ (n : Int)) + (n : Int) := by omega
  rw [Int.tmod_eq_emod_of_nonneg h3]
  have h4 := Int.emod_nonneg ((Int.tmod at_ (n : Int)) + (n : Int)) (show (n : Int) ≠ 0 by omega)
  have h5 := Int.emod_lt_of_pos ((Int.tmod at_ (n : Int)) + (n : Int)) (show (0 : Int) < n by omega)
  exact ⟨(((Int.tmod at_ (n : Int)) + (n : Int)) % (n : Int)).toNat, by omega, by omega⟩
theorem info_l : (Try.prog.info? 22).map (fun i => (i.zero, i.size, i.bytes)) = some (some (.slice none 0 0), 1, 24) := by kernel_rfl
section
variable {w0 w w' : World} {R : List Asn}
theorem kn_s (S : Sep w0 w R) : Calls Try.prog 15 #[] w fun e w' => e = .returned (.bool true) ∧ Sep w0 w' R :=
  (annexlaw2_known.calls 9 true w (known_is 9 (by omega))).mono fun e w' h => ⟨h.1, S.calm h.2⟩
theorem C_of {A : Option Addr} {n : Nat} {l : List Int} (h : ReadsInt w .u8 A n l) : Kd.C (Kd.int .u8) w A n l := Kd.C_of_reads (enc := Value.int .u8) (d := (0 : Int)) (h1 := fun _ => rfl) h
theorem roomy_s (S : Sep w0 w R) (A : Option Addr) (n c : Nat) (l : List Int) (hn : l.length = n) (hr : Kd.C (Kd.int .u8) w A n l) (hc : n ≤ c) (hl : n ≤ 1048576) : Calls Try.prog 16 #[.slice A n c] w fun e w' => ∃ B d, e = .returned (.slice B (n + 9) d) ∧ Sep w0 w' (Byt B (n + 9) d (l ++ marks) :: R) := by
  subst hn
  refine (annexlaw2_roomy.calls (l.length + 10) A c l _ w hr hc (roomy_is _ l (by omega) (by omega) (by omega))).mono ?_
  rintro e w' ⟨v, rfl, h3, b⟩
  have h4 := Kd.own_of_R h3
  have e9 : (l ++ marks).length = l.length + 9 := by rw [List.length_append]; rfl
  rw [e9] at h4
  have h5 : w'.ownsRow w.heap.size 5 1 v (l.length + 9) (nums .u8 (l ++ marks)) := h4
  obtain ⟨B, d, rfl⟩ := own_slice h5
  exact ⟨B, d, rfl, S.row_new b h5⟩
theorem rsum_s (S : Sep w0 w R) (A : Option Addr) (n c : Nat) (l : List Int) (hn : l.length = n) (hr : Kd.C (Kd.int .u8) w A n l) (hc : n ≤ c) (hl : n ≤ 1048576) : Calls Try.prog 18 #[.slice A n c] w fun e w' => e = .returned (.int .u64 (moreN 14695981039346656037 l)) ∧ Sep w0 w' R := by
  subst hn
  exact (annexref2_Sum.calls (l.length + 1) A c l _ w hr hc (RSum_is _ l (by omega) (by omega))).mono fun e w' h => ⟨h.1, S.calm h.2.below⟩
theorem alike_s (S : Sep w0 w R) (h want : Int) (A : Option Addr) (n c : Nat) (l : List Int) (hr : ReadsInt w .u8 A n l) (hc : n ≤ c) (hl : n ≤ 1048576) : Calls Try.prog 28 #[.int .u64 h, .slice A n c, .int .u64 want] w fun e w' => e = .returned (.bool true) ∧ Sep w0 w' R := by
  obtain rfl : l.length = n := hr.1
  exact (annexlaw2_alike.calls (l.length + l.length + 21) h A c l want true w (C_of hr) hc (alike_is _ h l want hl (by omega))).mono fun e w' h => ⟨h.1, S.calm h.2⟩
theorem byt_s (S : Sep w0 w R) (A : Option Addr) (n c : Nat) (l : List Int) (hr : ReadsInt w .u8 A n l) (hc : n ≤ c) (hl : n ≤ 1048600) : Calls Try.prog 25 #[.slice A n c] w fun e w' => ∃ B d, e = .returned (.slice B n d) ∧ Sep w0 w' (Byt B n d l :: R) := by
  obtain rfl : l.length = n := hr.1
  refine (annexref_Bytes.calls (l.length + 1) A c l _ w (C_of hr) hc (Bytes_is _ l (by omega) (by omega))).mono ?_
  rintro e w' ⟨v, rfl, h3, b⟩
  have h5 : w'.ownsRow w.heap.size 5 1 v l.length (nums .u8 l) := Kd.own_of_R h3
  obtain ⟨B, d, rfl⟩ := own_slice h5
  exact ⟨B, d, rfl, S.row_new b h5⟩
theorem same_s (S : Sep w0 w R) (A B : Option Addr) (n c1 c2 : Nat) (l : List Int) (ha : ReadsInt w .u8 A n l) (hb : ReadsInt w .u8 B n l) (h1 : n ≤ c1) (h2 : n ≤ c2) (hl : n ≤ 1048600) : Calls Try.prog 29 #[.slice A n c1, .slice B n c2] w fun e w' => e = .returned (.bool true) ∧ Below w.heap.size w w' := by
  obtain rfl : l.length = n := ha.1
  exact (annexref_SameBytes.calls (l.length + 1) A c1 l B c2 l true w (C_of ha) h1 (C_of hb) h2 (Same_self _ l (by omega) (by omega))).mono fun e w' h => ⟨h.1, h.2.below⟩
end
abbrev T3 := Value × Value × List Int
def pv (p : T3) : Asn := All [Own 5 1 p.1 p.2.2.length (nums .u8 p.2.2), Own 5 1 p.2.1 p.2.2.length (nums .u8 p.2.2)]
theorem kd3 {w : World} {a : Addr} {v : Value} (h : w.cell? a = some v) : w.drew.cell? a = some v := h
theorem lists_at {w W : World} {A : Option Addr} {ls : List (List Int)} (h : Kd.C (Kd.slice 5 (Kd.int .u8)) w A ls.length ls) (k : Nat) (hk : k < ls.length) (b : Below w.heap.size w W) : ∃ ad A0 c0, A = some ad ∧ W.cell? (ad.add k) = some (.slice A0 (ls.getD k []).length c0) ∧ (ls.getD k []).length ≤ c0 ∧ Kd.C (Kd.int .u8) W A0 (ls.getD k []).length (ls.getD k []) := by
  obtain ⟨ad, A0, c0, e, h1, h2, h3⟩ := at_L1 h (k : Int) (by omega) (by omega)
  have e2 : rd_L1 ls (k : Int) = ls.getD k [] := by simp [rd_L1]
  rw [e2] at h1 h2 h3
  exact ⟨ad, A0, c0, e, pw_cell_below b h1, h2, Kd.C_below h3 b⟩
set_option maxHeartbeats 4000000 in
set_option maxRecDepth 100000 in
theorem place_any (h : Int) (ls : List (List Int)) (A : Option Addr) (c : Nat) (at_ : Int) (hat : (Lit.int .i64 at_).wf = true) (w : World) (hr : Kd.C (Kd.slice 5 (Kd.int .u8)) w A ls.length ls) (hc : ls.length ≤ c) (hl : ls.length ≤ 1048576) (hx : ∀ x ∈ ls, x.length ≤ 1048576) :
    Calls Try.prog 14 #[.int .u64 h, .slice A ls.length c, .int .i64 at_] w fun e w' => e = .returned (.bool true) ∧ Below w.heap.size w w' := by
  have HR := Aside0.mk hr
  have HX := Aside0.mk hx
  clear hr hx
  go_enter Try.func14, Try.ntmps14
  go_wp2_with fail
  refine (kn_s (Sep.start w)).mono ?_
  rintro e w1 ⟨rfl, S⟩
  go_wp2
  have S1 : Sep w w1 ([Own 22 1 (.slice none 0 0) 0 [], Own 22 1 (.slice none 0 0) 0 []] ++ ([] : List T3).map pv) := (S.nils 22 1).nils 22 1
  clear S
  go_loopw [8, 9, 10] (fun g v i wr => ∃ (k : Nat) (P : List T3) (Ag Aw : Option Addr) (cg cw : Nat), k ≤ ls.length ∧ i = .int .i64 (k : Int) ∧ g = .slice Ag k cg ∧ v = .slice Aw k cw ∧ Aside0 (P.length = k) ∧ Aside0 (∀ p ∈ P, p.2.2.length ≤ 1048600) ∧ Sep w wr ([Own 22 1 (.slice Ag k cg) k (P.map fun p => p.1), Own 22 1 (.slice Aw k cw) k (P.map fun p => p.2.1)] ++ P.map pv)) (fun _ _ i _ => ls.length - (intOf i).toNat)
  case atStart => exact ⟨0, [], none, none, 0, 0, Nat.zero_le _, rfl, rfl, rfl, ⟨rfl⟩, ⟨fun p hp => by cases hp⟩, S1⟩
  case round =>
    clear S1
    obtain ⟨k, P, Ag, Aw, cg, cw, hk, rfl, rfl, rfl, HP, HL, S⟩ := hrel
    by_cases hlt : k < ls.length
    · have hlti : (k : Int) < (ls.length : Int) := by omega
      have HA := Aside0.mk (fun (W : World) (b : Below w.heap.size w W) => lists_at HR.out k hlt b)
      obtain ⟨ad, A0, c0, rfl, x0, hc0, hC⟩ := HA.out wr S.bel
      obtain ⟨x, hx⟩ : ∃ x, x = ls.getD k [] := ⟨_, rfl⟩
      have HN : Aside0 (x.length ≤ 1048576) := ⟨by rw [hx, List.getD_eq_getElem?_getD, List.getElem?_eq_getElem hlt]; exact HX.out _ (List.getElem_mem _)⟩
      obtain ⟨n, hn⟩ : ∃ n, n = x.length := ⟨_, rfl⟩
      rw [← hx, ← hn] at x0 hc0 hC
      have HC : Aside0 (∀ W : World, Below w.heap.size w W → W.cell? (ad.add k) = some (.slice A0 n c0) ∧ Kd.C (Kd.int .u8) W A0 n x) := ⟨fun W b => by
        obtain ⟨ad', A0', c0', e, y0, _, yC⟩ := HA.out W b
        cases e
        rw [← hx, ← hn] at y0 yC
        have h0 := lists_at HR.out k hlt (Below.refl _ _)
        obtain ⟨ad2, A2, c2, e2, z0, _, zC⟩ := h0
        cases e2
        rw [← hx, ← hn] at z0
        have z1 := pw_cell_below b z0
        rw [y0] at z1
        have z2 := pw_cell_below S.bel z0
        rw [x0] at z2
        cases z1
        cases z2
        exact ⟨y0, yC⟩⟩
      have hn2 : n ≤ 1048576 := by rw [hn]; exact HN.out
      have HNE := Aside0.mk hn.symm
      clear hx hn HN HA hC
      go_wp2_with fail
      refine (roomy_s S A0 n c0 x HNE.out (HC.out _ S.bel).2 hc0 hn2).mono ?_
      clear S x0
      rintro e w2 ⟨B, d, rfl, S⟩
      have x0 := (HC.out _ S.bel).1
      go_wp2_with fail
      refine (rsum_s S A0 n c0 x HNE.out (HC.out _ S.bel).2 hc0 hn2).mono ?_
      clear S x0
      rintro e w3 ⟨rfl, S⟩
      obtain ⟨g, rfl⟩ := S.addr (by omega)
      have hcap := S.cap
      have hlen := S.len
      have htk : ((x ++ marks).drop 0).take n = x := by rw [List.drop_zero]; exact List.take_left' HNE.out
      have hp := S.part 0 n (by omega)
      rw [htk] at hp
      have HPT := Aside0.mk hp
      clear hp htk hlen
      have hn0 : (0 : Int) ≤ (n : Int) := by omega
      have hnd : (n : Int) ≤ (d : Int) := by omega
      go_wp2_with fail
      refine (alike_s S _ _ _ _ _ x HPT.out (by omega) hn2).mono ?_
      clear S HPT
      rintro e w4 ⟨rfl, S⟩
      by_cases hpos : 0 < n
      · have hposi : (n : Int) > 0 := by omega
        obtain ⟨q, hq, hpl⟩ := placeN' at_ n hpos hn2 hat
        have hqi : (q : Int) < (n : Int) + 9 := by omega
        have ce := S.elem q (by omega)
        have fr := S.row_free (by omega) q
        have HS := Aside0.mk (fun v => S.store q v)
        clear S
        go_upto_region 15 with fail
        have S := HS.out (Go.bits .xor .u8 ((x ++ marks).getD q 0) 255)
        clear HS
        obtain ⟨y, hy⟩ : ∃ y, y = (x ++ marks).set q (Go.bits .xor .u8 ((x ++ marks).getD q 0) 255) := ⟨_, rfl⟩
        rw [← hy] at S
        clear hy
        have hyl := S.len
        have hyt : ((y.drop 0).take n).length = n := by rw [List.drop_zero, List.length_take]; omega
        have HPT := Aside0.mk (S.part 0 n (by omega))
        have HY := Aside0.mk hyl
        clear hyl hyt
        go_wp2_with fail
        refine (alike_s S _ _ _ _ _ ((y.drop 0).take n) HPT.out (by omega) hn2).mono ?_
        clear S HPT
        rintro e w5 ⟨rfl, S⟩
        go_wp2_with ((with_reducible refine gate_builtin (b := .append) (xs := #[.tmp 78, .tmp 80]) rfl ?_); at_builtin; go_must (refine append_s S.p1 rfl (.tmp 78) (.tmp 80) 36 (.slice none 0 0) 24 rfl Try.underlying36 info_l rfl (by decide) (by decide) [.slice (some ⟨g, 0, none⟩) (n + 9) d] rfl rfl rfl ?a1 ?aL ?_); (case a1 => (intro u hu; rw [List.mem_singleton.1 hu]; rfl)); (case aL => omega); intro Ag1 cg1 w9 S9; clear S; have S := S9; clear S9)
        go_wp2_with fail
        refine (byt_s S.p1 (some ⟨g, 0, none⟩) (n + 9) d y S.p1.reads hcap (by omega)).mono ?_
        clear S
        rintro e w6 ⟨B2, d2, rfl, S⟩
        go_wp2_with ((with_reducible refine gate_builtin (b := .append) (xs := #[.tmp 82, .tmp 85]) rfl ?_); at_builtin; go_must (refine append_s S.p3 rfl (.tmp 82) (.tmp 85) 36 (.slice none 0 0) 24 rfl Try.underlying36 info_l rfl (by decide) (by decide) [.slice B2 (n + 9) d2] rfl rfl rfl ?a1 ?aL ?_); (case a1 => (intro u hu; rw [List.mem_singleton.1 hu]; rfl)); (case aL => omega); intro Aw1 cw1 w9 S9; clear S; have S := S9; clear S9)
        refine ⟨⟨k + 1, P ++ [(.slice (some ⟨g, 0, none⟩) (n + 9) d, .slice B2 (n + 9) d2, y)], Ag1, Aw1, cg1, cw1, by omega, by go_num, rfl, rfl, ⟨by rw [List.length_append, HP.out]; rfl⟩, ⟨fun p hp => ?_⟩, ?_⟩, by simp [intOf]; omega⟩
        · rcases List.mem_append.1 hp with h1 | h1
          · exact HL.out p h1
          · rw [List.mem_singleton.1 h1]
            show y.length ≤ 1048600
            rw [HY.out]
            omega
        · have e1 : (P ++ [((.slice (some ⟨g, 0, none⟩) (n + 9) d, .slice B2 (n + 9) d2, y) : T3)]).map (fun p => p.1) = P.map (fun p => p.1) ++ [.slice (some ⟨g, 0, none⟩) (n + 9) d] := List.map_append
          have e2 : (P ++ [((.slice (some ⟨g, 0, none⟩) (n + 9) d, .slice B2 (n + 9) d2, y) : T3)]).map (fun p => p.2.1) = P.map (fun p => p.2.1) ++ [.slice B2 (n + 9) d2] := List.map_append
          rw [e1, e2]
          have S6 : Sep w w9 (pv (.slice (some ⟨g, 0, none⟩) (n + 9) d, .slice B2 (n + 9) d2, y) :: ([Own 22 1 (.slice Aw1 (k + 1) cw1) (k + 1) (P.map (fun p => p.2.1) ++ [.slice B2 (n + 9) d2]), Own 22 1 (.slice Ag1 (k + 1) cg1) (k + 1) (P.map (fun p => p.1) ++ [.slice (some ⟨g, 0, none⟩) (n + 9) d])] ++ P.map pv)) := by
            unfold pv
            rw [HY.out]
            exact Sep.closeA (l := [_, _]) S.p2.p2.p1
          exact (Sep.snoc (f := pv) S6).p1
      · have hposi : ¬ (n : Int) > 0 := by omega
        obtain ⟨y, hy⟩ : ∃ y, y = x ++ marks := ⟨_, rfl⟩
        rw [← hy] at S
        clear hy
        have hyl := S.len
        have hyt : ((y.drop 0).take n).length = n := by rw [List.drop_zero, List.length_take]; omega
        have HPT := Aside0.mk (S.part 0 n (by omega))
        have HY := Aside0.mk hyl
        clear hyl hyt
        go_wp2_with fail
        refine (alike_s S _ _ _ _ _ ((y.drop 0).take n) HPT.out (by omega) hn2).mono ?_
        clear S HPT
        rintro e w5 ⟨rfl, S⟩
        go_wp2_with ((with_reducible refine gate_builtin (b := .append) (xs := #[.tmp 78, .tmp 80]) rfl ?_); at_builtin; go_must (refine append_s S.p1 rfl (.tmp 78) (.tmp 80) 36 (.slice none 0 0) 24 rfl Try.underlying36 info_l rfl (by decide) (by decide) [.slice (some ⟨g, 0, none⟩) (n + 9) d] rfl rfl rfl ?a1 ?aL ?_); (case a1 => (intro u hu; rw [List.mem_singleton.1 hu]; rfl)); (case aL => omega); intro Ag1 cg1 w9 S9; clear S; have S := S9; clear S9)
        go_wp2_with fail
        refine (byt_s S.p1 (some ⟨g, 0, none⟩) (n + 9) d y S.p1.reads hcap (by omega)).mono ?_
        clear S
        rintro e w6 ⟨B2, d2, rfl, S⟩
        go_wp2_with ((with_reducible refine gate_builtin (b := .append) (xs := #[.tmp 82, .tmp 85]) rfl ?_); at_builtin; go_must (refine append_s S.p3 rfl (.tmp 82) (.tmp 85) 36 (.slice none 0 0) 24 rfl Try.underlying36 info_l rfl (by decide) (by decide) [.slice B2 (n + 9) d2] rfl rfl rfl ?a1 ?aL ?_); (case a1 => (intro u hu; rw [List.mem_singleton.1 hu]; rfl)); (case aL => omega); intro Aw1 cw1 w9 S9; clear S; have S := S9; clear S9)
        refine ⟨⟨k + 1, P ++ [(.slice (some ⟨g, 0, none⟩) (n + 9) d, .slice B2 (n + 9) d2, y)], Ag1, Aw1, cg1, cw1, by omega, by go_num, rfl, rfl, ⟨by rw [List.length_append, HP.out]; rfl⟩, ⟨fun p hp => ?_⟩, ?_⟩, by simp [intOf]; omega⟩
        · rcases List.mem_append.1 hp with h1 | h1
          · exact HL.out p h1
          · rw [List.mem_singleton.1 h1]
            show y.length ≤ 1048600
            rw [HY.out]
            omega
        · have e1 : (P ++ [((.slice (some ⟨g, 0, none⟩) (n + 9) d, .slice B2 (n + 9) d2, y) : T3)]).map (fun p => p.1) = P.map (fun p => p.1) ++ [.slice (some ⟨g, 0, none⟩) (n + 9) d] := List.map_append
          have e2 : (P ++ [((.slice (some ⟨g, 0, none⟩) (n + 9) d, .slice B2 (n + 9) d2, y) : T3)]).map (fun p => p.2.1) = P.map (fun p => p.2.1) ++ [.slice B2 (n + 9) d2] := List.map_append
          rw [e1, e2]
          have S6 : Sep w w9 (pv (.slice (some ⟨g, 0, none⟩) (n + 9) d, .slice B2 (n + 9) d2, y) :: ([Own 22 1 (.slice Aw1 (k + 1) cw1) (k + 1) (P.map (fun p => p.2.1) ++ [.slice B2 (n + 9) d2]), Own 22 1 (.slice Ag1 (k + 1) cg1) (k + 1) (P.map (fun p => p.1) ++ [.slice (some ⟨g, 0, none⟩) (n + 9) d])] ++ P.map pv)) := by
            unfold pv
            rw [HY.out]
            exact Sep.closeA (l := [_, _]) S.p2.p2.p1
          exact (Sep.snoc (f := pv) S6).p1
    · have hnl : ¬ ((k : Int) < (ls.length : Int)) := by omega
      clear hlt
      go_wp2
      go_loopw [17] (fun i wr => ∃ m : Nat, m ≤ k ∧ i = .int .i64 (m : Int) ∧ Sep w wr ([Own 22 1 (.slice Ag k cg) k (P.map fun p => p.1), Own 22 1 (.slice Aw k cw) k (P.map fun p => p.2.1)] ++ P.map pv)) (fun i _ => k - (intOf i).toNat)
      case atStart => exact ⟨0, Nat.zero_le _, rfl, S⟩
      case round =>
        clear S
        obtain ⟨m, hm, rfl, S⟩ := hrel
        by_cases hlt : m < k
        · have hlti : (m : Int) < (k : Int) := by omega
          have hmp : m < P.length := by rw [HP.out]; exact hlt
          have hplen := HL.out P[m] (List.getElem_mem _)
          obtain ⟨g, rfl⟩ := S.addr (by omega)
          obtain ⟨g', rfl⟩ := S.p1.addr (by omega)
          have v1 := S.val m (v := P[m].1) (by rw [List.getElem?_map, List.getElem?_eq_getElem hmp]; rfl)
          have v2 := S.p1.val m (v := P[m].2.1) (by rw [List.getElem?_map, List.getElem?_eq_getElem hmp]; rfl)
          have S2 := S.focus (f := pv) (R := [Own 22 1 (.slice (some ⟨g, 0, none⟩) k cg) k (P.map fun p => p.1), Own 22 1 (.slice (some ⟨g', 0, none⟩) k cw) k (P.map fun p => p.2.1)]) m hmp
          have S3 : Sep w wr (Own 5 1 P[m].1 P[m].2.2.length (nums .u8 P[m].2.2) :: Own 5 1 P[m].2.1 P[m].2.2.length (nums .u8 P[m].2.2) :: _) := Sep.openA S2
          obtain ⟨A1, c1, e1⟩ := own_slice S3.row
          obtain ⟨A2, c2, e2⟩ := own_slice S3.p1.row
          rw [e1] at v1
          rw [e2] at v2
          rw [e1, e2] at S3
          obtain ⟨ll, hll⟩ : ∃ ll, ll = P[m].2.2 := ⟨_, rfl⟩
          rw [← hll] at S3 v1 v2 hplen
          have r1 := S3.reads
          have r2 := S3.p1.reads
          have k1 := S3.cap
          have k2 := S3.p1.cap
          have HS := Aside0.mk S
          have HSM := Aside0.mk (fun (W : World) (b : Below wr.heap.size wr W) => same_s (S.calm b) A1 A2 ll.length c1 c2 ll (ReadsInt.below r1 b) (ReadsInt.below r2 b) k1 k2 hplen)
          clear S S2 S3 e1 e2 hll r1 r2
          go_wp2
          go_region_held3 (fun W => W.cell? ⟨g, m, none⟩ = some (.slice A1 ll.length c1) ∧ W.cell? ⟨g', m, none⟩ = some (.slice A2 ll.length c2)) (refine ⟨?_, ?_⟩ <;> (repeat (first | (with_reducible exact v1) | (with_reducible exact v2) | (with_reducible refine kd3 ?_) | (with_reducible refine pw_cell_below (by assumption) ?_))))
            (first | (go_at_call 29; refine (HSM.out _ (by first | exact below_drew (Below.refl _ _) | exact Below.refl _ _)).mono ?_; rintro e w8 ⟨rfl, hb8⟩))
          have S := (HS.out.drew).calm hb8
          clear HS HSM v1 v2 hb8
          go_wp2
          exact ⟨⟨m + 1, by omega, by go_num, S⟩, by simp [intOf]; omega⟩
        · have hlti : ¬ ((m : Int) < (k : Int)) := by omega
          clear hlt
          go_wp2_with fail
          refine (kn_s S).mono ?_
          clear S
          rintro e w7 ⟨rfl, S⟩
          have hB := S.bel
          clear S
          go_wp2
          go_ret
          exact ⟨rfl, hB⟩
end Go.Proofs.Ytmddjfplkifdmaa.Sep
