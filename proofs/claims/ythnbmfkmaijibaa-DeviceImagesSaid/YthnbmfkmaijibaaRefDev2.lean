/- The document's own device: New, Image, Durable, Read. -/
import Derived.Test.YthnbmfkmaijibaaRefDev
namespace Go.Proofs.Ythnbmfkmaijibaa.Sep
open Go.Proofs Go.RowKit Go.Proofs.YthnbmfkmaijibaaW.PrintWords Go.Proofs.YthnbmfkmaijibaaW.PrintLast Go.Proofs.YthnbmfkmaijibaaW.PrintMore Go.Proofs.Ythnbmfkmaijibaa.IMap Go.Proofs.Ythnbmfkmaijibaa.Dev Go.Proofs.Ythnbmfkmaijibaa.PDeviceReads Go.Proofs.Ythnbmfkmaijibaa.Help
set_option linter.unusedVariables false
set_option linter.unusedSimpArgs false
section
variable {w0 w w' : World} {p : Nat} {s : DS} {R : List Asn} {L : RLay}
set_option maxRecDepth 100000 in
theorem rdurable_s (S : Sep w0 w (RefA p s :: R)) : Calls Try.prog 38 #[.pointer (some ⟨p, 0, none⟩)] w fun e w' => ∃ A c, e = .returned (.slice A s.dur.length c) ∧ Sep w0 w' (Byt A s.dur.length c s.dur :: RefA p s :: R) := by
  obtain ⟨L, hg, S1⟩ := S.ropen
  have c0 := S1.cell 0 (v := .slice (some ⟨L.gl, 0, none⟩) (512 * L.n) L.cl) rfl
  have hr := S1.p1.reads
  have hdl := S1.p1.len
  have h1 := hg.1.n1
  rw [hg.2.1] at h1
  have HS := Aside0.mk S
  have HR := Aside0.mk hr
  clear S S1 hg hr
  rw [hdl]
  clear hdl
  go_enter Try.func38, Try.ntmps38
  go_wp2_with ((with_reducible refine gate_builtin (b := .append) (xs := #[.const (.slice none 0 0), .tmp 6]) rfl ?_); at_builtin; go_must (refine append_row (k := .u8) (xs := []) (HS.out.nils 5 1) rfl (.const (.slice none 0 0)) (.tmp 6) 29 1 rfl Try.underlying29 Dev.info5 (by decide) s.dur (some ⟨L.gl, 0, none⟩) (512 * L.n) L.cl rfl rfl HR.out ?aL ?_); (case aL => omega); intro A1 c1 w1 S1)
  go_ret
  rw [Nat.zero_add, List.nil_append] at S1
  exact ⟨A1, c1, rfl, S1⟩
theorem rnew_no (n : Int) (h : n < 1 ∨ n > 4096) (w : World) : Calls Try.prog 35 #[.int .i64 n] w fun e w' => e = .returned (.pointer none) ∧ w' = w := by
  go_enter Try.func35, Try.ntmps35
  by_cases h1 : n < 1
  · go_wp2
    go_ret
    exact ⟨rfl, rfl⟩
  · have h2 : n > 4096 := h.resolve_left h1
    go_wp2
    go_ret
    exact ⟨rfl, rfl⟩
theorem made_ref {d : List Int} {n gl cl : Nat} (h0 : 1 ≤ n) (h1 : n ≤ 4096) (hl : d.length = 512 * n) (S : Sep w0 w (Blk p #[.slice (some ⟨gl, 0, none⟩) (512 * n) cl, .slice none 0 0, .bool false, .int .i64 0] 110 :: Byt (some ⟨gl, 0, none⟩) (512 * n) cl d :: R)) : Sep w0 w (RefA p (DS.made d) :: R) := by
  have hn : (DS.made d).n = n := by
    show d.length / 512 = n
    omega
  refine Sep.rclose (L := ⟨n, gl, cl, none, 0, 0, []⟩) ⟨made_ok h0 h1 hl, hn, rfl, rfl⟩ ?_
  rw [List.map_nil, List.append_nil]
  exact (S.nils 41 2).p2.p2
set_option maxRecDepth 100000 in
theorem rnew_s (S : Sep w0 w R) (n : Nat) (h0 : 1 ≤ n) (h1 : n ≤ 4096) : Calls Try.prog 35 #[.int .i64 (n : Int)] w fun e w' => ∃ q, e = .returned (.pointer (some ⟨q, 0, none⟩)) ∧ Sep w0 w' (RefA q (DS.made (List.replicate (512 * n) 0)) :: R) := by
  have hw : IntKind.i64.wrap (512 * (n : Int)) = ((512 * n : Nat) : Int) := by rw [IntKind.wrap_i64]; omega
  have hmk := print_make (P := Try.prog) 29 5 .u8 1 Try.underlying29 Dev.info5 (by decide) (512 * n) (by omega)
  have hmk2 : ∀ W : World, (Instr.makeSlice 29 (.int .i64 (512 * (n : Int))) (.int .i64 (512 * (n : Int)))).run Try.prog W = .ok (.slice (some ⟨W.heap.size, 0, none⟩) (512 * n) (512 * n)) (W.alloc (.cells (madeCells #[.int .u8 0] (512 * n)) 5)) := fun W => by simpa using hmk W
  clear hmk
  have hg1 : ¬ (n : Int) < 1 := by omega
  have hg2 : ¬ (n : Int) > 4096 := by omega
  have HS := Aside0.mk ((S.row_new (below_alloc (Below.refl _ _) _) (own_made w w.heap.size 5 .u8 (512 * n) (Nat.le_refl _) (by omega))).alloc #[.slice (some ⟨w.heap.size, 0, none⟩) (512 * n) (512 * n), .slice none 0 0, .bool false, .int .i64 0] 110)
  clear S
  go_enter Try.func35, Try.ntmps35
  go_wp2
  go_ret
  refine ⟨w.heap.size + 1, rfl, ?_⟩
  have h := HS.out
  rw [show (w.alloc (.cells (madeCells #[.int .u8 0] (512 * n)) 5)).heap.size = w.heap.size + 1 from World.size_alloc ..] at h
  exact made_ref h0 h1 List.length_replicate h
def RImageP (d : List Int) (w0 : World) (R : List Asn) (e : Ending) (w' : World) : Prop := if fit d then ∃ q, e = .returned (.tuple #[.pointer (some ⟨q, 0, none⟩), .int .i64 0]) ∧ Sep w0 w' (RefA q (DS.made d) :: R) else e = .returned (.tuple #[.pointer none, .int .i64 51]) ∧ Sep w0 w' R
set_option maxRecDepth 100000 in
set_option maxHeartbeats 1000000 in
theorem rimage_s (S : Sep w0 w R) (A : Option Addr) (c : Nat) (d : List Int) (hr : ReadsInt w .u8 A d.length d) : Calls Try.prog 37 #[.slice A d.length c] w (RImageP d w0 R) := by
  have hd63 : d.length ≤ 9223372036854775807 := hr.2.1
  have hq : Int.tdiv (d.length : Int) 512 = ((d.length / 512 : Nat) : Int) := by rw [Int.tdiv_eq_ediv_of_nonneg (by omega)]; omega
  have hm : Int.tmod (d.length : Int) 512 = ((d.length % 512 : Nat) : Int) := by rw [Int.tmod_eq_emod_of_nonneg (by omega)]; omega
  have hw1 : wrap64 ((d.length / 512 : Nat) : Int) = ((d.length / 512 : Nat) : Int) := by unfold wrap64; omega
  have hw2 : wrap64 ((d.length % 512 : Nat) : Int) = ((d.length % 512 : Nat) : Int) := by unfold wrap64; omega
  have HS := Aside0.mk S
  have HR := Aside0.mk hr
  clear S hr
  go_enter Try.func37, Try.ntmps37
  cases hf : fit d with
  | false =>
    have HN : Aside0 (RImageP d w0 R (.returned (.tuple #[.pointer none, .int .i64 51])) w) := ⟨by unfold RImageP; rw [hf, if_neg (by simp)]; exact ⟨rfl, HS.out⟩⟩
    by_cases g1 : (d.length : Int) % 512 = 0
    · by_cases g2 : (d.length : Int) / 512 < 1
      · have d2 : decide ((d.length : Int) / 512 < 1) = true := decide_eq_true g2
        go_wp2
        go_ret2
        exact HN.out
      · have d2 : decide ((d.length : Int) / 512 < 1) = false := decide_eq_false g2
        have d3 : decide (4096 < (d.length : Int) / 512) = true := decide_eq_true (by
          have := hf
          simp only [fit, Bool.and_eq_false_iff, decide_eq_false_iff_not] at this
          omega)
        go_wp2
        go_ret2
        exact HN.out
    · have d1 : ((d.length : Int) % 512 != 0) = true := bne_iff_ne.2 g1
      go_wp2
      go_ret2
      exact HN.out
  | true =>
    have hok := fit_ok hf
    have hfit := Aside0.mk hf
    have hlen : d.length ≤ 140737488355328 := by have := hok.len; have := hok.n1; have e : (DS.made d).dur.length = d.length := rfl; omega
    have hn0 := hok.n0
    have hn1 := hok.n1
    simp only [fit, Bool.and_eq_true, decide_eq_true_eq] at hf
    have g1 : (d.length : Int) % 512 = 0 := by omega
    have g2 : ¬ ((d.length : Int) / 512 < 1) := by omega
    have g2' : 1 ≤ ((d.length : Int) / 512) := by omega
    have g3 : ¬ (4096 < (d.length : Int) / 512) := by omega
    have g3' : ((d.length : Int) / 512) ≤ 4096 := by omega
    have d2 : decide ((d.length : Int) / 512 < 1) = false := decide_eq_false g2
    have d3 : decide (4096 < (d.length : Int) / 512) = false := decide_eq_false g3
    go_wp2_with ((with_reducible refine gate_builtin (b := .append) (xs := #[.const (.slice none 0 0), .tmp 20]) rfl ?_); at_builtin; go_must (refine append_row (k := .u8) (xs := []) (HS.out.nils 5 1) rfl (.const (.slice none 0 0)) (.tmp 20) 29 1 rfl Try.underlying29 Dev.info5 (by decide) d A d.length c rfl rfl HR.out ?aL ?_); (case aL => omega); intro A1 c1 w1 S1)
    rw [Nat.zero_add, List.nil_append] at S1
    obtain ⟨g, rfl⟩ := S1.addr (by omega)
    have e512 : d.length = 512 * (d.length / 512) := by omega
    have S2 := S1.alloc #[.slice (some ⟨g, 0, none⟩) d.length c1, .slice none 0 0, .bool false, .int .i64 0] 110
    go_ret2
    unfold RImageP
    rw [hfit.out, if_pos rfl]
    refine ⟨_, rfl, ?_⟩
    refine made_ref (n := d.length / 512) (gl := g) (cl := c1) (by omega) (by omega) e512 ?_
    rw [← e512]
    exact S2
theorem find_last {ps : List (Int × List Int)} {b : Int} {j : Nat} {x : Int × List Int} (hx : ps[j]? = some x) (hb : x.1 = b) (h : ∀ (i : Nat) (y : Int × List Int), j < i → ps[i]? = some y → y.1 ≠ b) : ps.reverse.find? (fun x => x.1 == b) = some x := by
  have hj : j < ps.length := (List.getElem?_eq_some_iff.1 hx).1
  have e : ps = ps.take j ++ (x :: ps.drop (j + 1)) := by
    have h1 : ps.drop j = x :: ps.drop (j + 1) := by rw [List.drop_eq_getElem_cons hj]; rw [List.getElem?_eq_getElem hj] at hx; rw [Option.some.inj hx]
    rw [← h1, List.take_append_drop]
  rw [e, List.reverse_append, List.reverse_cons, List.append_assoc, List.find?_append]
  have h2 : (ps.drop (j + 1)).reverse.find? (fun x => x.1 == b) = none := by
    rw [List.find?_eq_none]
    intro y hy
    obtain ⟨i, hi⟩ := List.mem_iff_getElem?.1 (List.mem_reverse.1 hy)
    rw [List.getElem?_drop] at hi
    have := h (j + 1 + i) y (by omega) hi
    simpa using this
  rw [h2]
  simp [hb]
theorem find_no {ps : List (Int × List Int)} {b : Int} (h : ∀ (i : Nat) (y : Int × List Int), ps[i]? = some y → y.1 ≠ b) : ps.reverse.find? (fun x => x.1 == b) = none := by
  rw [List.find?_eq_none]
  intro y hy
  obtain ⟨i, hi⟩ := List.mem_iff_getElem?.1 (List.mem_reverse.1 hy)
  simpa using h i y hi
end
end Go.Proofs.Ythnbmfkmaijibaa.Sep
