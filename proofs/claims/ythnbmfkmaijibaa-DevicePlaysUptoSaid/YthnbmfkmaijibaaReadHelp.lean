/- zeros, flat, sameAll: lists of blocks. -/
import Derived.Test.YthnbmfkmaijibaaReadPlain
import Derived.Test.YthnbmfkmaijibaaSepOps
import Derived.Test.YthnbmfkmaijibaaSamePend
import Derived.Test.YthnbmfkmaijibaaDevWrite
namespace Go.Proofs.Ythnbmfkmaijibaa.Help
open Go.Proofs Go.RowKit Go.Proofs.YthnbmfkmaijibaaW.PrintWords Go.Proofs.YthnbmfkmaijibaaW.PrintLast Go.Proofs.YthnbmfkmaijibaaW.PrintMore Go.Proofs.Ythnbmfkmaijibaa.IMap Go.Proofs.Ythnbmfkmaijibaa.Dev Go.Proofs.Ythnbmfkmaijibaa.PDeviceReads Go.Proofs.Ythnbmfkmaijibaa.Sep
set_option linter.unusedVariables false
set_option linter.unusedSimpArgs false
abbrev Blk5 := Value × List Int
abbrev vals (L : List Blk5) : List Value := L.map fun d => d.1
abbrev blks (L : List Blk5) : List (List Int) := L.map fun d => d.2
/-- A block in memory of its own. -/
def dat (d : Blk5) : Asn := Own 5 1 d.1 512 (nums .u8 d.2)
section
variable {w0 w w' : World} {R : List Asn}
theorem Sep.dat_C {d : Blk5} (S : Sep w0 w (dat d :: R)) : ∃ A c, d.1 = .slice A 512 c ∧ 512 ≤ c ∧ d.2.length = 512 ∧ ReadsInt w .u8 A 512 d.2 := by
  have S1 : Sep w0 w (Own 5 1 d.1 512 (nums .u8 d.2) :: R) := S
  have hr := S1.row
  obtain ⟨A, c, e⟩ := own_slice hr
  rw [e] at S1
  exact ⟨A, c, e, S1.cap, S1.len, S1.reads⟩
/-- A list of blocks reads as the print has it. -/
theorem rows_C {A : Option Addr} {n c : Nat} {L : List Blk5} (S : Sep w0 w (All (Own 29 1 (.slice A n c) n (vals L) :: L.map dat) :: R)) (hL : L.length = n) : Kd.C (Kd.slice 5 (Kd.int .u8)) w A n (blks L) ∧ n ≤ c ∧ n ≤ 9223372036854775807 := by
  have S1 := S.spread
  have hrow := S1.row
  have hcap : n ≤ c ∧ n ≤ 9223372036854775807 := by
    rcases hrow.2 with ⟨h1, h2⟩ | ⟨g, cap, cur, h1, _, _, h2, h3, _⟩
    · cases h1; omega
    · cases h1
      unfold maxLen at h3
      omega
  refine ⟨⟨by rw [List.length_map]; exact hL, hcap.2, fun hn => ?_⟩, hcap⟩
  obtain ⟨g, rfl⟩ := S1.addr hn
  refine ⟨_, rfl, fun j p hp => ?_⟩
  have hj : j < L.length := by
    have := (List.getElem?_eq_some_iff.1 hp).1
    rw [List.length_map] at this
    omega
  have hv := S1.val j (v := L[j].1) (by rw [List.getElem?_map, List.getElem?_eq_getElem hj]; rfl)
  have hp' : p = L[j].2 := by
    rw [List.getElem?_map, List.getElem?_eq_getElem hj] at hp
    exact (Option.some.inj hp).symm
  subst hp'
  obtain ⟨A1, c1, e1, h1, h2, h3⟩ := Sep.dat_C (S1.focus j hj)
  rw [e1] at hv
  rw [← h2] at hv h1 h3
  refine ⟨[.slice A1 L[j].2.length c1], rfl, ⟨A1, c1, rfl, h1, Kd.C_of_reads (enc := Value.int .u8) (d := (0 : Int)) (h1 := fun _ => rfl) h3⟩, fun i u hu => ?_⟩
  rw [add_plain]
  match i, hu with
  | 0, hu =>
    cases hu
    show w.cell? ⟨g, j * 1 + 0, none⟩ = _
    rw [show j * 1 + 0 = j by omega]
    exact hv
  | i + 1, hu => simp at hu
theorem flat_s {A : Option Addr} {n c : Nat} {L : List Blk5} (S : Sep w0 w (All (Own 29 1 (.slice A n c) n (vals L) :: L.map dat) :: R)) (hL : L.length = n) (hn : n ≤ 140737488355328) (m : Nat) (hm : (blks L).flatten.length = m) (hD : m ≤ 140737488355328) :
    Calls Try.prog 16 #[.slice A n c] w fun e w' => ∃ B d, e = .returned (.slice B m d) ∧ Sep w0 w' (Byt B m d (blks L).flatten :: All (Own 29 1 (.slice A n c) n (vals L) :: L.map dat) :: R) := by
  obtain ⟨h1, h2, _⟩ := rows_C S hL
  have hl : (blks L).length = n := h1.1
  have hl2 := hl
  subst hl
  refine (annexlaw5_flat.calls _ A c (blks L) _ w h1 h2 (flat_is _ hn (by omega))).mono ?_
  rintro e w' ⟨v, rfl, h3, b⟩
  have h4 := Kd.own_of_R h3
  rw [hm] at h4
  have h5 : w'.ownsRow w.heap.size 5 1 v m (nums .u8 (blks L).flatten) := h4
  obtain ⟨B, d, rfl⟩ := own_slice h5
  exact ⟨B, d, rfl, S.row_new b h5⟩
theorem info_b : (Try.prog.info? 29).map (fun i => (i.zero, i.size, i.bytes)) = some (some (.slice none 0 0), 1, 24) := by kernel_rfl
set_option maxRecDepth 100000 in
theorem zeros_s (S : Sep w0 w R) (n : Nat) (hn : n ≤ 4096) : Calls Try.prog 15 #[.int .i64 (n : Int)] w fun e w' => ∃ (A : Option Addr) (c : Nat) (L : List Blk5), e = .returned (.slice A n c) ∧ L.length = n ∧ blks L = List.replicate n (r 0) ∧ Sep w0 w' (All (Own 29 1 (.slice A n c) n (vals L) :: L.map dat) :: R) := by
  go_enter Try.func15, Try.ntmps15
  go_wp2
  go_loopw [3, 4] (fun l i wr => ∃ (k : Nat) (A : Option Addr) (c : Nat) (L : List Blk5), k ≤ n ∧ l = .slice A k c ∧ i = .int .i64 (k : Int) ∧ Aside0 (L.length = k) ∧ Aside0 (blks L = List.replicate k (r 0)) ∧ Sep w0 wr ((Own 29 1 (.slice A k c) k (vals L) :: R) ++ L.map dat)) (fun _ i _ => n - (intOf i).toNat)
  case atStart => exact ⟨0, none, 0, [], Nat.zero_le _, rfl, rfl, ⟨rfl⟩, ⟨rfl⟩, by rw [List.map_nil, List.append_nil]; exact S.nils _ _⟩
  case round =>
    clear S
    obtain ⟨k, A, c, L, hk, rfl, rfl, HL, HZ, S⟩ := hrel
    by_cases hlt : k < n
    · have hlti : (k : Int) < (n : Int) := by omega
      go_wp2_with fail
      refine (full_s S 0).mono ?_
      clear S
      rintro e w1 ⟨Af, cf, rfl, S⟩
      go_wp2_with ((with_reducible refine gate_builtin (b := .append) (xs := #[.tmp 10, .tmp 12]) rfl ?_); at_builtin; go_must (refine append_s S.swap rfl (.tmp 10) (.tmp 12) 27 (.slice none 0 0) 24 rfl Try.underlying27 info_b rfl (by decide) (by decide) [.slice Af 512 cf] rfl rfl rfl ?a1 ?aL ?_); (case a1 => (intro u hu; rw [List.mem_singleton.1 hu]; rfl)); (case aL => omega); intro A1 c1 w9 S9)
      clear S
      refine ⟨⟨k + 1, A1, c1, L ++ [(.slice Af 512 cf, r 0)], by omega, rfl, by go_num, ⟨by rw [List.length_append, HL.out]; rfl⟩, ⟨by rw [show blks (L ++ [(.slice Af 512 cf, r 0)]) = blks L ++ [r 0] from List.map_append, HZ.out, List.replicate_succ']⟩, ?_⟩, by simp [intOf]; omega⟩
      have S10 := Sep.snoc (f := dat) (R := Own 29 1 (.slice A1 (k + 1) c1) (k + 1) (vals L ++ [.slice Af 512 cf]) :: R) (y := (.slice Af 512 cf, r 0)) (L := L) S9.swap
      rw [show vals (L ++ [(.slice Af 512 cf, r 0)]) = vals L ++ [.slice Af 512 cf] from List.map_append]
      exact S10
    · obtain rfl : k = n := by omega
      have hS := Aside0.mk S.gather
      clear S
      go_wp2
      go_ret
      exact ⟨A, c, L, rfl, HL.out, HZ.out, hS.out⟩
set_option maxHeartbeats 1000000 in
set_option maxRecDepth 100000 in
theorem sameAll_s {A : Option Addr} {n c p : Nat} {s : DS} {L : List Blk5} (S : Sep w0 w (All (Own 29 1 (.slice A n c) n (vals L) :: L.map dat) :: DevA p s :: R)) (hL : L.length = n) (hn : n ≤ 4096) (hs : ∀ b (h : b < L.length), s.read (b : Int) = (L[b].2, 0)) :
    Calls Try.prog 24 #[.pointer (some ⟨p, 0, none⟩), .slice A n c] w fun e w' => e = .returned (.bool true) ∧ Sep w0 w' (All (Own 29 1 (.slice A n c) n (vals L) :: L.map dat) :: DevA p s :: R) := by
  have HL := Aside0.mk hL
  have HS := Aside0.mk hs
  clear hL hs
  go_enter Try.func24, Try.ntmps24
  go_wp2
  go_loopw [5] (fun i wr => ∃ k : Nat, k ≤ n ∧ i = .int .i64 (k : Int) ∧ Sep w0 wr (All (Own 29 1 (.slice A n c) n (vals L) :: L.map dat) :: DevA p s :: R)) (fun i _ => n - (intOf i).toNat)
  case atStart => exact ⟨0, Nat.zero_le _, rfl, S⟩
  case round =>
    clear S
    obtain ⟨k, hk, rfl, S⟩ := hrel
    by_cases hlt : k < n
    · have hlti : (k : Int) < (n : Int) := by omega
      have hkl : k < L.length := by rw [HL.out]; exact hlt
      obtain ⟨g, rfl⟩ := S.spread.addr (by omega)
      obtain ⟨Ak, ck, ek, h1, h2, h3⟩ := Sep.dat_C (S.spread.focus k hkl)
      have hrd := HS.out k hkl
      have h2' := h2
      clear h1 h3
      go_wp2_with fail
      have P := read_s S.swap (k : Int)
      rw [hrd] at P
      simp only [h2] at P
      refine P.mono ?_
      clear P S hrd
      rintro e w1 ⟨Ar, cr, rfl, S⟩
      have S2 := (S.pull 2).spread
      have hv := S2.val k (v := L[k].1) (by rw [List.getElem?_map, List.getElem?_eq_getElem hkl]; rfl)
      rw [ek] at hv
      obtain ⟨A', c', e', h1, _, h3⟩ := Sep.dat_C (S2.focus k hkl)
      rw [ek] at e'
      cases e'
      have HM := Aside0.mk (And.intro h1 h3)
      have HE := Aside0.mk ek
      clear h2 h2' S2 h1 h3 ek
      go_wp2_with fail
      refine (same_t S _ _ _ _ _ _ L[k].2 L[k].2 rfl S.reads HM.out.2 S.cap HM.out.1 (by decide)).mono ?_
      replace S := (S.drop).swap
      rintro e w2 ⟨rfl, S'⟩
      clear S hv HM
      replace S' := S'.drop.swap
      go_wp2_with (go_at_call 19; refine (num_any _ _).mono ?_; rintro e w' ⟨rfl, rfl⟩)
      exact ⟨⟨k + 1, by omega, by go_num, S'⟩, by simp [intOf]; omega⟩
    · have hlti : ¬ ((k : Int) < (n : Int)) := by omega
      have hS := Aside0.mk S
      clear S hlt
      go_wp2
      go_ret
      exact ⟨rfl, hS.out⟩
end
end Go.Proofs.Ythnbmfkmaijibaa.Help
