/- DeviceImages: the walk. -/
import Derived.Test.YthnbmfkmaijibaaRefDev2
import Derived.Deep.CutBlock
namespace Go.Proofs.Ythnbmfkmaijibaa.Help
open Go.Proofs Go.RowKit Go.Proofs.YthnbmfkmaijibaaW.PrintWords Go.Proofs.YthnbmfkmaijibaaW.PrintLast Go.Proofs.YthnbmfkmaijibaaW.PrintMore Go.Proofs.Ythnbmfkmaijibaa.IMap Go.Proofs.Ythnbmfkmaijibaa.Dev Go.Proofs.Ythnbmfkmaijibaa.PDeviceReads Go.Proofs.Ythnbmfkmaijibaa.Sep
set_option linter.unusedVariables false
set_option linter.unusedSimpArgs false
theorem new_nil {w0 w : World} {R : List Asn} (S : Sep w0 w R) (n : Int) (h : n < 1 ∨ n > 4096) : Calls Try.prog 14 #[.int .i64 n] w fun e w' => e = .returned (.pointer none) ∧ Sep w0 w' R :=
  (new_no w n h).mono fun e w' ⟨h1, h2⟩ => ⟨h1, h2 ▸ S⟩
theorem image_no_s {w0 w : World} {R : List Asn} (S : Sep w0 w R) (A : Option Addr) (c : Nat) (d : List Int) (hr : ReadsInt w .u8 A d.length d) (h : fit d = false) : Calls Try.prog 36 #[.slice A d.length c] w fun e w' => e = .returned (.tuple #[.pointer none, .int .i64 51]) ∧ Sep w0 w' R :=
  (image_s S A c d hr).mono fun e w' q => by unfold ImageP at q; rw [h, if_neg (by simp)] at q; exact q
theorem image_go {w0 w : World} {R : List Asn} (S : Sep w0 w R) (A : Option Addr) (c : Nat) (d : List Int) (hr : ReadsInt w .u8 A d.length d) (h : fit d = true) : Calls Try.prog 36 #[.slice A d.length c] w fun e w' => ∃ q, e = .returned (.tuple #[.pointer (some ⟨q, 0, none⟩), .int .i64 0]) ∧ Sep w0 w' (DevA q (DS.made d) :: R) :=
  (image_s S A c d hr).mono fun e w' q => by unfold ImageP at q; rw [h, if_pos rfl] at q; exact q
theorem rimage_no {w0 w : World} {R : List Asn} (S : Sep w0 w R) (A : Option Addr) (c : Nat) (d : List Int) (hr : ReadsInt w .u8 A d.length d) (h : fit d = false) : Calls Try.prog 37 #[.slice A d.length c] w fun e w' => e = .returned (.tuple #[.pointer none, .int .i64 51]) ∧ Sep w0 w' R :=
  (rimage_s S A c d hr).mono fun e w' q => by unfold RImageP at q; rw [h, if_neg (by simp)] at q; exact q
theorem rimage_go {w0 w : World} {R : List Asn} (S : Sep w0 w R) (A : Option Addr) (c : Nat) (d : List Int) (hr : ReadsInt w .u8 A d.length d) (h : fit d = true) : Calls Try.prog 37 #[.slice A d.length c] w fun e w' => ∃ q, e = .returned (.tuple #[.pointer (some ⟨q, 0, none⟩), .int .i64 0]) ∧ Sep w0 w' (RefA q (DS.made d) :: R) :=
  (rimage_s S A c d hr).mono fun e w' q => by unfold RImageP at q; rw [h, if_pos rfl] at q; exact q
theorem bytes_in {w0 w : World} {A : Option Addr} {l : List Int} (h : Kd.C (Kd.int .u8) w0 A l.length l) (hb : Below w0.heap.size w0 w) : ReadsInt w .u8 A l.length l ∧ ∀ a, A = some a → 0 < l.length → a.block < w0.heap.size := by
  have h1 := Kd.reads_of_C (enc := Value.int .u8) (h1 := fun _ => rfl) (d := (0 : Int)) h
  refine ⟨⟨h1.1, h1.2.1, fun hn => ?_⟩, fun a e hn => ?_⟩
  · obtain ⟨ad, e, hr⟩ := h1.2.2 hn
    exact ⟨ad, e, fun j hj => pw_cell_below hb (hr j hj)⟩
  · obtain ⟨ad, e', hr⟩ := h1.2.2 hn
    have := World.block_lt_of_cell? _ _ (hr 0 hn)
    rw [Dev.add_block] at this
    rw [e] at e'
    cases e'
    exact this
/-- What follows where the bytes make a device. -/
theorem made_facts {d : List Int} (h : (DS.made d).Ok) : (DS.made d).off = false ∧ (DS.made d).pend = [] ∧ (DS.made d).dur = d ∧ d.length ≤ 140737488355328 := by
  refine ⟨rfl, rfl, rfl, ?_⟩
  have h1 := h.len
  have h2 := h.n1
  have e : (DS.made d).dur.length = d.length := rfl
  omega
set_option maxHeartbeats 4000000 in
set_option maxRecDepth 100000 in
theorem images_any (n : Int) (d : List Int) (A : Option Addr) (c : Nat) (w : World) (hr : Kd.C (Kd.int .u8) w A d.length d) (hc : d.length ≤ c) :
    Calls Try.prog 7 #[.int .i64 n, .slice A d.length c] w fun e w' => e = .returned (.bool true) ∧ Below w.heap.size w w' := by
  have HR := Aside0.mk hr
  clear hr
  have hd63 : d.length ≤ 9223372036854775807 := HR.out.2.1
  go_enter Try.func7, Try.ntmps7
  go_wp2_with fail
  refine (known_s (Sep.start w)).mono ?_
  rintro e w1 ⟨rfl, S⟩
  by_cases hn : n < 1 ∨ n > 4096
  · go_wp2_with fail
    refine (new_nil S n hn).mono ?_
    clear S
    rintro e w2 ⟨rfl, S⟩
    go_wp2_with fail
    refine (rnew_no n hn _).mono ?_
    rintro e w3 ⟨rfl, rfl⟩
    clear hn
    cases hf : fit d with
    | false =>
      go_wp2_with fail
      refine (image_no_s S A c d (bytes_in HR.out S.bel).1 hf).mono ?_
      clear S
      rintro e w4 ⟨rfl, S⟩
      go_wp2_with fail
      refine (rimage_no S A c d (bytes_in HR.out S.bel).1 hf).mono ?_
      clear S
      rintro e w5 ⟨rfl, S⟩
      clear hf
      have hB := S.bel
      clear S
      go_wp2_with (go_at_call 19; refine (num_any _ _).mono ?_; rintro e w' ⟨rfl, rfl⟩)
      go_ret
      exact ⟨rfl, hB⟩
    | true =>
      have hok := fit_ok hf
      have hfa := made_facts hok
      have hln := hfa.2.2.2
      go_wp2_with fail
      refine (image_go S A c d (bytes_in HR.out S.bel).1 hf).mono ?_
      clear S
      rintro e w4 ⟨p2, rfl, S⟩
      go_wp2_with fail
      refine (rimage_go S A c d (bytes_in HR.out S.bel).1 hf).mono ?_
      clear S
      rintro e w5 ⟨q2, rfl, S⟩
      replace S := S.drop
      have HK := Aside0.mk hok
      clear hf hfa hok
      have hq : Int.tdiv (d.length : Int) 512 = ((d.length / 512 : Nat) : Int) := by rw [Int.tdiv_eq_ediv_of_nonneg (by omega)]; omega
      have HQ := Aside0.mk hq
      clear hq
      go_wp2_with (go_at_call 19; refine (num_any _ _).mono ?_; rintro e w' ⟨rfl, rfl⟩)
      refine (durable_s S).mono ?_
      clear S
      rintro e x6 ⟨Ax, cx, rfl, S⟩
      have hrd := (bytes_in HR.out S.bel).1
      go_wp2_with fail
      refine (same_t S _ _ _ _ _ _ d d rfl S.reads hrd S.cap hc hln).mono ?_
      clear S hrd
      rintro e x8 ⟨rfl, S⟩
      replace S := S.drop
      go_wp2_with fail
      refine (size_s S).mono ?_
      rintro e x9 ⟨rfl, rfl⟩
      have hq2 : ((DS.made d).n : Int) = (d.length : Int) / 512 := by
        show (((d.length / 512 : Nat)) : Int) = _
        omega
      rw [hq2]
      go_wp2_with fail
      refine (power_s S).mono ?_
      clear S
      rintro e x10 ⟨rfl, S⟩
      go_wp2_with fail
      refine (pending_s S (Nat.zero_le _)).mono ?_
      clear S
      rintro e x11 ⟨Ap, cp, qs, rfl, S⟩
      have hB := S.bel
      clear S
      go_wp2
      go_ret
      exact ⟨by simp [DS.made], hB⟩
  · obtain ⟨N, rfl⟩ : ∃ N : Nat, n = (N : Int) := ⟨n.toNat, by omega⟩
    have hN0 : 1 ≤ N := by omega
    have hN1 : N ≤ 4096 := by omega
    clear hn
    have hmo := made_ok hN0 hN1 (List.length_replicate (n := 512 * N) (a := (0 : Int)))
    go_wp2_with fail
    refine (new_s S N hN0 hN1).mono ?_
    clear S
    rintro e w2 ⟨p, rfl, S⟩
    go_wp2_with fail
    refine (rnew_s S N hN0 hN1).mono ?_
    clear S
    rintro e w3 ⟨q, rfl, S⟩
    cases hf : fit d with
    | false =>
      go_wp2_with fail
      refine (image_no_s S A c d (bytes_in HR.out S.bel).1 hf).mono ?_
      clear S
      rintro e w4 ⟨rfl, S⟩
      go_wp2_with fail
      refine (rimage_no S A c d (bytes_in HR.out S.bel).1 hf).mono ?_
      clear S
      rintro e w5 ⟨rfl, S⟩
      clear hf
      have HM := Aside0.mk hmo
      clear hmo
      go_wp2_with (go_at_call 19; refine (num_any _ _).mono ?_; rintro e w' ⟨rfl, rfl⟩)
      refine (durable_s S.p1).mono ?_
      clear S
      rintro e w6 ⟨Ax, cx, rfl, S⟩
      go_wp2_with fail
      refine (rdurable_s S.p2).mono ?_
      clear S
      rintro e w7 ⟨Ay, cy, rfl, S⟩
      go_wp2_with fail
      refine (same_t S _ _ _ _ _ _ _ _ rfl S.p2.reads S.reads S.p2.cap S.cap (made_facts HM.out).2.2.2).mono ?_
      clear S
      rintro e w8 ⟨rfl, S⟩
      replace S := S.drop
      have hz : ((DS.made (List.replicate (512 * N) (0 : Int))).n : Int) = (N : Int) := by
        show (((List.replicate (512 * N) (0 : Int)).length / 512 : Nat) : Int) = _
        rw [List.length_replicate]
        omega
      go_wp2_with fail
      have P := size_s S.p2
      rw [hz] at P
      refine P.mono ?_
      clear P hz
      rintro e w9 ⟨rfl, rfl⟩
      go_wp2_with fail
      refine (power_s S.p2).mono ?_
      clear S
      rintro e w10 ⟨rfl, S⟩
      go_wp2_with fail
      refine (pending_s S (Nat.zero_le _)).mono ?_
      clear S
      rintro e w11 ⟨Ap, cp, qs, rfl, S⟩
      replace S := S.drop.drop
      have hB := S.bel
      clear S
      go_wp2
      go_ret
      exact ⟨rfl, hB⟩
    | true =>
      have hok := fit_ok hf
      have hfa := made_facts hok
      have hln := hfa.2.2.2
      go_wp2_with fail
      refine (image_go S A c d (bytes_in HR.out S.bel).1 hf).mono ?_
      clear S
      rintro e w4 ⟨p2, rfl, S⟩
      go_wp2_with fail
      refine (rimage_go S A c d (bytes_in HR.out S.bel).1 hf).mono ?_
      clear S
      rintro e w5 ⟨q2, rfl, S⟩
      replace S := S.drop
      have HK := Aside0.mk hok
      clear hf hfa hok
      have HM := Aside0.mk hmo
      clear hmo
      go_wp2_with (go_at_call 19; refine (num_any _ _).mono ?_; rintro e w' ⟨rfl, rfl⟩)
      refine (durable_s S.p2).mono ?_
      clear S
      rintro e w6 ⟨Ax, cx, rfl, S⟩
      go_wp2_with fail
      refine (rdurable_s S.p3).mono ?_
      clear S
      rintro e w7 ⟨Ay, cy, rfl, S⟩
      go_wp2_with fail
      refine (same_t S _ _ _ _ _ _ _ _ rfl S.p2.reads S.reads S.p2.cap S.cap (made_facts HM.out).2.2.2).mono ?_
      clear S
      rintro e w8 ⟨rfl, S⟩
      replace S := S.drop
      have hz : ((DS.made (List.replicate (512 * N) (0 : Int))).n : Int) = (N : Int) := by
        show (((List.replicate (512 * N) (0 : Int)).length / 512 : Nat) : Int) = _
        rw [List.length_replicate]
        omega
      go_wp2_with fail
      have P := size_s S.p2
      rw [hz] at P
      refine P.mono ?_
      clear P hz
      rintro e w9 ⟨rfl, rfl⟩
      go_wp2_with fail
      refine (power_s S.p2).mono ?_
      clear S
      rintro e w10 ⟨rfl, S⟩
      go_wp2_with fail
      refine (pending_s S (Nat.zero_le _)).mono ?_
      clear S
      rintro e w11 ⟨Ap, cp, qs, rfl, S⟩
      replace S := S.drop.drop
      have hq : Int.tdiv (d.length : Int) 512 = ((d.length / 512 : Nat) : Int) := by rw [Int.tdiv_eq_ediv_of_nonneg (by omega)]; omega
      have HQ := Aside0.mk hq
      clear hq
      go_wp2_with fail
      refine (durable_s S.p2).mono ?_
      clear S
      rintro e x6 ⟨Ax, cx, rfl, S⟩
      have hrd := (bytes_in HR.out S.bel).1
      go_wp2_with fail
      refine (same_t S _ _ _ _ _ _ d d rfl S.reads hrd S.cap hc hln).mono ?_
      clear S hrd
      rintro e x8 ⟨rfl, S⟩
      replace S := S.drop
      go_wp2_with fail
      refine (size_s S).mono ?_
      rintro e x9 ⟨rfl, rfl⟩
      have hq2 : ((DS.made d).n : Int) = (d.length : Int) / 512 := by
        show (((d.length / 512 : Nat)) : Int) = _
        omega
      rw [hq2]
      go_wp2_with fail
      refine (power_s S).mono ?_
      clear S
      rintro e x10 ⟨rfl, S⟩
      go_wp2_with fail
      refine (pending_s S (Nat.zero_le _)).mono ?_
      clear S
      rintro e x11 ⟨Ap, cp, qs, rfl, S⟩
      have hB := S.bel
      clear S
      go_wp2
      go_ret
      exact ⟨by simp [DS.made], hB⟩
end Go.Proofs.Ythnbmfkmaijibaa.Help
