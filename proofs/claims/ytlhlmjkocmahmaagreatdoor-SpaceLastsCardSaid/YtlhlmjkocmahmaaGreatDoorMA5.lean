/- Fields written behind bytes: fresh, lay, Put32, PutSum, Put64; a block of bytes. -/
import Derived.Test.YtlhlmjkocmahmaaGreatDoorMA2
import Derived.Test.YtlhlmjkocmahmaaGreatDoorMA3
import Derived.Laws.MakeOwn
import Derived.Test.YtlhlmjkocmahmaaGreatDoorMA4
import Derived.Recover
import Derived.Laws.BitsLemmas
import Derived.BigQuiet
import Derived.WalkSmall
import Derived.RegionDies
import Derived.Test.YtlhlmjkocmahmaaGreatDoorProg
namespace Go.Proofs.YtlhlmjkocmahmaaGreatDoor.Sep
open Go.Proofs Go.RowKit Go.Proofs.YtlhlmjkocmahmaaGreatDoorW.PrintWords Go.Proofs.YtlhlmjkocmahmaaGreatDoorW.PrintLast Go.Proofs.YtlhlmjkocmahmaaGreatDoorW.PrintMore Go.Proofs.YtlhlmjkocmahmaaGreatDoor.Dev
set_option linter.unusedVariables false
set_option linter.unusedSimpArgs false
/-- The lowest n bytes of x, the highest first. -/
def be : Nat → Int → List Int
  | 0, _ => []
  | n + 1, x => x / 2 ^ (8 * n) % 256 :: be n x
theorem be_len : ∀ (n : Nat) (x : Int), (be n x).length = n
  | 0, _ => rfl
  | n + 1, x => by simp [be, be_len n x]
section
variable {w0 w w' : World} {R : List Asn} {A : Option Addr} {n c : Nat} {l : List Int}
set_option maxRecDepth 100000 in
set_option maxHeartbeats 2000000 in
theorem lay_s (S : Sep w0 w (Byt A n c l :: R)) (x : Int) (hx : 0 ≤ x ∧ x < 18446744073709551616) (m : Nat) (hm : m ≤ 8) (hn : n ≤ 1000000000) :
    Calls Tryz.prog 154 #[.slice A n c, .int .u64 x, .int .i64 (m : Int)] w fun e w' => ∃ A' c', e = .returned (.slice A' (n + m) c') ∧ Sep w0 w' (Byt A' (n + m) c' (l ++ be m x) :: R) := by
  go_enter Tryz.func154, Tryz.ntmps154
  go_wp2
  go_loopw [2, 0] (fun i b wr => ∃ (j : Nat) (A1 : Option Addr) (c1 : Nat) (l1 : List Int), j ≤ m ∧ i = .int .i64 ((j : Int) - 1) ∧ b = .slice A1 (n + (m - j)) c1 ∧ Aside0 (l1 ++ be j x = l ++ be m x) ∧ Sep w0 wr (Byt A1 (n + (m - j)) c1 l1 :: R)) (fun i _ _ => (intOf i + 1).toNat)
  case atStart => exact ⟨m, A, c, l, Nat.le_refl _, rfl, by rw [Nat.sub_self]; rfl, ⟨rfl⟩, by rw [Nat.sub_self]; exact S⟩
  case round =>
    clear S
    obtain ⟨j, A1, c1, l1, hj, rfl, rfl, HL, S⟩ := hrel
    by_cases hj0 : 0 < j
    · obtain ⟨i, rfl⟩ : ∃ i, j = i + 1 := ⟨j - 1, by omega⟩
      have ei : ((i + 1 : Nat) : Int) - 1 = (i : Int) := by omega
      rw [ei]
      have hi : (i : Int) ≥ 0 := by omega
      have hi8 : (i : Int) ≤ 7 := by omega
      clear ei
      have en : n + (m - (i + 1)) + 1 = n + (m - i) := by omega
      have HE := Aside0.mk en
      obtain ⟨q, hq⟩ : ∃ q, q = n + (m - (i + 1)) := ⟨_, rfl⟩
      rw [← hq] at S HE ⊢
      have hqn : q ≤ 1000000010 := by omega
      clear en hq
      go_wp2_with ((with_reducible refine gate_builtin (b := .append) (xs := #[.tmp 13, .tmp 19]) rfl ?_); at_builtin; go_must (refine append_s S rfl (.tmp 13) (.tmp 19) 57 (.int .u8 0) 1 rfl Tryz.underlying57 Dev.info5 rfl (by decide) (by decide) [.int .u8 (x / 2 ^ (8 * i) % 256)] rfl rfl rfl ?a1 ?aL ?_); (case a1 => (intro u hu; rw [List.mem_singleton.1 hu]; rfl)); (case aL => omega); intro A2 c2 w2 S2)
      refine ⟨⟨i, A2, c2, l1 ++ [x / 2 ^ (8 * i) % 256], by omega, by go_num, by rw [HE.out], ⟨?_⟩, ?_⟩, by first | (simp [intOf]; done) | (simp [intOf]; omega)⟩
      · rw [← HL.out, List.append_assoc]
        rfl
      · rw [← HE.out]
        have e : nums .u8 (l1 ++ [x / 2 ^ (8 * i) % 256]) = nums .u8 l1 ++ [.int .u8 (x / 2 ^ (8 * i) % 256)] := by simp [nums]
        show Sep w0 w2 (Own 5 1 _ _ (nums .u8 (l1 ++ [x / 2 ^ (8 * i) % 256])) :: R)
        rw [e]
        exact S2
    · obtain rfl : j = 0 := by omega
      have hL := HL.out
      have hS := Aside0.mk S
      have HL2 := Aside0.mk hL
      have hi : ¬ ((((0 : Nat) : Int) - 1) ≥ 0) := by omega
      clear S hj0 hL HL
      go_wp2_with (fail)
      go_ret
      have h1 := hS.out
      have h2 := HL2.out
      rw [show be 0 x = [] from rfl, List.append_nil] at h2
      rw [h2] at h1
      exact ⟨A1, c1, rfl, h1⟩
end
/-! ### copy -/
section
variable {P : Program} {ops : Array Oper} {rest : List Oper} {o : Oper} {a : Act} {Q : Exit → Act → World → Prop} {w0 W : World} {R : List Asn} {g n c : Nat} {xs ys : List Int}
theorem nums_splice (xs cs : List Int) (off : Nat) : nums .u8 (splice xs off cs) = splice (nums .u8 xs) off (nums .u8 cs) := by
  simp [nums, splice, List.map_take, List.map_drop]
theorem take_splice {α : Type} (L cs : List α) (off n : Nat) (h : off + cs.length ≤ n) (hn : n ≤ L.length) : (splice L off cs).take n = splice (L.take n) off cs := by
  unfold splice
  have e1 : (L.take off).length = off := by simp; omega
  rw [List.take_append, List.take_append, e1, List.take_take, List.take_take, List.drop_take, List.take_of_length_le (show cs.length ≤ n - off by omega), Nat.min_eq_right (by omega), Nat.min_eq_left (by omega), Nat.sub_sub]
theorem copy_s (S : Sep w0 W (Byt (some ⟨g, 0, none⟩) n c xs :: R)) (hgd : o.guard = none) (d s : Operand) (dT sT : TypeId)
    (ho : o.op = .call { callee := .builtin .copy, args := #[d, s], argTypes := #[dT, sT] }) (hu : P.underlying dT = some (.slice 5)) (hsz : (P.info? 5).map (·.size) = some 1)
    (off dl dc m cs : Nat) (B : Option Addr) (hd : a.eval d = .slice (some ⟨g, off, none⟩) dl dc) (hs : a.eval s = .slice B m cs) (hr : ReadsInt W .u8 B m ys) (hfit : off + dl ≤ n)
    (h : ∀ w1, Sep w0 w1 (Byt (some ⟨g, 0, none⟩) n c (splice xs off (ys.take dl)) :: R) → wpList P ops Q rest (a.put o.dst (goInt ((ys.take dl).length : Int))) w1) : wpList P ops Q (o :: rest) a W := by
  have hm : ys.length = m := hr.1
  have hlen : (ys.take dl).length = Nat.min m dl := by rw [List.length_take, hm]; exact Nat.min_comm _ _
  by_cases h0 : (ys.take dl).length = 0
  · refine wpList_copy_nothing hgd d s dT sT ho 5 hu hsz _ _ dl dc m cs hd hs (by rw [← hlen]; exact h0) ?_
    have hk := h W
    rw [List.eq_nil_of_length_eq_zero h0] at hk
    have e : splice xs off ([] : List Int) = xs := by simp [splice]
    rw [e] at hk
    exact hk S
  · obtain ⟨ad, rfl, hc⟩ := hr.2.2 (by rw [hlen] at h0; have : Nat.min m dl ≤ m := Nat.min_le_left _ _; omega)
    have hn0 : 0 < n := by rw [hlen] at h0; have : Nat.min m dl ≤ dl := Nat.min_le_right _ _; omega
    obtain ⟨g', cur, e1, hg, hcs, hnc, hlow⟩ := S.open_ hn0
    cases e1
    obtain ⟨F, hF, _⟩ := S.hd
    have hxs := S.len
    have hcl : (nums .u8 (ys.take dl)).length = Nat.min m dl := by rw [← hlen]; simp [nums]
    have hfit2 : off + (nums .u8 (ys.take dl)).length ≤ n := by rw [hcl]; have : Nat.min m dl ≤ dl := Nat.min_le_right _ _; omega
    have hcur : cur.size = c := by omega
    have htake : cur.toList.take n = nums .u8 xs := by
      rcases hF.1.2 with ⟨e, _⟩ | ⟨g2, cap2, cur2, e, _, b2, _, _, _, b6⟩
      · cases e
      · cases e
        rw [hg] at b2
        cases b2
        rw [Nat.mul_one] at b6
        exact b6
    refine wpList_copy_own hgd d s dT sT ho 5 hu hsz g off dl dc ad m cs hd hs cur 5 hg (nums .u8 (ys.take dl)) hcl (fun j v hv => ?_) (by rw [hcur]; omega) (fun v hv => ?_) ?_
    · unfold nums at hv
      rw [List.getElem?_map] at hv
      obtain ⟨y, hy, rfl⟩ := Option.map_eq_some_iff.1 hv
      have hj := (List.getElem?_eq_some_iff.1 hy).1
      rw [List.length_take] at hj
      rw [List.getElem?_take_of_lt (by omega)] at hy
      have := hc j (by omega)
      rw [List.getD_eq_getElem?_getD, hy] at this
      exact this
    · unfold nums at hv
      obtain ⟨y, _, rfl⟩ := List.mem_map.1 hv
      rfl
    · have hlc : ((nums .u8 (ys.take dl)).length : Int) = ((ys.take dl).length : Int) := by rw [hcl, hlen]
      rw [hlc]
      refine h _ (S.grown (v' := .slice (some ⟨g, 0, none⟩) n c) ?_ ?_ (.inl rfl))
      · refine ⟨by rw [nums_splice]; unfold splice; simp; simp [nums] at hfit2 ⊢; omega, .inr ⟨g, c, _, rfl, Nat.zero_le _, setRow_heap W g _ _ 5 _ hg, hnc, ?_, ?_, ?_⟩⟩
        · rcases hF.1.2 with ⟨e, _⟩ | ⟨g2, cap2, cur2, e, _, b2, _, b4, _, _⟩
          · cases e
          · cases e
            exact b4
        · simp
          have : cur.toList.length = c := by simpa using hcur
          omega
        · rw [nums_splice, ← htake]
          simp only [Nat.mul_one, List.toList_toArray]
          exact take_splice _ _ _ _ hfit2 (by simpa using (by omega : n ≤ cur.size))
      · exact ⟨rfl, rfl, rfl, by simp [World.setRow], fun k hk hne => setRow_other W g k _ (by intro e; exact hne (by rw [e]; rfl))⟩
end
/-! ### what is made -/
section
variable {P : Program} {w0 w : World} {R : List Asn}
theorem make_run {t : TypeId} (ht : P.underlying t = some (.slice 5)) (hinfo : (P.info? 5).map (fun i => (i.zero, i.size, i.bytes)) = some (some (.int .u8 0), 1, 1)) (n k : Nat) (hn : n + k ≤ 4000000000) (W : World) :
    (Instr.makeSlice t (.int .i64 (n : Int)) (.int .i64 ((n : Int) + (k : Int)))).run P W = .ok (.slice (some ⟨W.heap.size, 0, none⟩) n (n + k)) (W.alloc (.cells (madeCells #[.int .u8 0] (n + k)) 5)) := by
  obtain ⟨i0, hi, hzz⟩ := Option.map_eq_some_iff.1 hinfo
  simp only [Prod.mk.injEq] at hzz
  obtain ⟨hz0, hz1, hz2⟩ := hzz
  have h := run_make (P := P) W t 5 i0 (.int .u8 0) ht hi hz0 .i64 .i64 (n : Int) ((n : Int) + (k : Int)) (by omega) (by omega) (by rw [hz2]; omega) (by omega)
  rw [hz1] at h
  rw [h]
  have e1 : ((n : Int) + (k : Int)).toNat = n + k := by omega
  rw [e1, Int.toNat_natCast, Nat.mul_one]
  rfl
theorem Sep.made (S : Sep w0 w R) (n k : Nat) (hn : n + k ≤ 4000000000) : Sep w0 (w.alloc (.cells (madeCells #[.int .u8 0] (n + k)) 5)) (Byt (some ⟨w.heap.size, 0, none⟩) n (n + k) (List.replicate n 0) :: R) := by
  refine S.row_new (below_alloc (Below.refl _ _) _) ?_
  have h := own_made w w.heap.size 5 .u8 (n + k) (Nat.le_refl _) (by omega)
  refine ⟨by simp [nums], ?_⟩
  rcases h.2 with ⟨e, _⟩ | ⟨g, cap, cur, e, h1, h2, h3, h4, h5, h6⟩
  · cases e
  · cases e
    refine .inr ⟨_, _, cur, rfl, h1, h2, by omega, h4, h5, ?_⟩
    have e1 : cur.toList.take (n * 1) = (cur.toList.take ((n + k) * 1)).take (n * 1) := by rw [List.take_take, Nat.min_eq_left (by omega)]
    rw [e1, h6]
    simp [nums]
end
/-- Filled up to a block. -/
def blk (l : List Int) : List Int := splice (List.replicate 512 0) 0 (l.take 512)
theorem blkN_len (N : Nat) (l : List Int) : (splice (List.replicate N 0) 0 (l.take N)).length = N := by
  rw [length_splice _ _ _ (by rw [List.length_take, List.length_replicate]; have := Nat.min_le_left N l.length; omega), List.length_replicate]
theorem blkN_full {N : Nat} {l : List Int} (h : l.length = N) : splice (List.replicate N 0) 0 (l.take N) = l := by
  unfold splice
  rw [List.take_of_length_le (show l.length ≤ N by omega)]
  simp [h]
theorem blk_len (l : List Int) : (blk l).length = 512 := blkN_len 512 l
theorem blk_full {l : List Int} (h : l.length = 512) : blk l = l := blkN_full h
section
variable {w0 w w' : World} {R : List Asn} {A : Option Addr} {n c : Nat} {l : List Int}
theorem info5s : (Tryz.prog.info? 5).map (·.size) = some 1 := by kernel_rfl
set_option maxRecDepth 100000 in
set_option maxHeartbeats 1000000 in
theorem fresh_s (S : Sep w0 w R) (hr : ReadsInt w .u8 A n l) (hn : n ≤ 1000000000) (k : Nat) (hk : k ≤ 1000000000) :
    Calls Tryz.prog 132 #[.slice A n c, .int .i64 (k : Int)] w fun e w' => ∃ g, e = .returned (.slice (some ⟨g, 0, none⟩) n (n + k)) ∧ Sep w0 w' (Byt (some ⟨g, 0, none⟩) n (n + k) l :: R) := by
  have hmk := make_run (P := Tryz.prog) Tryz.underlying57 Dev.info5 n k (by omega)
  have S1 := S.made n k (by omega)
  have hr1 := ReadsInt.allocS hr (.cells (madeCells #[.int .u8 0] (n + k)) 5)
  have HL : Aside0 (l.length = n) := ⟨hr.1⟩
  have HR := Aside0.mk hr1
  clear S hr hr1
  go_enter Tryz.func132, Tryz.ntmps132
  go_wp2_with ((with_reducible refine gate_builtin (b := .copy) (xs := #[.tmp 13, .tmp 14]) rfl ?_); go_must (refine copy_s S1 rfl (.tmp 13) (.tmp 14) 57 57 rfl Tryz.underlying57 info5s 0 n (n + k) n c A rfl rfl HR.out ?aF ?_); (case aF => omega); intro w2 S2)
  go_ret
  refine ⟨_, rfl, ?_⟩
  have e : splice (List.replicate n 0) 0 (l.take n) = l := by
    rw [List.take_of_length_le (by rw [HL.out]; exact Nat.le_refl _)]
    unfold splice
    simp [HL.out]
  rw [e] at S2
  exact S2
set_option maxRecDepth 100000 in
set_option maxHeartbeats 1000000 in
theorem blockOf_s (S : Sep w0 w R) (hr : ReadsInt w .u8 A n l) :
    Calls Tryz.prog 58 #[.slice A n c] w fun e w' => ∃ g, e = .returned (.slice (some ⟨g, 0, none⟩) 512 512) ∧ Sep w0 w' (Byt (some ⟨g, 0, none⟩) 512 512 (blk l) :: R) := by
  have hmk := make_run (P := Tryz.prog) Tryz.underlying57 Dev.info5 512 0 (by omega)
  have hmk2 : ∀ W : World, (Instr.makeSlice 57 (.int .i64 512) (.int .i64 512)).run Tryz.prog W = .ok (.slice (some ⟨W.heap.size, 0, none⟩) 512 512) (W.alloc (.cells (madeCells #[.int .u8 0] 512) 5)) := fun W => by simpa using hmk W
  have S1 := S.made 512 0 (by omega)
  have hr1 := ReadsInt.allocS hr (.cells (madeCells #[.int .u8 0] 512) 5)
  have HR := Aside0.mk hr1
  clear S hr hr1 hmk
  go_enter Tryz.func58, Tryz.ntmps58
  go_wp2_with ((with_reducible refine gate_builtin (b := .copy) (xs := #[.tmp 5, .tmp 6]) rfl ?_); go_must (refine copy_s S1 rfl (.tmp 5) (.tmp 6) 57 57 rfl Tryz.underlying57 info5s 0 512 512 n c A rfl rfl HR.out (by decide) ?_); intro w2 S2)
  go_ret
  exact ⟨_, rfl, S2⟩
set_option maxRecDepth 100000 in
set_option maxHeartbeats 1000000 in
theorem put32_s (S : Sep w0 w R) (hr : ReadsInt w .u8 A n l) (hn : n ≤ 900000000) (x : Int) :
    Calls Tryz.prog 122 #[.slice A n c, .int .i64 x] w fun e w' => ∃ A' c', e = .returned (.slice A' (n + 4) c') ∧ Sep w0 w' (Byt A' (n + 4) c' (l ++ be 4 (IntKind.u64.wrap x)) :: R) := by
  have P := fresh_s (c := c) S hr (by omega) 4 (by decide)
  have hu : 0 ≤ IntKind.u64.wrap x ∧ IntKind.u64.wrap x < 18446744073709551616 := by rw [IntKind.wrap_u64]; omega
  clear S hr
  go_enter Tryz.func122, Tryz.ntmps122
  go_wp2_with fail
  refine P.mono ?_
  clear P
  rintro e w2 ⟨g, rfl, S⟩
  go_wp2_with fail
  refine (lay_s S (IntKind.u64.wrap x) hu 4 (by decide) (by omega)).mono ?_
  clear S
  rintro e w3 ⟨A', c', rfl, S⟩
  go_wp2_with fail
  go_ret
  exact ⟨A', c', rfl, S⟩
set_option maxRecDepth 100000 in
set_option maxHeartbeats 1000000 in
theorem putSum_s (S : Sep w0 w R) (hr : ReadsInt w .u8 A n l) (hn : n ≤ 900000000) (x : Int) (hu : 0 ≤ x ∧ x < 18446744073709551616) :
    Calls Tryz.prog 139 #[.slice A n c, .int .u64 x] w fun e w' => ∃ A' c', e = .returned (.slice A' (n + 8) c') ∧ Sep w0 w' (Byt A' (n + 8) c' (l ++ be 8 x) :: R) := by
  have P := fresh_s (c := c) S hr (by omega) 8 (by decide)
  clear S hr
  go_enter Tryz.func139, Tryz.ntmps139
  go_wp2_with fail
  refine P.mono ?_
  clear P
  rintro e w2 ⟨g, rfl, S⟩
  go_wp2_with fail
  refine (lay_s S x hu 8 (by decide) (by omega)).mono ?_
  clear S
  rintro e w3 ⟨A', c', rfl, S⟩
  go_wp2_with fail
  go_ret
  exact ⟨A', c', rfl, S⟩
set_option maxRecDepth 100000 in
set_option maxHeartbeats 1000000 in
theorem put64_s (S : Sep w0 w R) (hr : ReadsInt w .u8 A n l) (hn : n ≤ 900000000) (x : Int) :
    Calls Tryz.prog 121 #[.slice A n c, .int .i64 x] w fun e w' => ∃ A' c', e = .returned (.slice A' (n + 8) c') ∧ Sep w0 w' (Byt A' (n + 8) c' (l ++ be 8 (IntKind.u64.wrap x)) :: R) := by
  have hu : 0 ≤ IntKind.u64.wrap x ∧ IntKind.u64.wrap x < 18446744073709551616 := by rw [IntKind.wrap_u64]; omega
  have P := putSum_s (c := c) S hr hn (IntKind.u64.wrap x) hu
  clear S hr
  go_enter Tryz.func121, Tryz.ntmps121
  go_wp2_with fail
  refine P.mono ?_
  clear P
  rintro e w2 ⟨A', c', rfl, S⟩
  go_wp2_with fail
  go_ret
  exact ⟨A', c', rfl, S⟩
end
end Go.Proofs.YtlhlmjkocmahmaaGreatDoor.Sep
/- Fields read: number, the reader's parts. -/
namespace Go.Proofs.YtlhlmjkocmahmaaGreatDoor.Sep
open Go.Proofs Go.RowKit Go.Proofs.YtlhlmjkocmahmaaGreatDoorW.PrintWords Go.Proofs.YtlhlmjkocmahmaaGreatDoorW.PrintLast Go.Proofs.YtlhlmjkocmahmaaGreatDoorW.PrintMore Go.Proofs.YtlhlmjkocmahmaaGreatDoor.Dev
set_option linter.unusedVariables false
set_option linter.unusedSimpArgs false
/-- The number that bytes are, the highest first. -/
def numb (l : List Int) : Int := l.foldl (fun x c => x * 256 + c) 0
theorem numb_snoc (l : List Int) (c : Int) : numb (l ++ [c]) = numb l * 256 + c := by simp [numb]
theorem numb_go : ∀ (l : List Int) (a : Int), 0 ≤ a → (∀ y ∈ l, 0 ≤ y ∧ y < 256) → 0 ≤ l.foldl (fun x c => x * 256 + c) a ∧ l.foldl (fun x c => x * 256 + c) a < (a + 1) * 256 ^ l.length
  | [], a, ha, _ => by simp; omega
  | y :: l, a, ha, h => by
    have h1 := h y (by simp)
    have h2 := numb_go l (a * 256 + y) (by omega) fun z hz => h z (by simp [hz])
    rw [List.foldl_cons, List.length_cons, Int.pow_succ]
    refine ⟨h2.1, Int.lt_of_lt_of_le h2.2 ?_⟩
    have h3 : (a * 256 + y + 1) ≤ (a + 1) * 256 := by omega
    have h4 : (0 : Int) ≤ 256 ^ l.length := Int.le_of_lt (Int.pow_pos (by decide))
    calc (a * 256 + y + 1) * 256 ^ l.length ≤ (a + 1) * 256 * 256 ^ l.length := Int.mul_le_mul_of_nonneg_right h3 h4
      _ = (a + 1) * (256 ^ l.length * 256) := by rw [Int.mul_assoc, Int.mul_comm (256 : Int)]
theorem numb_lt (l : List Int) (h : ∀ y ∈ l, 0 ≤ y ∧ y < 256) : 0 ≤ numb l ∧ numb l < 256 ^ l.length := by
  have := numb_go l 0 (by decide) h
  rw [Int.zero_add, Int.one_mul] at this
  exact this
theorem or_byte (x c : Int) (hx : 0 ≤ x) (hx1 : x < 72057594037927936) (hc : 0 ≤ c ∧ c < 256) : bits .or .u64 (x * 256) c = x * 256 + c :=
  bits_join .u64 64 (by decide) (fun n h0 h1 => by simp [IntKind.wrap, IntKind.bits, IntKind.signed]; omega) 8 (x * 256) c (by omega) (by omega) (by omega) hc.1 (by omega) (by omega)
section
variable {w0 w w' : World} {R : List Asn} {B : Option Addr} {m c : Nat} {ys : List Int}
set_option maxRecDepth 100000 in
set_option maxHeartbeats 2000000 in
theorem number_s (h : ReadsInt w .u8 B m ys) (hm : m ≤ 8) (hb : ∀ y ∈ ys, 0 ≤ y ∧ y < 256) (c : Nat) :
    Calls Tryz.prog 135 #[.slice B m c] w fun e w' => e = .returned (.int .u64 (numb ys)) ∧ w' = w := by
  have hl := h.1
  go_enter Tryz.func135, Tryz.ntmps135
  go_wp2
  go_loopw [3, 8] (fun x i wr => ∃ (j : Nat), j ≤ m ∧ i = .int .i64 (j : Int) ∧ x = .int .u64 (numb (ys.take j)) ∧ wr = w) (fun _ i _ => ((m : Int) - intOf i).toNat)
  case atStart => exact ⟨0, Nat.zero_le _, rfl, rfl, rfl⟩
  case round =>
    obtain ⟨j, hj, rfl, rfl, rfl⟩ := hrel
    by_cases hjm : j < m
    · have hi : (j : Int) < (m : Int) := by omega
      obtain ⟨ad, rfl, hc⟩ := h.2.2 (by omega)
      have hcj := hc j hjm
      obtain ⟨y, hy⟩ : ∃ y, y = ys.getD j 0 := ⟨_, rfl⟩
      have hye : ys.take (j + 1) = ys.take j ++ [y] := by
        rw [List.take_add_one, hy, List.getD_eq_getElem?_getD, List.getElem?_eq_getElem (show j < ys.length by omega)]
        rfl
      have hyb : 0 ≤ y ∧ y < 256 := hb y (by rw [hy, List.getD_eq_getElem?_getD, List.getElem?_eq_getElem (show j < ys.length by omega)]; exact List.getElem_mem _)
      have hn := numb_lt (ys.take j) fun z hz => hb z (List.mem_of_mem_take hz)
      have hlt : numb (ys.take j) < 72057594037927936 := by
        refine Int.lt_of_lt_of_le hn.2 ?_
        have : (ys.take j).length ≤ 7 := by rw [List.length_take]; omega
        have h7 : (256 : Nat) ^ (ys.take j).length ≤ 256 ^ 7 := Nat.pow_le_pow_right (by decide) this
        have e7 : (256 : Nat) ^ 7 = 72057594037927936 := rfl
        have ec : ((256 : Int) ^ (ys.take j).length) = ((256 ^ (ys.take j).length : Nat) : Int) := by rw [Int.natCast_pow]; rfl
        rw [ec]
        omega
      have ho := or_byte (numb (ys.take j)) y hn.1 hlt hyb
      have hs := numb_snoc (ys.take j) y
      rw [← hye] at hs
      rw [← hy] at hcj
      obtain ⟨X, hX⟩ : ∃ X, X = numb (ys.take j) := ⟨_, rfl⟩
      rw [← hX] at ho hs hn hlt ⊢
      have hx0 := hn.1
      have HS := Aside0.mk hs
      have HH := Aside0.mk h
      have HB := Aside0.mk hb
      clear hs h hb hn hye hX hy hc
      go_wp2
      exact ⟨⟨j + 1, by omega, rfl, by rw [HS.out], trivial⟩, by simp [intOf]; omega⟩
    · obtain rfl : j = m := by omega
      have hi : ¬ ((j : Int) < (j : Int)) := by omega
      have e : ys.take j = ys := by rw [← hl]; exact List.take_length
      rw [e]
      have HH := Aside0.mk h
      have HB := Aside0.mk hb
      clear h hb hjm e
      go_wp2
      go_ret
      exact ⟨rfl, rfl⟩
end
/-! ### the reader -/
/-- A reader over n bytes at g: the place, the place behind what the call under way has taken, the error. -/
abbrev Rd (p g n c : Nat) (a b : Nat) (er : Int) : Asn := Blk p #[.slice (some ⟨g, 0, none⟩) n c, .int .i64 (a : Int), .int .i64 (b : Int), .int .i64 er] 214
def troubleV (e : Int) : Value := .iface 247 (.agg #[.int .i64 e])
section
variable {w0 w w' : World} {R : List Asn} {A : Option Addr} {p g n c a b : Nat} {er : Int} {l : List Int}
theorem newReader_s (S : Sep w0 w R) (hr : ReadsInt w .u8 A n l) (hn : n ≤ 1000000000) (c : Nat) :
    Calls Tryz.prog 104 #[.slice A n c] w fun e w' => ∃ p g, e = .returned (.pointer (some ⟨p, 0, none⟩)) ∧ Sep w0 w' (Rd p g n n 0 0 0 :: Byt (some ⟨g, 0, none⟩) n n l :: R) := by
  have P := fresh_s (c := c) S hr hn 0 (by decide)
  clear S hr
  go_enter Tryz.func104, Tryz.ntmps104
  go_wp2_with (go_at_call 132; refine P.mono ?_; clear P; rintro e wa ⟨g, rfl, S⟩)
  go_ret
  exact ⟨_, g, rfl, S.alloc _ _⟩
theorem give_ok (e : Int) (w : World) : Calls Tryz.prog 137 #[.bool true, .int .i64 e] w fun ev w' => ev = .returned (.tuple #[]) ∧ w' = w := by
  go_enter Tryz.func137, Tryz.ntmps137
  go_wp2
  go_end0
  exact ⟨rfl, rfl⟩
theorem give_no (e : Int) (w : World) : Calls Tryz.prog 137 #[.bool false, .int .i64 e] w fun ev w' => ev = .panicked [{ v := troubleV e, recovered := false }] ∧ w' = w := by
  go_enter Tryz.func137, Tryz.ntmps137
  go_wp2
  exact ⟨rfl, rfl, rfl⟩
theorem begin_s (S : Sep w0 w (Rd p g n c a b er :: R)) :
    Calls Tryz.prog 134 #[.pointer (some ⟨p, 0, none⟩)] w fun ev w' => ev = .returned (.bool (decide (er = 0))) ∧ Sep w0 w' (Rd p g n c a a er :: R) := by
  have h1 := S.cell 1 (v := .int .i64 (a : Int)) rfl
  have h3 := S.cell 3 (v := .int .i64 er) rfl
  have h2 := S.cell 2 (v := .int .i64 (b : Int)) rfl
  have f2 := S.free 2
  have S2 := S.set 2 (.int .i64 (a : Int))
  have h4 := S2.cell 3 (v := .int .i64 er) rfl
  have HS := Aside0.mk S2
  clear S S2
  go_enter Tryz.func134, Tryz.ntmps134
  go_wp2
  go_ret
  have e : (er == 0) = decide (er = 0) := by by_cases h : er = 0 <;> simp [h]
  exact ⟨by rw [← e]; rfl, HS.out⟩
set_option maxRecDepth 100000 in
set_option maxHeartbeats 2000000 in
theorem take_ok (S : Sep w0 w (Rd p g n c a b er :: Byt (some ⟨g, 0, none⟩) n c l :: R)) (m : Nat) (hm0 : 0 < m) (hm : b + m ≤ n) (hn : n ≤ 1000000000) :
    Calls Tryz.prog 136 #[.pointer (some ⟨p, 0, none⟩), .int .i64 (m : Int)] w fun ev w' => ev = .returned (.slice (some ⟨g, b, none⟩) m (c - b)) ∧ Sep w0 w' (Rd p g n c a (b + m) er :: Byt (some ⟨g, 0, none⟩) n c l :: R) := by
  have hnc := S.swap.cap
  have h0 := S.cell 0 (v := .slice (some ⟨g, 0, none⟩) n c) rfl
  have h2 := S.cell 2 (v := .int .i64 (b : Int)) rfl
  have f2 := S.free 2
  have hcb : ¬ c = b := by omega
  have hle : (m : Int) ≤ (n : Int) - (b : Int) := by omega
  have HS := Aside0.mk S
  clear S
  go_enter Tryz.func136, Tryz.ntmps136
  go_wp2_with (fail)
  have hw1 : IntKind.i64.wrap ((n : Int) - (b : Int)) = (n : Int) - (b : Int) := by rw [IntKind.wrap_i64]; omega
  have hd1 : decide ((m : Int) ≤ (n : Int) - (b : Int)) = true := decide_eq_true hle
  go_region_held3 (fun W => W.cell? ⟨p, 0, none⟩ = some (.slice (some ⟨g, 0, none⟩) n c) ∧ W.cell? ⟨p, 2, none⟩ = some (.int .i64 (b : Int))) (refine ⟨?_, ?_⟩ <;> (repeat (first | (with_reducible assumption) | (with_reducible refine kd ?_))))
    (first | (go_at_call 137; refine (give_ok 11 _).mono ?_; rintro _ _ ⟨rfl, rfl⟩))
  go_wp2_with (fail)
  go_quiet (fail)
  go_wp2_with (fail)
  go_ret
  refine ⟨?_, ((HS.out).drewN _).set 2 (.int .i64 ((b : Int) + (m : Int)))⟩
  show Ending.returned (.slice (some ⟨g, b, none⟩) (b + m - b) (c - b)) = _
  rw [Nat.add_sub_cancel_left]
set_option maxRecDepth 100000 in
set_option maxHeartbeats 2000000 in
theorem take_no (S : Sep w0 w (Rd p g n c a b er :: Byt (some ⟨g, 0, none⟩) n c l :: R)) (m : Nat) (hm : ¬ b + m ≤ n) (hb : b ≤ n) (hn : n ≤ 1000000000) :
    Calls Tryz.prog 136 #[.pointer (some ⟨p, 0, none⟩), .int .i64 (m : Int)] w fun ev w' => ev = .panicked [{ v := troubleV 11, recovered := false }] ∧ Sep w0 w' (Rd p g n c a b er :: Byt (some ⟨g, 0, none⟩) n c l :: R) := by
  have h0 := S.cell 0 (v := .slice (some ⟨g, 0, none⟩) n c) rfl
  have h2 := S.cell 2 (v := .int .i64 (b : Int)) rfl
  have hle : ¬ (m : Int) ≤ (n : Int) - (b : Int) := by omega
  have HS := Aside0.mk S
  clear S
  have hw1 : IntKind.i64.wrap ((n : Int) - (b : Int)) = (n : Int) - (b : Int) := by rw [IntKind.wrap_i64]; omega
  have hd1 : decide ((m : Int) ≤ (n : Int) - (b : Int)) = false := decide_eq_false hle
  go_enter Tryz.func136, Tryz.ntmps136
  go_wp2_with (fail)
  go_region_dies
  all_goals (refine (give_no 11 _).mono ?_; rintro _ _ ⟨rfl, rfl⟩; exact ⟨rfl, rfl, HS.out.drew⟩)
end
end Go.Proofs.YtlhlmjkocmahmaaGreatDoor.Sep
/- A map as a rising list of keys with what stands there: the plain law. -/
namespace Go.Proofs.YtlhlmjkocmahmaaGreatDoor.SM
set_option linter.unusedVariables false
set_option linter.unusedSimpArgs false
section
variable {α β : Type}
def lkp : List (Int × α) → Int → Option α
  | [], _ => none
  | (a, x) :: r, k => if k = a then some x else lkp r k
def ins : List (Int × α) → Int → α → List (Int × α)
  | [], k, x => [(k, x)]
  | (a, y) :: r, k, x => if k < a then (k, x) :: (a, y) :: r else if k = a then (k, x) :: r else (a, y) :: ins r k x
def del (l : List (Int × α)) (k : Int) : List (Int × α) := l.filter fun p => !decide (p.1 = k)
/-- The keys rise. -/
def Up (l : List (Int × α)) : Prop := l.Pairwise fun p q => p.1 < q.1
def keys (l : List (Int × α)) : List Int := l.map (·.1)
def on (f : α → β) (l : List (Int × α)) : List (Int × β) := l.map fun p => (p.1, f p.2)
/-- Laid over: what stands in the second, else what stands in the first. -/
def over (l m : List (Int × α)) : List (Int × α) := m.foldl (fun z p => ins z p.1 p.2) l
theorem look_ins (l : List (Int × α)) (k : Int) (x : α) (k' : Int) : lkp (ins l k x) k' = if k' = k then some x else lkp l k' := by
  induction l with
  | nil => simp [ins, lkp]
  | cons p r ih =>
    obtain ⟨a, y⟩ := p
    unfold ins
    split
    · rfl
    · split
      · rename_i h
        subst h
        simp only [lkp]
        split <;> rfl
      · rename_i h1 h2
        simp only [lkp, ih]
        by_cases e : k' = a
        · rw [if_pos e, if_pos e, if_neg (by omega)]
        · rw [if_neg e, if_neg e]
theorem look_del (l : List (Int × α)) (k k' : Int) : lkp (del l k) k' = if k' = k then none else lkp l k' := by
  induction l with
  | nil => simp [del, lkp]
  | cons p r ih =>
    obtain ⟨a, y⟩ := p
    unfold del at ih ⊢
    by_cases h : a = k
    · rw [List.filter_cons_of_neg (by simp [h]), ih]
      subst h
      simp only [lkp]
      split <;> rfl
    · rw [List.filter_cons_of_pos (by simp [h])]
      simp only [lkp, ih]
      by_cases e : k' = a
      · rw [if_pos e, if_pos e, if_neg (by omega)]
      · rw [if_neg e, if_neg e]
theorem look_none_of {l : List (Int × α)} {k : Int} (h : ∀ p ∈ l, p.1 ≠ k) : lkp l k = none := by
  induction l with
  | nil => rfl
  | cons p r ih =>
    obtain ⟨a, y⟩ := p
    simp only [lkp]
    rw [if_neg fun e => h (a, y) (by simp) e.symm]
    exact ih fun q hq => h q (by simp [hq])
theorem look_mem {l : List (Int × α)} {k : Int} {x : α} (h : lkp l k = some x) : (k, x) ∈ l := by
  induction l with
  | nil => cases h
  | cons p r ih =>
    obtain ⟨a, y⟩ := p
    simp only [lkp] at h
    split at h
    · rename_i e
      cases h
      rw [e]
      simp
    · exact List.mem_cons_of_mem _ (ih h)
theorem look_of_mem {l : List (Int × α)} (u : Up l) {k : Int} {x : α} (h : (k, x) ∈ l) : lkp l k = some x := by
  induction l with
  | nil => cases h
  | cons p r ih =>
    obtain ⟨a, y⟩ := p
    have u2 := List.pairwise_cons.1 u
    simp only [lkp]
    rcases List.mem_cons.1 h with e | h
    · cases e
      rw [if_pos rfl]
    · rw [if_neg (by have := u2.1 _ h; simp at this; omega)]
      exact ih u2.2 h
theorem mem_ins {l : List (Int × α)} {k : Int} {x : α} {p : Int × α} (h : p ∈ ins l k x) : p = (k, x) ∨ p ∈ l := by
  induction l with
  | nil => exact .inl (List.mem_singleton.1 h)
  | cons q r ih =>
    obtain ⟨a, y⟩ := q
    unfold ins at h
    split at h
    · rcases List.mem_cons.1 h with h | h
      · exact .inl h
      · exact .inr h
    · split at h
      · rcases List.mem_cons.1 h with h | h
        · exact .inl h
        · exact .inr (List.mem_cons_of_mem _ h)
      · rcases List.mem_cons.1 h with h | h
        · exact .inr (h ▸ List.mem_cons_self ..)
        · exact (ih h).imp id (List.mem_cons_of_mem _)
theorem Up.ins {l : List (Int × α)} (u : Up l) (k : Int) (x : α) : Up (SM.ins l k x) := by
  induction l with
  | nil => simp [SM.ins, Up]
  | cons q r ih =>
    obtain ⟨a, y⟩ := q
    have u2 := List.pairwise_cons.1 u
    unfold SM.ins
    split
    · rename_i h
      refine List.pairwise_cons.2 ⟨fun p hp => ?_, u⟩
      rcases List.mem_cons.1 hp with e | hp
      · rw [e]; exact h
      · have := u2.1 p hp
        simp at this
        show k < p.1
        omega
    · split
      · rename_i h
        subst h
        exact List.pairwise_cons.2 ⟨u2.1, u2.2⟩
      · refine List.pairwise_cons.2 ⟨fun p hp => ?_, ih u2.2⟩
        rcases mem_ins hp with e | hp
        · rw [e]; show a < k; omega
        · exact u2.1 p hp
theorem Up.del {l : List (Int × α)} (u : Up l) (k : Int) : Up (SM.del l k) := u.sublist List.filter_sublist
theorem Up.on {l : List (Int × α)} (u : Up l) (f : α → β) : Up (SM.on f l) := by
  unfold Up SM.on
  rw [List.pairwise_map]
  exact u
theorem Up.tail {l : List (Int × α)} {p : Int × α} (u : Up (p :: l)) : Up l := (List.pairwise_cons.1 u).2
theorem len_ins {l : List (Int × α)} (u : Up l) (k : Int) (x : α) : (ins l k x).length = if (lkp l k).isSome then l.length else l.length + 1 := by
  induction l with
  | nil => simp [ins, lkp]
  | cons q r ih =>
    obtain ⟨a, y⟩ := q
    have u2 := List.pairwise_cons.1 u
    unfold ins
    split
    · rename_i h
      have e : lkp ((a, y) :: r) k = none := look_none_of fun p hp => by
        rcases List.mem_cons.1 hp with e | hp
        · rw [e]; show a ≠ k; omega
        · have := u2.1 p hp
          simp at this
          omega
      rw [e]
      simp
    · split
      · rename_i h
        simp [lkp, h]
      · rename_i h1 h2
        simp only [lkp, if_neg h2, List.length_cons, ih u2.2]
        split <;> omega
theorem len_del_none {l : List (Int × α)} {k : Int} (h : lkp l k = none) : del l k = l := by
  unfold del
  rw [List.filter_eq_self]
  intro p hp
  have : p.1 ≠ k := by
    intro e
    induction l with
    | nil => cases hp
    | cons q r ih =>
      obtain ⟨a, y⟩ := q
      simp only [lkp] at h
      split at h
      · cases h
      · rename_i hne
        rcases List.mem_cons.1 hp with e2 | hp
        · rw [e2] at e
          exact hne e.symm
        · exact ih h hp
  simp [this]
theorem len_del_some {l : List (Int × α)} (u : Up l) {k : Int} {x : α} (h : lkp l k = some x) : (del l k).length + 1 = l.length := by
  induction l with
  | nil => cases h
  | cons q r ih =>
    obtain ⟨a, y⟩ := q
    have u2 := List.pairwise_cons.1 u
    simp only [lkp] at h
    split at h
    · rename_i e
      subst e
      have : del ((k, y) :: r) k = r := by
        unfold del
        rw [List.filter_cons_of_neg (by simp), List.filter_eq_self]
        intro p hp
        have := u2.1 p hp
        simp at this
        simp
        omega
      rw [this]
      rfl
    · rename_i e
      have e1 : del ((a, y) :: r) k = (a, y) :: del r k := List.filter_cons_of_pos (by simp; omega)
      rw [e1, List.length_cons, List.length_cons, ih u2.2 h]
theorem ext {l m : List (Int × α)} (u : Up l) (v : Up m) (h : ∀ k, lkp l k = lkp m k) : l = m := by
  induction l generalizing m with
  | nil =>
    cases m with
    | nil => rfl
    | cons q r =>
      have := h q.1
      simp [lkp] at this
  | cons p r ih =>
    obtain ⟨a, x⟩ := p
    cases m with
    | nil =>
      have := h a
      simp [lkp] at this
    | cons q s =>
      obtain ⟨b, y⟩ := q
      have u2 := List.pairwise_cons.1 u
      have v2 := List.pairwise_cons.1 v
      have hab : a = b := by
        rcases Int.lt_trichotomy a b with hlt | he | hlt
        · exfalso
          have h1 := h a
          rw [lkp, if_pos rfl] at h1
          have h2 := look_mem h1.symm
          rcases List.mem_cons.1 h2 with e | h2
          · cases e; omega
          · have := v2.1 _ h2
            simp at this
            omega
        · exact he
        · exfalso
          have h1 := h b
          rw [show lkp ((b, y) :: s) b = some y from by rw [lkp, if_pos rfl]] at h1
          have h2 := look_mem h1
          rcases List.mem_cons.1 h2 with e | h2
          · cases e; omega
          · have := u2.1 _ h2
            simp at this
            omega
      subst hab
      have hxy : x = y := by
        have h1 := h a
        simp only [lkp, if_true] at h1
        exact Option.some.inj h1
      subst hxy
      rw [ih u2.2 v2.2 fun k => ?_]
      have h1 := h k
      simp only [lkp] at h1
      split at h1
      · rename_i e
        subst e
        rw [look_none_of fun p hp => by have := u2.1 p hp; simp at this; omega, look_none_of fun p hp => by have := v2.1 p hp; simp at this; omega]
      · exact h1
theorem look_on (f : α → β) (l : List (Int × α)) (k : Int) : lkp (on f l) k = (lkp l k).map f := by
  induction l with
  | nil => rfl
  | cons p r ih =>
    obtain ⟨a, x⟩ := p
    show lkp ((a, f x) :: on f r) k = _
    simp only [lkp, ih]
    split <;> rfl
theorem ins_on (f : α → β) (l : List (Int × α)) (k : Int) (x : α) : on f (ins l k x) = ins (on f l) k (f x) := by
  induction l with
  | nil => rfl
  | cons p r ih =>
    obtain ⟨a, y⟩ := p
    show on f (ins ((a, y) :: r) k x) = ins ((a, f y) :: on f r) k (f x)
    unfold ins
    split
    · rfl
    · split
      · rfl
      · show (a, f y) :: on f (ins r k x) = _
        rw [ih]
theorem del_on (f : α → β) (l : List (Int × α)) (k : Int) : on f (del l k) = del (on f l) k := by
  unfold on del
  rw [List.filter_map]
  rfl
theorem len_on (f : α → β) (l : List (Int × α)) : (on f l).length = l.length := by simp [on]
theorem keys_on (f : α → β) (l : List (Int × α)) : keys (on f l) = keys l := by simp [on, keys, Function.comp_def]
theorem Up.over {l : List (Int × α)} (u : Up l) : ∀ m : List (Int × α), Up (SM.over l m)
  | [] => u
  | p :: m => Up.over (u.ins p.1 p.2) m
theorem look_over : ∀ (m l : List (Int × α)) (v : Up m) (k : Int), lkp (over l m) k = (lkp m k).or (lkp l k)
  | [], l, _, k => by simp [over, lkp]
  | (a, x) :: m, l, v, k => by
    have v2 := List.pairwise_cons.1 v
    show lkp (over (ins l a x) m) k = _
    rw [look_over m _ v2.2 k, look_ins]
    simp only [lkp]
    by_cases e : k = a
    · subst e
      rw [if_pos rfl, if_pos rfl, look_none_of fun p hp => by have := v2.1 p hp; simp at this; omega]
      rfl
    · rw [if_neg e, if_neg e]
theorem over_on (f : α → β) : ∀ (m l : List (Int × α)), on f (over l m) = over (on f l) (on f m)
  | [], _ => rfl
  | p :: m, l => by
    show on f (over (ins l p.1 p.2) m) = over (ins (on f l) p.1 (f p.2)) (on f m)
    rw [over_on f m, ins_on]
theorem keys_up {l : List (Int × α)} (u : Up l) : (keys l).Pairwise (· < ·) := by
  unfold keys
  rw [List.pairwise_map]
  exact u
theorem mem_keys {l : List (Int × α)} {k : Int} : k ∈ keys l ↔ (lkp l k).isSome = true := by
  induction l with
  | nil => simp [keys, lkp]
  | cons p r ih =>
    obtain ⟨a, x⟩ := p
    show k ∈ a :: keys r ↔ _
    simp only [lkp, List.mem_cons, ih]
    by_cases e : k = a <;> simp [e]
theorem keys_len (l : List (Int × α)) : (keys l).length = l.length := by simp [keys]
theorem look_some_of_keys {l : List (Int × α)} {k : Int} (h : k ∈ keys l) : ∃ x, lkp l k = some x := Option.isSome_iff_exists.1 (mem_keys.1 h)
theorem look_at {l : List (Int × α)} (u : Up l) {i : Nat} {p : Int × α} (h : l[i]? = some p) : lkp l p.1 = some p.2 := look_of_mem u (List.mem_of_getElem? h)
end
/-! ### what is sorted is the keys -/
theorem sorted_keys {l m : List Int} (hl : l.Pairwise (· < ·)) (hn : m.Nodup) (h : ∀ k, k ∈ m ↔ k ∈ l) : m.mergeSort (fun x y => decide (x ≤ y)) = l := by
  have hs : (m.mergeSort (fun x y => decide (x ≤ y))).Pairwise (fun x y => decide (x ≤ y) = true) := List.pairwise_mergeSort (fun a b c => by simp; omega) (fun a b => by simp; omega) m
  have hp := List.mergeSort_perm m (fun x y => decide (x ≤ y))
  have hn2 : (m.mergeSort (fun x y => decide (x ≤ y))).Nodup := hp.nodup_iff.2 hn
  have hm : ∀ k, k ∈ m.mergeSort (fun x y => decide (x ≤ y)) ↔ k ∈ l := fun k => (hp.mem_iff).trans (h k)
  generalize m.mergeSort (fun x y => decide (x ≤ y)) = s at hs hn2 hm
  clear hp h hn
  induction l generalizing s with
  | nil => 
    cases s with
    | nil => rfl
    | cons a r => exact absurd ((hm a).1 (by simp)) (by simp)
  | cons a l ih =>
    cases s with
    | nil => exact absurd ((hm a).2 (by simp)) (by simp)
    | cons b s =>
      have h1 := List.pairwise_cons.1 hl
      have h2 := List.pairwise_cons.1 hs
      have h3 := List.nodup_cons.1 hn2
      have hab : b = a := by
        rcases List.mem_cons.1 ((hm b).1 (by simp)) with e | hb
        · exact e
        · rcases List.mem_cons.1 ((hm a).2 (by simp)) with e | ha
          · exact e.symm
          · have x1 := h1.1 b hb
            have x2 := h2.1 a ha
            simp at x2
            omega
      subst hab
      rw [ih h1.2 s h2.2 h3.2 fun k => ?_]
      constructor
      · intro hk
        rcases List.mem_cons.1 ((hm k).1 (List.mem_cons_of_mem _ hk)) with e | e
        · subst e
          exact absurd hk h3.1
        · exact e
      · intro hk
        rcases List.mem_cons.1 ((hm k).2 (List.mem_cons_of_mem _ hk)) with e | e
        · subst e
          exact absurd (h1.1 _ hk) (by omega)
        · exact e
end Go.Proofs.YtlhlmjkocmahmaaGreatDoor.SM
/- The journal's blocks, without a world: heads, descriptors, commits, escaped blocks; what is read of them. -/
namespace Go.Proofs.YtlhlmjkocmahmaaGreatDoor.Jr
open Go.Proofs Go.RowKit Go.Proofs.YtlhlmjkocmahmaaGreatDoorW.PrintWords Go.Proofs.YtlhlmjkocmahmaaGreatDoor.Dev Go.Proofs.YtlhlmjkocmahmaaGreatDoor.Sep
set_option linter.unusedVariables false
set_option linter.unusedSimpArgs false
def magicH : List Int := [65, 78, 88, 72]
def magicD : List Int := [65, 78, 88, 68]
def magicC : List Int := [65, 78, 88, 67]
def sumStep (h x : Int) : Int := IntKind.u64.wrap (bits .xor .u64 h x * 1099511628211)
def sumOf (l : List Int) : Int := l.foldl sumStep 14695981039346656037
def Byte (l : List Int) : Prop := ∀ y ∈ l, 0 ≤ y ∧ y < 256
abbrev u64 (x : Int) : Int := IntKind.u64.wrap x
/-- A reader: its place, its error. -/
structure RS where
  at_ : Nat
  er : Int
/-- A reading call: n bytes, a number of which ok holds. -/
def rd (l : List Int) (n : Nat) (ok : Int → Bool) (s : RS) : Int × RS :=
  if s.er = 0 then (if s.at_ + n ≤ l.length then (if ok (numb ((l.drop s.at_).take n)) then (numb ((l.drop s.at_).take n), ⟨s.at_ + n, 0⟩) else (0, ⟨s.at_, 12⟩)) else (0, ⟨s.at_, 11⟩)) else (0, s)
def upto (most : Int) (v : Int) : Bool := decide (v ≤ most)
/-- U64's bound. -/
def upto64 (most : Int) (v : Int) : Bool := decide (0 ≤ most) && decide (v ≤ most)
def any (v : Int) : Bool := true
def headHead (seq place : Int) : List Int := magicH ++ be 4 0 ++ be 8 (u64 seq) ++ be 4 (u64 place)
def headB (seq place : Int) : List Int := Sep.blk (headHead seq place ++ be 8 (sumOf (headHead seq place)))
def readHead (b : List Int) (places : Int) : Int × Int × Bool :=
  let l := (b.drop 8).take 20
  let x := rd l 8 (upto64 4611686018427387905) ⟨0, 0⟩
  let y := rd l 4 (upto (places - 1)) x.2
  let z := rd l 8 any y.2
  (x.1, y.1, decide (b.take 4 = magicH) && decide (z.2.er = 0) && decide (1 ≤ x.1) && decide (z.1 = sumOf (b.take 20)))
def entB : List (Int × Int) → List Int
  | [] => []
  | x :: r => be 4 (u64 x.1) ++ be 4 (u64 x.2) ++ entB r
def descHead (seq : Int) (es : List (Int × Int)) : List Int := magicD ++ be 4 (u64 (es.length : Int)) ++ be 8 (u64 seq) ++ entB es
def descB (seq : Int) (es : List (Int × Int)) : List Int := Sep.blk (descHead seq es)
def rdEnts (l : List Int) : Nat → RS → List (Int × Int) × RS
  | 0, s => ([], s)
  | k + 1, s =>
    let x := rd l 4 (upto 4096) s
    let y := rd l 4 (upto 2) x.2
    let z := rdEnts l k y.2
    ((x.1, y.1) :: z.1, z.2)
/-- The entries of a descriptor of that number; nothing: it is none. -/
def readDesc (b : List Int) (seq : Int) : Option (List (Int × Int)) :=
  let l := b.drop 4
  let x := rd l 4 (upto 24) ⟨0, 0⟩
  let y := rd l 8 (upto64 4611686018427387904) x.2
  if b.take 4 = magicD ∧ y.2.er = 0 ∧ 1 ≤ x.1 ∧ y.1 = seq then (if (rdEnts l x.1.toNat y.2).2.er = 0 then some (rdEnts l x.1.toNat y.2).1 else none) else none
def commitB (seq : Int) : List Int := Sep.blk (magicC ++ be 4 0 ++ be 8 (u64 seq))
def isCommit (b : List Int) (seq : Int) : Bool := decide (b.length = 512) && decide (b.take 4 = magicC) && decide ((b.drop 8).take 8 = be 8 (u64 seq))
/-- A block as it stands in the log; its flag. -/
def flagOf (d : List Int) : Int := if d.take 4 = magicD then 1 else if d.take 4 = magicC then 2 else 0
def esc (d : List Int) : List Int := if flagOf d = 0 then d else [0, 0, 0, 0] ++ d.drop 4
def unesc (d : List Int) (flag : Int) : Option (List Int) :=
  if flag = 0 then some d else if d.take 4 = [0, 0, 0, 0] then some ((if flag = 2 then magicC else magicD) ++ d.drop 4) else none
/-! ### numbers and bytes -/
theorem be_byte : ∀ (n : Nat) (x : Int), Byte (be n x)
  | 0, _ => by intro y hy; cases hy
  | n + 1, x => by
    intro y hy
    rcases List.mem_cons.1 hy with e | hy
    · rw [e]
      exact ⟨Int.emod_nonneg _ (by decide), Int.emod_lt_of_pos _ (by decide)⟩
    · exact be_byte n x y hy
theorem Byte.app {l m : List Int} (h : Byte l) (k : Byte m) : Byte (l ++ m) := fun y hy => (List.mem_append.1 hy).elim (h y) (k y)
theorem Byte.take {l : List Int} (h : Byte l) (n : Nat) : Byte (l.take n) := fun y hy => h y (List.mem_of_mem_take hy)
theorem Byte.drop {l : List Int} (h : Byte l) (n : Nat) : Byte (l.drop n) := fun y hy => h y (List.mem_of_mem_drop hy)
theorem byte_nil : Byte [] := by intro y hy; cases hy
theorem byte_zeros (n : Nat) : Byte (List.replicate n 0) := fun y hy => by rw [List.eq_of_mem_replicate hy]; decide
theorem numb_be4 (x : Int) (h0 : 0 ≤ x) (h1 : x < 4294967296) : numb (be 4 x) = x := by
  have e : numb (be 4 x) = (((0 * 256 + x / 2 ^ (8 * 3) % 256) * 256 + x / 2 ^ (8 * 2) % 256) * 256 + x / 2 ^ (8 * 1) % 256) * 256 + x / 2 ^ (8 * 0) % 256 := rfl
  rw [e]
  simp only [show (2 : Int) ^ (8 * 3) = 16777216 from rfl, show (2 : Int) ^ (8 * 2) = 65536 from rfl, show (2 : Int) ^ (8 * 1) = 256 from rfl, show (2 : Int) ^ (8 * 0) = 1 from rfl]
  omega
theorem numb_be8 (x : Int) (h0 : 0 ≤ x) (h1 : x < 18446744073709551616) : numb (be 8 x) = x := by
  have e : numb (be 8 x) = (((((((0 * 256 + x / 2 ^ (8 * 7) % 256) * 256 + x / 2 ^ (8 * 6) % 256) * 256 + x / 2 ^ (8 * 5) % 256) * 256 + x / 2 ^ (8 * 4) % 256) * 256 + x / 2 ^ (8 * 3) % 256) * 256 + x / 2 ^ (8 * 2) % 256) * 256 + x / 2 ^ (8 * 1) % 256) * 256 + x / 2 ^ (8 * 0) % 256 := by simp only [numb, be, List.foldl_cons, List.foldl_nil]
  rw [e]
  simp only [show (2 : Int) ^ (8 * 7) = 72057594037927936 from rfl, show (2 : Int) ^ (8 * 6) = 281474976710656 from rfl, show (2 : Int) ^ (8 * 5) = 1099511627776 from rfl, show (2 : Int) ^ (8 * 4) = 4294967296 from rfl, show (2 : Int) ^ (8 * 3) = 16777216 from rfl, show (2 : Int) ^ (8 * 2) = 65536 from rfl, show (2 : Int) ^ (8 * 1) = 256 from rfl, show (2 : Int) ^ (8 * 0) = 1 from rfl, Int.ediv_one]
  clear e
  have e2 : x / 65536 = x / 256 / 256 := by omega
  have e3 : x / 16777216 = x / 65536 / 256 := by omega
  have e4 : x / 4294967296 = x / 16777216 / 256 := by omega
  have e5 : x / 1099511627776 = x / 4294967296 / 256 := by omega
  have e6 : x / 281474976710656 = x / 1099511627776 / 256 := by omega
  have e7 : x / 72057594037927936 = x / 281474976710656 / 256 := by omega
  have l7 : x / 72057594037927936 < 256 := by omega
  have n7 : 0 ≤ x / 72057594037927936 := by omega
  generalize x / 72057594037927936 = a7 at *
  generalize x / 281474976710656 = a6 at *
  generalize x / 1099511627776 = a5 at *
  generalize x / 4294967296 = a4 at *
  generalize x / 16777216 = a3 at *
  generalize x / 65536 = a2 at *
  generalize ha1 : x / 256 = a1 at *
  omega
theorem be8_inj {x y : Int} (hx : 0 ≤ x ∧ x < 18446744073709551616) (hy : 0 ≤ y ∧ y < 18446744073709551616) (h : be 8 x = be 8 y) : x = y := by
  rw [← numb_be8 x hx.1 hx.2, ← numb_be8 y hy.1 hy.2, h]
theorem u64_small {x : Int} (h0 : 0 ≤ x) (h1 : x < 18446744073709551616) : u64 x = x := by
  rw [u64, IntKind.wrap_u64]
  omega
theorem u64_range (x : Int) : 0 ≤ u64 x ∧ u64 x < 18446744073709551616 := by
  rw [u64, IntKind.wrap_u64]
  omega
theorem sumOf_range (l : List Int) : 0 ≤ sumOf l ∧ sumOf l < 18446744073709551616 := by
  have : ∀ (l : List Int) (h : Int), 0 ≤ h ∧ h < 18446744073709551616 → 0 ≤ l.foldl sumStep h ∧ l.foldl sumStep h < 18446744073709551616 := by
    intro l
    induction l with
    | nil => exact fun h hh => hh
    | cons x r ih => exact fun h hh => ih _ (u64_range _)
  exact this l _ (by decide)
theorem blkN_eq {N : Nat} {l : List Int} (h : l.length ≤ N) : splice (List.replicate N 0) 0 (l.take N) = l ++ List.replicate (N - l.length) 0 := by
  unfold splice
  rw [List.take_of_length_le h]
  simp
theorem blkN_take {N n : Nat} {l : List Int} (h : n ≤ l.length) (h2 : n ≤ N) : (splice (List.replicate N 0) 0 (l.take N)).take n = l.take n := by
  unfold splice
  rw [List.take_zero, List.nil_append, List.take_append_of_le_length (by rw [List.length_take]; omega), List.take_take, Nat.min_eq_left h2]
theorem blk_eq {l : List Int} (h : l.length ≤ 512) : Sep.blk l = l ++ List.replicate (512 - l.length) 0 := blkN_eq h
theorem blk_byte {l : List Int} (hl : l.length ≤ 512) (h : Byte l) : Byte (Sep.blk l) := by
  rw [blk_eq hl]
  exact h.app (byte_zeros _)
/-! ### reading calls -/
theorem rd_is {l pre rest : List Int} {a n : Nat} {ok : Int → Bool} (h : l.drop a = pre ++ rest) (hn : pre.length = n) (hk : ok (numb pre) = true) (hl : a ≤ l.length) : rd l n ok ⟨a, 0⟩ = (numb pre, ⟨a + n, 0⟩) := by
  have h1 : (l.drop a).length = n + rest.length := by rw [h, List.length_append, hn]
  rw [List.length_drop] at h1
  have h2 : (l.drop a).take n = pre := by rw [h, List.take_append_of_le_length (by omega), List.take_of_length_le (by omega)]
  unfold rd
  rw [if_pos rfl, if_pos (by show a + n ≤ l.length; omega), h2, if_pos hk]
theorem rd_be4 {l rest : List Int} {a : Nat} {ok : Int → Bool} {x : Int} (h : l.drop a = be 4 x ++ rest) (h0 : 0 ≤ x) (h1 : x < 4294967296) (hk : ok x = true) (hl : a ≤ l.length) : rd l 4 ok ⟨a, 0⟩ = (x, ⟨a + 4, 0⟩) := by
  have := rd_is (ok := ok) h (be_len 4 x) (by rw [numb_be4 x h0 h1]; exact hk) hl
  rwa [numb_be4 x h0 h1] at this
theorem rd_be8 {l rest : List Int} {a : Nat} {ok : Int → Bool} {x : Int} (h : l.drop a = be 8 x ++ rest) (h0 : 0 ≤ x) (h1 : x < 18446744073709551616) (hk : ok x = true) (hl : a ≤ l.length) : rd l 8 ok ⟨a, 0⟩ = (x, ⟨a + 8, 0⟩) := by
  have := rd_is (ok := ok) h (be_len 8 x) (by rw [numb_be8 x h0 h1]; exact hk) hl
  rwa [numb_be8 x h0 h1] at this
theorem drop_app {l p r : List Int} {a n : Nat} (h : l.drop a = p ++ r) (hn : p.length = n) : l.drop (a + n) = r := by
  rw [← List.drop_drop, h, ← hn, List.drop_left]
/-! ### heads -/
theorem headHead_len (seq place : Int) : (headHead seq place).length = 20 := by simp [headHead, magicH, be_len]
theorem headB_eq (seq place : Int) : headB seq place = headHead seq place ++ be 8 (sumOf (headHead seq place)) ++ List.replicate 484 0 := by
  unfold headB
  rw [blk_eq (by rw [List.length_append, headHead_len, be_len]; decide), List.length_append, headHead_len, be_len]
theorem headB_len (seq place : Int) : (headB seq place).length = 512 := blk_len _
theorem readHead_headB {seq place places : Int} (h1 : 1 ≤ seq) (h2 : seq ≤ 4611686018427387905) (h3 : 0 ≤ place) (h4 : place < places) (h5 : places ≤ 4096) : readHead (headB seq place) places = (seq, place, true) := by
  have e0 := headB_eq seq place
  have es : u64 seq = seq := u64_small (by omega) (by omega)
  have ep : u64 place = place := u64_small h3 (by omega)
  have hl := headHead_len seq place
  have et : (headB seq place).take 20 = headHead seq place := by
    rw [e0, List.append_assoc, List.take_append_of_le_length (by omega), List.take_of_length_le (by omega)]
  have em : (headB seq place).take 4 = magicH := by
    rw [e0]
    rfl
  have hd : ((headB seq place).drop 8).take 20 = be 8 seq ++ be 4 place ++ be 8 (sumOf (headHead seq place)) := by
    rw [e0]
    unfold headHead
    rw [es, ep]
    rfl
  have hs := sumOf_range (headHead seq place)
  unfold readHead
  simp only [hd, et, em]
  generalize sumOf (headHead seq place) = s at *
  have hL : (be 8 seq ++ be 4 place ++ be 8 s).length = 20 := by simp [be_len]
  have r1 := rd_be8 (l := be 8 seq ++ be 4 place ++ be 8 s) (a := 0) (rest := be 4 place ++ be 8 s) (x := seq) (ok := upto64 4611686018427387905) (by simp) (by omega) (by omega) (by simp [upto64]; omega) (by omega)
  have r2 := rd_be4 (l := be 8 seq ++ be 4 place ++ be 8 s) (a := 8) (rest := be 8 s) (x := place) (ok := upto (places - 1)) (by have := drop_app (l := be 8 seq ++ be 4 place ++ be 8 s) (a := 0) (p := be 8 seq) (r := be 4 place ++ be 8 s) (by simp) (be_len 8 seq); simpa using this) (by omega) (by omega) (by simp [upto]; omega) (by omega)
  have r3 := rd_be8 (l := be 8 seq ++ be 4 place ++ be 8 s) (a := 12) (rest := []) (x := s) (ok := any) (by
    have h0 := drop_app (l := be 8 seq ++ be 4 place ++ be 8 s) (a := 0) (p := be 8 seq) (r := be 4 place ++ be 8 s) (by simp) (be_len 8 seq)
    have := drop_app h0 (be_len 4 place)
    simpa using this) (by omega) (by omega) rfl (by omega)
  simp only [Nat.zero_add] at r1
  rw [r1]
  show (seq, (rd _ 4 _ ⟨8, 0⟩).1, _) = _
  simp only [r2, r3]
  simp [h1]
/-! ### descriptors -/
theorem entB_len : ∀ es : List (Int × Int), (entB es).length = 8 * es.length
  | [] => rfl
  | x :: r => by simp [entB, be_len, entB_len r]; omega
theorem descHead_len (seq : Int) (es : List (Int × Int)) : (descHead seq es).length = 16 + 8 * es.length := by simp [descHead, magicD, be_len, entB_len]; omega
theorem descB_eq {seq : Int} {es : List (Int × Int)} (h : es.length ≤ 24) : descB seq es = descHead seq es ++ List.replicate (512 - (16 + 8 * es.length)) 0 := by
  unfold descB
  rw [blk_eq (by rw [descHead_len]; omega), descHead_len]
theorem descB_len (seq : Int) (es : List (Int × Int)) : (descB seq es).length = 512 := blk_len _
def EntOk (x : Int × Int) : Prop := 0 ≤ x.1 ∧ x.1 ≤ 4096 ∧ 0 ≤ x.2 ∧ x.2 ≤ 2
theorem rdEnts_entB : ∀ (es : List (Int × Int)) (l rest : List Int) (a : Nat), (∀ x ∈ es, EntOk x) → l.drop a = entB es ++ rest → a + 8 * es.length ≤ l.length → rdEnts l es.length ⟨a, 0⟩ = (es, ⟨a + 8 * es.length, 0⟩)
  | [], l, rest, a, _, _, _ => rfl
  | x :: r, l, rest, a, hx, hd, hl => by
    have h1 := hx x (by simp)
    unfold EntOk at h1
    rw [List.length_cons] at hl
    have e1 : u64 x.1 = x.1 := u64_small h1.1 (by omega)
    have e2 : u64 x.2 = x.2 := u64_small h1.2.2.1 (by omega)
    simp only [entB, e1, e2, List.append_assoc] at hd
    have r1 := rd_be4 (ok := upto 4096) hd h1.1 (by omega) (by simp [upto]; omega) (by omega)
    have hd2 := drop_app hd (be_len 4 x.1)
    have r2 := rd_be4 (ok := upto 2) hd2 h1.2.2.1 (by omega) (by simp [upto]; omega) (by omega)
    have hd3 := drop_app hd2 (be_len 4 x.2)
    have ih := rdEnts_entB r l rest (a + 4 + 4) (fun y hy => hx y (by simp [hy])) hd3 (by omega)
    show rdEnts l (r.length + 1) ⟨a, 0⟩ = _
    simp only [rdEnts, r1, r2, ih]
    have e : a + 4 + 4 + 8 * r.length = a + 8 * (x :: r).length := by rw [List.length_cons]; omega
    rw [e]
theorem readDesc_descB {seq s : Int} {es : List (Int × Int)} (h0 : 1 ≤ es.length) (h1 : es.length ≤ 24) (he : ∀ x ∈ es, EntOk x) (h2 : 0 ≤ seq) (h3 : seq ≤ 4611686018427387904) : readDesc (descB seq es) s = if seq = s then some es else none := by
  have e0 := descB_eq (seq := seq) h1
  have ek : u64 (es.length : Int) = (es.length : Int) := u64_small (by omega) (by omega)
  have eq : u64 seq = seq := u64_small h2 (by omega)
  have hd : (descB seq es).drop 4 = be 4 (es.length : Int) ++ (be 8 seq ++ (entB es ++ List.replicate (512 - (16 + 8 * es.length)) 0)) := by
    rw [e0]
    unfold descHead
    rw [ek, eq]
    simp [magicD, List.append_assoc]
  have hlen : ((descB seq es).drop 4).length = 508 := by rw [List.length_drop, descB_len]
  have em : (descB seq es).take 4 = magicD := by
    rw [e0]
    rfl
  unfold readDesc
  generalize (descB seq es).drop 4 = l at *
  have r1 := rd_be4 (l := l) (a := 0) (ok := upto 24) (by simpa using hd) (by omega) (by omega) (by simp [upto]; omega) (Nat.zero_le _)
  have hd2 := drop_app (l := l) (a := 0) (by simpa using hd) (be_len 4 (es.length : Int))
  simp only [Nat.zero_add] at r1 hd2
  have r2 := rd_be8 (l := l) (a := 4) (ok := upto64 4611686018427387904) hd2 h2 (by omega) (by simp [upto64]; omega) (by omega)
  have hd3 := drop_app hd2 (be_len 8 seq)
  have r3 := rdEnts_entB es l _ (4 + 8) he hd3 (by omega)
  simp only [r1, r2, em, Int.toNat_natCast, r3, true_and, if_true]
  by_cases hs : seq = s
  · rw [if_pos hs, if_pos ⟨by omega, hs⟩]
  · rw [if_neg hs, if_neg fun q => hs q.2]
theorem readDesc_no {b : List Int} {s : Int} (h : b.take 4 ≠ magicD) : readDesc b s = none := by
  unfold readDesc
  rw [if_neg fun q => h q.1]
/-! ### commits -/
theorem commitB_eq (seq : Int) : commitB seq = magicC ++ be 4 0 ++ be 8 (u64 seq) ++ List.replicate 496 0 := by
  have hl : (magicC ++ be 4 0 ++ be 8 (u64 seq)).length = 16 := by simp [magicC, be_len]
  unfold commitB
  rw [blk_eq (by omega), hl]
theorem commitB_len (seq : Int) : (commitB seq).length = 512 := blk_len _
theorem commitB_magic (seq : Int) : (commitB seq).take 4 = magicC := by
  rw [commitB_eq]
  rfl
theorem isCommit_commitB {s t : Int} (hs : 0 ≤ s ∧ s < 18446744073709551616) (ht : 0 ≤ t ∧ t < 18446744073709551616) : isCommit (commitB s) t = decide (s = t) := by
  have e1 : ((commitB s).drop 8).take 8 = be 8 s := by
    rw [commitB_eq, u64_small hs.1 hs.2]
    rfl
  unfold isCommit
  rw [commitB_len, commitB_magic, e1, u64_small ht.1 ht.2]
  by_cases h : s = t
  · subst h
    simp
  · have : be 8 s ≠ be 8 t := fun e => h (be8_inj hs ht e)
    simp [h, this]
theorem isCommit_no {b : List Int} {s : Int} (h : b.take 4 ≠ magicC) : isCommit b s = false := by
  unfold isCommit
  simp [h]
/-! ### escaped blocks -/
theorem esc_len {d : List Int} (h : 4 ≤ d.length) : (esc d).length = d.length := by
  unfold esc
  split
  · rfl
  · simp
    omega
theorem esc_magic {d : List Int} : (esc d).take 4 ≠ magicD ∧ (esc d).take 4 ≠ magicC := by
  unfold esc flagOf
  by_cases h1 : d.take 4 = magicD
  · simp [h1, magicD, magicC]
  · by_cases h2 : d.take 4 = magicC
    · simp [h1, h2, magicD, magicC]
    · simp [h1, h2]
theorem unesc_esc (d : List Int) : unesc (esc d) (flagOf d) = some d := by
  unfold unesc esc flagOf
  by_cases h1 : d.take 4 = magicD
  · have : magicD ++ d.drop 4 = d := by rw [← h1]; exact List.take_append_drop 4 d
    simp [h1, this]
  · by_cases h2 : d.take 4 = magicC
    · have h3 : magicC ≠ magicD := by decide
      have : magicC ++ d.drop 4 = d := by rw [← h2]; exact List.take_append_drop 4 d
      simp [h2, h3, this]
    · simp [h1, h2]
theorem flag_range (d : List Int) : 0 ≤ flagOf d ∧ flagOf d ≤ 2 := by
  unfold flagOf
  repeat' split
  all_goals omega
theorem desc_not_commit (seq : Int) (es : List (Int × Int)) : (descB seq es).take 4 = magicD := by
  have hl := descHead_len seq es
  unfold descB Sep.blk
  rw [blkN_take (by omega) (by decide)]
  rfl
end Go.Proofs.YtlhlmjkocmahmaaGreatDoor.Jr
