/- A journal in memory; its small methods. -/
import Derived.Test.YtlhlmjkocmahmaaGreatDoorMA7
import Derived.Test.YtlhlmjkocmahmaaGreatDoorMA6
import Derived.LaidEqlPtr
namespace Go.Proofs.YtlhlmjkocmahmaaGreatDoor.Sep
open Go.Proofs Go.RowKit Go.Proofs.YtlhlmjkocmahmaaGreatDoorW.PrintWords Go.Proofs.YtlhlmjkocmahmaaGreatDoorW.PrintLast Go.Proofs.YtlhlmjkocmahmaaGreatDoorW.PrintMore Go.Proofs.YtlhlmjkocmahmaaGreatDoor.Dev Go.Proofs.YtlhlmjkocmahmaaGreatDoor.Errs Go.Proofs.YtlhlmjkocmahmaaGreatDoor.Jr
set_option linter.unusedVariables false
set_option linter.unusedSimpArgs false
/-! ### rows that nobody writes any more -/
def PoolA (ps : List (Nat × List Int)) : Asn where
  H w F := (∀ x ∈ ps, w.heap[x.1]? = some (.cells (nums .u8 x.2).toArray 5 (0, 0)) ∧ x.2.length = 512 ∧ F x.1) ∧ ∀ k, F k → k < w.heap.size
  move := fun h hk => ⟨fun x hx => ⟨(hk _ (h.1 x hx).2.2).trans (h.1 x hx).1, (h.1 x hx).2⟩, fun k hf => lt_move (h.2 k hf) (hk k hf)⟩
  lt := fun h => h.2
def rowV (g : Nat) : Value := .slice (some ⟨g, 0, none⟩) 512 512
section
variable {w0 w w' : World} {R : List Asn} {ps : List (Nat × List Int)} {g : Nat} {d : List Int}
theorem Sep.pool_nil (S : Sep w0 w R) : Sep w0 w (PoolA [] :: R) :=
  S.new (Below.refl _ _) (A := PoolA []) (G := fun _ => False) ⟨fun x hx => absurd hx (List.not_mem_nil), fun k hk => False.elim hk⟩ fun k hk => False.elim hk
theorem Sep.pool_add (S : Sep w0 w (Byt (some ⟨g, 0, none⟩) 512 512 d :: PoolA ps :: R)) : Sep w0 w (PoolA ((g, d) :: ps) :: R) := by
  have hl := S.len
  obtain ⟨g', cur, e1, hg, hcs, hnc, hlow⟩ := S.open_ (by decide)
  cases e1
  obtain ⟨F1, h1, hs1, F2, h2, hs2, h3⟩ := S.star
  have htake : cur.toList.take 512 = nums .u8 d := by
    rcases h1.1.2 with ⟨e, _⟩ | ⟨g2, cap2, cur2, e, _, b2, _, _, _, b6⟩
    · cases e
    · cases e
      rw [hg] at b2
      cases b2
      rw [Nat.mul_one] at b6
      exact b6
  have hcur : cur = (nums .u8 d).toArray := by
    rw [List.take_of_length_le (by simp; omega)] at htake
    rw [← htake]
  refine ⟨S.bel, fun k => F1 k ∨ F2 k, ⟨fun x hx => ?_, fun k hk => hk.elim (h1.2.2 k) (h2.2 k)⟩, fun k hk => hk.elim (hs1 k) fun q => (hs2 k q).1, h3.mono fun k hk => ⟨hk.1.1, fun q => q.elim hk.1.2 hk.2⟩⟩
  rcases List.mem_cons.1 hx with e | hx
  · rw [e]
    exact ⟨by rw [hg, hcur], hl, .inl (h1.2.1 g rfl)⟩
  · have := h2.1 x hx
    exact ⟨this.1, this.2.1, .inr this.2.2⟩
theorem pool_reads_ {F : Nat → Prop} (h : (PoolA ps).H w F) (hx : (g, d) ∈ ps) : ReadsInt w .u8 (some ⟨g, 0, none⟩) 512 d := by
  have h1 := h.1 _ hx
  refine ⟨h1.2.1, by decide, fun hn => ⟨_, rfl, fun j hj => ?_⟩⟩
  rw [add_plain, blk_cell h1.1 j, List.getElem?_toArray]
  unfold nums
  rw [List.getElem?_map, List.getD_eq_getElem?_getD, List.getElem?_eq_getElem (by rw [h1.2.1]; exact hj)]
  rfl
theorem Sep.pool_reads (S : Sep w0 w (PoolA ps :: R)) (hx : (g, d) ∈ ps) : ReadsInt w .u8 (some ⟨g, 0, none⟩) 512 d := by
  obtain ⟨F, h, _⟩ := S.hd
  exact pool_reads_ h hx
end
/-! ### a journal -/
abbrev MV := List (Int × (Nat × List Int))
def vals (M : MV) : List (Int × Value) := SM.on (fun x => rowV x.1) M
def dat (M : MV) : SMb := SM.on (fun x => x.2) M
def Ins (M : MV) (ps : List (Nat × List Int)) : Prop := ∀ x ∈ M, x.2 ∈ ps
theorem Ins.cons {M : MV} {ps : List (Nat × List Int)} (h : Ins M ps) (x : Nat × List Int) : Ins M (x :: ps) := fun y hy => List.mem_cons_of_mem _ (h y hy)
theorem Ins.ins {M : MV} {ps : List (Nat × List Int)} (h : Ins M ps) (k : Int) (x : Nat × List Int) (hx : x ∈ ps) : Ins (SM.ins M k x) ps := fun y hy => (SM.mem_ins hy).elim (fun e => by rw [e]; exact hx) (h y)
structure JV where
  start : Int
  size : Int
  seq : Int
  place : Int
  free : Int
  bm : Nat
  M : MV
  tx : Option Nat
  ended : Bool
abbrev ptrO (o : Option Nat) : Value := .pointer (o.map fun q => ⟨q, 0, none⟩)
abbrev JBlk (p d : Nat) (v : JV) : Asn := Blk p #[.pointer (some ⟨d, 0, none⟩), .int .i64 v.start, .int .i64 v.size, .int .i64 v.seq, .int .i64 v.place, .int .i64 v.free, .map (some v.bm), ptrO v.tx, .bool v.ended] 115
def JV.geo (v : JV) (s : DS) : Geo := ⟨(s.n : Int), v.start, v.size⟩
section
variable {w0 w w' : World} {R : List Asn} {p d : Nat} {v : JV} {s : DS}
theorem places_s (S : Sep w0 w (JBlk p d v :: R)) (h0 : 0 ≤ v.size) (h1 : v.size ≤ 4096) : Calls Tryz.prog 68 #[.pointer (some ⟨p, 0, none⟩)] w fun e w' => e = .returned (.int .i64 (v.size - 1)) ∧ w' = w := by
  have c2 := S.cell 2 (v := .int .i64 v.size) rfl
  have hw : IntKind.i64.wrap (v.size - 1) = v.size - 1 := by rw [IntKind.wrap_i64]; omega
  clear S
  go_enter Tryz.func68, Tryz.ntmps68
  go_wp2
  go_ret
  exact ⟨rfl, rfl⟩
theorem block_s (S : Sep w0 w (JBlk p d v :: R)) (hG : (v.geo s).Ok) (place : Int) (h0 : 0 ≤ place) (h1 : place ≤ 100000) : Calls Tryz.prog 88 #[.pointer (some ⟨p, 0, none⟩), .int .i64 place] w fun e w' => e = .returned (.int .i64 ((v.geo s).at_ place)) ∧ ∃ k, w' = w.drewN k := by
  have g0 : 0 ≤ v.start := hG.start0
  have g1 : 27 ≤ v.size := hG.size0
  have g2 : v.size ≤ (s.n : Int) - v.start := hG.fit
  have g3 : (s.n : Int) ≤ 4096 := hG.n1
  have c1 := S.cell 1 (v := .int .i64 v.start) rfl
  have hP : ∀ k, Calls Tryz.prog 68 #[.pointer (some ⟨p, 0, none⟩)] (w.drewN k) fun e w' => e = .returned (.int .i64 (v.size - 1)) ∧ ∃ n, w' = (w.drewN k).drewN n := fun k => (places_s (S.drewN k) (by omega) (by omega)).mono fun e w' h => ⟨h.1, 0, h.2⟩
  have hm0 := Int.emod_nonneg place (show v.size - 1 ≠ 0 by omega)
  have hm1 := Int.emod_lt_of_pos place (show 0 < v.size - 1 by omega)
  have hmod : place.tmod (v.size - 1) = place % (v.size - 1) := Int.tmod_eq_emod_of_nonneg h0
  have hw1 : IntKind.i64.wrap (v.start + 1) = v.start + 1 := by rw [IntKind.wrap_i64]; omega
  have hw2 : IntKind.i64.wrap (place.tmod (v.size - 1)) = place % (v.size - 1) := by rw [hmod, IntKind.wrap_i64]; omega
  have hw3 : IntKind.i64.wrap (v.start + 1 + place % (v.size - 1)) = v.start + 1 + place % (v.size - 1) := by rw [IntKind.wrap_i64]; omega
  have hne : ¬ v.size - 1 = 0 := by omega
  have hat : (v.geo s).at_ place = v.start + 1 + place % (v.size - 1) := rfl
  have HA := Aside0.mk hat
  clear S hat
  go_enter Tryz.func88, Tryz.ntmps88
  go_wp2_with fail
  go_quiet (first | (go_at_call 68; exact Calls.quiet_of (hP _)))
  go_wp2_with fail
  go_ret
  exact ⟨by rw [HA.out]; rfl, _, rfl⟩
theorem end_s (S : Sep w0 w (JBlk p d v :: R)) : Calls Tryz.prog 63 #[.pointer (some ⟨p, 0, none⟩)] w fun e w' => e = .returned (.tuple #[]) ∧ Sep w0 w' (JBlk p d { v with tx := none, ended := true } :: R) := by
  have c7 := S.cell 7 (v := ptrO v.tx) rfl
  have c8 := S.cell 8 (v := .bool v.ended) rfl
  have f8 := S.free 8
  have S1 := S.set 8 (.bool true)
  have d7 := S1.cell 7 (v := ptrO v.tx) rfl
  have f7 := S1.free 7
  have S2 := S1.set 7 (.pointer none)
  have HS := Aside0.mk S2
  clear S S1 S2
  go_enter Tryz.func63, Tryz.ntmps63
  go_wp2
  go_end0
  exact ⟨rfl, HS.out⟩
/-- What alive answers; what it leaves. -/
def aliveE (v : JV) (s : DS) : Int := if v.ended then 76 else if s.off then 3 else 0
def aliveV (v : JV) (s : DS) : JV := if v.ended then v else if s.off then { v with tx := none, ended := true } else v
theorem alive_s (S : Sep w0 w (JBlk p d v :: DevA d s :: R)) : Calls Tryz.prog 54 #[.pointer (some ⟨p, 0, none⟩)] w fun e w' => e = .returned (.int .i64 (aliveE v s)) ∧ Sep w0 w' (JBlk p d (aliveV v s) :: DevA d s :: R) := by
  have c0 := S.cell 0 (v := .pointer (some ⟨d, 0, none⟩)) rfl
  have c8 := S.cell 8 (v := .bool v.ended) rfl
  unfold aliveE aliveV
  cases he : v.ended
  · rw [he] at c8
    simp only [Bool.false_eq_true, if_false]
    have hP := power_s S.swap
    cases ho : s.off
    · rw [ho] at hP
      simp only [Bool.false_eq_true, if_false]
      clear S he ho
      go_enter Tryz.func54, Tryz.ntmps54
      go_wp2_with (first | (go_at_call 90; refine hP.mono ?_; rintro _ w1 ⟨rfl, S⟩))
      go_ret
      exact ⟨rfl, S.swap⟩
    · rw [ho] at hP
      simp only [if_true]
      clear S he ho
      go_enter Tryz.func54, Tryz.ntmps54
      go_wp2_with (first | (go_at_call 90; refine hP.mono ?_; rintro _ w1 ⟨rfl, S⟩) | (go_at_call 63; refine (end_s S.swap).mono ?_; clear S; rintro _ w2 ⟨rfl, S⟩))
      go_ret
      exact ⟨rfl, S⟩
  · rw [he] at c8
    simp only [if_true]
    have HS := Aside0.mk S
    clear S he
    go_enter Tryz.func54, Tryz.ntmps54
    go_wp2
    go_ret
    exact ⟨rfl, HS.out⟩
end
end Go.Proofs.YtlhlmjkocmahmaaGreatDoor.Sep
/- A journal's methods: outside, fits, headed. -/
namespace Go.Proofs.YtlhlmjkocmahmaaGreatDoor.Sep
open Go.Proofs Go.RowKit Go.Proofs.YtlhlmjkocmahmaaGreatDoorW.PrintWords Go.Proofs.YtlhlmjkocmahmaaGreatDoorW.PrintLast Go.Proofs.YtlhlmjkocmahmaaGreatDoorW.PrintMore Go.Proofs.YtlhlmjkocmahmaaGreatDoor.Dev Go.Proofs.YtlhlmjkocmahmaaGreatDoor.Errs Go.Proofs.YtlhlmjkocmahmaaGreatDoor.Jr
set_option linter.unusedVariables false
set_option linter.unusedSimpArgs false
section
variable {w0 w w' : World} {R : List Asn} {p d : Nat} {v : JV} {s : DS}
set_option maxRecDepth 100000 in
set_option maxHeartbeats 2000000 in
theorem outside_s (S : Sep w0 w (JBlk p d v :: DevA d s :: R)) (hG : (v.geo s).Ok) (b : Int) : Calls Tryz.prog 91 #[.pointer (some ⟨p, 0, none⟩), .int .i64 b] w fun e w' => e = .returned (.bool ((v.geo s).out b)) ∧ ∃ k, w' = w.drewN k := by
  have g0 : 0 ≤ v.start := hG.start0
  have g1 : 27 ≤ v.size := hG.size0
  have g2 : v.size ≤ (s.n : Int) - v.start := hG.fit
  have g3 : (s.n : Int) ≤ 4096 := hG.n1
  have c0 := S.cell 0 (v := .pointer (some ⟨d, 0, none⟩)) rfl
  have c1 := S.cell 1 (v := .int .i64 v.start) rfl
  have c2 := S.cell 2 (v := .int .i64 v.size) rfl
  have hP : ∀ k, Calls Tryz.prog 102 #[.pointer (some ⟨d, 0, none⟩)] (w.drewN k) fun e w' => e = .returned (.int .i64 (s.n : Int)) ∧ ∃ n, w' = (w.drewN k).drewN n := fun k => (size_s (S.drewN k).swap).mono fun e w' h => ⟨h.1, 0, h.2⟩
  have hw3 : IntKind.i64.wrap (v.start + v.size) = v.start + v.size := by rw [IntKind.wrap_i64]; omega
  have ho : (v.geo s).out b = (decide (0 ≤ b) && decide (b < (s.n : Int)) && (decide (b < v.start) || decide (v.start + v.size ≤ b))) := rfl
  generalize hn : (s.n : Int) = n at *
  clear S hG hn
  by_cases h1 : b ≥ 0
  · have e1 : decide (b ≥ 0) = true := decide_eq_true h1
    by_cases h2 : b < n
    · have e2 : decide (b < n) = true := decide_eq_true h2
      by_cases h3 : b < v.start
      · have HO : Aside0 ((v.geo s).out b = true) := ⟨by rw [ho]; simp; omega⟩
        clear ho
        have e3 : decide (b < v.start) = true := decide_eq_true h3
        go_enter Tryz.func91, Tryz.ntmps91
        go_wp2_with fail
        go_quiet (first | (go_at_call 102; exact Calls.quiet_of (hP _)))
        go_wp2_with fail
        go_ret
        exact ⟨by rw [HO.out]; rfl, _, rfl⟩
      · by_cases h4 : b ≥ v.start + v.size
        · have HO : Aside0 ((v.geo s).out b = true) := ⟨by rw [ho]; simp; omega⟩
          clear ho
          have e3 : decide (b < v.start) = false := decide_eq_false h3
          have e4 : decide (b ≥ v.start + v.size) = true := decide_eq_true h4
          go_enter Tryz.func91, Tryz.ntmps91
          go_wp2_with fail
          go_quiet (first | (go_at_call 102; exact Calls.quiet_of (hP _)))
          go_wp2_with fail
          go_ret
          exact ⟨by rw [HO.out]; rfl, _, rfl⟩
        · have HO : Aside0 ((v.geo s).out b = false) := ⟨by rw [ho]; simp; omega⟩
          clear ho
          have e3 : decide (b < v.start) = false := decide_eq_false h3
          have e4 : decide (b ≥ v.start + v.size) = false := decide_eq_false h4
          go_enter Tryz.func91, Tryz.ntmps91
          go_wp2_with fail
          go_quiet (first | (go_at_call 102; exact Calls.quiet_of (hP _)))
          go_wp2_with fail
          go_ret
          exact ⟨by rw [HO.out]; rfl, _, rfl⟩
    · have HO : Aside0 ((v.geo s).out b = false) := ⟨by rw [ho]; simp; omega⟩
      clear ho
      have e2 : decide (b < n) = false := decide_eq_false h2
      go_enter Tryz.func91, Tryz.ntmps91
      go_wp2_with fail
      go_quiet (first | (go_at_call 102; exact Calls.quiet_of (hP _)))
      go_wp2_with fail
      go_ret
      exact ⟨by rw [HO.out]; rfl, _, rfl⟩
  · have HO : Aside0 ((v.geo s).out b = false) := ⟨by rw [ho]; simp; omega⟩
    clear ho
    have e1 : decide (b ≥ 0) = false := decide_eq_false h1
    go_enter Tryz.func91, Tryz.ntmps91
    go_wp2_with fail
    go_quiet (first | (go_at_call 102; exact Calls.quiet_of (hP _)))
    go_wp2_with fail
    go_ret
    exact ⟨by rw [HO.out]; rfl, _, rfl⟩
/-- May a journal lie there? -/
def fitsB (n start size : Int) : Bool := decide (0 ≤ start) && decide (27 ≤ size) && decide (size ≤ n - start)
set_option maxRecDepth 100000 in
set_option maxHeartbeats 2000000 in
theorem fits_s (S : Sep w0 w (DevA d s :: R)) (start size : Int) (hs : start ≤ 9000000000000000000) : Calls Tryz.prog 81 #[.pointer (some ⟨d, 0, none⟩), .int .i64 start, .int .i64 size] w fun e w' => e = .returned (.bool (fitsB (s.n : Int) start size)) ∧ w' = w := by
  have hP := size_s S
  have hok := S.ok
  have hn1 : (s.n : Int) ≤ 4096 := by have := hok.n1; omega
  have hn0 : (0 : Int) ≤ (s.n : Int) := by omega
  have ho : fitsB (s.n : Int) start size = (decide (0 ≤ start) && decide (27 ≤ size) && decide (size ≤ (s.n : Int) - start)) := rfl
  generalize hn : (s.n : Int) = n at *
  clear S hok hn
  by_cases h1 : start ≥ 0
  · by_cases h2 : size ≥ 27
    · have hw : IntKind.i64.wrap (n - start) = n - start := by rw [IntKind.wrap_i64]; omega
      have HO : Aside0 (fitsB n start size = decide (size ≤ n - start)) := ⟨by rw [ho]; simp; omega⟩
      clear ho
      go_enter Tryz.func81, Tryz.ntmps81
      go_wp2_with (first | (go_at_call 102; refine hP.mono ?_; rintro _ _ ⟨rfl, rfl⟩))
      go_ret
      exact ⟨by rw [HO.out]; rfl, rfl⟩
    · have HO : Aside0 (fitsB n start size = false) := ⟨by rw [ho]; simp; omega⟩
      have n2 : decide (size ≥ 27) = false := decide_eq_false h2
      clear ho
      go_enter Tryz.func81, Tryz.ntmps81
      go_wp2_with fail
      go_ret
      exact ⟨by rw [HO.out]; rfl, rfl⟩
  · have HO : Aside0 (fitsB n start size = false) := ⟨by rw [ho]; simp; omega⟩
    have n1 : decide (start ≥ 0) = false := decide_eq_false h1
    clear ho
    go_enter Tryz.func81, Tryz.ntmps81
    go_wp2_with fail
    go_ret
    exact ⟨by rw [HO.out]; rfl, rfl⟩
end
end Go.Proofs.YtlhlmjkocmahmaaGreatDoor.Sep
/- headed. -/
namespace Go.Proofs.YtlhlmjkocmahmaaGreatDoor.Sep
open Go.Proofs Go.RowKit Go.Proofs.YtlhlmjkocmahmaaGreatDoorW.PrintWords Go.Proofs.YtlhlmjkocmahmaaGreatDoorW.PrintLast Go.Proofs.YtlhlmjkocmahmaaGreatDoorW.PrintMore Go.Proofs.YtlhlmjkocmahmaaGreatDoor.Dev Go.Proofs.YtlhlmjkocmahmaaGreatDoor.Errs Go.Proofs.YtlhlmjkocmahmaaGreatDoor.Jr Go.Proofs.YtlhlmjkocmahmaaGreatDoor.Help
set_option linter.unusedVariables false
set_option linter.unusedSimpArgs false
theorem errV_0 (what : ByteArray) {c : Int} (h : c = 0) : errV what c = .nilIface := by
  unfold errV
  rw [if_pos h]
theorem errV_1 (what : ByteArray) {c : Int} (h : ¬ c = 0) : errV what c = .iface 190 (.agg #[.string what, .iface 163 (.agg #[.int .i64 c])]) := by
  unfold errV lostV
  rw [if_neg h]
theorem flush_few (s : DS) : s.flush.2.pend.length ≤ s.pend.length := by
  unfold DS.flush
  split
  · exact Nat.zero_le _
  · rw [powered_pend]
    exact Nat.le_refl _
theorem write_few (s : DS) (b : Int) (d : List Int) : (s.write b d).2.pend.length ≤ s.pend.length + 1 := by
  unfold DS.write
  split
  · split
    · split
      · show (s.powered.2.pend ++ [_]).length ≤ _
        rw [List.length_append, powered_pend]
        simp
      · rw [powered_pend]
        omega
    · exact Nat.le_succ _
  · exact Nat.le_succ _
section
variable {w0 w w' : World} {R : List Asn} {p d : Nat} {v : JV} {s : DS}
set_option maxRecDepth 100000 in
set_option maxHeartbeats 4000000 in
theorem headed_s (S : Sep w0 w (JBlk p d v :: DevA d s :: R)) (hp : s.pend.length ≤ 1000000) :
    Calls Tryz.prog 89 #[.pointer (some ⟨p, 0, none⟩)] w fun e w' => ∃ what, e = .returned (errV what (Jr.headed (v.geo s) s v.seq v.place).1) ∧ Sep w0 w' (JBlk p d v :: DevA d (Jr.headed (v.geo s) s v.seq v.place).2 :: R) := by
  have c0 := S.cell 0 (v := .pointer (some ⟨d, 0, none⟩)) rfl
  have hfl := flush_s S.swap
  have hpf := flush_few s
  have hhd : Jr.headed (v.geo s) s v.seq v.place = if s.flush.1 = 0 then (if (s.flush.2.write v.start (headB v.seq v.place)).1 = 0 then (s.flush.2.write v.start (headB v.seq v.place)).2.flush else s.flush.2.write v.start (headB v.seq v.place)) else s.flush := rfl
  clear S
  by_cases hf : s.flush.1 = 0
  · rw [if_pos hf] at hhd
    by_cases hw : (s.flush.2.write v.start (headB v.seq v.place)).1 = 0
    · rw [if_pos hw] at hhd
      rw [hhd]
      clear hhd
      go_enter Tryz.func89, Tryz.ntmps89
      go_wp2_with fail
      refine hfl.mono ?_
      clear hfl
      rintro _ w1 ⟨rfl, S1⟩
      go_wp2_with fail
      refine (wrapped_s S1.swap _ _).mono ?_
      clear S1
      rintro _ w2 ⟨rfl, S2⟩
      rw [errV_0 _ rfl]
      go_wp2_with fail
      have d0 := S2.cell 0 (v := .pointer (some ⟨d, 0, none⟩)) rfl
      have d1 := S2.cell 1 (v := .int .i64 v.start) rfl
      have d3 := S2.cell 3 (v := .int .i64 v.seq) rfl
      have d4 := S2.cell 4 (v := .int .i64 v.place) rfl
      have hpw : s.flush.2.pend.length ≤ 1000000000000 := by omega
      go_region_held (fun W => W.cell? ⟨p, 0, none⟩ = some (.pointer (some ⟨d, 0, none⟩)) ∧ W.cell? ⟨p, 1, none⟩ = some (.int .i64 v.start) ∧ W.cell? ⟨p, 3, none⟩ = some (.int .i64 v.seq) ∧ W.cell? ⟨p, 4, none⟩ = some (.int .i64 v.place)) (refine ⟨?_, ?_, ?_, ?_⟩ <;> (repeat (first | (with_reducible assumption) | (with_reducible refine kd ?_))))
        (first
          | (go_at_call 114; refine (headBlock_s S2.drew v.seq v.place).mono ?_; rintro _ w3 ⟨g, rfl, S3⟩; have y0 := S3.swap.cell 0 (v := .pointer (some ⟨d, 0, none⟩)) rfl; have y1 := S3.swap.cell 1 (v := .int .i64 v.start) rfl; have y3 := S3.swap.cell 3 (v := .int .i64 v.seq) rfl; have y4 := S3.swap.cell 4 (v := .int .i64 v.place) rfl)
          | (go_at_call 87; refine (write_s S3.p2 v.start hpw).mono ?_; rintro _ w4 ⟨rfl, S4⟩; have z0 := S4.p2.cell 0 (v := .pointer (some ⟨d, 0, none⟩)) rfl; have z1 := S4.p2.cell 1 (v := .int .i64 v.start) rfl; have z3 := S4.p2.cell 3 (v := .int .i64 v.seq) rfl; have z4 := S4.p2.cell 4 (v := .int .i64 v.place) rfl)
          | (go_at_call 92; refine (wrapped_s S4.p2.d2 _ _).mono ?_; rintro _ w5 ⟨rfl, S5⟩; have x0 := S5.cell 0 (v := .pointer (some ⟨d, 0, none⟩)) rfl; have x1 := S5.cell 1 (v := .int .i64 v.start) rfl; have x3 := S5.cell 3 (v := .int .i64 v.seq) rfl; have x4 := S5.cell 4 (v := .int .i64 v.place) rfl; rw [errV_0 _ rfl]))
      go_wp2_with fail
      refine (flush_s S5.swap).mono ?_
      clear S5
      rintro _ w6 ⟨rfl, S6⟩
      go_wp2_with fail
      refine (wrapped_s S6.swap _ _).mono ?_
      clear S6
      rintro _ w7 ⟨rfl, S7⟩
      go_wp2_with fail
      go_ret
      exact ⟨_, rfl, S7⟩
    · rw [if_neg hw] at hhd
      rw [hhd]
      clear hhd
      go_enter Tryz.func89, Tryz.ntmps89
      go_wp2_with fail
      refine hfl.mono ?_
      clear hfl
      rintro _ w1 ⟨rfl, S1⟩
      go_wp2_with fail
      refine (wrapped_s S1.swap _ _).mono ?_
      clear S1
      rintro _ w2 ⟨rfl, S2⟩
      rw [errV_0 _ rfl]
      go_wp2_with fail
      have d0 := S2.cell 0 (v := .pointer (some ⟨d, 0, none⟩)) rfl
      have d1 := S2.cell 1 (v := .int .i64 v.start) rfl
      have d3 := S2.cell 3 (v := .int .i64 v.seq) rfl
      have d4 := S2.cell 4 (v := .int .i64 v.place) rfl
      have hpw : s.flush.2.pend.length ≤ 1000000000000 := by omega
      go_region_held (fun W => W.cell? ⟨p, 0, none⟩ = some (.pointer (some ⟨d, 0, none⟩)) ∧ W.cell? ⟨p, 1, none⟩ = some (.int .i64 v.start) ∧ W.cell? ⟨p, 3, none⟩ = some (.int .i64 v.seq) ∧ W.cell? ⟨p, 4, none⟩ = some (.int .i64 v.place)) (refine ⟨?_, ?_, ?_, ?_⟩ <;> (repeat (first | (with_reducible assumption) | (with_reducible refine kd ?_))))
        (first
          | (go_at_call 114; refine (headBlock_s S2.drew v.seq v.place).mono ?_; rintro _ w3 ⟨g, rfl, S3⟩; have y0 := S3.swap.cell 0 (v := .pointer (some ⟨d, 0, none⟩)) rfl; have y1 := S3.swap.cell 1 (v := .int .i64 v.start) rfl; have y3 := S3.swap.cell 3 (v := .int .i64 v.seq) rfl; have y4 := S3.swap.cell 4 (v := .int .i64 v.place) rfl)
          | (go_at_call 87; refine (write_s S3.p2 v.start hpw).mono ?_; rintro _ w4 ⟨rfl, S4⟩; have z0 := S4.p2.cell 0 (v := .pointer (some ⟨d, 0, none⟩)) rfl; have z1 := S4.p2.cell 1 (v := .int .i64 v.start) rfl; have z3 := S4.p2.cell 3 (v := .int .i64 v.seq) rfl; have z4 := S4.p2.cell 4 (v := .int .i64 v.place) rfl)
          | (go_at_call 92; refine (wrapped_s S4.p2.d2 _ _).mono ?_; rintro _ w5 ⟨rfl, S5⟩; have x0 := S5.cell 0 (v := .pointer (some ⟨d, 0, none⟩)) rfl; have x1 := S5.cell 1 (v := .int .i64 v.start) rfl; have x3 := S5.cell 3 (v := .int .i64 v.seq) rfl; have x4 := S5.cell 4 (v := .int .i64 v.place) rfl; rw [errV_1 _ hw]))
      go_wp2_with fail
      go_ret
      exact ⟨_, congrArg Ending.returned (errV_1 _ hw).symm, S5⟩
  · rw [if_neg hf] at hhd
    rw [hhd]
    clear hhd
    go_enter Tryz.func89, Tryz.ntmps89
    go_wp2_with fail
    refine hfl.mono ?_
    clear hfl
    rintro _ w1 ⟨rfl, S1⟩
    go_wp2_with fail
    refine (wrapped_s S1.swap _ _).mono ?_
    clear S1
    rintro _ w2 ⟨rfl, S2⟩
    rw [errV_1 _ hf]
    go_wp2_with fail
    go_ret
    exact ⟨_, congrArg Ending.returned (errV_1 _ hf).symm, S2⟩
end
end Go.Proofs.YtlhlmjkocmahmaaGreatDoor.Sep
/- checkpoint. -/
namespace Go.Proofs.YtlhlmjkocmahmaaGreatDoor.Sep
open Go.Proofs Go.RowKit Go.ChangeMaps Go.Proofs.YtlhlmjkocmahmaaGreatDoorW.PrintWords Go.Proofs.YtlhlmjkocmahmaaGreatDoorW.PrintLast Go.Proofs.YtlhlmjkocmahmaaGreatDoorW.PrintMore Go.Proofs.YtlhlmjkocmahmaaGreatDoor.Dev Go.Proofs.YtlhlmjkocmahmaaGreatDoor.Errs Go.Proofs.YtlhlmjkocmahmaaGreatDoor.Jr Go.Proofs.YtlhlmjkocmahmaaGreatDoor.Help Go.Proofs.YtlhlmjkocmahmaaGreatDoor.IMap
set_option linter.unusedVariables false
set_option linter.unusedSimpArgs false
/-! ### writes, one behind the other -/
theorem writes_app : ∀ (a : List (Int × List Int)) (s : DS) (b : List (Int × List Int)), Jr.writes s (a ++ b) = if (Jr.writes s a).1 = 0 then Jr.writes (Jr.writes s a).2 b else Jr.writes s a
  | [], s, b => by
    show Jr.writes s b = if (0 : Int) = 0 then Jr.writes s b else _
    rw [if_pos rfl]
  | x :: a, s, b => by
    show Jr.writes s (x :: (a ++ b)) = _
    have e : ∀ l, Jr.writes s (x :: l) = if (s.write x.1 x.2).1 = 0 then Jr.writes (s.write x.1 x.2).2 l else s.write x.1 x.2 := fun _ => rfl
    rw [e (a ++ b), e a]
    by_cases h : (s.write x.1 x.2).1 = 0
    · rw [if_pos h, if_pos h, writes_app a]
    · rw [if_neg h, if_neg h, if_neg h]
theorem writes_one (s : DS) (x : Int × List Int) : Jr.writes s [x] = if (s.write x.1 x.2).1 = 0 then (0, (s.write x.1 x.2).2) else s.write x.1 x.2 := rfl
theorem writes_few : ∀ (l : List (Int × List Int)) (s : DS), (Jr.writes s l).2.pend.length ≤ s.pend.length + l.length
  | [], s => Nat.le_refl _
  | x :: l, s => by
    have e : Jr.writes s (x :: l) = if (s.write x.1 x.2).1 = 0 then Jr.writes (s.write x.1 x.2).2 l else s.write x.1 x.2 := rfl
    have h1 := write_few s x.1 x.2
    rw [e, List.length_cons]
    split
    · have := writes_few l (s.write x.1 x.2).2
      omega
    · omega
theorem writes_next {s : DS} {L : List (Int × List Int)} {j : Nat} {x : Int × List Int} (h : L[j]? = some x) (h0 : (Jr.writes s (L.take j)).1 = 0) :
    (((Jr.writes s (L.take j)).2.write x.1 x.2).1 = 0 → Jr.writes s (L.take (j + 1)) = (0, ((Jr.writes s (L.take j)).2.write x.1 x.2).2)) ∧
    (¬ ((Jr.writes s (L.take j)).2.write x.1 x.2).1 = 0 → Jr.writes s L = (Jr.writes s (L.take j)).2.write x.1 x.2) := by
  constructor
  · intro h1
    rw [List.take_add_one, h, Option.toList_some, writes_app, if_pos h0, writes_one, if_pos h1]
  · intro h1
    have hj := (List.getElem?_eq_some_iff.1 h).1
    have hx := (List.getElem?_eq_some_iff.1 h).2
    have e : L = L.take j ++ (x :: L.drop (j + 1)) := by
      rw [← hx, ← List.drop_eq_getElem_cons hj, List.take_append_drop]
    have e2 : Jr.writes s L = Jr.writes s (L.take j ++ (x :: L.drop (j + 1))) := by rw [← e]
    rw [e2, writes_app, if_pos h0]
    show (if _ then _ else _) = _
    rw [if_neg h1]
section
variable {P : Program} {t k e : TypeId} {w0 w w' : World} {R : List Asn} {b g p d : Nat} {m : List (Int × Value)} {ps : List (Nat × List Int)} {l : List Int} {v : JV} {s : DS}
/-- `m[x]`, x being there. -/
theorem MapS.look0 (h : MapS w b m) (ht : P.underlying t = some (.map k e)) (hk : P.underlying k = some (.int .i64)) {x : Int} (hx : (Lit.int .i64 x).wf = true) {y : Value} (hy : SM.lkp m x = some y) :
    (Instr.lookup t (.map (some b)) (.int .i64 x) false).run P w = .ok y w := by
  obtain ⟨es, c, hb, H, _, _⟩ := h.is
  have K := Go.Maps.int_keyed hk
  have hkey := Go.Maps.keyOf_int_mk hk hx
  rcases K.find w hkey es.toList (keysOf hk H) with ⟨h1, h2⟩ | ⟨j, e0, h1, h2, h3⟩
  · rw [H.no h2] at hy
    cases hy
  · rw [(H.is x e0.val).2 ⟨j, e0, h2, h3, rfl⟩] at hy
    cases hy
    simp [Instr.lookup, run_underlying ht, MapKept.run_getObj_map hb, K.check w _ hkey, h1, Result.andThen]
theorem MapS.drew (h : MapS w b m) : MapS w.drew b m := h.move rfl
theorem Sep.map_clear (S : Sep w0 w (MapA b m :: R)) (ht : P.underlying t = some (.map k e)) : ∃ w', (∀ ty, (Builtin.clear_ #[t] ty #[.map (some b)]).run P w = .ok (.tuple #[]) w') ∧ Sep w0 w' (MapA b [] :: R) := by
  obtain ⟨es, c, hb, H, B, hs⟩ := S.map.is
  refine ⟨setBlock w b (.map #[] c), fun ty => ?_, S.map_to ⟨List.Pairwise.nil, _, _, heap_setBlock_same hb _, Holds.nil, ⟨by simp, by simp⟩, rfl⟩ rfl rfl rfl (by simp [setBlock]) fun i hi => heap_setBlock_other hb _ hi⟩
  simp [Builtin.clear_, run_underlying ht, MapKept.run_getObj_map hb, MapKept.run_setObj_map _ hb, Result.andThen, setBlock]
theorem write_pool (S : Sep w0 w (DevA d s :: PoolA ps :: R)) (x : Int) (hx : (g, l) ∈ ps) (hp : s.pend.length ≤ 1000000000000) :
    Calls Tryz.prog 87 #[.pointer (some ⟨d, 0, none⟩), .int .i64 x, rowV g] w fun e w' => e = .returned (.int .i64 (s.write x l).1) ∧ Sep w0 w' (DevA d (s.write x l).2 :: PoolA ps :: R) := by
  have hl : l.length = 512 := (S.swap.pool_reads hx).1
  have := write_part S x (A := some ⟨g, 0, none⟩) (c := 512) (l := l) (fun G hG => ⟨by rw [hl]; exact pool_reads_ hG hx, fun a e _ => by cases e; exact (hG.1 _ hx).2.2⟩) (by omega) hp
  rw [hl] at this
  exact this
theorem vals_at {M : MV} {j : Nat} {x : Int × (Nat × List Int)} (h : M[j]? = some x) : (vals M)[j]? = some (x.1, rowV x.2.1) ∧ (dat M)[j]? = some (x.1, x.2.2) := by
  unfold vals dat SM.on
  rw [List.getElem?_map, List.getElem?_map, h]
  exact ⟨rfl, rfl⟩
/-- The journal behind a checkpoint. -/
def cpV (v : JV) (s : DS) (also : Bool) : JV :=
  if v.M = [] ∧ also = false then v else if (Jr.checkpoint (v.geo s) s ⟨v.seq, v.place, v.free, dat v.M⟩ also).1 = 0 then { v with free := v.size - 1, M := [] } else v
set_option maxRecDepth 100000 in
set_option maxHeartbeats 8000000 in
theorem checkpoint_s (S : Sep w0 w (JBlk p d v :: MapA v.bm (vals v.M) :: PoolA ps :: DevA d s :: R)) (hI : Ins v.M ps) (hG : (v.geo s).Ok) (hp : s.pend.length ≤ 100000) (hm : v.M.length ≤ 100000) (hk : ∀ x ∈ v.M, 0 ≤ x.1 ∧ x.1 ≤ 4096) (also : Bool) :
    Calls Tryz.prog 85 #[.pointer (some ⟨p, 0, none⟩), .bool also] w fun e w' => ∃ what, e = .returned (errV what (Jr.checkpoint (v.geo s) s ⟨v.seq, v.place, v.free, dat v.M⟩ also).1) ∧
      Sep w0 w' (JBlk p d (cpV v s also) :: MapA v.bm (vals (cpV v s also).M) :: PoolA ps :: DevA d (Jr.checkpoint (v.geo s) s ⟨v.seq, v.place, v.free, dat v.M⟩ also).2.1 :: R) := by
  have g1 : 27 ≤ v.size := hG.size0
  have g2 : v.size ≤ (s.n : Int) - v.start := hG.fit
  have g3 : (s.n : Int) ≤ 4096 := hG.n1
  have g0 : 0 ≤ v.start := hG.start0
  have hup := S.swap.map.up
  have c6 := S.cell 6 (v := .map (some v.bm)) rfl
  have hlen := fun ty => S.swap.map.len (P := Tryz.prog) Tryz.underlying113 ty
  have hvl : (vals v.M).length = v.M.length := SM.len_on _ _
  have hdl : (dat v.M).length = v.M.length := SM.len_on _ _
  rw [hvl] at hlen
  by_cases hno : v.M = [] ∧ also = false
  · obtain ⟨h1, rfl⟩ := hno
    have hlen0 : v.M.length = 0 := by rw [h1]; rfl
    have e1 : cpV v s false = v := by unfold cpV; rw [if_pos ⟨h1, rfl⟩]
    have e2 : Jr.checkpoint (v.geo s) s ⟨v.seq, v.place, v.free, dat v.M⟩ false = (0, s, ⟨v.seq, v.place, v.free, dat v.M⟩) := by
      unfold Jr.checkpoint
      rw [if_pos ⟨by rw [h1]; rfl, rfl⟩]
    rw [e1, e2]
    rw [hlen0] at hlen
    have HS := Aside0.mk S
    clear S hup h1 e1 e2 hvl hdl hI hk hlen0
    go_enter Tryz.func85, Tryz.ntmps85
    go_wp2_with fail
    go_ret
    exact ⟨ByteArray.empty, by rw [errV_0 _ rfl]; rfl, HS.out⟩
  · have hrun : (v.M.length : Int) = 0 → also = true := by
      intro q
      cases also with
      | true => rfl
      | false => exact absurd ⟨List.length_eq_zero_iff.1 (by omega), rfl⟩ hno
    have hcp : Jr.checkpoint (v.geo s) s ⟨v.seq, v.place, v.free, dat v.M⟩ also = if (Jr.writes s (dat v.M)).1 = 0 then (if (Jr.headed (v.geo s) (Jr.writes s (dat v.M)).2 v.seq v.place).1 = 0 then (0, (Jr.headed (v.geo s) (Jr.writes s (dat v.M)).2 v.seq v.place).2, ⟨v.seq, v.place, (v.geo s).places, []⟩) else ((Jr.headed (v.geo s) (Jr.writes s (dat v.M)).2 v.seq v.place).1, (Jr.headed (v.geo s) (Jr.writes s (dat v.M)).2 v.seq v.place).2, ⟨v.seq, v.place, v.free, dat v.M⟩)) else ((Jr.writes s (dat v.M)).1, (Jr.writes s (dat v.M)).2, ⟨v.seq, v.place, v.free, dat v.M⟩) := by
      unfold Jr.checkpoint
      rw [if_neg]
      rintro ⟨q1, q2⟩
      refine hno ⟨?_, q2⟩
      cases hM : v.M with
      | nil => rfl
      | cons x r => rw [hM] at q1; cases q1
    have hcv : cpV v s also = if (Jr.checkpoint (v.geo s) s ⟨v.seq, v.place, v.free, dat v.M⟩ also).1 = 0 then { v with free := v.size - 1, M := [] } else v := by unfold cpV; rw [if_neg hno]
    have hris := rising_s S.swap (by rw [hvl]; omega)
    rw [hvl] at hris
    have HCP := Aside0.mk hcp
    have HCV := Aside0.mk hcv
    have HUP := Aside0.mk hup
    clear hcp hcv hno hup
    have htest : ((v.M.length : Int) == 0 && !also) = false := by
      cases hz : ((v.M.length : Int) == 0)
      · rfl
      · rw [hrun (by simpa using hz)]
        rfl
    have HRD := Aside0.mk hvl
    have HDL := Aside0.mk hdl
    have HI := Aside0.mk hI
    have HK := Aside0.mk hk
    clear hvl hdl hI hk
    go_enter Tryz.func85, Tryz.ntmps85
    cases hz : ((v.M.length : Int) == 0)
    · go_wp2_with fail
      refine hris.mono ?_
      clear hris S
      rintro _ w1 ⟨Ak, ck, rfl, S⟩
      go_wp2_with fail
      go_loopw [25] (fun i wr => ∃ (j : Nat), j ≤ v.M.length ∧ i = .int .i64 (j : Int) ∧ (Jr.writes s ((dat v.M).take j)).1 = 0 ∧ Sep w0 wr (Ints Ak v.M.length ck (SM.keys (vals v.M)) :: MapA v.bm (vals v.M) :: JBlk p d v :: DevA d (Jr.writes s ((dat v.M).take j)).2 :: PoolA ps :: R)) (fun i _ => ((v.M.length : Int) - intOf i).toNat)
      case atStart => exact ⟨0, Nat.zero_le _, rfl, rfl, S.p4.p3.p3.p3⟩
      case round =>
        clear S
        obtain ⟨j, hj, rfl, h0, S⟩ := hrel
        by_cases hjm : j < v.M.length
        · have hi : (j : Int) < (v.M.length : Int) := by omega
          obtain ⟨gk, rfl⟩ := S.addr (by omega)
          obtain ⟨x, hx⟩ : ∃ x, v.M[j]? = some x := ⟨_, List.getElem?_eq_getElem hjm⟩
          have hxm := List.mem_of_getElem? hx
          have hxp : (x.2.1, x.2.2) ∈ ps := HI.out x hxm
          have hxk := HK.out x hxm
          have hva := vals_at hx
          have hkey := S.elem j hjm
          have hke : (SM.keys (vals v.M)).getD j 0 = x.1 := by
            unfold SM.keys
            rw [List.getD_eq_getElem?_getD, List.getElem?_map, hva.1]
            rfl
          rw [hke] at hkey
          have hwf : (Lit.int .i64 x.1).wf = true := WalkArith.wf_i64 (by omega)
          have hlk0 : SM.lkp (vals v.M) x.1 = some (rowV x.2.1) := SM.look_at HUP.out hva.1
          have hlk := fun W (h : MapS W v.bm (vals v.M)) => MapS.look0 (P := Tryz.prog) h Tryz.underlying113 Tryz.underlying3 hwf hlk0
          have k0 := S.p2.cell 0 (v := .pointer (some ⟨d, 0, none⟩)) rfl
          have k6 := S.p2.cell 6 (v := .map (some v.bm)) rfl
          have km := S.swap.map
          have hnx := writes_next hva.2 h0
          have hpj : (Jr.writes s ((dat v.M).take j)).2.pend.length ≤ 1000000000000 := by
            have := writes_few ((dat v.M).take j) s
            rw [List.length_take] at this
            have := Nat.min_le_left j (dat v.M).length
            omega
          have HN := Aside0.mk hnx
          have HH0 := Aside0.mk h0
          clear hnx hx hva hke hlk0 h0 hxm hxk
          by_cases hw : ((Jr.writes s ((dat v.M).take j)).2.write x.1 x.2.2).1 = 0
          · go_wp2_with fail
            go_region_held (fun W => W.cell? ⟨p, 0, none⟩ = some (.pointer (some ⟨d, 0, none⟩)) ∧ W.cell? ⟨p, 6, none⟩ = some (.map (some v.bm)) ∧ MapS W v.bm (vals v.M)) (refine ⟨?_, ?_, ?_⟩ <;> (repeat (first | (with_reducible assumption) | (with_reducible refine kd ?_) | (with_reducible refine MapS.drew ?_))))
              (first
                | (go_at_call 87; refine (write_pool S.drew.p4.p4 x.1 hxp hpj).mono ?_; rintro _ w4 ⟨rfl, S4⟩; have z0 := S4.p4.cell 0 (v := .pointer (some ⟨d, 0, none⟩)) rfl; have z6 := S4.p4.cell 6 (v := .map (some v.bm)) rfl; have zm := S4.p3.map)
                | (go_at_call 92; refine (wrapped_s S4 _ _).mono ?_; rintro _ w5 ⟨rfl, S5⟩; have x0 := S5.p4.cell 0 (v := .pointer (some ⟨d, 0, none⟩)) rfl; have x6 := S5.p4.cell 6 (v := .map (some v.bm)) rfl; have xm := S5.p3.map; rw [errV_0 _ rfl]))
            have HW := Aside0.mk hw
            clear hw S S4
            have SF : Sep w0 w5 (Ints (some ⟨gk, 0, none⟩) v.M.length ck (SM.keys (vals v.M)) :: MapA v.bm (vals v.M) :: JBlk p d v :: DevA d (Jr.writes s ((dat v.M).take (j + 1))).2 :: PoolA ps :: R) := by
              rw [(HN.out.1 HW.out)]
              exact S5.p4.p4.p4
            have h1 : (Jr.writes s ((dat v.M).take (j + 1))).1 = 0 := by rw [(HN.out.1 HW.out)]
            have HF := Aside0.mk SF
            have H1 := Aside0.mk h1
            clear S5 SF h1
            go_wp2_with fail
            exact ⟨⟨j + 1, by omega, by go_num, H1.out, HF.out⟩, by simp [intOf]; omega⟩
          · go_wp2_with fail
            go_region_held (fun W => W.cell? ⟨p, 0, none⟩ = some (.pointer (some ⟨d, 0, none⟩)) ∧ W.cell? ⟨p, 6, none⟩ = some (.map (some v.bm)) ∧ MapS W v.bm (vals v.M)) (refine ⟨?_, ?_, ?_⟩ <;> (repeat (first | (with_reducible assumption) | (with_reducible refine kd ?_) | (with_reducible refine MapS.drew ?_))))
              (first
                | (go_at_call 87; refine (write_pool S.drew.p4.p4 x.1 hxp hpj).mono ?_; rintro _ w4 ⟨rfl, S4⟩; have z0 := S4.p4.cell 0 (v := .pointer (some ⟨d, 0, none⟩)) rfl; have z6 := S4.p4.cell 6 (v := .map (some v.bm)) rfl; have zm := S4.p3.map)
                | (go_at_call 92; refine (wrapped_s S4 _ _).mono ?_; rintro _ w5 ⟨rfl, S5⟩; have x0 := S5.p4.cell 0 (v := .pointer (some ⟨d, 0, none⟩)) rfl; have x6 := S5.p4.cell 6 (v := .map (some v.bm)) rfl; have xm := S5.p3.map; rw [errV_1 _ hw]))
            have HW := Aside0.mk hw
            clear hw S S4
            have e1 := HN.out.2 HW.out
            have e2 := HCP.out
            rw [e1, if_neg HW.out] at e2
            have e3 := HCV.out
            rw [e2, if_neg (show ¬ ((Jr.writes s ((dat v.M).take j)).2.write x.1 x.2.2).1 = 0 from HW.out)] at e3
            have E2 := Aside0.mk e2
            have E3 := Aside0.mk e3
            have HF := Aside0.mk S5.d2.p1.p2.p3
            clear e1 e2 e3 S5
            go_wp2_with fail
            go_ret
            rw [E2.out, E3.out]
            exact ⟨_, congrArg Ending.returned (errV_1 _ HW.out).symm, HF.out⟩
        · obtain rfl : j = v.M.length := by omega
          have hi : ¬ ((v.M.length : Int) < (v.M.length : Int)) := by omega
          have e : (dat v.M).take v.M.length = dat v.M := by rw [← HDL.out]; exact List.take_length
          rw [e] at S h0
          have hpw := writes_few (dat v.M) s
          rw [HDL.out] at hpw
          have hhd := headed_s S.drop.p2.p2 (by omega)
          have e2 := HCP.out
          rw [if_pos h0] at e2
          have E2 := Aside0.mk e2
          clear S h0 e e2 hjm hj
          have hhd2 : Calls Tryz.prog 89 #[.pointer (some ⟨p, 0, none⟩)] wr fun e w' => ∃ what, e = .returned (errV what (Jr.headed (v.geo s) (Jr.writes s (dat v.M)).2 v.seq v.place).1) ∧ Sep w0 w' (JBlk p d v :: DevA d (Jr.headed (v.geo s) (Jr.writes s (dat v.M)).2 v.seq v.place).2 :: MapA v.bm (vals v.M) :: PoolA ps :: R) := hhd
          have e3 := HCV.out
          have e4 := E2.out
          rw [e4] at e3
          have E3 := Aside0.mk e3
          clear hhd e3 e4
          generalize hhq : Jr.headed (v.geo s) (Jr.writes s (dat v.M)).2 v.seq v.place = hq at *
          clear hhq HCP HCV
          go_wp2_with fail
          refine hhd2.mono ?_
          clear hhd2
          rintro _ w5 ⟨what, rfl, S5⟩
          by_cases hh : hq.1 = 0
          · obtain ⟨w6, hcl, S6⟩ := S5.p2.map_clear (P := Tryz.prog) Tryz.underlying113
            have y6 := S5.cell 6 (v := .map (some v.bm)) rfl
            have y5 := S6.swap.cell 5 (v := .int .i64 v.free) rfl
            have f5 := S6.swap.free 5
            have hpl := places_s S6.swap (by omega) (by omega)
            have S7 := S6.swap.set 5 (.int .i64 (v.size - 1))
            have e3 := E3.out
            have e2 := E2.out
            rw [if_pos hh] at e2 e3
            rw [if_pos (show (0 : Int) = 0 from rfl)] at e3
            have F2 := Aside0.mk e2
            have F3 := Aside0.mk e3
            have HF := Aside0.mk S7.p3.p2.p2
            clear E2 E3 e2 e3 S5 S6 S7
            rw [errV_0 _ hh]
            clear hh
            go_wp2_with (first | (go_at_call 68; refine hpl.mono ?_; rintro _ _ ⟨rfl, rfl⟩))
            go_ret
            rw [F2.out, F3.out]
            exact ⟨ByteArray.empty, by rw [errV_0 _ rfl]; rfl, HF.out⟩
          · have e3 := E3.out
            have e2 := E2.out
            rw [if_neg hh] at e2 e3
            rw [if_neg hh] at e3
            have F2 := Aside0.mk e2
            have F3 := Aside0.mk e3
            have HH := Aside0.mk hh
            have HF := Aside0.mk S5.p3.p3.p2
            clear E2 E3 e2 e3
            rw [errV_1 _ hh]
            clear hh S5
            go_wp2_with fail
            go_ret
            rw [F2.out, F3.out]
            exact ⟨_, congrArg Ending.returned (errV_1 _ HH.out).symm, HF.out⟩
    · have hal := hrun (by simpa using hz)
      subst hal
      go_wp2_with fail
      refine hris.mono ?_
      clear hris S
      rintro _ w1 ⟨Ak, ck, rfl, S⟩
      go_wp2_with fail
      go_loopw [25] (fun i wr => ∃ (j : Nat), j ≤ v.M.length ∧ i = .int .i64 (j : Int) ∧ (Jr.writes s ((dat v.M).take j)).1 = 0 ∧ Sep w0 wr (Ints Ak v.M.length ck (SM.keys (vals v.M)) :: MapA v.bm (vals v.M) :: JBlk p d v :: DevA d (Jr.writes s ((dat v.M).take j)).2 :: PoolA ps :: R)) (fun i _ => ((v.M.length : Int) - intOf i).toNat)
      case atStart => exact ⟨0, Nat.zero_le _, rfl, rfl, S.p4.p3.p3.p3⟩
      case round =>
        clear S
        obtain ⟨j, hj, rfl, h0, S⟩ := hrel
        by_cases hjm : j < v.M.length
        · have hi : (j : Int) < (v.M.length : Int) := by omega
          obtain ⟨gk, rfl⟩ := S.addr (by omega)
          obtain ⟨x, hx⟩ : ∃ x, v.M[j]? = some x := ⟨_, List.getElem?_eq_getElem hjm⟩
          have hxm := List.mem_of_getElem? hx
          have hxp : (x.2.1, x.2.2) ∈ ps := HI.out x hxm
          have hxk := HK.out x hxm
          have hva := vals_at hx
          have hkey := S.elem j hjm
          have hke : (SM.keys (vals v.M)).getD j 0 = x.1 := by
            unfold SM.keys
            rw [List.getD_eq_getElem?_getD, List.getElem?_map, hva.1]
            rfl
          rw [hke] at hkey
          have hwf : (Lit.int .i64 x.1).wf = true := WalkArith.wf_i64 (by omega)
          have hlk0 : SM.lkp (vals v.M) x.1 = some (rowV x.2.1) := SM.look_at HUP.out hva.1
          have hlk := fun W (h : MapS W v.bm (vals v.M)) => MapS.look0 (P := Tryz.prog) h Tryz.underlying113 Tryz.underlying3 hwf hlk0
          have k0 := S.p2.cell 0 (v := .pointer (some ⟨d, 0, none⟩)) rfl
          have k6 := S.p2.cell 6 (v := .map (some v.bm)) rfl
          have km := S.swap.map
          have hnx := writes_next hva.2 h0
          have hpj : (Jr.writes s ((dat v.M).take j)).2.pend.length ≤ 1000000000000 := by
            have := writes_few ((dat v.M).take j) s
            rw [List.length_take] at this
            have := Nat.min_le_left j (dat v.M).length
            omega
          have HN := Aside0.mk hnx
          have HH0 := Aside0.mk h0
          clear hnx hx hva hke hlk0 h0 hxm hxk
          by_cases hw : ((Jr.writes s ((dat v.M).take j)).2.write x.1 x.2.2).1 = 0
          · go_wp2_with fail
            go_region_held (fun W => W.cell? ⟨p, 0, none⟩ = some (.pointer (some ⟨d, 0, none⟩)) ∧ W.cell? ⟨p, 6, none⟩ = some (.map (some v.bm)) ∧ MapS W v.bm (vals v.M)) (refine ⟨?_, ?_, ?_⟩ <;> (repeat (first | (with_reducible assumption) | (with_reducible refine kd ?_) | (with_reducible refine MapS.drew ?_))))
              (first
                | (go_at_call 87; refine (write_pool S.drew.p4.p4 x.1 hxp hpj).mono ?_; rintro _ w4 ⟨rfl, S4⟩; have z0 := S4.p4.cell 0 (v := .pointer (some ⟨d, 0, none⟩)) rfl; have z6 := S4.p4.cell 6 (v := .map (some v.bm)) rfl; have zm := S4.p3.map)
                | (go_at_call 92; refine (wrapped_s S4 _ _).mono ?_; rintro _ w5 ⟨rfl, S5⟩; have x0 := S5.p4.cell 0 (v := .pointer (some ⟨d, 0, none⟩)) rfl; have x6 := S5.p4.cell 6 (v := .map (some v.bm)) rfl; have xm := S5.p3.map; rw [errV_0 _ rfl]))
            have HW := Aside0.mk hw
            clear hw S S4
            have SF : Sep w0 w5 (Ints (some ⟨gk, 0, none⟩) v.M.length ck (SM.keys (vals v.M)) :: MapA v.bm (vals v.M) :: JBlk p d v :: DevA d (Jr.writes s ((dat v.M).take (j + 1))).2 :: PoolA ps :: R) := by
              rw [(HN.out.1 HW.out)]
              exact S5.p4.p4.p4
            have h1 : (Jr.writes s ((dat v.M).take (j + 1))).1 = 0 := by rw [(HN.out.1 HW.out)]
            have HF := Aside0.mk SF
            have H1 := Aside0.mk h1
            clear S5 SF h1
            go_wp2_with fail
            exact ⟨⟨j + 1, by omega, by go_num, H1.out, HF.out⟩, by simp [intOf]; omega⟩
          · go_wp2_with fail
            go_region_held (fun W => W.cell? ⟨p, 0, none⟩ = some (.pointer (some ⟨d, 0, none⟩)) ∧ W.cell? ⟨p, 6, none⟩ = some (.map (some v.bm)) ∧ MapS W v.bm (vals v.M)) (refine ⟨?_, ?_, ?_⟩ <;> (repeat (first | (with_reducible assumption) | (with_reducible refine kd ?_) | (with_reducible refine MapS.drew ?_))))
              (first
                | (go_at_call 87; refine (write_pool S.drew.p4.p4 x.1 hxp hpj).mono ?_; rintro _ w4 ⟨rfl, S4⟩; have z0 := S4.p4.cell 0 (v := .pointer (some ⟨d, 0, none⟩)) rfl; have z6 := S4.p4.cell 6 (v := .map (some v.bm)) rfl; have zm := S4.p3.map)
                | (go_at_call 92; refine (wrapped_s S4 _ _).mono ?_; rintro _ w5 ⟨rfl, S5⟩; have x0 := S5.p4.cell 0 (v := .pointer (some ⟨d, 0, none⟩)) rfl; have x6 := S5.p4.cell 6 (v := .map (some v.bm)) rfl; have xm := S5.p3.map; rw [errV_1 _ hw]))
            have HW := Aside0.mk hw
            clear hw S S4
            have e1 := HN.out.2 HW.out
            have e2 := HCP.out
            rw [e1, if_neg HW.out] at e2
            have e3 := HCV.out
            rw [e2, if_neg (show ¬ ((Jr.writes s ((dat v.M).take j)).2.write x.1 x.2.2).1 = 0 from HW.out)] at e3
            have E2 := Aside0.mk e2
            have E3 := Aside0.mk e3
            have HF := Aside0.mk S5.d2.p1.p2.p3
            clear e1 e2 e3 S5
            go_wp2_with fail
            go_ret
            rw [E2.out, E3.out]
            exact ⟨_, congrArg Ending.returned (errV_1 _ HW.out).symm, HF.out⟩
        · obtain rfl : j = v.M.length := by omega
          have hi : ¬ ((v.M.length : Int) < (v.M.length : Int)) := by omega
          have e : (dat v.M).take v.M.length = dat v.M := by rw [← HDL.out]; exact List.take_length
          rw [e] at S h0
          have hpw := writes_few (dat v.M) s
          rw [HDL.out] at hpw
          have hhd := headed_s S.drop.p2.p2 (by omega)
          have e2 := HCP.out
          rw [if_pos h0] at e2
          have E2 := Aside0.mk e2
          clear S h0 e e2 hjm hj
          have hhd2 : Calls Tryz.prog 89 #[.pointer (some ⟨p, 0, none⟩)] wr fun e w' => ∃ what, e = .returned (errV what (Jr.headed (v.geo s) (Jr.writes s (dat v.M)).2 v.seq v.place).1) ∧ Sep w0 w' (JBlk p d v :: DevA d (Jr.headed (v.geo s) (Jr.writes s (dat v.M)).2 v.seq v.place).2 :: MapA v.bm (vals v.M) :: PoolA ps :: R) := hhd
          have e3 := HCV.out
          have e4 := E2.out
          rw [e4] at e3
          have E3 := Aside0.mk e3
          clear hhd e3 e4
          generalize hhq : Jr.headed (v.geo s) (Jr.writes s (dat v.M)).2 v.seq v.place = hq at *
          clear hhq HCP HCV
          go_wp2_with fail
          refine hhd2.mono ?_
          clear hhd2
          rintro _ w5 ⟨what, rfl, S5⟩
          by_cases hh : hq.1 = 0
          · obtain ⟨w6, hcl, S6⟩ := S5.p2.map_clear (P := Tryz.prog) Tryz.underlying113
            have y6 := S5.cell 6 (v := .map (some v.bm)) rfl
            have y5 := S6.swap.cell 5 (v := .int .i64 v.free) rfl
            have f5 := S6.swap.free 5
            have hpl := places_s S6.swap (by omega) (by omega)
            have S7 := S6.swap.set 5 (.int .i64 (v.size - 1))
            have e3 := E3.out
            have e2 := E2.out
            rw [if_pos hh] at e2 e3
            rw [if_pos (show (0 : Int) = 0 from rfl)] at e3
            have F2 := Aside0.mk e2
            have F3 := Aside0.mk e3
            have HF := Aside0.mk S7.p3.p2.p2
            clear E2 E3 e2 e3 S5 S6 S7
            rw [errV_0 _ hh]
            clear hh
            go_wp2_with (first | (go_at_call 68; refine hpl.mono ?_; rintro _ _ ⟨rfl, rfl⟩))
            go_ret
            rw [F2.out, F3.out]
            exact ⟨ByteArray.empty, by rw [errV_0 _ rfl]; rfl, HF.out⟩
          · have e3 := E3.out
            have e2 := E2.out
            rw [if_neg hh] at e2 e3
            rw [if_neg hh] at e3
            have F2 := Aside0.mk e2
            have F3 := Aside0.mk e3
            have HH := Aside0.mk hh
            have HF := Aside0.mk S5.p3.p3.p2
            clear E2 E3 e2 e3
            rw [errV_1 _ hh]
            clear hh S5
            go_wp2_with fail
            go_ret
            rw [F2.out, F3.out]
            exact ⟨_, congrArg Ending.returned (errV_1 _ HH.out).symm, HF.out⟩
end
end Go.Proofs.YtlhlmjkocmahmaaGreatDoor.Sep
/- committed, Check, State. -/
namespace Go.Proofs.YtlhlmjkocmahmaaGreatDoor.Sep
open Go.Proofs Go.RowKit Go.ChangeMaps Go.Proofs.YtlhlmjkocmahmaaGreatDoorW.PrintWords Go.Proofs.YtlhlmjkocmahmaaGreatDoorW.PrintLast Go.Proofs.YtlhlmjkocmahmaaGreatDoorW.PrintMore Go.Proofs.YtlhlmjkocmahmaaGreatDoor.Dev Go.Proofs.YtlhlmjkocmahmaaGreatDoor.Errs Go.Proofs.YtlhlmjkocmahmaaGreatDoor.Jr Go.Proofs.YtlhlmjkocmahmaaGreatDoor.Help Go.Proofs.YtlhlmjkocmahmaaGreatDoor.IMap
set_option linter.unusedVariables false
set_option linter.unusedSimpArgs false
theorem zeroBytes (w : World) : (zeroValue 57).run Tryz.prog w = .ok (.slice none 0 0) w := by kernel_rfl
theorem vals_look (M : MV) (b : Int) : SM.lkp (vals M) b = (SM.lkp M b).map fun x => rowV x.1 := SM.look_on _ _ _
theorem dat_look (M : MV) (b : Int) : SM.lkp (dat M) b = (SM.lkp M b).map fun x => x.2 := SM.look_on _ _ _
section
variable {w0 w w' : World} {R : List Asn} {p d : Nat} {ps : List (Nat × List Int)} {v : JV} {s : DS}
/-- A block as it was committed last; the code. -/
def committedP (v : JV) (s : DS) (b : Int) : List Int × Int := match SM.lkp (dat v.M) b with | some l => (l, 0) | none => s.read b
set_option maxRecDepth 100000 in
set_option maxHeartbeats 4000000 in
theorem committed_s (S : Sep w0 w (JBlk p d v :: MapA v.bm (vals v.M) :: PoolA ps :: DevA d s :: R)) (hI : Ins v.M ps) (b : Int) (hb : 0 ≤ b ∧ b ≤ 4096) :
    Calls Tryz.prog 62 #[.pointer (some ⟨p, 0, none⟩), .int .i64 b] w fun e w' => ∃ A n c what, e = .returned (.tuple #[.slice A n c, errV what (committedP v s b).2]) ∧ ReadsInt w' .u8 A n (committedP v s b).1 ∧
      Sep w0 w' (JBlk p d v :: MapA v.bm (vals v.M) :: PoolA ps :: DevA d s :: R) := by
  have c0 := S.cell 0 (v := .pointer (some ⟨d, 0, none⟩)) rfl
  have c6 := S.cell 6 (v := .map (some v.bm)) rfl
  have hwf : (Lit.int .i64 b).wf = true := WalkArith.wf_i64 (by omega)
  have hlk := S.swap.map.at_.look (P := Tryz.prog) Tryz.underlying113 Tryz.underlying3 (zeroBytes w) hwf
  rw [vals_look] at hlk
  unfold committedP
  rw [dat_look]
  cases hx : SM.lkp v.M b with
  | some x =>
    rw [hx] at hlk
    have hm := SM.look_mem hx
    have hrd := S.p2.pool_reads (g := x.1) (d := x.2) (hI _ hm)
    have HR := Aside0.mk hrd
    have HS := Aside0.mk S
    clear S hrd hm hx hI
    simp only [Option.map_some, Option.getD_some, Option.isSome_some] at hlk ⊢
    unfold rowV at hlk
    go_enter Tryz.func62, Tryz.ntmps62
    go_wp2_with fail
    go_ret2
    exact ⟨_, 512, 512, ByteArray.empty, by rw [errV_0 _ rfl]; rfl, HR.out, HS.out⟩
  | none =>
    rw [hx] at hlk
    simp only [Option.map_none, Option.getD_none, Option.isSome_none] at hlk ⊢
    have hP := read_s S.p3 b
    clear S hx hI
    go_enter Tryz.func62, Tryz.ntmps62
    go_wp2_with fail
    refine hP.mono ?_
    clear hP
    rintro _ w1 ⟨A, c, rfl, S⟩
    go_wp2_with fail
    refine (wrapped_s S _ _).mono ?_
    clear S
    rintro _ w2 ⟨rfl, S⟩
    go_wp2_with fail
    go_ret2
    exact ⟨A, _, c, _, rfl, S.reads, S.drop.p3.p3.p3⟩
set_option maxRecDepth 100000 in
set_option maxHeartbeats 4000000 in
theorem state_s (S : Sep w0 w (JBlk p d v :: MapA v.bm (vals v.M) :: R)) :
    Calls Tryz.prog 53 #[.pointer (some ⟨p, 0, none⟩)] w fun e w' => e = .returned (if v.ended then .tuple #[.int .i64 0, .int .i64 0, .int .i64 0] else .tuple #[.int .i64 v.seq, .int .i64 v.free, .int .i64 (v.M.length : Int)]) ∧ Sep w0 w' (JBlk p d v :: MapA v.bm (vals v.M) :: R) := by
  have c3 := S.cell 3 (v := .int .i64 v.seq) rfl
  have c5 := S.cell 5 (v := .int .i64 v.free) rfl
  have c6 := S.cell 6 (v := .map (some v.bm)) rfl
  have c8 := S.cell 8 (v := .bool v.ended) rfl
  have hvl : (vals v.M).length = v.M.length := SM.len_on _ _
  have hlen := fun k ty => (S.drewN k).swap.map.len (P := Tryz.prog) Tryz.underlying113 ty
  rw [hvl] at hlen
  have HS := Aside0.mk S
  clear S hvl
  cases he : v.ended
  · rw [he] at c8
    clear he
    go_enter Tryz.func53, Tryz.ntmps53
    go_wp2_with fail
    go_quiet (fail)
    go_wp2_with fail
    go_ret3
    exact ⟨rfl, (HS.out).drewN _⟩
  · rw [he] at c8
    clear he
    go_enter Tryz.func53, Tryz.ntmps53
    go_wp2_with fail
    go_ret3
    exact ⟨rfl, HS.out⟩
/-- What Check answers; the journal behind it. -/
def checkE (v : JV) (s : DS) : Int := if aliveE v s = 0 then (Jr.checkpoint (v.geo s) s ⟨v.seq, v.place, v.free, dat v.M⟩ false).1 else aliveE v s
def checkV (v : JV) (s : DS) : JV := if aliveE v s = 0 then (if (Jr.checkpoint (v.geo s) s ⟨v.seq, v.place, v.free, dat v.M⟩ false).1 = 0 then cpV v s false else { cpV v s false with tx := none, ended := true }) else aliveV v s
def checkD (v : JV) (s : DS) : DS := if aliveE v s = 0 then (Jr.checkpoint (v.geo s) s ⟨v.seq, v.place, v.free, dat v.M⟩ false).2.1 else s
theorem aliveV_0 {v : JV} {s : DS} (h : aliveE v s = 0) : aliveV v s = v := by
  unfold aliveE at h
  unfold aliveV
  split at h
  · cases h
  · split at h
    · cases h
    · rw [if_neg (by assumption), if_neg (by assumption)]
theorem aliveV_M (v : JV) (s : DS) : (aliveV v s).M = v.M ∧ (aliveV v s).bm = v.bm := by
  unfold aliveV
  repeat' split
  all_goals exact ⟨rfl, rfl⟩
theorem cpV_bm (v : JV) (s : DS) (also : Bool) : (cpV v s also).bm = v.bm := by
  unfold cpV
  repeat' split
  all_goals rfl
end
end Go.Proofs.YtlhlmjkocmahmaaGreatDoor.Sep
/- A transaction in memory; its small methods. -/
namespace Go.Proofs.YtlhlmjkocmahmaaGreatDoor.Sep
open Go.Proofs Go.RowKit Go.ChangeMaps Go.Proofs.YtlhlmjkocmahmaaGreatDoorW.PrintWords Go.Proofs.YtlhlmjkocmahmaaGreatDoorW.PrintLast Go.Proofs.YtlhlmjkocmahmaaGreatDoorW.PrintMore Go.Proofs.YtlhlmjkocmahmaaGreatDoor.Dev Go.Proofs.YtlhlmjkocmahmaaGreatDoor.Errs Go.Proofs.YtlhlmjkocmahmaaGreatDoor.Jr Go.Proofs.YtlhlmjkocmahmaaGreatDoor.Help Go.Proofs.YtlhlmjkocmahmaaGreatDoor.IMap
set_option linter.unusedVariables false
set_option linter.unusedSimpArgs false
structure TV where
  bw : Nat
  M : MV
  un : Value
  sv : Value
  marks : Int
abbrev TBlk (q p : Nat) (t : TV) : Asn := Blk q #[.pointer (some ⟨p, 0, none⟩), .map (some t.bw), t.un, t.sv, .int .i64 t.marks] 119
theorem eqNone (a : Addr) (w : World) : (binOp BinOp.eql 32 (.pointer none) (.pointer (some a))).run Tryz.prog w = .ok (.bool false) w := by kernel_rfl
theorem txSize : (Tryz.prog.info? 119).map (fun i => decide (i.size = 0)) = some false := by kernel_rfl
/-- Whatever other transaction is open has a block. -/
def Oth (w : World) (q : Nat) (o : Option Nat) : Prop := ∀ q', o = some q' → q' ≠ q → ∃ cs ty, w.heap[q']? = some (.cells cs ty (0, 0))
theorem oth_none (w : World) (q : Nat) : Oth w q none := fun q' e => by cases e
theorem oth_self (w : World) (q : Nat) : Oth w q (some q) := fun q' e h => by cases e; exact absurd rfl h
section
variable {w0 w w' : World} {R : List Asn} {q p d : Nat} {ps : List (Nat × List Int)} {v : JV} {t : TV} {s : DS}
/-- Is the transaction open? -/
def openB (q : Nat) (v : JV) : Bool := !v.ended && decide (v.tx = some q)
set_option maxRecDepth 100000 in
set_option maxHeartbeats 1000000 in
theorem open_s (S : Sep w0 w (TBlk q p t :: JBlk p d v :: R)) (ho : Oth w q v.tx) : Calls Tryz.prog 65 #[.pointer (some ⟨q, 0, none⟩)] w fun e w' => e = .returned (.bool (openB q v)) ∧ w' = w := by
  have c0 := S.cell 0 (v := .pointer (some ⟨p, 0, none⟩)) rfl
  have d7 := S.swap.cell 7 (v := ptrO v.tx) rfl
  have d8 := S.swap.cell 8 (v := .bool v.ended) rfl
  have hq0 := S.blk
  obtain ⟨ji, hji, hjs⟩ := Option.map_eq_some_iff.1 txSize
  have hjs : ji.size ≠ 0 := of_decide_eq_false hjs
  unfold openB
  clear S
  cases he : v.ended
  · rw [he] at d8
    cases ht : v.tx with
    | none =>
      rw [ht] at d7
      simp only [ptrO, Option.map_none] at d7
      clear he ht ho
      have heq := eqNone ⟨q, 0, none⟩ w
      go_enter Tryz.func65, Tryz.ntmps65
      go_wp2
      go_ret
      exact ⟨rfl, rfl⟩
    | some q' =>
      rw [ht] at d7
      simp only [ptrO, Option.map_some] at d7
      have ho2 := ho q' ht
      clear he ht ho
      by_cases hq : q' = q
      · subst hq
        have heq := run_eql_ptr_same (P := Tryz.prog) w ⟨q', 0, none⟩ Tryz.underlying32 hji
        go_enter Tryz.func65, Tryz.ntmps65
        go_wp2
        go_ret
        exact ⟨by simp, rfl⟩
      · obtain ⟨cs, ty, hb⟩ := ho2 hq
        have heq := run_eql_ptr_other (P := Tryz.prog) w (a := ⟨q', 0, none⟩) (b := ⟨q, 0, none⟩) Tryz.underlying32 hji hjs (fun e => hq (by injection e)) hb hq0
        go_enter Tryz.func65, Tryz.ntmps65
        go_wp2
        go_ret
        exact ⟨by simp [hq], rfl⟩
  · rw [he] at d8
    clear he
    go_enter Tryz.func65, Tryz.ntmps65
    go_wp2
    go_ret
    exact ⟨rfl, rfl⟩
def fineE (q : Nat) (v : JV) (s : DS) (e : Int) : Int := if openB q v then (if e = 0 then aliveE v s else e) else 76
def fineV (q : Nat) (v : JV) (s : DS) (e : Int) : JV := if openB q v && decide (e = 0) then aliveV v s else v
theorem fineV_M (q : Nat) (v : JV) (s : DS) (e : Int) : (fineV q v s e).M = v.M ∧ (fineV q v s e).bm = v.bm := by
  unfold fineV
  split
  · exact aliveV_M v s
  · exact ⟨rfl, rfl⟩
theorem fineV_0 {q : Nat} {v : JV} {s : DS} {e : Int} (h : fineE q v s e = 0) : fineV q v s e = v ∧ e = 0 ∧ openB q v = true ∧ v.ended = false ∧ s.off = false ∧ v.tx = some q := by
  unfold fineE at h
  split at h
  · rename_i ho
    split at h
    · rename_i h0
      subst h0
      have h2 := h
      unfold aliveE at h2
      have hof : s.off = false := by
        split at h2
        · cases h2
        · split at h2
          · cases h2
          · rename_i h3
            simpa using h3
      have ho2 := ho
      unfold openB at ho2
      simp at ho2
      exact ⟨by unfold fineV; rw [ho]; simp [aliveV_0 h], rfl, ho, ho2.1, hof, ho2.2⟩
    · rename_i h1
      exact absurd h h1
  · cases h
set_option maxRecDepth 100000 in
set_option maxHeartbeats 1000000 in
theorem fine_s (S : Sep w0 w (TBlk q p t :: JBlk p d v :: DevA d s :: R)) (hoth : Oth w q v.tx) (c : Int) : Calls Tryz.prog 56 #[.pointer (some ⟨q, 0, none⟩), .int .i64 c] w fun e w' => e = .returned (.int .i64 (fineE q v s c)) ∧ Sep w0 w' (TBlk q p t :: JBlk p d (fineV q v s c) :: DevA d s :: R) := by
  have hop := open_s S hoth
  have c0 := S.cell 0 (v := .pointer (some ⟨p, 0, none⟩)) rfl
  unfold fineE fineV
  cases ho : openB q v
  · rw [ho] at hop
    have HS := Aside0.mk S
    clear S
    go_enter Tryz.func56, Tryz.ntmps56
    go_wp2_with (first | (go_at_call 65; refine hop.mono ?_; rintro _ _ ⟨rfl, rfl⟩))
    go_ret
    exact ⟨rfl, HS.out⟩
  · rw [ho] at hop
    by_cases hc : c = 0
    · subst hc
      have hal := alive_s S.p2.p2
      clear S
      go_enter Tryz.func56, Tryz.ntmps56
      go_wp2_with (first | (go_at_call 65; refine hop.mono ?_; rintro _ _ ⟨rfl, rfl⟩) | (go_at_call 54; refine hal.mono ?_; rintro _ w2 ⟨rfl, S⟩))
      go_ret
      exact ⟨rfl, S.p2⟩
    · have hb : (c != 0) = true := by simpa using hc
      have HS := Aside0.mk S
      clear S
      go_enter Tryz.func56, Tryz.ntmps56
      go_wp2_with (first | (go_at_call 65; refine hop.mono ?_; rintro _ _ ⟨rfl, rfl⟩))
      go_ret
      exact ⟨by simp [hc], by simpa [hc] using HS.out⟩
set_option maxRecDepth 100000 in
set_option maxHeartbeats 1000000 in
theorem at_s (S : Sep w0 w (TBlk q p t :: JBlk p d v :: DevA d s :: R)) (hG : (v.geo s).Ok) (b : Int) : Calls Tryz.prog 55 #[.pointer (some ⟨q, 0, none⟩), .int .i64 b] w fun e w' => e = .returned (.int .i64 (if (v.geo s).out b then 0 else 73)) ∧ Sep w0 w' (TBlk q p t :: JBlk p d v :: DevA d s :: R) := by
  have hou := outside_s S.p2.p2 hG b
  have c0 := S.cell 0 (v := .pointer (some ⟨p, 0, none⟩)) rfl
  have HS := Aside0.mk S
  clear S
  cases ho : (v.geo s).out b
  · rw [ho] at hou
    go_enter Tryz.func55, Tryz.ntmps55
    go_wp2_with (first | (go_at_call 91; refine hou.mono ?_; rintro _ _ ⟨rfl, k, rfl⟩))
    go_ret
    exact ⟨rfl, (HS.out).drewN _⟩
  · rw [ho] at hou
    go_enter Tryz.func55, Tryz.ntmps55
    go_wp2_with (first | (go_at_call 91; refine hou.mono ?_; rintro _ _ ⟨rfl, k, rfl⟩))
    go_ret
    exact ⟨rfl, (HS.out).drewN _⟩
set_option maxRecDepth 100000 in
set_option maxHeartbeats 1000000 in
theorem drop_s (S : Sep w0 w (TBlk q p t :: JBlk p d v :: R)) (hoth : Oth w q v.tx) : Calls Tryz.prog 34 #[.pointer (some ⟨q, 0, none⟩)] w fun e w' => e = .returned (.tuple #[]) ∧ Sep w0 w' (TBlk q p t :: JBlk p d (if openB q v then { v with tx := none } else v) :: R) := by
  have hop := open_s S hoth
  have c0 := S.cell 0 (v := .pointer (some ⟨p, 0, none⟩)) rfl
  have d7 := S.swap.cell 7 (v := ptrO v.tx) rfl
  have f7 := S.swap.free 7
  have S2 := S.swap.set 7 (.pointer none)
  have HS := Aside0.mk S
  have HS2 := Aside0.mk S2.swap
  clear S S2
  cases ho : openB q v
  · rw [ho] at hop
    go_enter Tryz.func34, Tryz.ntmps34
    go_wp2_with (first | (go_at_call 65; refine hop.mono ?_; rintro _ _ ⟨rfl, rfl⟩))
    go_end0
    exact ⟨rfl, HS.out⟩
  · rw [ho] at hop
    go_enter Tryz.func34, Tryz.ntmps34
    go_wp2_with (first | (go_at_call 65; refine hop.mono ?_; rintro _ _ ⟨rfl, rfl⟩))
    go_end0
    exact ⟨rfl, HS2.out⟩
set_option maxRecDepth 100000 in
set_option maxHeartbeats 1000000 in
theorem blocks_s (S : Sep w0 w (TBlk q p t :: MapA t.bw (vals t.M) :: JBlk p d v :: R)) (hoth : Oth w q v.tx) (hm : t.M.length ≤ 1000000) : Calls Tryz.prog 32 #[.pointer (some ⟨q, 0, none⟩)] w fun e w' => ∃ A n c, e = .returned (.slice A n c) ∧ Sep w0 w' (Ints A n c (if openB q v then SM.keys (dat t.M) else []) :: TBlk q p t :: MapA t.bw (vals t.M) :: JBlk p d v :: R) := by
  have hop := open_s S.p2.p1 hoth
  have c0 := S.cell 1 (v := .map (some t.bw)) rfl
  have hvl : (vals t.M).length = t.M.length := SM.len_on _ _
  have hris := rising_s S.swap (by rw [hvl]; exact hm)
  have hk : SM.keys (vals t.M) = SM.keys (dat t.M) := by unfold vals dat; rw [SM.keys_on, SM.keys_on]
  rw [hk, hvl] at hris
  have HS := Aside0.mk S
  clear S hk
  cases ho : openB q v
  · rw [ho] at hop
    go_enter Tryz.func32, Tryz.ntmps32
    go_wp2_with (first | (go_at_call 65; refine hop.mono ?_; rintro _ _ ⟨rfl, rfl⟩))
    go_ret
    exact ⟨none, 0, 0, rfl, (HS.out).nils _ _⟩
  · rw [ho] at hop
    go_enter Tryz.func32, Tryz.ntmps32
    go_wp2_with (first | (go_at_call 65; refine hop.mono ?_; rintro _ _ ⟨rfl, rfl⟩) | (go_at_call 66; refine hris.mono ?_; rintro _ w2 ⟨A, c, rfl, S⟩))
    go_ret
    exact ⟨A, _, c, rfl, S.p2.p1⟩
end
end Go.Proofs.YtlhlmjkocmahmaaGreatDoor.Sep
/- Begin; Read of a transaction. -/
namespace Go.Proofs.YtlhlmjkocmahmaaGreatDoor.Sep
open Go.Proofs Go.RowKit Go.ChangeMaps Go.Proofs.YtlhlmjkocmahmaaGreatDoorW.PrintWords Go.Proofs.YtlhlmjkocmahmaaGreatDoorW.PrintLast Go.Proofs.YtlhlmjkocmahmaaGreatDoorW.PrintMore Go.Proofs.YtlhlmjkocmahmaaGreatDoor.Dev Go.Proofs.YtlhlmjkocmahmaaGreatDoor.Errs Go.Proofs.YtlhlmjkocmahmaaGreatDoor.Jr Go.Proofs.YtlhlmjkocmahmaaGreatDoor.Help Go.Proofs.YtlhlmjkocmahmaaGreatDoor.IMap
set_option linter.unusedVariables false
set_option linter.unusedSimpArgs false
theorem Sep.toL {w0 w : World} {T M J V P D : Asn} {R : List Asn} (S : Sep w0 w (T :: M :: J :: V :: P :: D :: R)) : Sep w0 w (T :: J :: D :: M :: V :: P :: R) := S.p4.p4.p3.p5.p5.p5
theorem Sep.ofL {w0 w : World} {T M J V P D : Asn} {R : List Asn} (S : Sep w0 w (T :: J :: D :: M :: V :: P :: R)) : Sep w0 w (T :: M :: J :: V :: P :: D :: R) := S.p2.p5.p5.p4.p5.p5
theorem Sep.toC {w0 w : World} {T M J V P D : Asn} {R : List Asn} (S : Sep w0 w (T :: M :: J :: V :: P :: D :: R)) : Sep w0 w (J :: V :: P :: D :: T :: M :: R) := S.p5.p5.p5.p5
theorem Sep.ofC {w0 w : World} {T M J V P D : Asn} {R : List Asn} (S : Sep w0 w (J :: V :: P :: D :: T :: M :: R)) : Sep w0 w (T :: M :: J :: V :: P :: D :: R) := S.p5.p5
section
variable {w0 w w' : World} {R : List Asn} {q p d : Nat} {ps : List (Nat × List Int)} {v : JV} {t : TV} {s : DS}
set_option maxRecDepth 100000 in
set_option maxHeartbeats 4000000 in
/-- Begin, none being open: a new transaction. -/
theorem begin_yes (S : Sep w0 w (JBlk p d v :: DevA d s :: R)) (ha : aliveE v s = 0) (ht : v.tx = none) :
    Calls Tryz.prog 19 #[.pointer (some ⟨p, 0, none⟩)] w fun e w' => ∃ q b, e = .returned (.pointer (some ⟨q, 0, none⟩)) ∧ Sep w0 w' (TBlk q p ⟨b, [], .slice none 0 0, .slice none 0 0, 0⟩ :: MapA b [] :: JBlk p d { v with tx := some q } :: DevA d s :: R) := by
  have hal := alive_s S
  rw [aliveV_0 ha, ha] at hal
  have hmk := @run_makeMap Tryz.prog
  clear S
  go_enter Tryz.func19, Tryz.ntmps19
  go_wp2_with fail
  refine hal.mono ?_
  clear hal
  rintro _ w1 ⟨rfl, S⟩
  have c7 := S.cell 7 (v := ptrO v.tx) rfl
  rw [ht] at c7
  simp only [ptrO, Option.map_none] at c7
  have S1 := S.map_new
  have S2 := S1.alloc #[.pointer (some ⟨p, 0, none⟩), .map (some w1.heap.size), .slice none 0 0, .slice none 0 0, .int .i64 0] 119
  have hsz : (w1.alloc (.map #[] 0)).heap.size = w1.heap.size + 1 := by simp
  rw [hsz] at S2
  have d7 := S2.p2.cell 7 (v := ptrO v.tx) rfl
  have f7 := S2.p2.free 7
  have S3 := S2.p2.set 7 (.pointer (some ⟨w1.heap.size + 1, 0, none⟩))
  have y7 := S3.cell 7 (v := .pointer (some ⟨w1.heap.size + 1, 0, none⟩)) rfl
  have HS := Aside0.mk S3
  clear S S1 S2 S3 hsz
  go_wp2_with fail
  go_ret
  exact ⟨w1.heap.size + 1, w1.heap.size, rfl, HS.out.p2.p2⟩
theorem begin_no (S : Sep w0 w (JBlk p d v :: DevA d s :: R)) (ha : aliveE v s ≠ 0) :
    Calls Tryz.prog 19 #[.pointer (some ⟨p, 0, none⟩)] w fun e w' => e = .returned (.pointer none) ∧ Sep w0 w' (JBlk p d (aliveV v s) :: DevA d s :: R) := by
  have hal := alive_s S
  have hb : (aliveE v s != 0) = true := by simpa using ha
  generalize aliveE v s = ae at *
  clear S ha
  go_enter Tryz.func19, Tryz.ntmps19
  go_wp2_with fail
  refine hal.mono ?_
  clear hal
  rintro _ w1 ⟨rfl, S⟩
  have HS := Aside0.mk S
  clear S
  go_wp2_with fail
  go_ret
  exact ⟨rfl, HS.out⟩
set_option maxRecDepth 100000 in
set_option maxHeartbeats 4000000 in
/-- Read of a transaction that is open, the power on. -/
theorem tread_s (S : Sep w0 w (TBlk q p t :: MapA t.bw (vals t.M) :: JBlk p d v :: MapA v.bm (vals v.M) :: PoolA ps :: DevA d s :: R)) (hoth : Oth w q v.tx) (hI : Ins v.M ps) (hIt : Ins t.M ps) (hG : (v.geo s).Ok) (b : Int) (hal : openB q v = true ∧ s.off = false) (hb : (v.geo s).out b = true) (hbn : b ≤ 4096) :
    Calls Tryz.prog 29 #[.pointer (some ⟨q, 0, none⟩), .int .i64 b] w fun e w' => ∃ g l, l = (match SM.lkp (dat t.M) b with | some l => Go.Proofs.YtlhlmjkocmahmaaGreatDoor.Sep.blk l | none => Go.Proofs.YtlhlmjkocmahmaaGreatDoor.Sep.blk (committedP v s b).1) ∧ e = .returned (.tuple #[.slice (some ⟨g, 0, none⟩) 512 512, .int .i64 0]) ∧
      Sep w0 w' (Byt (some ⟨g, 0, none⟩) 512 512 l :: TBlk q p t :: MapA t.bw (vals t.M) :: JBlk p d v :: MapA v.bm (vals v.M) :: PoolA ps :: DevA d s :: R) := by
  have hob := out_not_log hG hb
  have hn : (v.geo s).n = (s.n : Int) := rfl
  have hc0 : (committedP v s b).2 = 0 := by
    unfold committedP
    cases SM.lkp (dat v.M) b with
    | some l => rfl
    | none =>
      show (s.read b).2 = 0
      rw [read_vw hal.2 ⟨hob.2.2.1, by rw [← hn]; exact hob.2.2.2⟩]
  have hat := at_s S.toL hG b
  rw [hb, if_pos rfl] at hat
  have hal0 : aliveE v s = 0 := by
    have h1 := hal.1
    unfold openB at h1
    simp at h1
    unfold aliveE
    rw [h1.1, hal.2]
    rfl
  have hf0 : fineE q v s 0 = 0 := by
    unfold fineE
    rw [if_pos hal.1, if_pos rfl, hal0]
  have hfv := (fineV_0 hf0).1
  have hwf : (Lit.int .i64 b).wf = true := WalkArith.wf_i64 (by omega)
  have HC := Aside0.mk hc0
  have HF := Aside0.mk hf0
  have HFV := Aside0.mk hfv
  have HB := Aside0.mk hob
  have hbk := S.blk
  have hoth2 : ∀ w2, Sep w0 w2 (TBlk q p t :: JBlk p d v :: DevA d s :: MapA t.bw (vals t.M) :: MapA v.bm (vals v.M) :: PoolA ps :: R) → Oth w2 q v.tx := by
    have h1 := hal.1
    unfold openB at h1
    simp at h1
    intro w2 _
    rw [h1.2]
    exact oth_self w2 q
  have HO := Aside0.mk hoth2
  clear hal hb hc0 hal0 hf0 hfv hob hn hbn hbk S hoth hoth2
  cases hx : SM.lkp t.M b with
  | some x =>
    have hdl : SM.lkp (dat t.M) b = some x.2 := by rw [dat_look, hx]; rfl
    have hvl : SM.lkp (vals t.M) b = some (rowV x.1) := by rw [vals_look, hx]; rfl
    have hxp : (x.1, x.2) ∈ ps := hIt _ (SM.look_mem hx)
    rw [hdl]
    clear hx hdl hIt
    go_enter Tryz.func29, Tryz.ntmps29
    go_wp2_with fail
    refine hat.mono ?_
    clear hat
    rintro _ w1 ⟨rfl, S⟩
    go_wp2_with fail
    refine (fine_s S (HO.out _ S) 0).mono ?_
    clear S
    rw [HF.out, HFV.out]
    rintro _ w2 ⟨rfl, S⟩
    have c1 := S.cell 1 (v := .map (some t.bw)) rfl
    have hlk := S.ofL.swap.map.at_.look (P := Tryz.prog) Tryz.underlying113 Tryz.underlying3 (zeroBytes w2) hwf
    rw [hvl] at hlk
    simp only [Option.getD_some, Option.isSome_some] at hlk
    unfold rowV at hlk
    have hbo := blockOf_s (c := 512) S.ofL (S.p5.pool_reads hxp)
    clear S
    go_wp2_with fail
    refine hbo.mono ?_
    clear hbo
    rintro _ w3 ⟨g, rfl, S⟩
    have HS := Aside0.mk S
    clear S
    go_wp2_with fail
    go_ret2
    exact ⟨g, _, rfl, rfl, HS.out⟩
  | none =>
    have hdl : SM.lkp (dat t.M) b = none := by rw [dat_look, hx]; rfl
    have hvl : SM.lkp (vals t.M) b = none := by rw [vals_look, hx]; rfl
    rw [hdl]
    clear hx hdl hIt
    go_enter Tryz.func29, Tryz.ntmps29
    go_wp2_with fail
    refine hat.mono ?_
    clear hat
    rintro _ w1 ⟨rfl, S⟩
    go_wp2_with fail
    refine (fine_s S (HO.out _ S) 0).mono ?_
    clear S
    rw [HF.out, HFV.out]
    rintro _ w2 ⟨rfl, S⟩
    have c0 := S.cell 0 (v := .pointer (some ⟨p, 0, none⟩)) rfl
    have c1 := S.cell 1 (v := .map (some t.bw)) rfl
    have hlk := S.ofL.swap.map.at_.look (P := Tryz.prog) Tryz.underlying113 Tryz.underlying3 (zeroBytes w2) hwf
    rw [hvl] at hlk
    simp only [Option.getD_none, Option.isSome_none] at hlk
    have hcm := committed_s S.ofL.toC hI b (by have := HB.out; have := hG.n1; omega)
    rw [HC.out] at hcm
    clear S
    go_wp2_with fail
    refine hcm.mono ?_
    clear hcm
    rintro _ w3 ⟨A, n, c, what, rfl, hrd, S⟩
    rw [errV_0 _ rfl]
    have hbo := blockOf_s (c := c) S.ofC hrd
    clear S hrd
    go_wp2_with fail
    refine hbo.mono ?_
    clear hbo
    rintro _ w4 ⟨g, rfl, S⟩
    have HS := Aside0.mk S
    clear S
    go_wp2_with fail
    go_ret2
    exact ⟨g, _, rfl, rfl, HS.out⟩
end
end Go.Proofs.YtlhlmjkocmahmaaGreatDoor.Sep
/- Format: a journal whose map is none. -/
namespace Go.Proofs.YtlhlmjkocmahmaaGreatDoor.Sep
open Go.Proofs Go.RowKit Go.Proofs.YtlhlmjkocmahmaaGreatDoorW.PrintWords Go.Proofs.YtlhlmjkocmahmaaGreatDoorW.PrintLast Go.Proofs.YtlhlmjkocmahmaaGreatDoorW.PrintMore Go.Proofs.YtlhlmjkocmahmaaGreatDoor.Dev Go.Proofs.YtlhlmjkocmahmaaGreatDoor.Errs Go.Proofs.YtlhlmjkocmahmaaGreatDoor.Jr Go.Proofs.YtlhlmjkocmahmaaGreatDoor.Help
set_option linter.unusedVariables false
set_option linter.unusedSimpArgs false
abbrev JBlk0 (p d : Nat) (v : JV) : Asn := Blk p #[.pointer (some ⟨d, 0, none⟩), .int .i64 v.start, .int .i64 v.size, .int .i64 v.seq, .int .i64 v.place, .int .i64 v.free, .map none, ptrO v.tx, .bool v.ended] 115
theorem zerosW_len (G : Geo) : ∀ n, (zerosW G n).length = n
  | 0 => rfl
  | n + 1 => by unfold zerosW; rw [List.length_append, zerosW_len G n]; rfl
theorem zerosW_at (G : Geo) : ∀ (n j : Nat), j < n → (zerosW G n)[j]? = some (G.at_ (j : Int), List.replicate 512 0)
  | n + 1, j, h => by
    unfold zerosW
    by_cases e : j < n
    · rw [List.getElem?_append_left (by rw [zerosW_len]; exact e)]
      exact zerosW_at G n j e
    · obtain rfl : j = n := by omega
      rw [List.getElem?_append_right (by rw [zerosW_len]; exact Nat.le_refl _), zerosW_len, Nat.sub_self]
      rfl
section
variable {w0 w w' : World} {R : List Asn} {p d : Nat} {v : JV} {s : DS}
theorem places0_s (S : Sep w0 w (JBlk0 p d v :: R)) (h0 : 0 ≤ v.size) (h1 : v.size ≤ 4096) : Calls Tryz.prog 68 #[.pointer (some ⟨p, 0, none⟩)] w fun e w' => e = .returned (.int .i64 (v.size - 1)) ∧ w' = w := by
  have c2 := S.cell 2 (v := .int .i64 v.size) rfl
  have hw : IntKind.i64.wrap (v.size - 1) = v.size - 1 := by rw [IntKind.wrap_i64]; omega
  clear S
  go_enter Tryz.func68, Tryz.ntmps68
  go_wp2
  go_ret
  exact ⟨rfl, rfl⟩
theorem block0_s (S : Sep w0 w (JBlk0 p d v :: R)) (hG : (v.geo s).Ok) (place : Int) (h0 : 0 ≤ place) (h1 : place ≤ 100000) : Calls Tryz.prog 88 #[.pointer (some ⟨p, 0, none⟩), .int .i64 place] w fun e w' => e = .returned (.int .i64 ((v.geo s).at_ place)) ∧ ∃ k, w' = w.drewN k := by
  have g0 : 0 ≤ v.start := hG.start0
  have g1 : 27 ≤ v.size := hG.size0
  have g2 : v.size ≤ (s.n : Int) - v.start := hG.fit
  have g3 : (s.n : Int) ≤ 4096 := hG.n1
  have c1 := S.cell 1 (v := .int .i64 v.start) rfl
  have hP : ∀ k, Calls Tryz.prog 68 #[.pointer (some ⟨p, 0, none⟩)] (w.drewN k) fun e w' => e = .returned (.int .i64 (v.size - 1)) ∧ ∃ n, w' = (w.drewN k).drewN n := fun k => (places0_s (S.drewN k) (by omega) (by omega)).mono fun e w' h => ⟨h.1, 0, h.2⟩
  have hm0 := Int.emod_nonneg place (show v.size - 1 ≠ 0 by omega)
  have hm1 := Int.emod_lt_of_pos place (show 0 < v.size - 1 by omega)
  have hmod : place.tmod (v.size - 1) = place % (v.size - 1) := Int.tmod_eq_emod_of_nonneg h0
  have hw1 : IntKind.i64.wrap (v.start + 1) = v.start + 1 := by rw [IntKind.wrap_i64]; omega
  have hw2 : IntKind.i64.wrap (place.tmod (v.size - 1)) = place % (v.size - 1) := by rw [hmod, IntKind.wrap_i64]; omega
  have hw3 : IntKind.i64.wrap (v.start + 1 + place % (v.size - 1)) = v.start + 1 + place % (v.size - 1) := by rw [IntKind.wrap_i64]; omega
  have hne : ¬ v.size - 1 = 0 := by omega
  have hat : (v.geo s).at_ place = v.start + 1 + place % (v.size - 1) := rfl
  have HA := Aside0.mk hat
  clear S hat
  go_enter Tryz.func88, Tryz.ntmps88
  go_wp2_with fail
  go_quiet (first | (go_at_call 68; exact Calls.quiet_of (hP _)))
  go_wp2_with fail
  go_ret
  exact ⟨by rw [HA.out]; rfl, _, rfl⟩
set_option maxRecDepth 100000 in
set_option maxHeartbeats 4000000 in
theorem headed0_s (S : Sep w0 w (JBlk0 p d v :: DevA d s :: R)) (hp : s.pend.length ≤ 1000000) :
    Calls Tryz.prog 89 #[.pointer (some ⟨p, 0, none⟩)] w fun e w' => ∃ what, e = .returned (errV what (Jr.headed (v.geo s) s v.seq v.place).1) ∧ Sep w0 w' (JBlk0 p d v :: DevA d (Jr.headed (v.geo s) s v.seq v.place).2 :: R) := by
  have c0 := S.cell 0 (v := .pointer (some ⟨d, 0, none⟩)) rfl
  have hfl := flush_s S.swap
  have hpf := flush_few s
  have hhd : Jr.headed (v.geo s) s v.seq v.place = if s.flush.1 = 0 then (if (s.flush.2.write v.start (headB v.seq v.place)).1 = 0 then (s.flush.2.write v.start (headB v.seq v.place)).2.flush else s.flush.2.write v.start (headB v.seq v.place)) else s.flush := rfl
  clear S
  by_cases hf : s.flush.1 = 0
  · rw [if_pos hf] at hhd
    by_cases hw : (s.flush.2.write v.start (headB v.seq v.place)).1 = 0
    · rw [if_pos hw] at hhd
      rw [hhd]
      clear hhd
      go_enter Tryz.func89, Tryz.ntmps89
      go_wp2_with fail
      refine hfl.mono ?_
      clear hfl
      rintro _ w1 ⟨rfl, S1⟩
      go_wp2_with fail
      refine (wrapped_s S1.swap _ _).mono ?_
      clear S1
      rintro _ w2 ⟨rfl, S2⟩
      rw [errV_0 _ rfl]
      go_wp2_with fail
      have d0 := S2.cell 0 (v := .pointer (some ⟨d, 0, none⟩)) rfl
      have d1 := S2.cell 1 (v := .int .i64 v.start) rfl
      have d3 := S2.cell 3 (v := .int .i64 v.seq) rfl
      have d4 := S2.cell 4 (v := .int .i64 v.place) rfl
      have hpw : s.flush.2.pend.length ≤ 1000000000000 := by omega
      go_region_held (fun W => W.cell? ⟨p, 0, none⟩ = some (.pointer (some ⟨d, 0, none⟩)) ∧ W.cell? ⟨p, 1, none⟩ = some (.int .i64 v.start) ∧ W.cell? ⟨p, 3, none⟩ = some (.int .i64 v.seq) ∧ W.cell? ⟨p, 4, none⟩ = some (.int .i64 v.place)) (refine ⟨?_, ?_, ?_, ?_⟩ <;> (repeat (first | (with_reducible assumption) | (with_reducible refine kd ?_))))
        (first
          | (go_at_call 114; refine (headBlock_s S2.drew v.seq v.place).mono ?_; rintro _ w3 ⟨g, rfl, S3⟩; have y0 := S3.swap.cell 0 (v := .pointer (some ⟨d, 0, none⟩)) rfl; have y1 := S3.swap.cell 1 (v := .int .i64 v.start) rfl; have y3 := S3.swap.cell 3 (v := .int .i64 v.seq) rfl; have y4 := S3.swap.cell 4 (v := .int .i64 v.place) rfl)
          | (go_at_call 87; refine (write_s S3.p2 v.start hpw).mono ?_; rintro _ w4 ⟨rfl, S4⟩; have z0 := S4.p2.cell 0 (v := .pointer (some ⟨d, 0, none⟩)) rfl; have z1 := S4.p2.cell 1 (v := .int .i64 v.start) rfl; have z3 := S4.p2.cell 3 (v := .int .i64 v.seq) rfl; have z4 := S4.p2.cell 4 (v := .int .i64 v.place) rfl)
          | (go_at_call 92; refine (wrapped_s S4.p2.d2 _ _).mono ?_; rintro _ w5 ⟨rfl, S5⟩; have x0 := S5.cell 0 (v := .pointer (some ⟨d, 0, none⟩)) rfl; have x1 := S5.cell 1 (v := .int .i64 v.start) rfl; have x3 := S5.cell 3 (v := .int .i64 v.seq) rfl; have x4 := S5.cell 4 (v := .int .i64 v.place) rfl; rw [errV_0 _ rfl]))
      go_wp2_with fail
      refine (flush_s S5.swap).mono ?_
      clear S5
      rintro _ w6 ⟨rfl, S6⟩
      go_wp2_with fail
      refine (wrapped_s S6.swap _ _).mono ?_
      clear S6
      rintro _ w7 ⟨rfl, S7⟩
      go_wp2_with fail
      go_ret
      exact ⟨_, rfl, S7⟩
    · rw [if_neg hw] at hhd
      rw [hhd]
      clear hhd
      go_enter Tryz.func89, Tryz.ntmps89
      go_wp2_with fail
      refine hfl.mono ?_
      clear hfl
      rintro _ w1 ⟨rfl, S1⟩
      go_wp2_with fail
      refine (wrapped_s S1.swap _ _).mono ?_
      clear S1
      rintro _ w2 ⟨rfl, S2⟩
      rw [errV_0 _ rfl]
      go_wp2_with fail
      have d0 := S2.cell 0 (v := .pointer (some ⟨d, 0, none⟩)) rfl
      have d1 := S2.cell 1 (v := .int .i64 v.start) rfl
      have d3 := S2.cell 3 (v := .int .i64 v.seq) rfl
      have d4 := S2.cell 4 (v := .int .i64 v.place) rfl
      have hpw : s.flush.2.pend.length ≤ 1000000000000 := by omega
      go_region_held (fun W => W.cell? ⟨p, 0, none⟩ = some (.pointer (some ⟨d, 0, none⟩)) ∧ W.cell? ⟨p, 1, none⟩ = some (.int .i64 v.start) ∧ W.cell? ⟨p, 3, none⟩ = some (.int .i64 v.seq) ∧ W.cell? ⟨p, 4, none⟩ = some (.int .i64 v.place)) (refine ⟨?_, ?_, ?_, ?_⟩ <;> (repeat (first | (with_reducible assumption) | (with_reducible refine kd ?_))))
        (first
          | (go_at_call 114; refine (headBlock_s S2.drew v.seq v.place).mono ?_; rintro _ w3 ⟨g, rfl, S3⟩; have y0 := S3.swap.cell 0 (v := .pointer (some ⟨d, 0, none⟩)) rfl; have y1 := S3.swap.cell 1 (v := .int .i64 v.start) rfl; have y3 := S3.swap.cell 3 (v := .int .i64 v.seq) rfl; have y4 := S3.swap.cell 4 (v := .int .i64 v.place) rfl)
          | (go_at_call 87; refine (write_s S3.p2 v.start hpw).mono ?_; rintro _ w4 ⟨rfl, S4⟩; have z0 := S4.p2.cell 0 (v := .pointer (some ⟨d, 0, none⟩)) rfl; have z1 := S4.p2.cell 1 (v := .int .i64 v.start) rfl; have z3 := S4.p2.cell 3 (v := .int .i64 v.seq) rfl; have z4 := S4.p2.cell 4 (v := .int .i64 v.place) rfl)
          | (go_at_call 92; refine (wrapped_s S4.p2.d2 _ _).mono ?_; rintro _ w5 ⟨rfl, S5⟩; have x0 := S5.cell 0 (v := .pointer (some ⟨d, 0, none⟩)) rfl; have x1 := S5.cell 1 (v := .int .i64 v.start) rfl; have x3 := S5.cell 3 (v := .int .i64 v.seq) rfl; have x4 := S5.cell 4 (v := .int .i64 v.place) rfl; rw [errV_1 _ hw]))
      go_wp2_with fail
      go_ret
      exact ⟨_, congrArg Ending.returned (errV_1 _ hw).symm, S5⟩
  · rw [if_neg hf] at hhd
    rw [hhd]
    clear hhd
    go_enter Tryz.func89, Tryz.ntmps89
    go_wp2_with fail
    refine hfl.mono ?_
    clear hfl
    rintro _ w1 ⟨rfl, S1⟩
    go_wp2_with fail
    refine (wrapped_s S1.swap _ _).mono ?_
    clear S1
    rintro _ w2 ⟨rfl, S2⟩
    rw [errV_1 _ hf]
    go_wp2_with fail
    go_ret
    exact ⟨_, congrArg Ending.returned (errV_1 _ hf).symm, S2⟩
end
end Go.Proofs.YtlhlmjkocmahmaaGreatDoor.Sep
/- Format: the walk. -/
namespace Go.Proofs.YtlhlmjkocmahmaaGreatDoor.Sep
open Go.Proofs Go.RowKit Go.Proofs.YtlhlmjkocmahmaaGreatDoorW.PrintWords Go.Proofs.YtlhlmjkocmahmaaGreatDoorW.PrintLast Go.Proofs.YtlhlmjkocmahmaaGreatDoorW.PrintMore Go.Proofs.YtlhlmjkocmahmaaGreatDoor.Dev Go.Proofs.YtlhlmjkocmahmaaGreatDoor.Errs Go.Proofs.YtlhlmjkocmahmaaGreatDoor.Jr Go.Proofs.YtlhlmjkocmahmaaGreatDoor.Help
set_option linter.unusedVariables false
set_option linter.unusedSimpArgs false
section
variable {w0 w w' : World} {R : List Asn} {p d : Nat} {v : JV} {s : DS}
def formatP (s : DS) (start size : Int) : Int × DS := if fitsB (s.n : Int) start size then Jr.format ⟨(s.n : Int), start, size⟩ s else (77, s)
def fmtV (start size : Int) : JV := ⟨start, size, 1, 0, 0, 0, [], none, false⟩
set_option maxRecDepth 100000 in
set_option maxHeartbeats 4000000 in
theorem format_s (hr : Rt w0) (S : Sep w0 w (DevA d s :: R)) (start size : Int) (hs : start ≤ 9000000000000000000) (hp : s.pend.length ≤ 100000) : Calls Tryz.prog 47 #[.pointer (some ⟨d, 0, none⟩), .int .i64 start, .int .i64 size] w fun e w' => e = .returned (.int .i64 (formatP s start size).1) ∧ Sep w0 w' (DevA d (formatP s start size).2 :: R) := by
  have hok := S.ok
  have hfit := fits_s S start size hs
  unfold formatP
  cases hb : fitsB (s.n : Int) start size
  · rw [hb] at hfit
    have HS := Aside0.mk S
    clear S
    go_enter Tryz.func47, Tryz.ntmps47
    go_wp2_with fail
    refine hfit.mono ?_
    rintro _ _ ⟨rfl, rfl⟩
    go_wp2_with fail
    go_ret
    exact ⟨rfl, HS.out⟩
  · rw [hb] at hfit
    rw [if_pos rfl]
    have hn1 : (s.n : Int) ≤ 4096 := by have := hok.n1; omega
    have hfb := hb
    unfold fitsB at hfb
    simp only [Bool.and_eq_true, decide_eq_true_eq] at hfb
    have hG : ((fmtV start size).geo s).Ok := ⟨hfb.1.1, hfb.1.2, hfb.2, hn1⟩
    obtain ⟨N, rfl⟩ : ∃ N : Nat, size = (N : Int) + 1 := ⟨(size - 1).toNat, by omega⟩
    have hNn : ((fmtV start ((N : Int) + 1)).geo s).places.toNat = N := by show ((N : Int) + 1 - 1).toNat = N; omega
    have hNl : N ≤ 4096 := by omega
    have hft : Jr.format ⟨(s.n : Int), start, (N : Int) + 1⟩ s = if (Jr.writes s (zerosW ((fmtV start ((N : Int) + 1)).geo s) N)).1 = 0 then Jr.headed ((fmtV start ((N : Int) + 1)).geo s) (Jr.writes s (zerosW ((fmtV start ((N : Int) + 1)).geo s) N)).2 1 0 else Jr.writes s (zerosW ((fmtV start ((N : Int) + 1)).geo s) N) := by
      have e : Jr.format ⟨(s.n : Int), start, (N : Int) + 1⟩ s = if (Jr.writes s (zerosW ((fmtV start ((N : Int) + 1)).geo s) ((fmtV start ((N : Int) + 1)).geo s).places.toNat)).1 = 0 then Jr.headed ((fmtV start ((N : Int) + 1)).geo s) (Jr.writes s (zerosW ((fmtV start ((N : Int) + 1)).geo s) ((fmtV start ((N : Int) + 1)).geo s).places.toNat)).2 1 0 else Jr.writes s (zerosW ((fmtV start ((N : Int) + 1)).geo s) ((fmtV start ((N : Int) + 1)).geo s).places.toNat) := rfl
      rw [hNn] at e
      exact e
    have S1 : Sep w0 (w.alloc (.cells #[.pointer (some ⟨d, 0, none⟩), .int .i64 start, .int .i64 ((N : Int) + 1), .int .i64 1, .int .i64 0, .int .i64 0, .map none, .pointer none, .bool false] 115)) (JBlk0 w.heap.size d (fmtV start ((N : Int) + 1)) :: DevA d s :: R) := S.alloc _ _
    have hmk := make_run (P := Tryz.prog) Tryz.underlying57 Dev.info5 512 0 (by omega)
    have hmk2 : ∀ W : World, (Instr.makeSlice 57 (.int .i64 512) (.int .i64 512)).run Tryz.prog W = .ok (.slice (some ⟨W.heap.size, 0, none⟩) 512 512) (W.alloc (.cells (madeCells #[.int .u8 0] 512) 5)) := fun W => by simpa using hmk W
    have S2 := S1.made 512 0 (by omega)
    have hsz : (w.alloc (.cells #[.pointer (some ⟨d, 0, none⟩), .int .i64 start, .int .i64 ((N : Int) + 1), .int .i64 1, .int .i64 0, .int .i64 0, .map none, .pointer none, .bool false] 115)).heap.size = w.heap.size + 1 := by simp
    rw [hsz] at S2
    have hpl := places0_s S2.swap (by show (0 : Int) ≤ (N : Int) + 1; omega) (by show (N : Int) + 1 ≤ 4096; omega)
    rw [show (fmtV start ((N : Int) + 1)).size - 1 = (N : Int) from by show (N : Int) + 1 - 1 = N; omega] at hpl
    have HFT := Aside0.mk hft
    generalize hz : List.replicate 512 (0 : Int) = zs at *
    clear S S1 hmk hb hfb hft hsz hok hNn
    go_enter Tryz.func47, Tryz.ntmps47
    go_wp2_with fail
    refine hfit.mono ?_
    rintro _ w1 ⟨rfl, h⟩
    rw [h]
    clear h hfit w1
    go_wp2_with fail
    refine hpl.mono ?_
    rintro _ w1 ⟨rfl, h⟩
    rw [h]
    clear h hpl w1
    go_wp2_with fail
    have hS2 : ∃ W, Sep w0 W (Byt (some ⟨w.heap.size + 1, 0, none⟩) 512 512 zs :: JBlk0 w.heap.size d (fmtV start ((N : Int) + 1)) :: DevA d s :: R) := ⟨_, S2⟩
    go_loopw [24] (fun i wr => ∃ (j : Nat), j ≤ N ∧ i = .int .i64 (j : Int) ∧ (Jr.writes s ((zerosW ((fmtV start ((N : Int) + 1)).geo s) N).take j)).1 = 0 ∧ Sep w0 wr (Byt (some ⟨w.heap.size + 1, 0, none⟩) 512 512 zs :: JBlk0 w.heap.size d (fmtV start ((N : Int) + 1)) :: DevA d (Jr.writes s ((zerosW ((fmtV start ((N : Int) + 1)).geo s) N).take j)).2 :: R)) (fun i _ => ((N : Int) - intOf i).toNat)
    case atStart => exact ⟨0, Nat.zero_le _, rfl, rfl, S2⟩
    case round =>
      clear S2 hS2
      obtain ⟨j, hj, rfl, h0, S⟩ := hrel
      by_cases hjn : j < N
      · have hi : (j : Int) < (N : Int) := by omega
        have hx := zerosW_at ((fmtV start ((N : Int) + 1)).geo s) N j hjn
        have hnx := writes_next hx h0
        have hpj : (Jr.writes s ((zerosW ((fmtV start ((N : Int) + 1)).geo s) N).take j)).2.pend.length ≤ 1000000000000 := by
          have := writes_few ((zerosW ((fmtV start ((N : Int) + 1)).geo s) N).take j) s
          rw [List.length_take] at this
          have := Nat.min_le_left j (zerosW ((fmtV start ((N : Int) + 1)).geo s) N).length
          omega
        have hbk := block0_s (s := s) S.swap hG (j : Int) (by omega) (by omega)
        have HN := Aside0.mk hnx
        have HL := Aside0.mk (zerosW_len ((fmtV start ((N : Int) + 1)).geo s) N)
        clear hnx hx
        have hwr := fun k => write_s (S.drewN k).p2 (((fmtV start ((N : Int) + 1)).geo s).at_ (j : Int)) hpj
        have H0 := Aside0.mk h0
        rw [hz] at HN
        clear h0
        generalize hsj : (Jr.writes s ((zerosW ((fmtV start ((N : Int) + 1)).geo s) N).take j)).2 = sj at *
        generalize hbb : ((fmtV start ((N : Int) + 1)).geo s).at_ (j : Int) = bb at *
        clear S
        by_cases hw : (sj.write bb zs).1 = 0
        · go_wp2_with fail
          refine hbk.mono ?_
          clear hbk
          rintro _ w2 ⟨rfl, k, h⟩
          rw [h]
          clear h w2
          go_wp2_with fail
          refine (hwr k).mono ?_
          clear hwr
          rintro _ w3 ⟨rfl, S⟩
          rw [hw]
          have h1 := HN.out.1 hw
          have H1 : Aside0 ((Jr.writes s ((zerosW ((fmtV start ((N : Int) + 1)).geo s) N).take (j + 1))).1 = 0) := ⟨by rw [h1]⟩
          have SF : Sep w0 w3 (Byt (some ⟨w.heap.size + 1, 0, none⟩) 512 512 zs :: JBlk0 w.heap.size d (fmtV start ((N : Int) + 1)) :: DevA d (Jr.writes s ((zerosW ((fmtV start ((N : Int) + 1)).geo s) N).take (j + 1))).2 :: R) := by
            rw [h1]
            exact S.p2.p2
          have HF := Aside0.mk SF
          clear S SF h1 hw hsj hbb
          go_wp2_with fail
          exact ⟨⟨j + 1, by omega, by go_num, H1.out, HF.out⟩, by simp [intOf]; omega⟩
        · have hne : ((sj.write bb zs).1 != 0) = true := by simpa using hw
          have h1 := HN.out.2 hw
          have h2 := HFT.out
          rw [h1, if_neg hw] at h2
          have H2 := Aside0.mk h2
          clear h1 h2 hw hsj hbb
          go_wp2_with fail
          refine hbk.mono ?_
          clear hbk
          rintro _ w2 ⟨rfl, k, h⟩
          rw [h]
          clear h w2
          go_wp2_with fail
          refine (hwr k).mono ?_
          clear hwr
          rintro _ w3 ⟨rfl, S⟩
          have HS := Aside0.mk S
          clear S
          go_wp2_with fail
          go_ret
          rw [H2.out]
          exact ⟨rfl, HS.out.drop2.d1⟩
      · obtain rfl : j = N := by omega
        have hi : ¬ ((j : Int) < (j : Int)) := by omega
        have e : (zerosW ((fmtV start ((j : Int) + 1)).geo s) j).take j = zerosW ((fmtV start ((j : Int) + 1)).geo s) j := List.take_of_length_le (by rw [zerosW_len]; exact Nat.le_refl _)
        rw [e] at S h0
        have hpw := writes_few (zerosW ((fmtV start ((j : Int) + 1)).geo s) j) s
        rw [zerosW_len] at hpw
        have hhd := headed0_s S.drop (by omega)
        have h2 := HFT.out
        rw [if_pos h0] at h2
        have H2 := Aside0.mk h2
        clear S h0 e h2
        go_wp2_with fail
        refine hhd.mono ?_
        clear hhd
        rintro _ w5 ⟨what, rfl, S5⟩
        go_wp2_with fail
        refine (code_s hr S5 what _).mono ?_
        clear S5
        rintro _ w6 ⟨rfl, S6⟩
        go_wp2_with fail
        go_ret
        rw [H2.out]
        exact ⟨rfl, S6.drop⟩
end
end Go.Proofs.YtlhlmjkocmahmaaGreatDoor.Sep
