/- What every reading call does at its end: the place moves, or the error stays. -/
import Derived.Test.YtlhlmjkocmahmaaGreatDoorMA5
import Derived.Test.YtlhlmjkocmahmaaGreatDoorMA4
import Derived.Lib.SlBytesConst
import Derived.Laws.BytesArg
import Derived.Lib.BufferWrite
import Derived.Deep.RegionHeld
import Derived.Test.YtlhlmjkocmahmaaGreatDoorMA2
import Derived.Test.YtlhlmjkocmahmaaGreatDoorMA3
import Derived.Maps.RangeRun
import Derived.Test.YtlhlmjkocmahmaaGreatDoorProg
import Derived.Shelf.Sort.Plain
import Derived.Sort.OwnSortedInts
import Derived.Maps.RangeWalk
import Derived.Deep.DeepMust
import Derived.Shelf.Slices.In.SortNone
namespace Go.Proofs.YtlhlmjkocmahmaaGreatDoor.Sep
open Go.Proofs Go.RowKit Go.Proofs.YtlhlmjkocmahmaaGreatDoorW.PrintWords Go.Proofs.YtlhlmjkocmahmaaGreatDoorW.PrintLast Go.Proofs.YtlhlmjkocmahmaaGreatDoorW.PrintMore Go.Proofs.YtlhlmjkocmahmaaGreatDoor.Dev Go.Proofs.YtlhlmjkocmahmaaGreatDoor.Errs
set_option linter.unusedVariables false
set_option linter.unusedSimpArgs false
section
variable {w0 w w' : World} {R : List Asn} {p g n c a b : Nat} {er : Int}
set_option maxRecDepth 100000 in
set_option maxHeartbeats 2000000 in
theorem end_idle (S : Sep w0 w (Rd p g n c a b er :: R)) :
    CallsD Tryz.prog 133 #[.pointer (some ⟨p, 0, none⟩)] .returning w fun e u' w' => e = .returned (.tuple #[]) ∧ u' = .returning ∧ Sep w0 w' (Rd p g n c (if er = 0 then b else a) b er :: R) := by
  refine callsD_of_wpS Tryz.func133 rfl fun c₀ cs hu => ?_
  apply wpS_seq
  apply wpS_region
  have h1 := S.cell 1 (v := .int .i64 (a : Int)) rfl
  have h2 := S.cell 2 (v := .int .i64 (b : Int)) rfl
  have h3 := S.cell 3 (v := .int .i64 er) rfl
  have f1 := S.free 1
  simp [wpOpsS, go_sem, recoverD, hu, Tryz.ntmps133, Exit.thenS]
  refine wpS_of_wp ?_
  have et : #[Value.pointer (some ⟨p, 0, none⟩)] ++ (Array.replicate 39 undef).setIfInBounds 5 Value.nilIface = #[.pointer (some ⟨p, 0, none⟩), undef, undef, undef, undef, undef, Value.nilIface, undef, undef, undef, undef, undef, undef, undef, undef, undef, undef, undef, undef, undef, undef, undef, undef, undef, undef, undef, undef, undef, undef, undef, undef, undef, undef, undef, undef, undef, undef, undef, undef, undef] := by kernel_rfl
  rw [et]
  clear et
  by_cases he : er = 0
  · subst he
    rw [if_pos rfl]
    have S1 := S.set 1 (.int .i64 (b : Int))
    have HS := Aside0.mk S1
    clear S S1
    go_wp2
    exact ⟨rfl, c₀.mode, rfl, .tuple #[], by simp [results, Tryz.results133], rfl, hu, HS.out⟩
  · have hb : (er == 0) = false := by simp [he]
    rw [if_neg he]
    have HS := Aside0.mk S
    clear S
    go_wp2
    exact ⟨rfl, c₀.mode, rfl, .tuple #[], by simp [results, Tryz.results133], rfl, hu, HS.out⟩
end
end Go.Proofs.YtlhlmjkocmahmaaGreatDoor.Sep
/- What a reading call does at its end when it has given up: the error is kept, the panic is over. -/
namespace Go.Proofs.YtlhlmjkocmahmaaGreatDoor.Sep
open Go.Proofs Go.RowKit Go.Proofs.YtlhlmjkocmahmaaGreatDoorW.PrintWords Go.Proofs.YtlhlmjkocmahmaaGreatDoorW.PrintLast Go.Proofs.YtlhlmjkocmahmaaGreatDoorW.PrintMore Go.Proofs.YtlhlmjkocmahmaaGreatDoor.Dev Go.Proofs.YtlhlmjkocmahmaaGreatDoor.Errs
set_option linter.unusedVariables false
set_option linter.unusedSimpArgs false
theorem hasErrT (v : Value) (xT : TypeId) (w : World) : (Instr.typeAssert (.iface 247 v) xT 127 true).run Tryz.prog w = .ok (.tuple #[.iface 247 v, .bool true]) w := run_typeAssert_hasB Tryz.underlying127 (by kernel_rfl) v xT w
theorem sen_lt {a : Addr} {w : World} (h : Sen a w) : 2 < w.heap.size := by
  rcases Nat.lt_or_ge 2 w.heap.size with h1 | h1
  · exact h1
  · simp [Sen, World.cell?, Array.getElem?_eq_none h1] at h
theorem sen_sep {w0 w : World} {R : List Asn} {a : Addr} (h : Sen a w0) (S : Sep w0 w R) : Sen a w := by
  have := S.bel.cell (p := ⟨2, 0, none⟩) (sen_lt h)
  unfold Sen at *
  rw [← h]
  exact this
section
variable {w0 w w' : World} {R : List Asn} {p g n c a b : Nat} {er : Int}
set_option maxRecDepth 100000 in
set_option maxHeartbeats 4000000 in
theorem end_trouble (hr : Rt w0) {sa : Addr} (hs : Sen sa w0) (S : Sep w0 w (Rd p g n c a b er :: R)) (x : Int) (older : List PanicEntry) :
    CallsD Tryz.prog 133 #[.pointer (some ⟨p, 0, none⟩)] (.panicking ({ v := troubleV x, recovered := false } :: older)) w fun e u' w' => e = .returned (.tuple #[]) ∧ u' = .panicking ({ v := troubleV x, recovered := true } :: older) ∧ Sep w0 w' (Rd p g n c a b x :: R) := by
  refine callsD_of_wpS Tryz.func133 rfl fun c₀ cs hu => ?_
  apply wpS_seq
  apply wpS_region
  simp [wpOpsS, go_sem, recoverD, hu, Tryz.ntmps133, Exit.thenS]
  refine wpS_of_wp ?_
  have et : #[Value.pointer (some ⟨p, 0, none⟩)] ++ (Array.replicate 39 undef).setIfInBounds 5 (troubleV x) = #[.pointer (some ⟨p, 0, none⟩), undef, undef, undef, undef, undef, troubleV x, undef, undef, undef, undef, undef, undef, undef, undef, undef, undef, undef, undef, undef, undef, undef, undef, undef, undef, undef, undef, undef, undef, undef, undef, undef, undef, undef, undef, undef, undef, undef, undef, undef] := by kernel_rfl
  rw [et]
  clear et
  have S1 := S.alloc #[.int .i64 0] 247
  have S2 := S1.alloc #[.int .i64 x] 247
  have hsen : (w.alloc (.cells #[.int .i64 0] 247)).cell? ⟨2, 0, none⟩ = some (.iface 263 (.pointer (some sa))) := sen_sep hs S1
  have hI := is_trouble x sa _ (sen_sep hs S1)
  have hA := as_hitT x ⟨w.heap.size, 0, none⟩ (.int .i64 0) _ (rt_sep hr S2) (S2.swap.cell 0 (v := .int .i64 0) rfl) (S2.swap.free 0)
  have S3 : Sep w0 (asWorldT ((w.alloc (.cells #[.int .i64 0] 247)).alloc (.cells #[.int .i64 x] 247)) ⟨w.heap.size, 0, none⟩ x) (Blk w.heap.size #[.int .i64 x] 247 :: Rd p g n c a b er :: R) :=
    ((((S2.drop.alloc #[.pointer (some ⟨w.heap.size, 0, none⟩)] 249).alloc #[.pointer (some ⟨3, 249, none⟩), .pointer (some ⟨((w.alloc (.cells #[.int .i64 0] 247)).alloc (.cells #[.int .i64 x] 247)).heap.size, 0, none⟩), .int .u64 150] 194).alloc #[.pointer (some ⟨3, 249, none⟩), .pointer (some ⟨((w.alloc (.cells #[.int .i64 0] 247)).alloc (.cells #[.int .i64 x] 247)).heap.size, 0, none⟩), .int .u64 150] 194).alloc #[.int .i64 x] 247).drop.drop.drop.drop.set 0 (.int .i64 x)
  have hc := S3.cell 0 (v := .int .i64 x) rfl
  have hp := S3.swap.cell 3 (v := .int .i64 er) rfl
  have hf := S3.swap.free 3
  have S4 := (S3.swap.set 3 (.int .i64 x)).d1
  have HS := Aside0.mk S4
  clear S S1 S2 S3 S4
  have ht := hasErrT (.agg #[.int .i64 x])
  have htr : troubleV x = .iface 247 (.agg #[.int .i64 x]) := rfl
  rw [htr]
  go_wp2_with (first | (go_at_call 162; refine hI.mono ?_; rintro _ _ ⟨rfl, rfl⟩) | (go_at_call 93; refine hA.mono ?_; rintro _ _ ⟨rfl, rfl⟩))
  exact ⟨rfl, .panicking ({ v := troubleV x, recovered := true } :: older), rfl, .tuple #[], by simp [results, Tryz.results133], rfl, rfl, HS.out⟩
end
end Go.Proofs.YtlhlmjkocmahmaaGreatDoor.Sep
/- The reading calls: U32, U64, Sum, Err. -/
namespace Go.Proofs.YtlhlmjkocmahmaaGreatDoor.Sep
open Go.Proofs Go.RowKit Go.Proofs.YtlhlmjkocmahmaaGreatDoorW.PrintWords Go.Proofs.YtlhlmjkocmahmaaGreatDoorW.PrintLast Go.Proofs.YtlhlmjkocmahmaaGreatDoorW.PrintMore Go.Proofs.YtlhlmjkocmahmaaGreatDoor.Dev Go.Proofs.YtlhlmjkocmahmaaGreatDoor.Errs Go.Proofs.YtlhlmjkocmahmaaGreatDoor.Jr
set_option linter.unusedVariables false
set_option linter.unusedSimpArgs false
section
variable {w0 w w' : World} {R : List Asn} {p g n c b : Nat} {l : List Int} {a : Nat} {er : Int}
set_option maxRecDepth 100000 in
set_option maxHeartbeats 4000000 in
theorem u32_s (hr : Rt w0) {sa : Addr} (hs : Sen sa w0) (S : Sep w0 w (Rd p g n c a b er :: Byt (some ⟨g, 0, none⟩) n c l :: R)) (hB : Byte l) (hn : n ≤ 1000000000) (han : a ≤ n) (most : Int) :
    Calls Tryz.prog 106 #[.pointer (some ⟨p, 0, none⟩), .int .i64 most] w fun e w' => ∃ b', e = .returned (.int .i64 (Jr.rd l 4 (upto most) ⟨a, er⟩).1) ∧ Sep w0 w' (Rd p g n c (Jr.rd l 4 (upto most) ⟨a, er⟩).2.at_ b' (Jr.rd l 4 (upto most) ⟨a, er⟩).2.er :: Byt (some ⟨g, 0, none⟩) n c l :: R) := by
  have hl := S.swap.len
  by_cases he : er = 0
  · subst he
    by_cases hsh : a + 4 ≤ n
    · have hby : Byte ((l.drop a).take 4) := (hB.drop a).take 4
      have hnb := numb_lt _ hby
      have hlen : ((l.drop a).take 4).length = 4 := by rw [List.length_take, List.length_drop]; omega
      rw [hlen] at hnb
      have hnb2 : numb ((l.drop a).take 4) < 4294967296 := hnb.2
      have hnb1 := hnb.1
      clear hnb hlen
      by_cases hk : numb ((l.drop a).take 4) ≤ most
      · have hrd : Jr.rd l 4 (upto most) ⟨a, 0⟩ = (numb ((l.drop a).take 4), ⟨a + 4, 0⟩) := by
          unfold Jr.rd
          rw [if_pos rfl, if_pos (by show a + 4 ≤ _; omega), if_pos (by simp [upto, hk])]
        rw [hrd]
        generalize hX : numb ((l.drop a).take 4) = X at *
        have hd : decide (X ≤ most) = true := decide_eq_true hk
        have hw : IntKind.i64.wrap X = X := by rw [IntKind.wrap_i64]; omega
        go_enter_defers Tryz.func106, Tryz.ntmps106
        go_wp2_with (go_at_call 134; refine (begin_s S).mono ?_; clear S; rintro _ w1 ⟨rfl, S⟩)
        go_wp2_with (first | (go_at_call 136; refine (take_ok S 4 (by decide) hsh hn).mono ?_; have hp := S.swap.part a 4 hsh; clear S; rintro _ w2 ⟨rfl, S⟩) | (go_at_call 135; refine (number_s (S.swap.part a 4 hsh) (by decide) hby _).mono ?_; rintro _ _ ⟨rfl, rfl⟩))
        refine (give_ok 12 _).mono ?_
        rintro _ _ ⟨rfl, rfl⟩
        go_wp2_with fail
        refine leaves_cons (f := 133) (args := #[.pointer (some ⟨p, 0, none⟩)]) (by simp) (by simp [go_sem]) ?_
        refine (end_idle S).mono ?_
        rintro e u' w'' ⟨rfl, rfl, S⟩
        simp [Leaves, settle, results, Tryz.results106, go_sem]
        exact ⟨_, S⟩
      · have hrd : Jr.rd l 4 (upto most) ⟨a, 0⟩ = (0, ⟨a, 12⟩) := by
          unfold Jr.rd
          rw [if_pos rfl, if_pos (by show a + 4 ≤ _; omega), if_neg (by simp [upto, hk])]
        rw [hrd]
        generalize hX : numb ((l.drop a).take 4) = X at *
        have hd : decide (X ≤ most) = false := decide_eq_false hk
        have hw : IntKind.i64.wrap X = X := by rw [IntKind.wrap_i64]; omega
        go_enter_defers Tryz.func106, Tryz.ntmps106
        go_wp2_with (go_at_call 134; refine (begin_s S).mono ?_; clear S; rintro _ w1 ⟨rfl, S⟩)
        go_wp2_with (first | (go_at_call 136; refine (take_ok S 4 (by decide) hsh hn).mono ?_; have hp := S.swap.part a 4 hsh; clear S; rintro _ w2 ⟨rfl, S⟩) | (go_at_call 135; refine (number_s (S.swap.part a 4 hsh) (by decide) hby _).mono ?_; rintro _ _ ⟨rfl, rfl⟩))
        refine (give_no 12 _).mono ?_
        rintro _ _ ⟨rfl, rfl⟩
        go_wp2_with fail
        refine leaves_cons (f := 133) (args := #[.pointer (some ⟨p, 0, none⟩)]) (by simp) (by simp [go_sem]) ?_
        refine (end_trouble hr hs S 12 []).mono ?_
        rintro e u' w'' ⟨rfl, rfl, S⟩
        simp [Leaves, settle, results, Tryz.results106, go_sem]
        exact ⟨_, S⟩
    · have hrd : Jr.rd l 4 (upto most) ⟨a, 0⟩ = (0, ⟨a, 11⟩) := by
        unfold Jr.rd
        rw [if_pos rfl, if_neg (by show ¬ a + 4 ≤ _; omega)]
      rw [hrd]
      go_enter_defers Tryz.func106, Tryz.ntmps106
      go_wp2_with (go_at_call 134; refine (begin_s S).mono ?_; clear S; rintro _ w1 ⟨rfl, S⟩)
      refine (take_no S 4 hsh han hn).mono ?_
      clear S
      rintro _ w2 ⟨rfl, S⟩
      go_wp2_with fail
      refine leaves_cons (f := 133) (args := #[.pointer (some ⟨p, 0, none⟩)]) (by simp) (by simp [go_sem]) ?_
      refine (end_trouble hr hs S 11 []).mono ?_
      rintro e u' w'' ⟨rfl, rfl, S⟩
      simp [Leaves, settle, results, Tryz.results106, go_sem]
      exact ⟨_, S⟩
  · have hrd : Jr.rd l 4 (upto most) ⟨a, er⟩ = (0, ⟨a, er⟩) := by
      unfold Jr.rd
      rw [if_neg he]
    rw [hrd]
    have hd0 : decide (er = 0) = false := decide_eq_false he
    go_enter_defers Tryz.func106, Tryz.ntmps106
    go_wp2_with (go_at_call 134; refine (begin_s S).mono ?_; clear S; rintro _ w1 ⟨rfl, S⟩; rw [hd0])
    refine leaves_cons (f := 133) (args := #[.pointer (some ⟨p, 0, none⟩)]) (by simp) (by simp [go_sem]) ?_
    refine (end_idle S).mono ?_
    clear S
    rintro e u' w'' ⟨rfl, rfl, S⟩
    rw [if_neg he] at S
    simp [Leaves, settle, results, Tryz.results106, go_sem]
    exact ⟨_, S⟩
set_option maxRecDepth 100000 in
set_option maxHeartbeats 4000000 in
theorem u64_s (hr : Rt w0) {sa : Addr} (hs : Sen sa w0) (S : Sep w0 w (Rd p g n c a b er :: Byt (some ⟨g, 0, none⟩) n c l :: R)) (hB : Byte l) (hn : n ≤ 1000000000) (han : a ≤ n) (most : Int) (hm : 0 ≤ most) (hm1 : most < 9223372036854775808) :
    Calls Tryz.prog 105 #[.pointer (some ⟨p, 0, none⟩), .int .i64 most] w fun e w' => ∃ b', e = .returned (.int .i64 (Jr.rd l 8 (upto64 most) ⟨a, er⟩).1) ∧ Sep w0 w' (Rd p g n c (Jr.rd l 8 (upto64 most) ⟨a, er⟩).2.at_ b' (Jr.rd l 8 (upto64 most) ⟨a, er⟩).2.er :: Byt (some ⟨g, 0, none⟩) n c l :: R) := by
  have hl := S.swap.len
  by_cases he : er = 0
  · subst he
    by_cases hsh : a + 8 ≤ n
    · have hby : Byte ((l.drop a).take 8) := (hB.drop a).take 8
      have hnb := numb_lt _ hby
      have hlen : ((l.drop a).take 8).length = 8 := by rw [List.length_take, List.length_drop]; omega
      rw [hlen] at hnb
      have hnb2 : numb ((l.drop a).take 8) < 18446744073709551616 := hnb.2
      have hnb1 := hnb.1
      clear hnb hlen
      by_cases hk : 0 ≤ most ∧ numb ((l.drop a).take 8) ≤ most
      · have hrd : Jr.rd l 8 (upto64 most) ⟨a, 0⟩ = (numb ((l.drop a).take 8), ⟨a + 8, 0⟩) := by
          unfold Jr.rd
          rw [if_pos rfl, if_pos (by show a + 8 ≤ _; omega), if_pos (by simp [upto64, hk])]
        rw [hrd]
        generalize hX : numb ((l.drop a).take 8) = X at *
        have hd0 : most ≥ 0 := hk.1
        have hwm : IntKind.u64.wrap most = most := by rw [IntKind.wrap_u64]; omega
        have hd : decide (X ≤ most) = true := decide_eq_true hk.2
        have hw : IntKind.i64.wrap X = X := by rw [IntKind.wrap_i64]; omega
        go_enter_defers Tryz.func105, Tryz.ntmps105
        go_wp2_with (go_at_call 134; refine (begin_s S).mono ?_; clear S; rintro _ w1 ⟨rfl, S⟩)
        go_wp2_with (first | (go_at_call 136; refine (take_ok S 8 (by decide) hsh hn).mono ?_; have hp := S.swap.part a 8 hsh; clear S; rintro _ w2 ⟨rfl, S⟩) | (go_at_call 135; refine (number_s (S.swap.part a 8 hsh) (by decide) hby _).mono ?_; rintro _ _ ⟨rfl, rfl⟩))
        refine (give_ok 12 _).mono ?_
        rintro _ _ ⟨rfl, rfl⟩
        go_wp2_with fail
        refine leaves_cons (f := 133) (args := #[.pointer (some ⟨p, 0, none⟩)]) (by simp) (by simp [go_sem]) ?_
        refine (end_idle S).mono ?_
        rintro e u' w'' ⟨rfl, rfl, S⟩
        simp [Leaves, settle, results, Tryz.results105, go_sem]
        exact ⟨_, S⟩
      · have hrd : Jr.rd l 8 (upto64 most) ⟨a, 0⟩ = (0, ⟨a, 12⟩) := by
          unfold Jr.rd
          rw [if_pos rfl, if_pos (by show a + 8 ≤ _; omega), if_neg (by simp only [upto64, Bool.and_eq_true, decide_eq_true_eq]; exact hk)]
        rw [hrd]
        generalize hX : numb ((l.drop a).take 8) = X at *
        have hd0 : most ≥ 0 := hm
        have hwm : IntKind.u64.wrap most = most := by rw [IntKind.wrap_u64]; omega
        have hd : decide (X ≤ most) = false := decide_eq_false fun q => hk ⟨hm, q⟩
        go_enter_defers Tryz.func105, Tryz.ntmps105
        go_wp2_with (go_at_call 134; refine (begin_s S).mono ?_; clear S; rintro _ w1 ⟨rfl, S⟩)
        go_wp2_with (first | (go_at_call 136; refine (take_ok S 8 (by decide) hsh hn).mono ?_; have hp := S.swap.part a 8 hsh; clear S; rintro _ w2 ⟨rfl, S⟩) | (go_at_call 135; refine (number_s (S.swap.part a 8 hsh) (by decide) hby _).mono ?_; rintro _ _ ⟨rfl, rfl⟩))
        refine (give_no 12 _).mono ?_
        rintro _ _ ⟨rfl, rfl⟩
        go_wp2_with fail
        refine leaves_cons (f := 133) (args := #[.pointer (some ⟨p, 0, none⟩)]) (by simp) (by simp [go_sem]) ?_
        refine (end_trouble hr hs S 12 []).mono ?_
        rintro e u' w'' ⟨rfl, rfl, S⟩
        simp [Leaves, settle, results, Tryz.results105, go_sem]
        exact ⟨_, S⟩
    · have hrd : Jr.rd l 8 (upto64 most) ⟨a, 0⟩ = (0, ⟨a, 11⟩) := by
        unfold Jr.rd
        rw [if_pos rfl, if_neg (by show ¬ a + 8 ≤ _; omega)]
      rw [hrd]
      go_enter_defers Tryz.func105, Tryz.ntmps105
      go_wp2_with (go_at_call 134; refine (begin_s S).mono ?_; clear S; rintro _ w1 ⟨rfl, S⟩)
      refine (take_no S 8 hsh han hn).mono ?_
      clear S
      rintro _ w2 ⟨rfl, S⟩
      go_wp2_with fail
      refine leaves_cons (f := 133) (args := #[.pointer (some ⟨p, 0, none⟩)]) (by simp) (by simp [go_sem]) ?_
      refine (end_trouble hr hs S 11 []).mono ?_
      rintro e u' w'' ⟨rfl, rfl, S⟩
      simp [Leaves, settle, results, Tryz.results105, go_sem]
      exact ⟨_, S⟩
  · have hrd : Jr.rd l 8 (upto64 most) ⟨a, er⟩ = (0, ⟨a, er⟩) := by
      unfold Jr.rd
      rw [if_neg he]
    rw [hrd]
    have hd0 : decide (er = 0) = false := decide_eq_false he
    go_enter_defers Tryz.func105, Tryz.ntmps105
    go_wp2_with (go_at_call 134; refine (begin_s S).mono ?_; clear S; rintro _ w1 ⟨rfl, S⟩; rw [hd0])
    refine leaves_cons (f := 133) (args := #[.pointer (some ⟨p, 0, none⟩)]) (by simp) (by simp [go_sem]) ?_
    refine (end_idle S).mono ?_
    clear S
    rintro e u' w'' ⟨rfl, rfl, S⟩
    rw [if_neg he] at S
    simp [Leaves, settle, results, Tryz.results105, go_sem]
    exact ⟨_, S⟩
set_option maxRecDepth 100000 in
set_option maxHeartbeats 4000000 in
theorem rsum_s (hr : Rt w0) {sa : Addr} (hs : Sen sa w0) (S : Sep w0 w (Rd p g n c a b er :: Byt (some ⟨g, 0, none⟩) n c l :: R)) (hB : Byte l) (hn : n ≤ 1000000000) (han : a ≤ n) :
    Calls Tryz.prog 107 #[.pointer (some ⟨p, 0, none⟩)] w fun e w' => ∃ b', e = .returned (.int .u64 (Jr.rd l 8 (Jr.any) ⟨a, er⟩).1) ∧ Sep w0 w' (Rd p g n c (Jr.rd l 8 (Jr.any) ⟨a, er⟩).2.at_ b' (Jr.rd l 8 (Jr.any) ⟨a, er⟩).2.er :: Byt (some ⟨g, 0, none⟩) n c l :: R) := by
  have hl := S.swap.len
  by_cases he : er = 0
  · subst he
    by_cases hsh : a + 8 ≤ n
    · have hby : Byte ((l.drop a).take 8) := (hB.drop a).take 8
      have hnb := numb_lt _ hby
      have hlen : ((l.drop a).take 8).length = 8 := by rw [List.length_take, List.length_drop]; omega
      rw [hlen] at hnb
      have hnb2 : numb ((l.drop a).take 8) < 18446744073709551616 := hnb.2
      have hnb1 := hnb.1
      clear hnb hlen
      have hrd : Jr.rd l 8 (Jr.any) ⟨a, 0⟩ = (numb ((l.drop a).take 8), ⟨a + 8, 0⟩) := by
        unfold Jr.rd
        rw [if_pos rfl, if_pos (by show a + 8 ≤ _; omega), if_pos (show Jr.any _ = true from rfl)]
      rw [hrd]
      generalize hX : numb ((l.drop a).take 8) = X at *
      go_enter_defers Tryz.func107, Tryz.ntmps107
      go_wp2_with (go_at_call 134; refine (begin_s S).mono ?_; clear S; rintro _ w1 ⟨rfl, S⟩)
      go_wp2_with (first | (go_at_call 136; refine (take_ok S 8 (by decide) hsh hn).mono ?_; have hp := S.swap.part a 8 hsh; clear S; rintro _ w2 ⟨rfl, S⟩) | (go_at_call 135; refine (number_s (S.swap.part a 8 hsh) (by decide) hby _).mono ?_; rintro _ _ ⟨rfl, rfl⟩))
      refine leaves_cons (f := 133) (args := #[.pointer (some ⟨p, 0, none⟩)]) (by simp) (by simp [go_sem]) ?_
      refine (end_idle S).mono ?_
      rintro e u' w'' ⟨rfl, rfl, S⟩
      simp [Leaves, settle, results, Tryz.results107, go_sem]
      exact ⟨_, S⟩
    · have hrd : Jr.rd l 8 (Jr.any) ⟨a, 0⟩ = (0, ⟨a, 11⟩) := by
        unfold Jr.rd
        rw [if_pos rfl, if_neg (by show ¬ a + 8 ≤ _; omega)]
      rw [hrd]
      go_enter_defers Tryz.func107, Tryz.ntmps107
      go_wp2_with (go_at_call 134; refine (begin_s S).mono ?_; clear S; rintro _ w1 ⟨rfl, S⟩)
      refine (take_no S 8 hsh han hn).mono ?_
      clear S
      rintro _ w2 ⟨rfl, S⟩
      go_wp2_with fail
      refine leaves_cons (f := 133) (args := #[.pointer (some ⟨p, 0, none⟩)]) (by simp) (by simp [go_sem]) ?_
      refine (end_trouble hr hs S 11 []).mono ?_
      rintro e u' w'' ⟨rfl, rfl, S⟩
      simp [Leaves, settle, results, Tryz.results107, go_sem]
      exact ⟨_, S⟩
  · have hrd : Jr.rd l 8 (Jr.any) ⟨a, er⟩ = (0, ⟨a, er⟩) := by
      unfold Jr.rd
      rw [if_neg he]
    rw [hrd]
    have hd0 : decide (er = 0) = false := decide_eq_false he
    go_enter_defers Tryz.func107, Tryz.ntmps107
    go_wp2_with (go_at_call 134; refine (begin_s S).mono ?_; clear S; rintro _ w1 ⟨rfl, S⟩; rw [hd0])
    refine leaves_cons (f := 133) (args := #[.pointer (some ⟨p, 0, none⟩)]) (by simp) (by simp [go_sem]) ?_
    refine (end_idle S).mono ?_
    clear S
    rintro e u' w'' ⟨rfl, rfl, S⟩
    rw [if_neg he] at S
    simp [Leaves, settle, results, Tryz.results107, go_sem]
    exact ⟨_, S⟩
theorem err_s (S : Sep w0 w (Rd p g n c a b er :: R)) : Calls Tryz.prog 108 #[.pointer (some ⟨p, 0, none⟩)] w fun e w' => e = .returned (.tuple #[.int .i64 er, .int .i64 (a : Int)]) ∧ Sep w0 w' (Rd p g n c a b er :: R) := by
  have h1 := S.cell 1 (v := .int .i64 (a : Int)) rfl
  have h3 := S.cell 3 (v := .int .i64 er) rfl
  have HS := Aside0.mk S
  clear S
  go_enter Tryz.func108, Tryz.ntmps108
  go_wp2_with (fail)
  go_quiet (fail)
  go_wp2_with (fail)
  go_ret2
  exact ⟨rfl, (HS.out).drewN _⟩
end
end Go.Proofs.YtlhlmjkocmahmaaGreatDoor.Sep
/- Sums; heads and commits written. -/
namespace Go.Proofs.YtlhlmjkocmahmaaGreatDoor.Sep
open Go.Proofs Go.RowKit Go.Proofs.YtlhlmjkocmahmaaGreatDoorW.PrintWords Go.Proofs.YtlhlmjkocmahmaaGreatDoorW.PrintLast Go.Proofs.YtlhlmjkocmahmaaGreatDoorW.PrintMore Go.Proofs.YtlhlmjkocmahmaaGreatDoor.Dev Go.Proofs.YtlhlmjkocmahmaaGreatDoor.Errs Go.Proofs.YtlhlmjkocmahmaaGreatDoor.Jr
set_option linter.unusedVariables false
set_option linter.unusedSimpArgs false
section
variable {w0 w w' : World} {R : List Asn} {A : Option Addr} {n c p : Nat} {l : List Int}
theorem sstep_s (h x : Int) (w : World) (hx : 0 ≤ x ∧ x < 256) : Calls Tryz.prog 163 #[.int .u64 h, .int .u8 x] w fun e w' => e = .returned (.int .u64 (sumStep h x)) ∧ w' = w := by
  have hw : IntKind.u64.wrap x = x := by rw [IntKind.wrap_u64]; omega
  go_enter Tryz.func163, Tryz.ntmps163
  go_wp2
  go_ret
  exact ⟨rfl, rfl⟩
theorem more_s (hr : ReadsInt w .u8 A n l) (hb : Byte l) (h0 : Int) (c : Nat) : Calls Tryz.prog 138 #[.int .u64 h0, .slice A n c] w fun e w' => e = .returned (.int .u64 (l.foldl sumStep h0)) ∧ w' = w := by
  have hl := hr.1
  have hn := hr.2.1
  go_enter Tryz.func138, Tryz.ntmps138
  go_wp2
  go_loopw [0, 9] (fun h i wr => ∃ (j : Nat), j ≤ n ∧ i = .int .i64 (j : Int) ∧ h = .int .u64 ((l.take j).foldl sumStep h0) ∧ wr = w) (fun _ i _ => ((n : Int) - intOf i).toNat)
  case atStart => exact ⟨0, Nat.zero_le _, rfl, rfl, rfl⟩
  case round =>
    obtain ⟨j, hj, rfl, rfl, rfl⟩ := hrel
    by_cases hjm : j < n
    · have hi : (j : Int) < (n : Int) := by omega
      obtain ⟨ad, rfl, hc⟩ := hr.2.2 (by omega)
      have hcj := hc j hjm
      obtain ⟨y, hy⟩ : ∃ y, y = l.getD j 0 := ⟨_, rfl⟩
      have hye : l.take (j + 1) = l.take j ++ [y] := by
        rw [List.take_add_one, hy, List.getD_eq_getElem?_getD, List.getElem?_eq_getElem (show j < l.length by omega)]
        rfl
      have hyb : 0 ≤ y ∧ y < 256 := hb y (by rw [hy, List.getD_eq_getElem?_getD, List.getElem?_eq_getElem (show j < l.length by omega)]; exact List.getElem_mem _)
      have hs : (l.take (j + 1)).foldl sumStep h0 = sumStep ((l.take j).foldl sumStep h0) y := by rw [hye, List.foldl_append]; rfl
      rw [← hy] at hcj
      obtain ⟨X, hX⟩ : ∃ X, X = (l.take j).foldl sumStep h0 := ⟨_, rfl⟩
      rw [← hX] at hs ⊢
      have HS := Aside0.mk hs
      have HH := Aside0.mk hr
      have HB := Aside0.mk hb
      clear hs hr hb hye hX hy hc
      go_wp2_with (go_at_call 163; refine (sstep_s X y _ hyb).mono ?_; rintro _ _ ⟨rfl, rfl⟩)
      exact ⟨⟨j + 1, by omega, rfl, by rw [HS.out], trivial⟩, by simp [intOf]; omega⟩
    · obtain rfl : j = n := by omega
      have hi : ¬ ((j : Int) < (j : Int)) := by omega
      have e : l.take j = l := by rw [← hl]; exact List.take_length
      rw [e]
      have HH := Aside0.mk hr
      have HB := Aside0.mk hb
      clear hr hb hjm e
      go_wp2
      go_ret
      exact ⟨rfl, rfl⟩
theorem sum_s (hr : ReadsInt w .u8 A n l) (hb : Byte l) (c : Nat) : Calls Tryz.prog 109 #[.slice A n c] w fun e w' => e = .returned (.int .u64 (sumOf l)) ∧ w' = w := by
  have P := more_s hr hb 14695981039346656037 c
  go_enter Tryz.func109, Tryz.ntmps109
  go_wp2_with (go_at_call 138; refine P.mono ?_; rintro _ _ ⟨rfl, rfl⟩)
  go_ret
  exact ⟨rfl, rfl⟩
/-- A constant's bytes, laid and marked. -/
theorem const_reads (w : World) (l : List Int) (fr : Nat × Nat) (hl : l.length ≤ 140737488355328) : ReadsInt (w.alloc (.cells (nums .u8 l).toArray 5 fr)) .u8 (some ⟨w.heap.size, 0, none⟩) l.length l := by
  refine ⟨rfl, by omega, fun hn => ⟨_, rfl, fun j hj => ?_⟩⟩
  rw [add_plain, World.cell?_alloc_mark, List.getElem?_toArray]
  unfold nums
  rw [List.getElem?_map, List.getD_eq_getElem?_getD, List.getElem?_eq_getElem hj]
  rfl
theorem Sep.reads_blk (S : Sep w0 w (Blk p (nums .u8 l).toArray 5 :: R)) (hl : l.length ≤ 140737488355328) : ReadsInt w .u8 (some ⟨p, 0, none⟩) l.length l := by
  refine ⟨rfl, by omega, fun hn => ⟨_, rfl, fun j hj => ?_⟩⟩
  have := S.cell j (v := .int .u8 (l.getD j 0)) (by
    rw [List.getElem?_toArray]
    unfold nums
    rw [List.getElem?_map, List.getD_eq_getElem?_getD, List.getElem?_eq_getElem hj]
    rfl)
  rw [add_plain]
  exact this
set_option maxRecDepth 100000 in
set_option maxHeartbeats 1000000 in
theorem headBlock_s (S : Sep w0 w R) (seq place : Int) : Calls Tryz.prog 114 #[.int .i64 seq, .int .i64 place] w fun e w' => ∃ g, e = .returned (.slice (some ⟨g, 0, none⟩) 512 512) ∧ Sep w0 w' (Byt (some ⟨g, 0, none⟩) 512 512 (headB seq place) :: R) := by
  have hcv := Lib.run_convert_bytes_const (P := Tryz.prog) w 57 5 #[.int .u8 65, .int .u8 78, .int .u8 88, .int .u8 72] 4 4 Tryz.underlying57 Tryz.underlying5
  have hr1 := const_reads w [65, 78, 88, 72] (4, 5) (by decide)
  have S1 := S.calm (below_alloc (Below.refl _ _) (.cells (nums .u8 [65, 78, 88, 72]).toArray 5 (4, 5)))
  have HR := Aside0.mk hr1
  have HS := Aside0.mk S1
  clear S hr1 S1
  go_enter Tryz.func114, Tryz.ntmps114
  go_wp2_with fail
  refine (put32_s HS.out HR.out (by decide) 0).mono ?_
  rintro _ w2 ⟨A2, c2, rfl, S⟩
  clear HR HS
  go_wp2_with fail
  refine (put64_s S S.reads (by decide) seq).mono ?_
  rintro _ w3 ⟨A3, c3, rfl, S3⟩
  have S := S3.d1
  clear S3
  go_wp2_with fail
  refine (put32_s S S.reads (by decide) place).mono ?_
  rintro _ w4 ⟨A4, c4, rfl, S4⟩
  have S := S4.d1
  clear S4
  go_wp2_with fail
  have hb : Byte (magicH ++ be 4 (IntKind.u64.wrap 0) ++ be 8 (IntKind.u64.wrap seq) ++ be 4 (IntKind.u64.wrap place)) := by
    refine Byte.app (Byte.app (Byte.app ?_ (be_byte _ _)) (be_byte _ _)) (be_byte _ _)
    intro y hy
    simp [magicH] at hy
    omega
  refine (sum_s S.reads hb _).mono ?_
  rintro _ _ ⟨rfl, rfl⟩
  go_wp2_with fail
  refine (putSum_s S S.reads (by decide) _ (sumOf_range _)).mono ?_
  rintro _ w5 ⟨A5, c5, rfl, S5⟩
  have S := S5.d1
  clear S5
  go_wp2_with fail
  refine (blockOf_s S S.reads).mono ?_
  rintro _ w6 ⟨g, rfl, S6⟩
  have S := S6.d1
  clear S6
  go_wp2_with fail
  go_ret
  exact ⟨g, rfl, S⟩
set_option maxRecDepth 100000 in
set_option maxHeartbeats 1000000 in
theorem commitBlock_s (S : Sep w0 w R) (seq : Int) : Calls Tryz.prog 98 #[.int .i64 seq] w fun e w' => ∃ g, e = .returned (.slice (some ⟨g, 0, none⟩) 512 512) ∧ Sep w0 w' (Byt (some ⟨g, 0, none⟩) 512 512 (commitB seq) :: R) := by
  have hcv := Lib.run_convert_bytes_const (P := Tryz.prog) w 57 5 #[.int .u8 65, .int .u8 78, .int .u8 88, .int .u8 67] 4 4 Tryz.underlying57 Tryz.underlying5
  have hr1 := const_reads w [65, 78, 88, 67] (4, 5) (by decide)
  have S1 := S.calm (below_alloc (Below.refl _ _) (.cells (nums .u8 [65, 78, 88, 67]).toArray 5 (4, 5)))
  have HR := Aside0.mk hr1
  have HS := Aside0.mk S1
  clear S hr1 S1
  go_enter Tryz.func98, Tryz.ntmps98
  go_wp2_with fail
  refine (put32_s HS.out HR.out (by decide) 0).mono ?_
  rintro _ w2 ⟨A2, c2, rfl, S⟩
  clear HR HS
  go_wp2_with fail
  refine (put64_s S S.reads (by decide) seq).mono ?_
  rintro _ w3 ⟨A3, c3, rfl, S3⟩
  have S := S3.d1
  clear S3
  go_wp2_with fail
  refine (blockOf_s S S.reads).mono ?_
  rintro _ w6 ⟨g, rfl, S6⟩
  have S := S6.d1
  clear S6
  go_wp2_with fail
  go_ret
  exact ⟨g, rfl, S⟩
end
end Go.Proofs.YtlhlmjkocmahmaaGreatDoor.Sep
/- A head read. -/
namespace Go.Proofs.YtlhlmjkocmahmaaGreatDoor.Sep
open Go.Proofs Go.RowKit Go.Proofs.YtlhlmjkocmahmaaGreatDoorW.PrintWords Go.Proofs.YtlhlmjkocmahmaaGreatDoorW.PrintLast Go.Proofs.YtlhlmjkocmahmaaGreatDoorW.PrintMore Go.Proofs.YtlhlmjkocmahmaaGreatDoor.Dev Go.Proofs.YtlhlmjkocmahmaaGreatDoor.Errs Go.Proofs.YtlhlmjkocmahmaaGreatDoor.Jr
set_option linter.unusedVariables false
set_option linter.unusedSimpArgs false
/-- A byte list as a string's bytes. -/
theorem str_eq {xs ys : List Int} (hx : Byte xs) (hy : Byte ys) : (strOfNums xs = strOfNums ys) ↔ xs = ys := by
  refine ⟨fun h => ?_, fun h => by rw [h]⟩
  have h1 : xs.map (fun n => UInt8.ofNat n.toNat) = ys.map (fun n => UInt8.ofNat n.toNat) := by
    have := congrArg (fun s : ByteArray => s.data.toList) h
    simpa [strOfNums] using this
  clear h
  induction xs generalizing ys with
  | nil =>
    cases ys with
    | nil => rfl
    | cons y r => simp at h1
  | cons x r ih =>
    cases ys with
    | nil => simp at h1
    | cons y s =>
      rw [List.map_cons, List.map_cons] at h1
      have h2 := (List.cons.inj h1).1
      have h3 := (List.cons.inj h1).2
      have bx := hx x (by simp)
      have by_ := hy y (by simp)
      have e : x = y := by
        have := congrArg UInt8.toNat h2
        simp at this
        omega
      rw [e, ih (fun z hz => hx z (by simp [hz])) (fun z hz => hy z (by simp [hz])) h3]
theorem str_list {xs ys : List Int} (hx : Byte xs) (hy : Byte ys) : ((strOfNums xs).toList = ys.map fun n => UInt8.ofNat n.toNat) ↔ xs = ys := by
  have e : (ys.map fun n => UInt8.ofNat n.toNat) = (strOfNums ys).toList := by simp [strOfNums]
  rw [e, ByteArray.toList_eq, ByteArray.toList_eq, ← str_eq hx hy]
  constructor
  · intro h
    exact ByteArray.ext (Array.toList_inj.1 h)
  · intro h
    rw [h]
theorem isH {xs : List Int} (hx : Byte xs) : (strOfNums xs).toList = [65, 78, 88, 72] ↔ xs = magicH := str_list hx (ys := magicH) (by intro y hy; simp [magicH, magicD, magicC] at hy; omega)
theorem isD {xs : List Int} (hx : Byte xs) : (strOfNums xs).toList = [65, 78, 88, 68] ↔ xs = magicD := str_list hx (ys := magicD) (by intro y hy; simp [magicH, magicD, magicC] at hy; omega)
theorem isC {xs : List Int} (hx : Byte xs) : (strOfNums xs).toList = [65, 78, 88, 67] ↔ xs = magicC := str_list hx (ys := magicC) (by intro y hy; simp [magicH, magicD, magicC] at hy; omega)
theorem is0 {xs : List Int} (hx : Byte xs) : (strOfNums xs).toList = [0, 0, 0, 0] ↔ xs = [0, 0, 0, 0] := str_list hx (ys := [0, 0, 0, 0]) (by intro y hy; simp [magicH, magicD, magicC] at hy; omega)
theorem rd_at_le (l : List Int) (n : Nat) (ok : Int → Bool) (s : RS) (h : s.at_ ≤ l.length) : (Jr.rd l n ok s).2.at_ ≤ l.length := by
  unfold Jr.rd
  split
  · split
    · split
      · assumption
      · exact h
    · exact h
  · exact h
section
variable {w0 w w' : World} {R : List Asn} {g c : Nat} {l : List Int}
theorem str_at (S : Sep w0 w (Byt (some ⟨g, 0, none⟩) 512 c l :: R)) (o m c' : Nat) (h : o + m ≤ 512) : (convert 57 9 (.slice (some ⟨g, o, none⟩) m c')).run Tryz.prog w = .ok (.string (strOfNums ((l.drop o).take m))) w := by
  have hl := S.len
  refine run_convert_bytes_arg w 57 5 Tryz.underlying57 Tryz.underlying5 g o m c' ((l.drop o).take m) (by simp; omega) (fun i hi => ?_) 9 Tryz.underlying9
  rw [S.elem (o + i) (by omega)]
  congr 2
  simp [List.getD_eq_getElem?_getD, List.getElem?_take, List.getElem?_drop, hi]
set_option maxRecDepth 100000 in
set_option maxHeartbeats 4000000 in
theorem readHead_s (hr : Rt w0) {sa : Addr} (hs : Sen sa w0) (S : Sep w0 w (Byt (some ⟨g, 0, none⟩) 512 c l :: R)) (hB : Byte l) (places : Int) (hp0 : 0 ≤ places) (hp : places ≤ 4096) :
    Calls Tryz.prog 83 #[.slice (some ⟨g, 0, none⟩) 512 c, .int .i64 places] w fun e w' => e = .returned (.tuple #[.int .i64 (readHead l places).1, .int .i64 (readHead l places).2.1, .bool (readHead l places).2.2]) ∧ Sep w0 w' (Byt (some ⟨g, 0, none⟩) 512 c l :: R) := by
  have hl := S.len
  have hc := S.cap
  have hB2 : Byte ((l.drop 8).take 20) := (hB.drop 8).take 20
  have P1 := newReader_s S (S.part 8 20 (by decide)) (by decide) (c - 8)
  have hw1 : IntKind.i64.wrap (places - 1) = places - 1 := by rw [IntKind.wrap_i64]; omega
  clear S
  unfold Jr.readHead
  dsimp only
  generalize hx : Jr.rd ((l.drop 8).take 20) 8 (upto64 4611686018427387905) ⟨0, 0⟩ = x
  generalize hy : Jr.rd ((l.drop 8).take 20) 4 (upto (places - 1)) x.2 = y
  generalize hz : Jr.rd ((l.drop 8).take 20) 8 Jr.any y.2 = z
  go_enter Tryz.func83, Tryz.ntmps83
  go_wp2_with (go_at_call 104; refine P1.mono ?_; clear P1; rintro _ w1 ⟨p, g2, rfl, S⟩)
  have hl2 : ((l.drop 8).take 20).length = 20 := by rw [List.length_take, List.length_drop]; omega
  have ax : x.2.at_ ≤ 20 := by rw [← hx]; have := rd_at_le ((l.drop 8).take 20) 8 (upto64 4611686018427387905) ⟨0, 0⟩ (Nat.zero_le _); omega
  have ay : y.2.at_ ≤ 20 := by rw [← hy]; have := rd_at_le ((l.drop 8).take 20) 4 (upto (places - 1)) x.2 (by omega); omega
  have hy' : Jr.rd ((l.drop 8).take 20) 4 (upto (places - 1)) ⟨x.2.at_, x.2.er⟩ = y := hy
  have hz' : Jr.rd ((l.drop 8).take 20) 8 Jr.any ⟨y.2.at_, y.2.er⟩ = z := hz
  refine (u64_s hr hs S hB2 (by decide) (by decide) 4611686018427387905 (by decide) (by decide)).mono ?_
  clear S
  rw [hx]
  rintro _ w2 ⟨b2, rfl, S⟩
  go_wp2_with fail
  refine (u32_s hr hs S hB2 (by decide) ax (places - 1)).mono ?_
  clear S
  rw [hy']
  rintro _ w3 ⟨b3, rfl, S⟩
  go_wp2_with fail
  refine (rsum_s hr hs S hB2 (by decide) ay).mono ?_
  clear S
  rw [hz']
  rintro _ w4 ⟨b4, rfl, S⟩
  go_wp2_with fail
  refine (err_s S).mono ?_
  clear S
  rintro _ w5 ⟨rfl, S⟩
  have S := S.drop.drop
  have hcv := str_at S 0 4 c (by decide)
  have hM := isH (hB.take 4)
  have hB3 : Byte ((l.drop 0).take 20) := (hB.drop 0).take 20
  go_wp2_with (go_at_call 109; refine (sum_s (S.part 0 20 (by decide)) hB3 _).mono ?_; rintro _ _ ⟨rfl, rfl⟩)
  all_goals go_ret3
  all_goals refine ⟨congrArg (fun b => Ending.returned (.tuple #[.int .i64 x.1, .int .i64 y.1, .bool b])) ?_, S⟩
  all_goals rw [List.drop_zero] at *
  all_goals clear S
  all_goals simp_all [Bool.beq_eq_decide_eq]
  all_goals (intro h; omega)
end
end Go.Proofs.YtlhlmjkocmahmaaGreatDoor.Sep
/- Blocks escaped and unescaped. -/
namespace Go.Proofs.YtlhlmjkocmahmaaGreatDoor.Sep
open Go.Proofs Go.RowKit Go.Proofs.YtlhlmjkocmahmaaGreatDoorW.PrintWords Go.Proofs.YtlhlmjkocmahmaaGreatDoorW.PrintLast Go.Proofs.YtlhlmjkocmahmaaGreatDoorW.PrintMore Go.Proofs.YtlhlmjkocmahmaaGreatDoor.Dev Go.Proofs.YtlhlmjkocmahmaaGreatDoor.Errs Go.Proofs.YtlhlmjkocmahmaaGreatDoor.Jr
set_option linter.unusedVariables false
set_option linter.unusedSimpArgs false
section
variable {w0 W w : World} {R : List Asn} {g n c : Nat} {xs l : List Int} {A : Option Addr}
/-- Cells of a row written one behind the other. -/
theorem Sep.spliced (S : Sep w0 W (Byt (some ⟨g, 0, none⟩) n c xs :: R)) (off : Nat) (cs : List Int) (h : off + cs.length ≤ n) (hn : 0 < n) :
    ∃ cur : Array Value, W.heap[g]? = some (.cells cur 5 (0, 0)) ∧ n ≤ cur.size ∧ Sep w0 (W.setRow g (cur.toList.take off ++ nums .u8 cs ++ cur.toList.drop (off + cs.length)).toArray) (Byt (some ⟨g, 0, none⟩) n c (splice xs off cs) :: R) := by
  obtain ⟨g', cur, e1, hg, hcs, hnc, hlow⟩ := S.open_ hn
  cases e1
  obtain ⟨F, hF, _⟩ := S.hd
  have hxs := S.len
  have hcl : (nums .u8 cs).length = cs.length := by simp [nums]
  have hcur : cur.size = c := by omega
  have htake : cur.toList.take n = nums .u8 xs := by
    rcases hF.1.2 with ⟨e, _⟩ | ⟨g2, cap2, cur2, e, _, b2, _, _, _, b6⟩
    · cases e
    · cases e
      rw [hg] at b2
      cases b2
      rw [Nat.mul_one] at b6
      exact b6
  refine ⟨cur, hg, by omega, S.grown (v' := .slice (some ⟨g, 0, none⟩) n c) ?_ ?_ (.inl rfl)⟩
  · refine ⟨by rw [nums_splice]; unfold splice; simp; simp [nums] at hcl ⊢; omega, .inr ⟨g, c, _, rfl, Nat.zero_le _, setRow_heap W g _ _ 5 _ hg, hnc, ?_, ?_, ?_⟩⟩
    · rcases hF.1.2 with ⟨e, _⟩ | ⟨g2, cap2, cur2, e, _, b2, _, b4, _, _⟩
      · cases e
      · cases e
        exact b4
    · simp
      have : cur.toList.length = c := by simpa using hcur
      omega
    · rw [nums_splice, ← htake]
      simp only [Nat.mul_one, List.toList_toArray]
      have := take_splice cur.toList (nums .u8 cs) off n (by rw [hcl]; exact h) (by simp; omega)
      unfold splice at this ⊢
      rw [hcl] at this
      rw [List.append_assoc]
      rw [hcl]
      exact this
  · exact ⟨rfl, rfl, rfl, by simp [World.setRow], fun k hk hne => setRow_other W g k _ (by intro e; exact hne (by rw [e]; rfl))⟩
theorem zeroU8 (w : World) : (zeroValue 5).run Tryz.prog w = .ok (.int .u8 0) w := by kernel_rfl
theorem Sep.clear4 (S : Sep w0 W (Byt (some ⟨g, 0, none⟩) 512 c xs :: R)) : ∃ W', (∀ ty c', (Builtin.clear_ #[57] ty #[.slice (some ⟨g, 0, none⟩) 4 c']).run Tryz.prog W = .ok (.tuple #[]) W') ∧ Sep w0 W' (Byt (some ⟨g, 0, none⟩) 512 c (splice xs 0 [0, 0, 0, 0]) :: R) := by
  obtain ⟨cur, h1, h2, h3⟩ := S.spliced 0 [0, 0, 0, 0] (by decide) (by decide)
  refine ⟨_, fun ty c' => ?_, h3⟩
  have hst := run_storeCells_at (P := Tryz.prog) g 0 5 (nums .u8 [0, 0, 0, 0]) 0 cur W h1 (by show 0 + 0 + 4 ≤ _; omega) (by intro v hv; simp [nums] at hv; rw [hv]; rfl)
  have hzc : (Builtin.zeroCells (Value.int IntKind.u8 0).cells 4).toList = nums .u8 [0, 0, 0, 0] := by simp [Builtin.zeroCells, Value.cells, nums, List.range_succ]
  simp only [Builtin.clear_]
  have hst' : (storeCells ⟨g, 0, none⟩ (Builtin.zeroCells (Value.int IntKind.u8 0).cells 4).toList).run Tryz.prog W = .ok () (W.setRow g (cur.toList.take 0 ++ nums .u8 [0, 0, 0, 0] ++ cur.toList.drop (0 + 4)).toArray) := by rw [hzc]; exact hst
  simp [run_underlying Tryz.underlying57, zeroU8, Result.andThen, hst']
theorem Sep.copyS (S : Sep w0 W (Byt (some ⟨g, 0, none⟩) 512 c xs :: R)) (ys : List Int) (hy : Byte ys) (hl : ys.length ≤ 512) : ∃ W', (∀ ty, (Builtin.copy_ #[57, 9] ty #[.slice (some ⟨g, 0, none⟩) 512 c, .string (strOfNums ys)]).run Tryz.prog W = .ok (goInt (ys.length : Int)) W') ∧ Sep w0 W' (Byt (some ⟨g, 0, none⟩) 512 c (splice xs 0 ys) :: R) := by
  obtain ⟨cur, h1, h2, h3⟩ := S.spliced 0 ys (by omega) (by decide)
  have hsz : (strOfNums ys).size = ys.length := by simp [strOfNums, ByteArray.size]
  have hb : Lib.byteCells (strOfNums ys).data.toList = nums .u8 ys := by
    unfold Lib.byteCells nums strOfNums
    simp
    intro y hy'
    have := hy y hy'
    omega
  refine ⟨_, fun ty => ?_, h3⟩
  have hrun := Lib.run_copy_row_string (P := Tryz.prog) W 57 9 ty 5 g 0 512 c (strOfNums ys) cur 5 Tryz.underlying57 info5s h1 (by rw [hsz]; exact hl) (by rw [hsz]; omega)
  rw [hb, hsz] at hrun
  exact hrun
set_option maxRecDepth 100000 in
set_option maxHeartbeats 2000000 in
theorem escaped_s (S : Sep w0 w R) (hr : ReadsInt w .u8 A 512 l) (hB : Byte l) : Calls Tryz.prog 95 #[.slice A 512 c] w fun e w' => ∃ g, e = .returned (.tuple #[.slice (some ⟨g, 0, none⟩) 512 512, .int .i64 (flagOf l)]) ∧ Sep w0 w' (Byt (some ⟨g, 0, none⟩) 512 512 (esc l) :: R) := by
  have P := blockOf_s (c := c) S hr
  have hl := hr.1
  rw [blk_full hl] at P
  clear S hr
  go_enter Tryz.func95, Tryz.ntmps95
  go_wp2_with fail
  refine P.mono ?_
  clear P
  rintro _ w1 ⟨g, rfl, S⟩
  have hcv := str_at S 0 4 512 (by decide)
  rw [List.drop_zero] at hcv
  obtain ⟨w2, hcl, S2⟩ := S.clear4
  have e2 : splice l 0 [0, 0, 0, 0] = [0, 0, 0, 0] ++ l.drop 4 := by simp [splice]
  rw [e2] at S2
  have hD := isD (hB.take 4)
  have hC := isC (hB.take 4)
  have HS := Aside0.mk S
  have HS2 := Aside0.mk S2
  clear S S2 e2
  by_cases h1 : l.take 4 = magicD
  · have q1 : (strOfNums (l.take 4)).toList = [65, 78, 88, 68] := hD.2 h1
    have ef : flagOf l = 1 := by unfold flagOf; rw [if_pos h1]
    have ee : esc l = [0, 0, 0, 0] ++ l.drop 4 := by unfold esc; rw [ef]; rfl
    have HE := Aside0.mk ee
    have HF := Aside0.mk ef
    clear hD hC ee ef h1
    go_wp2_with fail
    go_ret2
    refine ⟨g, by rw [HF.out]; rfl, ?_⟩
    rw [HE.out]
    exact HS2.out
  · have q1 : ((strOfNums (l.take 4)).toList == [65, 78, 88, 68]) = false := by simpa using fun q => h1 (hD.1 q)
    by_cases h2 : l.take 4 = magicC
    · have q2 : (strOfNums (l.take 4)).toList = [65, 78, 88, 67] := hC.2 h2
      have ef : flagOf l = 2 := by unfold flagOf; rw [if_neg h1, if_pos h2]
      have ee : esc l = [0, 0, 0, 0] ++ l.drop 4 := by unfold esc; rw [ef]; rfl
      have HE := Aside0.mk ee
      have HF := Aside0.mk ef
      clear hD hC ee ef h1 h2
      go_wp2_with fail
      go_ret2
      refine ⟨g, by rw [HF.out]; rfl, ?_⟩
      rw [HE.out]
      exact HS2.out
    · have q2 : ((strOfNums (l.take 4)).toList == [65, 78, 88, 67]) = false := by simpa using fun q => h2 (hC.1 q)
      have ef : flagOf l = 0 := by unfold flagOf; rw [if_neg h1, if_neg h2]
      have ee : esc l = l := by unfold esc; rw [ef]; rfl
      have HE := Aside0.mk ee
      have HF := Aside0.mk ef
      clear hD hC ee ef h1 h2
      go_wp2_with fail
      go_ret2
      refine ⟨g, by rw [HF.out]; rfl, ?_⟩
      rw [HE.out]
      exact HS.out
set_option maxRecDepth 100000 in
set_option maxHeartbeats 2000000 in
theorem unescaped_s (S : Sep w0 w R) (hr : ReadsInt w .u8 A 512 l) (hB : Byte l) (flag : Int) : Calls Tryz.prog 111 #[.slice A 512 c, .int .i64 flag] w fun e w' => ∃ g d, e = .returned (.tuple #[.slice (some ⟨g, 0, none⟩) 512 512, .bool (unesc l flag).isSome]) ∧ (∀ d', unesc l flag = some d' → d = d') ∧ Sep w0 w' (Byt (some ⟨g, 0, none⟩) 512 512 d :: R) := by
  have P := blockOf_s (c := c) S hr
  have hl := hr.1
  rw [blk_full hl] at P
  clear S hr
  go_enter Tryz.func111, Tryz.ntmps111
  go_wp2_with fail
  refine P.mono ?_
  clear P
  rintro _ w1 ⟨g, rfl, S⟩
  by_cases hf0 : flag = 0
  · have eu : unesc l flag = some l := by unfold unesc; rw [if_pos hf0]
    subst hf0
    have HS := Aside0.mk S
    have HU := Aside0.mk eu
    clear S eu
    go_wp2_with fail
    go_ret2
    exact ⟨g, l, by rw [HU.out]; rfl, fun d' e => by rw [HU.out] at e; exact Option.some.inj e, HS.out⟩
  · have q0 : (flag == 0) = false := by simpa using hf0
    have hcv := str_at S 0 4 512 (by decide)
    rw [List.drop_zero] at hcv
    obtain ⟨wC, hcC, SC⟩ := S.copyS magicC (by intro y hy; simp [magicC] at hy; omega) (by decide)
    obtain ⟨wD, hcD, SD⟩ := S.copyS magicD (by intro y hy; simp [magicD] at hy; omega) (by decide)
    have ec : strOfNums magicC = { data := #[65, 78, 88, 67] } := rfl
    have ed : strOfNums magicD = { data := #[65, 78, 88, 68] } := rfl
    rw [ec] at hcC
    rw [ed] at hcD
    have e2 : splice l 0 magicC = magicC ++ l.drop 4 := by simp [splice, magicC]
    have e3 : splice l 0 magicD = magicD ++ l.drop 4 := by simp [splice, magicD]
    rw [e2] at SC
    rw [e3] at SD
    have h0 := is0 (hB.take 4)
    have HS := Aside0.mk SC
    have HS2 := Aside0.mk SD
    clear S SC SD e2 e3 ec ed
    have hu : (unesc l flag).isSome = ((strOfNums (l.take 4)).toList == [0, 0, 0, 0]) := by
      unfold unesc
      rw [if_neg hf0]
      by_cases hz : l.take 4 = [0, 0, 0, 0]
      · rw [if_pos hz]
        simp [h0.2 hz]
      · rw [if_neg hz]
        have : ¬ (strOfNums (l.take 4)).toList = [0, 0, 0, 0] := fun q => hz (h0.1 q)
        simp [this]
    have HU := Aside0.mk hu
    have hd : ∀ d', unesc l flag = some d' → d' = (if flag = 2 then magicC else magicD) ++ l.drop 4 := by
      intro d' e
      unfold unesc at e
      rw [if_neg hf0] at e
      split at e
      · exact (Option.some.inj e).symm
      · cases e
    have HD := Aside0.mk hd
    clear hu h0 hd
    by_cases hf2 : flag = 2
    · subst hf2
      go_wp2_with fail
      go_ret2
      exact ⟨g, _, by rw [HU.out]; rfl, fun d' e => (HD.out d' e).symm, HS.out⟩
    · have q2 : (flag == 2) = false := by simpa using hf2
      rw [if_neg hf2] at HD
      go_wp2_with fail
      go_ret2
      exact ⟨g, _, by rw [HU.out]; rfl, fun d' e => (HD.out d' e).symm, HS2.out⟩
end
end Go.Proofs.YtlhlmjkocmahmaaGreatDoor.Sep
/- Is a block a commit of that number? -/
namespace Go.Proofs.YtlhlmjkocmahmaaGreatDoor.Sep
open Go.Proofs Go.RowKit Go.Proofs.YtlhlmjkocmahmaaGreatDoorW.PrintWords Go.Proofs.YtlhlmjkocmahmaaGreatDoorW.PrintLast Go.Proofs.YtlhlmjkocmahmaaGreatDoorW.PrintMore Go.Proofs.YtlhlmjkocmahmaaGreatDoor.Dev Go.Proofs.YtlhlmjkocmahmaaGreatDoor.Errs Go.Proofs.YtlhlmjkocmahmaaGreatDoor.Jr
set_option linter.unusedVariables false
set_option linter.unusedSimpArgs false
/-- What stands in a row of n bytes. -/
def RowB (g n : Nat) (l : List Int) (W : World) : Prop := ∀ i, i < n → W.cell? ⟨g, i, none⟩ = some (.int .u8 (l.getD i 0))
theorem rowB_drew (g n : Nat) (l : List Int) (W : World) : RowB g n l W.drew = RowB g n l W := rfl
theorem rowB_str {g n : Nat} {l : List Int} {W : World} (hl : l.length = n) (h : RowB g n l W) (o m c' : Nat) (hom : o + m ≤ n) : (convert 57 9 (.slice (some ⟨g, o, none⟩) m c')).run Tryz.prog W = .ok (.string (strOfNums ((l.drop o).take m))) W := by
  refine run_convert_bytes_arg W 57 5 Tryz.underlying57 Tryz.underlying5 g o m c' ((l.drop o).take m) (by simp; omega) (fun i hi => ?_) 9 Tryz.underlying9
  rw [h (o + i) (by omega)]
  congr 2
  simp [List.getD_eq_getElem?_getD, List.getElem?_take, List.getElem?_drop, hi]
section
variable {w0 w w' : World} {R : List Asn} {g n c : Nat} {l : List Int}
theorem Sep.rowB (S : Sep w0 w (Byt (some ⟨g, 0, none⟩) n c l :: R)) : RowB g n l w := fun i hi => S.elem i hi
set_option maxRecDepth 100000 in
set_option maxHeartbeats 8000000 in
theorem isCommit_s (S : Sep w0 w (Byt (some ⟨g, 0, none⟩) 512 c l :: R)) (hB : Byte l) (seq : Int) : Calls Tryz.prog 112 #[.slice (some ⟨g, 0, none⟩) 512 c, .int .i64 seq] w fun e w' => e = .returned (.bool (isCommit l seq)) ∧ Sep w0 w' (Byt (some ⟨g, 0, none⟩) 512 c l :: R) := by
  have hl := S.len
  have hc := S.cap
  have hC := isC (hB.take 4)
  by_cases h1 : l.take 4 = magicC
  · have hr := S.rowB
    have hcv := fun W (h : RowB g 512 l W) => rowB_str hl h 0 4 c (by decide)
    have hcw := fun W (h : RowB g 512 l W) => rowB_str hl h 8 8 (c - 8) (by decide)
    have hdr := rowB_drew g 512 l
    rw [List.drop_zero] at hcv
    have q1 : (strOfNums (l.take 4)).toList = [65, 78, 88, 67] := hC.2 h1
    have HM := Aside0.mk h1
    have q8 : ¬ c = 8 := by omega
    have k4 : (4 : Int) ≤ (c : Int) := by omega
    have k16 : (16 : Int) ≤ (c : Int) := by omega
    clear h1 hC
    go_enter Tryz.func112, Tryz.ntmps112
    go_wp2_with fail
    go_region_held (fun W => RowB g 512 l W) (repeat (first | (with_reducible assumption) | (rw [rowB_drew]))) (first | (go_at_call 121; refine (put64_s (A := none) (n := 0) (c := 0) (l := []) S.drew ⟨rfl, by decide, fun h => absurd h (Nat.lt_irrefl 0)⟩ (by decide) seq).mono ?_; rintro _ w2 ⟨A2, c2, rfl, S2⟩; have y0 := S2.swap.rowB; obtain ⟨g2, rfl⟩ := S2.addr (by decide); have y2 : RowB g2 8 (be 8 (IntKind.u64.wrap seq)) w2 := Sep.rowB (n := 8) (l := be 8 (IntKind.u64.wrap seq)) S2; have y1 := rowB_str (be_len 8 _) y2 0 8 c2 (by decide)))
    have HE : isCommit l seq = ((strOfNums ((l.drop 8).take 8)).toList == (strOfNums ((be 8 (IntKind.u64.wrap seq)).take 8)).toList) := by
      have e1 : (be 8 (IntKind.u64.wrap seq)).take 8 = be 8 (IntKind.u64.wrap seq) := List.take_of_length_le (by rw [be_len]; exact Nat.le_refl _)
      have e2 := str_list ((hB.drop 8).take 8) (be_byte 8 (IntKind.u64.wrap seq))
      have e3 : (strOfNums (be 8 (IntKind.u64.wrap seq))).toList = (be 8 (IntKind.u64.wrap seq)).map fun n => UInt8.ofNat n.toNat := (str_list (be_byte 8 _) (be_byte 8 _)).2 rfl
      rw [e1, e3]
      unfold isCommit
      rw [hl, HM.out]
      by_cases hq : (l.drop 8).take 8 = be 8 (IntKind.u64.wrap seq)
      · have := e2.2 hq
        simp [hq, this, u64]
        rw [e3]
      · have : ¬ _ := fun q => hq (e2.1 q)
        simp [hq, u64]
        exact this
    have HE := Aside0.mk HE
    go_wp2_with fail
    go_ret
    exact ⟨by rw [HE.out]; rfl, S2.drop⟩
  · have q1 : ((strOfNums (l.take 4)).toList == [65, 78, 88, 67]) = false := by simpa using fun q => h1 (hC.1 q)
    have HE : isCommit l seq = false := isCommit_no h1
    have hr := S.rowB
    have hcv := fun k => rowB_str (W := w.drewN k) hl (show RowB g 512 l (w.drewN k) from hr) 0 4 c (by decide)
    rw [List.drop_zero] at hcv
    have k4 : (4 : Int) ≤ (c : Int) := by omega
    have HE := Aside0.mk HE
    have HS := Aside0.mk S
    clear h1 hC S
    go_enter Tryz.func112, Tryz.ntmps112
    go_wp2_with fail
    go_quiet (fail)
    go_wp2_with fail
    go_ret
    exact ⟨by rw [HE.out]; rfl, (HS.out).drewN _⟩
theorem isCommit_nil (S : Sep w0 w R) (seq : Int) : Calls Tryz.prog 112 #[.slice none 0 0, .int .i64 seq] w fun e w' => e = .returned (.bool false) ∧ Sep w0 w' R := by
  have HS := Aside0.mk S
  clear S
  go_enter Tryz.func112, Tryz.ntmps112
  go_wp2_with fail
  go_quiet (fail)
  go_wp2_with fail
  go_ret
  exact ⟨rfl, (HS.out).drewN _⟩
end
end Go.Proofs.YtlhlmjkocmahmaaGreatDoor.Sep
/- Descriptors written. -/
namespace Go.Proofs.YtlhlmjkocmahmaaGreatDoor.Sep
open Go.Proofs Go.RowKit Go.Proofs.YtlhlmjkocmahmaaGreatDoorW.PrintWords Go.Proofs.YtlhlmjkocmahmaaGreatDoorW.PrintLast Go.Proofs.YtlhlmjkocmahmaaGreatDoorW.PrintMore Go.Proofs.YtlhlmjkocmahmaaGreatDoor.Dev Go.Proofs.YtlhlmjkocmahmaaGreatDoor.Errs Go.Proofs.YtlhlmjkocmahmaaGreatDoor.Jr
set_option linter.unusedVariables false
set_option linter.unusedSimpArgs false
/-- The cells of a list of entries. -/
def ecells (es : List (Int × Int)) : List Value := es.flatMap fun x => [.int .i64 x.1, .int .i64 x.2]
theorem ecells_at {es : List (Int × Int)} {i : Nat} {x : Int × Int} (h : es[i]? = some x) : (ecells es)[i * 2]? = some (.int .i64 x.1) ∧ (ecells es)[i * 2 + 1]? = some (.int .i64 x.2) := by
  induction es generalizing i with
  | nil => simp at h
  | cons y r ih =>
    cases i with
    | zero =>
      simp at h
      subst h
      exact ⟨rfl, rfl⟩
    | succ i =>
      have h' : r[i]? = some x := by simpa using h
      have := ih h'
      have e1 : (i + 1) * 2 = i * 2 + 2 := by omega
      rw [e1]
      exact ⟨this.1, this.2⟩
theorem ecells_len (es : List (Int × Int)) : (ecells es).length = es.length * 2 := by
  induction es with
  | nil => rfl
  | cons y r ih =>
    show (_ :: _ :: ecells r).length = _
    simp [ih]
    omega
abbrev EntA (A : Option Addr) (n c : Nat) (es : List (Int × Int)) : Asn := Own 171 2 (.slice A n c) n (ecells es)
theorem entB_snoc (es : List (Int × Int)) (x : Int × Int) : entB (es ++ [x]) = entB es ++ (be 4 (u64 x.1) ++ be 4 (u64 x.2)) := by
  induction es with
  | nil => simp [entB]
  | cons y r ih => simp [entB, ih, List.append_assoc]
section
variable {w0 w w' : World} {R : List Asn} {A : Option Addr} {n c : Nat} {es : List (Int × Int)}
theorem Sep.ent_len (S : Sep w0 w (EntA A n c es :: R)) : es.length = n := by
  have := S.row.1
  rw [ecells_len] at this
  omega
set_option maxRecDepth 100000 in
set_option maxHeartbeats 4000000 in
theorem descriptorBlock_s (S : Sep w0 w (EntA A n c es :: R)) (hn : n ≤ 1000000) (seq : Int) : Calls Tryz.prog 96 #[.int .i64 seq, .slice A n c] w fun e w' => ∃ g, e = .returned (.slice (some ⟨g, 0, none⟩) 512 512) ∧ Sep w0 w' (Byt (some ⟨g, 0, none⟩) 512 512 (descB seq es) :: EntA A n c es :: R) := by
  have hl := S.ent_len
  have hcv := Lib.run_convert_bytes_const (P := Tryz.prog) w 57 5 #[.int .u8 65, .int .u8 78, .int .u8 88, .int .u8 68] 4 4 Tryz.underlying57 Tryz.underlying5
  have hr1 := const_reads w [65, 78, 88, 68] (4, 5) (by decide)
  have S1 := S.calm (below_alloc (Below.refl _ _) (.cells (nums .u8 [65, 78, 88, 68]).toArray 5 (4, 5)))
  have HR := Aside0.mk hr1
  have HS := Aside0.mk S1
  clear S hr1 S1
  go_enter Tryz.func96, Tryz.ntmps96
  go_wp2_with fail
  refine (put32_s HS.out HR.out (by decide) (n : Int)).mono ?_
  rintro _ w2 ⟨A2, c2, rfl, S⟩
  clear HR HS hcv
  go_wp2_with fail
  refine (put64_s S S.reads (by decide) seq).mono ?_
  rintro _ w3 ⟨A3, c3, rfl, S3⟩
  have S := S3.d1
  clear S3
  go_wp2_with fail
  go_loopw [17, 5] (fun i b wr => ∃ (j : Nat) (A1 : Option Addr) (c1 : Nat), j ≤ n ∧ i = .int .i64 (j : Int) ∧ b = .slice A1 (16 + 8 * j) c1 ∧ Sep w0 wr (Byt A1 (16 + 8 * j) c1 (magicD ++ be 4 (u64 (n : Int)) ++ be 8 (u64 seq) ++ entB (es.take j)) :: EntA A n c es :: R)) (fun i _ _ => ((n : Int) - intOf i).toNat)
  case atStart =>
    refine ⟨0, A3, c3, Nat.zero_le _, rfl, rfl, ?_⟩
    rw [List.take_zero]
    show Sep w0 w3 (Byt A3 (4 + 4 + 8) c3 (magicD ++ be 4 (u64 (n : Int)) ++ be 8 (u64 seq) ++ []) :: _)
    rw [List.append_nil]
    exact S
  case round =>
    clear S
    obtain ⟨j, A1, c1, hj, rfl, rfl, S⟩ := hrel
    by_cases hjn : j < n
    · have hi : (j : Int) < (n : Int) := by omega
      obtain ⟨g, rfl⟩ := S.swap.addr (by omega)
      have hx : es[j]? = some es[j] := List.getElem?_eq_getElem (by omega)
      obtain ⟨x, hxe⟩ : ∃ x, x = es[j] := ⟨_, rfl⟩
      rw [← hxe] at hx
      have v0 := S.swap.row.cells (g := g) rfl _ _ (ecells_at hx).1
      have v1 := S.swap.row.cells (g := g) rfl _ _ (ecells_at hx).2
      rw [add_plain] at v0 v1
      have htk : es.take (j + 1) = es.take j ++ [x] := by
        rw [List.take_add_one, hx]
        rfl
      have S2 := S.alloc #[.int .i64 x.1, .int .i64 x.2] 171
      have k0 := S2.cell 0 (v := .int .i64 x.1) rfl
      have k1 := S2.cell 1 (v := .int .i64 x.2) rfl
      have HT := Aside0.mk htk
      clear hxe hx htk
      have kj : (j : Int) * 2 = ((j * 2 : Nat) : Int) := by omega
      go_wp2_with fail
      have tok1 : True := trivial
      have hx8 : 16 + 8 * j ≤ 900000000 := by omega
      have hx12 : 16 + 8 * j + 4 ≤ 900000000 := by omega
      go_region_held (fun W => W.cell? ⟨wr.heap.size, 0, none⟩ = some (.int .i64 x.1) ∧ W.cell? ⟨wr.heap.size, 1, none⟩ = some (.int .i64 x.2)) (refine ⟨?_, ?_⟩ <;> (repeat (first | (with_reducible assumption) | (with_reducible refine kd ?_))))
        (first
          | (go_at_call 122; have _t := tok1; refine (put32_s (n := 16 + 8 * j) (c := c1) S2.drew S2.drew.swap.reads hx8 x.1).mono ?_; rintro _ wa ⟨Aa, ca, rfl, Sa⟩; clear tok1; have y0 := Sa.swap.cell 0 (v := .int .i64 x.1) rfl; have y1 := Sa.swap.cell 1 (v := .int .i64 x.2) rfl)
          | (go_at_call 122; refine (put32_s (n := 16 + 8 * j + 4) (c := ca) Sa Sa.reads hx12 x.2).mono ?_; rintro _ wb ⟨Ab, cb, rfl, Sb⟩; have y0' := (Sb.pull 2).cell 0 (v := .int .i64 x.1) rfl; have y1' := (Sb.pull 2).cell 1 (v := .int .i64 x.2) rfl))
      have e8 : 16 + 8 * (j + 1) = 16 + 8 * j + 4 + 4 := by omega
      have SF : Sep w0 wb (Byt Ab (16 + 8 * (j + 1)) cb (magicD ++ be 4 (u64 (n : Int)) ++ be 8 (u64 seq) ++ entB (es.take (j + 1))) :: EntA (some ⟨g, 0, none⟩) n c es :: R) := by
        rw [e8, HT.out, entB_snoc]
        have S9 := Sb.d3.d2.d1
        simp only [List.append_assoc] at S9 ⊢
        exact S9
      have HF := Aside0.mk SF
      have HE := Aside0.mk e8
      clear S S2 Sa Sb SF HT e8 k0 k1 y0 y1 v0 v1
      go_wp2_with fail
      exact ⟨⟨j + 1, Ab, cb, by omega, by go_num, by rw [HE.out], HF.out⟩, by simp [intOf]; omega⟩
    · obtain rfl : j = n := by omega
      have hi : ¬ ((j : Int) < (j : Int)) := by omega
      have e : es.take j = es := by rw [← hl]; exact List.take_length
      rw [e] at S
      go_wp2_with fail
      refine (blockOf_s (n := 16 + 8 * j) (c := c1) S S.reads).mono ?_
      rintro _ w6 ⟨g, rfl, S6⟩
      have S := S6.d1
      clear S6
      go_wp2_with fail
      go_ret
      refine ⟨g, rfl, ?_⟩
      have e2 : descB seq es = Go.Proofs.YtlhlmjkocmahmaaGreatDoor.Sep.blk (magicD ++ be 4 (u64 (j : Int)) ++ be 8 (u64 seq) ++ entB es) := by
        unfold descB descHead
        rw [hl]
      rw [e2]
      exact S
end
end Go.Proofs.YtlhlmjkocmahmaaGreatDoor.Sep
/- Descriptors read. -/
namespace Go.Proofs.YtlhlmjkocmahmaaGreatDoor.Sep
open Go.Proofs Go.RowKit Go.Proofs.YtlhlmjkocmahmaaGreatDoorW.PrintWords Go.Proofs.YtlhlmjkocmahmaaGreatDoorW.PrintLast Go.Proofs.YtlhlmjkocmahmaaGreatDoorW.PrintMore Go.Proofs.YtlhlmjkocmahmaaGreatDoor.Dev Go.Proofs.YtlhlmjkocmahmaaGreatDoor.Errs Go.Proofs.YtlhlmjkocmahmaaGreatDoor.Jr
set_option linter.unusedVariables false
set_option linter.unusedSimpArgs false
theorem infoEnt : (Tryz.prog.info? 171).map (fun i => (i.zero, i.size, i.bytes)) = some (some (.agg #[.int .i64 0, .int .i64 0]), 2, 16) := by kernel_rfl
theorem rdEnts_snoc (l : List Int) : ∀ (j : Nat) (s : RS), rdEnts l (j + 1) s = ((rdEnts l j s).1 ++ [((Jr.rd l 4 (upto 4096) (rdEnts l j s).2).1, (Jr.rd l 4 (upto 2) (Jr.rd l 4 (upto 4096) (rdEnts l j s).2).2).1)], (Jr.rd l 4 (upto 2) (Jr.rd l 4 (upto 4096) (rdEnts l j s).2).2).2)
  | 0, s => rfl
  | j + 1, s => by
    have ih := rdEnts_snoc l j (Jr.rd l 4 (upto 2) (Jr.rd l 4 (upto 4096) s).2).2
    have e1 : ∀ k, rdEnts l (k + 1) s = (((Jr.rd l 4 (upto 4096) s).1, (Jr.rd l 4 (upto 2) (Jr.rd l 4 (upto 4096) s).2).1) :: (rdEnts l k (Jr.rd l 4 (upto 2) (Jr.rd l 4 (upto 4096) s).2).2).1, (rdEnts l k (Jr.rd l 4 (upto 2) (Jr.rd l 4 (upto 4096) s).2).2).2) := fun k => rfl
    rw [e1 (j + 1), ih, e1 j]
    rfl
theorem rdEnts_at (l : List Int) : ∀ (j : Nat) (s : RS), s.at_ ≤ l.length → (rdEnts l j s).2.at_ ≤ l.length
  | 0, s, h => h
  | j + 1, s, h => rdEnts_at l j _ (rd_at_le _ _ _ _ (rd_at_le _ _ _ _ h))
theorem rdEnts_len (l : List Int) : ∀ (j : Nat) (s : RS), (rdEnts l j s).1.length = j
  | 0, s => rfl
  | j + 1, s => by
    show (_ :: (rdEnts l j _).1).length = _
    rw [List.length_cons, rdEnts_len l j]
theorem ecells_snoc (es : List (Int × Int)) (x : Int × Int) : ecells (es ++ [x]) = ecells es ++ [.int .i64 x.1, .int .i64 x.2] := by simp [ecells]
section
variable {w0 w w' : World} {R : List Asn} {g c : Nat} {l : List Int}
/-- What readDescriptor answers. -/
def RDescP (w0 : World) (R : List Asn) (o : Option (List (Int × Int))) (e : Ending) (w' : World) : Prop :=
  ∃ A n c' es, e = .returned (.tuple #[.slice A n c', .bool o.isSome]) ∧ (∀ es', o = some es' → es = es') ∧ Sep w0 w' (EntA A n c' es :: R)
theorem rdesc_none {o : Option (List (Int × Int))} (ho : o = none) (S : Sep w0 w R) : RDescP w0 R o (.returned (.tuple #[.slice none 0 0, .bool false])) w := by
  subst ho
  exact ⟨none, 0, 0, [], rfl, fun es' e => (by cases e), S.nils _ _⟩
set_option maxRecDepth 100000 in
set_option maxHeartbeats 8000000 in
theorem readDescriptor_s (hr : Rt w0) {sa : Addr} (hs : Sen sa w0) (S : Sep w0 w (Byt (some ⟨g, 0, none⟩) 512 c l :: R)) (hB : Byte l) (seq : Int) :
    Calls Tryz.prog 110 #[.slice (some ⟨g, 0, none⟩) 512 c, .int .i64 seq] w (RDescP w0 (Byt (some ⟨g, 0, none⟩) 512 c l :: R) (readDesc l seq)) := by
  have hl := S.len
  have hc := S.cap
  have hM := isD (hB.take 4)
  obtain ⟨b, hb⟩ : ∃ b, b = l.drop 4 := ⟨_, rfl⟩
  have hbl : b.length = 508 := by rw [hb, List.length_drop]; omega
  have hBb : Byte b := by rw [hb]; exact hB.drop 4
  have hpart : ReadsInt w .u8 (some ⟨g, 4, none⟩) 508 b := by
    have := S.part 4 508 (by decide)
    rw [List.take_of_length_le (by rw [← hb]; omega), ← hb] at this
    exact this
  have P1 := newReader_s S hpart (by decide) (c - 4)
  have q4 : ¬ c = 4 := by omega
  have k4 : (4 : Int) ≤ (c : Int) := by omega
  generalize hx : Jr.rd b 4 (upto 24) ⟨0, 0⟩ = x
  generalize hy : Jr.rd b 8 (upto64 4611686018427387904) x.2 = y
  have ax : x.2.at_ ≤ 508 := by rw [← hx]; have := rd_at_le b 4 (upto 24) ⟨0, 0⟩ (Nat.zero_le _); omega
  have ay : y.2.at_ ≤ 508 := by rw [← hy]; have := rd_at_le b 8 (upto64 4611686018427387904) x.2 (by omega); omega
  have hx24 : x.1 ≤ 24 := by
    rw [← hx]
    unfold Jr.rd
    split
    · split
      · split
        · rename_i h
          unfold upto at h
          exact of_decide_eq_true h
        · decide
      · decide
    · decide
  have hy' : Jr.rd b 8 (upto64 4611686018427387904) ⟨x.2.at_, x.2.er⟩ = y := hy
  have hrd : readDesc l seq = if l.take 4 = magicD ∧ y.2.er = 0 ∧ 1 ≤ x.1 ∧ y.1 = seq then (if (rdEnts b x.1.toNat y.2).2.er = 0 then some (rdEnts b x.1.toNat y.2).1 else none) else none := by
    unfold readDesc
    simp only [← hb, hx, hy]
  have HRD := Aside0.mk hrd
  clear hrd hb hpart S
  by_cases h1 : l.take 4 = magicD
  · have q1 : (strOfNums (l.take 4)).toList = [65, 78, 88, 68] := hM.2 h1
    by_cases h2 : y.2.er = 0
    · by_cases h3 : 1 ≤ x.1
      · by_cases h4 : y.1 = seq
        · have n3 : ¬ x.1 < 1 := by omega
          obtain ⟨k, hk⟩ : ∃ k : Nat, x.1 = (k : Int) := ⟨x.1.toNat, by omega⟩
          have hk24 : k ≤ 24 := by omega
          have hrd2 : readDesc l seq = if (rdEnts b k y.2).2.er = 0 then some (rdEnts b k y.2).1 else none := by
            rw [HRD.out, if_pos ⟨h1, h2, h3, h4⟩, hk, Int.toNat_natCast]
          have HR2 := Aside0.mk hrd2
          have HM := Aside0.mk hM
          clear HRD hrd2 h1 h3 hM
          go_enter Tryz.func110, Tryz.ntmps110
          go_wp2_with (go_at_call 104; refine P1.mono ?_; clear P1; rintro _ w1 ⟨p, g2, rfl, S⟩)
          refine (u32_s hr hs S hBb (by decide) (by decide) 24).mono ?_
          clear S
          rw [hx]
          rintro _ w2 ⟨b2, rfl, S⟩
          go_wp2_with fail
          refine (u64_s hr hs S hBb (by decide) ax 4611686018427387904 (by decide) (by decide)).mono ?_
          clear S
          rw [hy']
          rintro _ w3 ⟨b3, rfl, S⟩
          clear hx hy hy'
          go_wp2_with fail
          refine (err_s S).mono ?_
          rintro _ w4 ⟨rfl, S4⟩
          clear S
          have hcv := str_at S4.drop.drop 0 4 c (by decide)
          rw [List.drop_zero] at hcv
          have HS := Aside0.mk S4
          clear S4
          rw [hk] at *
          go_wp2_with fail
          go_loopw [44, 11] (fun i o wr => ∃ (j : Nat) (A1 : Option Addr) (c1 b1 : Nat), j ≤ k ∧ i = .int .i64 (j : Int) ∧ o = .slice A1 j c1 ∧ Sep w0 wr (EntA A1 j c1 (rdEnts b j y.2).1 :: Rd p g2 508 508 (rdEnts b j y.2).2.at_ b1 (rdEnts b j y.2).2.er :: Byt (some ⟨g2, 0, none⟩) 508 508 b :: Byt (some ⟨g, 0, none⟩) 512 c l :: R)) (fun i _ _ => ((k : Int) - intOf i).toNat)
          case atStart => exact ⟨0, none, 0, _, Nat.zero_le _, rfl, rfl, Sep.nils HS.out _ _⟩
          case round =>
            clear HS
            obtain ⟨j, A1, c1, b1, hj, rfl, rfl, S⟩ := hrel
            have hat : (rdEnts b j y.2).2.at_ ≤ 508 := by have := rdEnts_at b j y.2 (by omega); omega
            by_cases hjk : j < k
            · have hi : (j : Int) < (k : Int) := by omega
              have hsn := rdEnts_snoc b j y.2
              generalize hz : rdEnts b j y.2 = z at *
              generalize hu : Jr.rd b 4 (upto 4096) z.2 = u at *
              generalize hv : Jr.rd b 4 (upto 2) u.2 = v at *
              have au : u.2.at_ ≤ 508 := by rw [← hu]; have := rd_at_le b 4 (upto 4096) z.2 (by omega); omega
              have hu' : Jr.rd b 4 (upto 4096) ⟨z.2.at_, z.2.er⟩ = u := hu
              have hv' : Jr.rd b 4 (upto 2) ⟨u.2.at_, u.2.er⟩ = v := hv
              have HSN := Aside0.mk hsn
              clear hsn
              go_wp2_with fail
              refine (u32_s hr hs S.p2.p2 hBb (by decide) hat 4096).mono ?_
              clear S
              rw [hu']
              rintro _ w5 ⟨b5, rfl, S⟩
              go_wp2_with fail
              refine (u32_s hr hs S hBb (by decide) au 2).mono ?_
              clear S
              rw [hv']
              rintro _ w6 ⟨b6, rfl, S⟩
              have SA := S.p2
              have hal : (j + 1) * 16 ≤ 140737488355328 := by omega
              clear S
              go_wp2_with ((with_reducible refine gate_builtin (b := .append) (xs := #[.tmp 46, .tmp 52]) rfl ?_); at_builtin; go_must (refine append_s SA rfl (.tmp 46) (.tmp 52) 167 (.agg #[.int .i64 0, .int .i64 0]) 16 rfl Tryz.underlying167 infoEnt rfl (by decide) (by decide) [.int .i64 u.1, .int .i64 v.1] ?ahs ?ahx rfl ?a1 hal ?_); (case ahs => rfl); (case ahx => rfl); (case a1 => (intro q hq; simp only [List.mem_cons, List.not_mem_nil, or_false] at hq; rcases hq with rfl | rfl <;> rfl)); intro A2 c2 w7 S7)
              refine ⟨⟨j + 1, A2, c2, b6, by omega, by go_num, rfl, ?_⟩, by simp [intOf]; omega⟩
              rw [HSN.out]
              show Sep w0 w7 (Own 171 2 _ _ (ecells (z.1 ++ [(u.1, v.1)])) :: _)
              rw [ecells_snoc]
              exact S7
            · obtain rfl : j = k := by omega
              have hi : ¬ ((j : Int) < (j : Int)) := by omega
              go_wp2_with fail
              refine (err_s S.swap).mono ?_
              rintro _ w6 ⟨rfl, S6⟩
              go_wp2_with fail
              go_ret2
              refine ⟨A1, j, c1, _, ?_, ?_, S6.swap.drop2.d1⟩
              · rw [HR2.out]
                by_cases hz : (rdEnts b j y.2).2.er = 0
                · rw [if_pos hz]
                  simp [hz]
                · rw [if_neg hz]
                  simp [hz]
              · intro es' e
                rw [HR2.out] at e
                split at e
                · exact Option.some.inj e
                · cases e
        · have n3 : ¬ x.1 < 1 := by omega
          have h4b : (y.1 != seq) = true := by simpa using h4
          clear h1 h3
          go_enter Tryz.func110, Tryz.ntmps110
          go_wp2_with (go_at_call 104; refine P1.mono ?_; clear P1; rintro _ w1 ⟨p, g2, rfl, S⟩)
          refine (u32_s hr hs S hBb (by decide) (by decide) 24).mono ?_
          clear S
          rw [hx]
          rintro _ w2 ⟨b2, rfl, S⟩
          go_wp2_with fail
          refine (u64_s hr hs S hBb (by decide) ax 4611686018427387904 (by decide) (by decide)).mono ?_
          clear S
          rw [hy']
          rintro _ w3 ⟨b3, rfl, S⟩
          clear hx hy hy'
          go_wp2_with fail
          refine (err_s S).mono ?_
          rintro _ w4 ⟨rfl, S4⟩
          clear S
          have hcv := str_at S4.drop.drop 0 4 c (by decide)
          rw [List.drop_zero] at hcv
          have HS := Aside0.mk S4.drop.drop
          have HM := Aside0.mk hM
          clear S4 hM
          go_wp2_with fail
          go_ret2
          exact rdesc_none (by rw [HRD.out, if_neg (by rintro ⟨z1, z2, z3, z4⟩; exact h4 z4)]) HS.out
      · have n3 : x.1 < 1 := by omega
        clear h1
        go_enter Tryz.func110, Tryz.ntmps110
        go_wp2_with (go_at_call 104; refine P1.mono ?_; clear P1; rintro _ w1 ⟨p, g2, rfl, S⟩)
        refine (u32_s hr hs S hBb (by decide) (by decide) 24).mono ?_
        clear S
        rw [hx]
        rintro _ w2 ⟨b2, rfl, S⟩
        go_wp2_with fail
        refine (u64_s hr hs S hBb (by decide) ax 4611686018427387904 (by decide) (by decide)).mono ?_
        clear S
        rw [hy']
        rintro _ w3 ⟨b3, rfl, S⟩
        clear hx hy hy'
        go_wp2_with fail
        refine (err_s S).mono ?_
        rintro _ w4 ⟨rfl, S4⟩
        clear S
        have hcv := str_at S4.drop.drop 0 4 c (by decide)
        rw [List.drop_zero] at hcv
        have HS := Aside0.mk S4.drop.drop
        have HM := Aside0.mk hM
        clear S4 hM
        go_wp2_with fail
        go_ret2
        exact rdesc_none (by rw [HRD.out, if_neg (by rintro ⟨z1, z2, z3, z4⟩; omega)]) HS.out
    · have h2b : (y.2.er == 0) = false := by simpa using h2
      clear h1
      go_enter Tryz.func110, Tryz.ntmps110
      go_wp2_with (go_at_call 104; refine P1.mono ?_; clear P1; rintro _ w1 ⟨p, g2, rfl, S⟩)
      refine (u32_s hr hs S hBb (by decide) (by decide) 24).mono ?_
      clear S
      rw [hx]
      rintro _ w2 ⟨b2, rfl, S⟩
      go_wp2_with fail
      refine (u64_s hr hs S hBb (by decide) ax 4611686018427387904 (by decide) (by decide)).mono ?_
      clear S
      rw [hy']
      rintro _ w3 ⟨b3, rfl, S⟩
      clear hx hy hy'
      go_wp2_with fail
      refine (err_s S).mono ?_
      rintro _ w4 ⟨rfl, S4⟩
      clear S
      have hcv := str_at S4.drop.drop 0 4 c (by decide)
      rw [List.drop_zero] at hcv
      have HS := Aside0.mk S4.drop.drop
      have HM := Aside0.mk hM
      clear S4 hM
      go_wp2_with fail
      go_ret2
      exact rdesc_none (by rw [HRD.out, if_neg (by rintro ⟨z1, z2, z3, z4⟩; exact h2 z2)]) HS.out
  · have q1 : ((strOfNums (l.take 4)).toList == [65, 78, 88, 68]) = false := by simpa using fun q => h1 (hM.1 q)
    go_enter Tryz.func110, Tryz.ntmps110
    go_wp2_with (go_at_call 104; refine P1.mono ?_; clear P1; rintro _ w1 ⟨p, g2, rfl, S⟩)
    refine (u32_s hr hs S hBb (by decide) (by decide) 24).mono ?_
    clear S
    rw [hx]
    rintro _ w2 ⟨b2, rfl, S⟩
    go_wp2_with fail
    refine (u64_s hr hs S hBb (by decide) ax 4611686018427387904 (by decide) (by decide)).mono ?_
    clear S
    rw [hy']
    rintro _ w3 ⟨b3, rfl, S⟩
    clear hx hy hy'
    go_wp2_with fail
    refine (err_s S).mono ?_
    rintro _ w4 ⟨rfl, S4⟩
    clear S
    have hcv := str_at S4.drop.drop 0 4 c (by decide)
    rw [List.drop_zero] at hcv
    have HS := Aside0.mk S4.drop.drop
    have HM := Aside0.mk hM
    clear S4 hM
    go_wp2_with fail
    go_ret2
    exact rdesc_none (by rw [HRD.out, if_neg (by rintro ⟨z1, z2, z3, z4⟩; exact h1 z1)]) HS.out
end
end Go.Proofs.YtlhlmjkocmahmaaGreatDoor.Sep
/- A map in memory as a rising list; its operations, and ranging over it, told of a list of things that lie apart. -/
namespace Go.Proofs.YtlhlmjkocmahmaaGreatDoor.Sep
open Go.Proofs Go.RowKit Go.ChangeMaps Go.MapKept Go.Proofs.YtlhlmjkocmahmaaGreatDoorW.PrintWords Go.Proofs.YtlhlmjkocmahmaaGreatDoorW.PrintLast Go.Proofs.YtlhlmjkocmahmaaGreatDoorW.PrintMore Go.Proofs.YtlhlmjkocmahmaaGreatDoor.Dev Go.Proofs.YtlhlmjkocmahmaaGreatDoor.IMap
open Go.Proofs.YtlhlmjkocmahmaaGreatDoor.SM (lkp ins del Up keys look_ins look_del len_ins len_del_none len_del_some mem_keys)
set_option linter.unusedVariables false
set_option linter.unusedSimpArgs false
/-- The entries are stamped apart. -/
structure Born (es : List MapEntry) (clock : Nat) : Prop where
  lt : ∀ e ∈ es, e.born < clock
  nd : (es.map (·.born)).Nodup
structure MapS (w : World) (b : Nat) (m : List (Int × Value)) : Prop where
  up : Up m
  is : ∃ es clock, w.heap[b]? = some (.map es clock) ∧ Holds es.toList (lkp m) ∧ Born es.toList clock ∧ es.size = m.length
theorem MapS.at_ {w : World} {b : Nat} {m : List (Int × Value)} (h : MapS w b m) : MapAt w b (lkp m) := by
  obtain ⟨es, c, h1, h2, _, _⟩ := h.is
  exact ⟨es, c, h1, h2⟩
theorem MapS.move {w w1 : World} {b : Nat} {m : List (Int × Value)} (h : MapS w b m) (e : w1.heap[b]? = w.heap[b]?) : MapS w1 b m := by
  obtain ⟨es, c, h1, h2⟩ := h.is
  exact ⟨h.up, es, c, e.trans h1, h2⟩
theorem MapS.new (w : World) : MapS (w.alloc (.map #[] 0)) w.heap.size [] := ⟨List.Pairwise.nil, #[], 0, (MapKept.heap_alloc w _).1, Holds.nil, ⟨by simp, by simp⟩, rfl⟩
theorem look_upd (m : List (Int × Value)) (k : Int) (v : Value) : lkp (ins m k v) = upd (lkp m) k (some v) := by
  funext x
  rw [look_ins]
  rfl
theorem look_dele (m : List (Int × Value)) (k : Int) : lkp (del m k) = upd (lkp m) k none := by
  funext x
  rw [look_del]
  rfl
section
variable {P : Program} {t k e : TypeId} {w : World} {b : Nat} {m : List (Int × Value)}
theorem map_born_modify (es : List MapEntry) (j : Nat) (key val : Value) : (es.modify j fun e => { e with key := key, val := val }).map (·.born) = es.map (·.born) := by
  apply List.ext_getElem?
  intro i
  rw [List.getElem?_map, List.getElem?_map, List.getElem?_modify]
  by_cases h : j = i
  · subst h
    cases es[j]? <;> simp
  · simp [h]
theorem mem_modify_born {es : List MapEntry} {j : Nat} {key val : Value} {c : Nat} (h : ∀ e ∈ es, e.born < c) : ∀ e ∈ (es.modify j fun e => { e with key := key, val := val }), e.born < c := by
  intro e he
  have : e.born ∈ (es.modify j fun e => { e with key := key, val := val }).map (·.born) := List.mem_map.2 ⟨e, he, rfl⟩
  rw [map_born_modify] at this
  obtain ⟨e', he', h2⟩ := List.mem_map.1 this
  rw [← h2]
  exact h e' he'
/-- `m[x] = v` -/
theorem MapS.store (h : MapS w b m) (ht : P.underlying t = some (.map k e)) (hk : P.underlying k = some (.int .i64)) {x : Int} (hx : (Lit.int .i64 x).wf = true) (v : Value) :
    ∃ w', (Instr.mapUpdate t (.map (some b)) (.int .i64 x) v).run P w = .ok () w' ∧ MapS w' b (ins m x v) ∧ w'.os = w.os ∧ w'.tape = w.tape ∧ w'.output = w.output ∧ w'.heap.size = w.heap.size ∧ ∀ i, i ≠ b → w'.heap[i]? = w.heap[i]? := by
  obtain ⟨es, c, hb, H, B, hs⟩ := h.is
  have K := Go.Maps.int_keyed hk
  have hkey := Go.Maps.keyOf_int_mk hk hx
  rcases K.find w hkey es.toList (keysOf hk H) with ⟨h1, h2⟩ | ⟨j, e0, h1, h2, h3⟩
  · refine ⟨setBlock w b (.map (es.push ⟨.int .i64 x, v, c⟩) (c + 1)), ?_, ⟨h.up.ins _ _, _, _, heap_setBlock_same hb _, ?_, ⟨?_, ?_⟩, ?_⟩, rfl, rfl, rfl, by simp [setBlock], fun i hi => heap_setBlock_other hb _ hi⟩
    · simp [Instr.mapUpdate, run_underlying ht, MapKept.run_getObj_map hb, K.check w false hkey, h1, MapKept.run_setObj_map _ hb, Result.andThen, setBlock]
    · rw [Array.toList_push, look_upd]
      exact H.push hx h2 v c
    · intro y hy
      rw [Array.toList_push] at hy
      rcases List.mem_append.1 hy with hy | hy
      · have := B.lt y hy
        omega
      · rw [List.mem_singleton.1 hy]
        exact Nat.lt_succ_self c
    · rw [Array.toList_push, List.map_append]
      refine List.nodup_append.2 ⟨B.nd, by simp, ?_⟩
      intro y hy z hz
      obtain ⟨y0, hy0, rfl⟩ := List.mem_map.1 hy
      have hz' : z = c := by simpa using hz
      have := B.lt y0 hy0
      omega
    · have hn : lkp m x = none := H.no h2
      rw [len_ins h.up, hn, Array.size_push, hs]
      simp
  · have hj : es[j]? = some e0 := by simpa using h2
    refine ⟨setBlock w b (.map (es.modify j fun e => { e with key := .int .i64 x, val := v }) c), ?_, ⟨h.up.ins _ _, _, _, heap_setBlock_same hb _, ?_, ⟨?_, ?_⟩, ?_⟩, rfl, rfl, rfl, by simp [setBlock], fun i hi => heap_setBlock_other hb _ hi⟩
    · simp [Instr.mapUpdate, run_underlying ht, MapKept.run_getObj_map hb, K.check w false hkey, h1, hj, h3, K.stays w hkey, MapKept.run_setObj_map _ hb, Result.andThen, setBlock]
    · rw [Array.toList_modify, look_upd]
      exact H.modify hx h2 h3 v
    · rw [Array.toList_modify]
      exact mem_modify_born B.lt
    · rw [Array.toList_modify, map_born_modify]
      exact B.nd
    · have hn : lkp m x = some e0.val := (H.is x e0.val).2 ⟨j, e0, h2, h3, rfl⟩
      rw [len_ins h.up, hn, Array.size_modify, hs]
      simp
/-- `delete(m, x)` -/
theorem MapS.drop (h : MapS w b m) (ht : P.underlying t = some (.map k e)) (hk : P.underlying k = some (.int .i64)) {x : Int} (hx : (Lit.int .i64 x).wf = true) (ty : TypeId) :
    ∃ w', (Builtin.delete_ #[t, k] ty #[.map (some b), .int .i64 x]).run P w = .ok (.tuple #[]) w' ∧ MapS w' b (del m x) ∧ w'.os = w.os ∧ w'.tape = w.tape ∧ w'.output = w.output ∧ w'.heap.size = w.heap.size ∧ ∀ i, i ≠ b → w'.heap[i]? = w.heap[i]? := by
  obtain ⟨es, c, hb, H, B, hs⟩ := h.is
  have K := Go.Maps.int_keyed hk
  have hkey := Go.Maps.keyOf_int_mk hk hx
  rcases K.find w hkey es.toList (keysOf hk H) with ⟨h1, h2⟩ | ⟨j, e0, h1, h2, h3⟩
  · have hn : lkp m x = none := H.no h2
    refine ⟨setBlock w b (.map es c), ?_, ⟨h.up.del _, _, _, heap_setBlock_same hb _, ?_, B, ?_⟩, rfl, rfl, rfl, by simp [setBlock], fun i hi => heap_setBlock_other hb _ hi⟩
    · simp [Builtin.delete_, run_underlying ht, MapKept.run_getObj_map hb, K.check w _ hkey, h1, MapKept.run_setObj_map _ hb, Result.andThen, setBlock]
    · rw [look_dele]; exact H.none_upd h2
    · rw [len_del_none hn]; exact hs
  · have hjl : j < es.toList.length := (List.getElem?_eq_some_iff.1 h2).1
    have hjs : j < es.size := by simpa using hjl
    have hsub : (es.eraseIdxIfInBounds j).toList = es.toList.eraseIdx j := by
      unfold Array.eraseIdxIfInBounds
      rw [dif_pos hjs]
      simp
    have hn : lkp m x = some e0.val := (H.is x e0.val).2 ⟨j, e0, h2, h3, rfl⟩
    refine ⟨setBlock w b (.map (es.eraseIdxIfInBounds j) c), ?_, ⟨h.up.del _, _, _, heap_setBlock_same hb _, ?_, ⟨?_, ?_⟩, ?_⟩, rfl, rfl, rfl, by simp [setBlock], fun i hi => heap_setBlock_other hb _ hi⟩
    · simp [Builtin.delete_, run_underlying ht, MapKept.run_getObj_map hb, K.check w _ hkey, h1, MapKept.run_setObj_map _ hb, Result.andThen, setBlock]
    · rw [hsub, look_dele]
      exact H.erase h2 h3
    · rw [hsub]
      exact fun y hy => B.lt y (List.mem_of_mem_eraseIdx hy)
    · rw [hsub]
      exact B.nd.sublist ((List.eraseIdx_sublist _ _).map _)
    · have h5 := len_del_some h.up hn
      have h6 : (es.eraseIdxIfInBounds j).size = es.size - 1 := by
        unfold Array.eraseIdxIfInBounds
        rw [dif_pos hjs]
        simp
      omega
theorem MapS.len (h : MapS w b m) (ht : P.underlying t = some (.map k e)) (ty : TypeId) : (Builtin.len_ #[t] ty #[.map (some b)]).run P w = .ok (.int .i64 (m.length : Int)) w := by
  obtain ⟨es, c, hb, H, B, hs⟩ := h.is
  rw [← hs]
  simp [Builtin.len_, run_underlying ht, MapKept.run_getObj_map hb, goInt, Result.andThen]
theorem MapS.clear (h : MapS w b m) (ht : P.underlying t = some (.map k e)) (ty : TypeId) :
    ∃ w', (Builtin.clear_ #[t] ty #[.map (some b)]).run P w = .ok (.tuple #[]) w' ∧ MapS w' b [] ∧ w'.os = w.os ∧ w'.tape = w.tape ∧ w'.output = w.output ∧ w'.heap.size = w.heap.size ∧ ∀ i, i ≠ b → w'.heap[i]? = w.heap[i]? := by
  obtain ⟨es, c, hb, H, B, hs⟩ := h.is
  refine ⟨setBlock w b (.map #[] c), ?_, ⟨List.Pairwise.nil, _, _, heap_setBlock_same hb _, Holds.nil, ⟨by simp, by simp⟩, rfl⟩, rfl, rfl, rfl, by simp [setBlock], fun i hi => heap_setBlock_other hb _ hi⟩
  simp [Builtin.clear_, run_underlying ht, MapKept.run_getObj_map hb, MapKept.run_setObj_map _ hb, Result.andThen, setBlock]
/-! ### ranging over it -/
/-- 'for k, v := range m' under way: which keys are still to come; how many. -/
structure RangeS (w : World) (b r : Nat) (m : List (Int × Value)) (left : Int → Bool) (cnt : Nat) : Prop where
  up : Up m
  is : ∃ es clock seen, w.heap[b]? = some (.map es clock) ∧ Holds es.toList (lkp m) ∧ Born es.toList clock ∧ es.size = m.length ∧ w.heap[r]? = some (.mapIter (some b) clock seen clock) ∧ (leftOf es seen).size = cnt ∧
    (∀ x ∈ es.toList, ∀ y, x.key = .int .i64 y → left y = !seen.contains x.born) ∧ ∀ y, left y = true → (lkp m y).isSome = true
theorem RangeS.move {w w1 : World} {b r : Nat} {m : List (Int × Value)} {left : Int → Bool} {cnt : Nat} (h : RangeS w b r m left cnt) (e : w1.heap[b]? = w.heap[b]?) (e2 : w1.heap[r]? = w.heap[r]?) : RangeS w1 b r m left cnt := by
  obtain ⟨es, c, seen, h1, h2, h3, h4, h5, h6⟩ := h.is
  exact ⟨h.up, es, c, seen, e.trans h1, h2, h3, h4, e2.trans h5, h6⟩
theorem RangeS.map {r : Nat} {left : Int → Bool} {cnt : Nat} (h : RangeS w b r m left cnt) : MapS w b m := by
  obtain ⟨es, c, seen, h1, h2, h3, h4, _⟩ := h.is
  exact ⟨h.up, es, c, h1, h2, h3, h4⟩
theorem RangeS.ne {r : Nat} {left : Int → Bool} {cnt : Nat} (h : RangeS w b r m left cnt) : r ≠ b := by
  obtain ⟨es, c, seen, h1, h2, h3, h4, h5, _⟩ := h.is
  rintro rfl
  rw [h1] at h5
  cases h5
theorem MapS.range (h : MapS w b m) (ht : P.underlying t = some (.map k e)) : ∃ clock,
    (Instr.range t (.map (some b))).run P w = .ok (.pointer (some ⟨w.heap.size, 0, none⟩)) (w.alloc (.mapIter (some b) clock #[] clock)) ∧ RangeS (w.alloc (.mapIter (some b) clock #[] clock)) b w.heap.size m (fun y => (lkp m y).isSome) m.length := by
  obtain ⟨es, c, hb, H, B, hs⟩ := h.is
  have hlt : b < w.heap.size := (Array.getElem?_eq_some_iff.1 hb).1
  refine ⟨c, run_range_map w t k e b es c ht hb, h.up, es, c, #[], ((MapKept.heap_alloc w _).2 b hlt).trans hb, H, B, hs, (MapKept.heap_alloc w _).1, ?_, ?_, fun y hy => hy⟩
  · rw [← hs]
    simp [leftOf]
  · intro x hx y hy
    obtain ⟨i, hi⟩ := List.getElem?_of_mem hx
    rw [(H.is y x.val).2 ⟨i, x, hi, hy, rfl⟩]
    simp
theorem RangeS.next {r : Nat} {left : Int → Bool} {cnt : Nat} (h : RangeS w b r m left cnt) (ty : TypeId) :
    (cnt = 0 ∧ (∀ y, left y = false) ∧ (Instr.next (.pointer (some ⟨r, 0, none⟩)) false ty).run P w = .ok (.tuple #[.bool false]) w) ∨
    ∃ y v w' cnt', lkp m y = some v ∧ left y = true ∧ (Lit.int .i64 y).wf = true ∧ (Instr.next (.pointer (some ⟨r, 0, none⟩)) false ty).run P w = .ok (.tuple #[.bool true, .int .i64 y, v]) w' ∧ RangeS w' b r m (fun x => left x && !decide (x = y)) cnt' ∧ cnt' < cnt ∧
      Chg (fun k => k = r) w w' ∧ (Instr.entry (.pointer (some ⟨r, 0, none⟩))).run P w' = .ok (.tuple #[.int .i64 y, v]) w' := by
  have hne := h.ne
  obtain ⟨es, clock, seen, hb, H, B, hs, hr, rfl, hl1, hl2⟩ := h.is
  rcases run_next_at (P := P) w ty r b clock clock seen es clock hr hb B.lt (Nat.le_refl _) with ⟨h0, hrun⟩ | ⟨e, he, w1, hal, hrun⟩
  · refine .inl ⟨h0, fun y => ?_, hrun⟩
    cases hk : left y
    · rfl
    · obtain ⟨v, hv⟩ := Option.isSome_iff_exists.1 (hl2 y hk)
      obtain ⟨i, x, hi, hx, _⟩ := (H.is y v).1 hv
      have hm := List.mem_of_getElem? hi
      rw [hl1 x hm y hx, all_seen es seen h0 x hm] at hk
      cases hk
  · obtain ⟨hem, hes⟩ := mem_left he
    obtain ⟨i, hi⟩ := List.getElem?_of_mem hem
    obtain ⟨y, hy, hwf⟩ := H.keys i e hi
    have hr1 : w1.heap[r]? = some (.mapIter (some b) clock seen clock) := by rcases hal with rfl | rfl <;> exact hr
    have hb1 : w1.heap[b]? = some (.map es clock) := by rcases hal with rfl | rfl <;> exact hb
    have hset := Go.MapKept.heap_set (o' := .mapIter (some b) clock (seen.push e.born) clock) hr1
    have hb' : (setBlock w1 r (.mapIter (some b) clock (seen.push e.born) clock)).heap[b]? = some (.map es clock) := (hset.2 b (fun e1 => hne e1.symm)).trans hb1
    rw [hy] at hrun
    refine .inr ⟨y, e.val, _, _, (H.is y e.val).2 ⟨i, e, hi, hy, rfl⟩, by rw [hl1 e hem y hy, hes]; rfl, hwf, hrun,
      ⟨h.up, es, clock, seen.push e.born, hb', H, B, hs, hset.1, rfl, fun x hx z hz => ?_, fun z hz => hl2 z (by simp at hz; exact hz.1)⟩, left_shrinks es seen e he, ?_, ?_⟩
    · rw [hl1 x hx z hz, contains_push]
      have hbe : (x.born == e.born) = decide (z = y) := by
        by_cases hzy : z = y
        · subst hzy
          obtain ⟨j, hj⟩ := List.getElem?_of_mem hx
          have hij := H.apart j i x e hj hi (hz.trans hy.symm)
          subst hij
          rw [hj] at hi
          cases hi
          simp
        · have : x.born ≠ e.born := by
            intro hbb
            have := Go.born_inj B.nd hx hem hbb
            rw [this, hy] at hz
            cases hz
            exact hzy rfl
          simp [hzy, this]
      rw [hbe]
      cases seen.contains x.born <;> cases decide (z = y) <;> rfl
    · rcases hal with rfl | rfl <;> exact ⟨rfl, rfl, rfl, by simp [setBlock], fun i _ hi => hset.2 i hi⟩
    · have := run_entry_at (P := P) _ r b clock seen es clock e hset.1 hb' hem B.nd
      rw [hy] at this
      exact this
end
/-! ### as things that lie apart -/
def MapA (b : Nat) (m : List (Int × Value)) : Asn where
  H w F := MapS w b m ∧ F = fun k => k = b
  move := fun {w w' F} h hk => ⟨h.1.move (hk b (by rw [h.2])), h.2⟩
  lt := fun {w F} h k hk => by
    rw [h.2] at hk
    have hk : k = b := hk
    subst hk
    exact h.1.at_.lt
def RngA (b r : Nat) (m : List (Int × Value)) (left : Int → Bool) (cnt : Nat) : Asn where
  H w F := RangeS w b r m left cnt ∧ F = fun k => k = b ∨ k = r
  move := fun {w w' F} h hk => ⟨h.1.move (hk b (by rw [h.2]; exact .inl rfl)) (hk r (by rw [h.2]; exact .inr rfl)), h.2⟩
  lt := fun {w F} h k hk => by
    rw [h.2] at hk
    rcases hk with rfl | rfl
    · exact h.1.map.at_.lt
    · obtain ⟨es, c, seen, h1, h2, h3, h4, h5, _⟩ := h.1.is
      exact (Array.getElem?_eq_some_iff.1 h5).1
section
variable {P : Program} {t k e : TypeId} {w0 w w' : World} {b r : Nat} {m m' : List (Int × Value)} {R : List Asn} {left : Int → Bool} {cnt : Nat}
theorem Sep.map (S : Sep w0 w (MapA b m :: R)) : MapS w b m := by
  obtain ⟨F, h, _⟩ := S.hd
  exact h.1
theorem Sep.rng (S : Sep w0 w (RngA b r m left cnt :: R)) : RangeS w b r m left cnt := by
  obtain ⟨F, h, _⟩ := S.hd
  exact h.1
theorem Sep.map_to (S : Sep w0 w (MapA b m :: R)) (h : MapS w' b m') (ho : w'.os = w.os) (ht : w'.tape = w.tape) (hu : w'.output = w.output) (hs : w'.heap.size = w.heap.size) (hk : ∀ i, i ≠ b → w'.heap[i]? = w.heap[i]?) : Sep w0 w' (MapA b m' :: R) := by
  obtain ⟨F, h0, _, hf⟩ := S.one
  have hF := h0.2
  subst hF
  exact hf w' [MapA b m'] (Star.one (A := MapA b m') (G := fun k => k = b) ⟨h, rfl⟩ fun k hk => .inl hk) ⟨ho, ht, hu, by rw [hs]; exact Nat.le_refl _, fun i _ hi => hk i hi⟩
theorem Sep.map_new (S : Sep w0 w R) : Sep w0 (w.alloc (.map #[] 0)) (MapA w.heap.size [] :: R) :=
  S.new (below_alloc (Below.refl _ _) _) (A := MapA w.heap.size []) (G := fun k => k = w.heap.size) ⟨MapS.new w, rfl⟩ fun k hk => by rw [show k = _ from hk]; exact Nat.le_refl _
theorem Sep.rng_end (S : Sep w0 w (RngA b r m left cnt :: R)) : Sep w0 w (MapA b m :: R) := by
  obtain ⟨F, h0, hl, hf⟩ := S.one
  have hF := h0.2
  subst hF
  exact hf w [MapA b m] (Star.one (A := MapA b m) (G := fun k => k = b) ⟨h0.1.map, rfl⟩ fun k hk => .inl (.inl hk)) (Chg.refl _ _)
end
section
variable {P : Program} {ops : Array Oper} {rest : List Oper} {o : Oper} {a : Act} {Q : Exit → Act → World → Prop} {t k e : TypeId} {w0 W : World} {b r : Nat} {m : List (Int × Value)} {R : List Asn} {left : Int → Bool} {cnt : Nat}
/-- `m[x] = v` -/
theorem store_m (S : Sep w0 W (MapA b m :: R)) (hg : o.guard = none) (mo xo vo : Operand) (hop : o.op = Op.mapUpdate t mo xo vo) (ht : P.underlying t = some (.map k e)) (hk : P.underlying k = some (.int .i64)) (x : Int) (v : Value)
    (hm : a.eval mo = .map (some b)) (hx : a.eval xo = .int .i64 x) (hv : a.eval vo = v) (hw : (Lit.int .i64 x).wf = true)
    (hK : ∀ w', Sep w0 w' (MapA b (ins m x v) :: R) → wpList P ops Q rest (a.put o.dst undef) w') : wpList P ops Q (o :: rest) a W := by
  refine wpList_plain hg fun K' hK' => ?_
  obtain ⟨w', hrun, r1, r2, r3, r4, r5, r6⟩ := S.map.store ht hk hw v
  unfold Oper.wp
  simp [execOp, hop, hm, hx, hv, hrun, Result.andThen]
  exact hK' _ _ (hK w' (S.map_to r1 r2 r3 r4 r5 r6))
/-- `delete(m, x)` -/
theorem drop_m (S : Sep w0 W (MapA b m :: R)) (hg : o.guard = none) (mo xo : Operand) (hop : o.op = Op.call { callee := Callee.builtin Builtin.delete, args := #[mo, xo], argTypes := #[t, k] }) (ht : P.underlying t = some (.map k e)) (hk : P.underlying k = some (.int .i64)) (x : Int)
    (hm : a.eval mo = .map (some b)) (hx : a.eval xo = .int .i64 x) (hw : (Lit.int .i64 x).wf = true)
    (hK : ∀ w', Sep w0 w' (MapA b (del m x) :: R) → wpList P ops Q rest (a.put o.dst (.tuple #[])) w') : wpList P ops Q (o :: rest) a W := by
  refine wpList_plain hg fun K' hK' => ?_
  obtain ⟨w', hrun, r1, r2, r3, r4, r5, r6⟩ := S.map.drop ht hk hw o.type
  unfold Oper.wp
  simp [execOp, hop, resolve, invoke, builtin, hm, hx, hrun, Result.andThen]
  exact hK' _ _ (hK w' (S.map_to r1 r2 r3 r4 r5 r6))
/-- `clear(m)` -/
theorem clear_m (S : Sep w0 W (MapA b m :: R)) (hg : o.guard = none) (mo : Operand) (hop : o.op = Op.call { callee := Callee.builtin Builtin.clear, args := #[mo], argTypes := #[t] }) (ht : P.underlying t = some (.map k e)) (hm : a.eval mo = .map (some b))
    (hK : ∀ w', Sep w0 w' (MapA b [] :: R) → wpList P ops Q rest (a.put o.dst (.tuple #[])) w') : wpList P ops Q (o :: rest) a W := by
  refine wpList_plain hg fun K' hK' => ?_
  obtain ⟨w', hrun, r1, r2, r3, r4, r5, r6⟩ := S.map.clear ht o.type
  unfold Oper.wp
  simp [execOp, hop, resolve, invoke, builtin, hm, hrun, Result.andThen]
  exact hK' _ _ (hK w' (S.map_to r1 r2 r3 r4 r5 r6))
/-- `range m` -/
theorem range_m (S : Sep w0 W (MapA b m :: R)) (hg : o.guard = none) (mo : Operand) (hop : o.op = Op.range t mo) (ht : P.underlying t = some (.map k e)) (hm : a.eval mo = .map (some b))
    (hK : ∀ w', Sep w0 w' (RngA b W.heap.size m (fun y => (lkp m y).isSome) m.length :: R) → wpList P ops Q rest (a.put o.dst (.pointer (some ⟨W.heap.size, 0, none⟩))) w') : wpList P ops Q (o :: rest) a W := by
  refine wpList_plain hg fun K' hK' => ?_
  obtain ⟨c, hrun, hr⟩ := S.map.range (P := P) ht
  unfold Oper.wp
  simp [execOp, hop, hm, hrun, Result.andThen]
  obtain ⟨F, h0, hlow, hf⟩ := S.one
  have hF := h0.2
  subst hF
  refine hK' _ _ (hK _ (hf _ [RngA b W.heap.size m _ m.length] (Star.one (A := RngA b W.heap.size m _ m.length) (G := fun k => k = b ∨ k = W.heap.size) ⟨hr, rfl⟩ fun k hk => ?_) (Chg.ofBelow (below_alloc (Below.refl _ _) _))))
  rcases hk with hk | hk
  · exact .inl hk
  · subst hk
    exact .inr ⟨Nat.le_refl _, by simp⟩
/-- `next` -/
theorem next_m (S : Sep w0 W (RngA b r m left cnt :: R)) (hg : o.guard = none) (it : Operand) (hop : o.op = Op.next it false) (hit : a.eval it = .pointer (some ⟨r, 0, none⟩))
    (hDone : cnt = 0 → (∀ y, left y = false) → wpList P ops Q rest (a.put o.dst (.tuple #[.bool false])) W)
    (hMore : ∀ (y : Int) (v : Value) (w' : World) (cnt' : Nat), lkp m y = some v → left y = true → (Lit.int .i64 y).wf = true → Sep w0 w' (RngA b r m (fun x => left x && !decide (x = y)) cnt' :: R) → cnt' < cnt →
      (Instr.entry (.pointer (some ⟨r, 0, none⟩))).run P w' = .ok (.tuple #[.int .i64 y, v]) w' → wpList P ops Q rest (a.put o.dst (.tuple #[.bool true, .int .i64 y, v])) w') : wpList P ops Q (o :: rest) a W := by
  refine wpList_plain hg fun K' hK' => ?_
  unfold Oper.wp
  rcases S.rng.next (P := P) o.type with ⟨h0, hl, hrun⟩ | ⟨y, v, w', cnt', hv, hly, hwf, hrun, hrg, hlt, hc, hen⟩
  · simp [execOp, hop, hit, hrun, Result.andThen]
    exact hK' _ _ (hDone h0 hl)
  · simp [execOp, hop, hit, hrun, Result.andThen]
    obtain ⟨F, h0, _, hf⟩ := S.one
    have hF := h0.2
    subst hF
    exact hK' _ _ (hMore y v w' cnt' hv hly hwf (hf w' [RngA b r m _ cnt'] (Star.one (A := RngA b r m _ cnt') (G := fun k => k = b ∨ k = r) ⟨hrg, rfl⟩ fun k hk => .inl hk) (hc.mono fun k _ hk => .inr hk)) hlt hen)
end
end Go.Proofs.YtlhlmjkocmahmaaGreatDoor.Sep
/- The library's sort of numbers is the program's own. (Laid by the kit's tool, written out plain.) -/
namespace Go.Proofs
open Go.Shelf
def Tryz.laysSort_ren : Go.Shelf.Ren := ⟨fun | 189 => 94 | 125 => 120 | 257 => 119 | 128 => 152 | 129 => 153 | 294 => 143 | 295 => 144 | 296 => 145 | 297 => 146 | 298 => 147 | 299 => 148 | 216 => 149 | 300 => 150 | 301 => 151 | 328 => 164 | 329 => 165 | 330 => 166 | 331 => 167 | 332 => 168 | 215 => 169 | 343 => 171 | n => n, fun | 28 => 51 | 3 => 3 | 46 => 205 | 0 => 0 | 51 => 142 | 53 => 179 | 4 => 4 | 183 => 233 | 182 => 232 | 131 => 237 | 5 => 5 | 9 => 9 | 218 => 251 | 222 => 254 | 228 => 257 | 229 => 258 | n => n, fun | n => n⟩
theorem Tryz.laysSort : Go.Proofs.Lays.n189 Tryz.prog Tryz.laysSort_ren := {
  mixed := by kernel_rfl
  f125 := Tryz.func120.trans (congrArg some (by kernel_rfl))
  f128 := Tryz.func152.trans (congrArg some (by kernel_rfl))
  f129 := Tryz.func153.trans (congrArg some (by kernel_rfl))
  f189 := Tryz.func94.trans (congrArg some (by kernel_rfl))
  f215 := Tryz.func169.trans (congrArg some (by kernel_rfl))
  f216 := Tryz.func149.trans (congrArg some (by kernel_rfl))
  f257 := Tryz.func119.trans (congrArg some (by kernel_rfl))
  f294 := Tryz.func143.trans (congrArg some (by kernel_rfl))
  f295 := Tryz.func144.trans (congrArg some (by kernel_rfl))
  f296 := Tryz.func145.trans (congrArg some (by kernel_rfl))
  f297 := Tryz.func146.trans (congrArg some (by kernel_rfl))
  f298 := Tryz.func147.trans (congrArg some (by kernel_rfl))
  f299 := Tryz.func148.trans (congrArg some (by kernel_rfl))
  f300 := Tryz.func150.trans (congrArg some (by kernel_rfl))
  f301 := Tryz.func151.trans (congrArg some (by kernel_rfl))
  f328 := Tryz.func164.trans (congrArg some (by kernel_rfl))
  f329 := Tryz.func165.trans (congrArg some (by kernel_rfl))
  f330 := Tryz.func166.trans (congrArg some (by kernel_rfl))
  f331 := Tryz.func167.trans (congrArg some (by kernel_rfl))
  f332 := Tryz.func168.trans (congrArg some (by kernel_rfl))
  f343 := Tryz.func171.trans (congrArg some (by kernel_rfl))
  t0 := Tryz.underlying0
  a0 := Tryz.isAgg0
  z0 := Tryz.sizeOf0
  v0 := Tryz.zeroValue0
  t3 := Tryz.underlying3
  a3 := Tryz.isAgg3
  z3 := Tryz.sizeOf3
  v3 := Tryz.zeroValue3
  t4 := Tryz.underlying4
  a4 := Tryz.isAgg4
  z4 := Tryz.sizeOf4
  v4 := Tryz.zeroValue4
  t5 := Tryz.underlying5
  a5 := Tryz.isAgg5
  z5 := Tryz.sizeOf5
  v5 := Tryz.zeroValue5
  t9 := Tryz.underlying9
  a9 := Tryz.isAgg9
  z9 := Tryz.sizeOf9
  v9 := Tryz.zeroValue9
  t28 := Tryz.underlying51
  a28 := Tryz.isAgg51
  z28 := Tryz.sizeOf51
  v28 := Tryz.zeroValue51
  t46 := Tryz.underlying205
  a46 := Tryz.isAgg205
  z46 := Tryz.sizeOf205
  v46 := Tryz.zeroValue205
  t51 := Tryz.underlying142
  a51 := Tryz.isAgg142
  z51 := Tryz.sizeOf142
  v51 := Tryz.zeroValue142
  t53 := Tryz.underlying179
  a53 := Tryz.isAgg179
  z53 := Tryz.sizeOf179
  v53 := Tryz.zeroValue179
  t131 := Tryz.underlying237
  a131 := Tryz.isAgg237
  z131 := Tryz.sizeOf237
  v131 := Tryz.zeroValue237
  t182 := Tryz.underlying232
  a182 := Tryz.isAgg232
  z182 := Tryz.sizeOf232
  v182 := Tryz.zeroValue232
  t183 := Tryz.underlying233
  a183 := Tryz.isAgg233
  z183 := Tryz.sizeOf233
  v183 := Tryz.zeroValue233
  t218 := Tryz.underlying251
  a218 := Tryz.isAgg251
  z218 := Tryz.sizeOf251
  v218 := Tryz.zeroValue251
  t222 := Tryz.underlying254
  a222 := Tryz.isAgg254
  z222 := Tryz.sizeOf254
  v222 := Tryz.zeroValue254
  t228 := Tryz.underlying257
  a228 := Tryz.isAgg257
  z228 := Tryz.sizeOf257
  v228 := Tryz.zeroValue257
  t229 := Tryz.underlying258
  a229 := Tryz.isAgg258
  z229 := Tryz.sizeOf258
  v229 := Tryz.zeroValue258 }
end Go.Proofs
/- The keys of a map, in order. -/
namespace Go.Proofs.YtlhlmjkocmahmaaGreatDoor.Sep
open Go.Proofs Go.RowKit Go.Proofs.YtlhlmjkocmahmaaGreatDoorW.PrintWords Go.Proofs.YtlhlmjkocmahmaaGreatDoorW.PrintLast Go.Proofs.YtlhlmjkocmahmaaGreatDoorW.PrintMore Go.Proofs.YtlhlmjkocmahmaaGreatDoor.Dev
open Go.Proofs.YtlhlmjkocmahmaaGreatDoor.SM (lkp ins del Up keys)
set_option linter.unusedVariables false
set_option linter.unusedSimpArgs false
/-- A row of numbers of one's own. -/
abbrev Ints (A : Option Addr) (n c : Nat) (l : List Int) : Asn := Own 3 1 (.slice A n c) n (nums .i64 l)
theorem infoI : (Tryz.prog.info? 3).map (fun i => (i.zero, i.size, i.bytes)) = some (some (.int .i64 0), 1, 8) := by kernel_rfl
theorem nums_i (l : List Int) : nums .i64 l = l.map (Value.int .i64) := rfl
section
variable {w0 w w' : World} {R : List Asn} {g n c b r : Nat} {l : List Int} {m : List (Int × Value)} {left : Int → Bool} {cnt : Nat} {A : Option Addr}
theorem RangeS.left_eq (h : RangeS w b r m left cnt) : w.rangeLeft b r = cnt := by
  obtain ⟨es, c, seen, h1, _, _, _, h5, h6, _⟩ := h.is
  simp only [World.rangeLeft, h1, h5]
  exact h6
theorem sort_s (S : Sep w0 w (Ints A n c l :: R)) (hn : n ≤ 1000000000) : Calls Tryz.prog 94 #[.slice A n c] w fun e w' => e = .returned (.tuple #[]) ∧ Sep w0 w' (Ints A n c (l.mergeSort fun x y => decide (x ≤ y)) :: R) := by
  have hl := S.len
  rcases Nat.eq_zero_or_pos n with h0 | h0
  · subst h0
    have hl0 : l = [] := List.length_eq_zero_iff.1 hl
    subst hl0
    refine (Any.slices_Sort_int_none Tryz.laysSort A c w).mono ?_
    rintro e w' ⟨rfl, rfl⟩
    exact ⟨rfl, by simpa using S⟩
  · obtain ⟨g, cur, rfl, hg, hcs, hnc, hlow⟩ := S.open_ h0
    obtain ⟨F, hF, _⟩ := S.hd
    have hcap : c ≤ maxLen := by
      rcases hF.1.2 with ⟨e, _⟩ | ⟨g2, cap2, cur2, e, _, b2, _, b4, _, _⟩
      · cases e
      · cases e
        exact b4
    have htake : cur.toList.take l.length = l.map (Value.int .i64) := by
      rcases hF.1.2 with ⟨e, _⟩ | ⟨g2, cap2, cur2, e, _, b2, _, _, _, b6⟩
      · cases e
      · cases e
        rw [hg] at b2
        cases b2
        rw [Nat.mul_one, ← hl] at b6
        exact b6
    have hh := holds_of_blockI hg htake
    have hs := Any.slices_Sort_int Tryz.laysSort g 0 c l w hh (Array.getElem?_eq_some_iff.1 hg).1 (by omega)
    rw [hl] at hs
    refine hs.mono ?_
    rintro e w' ⟨rfl, q, os, rfl⟩
    have hlm : (l.mergeSort fun x y => decide (x ≤ y)).length = l.length := List.length_mergeSort _
    refine ⟨rfl, S.grown (v' := .slice (some ⟨g, 0, none⟩) n c) ?_ (grownBy_sortedI _) (.inl rfl)⟩
    have := ownsRow_sortedI (base := 0) (g := g) (cap := c) (n := q) (e := 3) (os := os) (ss := l) (ts := l.mergeSort fun x y => decide (x ≤ y)) hlm (Nat.zero_le _) hg (by omega) hcap (by omega)
    rw [hl] at this
    exact this
set_option maxRecDepth 100000 in
set_option maxHeartbeats 2000000 in
theorem rising_s (S : Sep w0 w (MapA b m :: R)) (hm : m.length ≤ 1000000) : Calls Tryz.prog 66 #[.map (some b)] w fun e w' => ∃ A c, e = .returned (.slice A m.length c) ∧ Sep w0 w' (Ints A m.length c (keys m) :: MapA b m :: R) := by
  have hup := S.map.up
  go_enter Tryz.func66, Tryz.ntmps66
  go_wp2_with (first | (at_range; refine range_m S rfl (.tmp 5) rfl Tryz.underlying113 rfl ?_; intro w1 S1))
  go_frame
  obtain ⟨r, hr⟩ : ∃ r, r = w.heap.size := ⟨_, rfl⟩
  rw [← hr] at S1 ⊢
  clear S hr
  go_loopw [3] (fun o wr => ∃ (ks : List Int) (A1 : Option Addr) (c1 : Nat) (left : Int → Bool) (cnt : Nat), o = .slice A1 ks.length c1 ∧ ks.Nodup ∧ (∀ k, k ∈ ks ↔ ((lkp m k).isSome = true ∧ left k = false)) ∧ ks.length + cnt ≤ m.length ∧ Sep w0 wr (RngA b r m left cnt :: Ints A1 ks.length c1 ks :: R)) (fun _ wr => wr.rangeLeft b r)
  case atStart => exact ⟨[], none, 0, _, _, rfl, List.nodup_nil, fun k => (by cases h : lkp m k <;> simp [h]), by simp, (S1.nils _ _).swap⟩
  case round =>
    clear S1
    obtain ⟨ks, A1, c1, left, cnt, rfl, hnd, hks, hlen, S⟩ := hrel
    have hml := S.rng.left_eq
    go_wp2_with (first | (at_next; refine next_m S rfl (.tmp 6) rfl rfl ?_ ?_))
    · intro h0 hl0
      subst h0
      have hk : ∀ k, k ∈ ks ↔ k ∈ keys m := fun k => by rw [hks, SM.mem_keys, hl0 k]; simp
      have hsort := SM.sorted_keys (SM.keys_up hup) hnd hk
      have hkl : ks.length = m.length := by
        have h1 : (ks.mergeSort fun x y => decide (x ≤ y)).length = ks.length := List.length_mergeSort _
        rw [hsort, SM.keys_len] at h1
        exact h1.symm
      have S2 := S.rng_end.swap
      have HS := Aside0.mk hsort
      clear S hks hk hsort hl0 hml
      rw [hkl] at *
      go_wp2_with (go_at_call 94; refine (sort_s S2 (by omega)).mono ?_; clear S2; rintro _ w3 ⟨rfl, S3⟩; rw [HS.out] at S3)
      go_ret
      exact ⟨A1, c1, rfl, S3⟩
    · intro y v w2 cnt2 hv hly hwf S2 hlt hen
      have SA := S2.swap
      have hal : (ks.length + 1) * 8 ≤ 140737488355328 := by omega
      have hnew : y ∉ ks := fun q => by have := ((hks y).1 q).2; rw [hly] at this; cases this
      have HK := Aside0.mk hks
      clear S S2 hks
      go_wp2_with ((with_reducible refine gate_builtin (b := .append) (xs := #[.tmp 11, .tmp 13]) rfl ?_); at_builtin; go_must (refine append_s (n := ks.length) (v := .slice A1 ks.length c1) (e := 3) (size := 1) (xs := nums .i64 ks) SA rfl (.tmp 11) (.tmp 13) 51 (.int .i64 0) 8 rfl Tryz.underlying51 infoI rfl (by decide) (by decide) [.int .i64 y] rfl rfl rfl ?a1 hal ?_); (case a1 => (intro q hq; rw [List.mem_singleton.1 hq]; rfl)); intro A2 c2 w7 S7)
      refine ⟨⟨ks ++ [y], A2, c2, fun x => left x && !decide (x = y), cnt2, by simp, ?_, fun k => ?_, by simp; omega, ?_⟩, ?_⟩
      · exact List.nodup_append.2 ⟨hnd, by simp, fun a ha b' hb => by rw [List.mem_singleton.1 hb]; exact fun e => hnew (e ▸ ha)⟩
      · rw [List.mem_append, HK.out k, List.mem_singleton]
        by_cases e : k = y
        · subst e
          simp [hv]
        · simp [e]
      · have e1 : nums .i64 (ks ++ [y]) = nums .i64 ks ++ [.int .i64 y] := by simp [nums]
        have e2 : (ks ++ [y]).length = ks.length + 1 := by simp
        show Sep w0 w7 (_ :: Own 3 1 (.slice A2 (ks ++ [y]).length c2) (ks ++ [y]).length (nums .i64 (ks ++ [y])) :: R)
        rw [e1, e2]
        exact S7.swap
      · rw [S7.swap.rng.left_eq, hml]
        exact hlt
end
end Go.Proofs.YtlhlmjkocmahmaaGreatDoor.Sep
