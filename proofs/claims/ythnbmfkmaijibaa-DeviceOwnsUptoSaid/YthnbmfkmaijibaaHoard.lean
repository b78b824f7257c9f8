/- The hoard of DeviceOwns: lists that were handed out, each beside a copy. -/
import Derived.Test.YthnbmfkmaijibaaReadWalk
import Derived.Deep.RegionLaw
import Derived.Test.YthnbmfkmaijibaaSteps
namespace Go.Proofs.Ythnbmfkmaijibaa.Sep
open Go.Proofs Go.RowKit Go.Proofs.YthnbmfkmaijibaaW.PrintWords Go.Proofs.YthnbmfkmaijibaaW.PrintLast Go.Proofs.YthnbmfkmaijibaaW.PrintMore Go.Proofs.Ythnbmfkmaijibaa.IMap Go.Proofs.Ythnbmfkmaijibaa.Dev Go.Proofs.Ythnbmfkmaijibaa.PDeviceReads Go.Proofs.Ythnbmfkmaijibaa.Help
set_option linter.unusedVariables false
set_option linter.unusedSimpArgs false
abbrev T3 := Value × Value × List Int
def pv (p : T3) : Asn := All [Own 5 1 p.1 p.2.2.length (nums .u8 p.2.2), Own 5 1 p.2.1 p.2.2.length (nums .u8 p.2.2)]
structure HL where
  A : Option Addr
  B : Option Addr
  c : Nat
  d : Nat
abbrev hoardL (h k : Nat) (L : HL) (P : List T3) : List Asn := [Blk h #[.slice L.A k L.c, .slice L.B k L.d] 55, Own 29 1 (.slice L.A k L.c) k (P.map fun p => p.1), Own 29 1 (.slice L.B k L.d) k (P.map fun p => p.2.1)]
/-- A hoard of k lists, each of at most 4096 bytes. -/
def HoardA (h k : Nat) : Asn := Ex (fun (x : HL × List T3) => x.2.length = k ∧ ∀ p ∈ x.2, p.2.2.length ≤ 4096) fun x => All (hoardL h k x.1 x.2 ++ x.2.map pv)
section
variable {w0 w w' : World} {R : List Asn} {h k : Nat}
theorem Sep.hopen (S : Sep w0 w (HoardA h k :: R)) : ∃ (L : HL) (P : List T3), P.length = k ∧ (∀ p ∈ P, p.2.2.length ≤ 4096) ∧ Sep w0 w ((hoardL h k L P ++ R) ++ P.map pv) := by
  obtain ⟨⟨L, P⟩, ⟨h1, h2⟩, S1⟩ := S.openE
  refine ⟨L, P, h1, h2, S1.openA.perm ?_⟩
  show ((hoardL h k L P ++ P.map pv) ++ R).Perm _
  rw [List.append_assoc, List.append_assoc]
  exact List.perm_append_comm.append_left _
theorem Sep.hclose {L : HL} {P : List T3} (h1 : P.length = k) (h2 : ∀ p ∈ P, p.2.2.length ≤ 4096) (S : Sep w0 w ((hoardL h k L P ++ R) ++ P.map pv)) : Sep w0 w (HoardA h k :: R) := by
  refine Sep.closeE (f := fun x : HL × List T3 => All (hoardL h k x.1 x.2 ++ x.2.map pv)) (L, P) ⟨h1, h2⟩ (Sep.closeA (S.perm ?_))
  show ((hoardL h k L P ++ R) ++ P.map pv).Perm ((hoardL h k L P ++ P.map pv) ++ R)
  rw [List.append_assoc, List.append_assoc]
  exact List.perm_append_comm.append_left _
theorem bytes_any (w : World) (A : Option Addr) (n c : Nat) (l : List Int) (hr : ReadsInt w .u8 A n l) (hc : n ≤ c) (hl : n ≤ 140737488351232) : Calls Try.prog 70 #[.slice A n c] w fun e w' => ∃ B d, e = .returned (.slice B n d) ∧ w'.ownsRow w.heap.size 5 1 (.slice B n d) n (nums .u8 l) ∧ Below w.heap.size w w' := by
  obtain rfl : l.length = n := hr.1
  refine (annexref_Bytes.calls (l.length + 1) A c l _ w (Kd.C_of_reads (enc := Value.int .u8) (d := (0 : Int)) (h1 := fun _ => rfl) hr) hc (bytes_is l (by omega))).mono ?_
  rintro e w' ⟨v, rfl, h3, b⟩
  have h5 : w'.ownsRow w.heap.size 5 1 v l.length (nums .u8 l) := Kd.own_of_R h3
  obtain ⟨B, d, rfl⟩ := own_slice h5
  exact ⟨B, d, rfl, h5, b⟩
set_option maxHeartbeats 2000000 in
set_option maxRecDepth 100000 in
theorem keep_s {A : Option Addr} {n c : Nat} {l : List Int} (S : Sep w0 w (HoardA h k :: Byt A n c l :: R)) (hk : k ≤ 1000) (hn : n ≤ 4096) : Calls Try.prog 58 #[.pointer (some ⟨h, 0, none⟩), .slice A n c] w fun e w' => e = .returned (.tuple #[]) ∧ Sep w0 w' (HoardA h (k + 1) :: R) := by
  obtain ⟨L, P, hP, hPl, S1⟩ := S.hopen
  have HP := Aside0.mk (And.intro hP hPl)
  have hll := S1.p3.len
  have HLL := Aside0.mk hll
  have c0 := S1.cell 0 (v := .slice L.A k L.c) rfl
  have f0 := S1.free 0
  clear S hP hPl hll
  go_enter Try.func58, Try.ntmps58
  go_wp2_with ((with_reducible refine gate_builtin (b := .append) (xs := #[.tmp 8, .tmp 10]) rfl ?_); at_builtin; go_must (refine append_s S1.p1 rfl (.tmp 8) (.tmp 10) 27 (.slice none 0 0) 24 rfl Try.underlying27 info_b rfl (by decide) (by decide) [.slice A n c] rfl rfl rfl ?a1 ?aL ?_); (case a1 => (intro u hu; rw [List.mem_singleton.1 hu]; rfl)); (case aL => omega); intro A1 c1 w9 S9; have c2 := S9.p1.cell 0 (v := .slice L.A k L.c) rfl; have f2 := S9.p1.free 0)
  have S2 := S9.p1.set 0 (.slice A1 (k + 1) c1)
  have d1 := S2.cell 1 (v := .slice L.B k L.d) rfl
  have e1 := S2.free 1
  have HS := Aside0.mk S2
  obtain ⟨w2, hw2⟩ : ∃ w2, w2 = w9.setCell ⟨h, 0, none⟩ (.slice A1 (k + 1) c1) := ⟨_, rfl⟩
  rw [← hw2] at HS d1 e1 ⊢
  clear hw2 S1 S9 S2 c0 f0 c2 f2
  have HB := Aside0.mk (fun (W : World) (b : Below w2.heap.size w2 W) => bytes_any W A n c l (HS.out.p3.calm b).reads (HS.out.p3.calm b).cap (by omega))
  go_wp2
  go_region_law (first | (refine call_step Try.func70 (by kernel_rfl) (by rfl) #[.tmp 19] #[29] (by rfl) (by rfl) #[.slice A n c] (by first | rfl | (simp [Act.eval]; done) | (simp [go_sem, Act.eval]; done)) ?_; refine (HB.out _ (by first | exact below_drew (Below.refl _ _) | exact Below.refl _ _)).mono ?_; rintro e w5 ⟨B2, d2, rfl, ho, hb⟩; refine ⟨_, rfl, ?_⟩; have S5 := HS.out.drew.row_new hb ho; have d5 := S5.p1.cell 1 (v := .slice L.B k L.d) rfl; have e5 := S5.p1.free 1; have d5b := ka d5 (.cells #[.slice B2 n d2] 29)) | ((refine append_step S5.p3 (by rfl) (.tmp 18) (.tmp 21) 27 (.slice none 0 0) 24 (by rfl) Try.underlying27 info_b rfl (by decide) (by decide) [.slice B2 n d2] (by rfl) (by rfl) (by rfl) (by intro u hu; rw [List.mem_singleton.1 hu]; rfl) (by omega) ?_; intro A6 c6 w6 S6; have d6 := S6.p2.cell 1 (v := .slice L.B k L.d) rfl; have e6 := S6.p2.free 1)))
  all_goals (
    have S7 := S6.p2.set 1 (.slice A6 (k + 1) c6)
    have HS7 := Aside0.mk S7
    clear S5 S6 S7 d5 e5 d5b d6 e6 ho hb HS HB d1 e1
    go_end0
    refine ⟨rfl, Sep.hclose (k := k + 1) (L := ⟨A1, A6, c1, c6⟩) (P := P ++ [(.slice A n c, .slice B2 n d2, l)]) (by rw [List.length_append, HP.out.1]; rfl) (fun p hp => ?_) ?_⟩
    · rcases List.mem_append.1 hp with h1 | h1
      · exact HP.out.2 p h1
      · rw [List.mem_singleton.1 h1]
        show l.length ≤ 4096
        rw [HLL.out]
        exact hn
    · have e1 : (P ++ [((.slice A n c, .slice B2 n d2, l) : T3)]).map (fun p => p.1) = P.map (fun p => p.1) ++ [.slice A n c] := List.map_append
      have e2 : (P ++ [((.slice A n c, .slice B2 n d2, l) : T3)]).map (fun p => p.2.1) = P.map (fun p => p.2.1) ++ [.slice B2 n d2] := List.map_append
      unfold hoardL
      dsimp only
      rw [e1, e2]
      have S8 : Sep w0 (w6.setCell ⟨h, 1, none⟩ (.slice A6 (k + 1) c6)) (pv (.slice A n c, .slice B2 n d2, l) :: (([Blk h #[.slice A1 (k + 1) c1, .slice A6 (k + 1) c6] 55, Own 29 1 (.slice A1 (k + 1) c1) (k + 1) (P.map (fun p => p.1) ++ [.slice A n c]), Own 29 1 (.slice A6 (k + 1) c6) (k + 1) (P.map (fun p => p.2.1) ++ [.slice B2 n d2])] ++ R) ++ P.map pv)) := by
        unfold pv
        rw [HLL.out]
        exact Sep.closeA (l := [_, _]) (HS7.out.p1.p3.p2.p3.p4)
      exact Sep.snoc (f := pv) S8)
end
end Go.Proofs.Ythnbmfkmaijibaa.Sep
/-! ### looks, writes, whole -/
namespace Go.Proofs.Ythnbmfkmaijibaa.Sep
open Go.Proofs Go.RowKit Go.Proofs.YthnbmfkmaijibaaW.PrintWords Go.Proofs.YthnbmfkmaijibaaW.PrintLast Go.Proofs.YthnbmfkmaijibaaW.PrintMore Go.Proofs.Ythnbmfkmaijibaa.IMap Go.Proofs.Ythnbmfkmaijibaa.Dev Go.Proofs.Ythnbmfkmaijibaa.PDeviceReads Go.Proofs.Ythnbmfkmaijibaa.Help
set_option linter.unusedVariables false
set_option linter.unusedSimpArgs false
section
variable {w0 w w' : World} {R l l' : List Asn} {h k : Nat}
theorem Sep.left (S : Sep w0 w (l ++ l')) : Sep w0 w l := by
  obtain ⟨G, h1, h2, _⟩ := S.star.split
  exact ⟨S.bel, h2.mono h1⟩
theorem star_datas {w : World} : ∀ {qs : List (Int × List Int × Value)} {F : Nat → Prop}, (∀ x ∈ qs, w.ownsRow 0 5 1 x.2.2 512 (nums .u8 x.2.1)) → (qs.Pairwise fun x y => x.2.2.ownBlock = none ∨ x.2.2.ownBlock ≠ y.2.2.ownBlock) → (∀ x ∈ qs, ∀ k, x.2.2.ownBlock = some k → F k) → Star (qs.map wdat) w F
  | [], _, _, _, _ => trivial
  | x :: qs, F, h1, h2, h3 => by
    obtain ⟨p1, p2⟩ := List.pairwise_cons.1 h2
    refine ⟨fun k => x.2.2.ownBlock = some k, ⟨h1 x List.mem_cons_self, fun k hk => hk, fun k hk => own_lt (h1 x List.mem_cons_self) k hk⟩, fun k hk => h3 x List.mem_cons_self k hk, ?_⟩
    refine star_datas (fun y hy => h1 y (List.mem_cons_of_mem _ hy)) p2 fun y hy k hk => ⟨h3 y (List.mem_cons_of_mem _ hy) k hk, fun hx => ?_⟩
    have hx' : x.2.2.ownBlock = some k := hx
    rcases p1 y hy with q | q
    · rw [q] at hx'; cases hx'
    · exact q (hx'.trans hk.symm)
/-- The parts of a list of writes, each by itself. -/
theorem Sep.unpack {v : Value} {n : Nat} {l : List (Int × List Int)} {qs : List (Int × List Int × Value)} (S : Sep w0 w (PendA v l qs :: R)) (hn : l.length = n) (hl : ∀ x ∈ l, x.2.length = 512) : Sep w0 w ((Own 41 2 v n (pcells qs) :: R) ++ qs.map wdat) := by
  obtain ⟨G, ⟨hP, g1, g2, g3⟩, hs, h3⟩ := S.star
  have hq : qs.length = n := by rw [← hn, hP.is, List.length_map]
  have hrow := hP.row
  rw [hq] at hrow
  have hd : ∀ x ∈ qs, w.ownsRow 0 5 1 x.2.2 512 (nums .u8 x.2.1) := fun x hx => by
    have h1 := hP.data x hx
    have h2 : x.2.1.length = 512 := hl (x.1, x.2.1) (by rw [hP.is]; exact List.mem_map.2 ⟨x, hx, rfl⟩)
    rw [h2] at h1
    exact h1
  have h4 : Star (qs.map wdat) w (fun k => G k ∧ ¬ v.ownBlock = some k) := star_datas hd hP.apart fun x hx k hk => ⟨g2 x hx k hk, fun e => own_two (hd x hx) hrow (by decide) k hk e⟩
  have h5 : Star (Own 41 2 v n (pcells qs) :: qs.map wdat) w G := ⟨fun k => v.ownBlock = some k, ⟨hrow, fun k hk => hk, fun k hk => own_lt hrow k hk⟩, fun k hk => g1 k hk, h4⟩
  have h6 : Star ((Own 41 2 v n (pcells qs) :: qs.map wdat) ++ R) w (fun k => w0.heap.size ≤ k) := Star.join (l1 := Own 41 2 v n (pcells qs) :: qs.map wdat) hs h5 h3
  exact (⟨S.bel, h6⟩ : Sep w0 w _).perm (List.Perm.cons _ List.perm_append_comm)
abbrev Q3 := Value × Nat × List Value
def qv (q : Q3) : Asn := Own 41 2 q.1 q.2.1 q.2.2
/-- The lists of writes that were handed out. -/
def PsA (A : Option Addr) (m c : Nat) : Asn := Ex (fun (Q : List Q3) => Q.length = m ∧ ∀ q ∈ Q, q.2.1 ≤ 60) fun Q => All (Own 31 1 (.slice A m c) m (Q.map fun q => q.1) :: Q.map qv)
theorem info_ps : (Try.prog.info? 31).map (fun i => (i.zero, i.size, i.bytes)) = some (some (.slice none 0 0), 1, 24) := by kernel_rfl
theorem pcells_at' {qs : List (Int × List Int × Value)} {j : Nat} (hj : j < qs.length) : (pcells qs)[j * 2 + 1]? = some qs[j].2.2 := (pcells_at (List.getElem?_eq_getElem hj)).2
set_option maxHeartbeats 4000000 in
set_option maxRecDepth 100000 in
theorem looks_s {A : Option Addr} {m c p N : Nat} {s : DS} {kk : Nat} (S : Sep w0 w (HoardA h k :: DevA p s :: PsA A m c :: R)) (hv : Live N s kk) (hN : N ≤ 8) (hkk : kk ≤ 60) (hk : k ≤ 900) (hm : m ≤ 900) (b : Nat) (hb : b < N) :
    Calls Try.prog 30 #[.pointer (some ⟨h, 0, none⟩), .pointer (some ⟨p, 0, none⟩), .int .i64 (b : Int), .slice A m c] w fun e w' => ∃ A' c' k', k' ≤ k + 12 ∧ e = .returned (.tuple #[.slice A' (m + 2) c', .bool true]) ∧ Sep w0 w' (HoardA h k' :: DevA p s :: PsA A' (m + 2) c' :: R) := by
  have HV := Aside0.mk hv
  clear hv
  go_enter Try.func30, Try.ntmps30
  go_wp2
  go_loopw [3, 10] (fun ps i wr => ∃ (j k' : Nat) (A : Option Addr) (c : Nat), j ≤ 2 ∧ k' ≤ k + 6 * j ∧ i = .int .i64 (j : Int) ∧ ps = .slice A (m + j) c ∧ Sep w0 wr (HoardA h k' :: DevA p s :: PsA A (m + j) c :: R)) (fun _ i _ => 2 - (intOf i).toNat)
  case atStart => exact ⟨0, k, A, c, Nat.zero_le _, Nat.le_refl _, rfl, rfl, S⟩
  case round =>
    clear S
    obtain ⟨j, k', A, c, hj, hk', rfl, rfl, S⟩ := hrel
    by_cases hlt : j < 2
    · have hlti : (j : Int) < 2 := by omega
      have hrd := read_is HV.out.fit HV.out.on b hb
      have hlen : (lastOf s.pend s.dur b).length ≤ 512 := by have := read_len HV.out.ok (b : Int); rw [hrd] at this; exact this
      have HLEN := Aside0.mk hlen
      go_wp2_with fail
      have P := read_s S.p1 (b : Int)
      rw [hrd] at P
      refine P.mono ?_
      clear P S hrd hlen
      rintro e v1 ⟨Ar, cr, rfl, S⟩
      go_wp2_with (go_at_call 19; refine (num_any _ _).mono ?_; rintro e w' ⟨rfl, rfl⟩)
      refine (keep_s S.p2 (by omega) (by have := HLEN.out; omega)).mono ?_
      clear S
      rintro e v2 ⟨rfl, S⟩
      have hdl : s.dur.length ≤ 4096 := by have := HV.out.fit.dur; omega
      have HDL := Aside0.mk hdl
      clear hdl
      go_wp2_with fail
      refine (durable_s S.p1).mono ?_
      clear S
      rintro e v3 ⟨Ad, cd, rfl, S⟩
      go_wp2_with fail
      refine (keep_s S.p2 (by omega) HDL.out).mono ?_
      clear S
      rintro e v4 ⟨rfl, S⟩
      go_wp2_with fail
      refine (pending_s S.p1 (HV.out.fit.few_ (by omega))).mono ?_
      clear S
      rintro e v5 ⟨Ap, cp, qs, rfl, S⟩
      have hf := HV.out.few
      have hq : qs.length = s.pend.length := by
        obtain ⟨F, hP, _⟩ := S.hd
        have := congrArg List.length hP.1.is
        rw [List.length_map] at this
        exact this.symm
      have S1 := S.unpack rfl fun x hx => (HV.out.ok.pend x hx).2.2
      have HQ := Aside0.mk hq
      obtain ⟨np, hnp⟩ : ∃ np, np = s.pend.length := ⟨_, rfl⟩
      rw [← hnp] at S1 hf HQ ⊢
      clear S hq hnp
      go_upto_block 2 with fail
      go_cut [14] (fun _ wx => ∃ k'' : Nat, k'' ≤ k' + 6 ∧ Sep w0 wx (Own 41 2 (.slice Ap np cp) np (pcells qs) :: DevA p s :: HoardA h k'' :: PsA A (m + j) c :: R))
      case first =>
        go_wp2_with fail
        go_loopw [14] (fun i wq => ∃ q : Nat, q ≤ np ∧ q ≤ 4 ∧ i = .int .i64 (q : Int) ∧ Sep w0 wq ((Own 41 2 (.slice Ap np cp) np (pcells qs) :: DevA p s :: HoardA h (k' + 1 + 1 + q) :: PsA A (m + j) c :: R) ++ (qs.drop q).map wdat)) (fun i _ => 4 - (intOf i).toNat)
        case atStart => exact ⟨0, Nat.zero_le _, Nat.zero_le _, rfl, S1⟩
        case round =>
          clear S1
          obtain ⟨q, hq, hq4, rfl, S⟩ := hrel
          by_cases hlt : q < np ∧ q < 4
          · obtain ⟨g1, g2⟩ := hlt
            have d1 : decide ((q : Int) < (np : Int)) = true := decide_eq_true (by omega)
            have d2 : decide ((q : Int) < 4) = true := decide_eq_true (by omega)
            have g1' : (q : Int) < (np : Int) := by omega
            have hql : q < qs.length := by rw [HQ.out]; exact g1
            rw [List.drop_eq_getElem_cons hql] at S
            have hrow := S.row
            obtain ⟨gp, rfl⟩ := S.addr (by omega)
            have c1 := hrow.cells (g := gp) rfl _ _ (pcells_at' hql)
            rw [add_plain] at c1
            have S2 : Sep w0 _ (wdat qs[q] :: ((Own 41 2 (.slice (some ⟨gp, 0, none⟩) np cp) np (pcells qs) :: DevA p s :: HoardA h (k' + 1 + 1 + q) :: PsA A (m + j) c :: R) ++ (qs.drop (q + 1)).map wdat)) := S.focus (f := wdat) (L := qs[q] :: qs.drop (q + 1)) 0 (Nat.zero_lt_succ _)
            have S3 : Sep w0 _ (Own 5 1 qs[q].2.2 512 (nums .u8 qs[q].2.1) :: _) := S2
            obtain ⟨A1, cc, e1⟩ := own_slice S3.row
            rw [e1] at c1 S3
            have HS := Aside0.mk S3
            clear S S2 S3 hrow e1
            go_wp2_with fail
            refine (keep_s HS.out.p3 (by omega) (by decide)).mono ?_
            clear HS c1
            rintro e v6 ⟨rfl, S⟩
            go_wp2
            exact ⟨⟨q + 1, by omega, by omega, by go_num, S.p2.p2⟩, by simp [intOf]; omega⟩
          · have hcs : (decide ((q : Int) < (np : Int)) = true ∧ ((q : Int) < (np : Int)) ∧ ¬ (q : Int) < 4 ∧ decide ((q : Int) < 4) = false) ∨ (¬ ((q : Int) < (np : Int)) ∧ decide ((q : Int) < (np : Int)) = false) := by
              by_cases hh : (q : Int) < (np : Int)
              · exact .inl ⟨decide_eq_true hh, hh, by omega, decide_eq_false (by omega)⟩
              · exact .inr ⟨hh, decide_eq_false hh⟩
            have hS := Aside0.mk S.left
            clear S hlt
            rcases hcs with ⟨e1, e2, e3, e4⟩ | ⟨e1, e2⟩ <;> (
              go_wp2_with fail
              go_meet
              exact ⟨k' + 1 + 1 + q, by omega, hS.out⟩)
      case rest =>
        clear S1
        obtain ⟨k'', hk'', S⟩ := hcut
        obtain ⟨Q, ⟨hQ1, hQ2⟩, S1⟩ := S.p3.openE
        have HQ1 := Aside0.mk (And.intro hQ1 hQ2)
        have S2 := S1.spread
        clear S S1 hQ1 hQ2
        go_wp2_with ((with_reducible refine gate_builtin (b := .append) (xs := #[.tmp 55, .tmp 57]) rfl ?_); at_builtin; go_must (refine append_s S2 rfl (.tmp 55) (.tmp 57) 56 (.slice none 0 0) 24 rfl Try.underlying56 info_ps rfl (by decide) (by decide) [.slice Ap np cp] rfl rfl rfl ?a1 ?aL ?_); (case a1 => (intro u hu; rw [List.mem_singleton.1 hu]; rfl)); (case aL => omega); intro A9 c9 w9 S9)
        clear S2
        refine ⟨⟨j + 1, k'', A9, c9, by omega, by omega, by go_num, rfl, ?_⟩, by simp [intOf]; omega⟩
        have e1 : (Q ++ [((.slice Ap np cp, np, pcells qs) : Q3)]).map (fun q => q.1) = Q.map (fun q => q.1) ++ [.slice Ap np cp] := List.map_append
        have S10 := Sep.snoc (f := qv) (R := Own 31 1 (.slice A9 (m + j + 1) c9) (m + j + 1) (Q.map (fun q => q.1) ++ [.slice Ap np cp]) :: DevA p s :: HoardA h k'' :: R) (y := (.slice Ap np cp, np, pcells qs)) (L := Q) S9.p1
        rw [← e1] at S10
        have S11 : Sep w0 w9 (PsA A9 (m + (j + 1)) c9 :: DevA p s :: HoardA h k'' :: R) := Sep.closeE (f := fun Q : List Q3 => All (Own 31 1 (.slice A9 (m + (j + 1)) c9) (m + (j + 1)) (Q.map fun q => q.1) :: Q.map qv)) (Q ++ [(.slice Ap np cp, np, pcells qs)]) ⟨by rw [List.length_append, HQ1.out.1]; rfl, fun q hq => by
          rcases List.mem_append.1 hq with h1 | h1
          · exact HQ1.out.2 q h1
          · rw [List.mem_singleton.1 h1]
            show np ≤ 60
            omega⟩ S10.gather
        exact S11.p1.p2
    · obtain rfl : j = 2 := by omega
      have hS := Aside0.mk S
      clear S hlt
      go_wp2
      go_ret2
      exact ⟨A, c, k', by omega, rfl, hS.out⟩
theorem write_rep {m n : Nat} {x : Int} {l : List Int} (hl : l.length = n) (h : m < n) : (List.replicate m x ++ l.drop m).set m x = List.replicate (m + 1) x ++ l.drop (m + 1) := by
  rw [List.set_append, if_neg (by simp), List.length_replicate, Nat.sub_self]
  have h' : m < l.length := by omega
  rw [List.drop_eq_getElem_cons h', List.set_cons_zero, List.replicate_succ', List.append_assoc]
  rfl
set_option maxHeartbeats 4000000 in
set_option maxRecDepth 100000 in
theorem writes_s {p N c g : Nat} {s : DS} {kk : Nat} {lb : List Int} (S : Sep w0 w (DevA p s :: Byt (some ⟨g, 0, none⟩) 512 c lb :: R)) (hv : Live N s kk) (hN0 : 1 ≤ N) (hN : N ≤ 8) (hkk : kk ≤ 60) (b x : Int) (f : Bool) :
    Calls Try.prog 29 #[.pointer (some ⟨p, 0, none⟩), .int .i64 (N : Int), .agg #[.int .i64 b, .int .u8 x, .bool f], .slice (some ⟨g, 0, none⟩) 512 c] w fun e w' => ∃ s' lb', e = .returned (.bool true) ∧ Live N s' (kk + 1) ∧ Sep w0 w' (DevA p s' :: Byt (some ⟨g, 0, none⟩) 512 c lb' :: R) := by
  have HV := Aside0.mk hv
  have HLB := Aside0.mk S.p1.len
  have S1 := S.alloc #[.int .i64 b, .int .u8 x, .bool f] 34
  have c0 := S1.cell 0 (v := .int .i64 b) rfl
  have c1 := S1.cell 1 (v := .int .u8 x) rfl
  have c2 := S1.cell 2 (v := .bool f) rfl
  have HS := Aside0.mk S1
  clear S S1 hv
  go_enter Try.func29, Try.ntmps29
  cases f with
  | true =>
    have hfl := HV.out.flush
    go_wp2_with fail
    have P := flush_s HS.out.p1
    rw [hfl.1] at P
    refine P.mono ?_
    clear P HS c0 c1 c2
    rintro e w2 ⟨rfl, S⟩
    have HF := Aside0.mk (And.intro hfl.2 S)
    clear S hfl
    go_wp2_with (go_at_call 19; refine (num_any _ _).mono ?_; rintro e w' ⟨rfl, rfl⟩)
    go_ret
    exact ⟨_, lb, rfl, ⟨HF.out.1.ok, HF.out.1.on, HF.out.1.fuse, HF.out.1.n, Nat.le_succ_of_le HF.out.1.few⟩, HF.out.2.d1⟩
  | false =>
    have hw := HV.out.write hN0 (by omega) b x
    have HW := Aside0.mk hw
    clear hw
    go_wp2
    go_loopw [10] (fun i wr => ∃ m : Nat, m ≤ 512 ∧ i = .int .i64 (m : Int) ∧ Sep w0 wr (Byt (some ⟨g, 0, none⟩) 512 c (List.replicate m x ++ lb.drop m) :: Blk w.heap.size #[.int .i64 b, .int .u8 x, .bool false] 34 :: DevA p s :: R)) (fun i _ => 512 - (intOf i).toNat)
    case atStart => exact ⟨0, Nat.zero_le _, rfl, HS.out.p2⟩
    case round =>
      clear HS c0 c1 c2
      obtain ⟨m, hm, rfl, S⟩ := hrel
      have c0 := S.p1.cell 0 (v := .int .i64 b) rfl
      have c1 := S.p1.cell 1 (v := .int .u8 x) rfl
      by_cases hlt : m < 512
      · have hlti : (m : Int) < 512 := by omega
        have ce := S.elem m (by omega)
        have fr := S.row_free (by omega) m
        have hst := S.store m x
        rw [write_rep HLB.out (by omega)] at hst
        have HST := Aside0.mk hst
        clear hst S
        go_wp2
        exact ⟨⟨m + 1, by omega, by go_num, HST.out⟩, by simp [intOf]; omega⟩
      · obtain rfl : m = 512 := by omega
        rw [show ((512 : Nat) : Int) = (512 : Int) from rfl]
        rw [List.drop_of_length_le (by rw [HLB.out]; exact Nat.le_refl _), List.append_nil] at S
        clear c1 hlt
        go_wp2_with fail
        refine (Help.place_any b N hN0 _).mono ?_
        rintro e w2 ⟨rfl, b2⟩
        replace S := S.calm b2
        clear b2 c0
        go_wp2_with fail
        have P := write_s (l := r x) S.p2 (plc b N) (HV.out.fit.few_ (by omega))
        rw [HW.out.1] at P
        refine P.mono ?_
        clear P S
        rintro e w3 ⟨rfl, S⟩
        have HF := Aside0.mk S.d2
        clear S
        go_wp2_with (go_at_call 19; refine (num_any _ _).mono ?_; rintro e w' ⟨rfl, rfl⟩)
        go_ret
        exact ⟨_, r x, rfl, HW.out.2, HF.out⟩
set_option maxHeartbeats 4000000 in
set_option maxRecDepth 100000 in
theorem whole_s (S : Sep w0 w (HoardA h k :: R)) (hk : k ≤ 1000) : Calls Try.prog 31 #[.pointer (some ⟨h, 0, none⟩)] w fun e w' => e = .returned (.bool true) ∧ Sep w0 w' (HoardA h k :: R) := by
  go_enter Try.func31, Try.ntmps31
  go_wp2
  go_loopw [3] (fun i wr => ∃ m : Nat, m ≤ k ∧ i = .int .i64 (m : Int) ∧ Sep w0 wr (HoardA h k :: R)) (fun i _ => k - (intOf i).toNat)
  case atStart => exact ⟨0, Nat.zero_le _, rfl, S⟩
  case round =>
    clear S
    obtain ⟨m, hm, rfl, S⟩ := hrel
    obtain ⟨L, P, hP, hPl, S1⟩ := S.hopen
    have c0 := S1.cell 0 (v := .slice L.A k L.c) rfl
    have HS0 := Aside0.mk S
    clear S
    by_cases hlt : m < k
    · have hlti : (m : Int) < (k : Int) := by omega
      have hmp : m < P.length := by rw [hP]; exact hlt
      have hplen := hPl P[m] (List.getElem_mem _)
      have c1 := S1.cell 1 (v := .slice L.B k L.d) rfl
      obtain ⟨g, hg⟩ := S1.p1.addr (by omega)
      obtain ⟨g', hg'⟩ := S1.p2.addr (by omega)
      rw [hg] at c0
      rw [hg'] at c1
      have v1 := S1.p1.row.cells (g := g) (by rw [hg]; rfl) m P[m].1 (by rw [List.getElem?_map, List.getElem?_eq_getElem hmp]; rfl)
      have v2 := S1.p2.row.cells (g := g') (by rw [hg']; rfl) m P[m].2.1 (by rw [List.getElem?_map, List.getElem?_eq_getElem hmp]; rfl)
      rw [add_plain] at v1 v2
      have S2 := S1.focus (f := pv) (R := hoardL h k L P ++ R) m hmp
      have S3 : Sep w0 wr (Own 5 1 P[m].1 P[m].2.2.length (nums .u8 P[m].2.2) :: Own 5 1 P[m].2.1 P[m].2.2.length (nums .u8 P[m].2.2) :: _) := Sep.openA S2
      obtain ⟨A1, cc1, e1⟩ := own_slice S3.row
      obtain ⟨A2, cc2, e2⟩ := own_slice S3.p1.row
      rw [e1] at v1
      rw [e2] at v2
      rw [e1, e2] at S3
      obtain ⟨ll, hll⟩ : ∃ ll, ll = P[m].2.2 := ⟨_, rfl⟩
      rw [← hll] at S3 v1 v2 hplen
      have r1 := S3.reads
      have r2 := S3.p1.reads
      have k1 := S3.cap
      have k2 := S3.p1.cap
      have HSM := Aside0.mk (fun (W : World) (b : Below wr.heap.size wr W) => same_yes W A1 A2 ll.length cc1 cc2 ll rfl (ReadsInt.below r1 b) (ReadsInt.below r2 b) k1 k2 (by omega))
      clear S1 S2 S3 e1 e2 hll r1 r2 hP hPl hg hg'
      go_wp2
      go_region_held3 (fun W => W.cell? ⟨h, 0, none⟩ = some (.slice (some ⟨g, 0, none⟩) k L.c) ∧ W.cell? ⟨h, 1, none⟩ = some (.slice (some ⟨g', 0, none⟩) k L.d) ∧ W.cell? ⟨g, m, none⟩ = some (.slice A1 ll.length cc1) ∧ W.cell? ⟨g', m, none⟩ = some (.slice A2 ll.length cc2)) (refine ⟨?_, ?_, ?_, ?_⟩ <;> (repeat (first | (with_reducible exact c0) | (with_reducible exact c1) | (with_reducible exact v1) | (with_reducible exact v2) | (with_reducible refine kd ?_) | (with_reducible refine pw_cell_below (by assumption) ?_))))
        (first | (go_at_call 23; have PP := HSM.out _ (by first | exact below_drew (Below.refl _ _) | exact Below.refl _ _); refine PP.mono ?_; clear PP; rintro e w8 ⟨rfl, hb8⟩))
      have S := (HS0.out.drew).calm hb8
      clear HS0 HSM v1 v2 hb8 c0 c1
      go_wp2
      exact ⟨⟨m + 1, by omega, by go_num, S⟩, by simp [intOf]; omega⟩
    · have hlti : ¬ ((m : Int) < (k : Int)) := by omega
      clear hlt S1 hPl
      go_wp2
      go_ret
      exact ⟨rfl, HS0.out⟩
end
end Go.Proofs.Ythnbmfkmaijibaa.Sep
