/- The hoard of DeviceOwns: apart. -/
import Derived.Test.YthnbmfkmaijibaaHoard
import Derived.Test.YthnbmfkmaijibaaTwin
namespace Go.Proofs.Ythnbmfkmaijibaa.Sep
open Go.Proofs Go.RowKit Go.Proofs.YthnbmfkmaijibaaW.PrintWords Go.Proofs.YthnbmfkmaijibaaW.PrintLast Go.Proofs.YthnbmfkmaijibaaW.PrintMore Go.Proofs.Ythnbmfkmaijibaa.IMap Go.Proofs.Ythnbmfkmaijibaa.Dev Go.Proofs.Ythnbmfkmaijibaa.PDeviceReads Go.Proofs.Ythnbmfkmaijibaa.Help
set_option linter.unusedVariables false
set_option linter.unusedSimpArgs false
theorem Star.weaken {α : Type} {f g : α → Asn} {w : World} : ∀ {l : List α} {F : Nat → Prop}, (∀ x ∈ l, ∀ w F, (f x).H w F → (g x).H w F) → Star (l.map f) w F → Star (l.map g) w F
  | [], _, _, _ => trivial
  | x :: l, _, h, ⟨G, h1, h2, h3⟩ => ⟨G, h x List.mem_cons_self w G h1, h2, Star.weaken (fun y hy => h y (List.mem_cons_of_mem _ hy)) h3⟩
theorem Sep.weaken {α : Type} {f g : α → Asn} {w0 w : World} {R : List Asn} {l : List α} (S : Sep w0 w (R ++ l.map f)) (h : ∀ x ∈ l, ∀ w F, (f x).H w F → (g x).H w F) : Sep w0 w (R ++ l.map g) := by
  obtain ⟨G, h1, h2, h3⟩ := S.star.split
  exact ⟨S.bel, Star.join h1 h2 (Star.weaken h h3)⟩
theorem own_twin {e : TypeId} {size n : Nat} {v : Value} {xs : List Value} {w : World} {F : Nat → Prop} (h : (Own e size v n xs).H w F) : (Twn e size v n xs v n xs).H w F :=
  ⟨h.1, h.1, h.2.1, h.2.1, h.2.2, fun k _ _ => by obtain ⟨A, c, rfl⟩ := own_slice h.1; exact ⟨A, c, rfl, rfl⟩, Nat.le_refl _, by rw [← h.1.1]; exact List.take_length⟩
/-- The mark of the i-th. -/
def markOf (i : Nat) : Int := ((1 + i % 250 : Nat) : Int)
structure TB where
  v : Value
  l : List Int
def tb (t : TB) : Asn := Own 5 1 t.v t.l.length (nums .u8 t.l)
theorem pv_tb (p : T3) (w : World) (F : Nat → Prop) (h : (pv p).H w F) : (tb ⟨p.1, p.2.2⟩).H w F := by
  obtain ⟨⟨G, h1, h2, _⟩, h3⟩ := h
  exact ⟨h1.1, fun k hk => h2 k (h1.2.1 k hk), h3⟩
structure TW where
  v0 : Value
  n0 : Nat
  v : Value
  n : Nat
  x : Int
def tw (t : TW) : Asn := Twn 5 1 t.v0 t.n0 (nums .u8 (List.replicate t.n0 t.x)) t.v t.n (nums .u8 (List.replicate t.n t.x))
abbrev hd2 (h k : Nat) (L : HL) (vs : List Value) (R : List Asn) : List Asn := Blk h #[.slice L.A k L.c, .slice L.B k L.d] 55 :: Own 29 1 (.slice L.A k L.c) k vs :: R
theorem tb_set {D : List TB} {i : Nat} (y : TB) (hi : i < D.length) (hv : y.v = D[i].v) : (D.set i y).map (fun t => t.v) = D.map fun t => t.v := by
  rw [List.map_set, hv, ← List.getElem_map (fun t : TB => t.v) (h := by simpa using hi), List.set_getElem_self]
theorem tw_set {D : List TW} {i : Nat} (y : TW) (hi : i < D.length) (hv : y.v0 = D[i].v0) : (D.set i y).map (fun t => t.v0) = D.map fun t => t.v0 := by
  rw [List.map_set, hv, ← List.getElem_map (fun t : TW => t.v0) (h := by simpa using hi), List.set_getElem_self]
theorem take_set_succ {α : Type} (y : α) {l : List α} {i : Nat} (hi : i < l.length) : (l.set i y).take (i + 1) = l.take i ++ [y] := by
  rw [List.set_eq_take_append_cons_drop, if_pos hi]
  have h1 : (l.take i).length = i := by rw [List.length_take]; omega
  rw [List.take_append, h1, List.take_of_length_le (by omega), show i + 1 - i = 1 from by omega]
  rfl
theorem markOf_eq (i : Nat) : markOf i = 1 + (i : Int) % 250 := by
  unfold markOf
  omega
theorem info_u8 : (Try.prog.info? 5).map (fun i => (i.zero, i.size, i.bytes)) = some (some (.int .u8 0), 1, 1) := by kernel_rfl
section
variable {w0 w w' : World} {R : List Asn} {h k : Nat}
theorem Sep.twins {vs : List Value} {D : List TB} (S : Sep w0 w (R ++ D.map tb)) (h1 : D.length = k) (h2 : D.map (fun t => t.v) = vs) (h3 : ∀ t ∈ D, t.l.length ≤ 4096) (h4 : ∀ j (hj : j < D.length), j < k → D[j].l = List.replicate D[j].l.length (markOf j)) :
    ∃ E : List TW, E.length = k ∧ E.map (fun t => t.v0) = vs ∧ (∀ t ∈ E, t.n0 ≤ 4096) ∧ (∀ j (hj : j < E.length), E[j].x = markOf j ∧ E[j].n = E[j].n0 + (if j < 0 then 600 else 0) ∧ (0 ≤ j → E[j].v = E[j].v0)) ∧ Sep w0 w (R ++ E.map tw) := by
  have hm : ∀ p ∈ D.zipIdx, p.1 ∈ D ∧ p.1.l = List.replicate p.1.l.length (markOf p.2) := by
    intro p hp
    obtain ⟨i, hi, rfl⟩ := List.getElem_of_mem hp
    rw [List.length_zipIdx] at hi
    rw [List.getElem_zipIdx]
    simp only [Nat.zero_add]
    exact ⟨List.getElem_mem _, h4 i hi (by omega)⟩
  refine ⟨D.zipIdx.map fun p => ⟨p.1.v, p.1.l.length, p.1.v, p.1.l.length, markOf p.2⟩, by simpa using h1, ?_, ?_, ?_, ?_⟩
  · rw [← h2, List.map_map]
    show D.zipIdx.map ((fun t : TB => t.v) ∘ Prod.fst) = _
    rw [← List.map_map, List.zipIdx_map_fst]
  · intro t ht
    obtain ⟨p, hp, rfl⟩ := List.mem_map.1 ht
    exact h3 _ (hm p hp).1
  · intro j hj
    simp
  · rw [List.map_map]
    have S1 : Sep w0 w (R ++ D.zipIdx.map fun p => tb p.1) := by
      have : D.zipIdx.map (fun p => tb p.1) = (D.zipIdx.map Prod.fst).map tb := by rw [List.map_map]; rfl
      rw [this, List.zipIdx_map_fst]
      exact S
    refine S1.weaken fun p hp w F hF => ?_
    have e1 := (hm p hp).2
    show (Twn 5 1 p.1.v p.1.l.length (nums .u8 (List.replicate p.1.l.length (markOf p.2))) p.1.v p.1.l.length (nums .u8 (List.replicate p.1.l.length (markOf p.2)))).H w F
    rw [← e1]
    exact own_twin hF
theorem mark_i (i : Nat) : IntKind.i64.wrap (1 + IntKind.i64.wrap ((i : Int).tmod 250)) = markOf i := by
  rw [Int.tmod_eq_emod_of_nonneg (by omega)]
  unfold markOf
  rw [IntKind.wrap_i64, IntKind.wrap_i64]
  omega
theorem mark_u (i : Nat) : IntKind.u8.wrap (markOf i) = markOf i := by
  unfold markOf
  rw [IntKind.wrap_u8]
  omega
set_option maxHeartbeats 4000000 in
set_option maxRecDepth 100000 in
theorem apart_s (S : Sep w0 w (HoardA h k :: R)) (hk : k ≤ 1000) : Calls Try.prog 32 #[.pointer (some ⟨h, 0, none⟩)] w fun e w' => e = .returned (.bool true) ∧ Sep w0 w' R := by
  obtain ⟨L, P, hP, hPl, S1⟩ := S.hopen
  obtain ⟨vs, hvs⟩ : ∃ vs, vs = P.map fun p => p.1 := ⟨_, rfl⟩
  have S2 : Sep w0 w (hd2 h k L vs R ++ (P.map fun p => (⟨p.1, p.2.2⟩ : TB)).map tb) := by
    have := S1.d2.weaken (f := pv) (g := fun p => tb ⟨p.1, p.2.2⟩) (R := [Blk h #[.slice L.A k L.c, .slice L.B k L.d] 55, Own 29 1 (.slice L.A k L.c) k (P.map fun p => p.1)] ++ R) fun p _ => pv_tb p
    rw [← hvs] at this
    rw [List.map_map]
    exact this
  have hD : ∃ D : List TB, D.length = k ∧ D.map (fun t => t.v) = vs ∧ (∀ t ∈ D, t.l.length ≤ 4096) ∧ Sep w0 w (hd2 h k L vs R ++ D.map tb) :=
    ⟨_, by simpa using hP, by rw [hvs, List.map_map]; rfl, fun t ht => by obtain ⟨p, hp, rfl⟩ := List.mem_map.1 ht; exact hPl p hp, S2⟩
  clear S S1 S2 hP hPl hvs P
  obtain ⟨D, hD1, hD2, hD3, S⟩ := hD
  go_enter Try.func32, Try.ntmps32
  go_wp2
  go_loopw [4] (fun i wr => ∃ (m : Nat) (D : List TB), m ≤ k ∧ i = .int .i64 (m : Int) ∧ D.length = k ∧ D.map (fun t => t.v) = vs ∧ (∀ t ∈ D, t.l.length ≤ 4096) ∧ (∀ j (hj : j < D.length), j < m → D[j].l = List.replicate D[j].l.length (markOf j)) ∧ Sep w0 wr (hd2 h k L vs R ++ D.map tb)) (fun i _ => k - (intOf i).toNat)
  case atStart => exact ⟨0, D, Nat.zero_le _, rfl, hD1, hD2, hD3, fun j _ hj => absurd hj (Nat.not_lt_zero _), S⟩
  case round =>
    clear S hD1 hD2 hD3 D
    obtain ⟨m, D, hm, rfl, hD1, hD2, hD3, hD4, S⟩ := hrel
    have c0 := S.cell 0 (v := .slice L.A k L.c) rfl
    have HD := Aside0.mk (And.intro hD1 (And.intro hD2 (And.intro hD3 hD4)))
    by_cases hlt : m < k
    · have hlti : (m : Int) < (k : Int) := by omega
      have hmD : m < D.length := by rw [hD1]; exact hlt
      have hnm := hD3 D[m] (List.getElem_mem _)
      have hvm : vs[m]? = some D[m].v := by rw [← hD2, List.getElem?_map, List.getElem?_eq_getElem hmD]; rfl
      have S1 : Sep w0 wr (Own 5 1 D[m].v D[m].l.length (nums .u8 D[m].l) :: (hd2 h k L vs R ++ (D.eraseIdx m).map tb)) := S.focus (f := tb) m hmD
      obtain ⟨A1, c1, e1⟩ := own_slice S1.row
      have HDM := Aside0.mk (And.intro hmD e1)
      rw [e1] at hvm S1
      obtain ⟨lm, hlm⟩ : ∃ lm, lm = D[m].l := ⟨_, rfl⟩
      have HLM := Aside0.mk hlm
      rw [← hlm] at hvm S1 hnm
      obtain ⟨n, hn⟩ : ∃ n, n = lm.length := ⟨_, rfl⟩
      have HN := Aside0.mk hn
      rw [← hn] at hvm S1 hnm
      have HVM := Aside0.mk hvm
      clear S hD1 hD2 hD3 hD4 e1 hlm hn hvm
      go_wp2
      go_loopw [5] (fun j wq => ∃ q : Nat, q ≤ n ∧ j = .int .i64 (q : Int) ∧ Sep w0 wq (Own 5 1 (.slice A1 n c1) n (nums .u8 (List.replicate q (markOf m) ++ lm.drop q)) :: (hd2 h k L vs R ++ (D.eraseIdx m).map tb))) (fun j _ => n - (intOf j).toNat)
      case atStart => exact ⟨0, Nat.zero_le _, rfl, S1⟩
      case round =>
        clear S1 c0
        obtain ⟨q, hq, rfl, S⟩ := hrel
        have c0 := S.p1.cell 0 (v := .slice L.A k L.c) rfl
        obtain ⟨gA, hgA⟩ := S.p2.addr (A := L.A) (by omega)
        rw [hgA] at c0
        have v1 := S.p2.row.cells (g := gA) (by rw [hgA]; rfl) m _ HVM.out
        rw [add_plain] at v1
        by_cases hlq : q < n
        · have hlqi : (q : Int) < (n : Int) := by omega
          obtain ⟨g, rfl⟩ := S.addr (by omega)
          have fr := S.row_free (by omega) q
          have ce := S.elem q hlq
          have hst := S.store q (markOf m)
          rw [write_rep HN.out.symm (by omega)] at hst
          have HST := Aside0.mk hst
          have m1 := mark_i m
          have m2 := mark_u m
          clear hst S hgA
          go_wp2
          exact ⟨⟨q + 1, by omega, by go_num, HST.out⟩, by simp [intOf]; omega⟩
        · obtain rfl : q = n := by omega
          have hlqi : ¬ ((q : Int) < (q : Int)) := by omega
          rw [List.drop_of_length_le (by rw [HN.out]; exact Nat.le_refl _), List.append_nil] at S
          have hS := Aside0.mk S
          clear S hgA
          go_wp2
          refine ⟨⟨m + 1, D.set m ⟨.slice A1 q c1, List.replicate q (markOf m)⟩, by omega, by go_num, ?_⟩, by simp [intOf]; omega⟩
          have hq' : q = D[m].l.length := by rw [HN.out, HLM.out]
          refine ⟨by rw [List.length_set]; exact HD.out.1, (tb_set _ hmD (by rw [HDM.out.2, ← hq'])).trans HD.out.2.1, fun t ht => ?_, fun j hj hjm => ?_, ?_⟩
          · rcases List.mem_or_eq_of_mem_set ht with h1 | h1
            · exact HD.out.2.2.1 t h1
            · rw [h1]
              show (List.replicate q (markOf m)).length ≤ 4096
              rw [List.length_replicate]
              exact hnm
          · rw [List.length_set] at hj
            rw [List.getElem_set]
            by_cases e1 : m = j
            · rw [if_pos e1, ← e1]
              show List.replicate q (markOf m) = List.replicate (List.replicate q (markOf m)).length (markOf m)
              rw [List.length_replicate]
            · rw [if_neg e1]
              exact HD.out.2.2.2 j hj (by omega)
          · have S5 : Sep w0 wr (tb ⟨.slice A1 q c1, List.replicate q (markOf m)⟩ :: (hd2 h k L vs R ++ (D.eraseIdx m).map tb)) := by
              unfold tb
              rw [List.length_replicate]
              exact hS.out
            exact S5.unfocus hmD
    · obtain rfl : m = k := by omega
      have hlti : ¬ ((m : Int) < (m : Int)) := by omega
      obtain ⟨E, hE1, hE2, hE3, hE4, S1⟩ := S.twins hD1 hD2 hD3 hD4
      have S2 := S1.nils 29 1
      clear S S1 hD1 hD2 hD3 hD4 HD hlt
      go_wp2
      clear c0
      go_loopw [6, 3] (fun i far wr => ∃ (q : Nat) (E : List TW) (Af : Option Addr) (cf : Nat), q ≤ m ∧ i = .int .i64 (q : Int) ∧ far = .slice Af q cf ∧ E.length = m ∧ E.map (fun t => t.v0) = vs ∧ (∀ t ∈ E, t.n0 ≤ 4096) ∧ (∀ j (hj : j < E.length), E[j].x = markOf j ∧ E[j].n = E[j].n0 + (if j < q then 600 else 0) ∧ (q ≤ j → E[j].v = E[j].v0)) ∧ Sep w0 wr (Own 29 1 (.slice Af q cf) q ((E.take q).map fun t => t.v) :: (hd2 h m L vs R ++ E.map tw))) (fun i _ _ => m - (intOf i).toNat)
      case atStart => exact ⟨0, E, none, 0, Nat.zero_le _, rfl, rfl, hE1, hE2, hE3, hE4, S2⟩
      case round =>
        clear S2 hE1 hE2 hE3 hE4 E
        obtain ⟨q, E, Af, cf, hq, rfl, rfl, hE1, hE2, hE3, hE4, S⟩ := hrel
        have c0 := S.p1.cell 0 (v := .slice L.A m L.c) rfl
        have HE := Aside0.mk (And.intro hE1 (And.intro hE2 (And.intro hE3 hE4)))
        by_cases hlt : q < m
        · have hlti : (q : Int) < (m : Int) := by omega
          have hqE : q < E.length := by rw [hE1]; exact hlt
          have hnm := hE3 E[q] (List.getElem_mem _)
          have hx := hE4 q hqE
          rw [if_neg (by omega)] at hx
          obtain ⟨hx1, hx2, hx3⟩ := hx
          have hx3 := hx3 (Nat.le_refl _)
          have hvm : vs[q]? = some E[q].v0 := by rw [← hE2, List.getElem?_map, List.getElem?_eq_getElem hqE]; rfl
          obtain ⟨gA, hgA⟩ := S.p2.addr (A := L.A) (by omega)
          rw [hgA] at c0
          have v1 := S.p2.row.cells (g := gA) (by rw [hgA]; rfl) q _ hvm
          rw [add_plain] at v1
          have S1 : Sep w0 wr (tw E[q] :: ((Own 29 1 (.slice Af q cf) q ((E.take q).map fun t => t.v) :: hd2 h m L vs R) ++ (E.eraseIdx q).map tw)) := S.focus (f := tw) (R := Own 29 1 (.slice Af q cf) q ((E.take q).map fun t => t.v) :: hd2 h m L vs R) q hqE
          have et : tw E[q] = Twn 5 1 E[q].v0 E[q].n0 (nums .u8 (List.replicate E[q].n0 (markOf q))) E[q].v0 E[q].n0 (nums .u8 (List.replicate E[q].n0 (markOf q))) := by
            unfold tw
            rw [hx3, hx2, hx1]
            rfl
          rw [et] at S1
          obtain ⟨F, hF, _⟩ := S1.hd
          obtain ⟨A1, c1, e1⟩ := own_slice hF.old
          have HQ := Aside0.mk (And.intro e1 hx1)
          rw [e1] at v1 S1
          obtain ⟨n, hn⟩ : ∃ n, n = E[q].n0 := ⟨_, rfl⟩
          have HN := Aside0.mk hn
          rw [← hn] at v1 S1 hnm
          clear S hE1 hE2 hE3 hE4 e1 hn hx1 hx2 hx3 hvm et hF hgA
          go_wp2
          clear c0 v1
          go_loopw [8, 7] (fun i l wq => ∃ (r : Nat) (A2 : Option Addr) (c2 : Nat), r ≤ 600 ∧ i = .int .i64 (r : Int) ∧ l = .slice A2 (n + r) c2 ∧ Sep w0 wq (Twn 5 1 (.slice A1 n c1) n (nums .u8 (List.replicate n (markOf q))) (.slice A2 (n + r) c2) (n + r) (nums .u8 (List.replicate (n + r) (markOf q))) :: ((Own 29 1 (.slice Af q cf) q ((E.take q).map fun t => t.v) :: hd2 h m L vs R) ++ (E.eraseIdx q).map tw))) (fun i _ _ => 600 - (intOf i).toNat)
          case atStart => exact ⟨0, A1, c1, Nat.zero_le _, rfl, rfl, S1⟩
          case round =>
            clear S1
            obtain ⟨r, A2, c2, hr, rfl, rfl, S⟩ := hrel
            by_cases hlr : r < 600
            · have hlri : (r : Int) < 600 := by omega
              have m1 := mark_i q
              have m2 := mark_u q
              go_wp2_with ((with_reducible refine gate_builtin (b := .append) (xs := #[.tmp 65, .tmp 70]) rfl ?_); at_builtin; go_must (refine twin_append S rfl (.tmp 65) (.tmp 70) 29 (.int .u8 0) 1 rfl Try.underlying29 info_u8 rfl (by decide) (by decide) [.int .u8 (markOf q)] rfl rfl rfl ?a1 ?aL ?_); (case a1 => (intro u hu; rw [List.mem_singleton.1 hu]; rfl)); (case aL => omega); intro A9 c9 w9 S9)
              have e9 : nums .u8 (List.replicate (n + r) (markOf q)) ++ [Value.int .u8 (markOf q)] = nums .u8 (List.replicate (n + (r + 1)) (markOf q)) := by
                rw [show n + (r + 1) = (n + r) + 1 from rfl, List.replicate_succ']
                simp [nums]
              rw [e9] at S9
              exact ⟨⟨r + 1, A9, c9, by omega, by go_num, rfl, S9⟩, by simp [intOf]; omega⟩
            · obtain rfl : r = 600 := by omega
              rw [show ((600 : Nat) : Int) = (600 : Int) from rfl]
              clear hlr
              go_wp2_with ((with_reducible refine gate_builtin (b := .append) (xs := #[.tmp 72, .tmp 74]) rfl ?_); at_builtin; go_must (refine append_s S.p1 rfl (.tmp 72) (.tmp 74) 27 (.slice none 0 0) 24 rfl Try.underlying27 info_b rfl (by decide) (by decide) [.slice A2 (n + 600) c2] rfl rfl rfl ?a1 ?aL ?_); (case a1 => (intro u hu; rw [List.mem_singleton.1 hu]; rfl)); (case aL => omega); intro A9 c9 w9 S9)
              clear S
              refine ⟨⟨q + 1, E.set q ⟨.slice A1 n c1, n, .slice A2 (n + 600) c2, n + 600, markOf q⟩, A9, c9, by omega, by go_num, rfl, by rw [List.length_set]; exact HE.out.1, (tw_set _ hqE (by rw [HQ.out.1, ← HN.out])).trans HE.out.2.1, fun t ht => ?_, fun j hj => ?_, ?_⟩, by simp [intOf]; omega⟩
              · rcases List.mem_or_eq_of_mem_set ht with h1 | h1
                · exact HE.out.2.2.1 t h1
                · rw [h1]
                  exact hnm
              · rw [List.length_set] at hj
                rw [List.getElem_set]
                by_cases e1 : q = j
                · rw [if_pos e1, ← e1, if_pos (by omega)]
                  exact ⟨rfl, rfl, fun h => absurd h (by omega)⟩
                · rw [if_neg e1]
                  obtain ⟨g1, g2, g3⟩ := HE.out.2.2.2 j hj
                  refine ⟨g1, ?_, fun h => g3 (by omega)⟩
                  rw [g2]
                  by_cases h3 : j < q
                  · rw [if_pos h3, if_pos (by omega)]
                  · rw [if_neg h3, if_neg (by omega)]
              · rw [take_set_succ _ hqE, List.map_append]
                exact Sep.unfocus (f := tw) (R := Own 29 1 (.slice A9 (q + 1) c9) (q + 1) ((E.take q).map (fun t => t.v) ++ [.slice A2 (n + 600) c2]) :: hd2 h m L vs R) (y := ⟨.slice A1 n c1, n, .slice A2 (n + 600) c2, n + 600, markOf q⟩) S9.p1 hqE
        · obtain rfl : q = m := by omega
          have hlti : ¬ ((q : Int) < (q : Int)) := by omega
          rw [List.take_of_length_le (by omega)] at S
          clear hE1 hE2 hE3 hE4 hlt
          go_wp2
          clear c0
          go_loopw [9] (fun i wr => ∃ r : Nat, r ≤ q ∧ i = .int .i64 (r : Int) ∧ Sep w0 wr (Own 29 1 (.slice Af q cf) q (E.map fun t => t.v) :: (hd2 h q L vs R ++ E.map tw))) (fun i _ => q - (intOf i).toNat)
          case atStart => exact ⟨0, Nat.zero_le _, rfl, S⟩
          case round =>
            clear S
            obtain ⟨r, hr, rfl, S⟩ := hrel
            by_cases hlt : r < q
            · have hlti : (r : Int) < (q : Int) := by omega
              have hrE : r < E.length := by rw [HE.out.1]; exact hlt
              have hnm := HE.out.2.2.1 E[r] (List.getElem_mem _)
              obtain ⟨hx1, hx2, _⟩ := HE.out.2.2.2 r hrE
              rw [if_pos hlt] at hx2
              have hvm : vs[r]? = some E[r].v0 := by rw [← HE.out.2.1, List.getElem?_map, List.getElem?_eq_getElem hrE]; rfl
              have hvf : (E.map fun t => t.v)[r]? = some E[r].v := by rw [List.getElem?_map, List.getElem?_eq_getElem hrE]; rfl
              have S1 : Sep w0 wr (tw E[r] :: ((Own 29 1 (.slice Af q cf) q (E.map fun t => t.v) :: hd2 h q L vs R) ++ (E.eraseIdx r).map tw)) := S.focus (f := tw) (R := Own 29 1 (.slice Af q cf) q (E.map fun t => t.v) :: hd2 h q L vs R) r hrE
              have et : tw E[r] = Twn 5 1 E[r].v0 E[r].n0 (nums .u8 (List.replicate E[r].n0 (markOf r))) E[r].v (E[r].n0 + 600) (nums .u8 (List.replicate (E[r].n0 + 600) (markOf r))) := by
                unfold tw
                rw [hx2, hx1]
              have HET := Aside0.mk et
              rw [et] at S1
              obtain ⟨F, hF, _⟩ := S1.hd
              obtain ⟨A1, c1, e1⟩ := own_slice hF.old
              obtain ⟨A2, c2, e2⟩ := own_slice hF.new
              have HV := Aside0.mk (And.intro e1 e2)
              rw [e1] at hvm S1
              rw [e2] at hvf S1
              obtain ⟨n, hn⟩ : ∃ n, n = E[r].n0 := ⟨_, rfl⟩
              have HN := Aside0.mk hn
              rw [← hn] at hvm hvf S1 hnm
              have HVM := Aside0.mk (And.intro hvm hvf)
              obtain ⟨gF, hgF⟩ := S.addr (A := Af) (by omega)
              obtain ⟨gA, hgA⟩ := S.p2.addr (A := L.A) (by omega)
              have v1 := S.p2.row.cells (g := gA) (by rw [hgA]; rfl) r _ hvm
              have v2 := S.row.cells (g := gF) (by rw [hgF]; rfl) r _ hvf
              rw [add_plain] at v1 v2
              have c0 := S.p1.cell 0 (v := .slice L.A q L.c) rfl
              rw [hgA] at c0
              subst hgF
              clear S e1 e2 hn hx1 hx2 hvm hvf et hF
              have n1 : IntKind.i64.wrap ((n : Int) + 600) = ((n + 600 : Nat) : Int) := by rw [IntKind.wrap_i64]; omega
              go_wp2
              go_region_held3 (fun W => W.cell? ⟨h, 0, none⟩ = some (.slice (some ⟨gA, 0, none⟩) q L.c) ∧ W.cell? ⟨gA, r, none⟩ = some (.slice A1 n c1) ∧ W.cell? ⟨gF, r, none⟩ = some (.slice A2 (n + 600) c2)) (refine ⟨?_, ?_, ?_⟩ <;> (repeat (first | (with_reducible exact c0) | (with_reducible exact v1) | (with_reducible exact v2) | (with_reducible refine kd ?_)))) (fail)
              have S2 := S1.drew
              replace c0 : wr.drew.cell? ⟨h, 0, none⟩ = some (.slice (some ⟨gA, 0, none⟩) q L.c) := c0
              replace v1 : wr.drew.cell? ⟨gA, r, none⟩ = some (.slice A1 n c1) := v1
              replace v2 : wr.drew.cell? ⟨gF, r, none⟩ = some (.slice A2 (n + 600) c2) := v2
              obtain ⟨wd, hwd⟩ : ∃ wd, wd = wr.drew := ⟨_, rfl⟩
              rw [← hwd] at c0 v1 v2 S2 ⊢
              clear S1 hwd
              go_wp2
              clear c0 v1 v2
              go_loopw [10] (fun i wq => ∃ j : Nat, j ≤ n + 600 ∧ i = .int .i64 (j : Int) ∧ Sep w0 wq (Twn 5 1 (.slice A1 n c1) n (nums .u8 (List.replicate n (markOf r))) (.slice A2 (n + 600) c2) (n + 600) (nums .u8 (List.replicate (n + 600) (markOf r))) :: ((Own 29 1 (.slice (some ⟨gF, 0, none⟩) q cf) q (E.map fun t => t.v) :: hd2 h q L vs R) ++ (E.eraseIdx r).map tw))) (fun i _ => n + 600 - (intOf i).toNat)
              case atStart => exact ⟨0, Nat.zero_le _, rfl, S2⟩
              case round =>
                clear S2
                obtain ⟨j, hj, rfl, S⟩ := hrel
                have c0 := S.p2.cell 0 (v := .slice L.A q L.c) rfl
                rw [hgA] at c0
                have v1 := S.p3.row.cells (g := gA) (by rw [hgA]; rfl) r _ HVM.out.1
                have v2 := S.p1.row.cells (g := gF) rfl r _ HVM.out.2
                rw [add_plain] at v1 v2
                by_cases hlj : j < n + 600
                · have hlji : (j : Int) < ((n + 600 : Nat) : Int) := by omega
                  obtain ⟨F2, hF2, _⟩ := S.hd
                  obtain ⟨g2, _, e2, _, _⟩ := hF2.new.form (by omega)
                  cases e2
                  have ce := hF2.new.cells (g := g2) rfl j (.int .u8 (markOf r)) (by simp [nums, hlj])
                  rw [add_plain, markOf_eq] at ce
                  have HS := Aside0.mk S
                  by_cases hjn : j < n
                  · have hjni : (j : Int) < (n : Int) := by omega
                    obtain ⟨g1, _, e1, _, _⟩ := hF2.old.form (by omega)
                    cases e1
                    have cd := hF2.old.cells (g := g1) rfl j (.int .u8 (markOf r)) (by simp [nums, hjn])
                    rw [add_plain, markOf_eq] at cd
                    clear S hF2
                    go_wp2
                    exact ⟨⟨j + 1, by omega, by go_num, HS.out⟩, by simp [intOf]; omega⟩
                  · have hjni : ¬ (j : Int) < (n : Int) := by omega
                    clear S hF2
                    go_wp2
                    exact ⟨⟨j + 1, by omega, by go_num, HS.out⟩, by simp [intOf]; omega⟩
                · obtain rfl : j = n + 600 := by omega
                  have hlji : ¬ (((n + 600 : Nat) : Int) < ((n + 600 : Nat) : Int)) := by omega
                  have HS := Aside0.mk S
                  clear S
                  go_wp2
                  refine ⟨⟨r + 1, by omega, by go_num, ?_⟩, by simp [intOf]; omega⟩
                  have S5 := HS.out
                  rw [HN.out, ← HV.out.1, ← HV.out.2, ← HET.out] at S5
                  exact Sep.refocus (f := tw) (R := Own 29 1 (.slice (some ⟨gF, 0, none⟩) q cf) q (E.map fun t => t.v) :: hd2 h q L vs R) hrE S5
            · have hlti : ¬ ((r : Int) < (q : Int)) := by omega
              have hS := Aside0.mk (S.drop.drop.drop)
              clear S hlt
              go_wp2
              go_ret
              exact ⟨rfl, hS.out.left⟩
end
end Go.Proofs.Ythnbmfkmaijibaa.Sep
/-! ### apartPending -/
namespace Go.Proofs.Ythnbmfkmaijibaa.Sep
open Go.Proofs Go.RowKit Go.Proofs.YthnbmfkmaijibaaW.PrintWords Go.Proofs.YthnbmfkmaijibaaW.PrintLast Go.Proofs.YthnbmfkmaijibaaW.PrintMore Go.Proofs.Ythnbmfkmaijibaa.IMap Go.Proofs.Ythnbmfkmaijibaa.Dev Go.Proofs.Ythnbmfkmaijibaa.PDeviceReads Go.Proofs.Ythnbmfkmaijibaa.Help
set_option linter.unusedVariables false
set_option linter.unusedSimpArgs false
/-- n writes with a mark and no data. -/
def pms (x : Int) : Nat → List Value
  | 0 => []
  | n + 1 => pms x n ++ [.int .i64 x, .slice none 0 0]
theorem pms_len (x : Int) : ∀ n, (pms x n).length = n * 2
  | 0 => rfl
  | n + 1 => by
    unfold pms
    rw [List.length_append, pms_len x n]
    simp
    omega
theorem pms_at (x : Int) : ∀ n j, j < n → (pms x n)[j * 2]? = some (.int .i64 x)
  | 0, _, h => absurd h (Nat.not_lt_zero _)
  | n + 1, j, h => by
    unfold pms
    by_cases hj : j < n
    · rw [List.getElem?_append_left (by rw [pms_len]; omega)]
      exact pms_at x n j hj
    · obtain rfl : j = n := by omega
      rw [List.getElem?_append_right (by rw [pms_len]; omega), pms_len, Nat.sub_self]
      rfl
theorem pms_rep {q n : Nat} {x : Int} {l : List Value} (hl : l.length = n * 2) (h : q < n) : ((pms x q ++ l.drop (q * 2)).set (q * 2) (.int .i64 x)).set (q * 2 + 1) (.slice none 0 0) = pms x (q + 1) ++ l.drop ((q + 1) * 2) := by
  have h1 : q * 2 < l.length := by omega
  have h2 : q * 2 + 1 < l.length := by omega
  rw [List.drop_eq_getElem_cons h1, List.drop_eq_getElem_cons h2, List.set_append, if_neg (by rw [pms_len]; omega), pms_len, Nat.sub_self, List.set_cons_zero, List.set_append, if_neg (by rw [pms_len]; omega), pms_len, show q * 2 + 1 - q * 2 = 1 from by omega, List.set_cons_succ, List.set_cons_zero, show (q + 1) * 2 = q * 2 + 1 + 1 from by omega]
  show pms x q ++ _ = (pms x q ++ _) ++ _
  rw [List.append_assoc]
  rfl
theorem Sep.putn {w0 w : World} {R : List Asn} {e : TypeId} {size g n c : Nat} {xs : List Value} (S : Sep w0 w (Own e size (.slice (some ⟨g, 0, none⟩) n c) n xs :: R)) (i : Nat) (v : Value) : Sep w0 (w.setCell ⟨g, i, none⟩ v) (Own e size (.slice (some ⟨g, 0, none⟩) n c) n (xs.set i v) :: R) := by
  obtain ⟨F, h, _⟩ := S.hd
  have h2 := h.1.stored i v
  exact S.grown h2.1 h2.2 (.inl rfl)
/-- The number of the i-th. -/
def numOf (i : Nat) : Int := ((1000 + i : Nat) : Int)
theorem numOf_eq (i : Nat) : numOf i = 1000 + (i : Int) := by
  unfold numOf
  omega
def tw2 (t : TW) : Asn := Twn 41 2 t.v0 t.n0 (pms t.x t.n0) t.v t.n (pms t.x t.n)
theorem q3_set {D : List Q3} {i : Nat} (y : Q3) (hi : i < D.length) (hv : y.1 = D[i].1) : (D.set i y).map (fun t => t.1) = D.map fun t => t.1 := by
  rw [List.map_set, hv, ← List.getElem_map (fun t : Q3 => t.1) (h := by simpa using hi), List.set_getElem_self]
theorem info_pd : (Try.prog.info? 41).map (fun i => (i.zero, i.size, i.bytes)) = some (some (.agg #[.int .i64 0, .slice none 0 0]), 2, 32) := by kernel_rfl
section
variable {w0 w w' : World} {R : List Asn} {k : Nat}
theorem Sep.twins2 {vs : List Value} {D : List Q3} (S : Sep w0 w (R ++ D.map qv)) (h1 : D.length = k) (h2 : D.map (fun t => t.1) = vs) (h3 : ∀ t ∈ D, t.2.1 ≤ 60) (h4 : ∀ j (hj : j < D.length), j < k → D[j].2.2 = pms (numOf j) D[j].2.1) :
    ∃ E : List TW, E.length = k ∧ E.map (fun t => t.v0) = vs ∧ (∀ t ∈ E, t.n0 ≤ 60) ∧ (∀ j (hj : j < E.length), E[j].x = numOf j ∧ E[j].n = E[j].n0 + (if j < 0 then 90 else 0) ∧ (0 ≤ j → E[j].v = E[j].v0)) ∧ Sep w0 w (R ++ E.map tw2) := by
  have hm : ∀ p ∈ D.zipIdx, p.1 ∈ D ∧ p.1.2.2 = pms (numOf p.2) p.1.2.1 := by
    intro p hp
    obtain ⟨i, hi, rfl⟩ := List.getElem_of_mem hp
    rw [List.length_zipIdx] at hi
    rw [List.getElem_zipIdx]
    simp only [Nat.zero_add]
    exact ⟨List.getElem_mem _, h4 i hi (by omega)⟩
  refine ⟨D.zipIdx.map fun p => ⟨p.1.1, p.1.2.1, p.1.1, p.1.2.1, numOf p.2⟩, by simpa using h1, ?_, ?_, ?_, ?_⟩
  · rw [← h2, List.map_map]
    show D.zipIdx.map ((fun t : Q3 => t.1) ∘ Prod.fst) = _
    rw [← List.map_map, List.zipIdx_map_fst]
  · intro t ht
    obtain ⟨p, hp, rfl⟩ := List.mem_map.1 ht
    exact h3 _ (hm p hp).1
  · intro j hj
    simp
  · rw [List.map_map]
    have S1 : Sep w0 w (R ++ D.zipIdx.map fun p => qv p.1) := by
      have : D.zipIdx.map (fun p => qv p.1) = (D.zipIdx.map Prod.fst).map qv := by rw [List.map_map]; rfl
      rw [this, List.zipIdx_map_fst]
      exact S
    refine S1.weaken fun p hp w F hF => ?_
    have e1 := (hm p hp).2
    show (Twn 41 2 p.1.1 p.1.2.1 (pms (numOf p.2) p.1.2.1) p.1.1 p.1.2.1 (pms (numOf p.2) p.1.2.1)).H w F
    rw [← e1]
    exact own_twin hF
set_option maxHeartbeats 4000000 in
set_option maxRecDepth 100000 in
theorem apartPending_s {A : Option Addr} {c : Nat} (S : Sep w0 w (PsA A k c :: R)) (hk : k ≤ 1000) : Calls Try.prog 33 #[.slice A k c] w fun e w' => e = .returned (.bool true) ∧ Sep w0 w' R := by
  obtain ⟨D, ⟨hD1, hD3⟩, S1⟩ := S.openE
  obtain ⟨vs, hvs⟩ : ∃ vs, vs = D.map fun p => p.1 := ⟨_, rfl⟩
  replace S1 := S1.spread
  rw [← hvs] at S1
  have hD2 := hvs.symm
  clear S hvs
  go_enter Try.func33, Try.ntmps33
  go_wp2
  go_loopw [4] (fun i wr => ∃ (m : Nat) (D : List Q3), m ≤ k ∧ i = .int .i64 (m : Int) ∧ D.length = k ∧ D.map (fun t => t.1) = vs ∧ (∀ t ∈ D, t.2.1 ≤ 60) ∧ (∀ j (hj : j < D.length), j < m → D[j].2.2 = pms (numOf j) D[j].2.1) ∧ Sep w0 wr ((Own 31 1 (.slice A k c) k vs :: R) ++ D.map qv)) (fun i _ => k - (intOf i).toNat)
  case atStart => exact ⟨0, D, Nat.zero_le _, rfl, hD1, hD2, hD3, fun j _ hj => absurd hj (Nat.not_lt_zero _), S1⟩
  case round =>
    clear S1 hD1 hD2 hD3 D
    obtain ⟨m, D, hm, rfl, hD1, hD2, hD3, hD4, S⟩ := hrel
    have HD := Aside0.mk (And.intro hD1 (And.intro hD2 (And.intro hD3 hD4)))
    by_cases hlt : m < k
    · have hlti : (m : Int) < (k : Int) := by omega
      have hmD : m < D.length := by rw [hD1]; exact hlt
      have hnm := hD3 D[m] (List.getElem_mem _)
      have hvm : vs[m]? = some D[m].1 := by rw [← hD2, List.getElem?_map, List.getElem?_eq_getElem hmD]; rfl
      have S1 : Sep w0 wr (Own 41 2 D[m].1 D[m].2.1 D[m].2.2 :: ((Own 31 1 (.slice A k c) k vs :: R) ++ (D.eraseIdx m).map qv)) := S.focus (f := qv) m hmD
      obtain ⟨A1, c1, e1⟩ := own_slice S1.row
      have hlen := S1.row.1
      have HDM := Aside0.mk (And.intro hmD e1)
      rw [e1] at hvm S1
      obtain ⟨lm, hlm⟩ : ∃ lm, lm = D[m].2.2 := ⟨_, rfl⟩
      rw [← hlm] at S1 hlen
      obtain ⟨n, hn⟩ : ∃ n, n = D[m].2.1 := ⟨_, rfl⟩
      have HN := Aside0.mk hn
      rw [← hn] at hvm S1 hnm hlen
      have HVM := Aside0.mk hvm
      have HLM := Aside0.mk hlen
      clear S hD1 hD2 hD3 hD4 e1 hlm hn hvm hlen
      go_wp2
      go_loopw [5] (fun j wq => ∃ q : Nat, q ≤ n ∧ j = .int .i64 (q : Int) ∧ Sep w0 wq (Own 41 2 (.slice A1 n c1) n (pms (numOf m) q ++ lm.drop (q * 2)) :: ((Own 31 1 (.slice A k c) k vs :: R) ++ (D.eraseIdx m).map qv))) (fun j _ => n - (intOf j).toNat)
      case atStart => exact ⟨0, Nat.zero_le _, rfl, S1⟩
      case round =>
        clear S1
        obtain ⟨q, hq, rfl, S⟩ := hrel
        obtain ⟨gA, rfl⟩ := S.p1.addr (by omega)
        have v1 := S.p1.row.cells (g := gA) rfl m _ HVM.out
        rw [add_plain] at v1
        by_cases hlq : q < n
        · have hlqi : (q : Int) < (n : Int) := by omega
          obtain ⟨g, rfl⟩ := S.addr (by omega)
          have fr := S.row_free (by omega) (q * 2)
          have fr2 := S.row_free (by omega) (q * 2 + 1)
          have hst := (S.putn (q * 2) (.int .i64 (numOf m))).putn (q * 2 + 1) (.slice none 0 0)
          rw [pms_rep HLM.out hlq] at hst
          obtain ⟨u1, ce⟩ : ∃ u, wr.cell? ⟨g, q * 2, none⟩ = some u := by
            have := S.row.cells (g := g) rfl (q * 2) _ (List.getElem?_eq_getElem (by rw [S.row.1]; omega))
            rw [add_plain] at this
            exact ⟨_, this⟩
          obtain ⟨u2, ce2⟩ : ∃ u, wr.cell? ⟨g, q * 2 + 1, none⟩ = some u := by
            have := S.row.cells (g := g) rfl (q * 2 + 1) _ (List.getElem?_eq_getElem (by rw [S.row.1]; omega))
            rw [add_plain] at this
            exact ⟨_, this⟩
          have HST := Aside0.mk hst
          clear hst S
          go_wp2
          exact ⟨⟨q + 1, by omega, by go_num, HST.out⟩, by simp [intOf]; omega⟩
        · obtain rfl : q = n := by omega
          have hlqi : ¬ ((q : Int) < (q : Int)) := by omega
          rw [List.drop_of_length_le (by rw [HLM.out]; exact Nat.le_refl _), List.append_nil] at S
          have hS := Aside0.mk S
          clear S
          go_wp2
          refine ⟨⟨m + 1, D.set m (.slice A1 q c1, q, pms (numOf m) q), by omega, by go_num, ?_⟩, by simp [intOf]; omega⟩
          refine ⟨by rw [List.length_set]; exact HD.out.1, (q3_set _ hmD (by rw [HDM.out.2, ← HN.out])).trans HD.out.2.1, fun t ht => ?_, fun j hj hjm => ?_, ?_⟩
          · rcases List.mem_or_eq_of_mem_set ht with h1 | h1
            · exact HD.out.2.2.1 t h1
            · rw [h1]
              exact hnm
          · rw [List.length_set] at hj
            rw [List.getElem_set]
            by_cases e1 : m = j
            · rw [if_pos e1, ← e1]
            · rw [if_neg e1]
              exact HD.out.2.2.2 j hj (by omega)
          · have S5 : Sep w0 wr (qv (.slice A1 q c1, q, pms (numOf m) q) :: ((Own 31 1 (.slice (some ⟨gA, 0, none⟩) k c) k vs :: R) ++ (D.eraseIdx m).map qv)) := hS.out
            exact S5.unfocus hmD
    · obtain rfl : m = k := by omega
      have hlti : ¬ ((m : Int) < (m : Int)) := by omega
      obtain ⟨E, hE1, hE2, hE3, hE4, S1⟩ := S.twins2 hD1 hD2 hD3 hD4
      have S2 := S1.nils 31 1
      clear S S1 hD1 hD2 hD3 hD4 HD hlt
      go_wp2
      go_loopw [6, 3] (fun i far wr => ∃ (q : Nat) (E : List TW) (Af : Option Addr) (cf : Nat), q ≤ m ∧ i = .int .i64 (q : Int) ∧ far = .slice Af q cf ∧ E.length = m ∧ E.map (fun t => t.v0) = vs ∧ (∀ t ∈ E, t.n0 ≤ 60) ∧ (∀ j (hj : j < E.length), E[j].x = numOf j ∧ E[j].n = E[j].n0 + (if j < q then 90 else 0) ∧ (q ≤ j → E[j].v = E[j].v0)) ∧ Sep w0 wr (Own 31 1 (.slice Af q cf) q ((E.take q).map fun t => t.v) :: ((Own 31 1 (.slice A m c) m vs :: R) ++ E.map tw2))) (fun i _ _ => m - (intOf i).toNat)
      case atStart => exact ⟨0, E, none, 0, Nat.zero_le _, rfl, rfl, hE1, hE2, hE3, hE4, S2⟩
      case round =>
        clear S2 hE1 hE2 hE3 hE4 E
        obtain ⟨q, E, Af, cf, hq, rfl, rfl, hE1, hE2, hE3, hE4, S⟩ := hrel
        have HE := Aside0.mk (And.intro hE1 (And.intro hE2 (And.intro hE3 hE4)))
        by_cases hlt : q < m
        · have hlti : (q : Int) < (m : Int) := by omega
          have hqE : q < E.length := by rw [hE1]; exact hlt
          have hnm := hE3 E[q] (List.getElem_mem _)
          have hx := hE4 q hqE
          rw [if_neg (by omega)] at hx
          obtain ⟨hx1, hx2, hx3⟩ := hx
          have hx3 := hx3 (Nat.le_refl _)
          have hvm : vs[q]? = some E[q].v0 := by rw [← hE2, List.getElem?_map, List.getElem?_eq_getElem hqE]; rfl
          obtain ⟨gA, hgA⟩ := S.p1.addr (A := A) (by omega)
          have v1 := S.p1.row.cells (g := gA) (by rw [hgA]; rfl) q _ hvm
          rw [add_plain] at v1
          have S1 : Sep w0 wr (tw2 E[q] :: ((Own 31 1 (.slice Af q cf) q ((E.take q).map fun t => t.v) :: Own 31 1 (.slice A m c) m vs :: R) ++ (E.eraseIdx q).map tw2)) := S.focus (f := tw2) (R := Own 31 1 (.slice Af q cf) q ((E.take q).map fun t => t.v) :: Own 31 1 (.slice A m c) m vs :: R) q hqE
          have et : tw2 E[q] = Twn 41 2 E[q].v0 E[q].n0 (pms (numOf q) E[q].n0) E[q].v0 E[q].n0 (pms (numOf q) E[q].n0) := by
            unfold tw2
            rw [hx3, hx2, hx1]
            rfl
          rw [et] at S1
          obtain ⟨F, hF, _⟩ := S1.hd
          obtain ⟨A1, c1, e1⟩ := own_slice hF.old
          have HQ := Aside0.mk (And.intro e1 hx1)
          rw [e1] at v1 S1
          obtain ⟨n, hn⟩ : ∃ n, n = E[q].n0 := ⟨_, rfl⟩
          have HN := Aside0.mk hn
          rw [← hn] at v1 S1 hnm
          clear S hE1 hE2 hE3 hE4 e1 hn hx1 hx2 hx3 hvm et hF
          subst hgA
          go_wp2
          clear v1
          go_loopw [8, 7] (fun i l wq => ∃ (r : Nat) (A2 : Option Addr) (c2 : Nat), r ≤ 90 ∧ i = .int .i64 (r : Int) ∧ l = .slice A2 (n + r) c2 ∧ Sep w0 wq (Twn 41 2 (.slice A1 n c1) n (pms (numOf q) n) (.slice A2 (n + r) c2) (n + r) (pms (numOf q) (n + r)) :: ((Own 31 1 (.slice Af q cf) q ((E.take q).map fun t => t.v) :: Own 31 1 (.slice (some ⟨gA, 0, none⟩) m c) m vs :: R) ++ (E.eraseIdx q).map tw2))) (fun i _ _ => 90 - (intOf i).toNat)
          case atStart => exact ⟨0, A1, c1, Nat.zero_le _, rfl, rfl, S1⟩
          case round =>
            clear S1
            obtain ⟨r, A2, c2, hr, rfl, rfl, S⟩ := hrel
            by_cases hlr : r < 90
            · have hlri : (r : Int) < 90 := by omega
              go_wp2_with ((with_reducible refine gate_builtin (b := .append) (xs := #[.tmp 49, .tmp 53]) rfl ?_); at_builtin; go_must (refine twin_append S rfl (.tmp 49) (.tmp 53) 31 (.agg #[.int .i64 0, .slice none 0 0]) 32 rfl Try.underlying31 info_pd rfl (by decide) (by decide) [.int .i64 (numOf q), .slice none 0 0] rfl rfl rfl ?a1 ?aL ?_); (case a1 => (intro u hu; rcases List.mem_cons.1 hu with h1 | h1; (rw [h1]; rfl); (rw [List.mem_singleton.1 h1]; rfl))); (case aL => omega); intro A9 c9 w9 S9)
              exact ⟨⟨r + 1, A9, c9, by omega, by go_num, rfl, S9⟩, by simp [intOf]; omega⟩
            · obtain rfl : r = 90 := by omega
              rw [show ((90 : Nat) : Int) = (90 : Int) from rfl]
              clear hlr
              go_wp2_with ((with_reducible refine gate_builtin (b := .append) (xs := #[.tmp 55, .tmp 57]) rfl ?_); at_builtin; go_must (refine append_s S.p1 rfl (.tmp 55) (.tmp 57) 56 (.slice none 0 0) 24 rfl Try.underlying56 info_ps rfl (by decide) (by decide) [.slice A2 (n + 90) c2] rfl rfl rfl ?a1 ?aL ?_); (case a1 => (intro u hu; rw [List.mem_singleton.1 hu]; rfl)); (case aL => omega); intro A9 c9 w9 S9)
              clear S
              refine ⟨⟨q + 1, E.set q ⟨.slice A1 n c1, n, .slice A2 (n + 90) c2, n + 90, numOf q⟩, A9, c9, by omega, by go_num, rfl, by rw [List.length_set]; exact HE.out.1, (tw_set _ hqE (by rw [HQ.out.1, ← HN.out])).trans HE.out.2.1, fun t ht => ?_, fun j hj => ?_, ?_⟩, by simp [intOf]; omega⟩
              · rcases List.mem_or_eq_of_mem_set ht with h1 | h1
                · exact HE.out.2.2.1 t h1
                · rw [h1]
                  exact hnm
              · rw [List.length_set] at hj
                rw [List.getElem_set]
                by_cases e1 : q = j
                · rw [if_pos e1, ← e1, if_pos (by omega)]
                  exact ⟨rfl, rfl, fun h => absurd h (by omega)⟩
                · rw [if_neg e1]
                  obtain ⟨g1, g2, g3⟩ := HE.out.2.2.2 j hj
                  refine ⟨g1, ?_, fun h => g3 (by omega)⟩
                  rw [g2]
                  by_cases h3 : j < q
                  · rw [if_pos h3, if_pos (by omega)]
                  · rw [if_neg h3, if_neg (by omega)]
              · rw [take_set_succ _ hqE, List.map_append]
                exact Sep.unfocus (f := tw2) (R := Own 31 1 (.slice A9 (q + 1) c9) (q + 1) ((E.take q).map (fun t => t.v) ++ [.slice A2 (n + 90) c2]) :: Own 31 1 (.slice (some ⟨gA, 0, none⟩) m c) m vs :: R) (y := ⟨.slice A1 n c1, n, .slice A2 (n + 90) c2, n + 90, numOf q⟩) S9.p1 hqE
        · obtain rfl : q = m := by omega
          have hlti : ¬ ((q : Int) < (q : Int)) := by omega
          rw [List.take_of_length_le (by omega)] at S
          clear hE1 hE2 hE3 hE4 hlt
          go_wp2
          go_loopw [9] (fun i wr => ∃ r : Nat, r ≤ q ∧ i = .int .i64 (r : Int) ∧ Sep w0 wr (Own 31 1 (.slice Af q cf) q (E.map fun t => t.v) :: ((Own 31 1 (.slice A q c) q vs :: R) ++ E.map tw2))) (fun i _ => q - (intOf i).toNat)
          case atStart => exact ⟨0, Nat.zero_le _, rfl, S⟩
          case round =>
            clear S
            obtain ⟨r, hr, rfl, S⟩ := hrel
            by_cases hlt : r < q
            · have hlti : (r : Int) < (q : Int) := by omega
              have hrE : r < E.length := by rw [HE.out.1]; exact hlt
              have hnm := HE.out.2.2.1 E[r] (List.getElem_mem _)
              obtain ⟨hx1, hx2, _⟩ := HE.out.2.2.2 r hrE
              rw [if_pos hlt] at hx2
              have hvm : vs[r]? = some E[r].v0 := by rw [← HE.out.2.1, List.getElem?_map, List.getElem?_eq_getElem hrE]; rfl
              have hvf : (E.map fun t => t.v)[r]? = some E[r].v := by rw [List.getElem?_map, List.getElem?_eq_getElem hrE]; rfl
              have S1 : Sep w0 wr (tw2 E[r] :: ((Own 31 1 (.slice Af q cf) q (E.map fun t => t.v) :: Own 31 1 (.slice A q c) q vs :: R) ++ (E.eraseIdx r).map tw2)) := S.focus (f := tw2) (R := Own 31 1 (.slice Af q cf) q (E.map fun t => t.v) :: Own 31 1 (.slice A q c) q vs :: R) r hrE
              have et : tw2 E[r] = Twn 41 2 E[r].v0 E[r].n0 (pms (numOf r) E[r].n0) E[r].v (E[r].n0 + 90) (pms (numOf r) (E[r].n0 + 90)) := by
                unfold tw2
                rw [hx2, hx1]
              have HET := Aside0.mk et
              rw [et] at S1
              obtain ⟨F, hF, _⟩ := S1.hd
              obtain ⟨A1, c1, e1⟩ := own_slice hF.old
              obtain ⟨A2, c2, e2⟩ := own_slice hF.new
              have HV := Aside0.mk (And.intro e1 e2)
              rw [e1] at hvm S1
              rw [e2] at hvf S1
              obtain ⟨n, hn⟩ : ∃ n, n = E[r].n0 := ⟨_, rfl⟩
              have HN := Aside0.mk hn
              rw [← hn] at hvm hvf S1 hnm
              have HVM := Aside0.mk (And.intro hvm hvf)
              obtain ⟨gF, hgF⟩ := S.addr (A := Af) (by omega)
              obtain ⟨gA, hgA⟩ := S.p1.addr (A := A) (by omega)
              have v1 := S.p1.row.cells (g := gA) (by rw [hgA]; rfl) r _ hvm
              have v2 := S.row.cells (g := gF) (by rw [hgF]; rfl) r _ hvf
              rw [add_plain] at v1 v2
              subst hgF
              subst hgA
              clear S e1 e2 hn hx1 hx2 hvm hvf et hF
              go_wp2
              clear v1 v2
              go_loopw [10] (fun i wq => ∃ j : Nat, j ≤ n + 90 ∧ i = .int .i64 (j : Int) ∧ Sep w0 wq (Twn 41 2 (.slice A1 n c1) n (pms (numOf r) n) (.slice A2 (n + 90) c2) (n + 90) (pms (numOf r) (n + 90)) :: ((Own 31 1 (.slice (some ⟨gF, 0, none⟩) q cf) q (E.map fun t => t.v) :: Own 31 1 (.slice (some ⟨gA, 0, none⟩) q c) q vs :: R) ++ (E.eraseIdx r).map tw2))) (fun i _ => n + 90 - (intOf i).toNat)
              case atStart => exact ⟨0, Nat.zero_le _, rfl, S1⟩
              case round =>
                clear S1
                obtain ⟨j, hj, rfl, S⟩ := hrel
                have v1 := S.p2.row.cells (g := gA) rfl r _ HVM.out.1
                have v2 := S.p1.row.cells (g := gF) rfl r _ HVM.out.2
                rw [add_plain] at v1 v2
                by_cases hlj : j < n + 90
                · have hlji : (j : Int) < ((n + 90 : Nat) : Int) := by omega
                  obtain ⟨F2, hF2, _⟩ := S.hd
                  obtain ⟨g2, _, e2, _, _⟩ := hF2.new.form (by omega)
                  cases e2
                  have ce := hF2.new.cells (g := g2) rfl (j * 2) (.int .i64 (numOf r)) (pms_at _ _ _ hlj)
                  rw [add_plain, numOf_eq] at ce
                  have HS := Aside0.mk S
                  by_cases hjn : j < n
                  · have hjni : (j : Int) < (n : Int) := by omega
                    obtain ⟨g1, _, e1, _, _⟩ := hF2.old.form (by omega)
                    cases e1
                    have cd := hF2.old.cells (g := g1) rfl (j * 2) (.int .i64 (numOf r)) (pms_at _ _ _ hjn)
                    rw [add_plain, numOf_eq] at cd
                    clear S hF2
                    go_wp2
                    exact ⟨⟨j + 1, by omega, by go_num, HS.out⟩, by simp [intOf]; omega⟩
                  · have hjni : ¬ (j : Int) < (n : Int) := by omega
                    clear S hF2
                    go_wp2
                    exact ⟨⟨j + 1, by omega, by go_num, HS.out⟩, by simp [intOf]; omega⟩
                · obtain rfl : j = n + 90 := by omega
                  have hlji : ¬ (((n + 90 : Nat) : Int) < ((n + 90 : Nat) : Int)) := by omega
                  have HS := Aside0.mk S
                  clear S
                  go_wp2
                  refine ⟨⟨r + 1, by omega, by go_num, ?_⟩, by simp [intOf]; omega⟩
                  have S5 := HS.out
                  rw [HN.out, ← HV.out.1, ← HV.out.2, ← HET.out] at S5
                  exact Sep.refocus (f := tw2) (R := Own 31 1 (.slice (some ⟨gF, 0, none⟩) q cf) q (E.map fun t => t.v) :: Own 31 1 (.slice (some ⟨gA, 0, none⟩) q c) q vs :: R) hrE S5
            · have hlti : ¬ ((r : Int) < (q : Int)) := by omega
              have hS := Aside0.mk (S.drop.drop)
              clear S hlt
              go_wp2
              go_ret
              exact ⟨rfl, hS.out.left⟩
end
end Go.Proofs.Ythnbmfkmaijibaa.Sep
