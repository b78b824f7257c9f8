/- A device within settle: its map is not yet that of its writes. -/
import Derived.Test.YthnbmfkmaijibaaDevNew
namespace Go.Proofs.Ythnbmfkmaijibaa.Dev
open Go.Proofs Go.RowKit Go.Proofs.YthnbmfkmaijibaaW.PrintWords Go.Proofs.YthnbmfkmaijibaaW.PrintLast Go.Proofs.YthnbmfkmaijibaaW.PrintMore Go.Proofs.Ythnbmfkmaijibaa.IMap Go.Proofs.Ythnbmfkmaijibaa.Locks
set_option linter.unusedVariables false
set_option linter.unusedSimpArgs false
structure Mid (lk : Int) (w : World) (p : Nat) (s : DS) (d : List Int) (m : Int → Option Value) (F : Nat → Prop) (L : Lay) : Prop where
  cells : w.heap[p]? = some (.cells #[.int .i32 lk, .int .u32 0, L.vd, L.vp, .map (some L.bm), .bool s.off, .int .i64 s.fuse] 102 (0, 0))
  dur : w.ownsRow 0 5 1 L.vd s.dur.length (nums .u8 d)
  pend : w.ownsRow 0 41 2 L.vp L.ps.length (pcells L.ps)
  pendIs : s.pend = L.ps.map fun x => (x.1, x.2.1)
  data : ∀ x ∈ L.ps, w.ownsRow 0 5 1 x.2.2 x.2.1.length (nums .u8 x.2.1)
  apart : ∀ x ∈ L.ps, x.2.2.ownBlock ≠ L.vd.ownBlock
  map : MapAt w L.bm m
  ok : s.Ok
  inp : F p
  inm : F L.bm
  ind : ∀ k, L.vd.ownBlock = some k → F k
  inq : ∀ k, L.vp.ownBlock = some k → F k
  inx : ∀ x ∈ L.ps, ∀ k, x.2.2.ownBlock = some k → F k
  lt : ∀ k, F k → k < w.heap.size
theorem DevL.mid {lk : Int} {w : World} {p : Nat} {s : DS} {F : Nat → Prop} {L : Lay} (h : DevL lk w p s F L) : Mid lk w p s s.dur (lastV L.ps) F L :=
  ⟨h.cells, h.dur, h.pend, h.pendIs, h.data, h.apart, h.map, h.ok, h.inp, h.inm, h.ind, h.inq, h.inx, h.lt⟩
section
variable {lk : Int} {w w' : World} {p : Nat} {s : DS} {d : List Int} {m : Int → Option Value} {F : Nat → Prop} {L : Lay}
theorem Mid.move (h : Mid lk w p s d m F L) (hs : w.heap.size ≤ w'.heap.size) (hk : ∀ k, F k → w'.heap[k]? = w.heap[k]?) : Mid lk w' p s d m F L :=
  ⟨(hk p h.inp).trans h.cells, own_move h.dur fun k e => hk k (h.ind k e), own_move h.pend fun k e => hk k (h.inq k e), h.pendIs, fun x hx => own_move (h.data x hx) fun k e => hk k (h.inx x hx k e), h.apart,
    h.map.move (hk _ h.inm), h.ok, h.inp, h.inm, h.ind, h.inq, h.inx, fun k e => Nat.lt_of_lt_of_le (h.lt k e) hs⟩
theorem Mid.below (h : Mid lk w p s d m F L) (hb : Below w.heap.size w w') : Mid lk w' p s d m F L := h.move hb.size fun k hk => hb.block k (h.lt k hk)
theorem Mid.c2 (h : Mid lk w p s d m F L) : w.cell? ⟨p, 2, none⟩ = some L.vd := (blk_cell h.cells 2).trans rfl
theorem Mid.c3 (h : Mid lk w p s d m F L) : w.cell? ⟨p, 3, none⟩ = some L.vp := (blk_cell h.cells 3).trans rfl
theorem Mid.c4 (h : Mid lk w p s d m F L) : w.cell? ⟨p, 4, none⟩ = some (.map (some L.bm)) := (blk_cell h.cells 4).trans rfl
theorem Mid.fz (h : Mid lk w p s d m F L) (i : Nat) : w.frozen? ⟨p, i, none⟩ = false := blk_frozen h.cells i
theorem Mid.vd_is (h : Mid lk w p s d m F L) : ∃ g c, L.vd = .slice (some ⟨g, 0, none⟩) s.dur.length c := by
  obtain ⟨g, c, e, _⟩ := h.dur.form (by have := h.ok.len; have := h.ok.n0; omega)
  exact ⟨g, c, e⟩
theorem Mid.map_off (h : Mid lk w p s d m F L) : L.bm ≠ p := by
  intro e
  obtain ⟨es, c, h1, _⟩ := h.map
  rw [e, h.cells] at h1
  cases h1
theorem Mid.dlen (h : Mid lk w p s d m F L) : d.length = s.dur.length := by
  have := h.dur.1
  simpa [nums] using this
/-- The map has changed. -/
theorem Mid.mapped (h : Mid lk w p s d m F L) {m' : Int → Option Value} (hm : MapAt w' L.bm m') (hs : w'.heap.size = w.heap.size) (hk : ∀ k, k ≠ L.bm → w'.heap[k]? = w.heap[k]?) : Mid lk w' p s d m' F L := by
  refine ⟨(hk p fun e => h.map_off e.symm).trans h.cells, own_move h.dur fun k e => hk k (own_map h.map h.dur k e), own_move h.pend fun k e => hk k (own_map h.map h.pend k e), h.pendIs,
    fun x hx => own_move (h.data x hx) fun k e => hk k (own_map h.map (h.data x hx) k e), h.apart, hm, h.ok, h.inp, h.inm, h.ind, h.inq, h.inx, fun k e => by rw [hs]; exact h.lt k e⟩
theorem block_mid (h : Mid lk w p s d m F L) (b : Int) (hb : 0 ≤ b ∧ b < (s.n : Int)) :
    Calls Try.prog 56 #[.pointer (some ⟨p, 0, none⟩), .int .i64 b] w fun e w' => (∃ g c, L.vd = .slice (some ⟨g, 0, none⟩) s.dur.length c ∧ e = .returned (.slice (some ⟨g, b.toNat * 512, none⟩) 512 (c - b.toNat * 512))) ∧ w' = w := by
  obtain ⟨g, c, e⟩ := h.vd_is
  have c2 := h.c2
  rw [e] at c2
  have hl := h.ok.len
  have hn1 := h.ok.n1
  have hw1 : IntKind.i64.wrap (b * 512) = b * 512 := by rw [IntKind.wrap_i64]; omega
  have hw2 : IntKind.i64.wrap (b + 1) = b + 1 := by rw [IntKind.wrap_i64]; omega
  have hw3 : IntKind.i64.wrap ((b + 1) * 512) = (b + 1) * 512 := by rw [IntKind.wrap_i64]; omega
  have hd := h.dur
  rw [e] at hd
  have hcap : s.dur.length ≤ c := own_cap hd
  have hs1 : (0 : Int) ≤ (b + 1) * 512 := by omega
  have hs2 : (b + 1) * 512 ≤ (c : Int) := by omega
  have hs3 : (0 : Int) ≤ b * 512 := by omega
  have hs4 : b * 512 ≤ (((b + 1) * 512).toNat : Int) := by omega
  have hs5 : ¬ c = (b * 512).toNat := by omega
  have hs6 : ((b + 1) * 512).toNat - b.toNat * 512 = 512 := by omega
  have hs7 : (b * 512).toNat = b.toNat * 512 := by omega
  go_enter Try.func56, Try.ntmps56
  go_wp2
  go_ret
  exact ⟨⟨g, c, e, rfl⟩, rfl⟩
theorem block_at (h : Mid lk w p s d m F L) {g c : Nat} (e : L.vd = .slice (some ⟨g, 0, none⟩) s.dur.length c) (b : Int) (hb : 0 ≤ b ∧ b < (s.n : Int)) :
    Calls Try.prog 56 #[.pointer (some ⟨p, 0, none⟩), .int .i64 b] w fun e w' => e = .returned (.slice (some ⟨g, b.toNat * 512, none⟩) 512 (c - b.toNat * 512)) ∧ w' = w := by
  refine (block_mid h b hb).mono ?_
  rintro e1 w1 ⟨⟨g', c', h1, h2⟩, h3⟩
  rw [e] at h1
  cases h1
  exact ⟨h2, h3⟩
theorem Mid.dur_cells (h : Mid lk w p s d m F L) {g c : Nat} (e : L.vd = .slice (some ⟨g, 0, none⟩) s.dur.length c) : ∃ cur, w.heap[g]? = some (.cells cur 5 (0, 0)) ∧ s.dur.length ≤ cur.size := by
  have hd := h.dur
  rw [e] at hd
  rcases hd.2 with ⟨h1, _⟩ | ⟨g', cap, cur', h1, h2, h3, h4, h5, h6, h7⟩
  · cases h1
  · cases h1
    exact ⟨cur', h3, by omega⟩
/-- A block is laid over the lasting bytes. -/
theorem Mid.laid (h : Mid lk w p s d m F L) {g c : Nat} (e : L.vd = .slice (some ⟨g, 0, none⟩) s.dur.length c) {b : Int} (hb : 0 ≤ b ∧ b < (s.n : Int)) {x : List Int} (hx : x.length = 512) {cur : Array Value} (hg : w.heap[g]? = some (.cells cur 5 (0, 0))) :
    Mid lk (w.setRow g (cur.toList.take (b.toNat * 512) ++ (nums .u8 x ++ cur.toList.drop (b.toNat * 512 + (nums .u8 x).length))).toArray) p s (lay d b x) m F L := by
  have hdl := h.dlen
  have hl := h.ok.len
  have hgF : F g := h.ind g (by rw [e]; rfl)
  have ho : ∀ k, k ≠ g → (w.setRow g (cur.toList.take (b.toNat * 512) ++ (nums .u8 x ++ cur.toList.drop (b.toNat * 512 + (nums .u8 x).length))).toArray).heap[k]? = w.heap[k]? := fun k hk => setRow_other w g k _ hk
  have hne : ∀ k, k ≠ g → some k ≠ L.vd.ownBlock := fun k hk e' => by
    rw [e] at e'
    have : k = g := by simpa [Value.ownBlock] using e'
    exact hk this
  have hpg : p ≠ g := fun e' => (own_off h.cells h.dur (by decide) g (by rw [e]; rfl)) e'.symm
  have hmg : L.bm ≠ g := fun e' => (own_map h.map h.dur g (by rw [e]; rfl)) e'.symm
  have hs : (w.setRow g (cur.toList.take (b.toNat * 512) ++ (nums .u8 x ++ cur.toList.drop (b.toNat * 512 + (nums .u8 x).length))).toArray).heap.size = w.heap.size := by simp [World.setRow]
  refine ⟨(ho p hpg).trans h.cells, ?_, own_move h.pend fun k hk => ho k ?_, h.pendIs, fun y hy => own_move (h.data y hy) fun k hk => ho k ?_, h.apart, h.map.move (ho _ hmg), h.ok, h.inp, h.inm, h.ind, h.inq, h.inx, fun k hk => by rw [hs]; exact h.lt k hk⟩
  · have hd := h.dur
    rw [e] at hd ⊢
    refine ⟨by rw [nums_length]; unfold lay; rw [length_splice _ _ _ (by omega)]; omega, .inr ?_⟩
    rcases hd.2 with ⟨h1, _⟩ | ⟨g', cap, cur', h1, h2, h3, h4, h5, h6, h7⟩
    · cases h1
    · cases h1
      rw [hg] at h3
      cases h3
      refine ⟨g, c, _, rfl, h2, setRow_heap w g _ _ 5 _ hg, h4, h5, ?_, ?_⟩
      · simp [nums_length, hx]
        omega
      · have hcl : cur.toList.length = c := by simpa using h6
        have h7' : cur.toList.take s.dur.length = nums .u8 d := by simpa using h7
        have hcur : cur.toList = nums .u8 d ++ cur.toList.drop s.dur.length := by rw [← h7', List.take_append_drop]
        have hnl : (nums .u8 d).length = s.dur.length := by rw [nums_length, hdl]
        have hxl : (nums .u8 x).length = 512 := by rw [nums_length, hx]
        generalize cur.toList.drop s.dur.length = R at hcur
        have key1 : List.take (b.toNat * 512) cur.toList = List.take (b.toNat * 512) (nums .u8 d) := by rw [hcur, List.take_append_of_le_length (by omega)]
        have key2 : List.drop (b.toNat * 512 + 512) cur.toList = List.drop (b.toNat * 512 + 512) (nums .u8 d) ++ R := by rw [hcur, List.drop_append_of_le_length (by omega)]
        have e1 : List.take (b.toNat * 512) (nums .u8 d) ++ (nums .u8 x ++ (List.drop (b.toNat * 512 + 512) (nums .u8 d) ++ R)) = nums .u8 (lay d b x) ++ R := by
          unfold lay splice
          rw [hx]
          simp [nums, List.map_take, List.map_drop]
        show List.take (s.dur.length * 1) (List.take (b.toNat * 512) cur.toList ++ (nums .u8 x ++ List.drop (b.toNat * 512 + (nums .u8 x).length) cur.toList)) = _
        rw [hxl, key1, key2]
        rw [e1]
        have e2 : (nums .u8 (lay d b x)).length = s.dur.length := by
          rw [nums_length]
          unfold lay
          rw [length_splice _ _ _ (by omega)]
          omega
        exact List.take_left' (by omega)
  · rintro rfl
    exact own_two h.pend h.dur (by decide) k hk (by rw [e]; rfl)
  · rintro rfl
    exact h.apart y hy (by rw [hk, e]; rfl)
end
end Go.Proofs.Ythnbmfkmaijibaa.Dev
