/- The device's methods and the laws' helpers, told of a list of things that lie apart. -/
import Derived.Test.YthnbmfkmaijibaaSep
import Derived.Test.YthnbmfkmaijibaaDevWs
namespace Go.Proofs.Ythnbmfkmaijibaa.Sep
open Go.Proofs Go.RowKit Go.Proofs.YthnbmfkmaijibaaW.PrintWords Go.Proofs.YthnbmfkmaijibaaW.PrintLast Go.Proofs.YthnbmfkmaijibaaW.PrintMore Go.Proofs.Ythnbmfkmaijibaa.IMap Go.Proofs.Ythnbmfkmaijibaa.Dev Go.Proofs.Ythnbmfkmaijibaa.Help
set_option linter.unusedVariables false
set_option linter.unusedSimpArgs false
/-- A device. -/
def DevA (p : Nat) (s : DS) : Asn where
  H w F := Dev w p s F
  move := fun {w w' F} h hk => by
    obtain ⟨L, h⟩ := h
    exact ⟨L, ⟨(hk p h.inp).trans h.cells, own_move h.dur fun k e => hk k (h.ind k e), own_move h.pend fun k e => hk k (h.inq k e), h.pendIs, fun x hx => own_move (h.data x hx) fun k e => hk k (h.inx x hx k e), h.apart,
      h.map.move (hk _ h.inm), h.ok, h.inp, h.inm, h.ind, h.inq, h.inx, fun k e => lt_move (h.lt k e) (hk k e)⟩⟩
  lt := fun h => h.lt
section
variable {w0 w w' : World} {p : Nat} {s : DS} {R : List Asn}
theorem Sep.ok (S : Sep w0 w (DevA p s :: R)) : s.Ok := by
  obtain ⟨F, h, _⟩ := S.hd
  exact Dev.ok h
/-- A call that changes a device within its blocks. -/
theorem Sep.dev_step {s' : DS} {F : Nat → Prop} (hf : ∀ (w' : World) (Q : List Asn), Star Q w' (grow F w w') → Chg F w w' → Sep w0 w' (Q ++ R)) (d : Dev w' p s' F) (c : Chg F w w') : Sep w0 w' (DevA p s' :: R) :=
  hf w' [DevA p s'] (Star.one (A := DevA p s') d fun k hk => .inl hk) c
theorem Sep.dev_grow {s' : DS} {F : Nat → Prop} (hf : ∀ (w' : World) (Q : List Asn), Star Q w' (grow F w w') → Chg F w w' → Sep w0 w' (Q ++ R)) (d : Dev w' p s' (grow F w w')) (c : Chg F w w') : Sep w0 w' (DevA p s' :: R) :=
  hf w' [DevA p s'] (Star.one (A := DevA p s') d fun k hk => hk) c
theorem Sep.dev_row {e : TypeId} {size n : Nat} {v : Value} {xs : List Value} {F : Nat → Prop} (hF : ∀ k, F k → k < w.heap.size) (hf : ∀ (w' : World) (Q : List Asn), Star Q w' (grow F w w') → Chg F w w' → Sep w0 w' (Q ++ R)) (d : Dev w' p s F) (c : Chg F w w') (h : w'.ownsRow w.heap.size e size v n xs) :
    Sep w0 w' (Own e size v n xs :: DevA p s :: R) := by
  refine hf w' [Own e size v n xs, DevA p s] (Star.two (A := Own e size v n xs) (B := DevA p s) (G := fun k => v.ownBlock = some k) (G' := F) ⟨own_weaken h (Nat.zero_le _), fun k hk => hk, fun k hk => own_lt h k hk⟩ (fun k hk => .inr ⟨own_base h k hk, own_lt h k hk⟩) d fun k hk => ⟨.inl hk, fun hv => ?_⟩) c
  have := own_base h k hv
  have := hF k hk
  omega
theorem new_s (S : Sep w0 w R) (n : Nat) (h0 : 1 ≤ n) (h1 : n ≤ 4096) : Calls Try.prog 14 #[.int .i64 (n : Int)] w fun e w' => ∃ q, e = .returned (.pointer (some ⟨q, 0, none⟩)) ∧ Sep w0 w' (DevA q (DS.made (List.replicate (512 * n) 0)) :: R) := by
  refine (new_any w n h0 h1).mono ?_
  rintro e w' ⟨q, rfl, d, b⟩
  exact ⟨q, rfl, S.new b (A := DevA q _) d fun k hk => hk.1⟩
def ImageP (d : List Int) (w0 : World) (R : List Asn) (e : Ending) (w' : World) : Prop := if fit d then ∃ q, e = .returned (.tuple #[.pointer (some ⟨q, 0, none⟩), .int .i64 0]) ∧ Sep w0 w' (DevA q (DS.made d) :: R) else e = .returned (.tuple #[.pointer none, .int .i64 51]) ∧ Sep w0 w' R
theorem image_s (S : Sep w0 w R) (A : Option Addr) (c : Nat) (d : List Int) (hr : ReadsInt w .u8 A d.length d) : Calls Try.prog 36 #[.slice A d.length c] w (ImageP d w0 R) := by
  refine (image_any w A c d hr).mono ?_
  rintro e w' ⟨h, b⟩
  unfold ImageP
  unfold ImagePost at h
  split
  · rename_i hfit
    rw [if_pos hfit] at h
    obtain ⟨q, rfl, d⟩ := h
    exact ⟨q, rfl, S.new b (A := DevA q _) d fun k hk => hk.1⟩
  · rename_i hfit
    rw [if_neg hfit] at h
    exact ⟨h, S.calm b⟩
theorem image_yes_s (S : Sep w0 w R) (A : Option Addr) (n c : Nat) (d : List Int) (hn : d.length = n) (hr : ReadsInt w .u8 A n d) (hfit : fit d = true) : Calls Try.prog 36 #[.slice A n c] w fun e w' => ∃ q, e = .returned (.tuple #[.pointer (some ⟨q, 0, none⟩), .int .i64 0]) ∧ Sep w0 w' (DevA q (DS.made d) :: R) := by
  subst hn
  refine (image_s S A c d hr).mono ?_
  intro e w' h
  unfold ImageP at h
  rw [if_pos hfit] at h
  exact h
/-- Written out of a row of one's own. -/
theorem write_s {A : Option Addr} {c : Nat} {l : List Int} (S : Sep w0 w (DevA p s :: Byt A 512 c l :: R)) (b : Int) (hp : s.pend.length ≤ 1000000000000) :
    Calls Try.prog 20 #[.pointer (some ⟨p, 0, none⟩), .int .i64 b, .slice A 512 c] w fun e w' => e = .returned (.int .i64 (s.write b l).1) ∧ Sep w0 w' (DevA p (s.write b l).2 :: Byt A 512 c l :: R) := by
  obtain ⟨F, G, hd, hb, hne, _, hf⟩ := S.pair
  have hr : ReadsInt w .u8 A 512 l := own_reads' hb.1
  have hl : l.length = 512 := by have := hb.1.1; simpa [nums] using this
  refine (write_512 (show Dev w p s F from hd) b A c l hl hr (fun a e _ => hne _ (hb.2.1 _ (by rw [e]; rfl))) hp).mono ?_
  rintro e w' ⟨rfl, d, c⟩
  exact ⟨rfl, Sep.dev_grow hf d c⟩
/-- Written out of memory that was there before. -/
theorem write_old {A : Option Addr} {c : Nat} {l : List Int} (S : Sep w0 w (DevA p s :: R)) (b : Int) (hr : ReadsInt w .u8 A l.length l) (hA : ∀ a, A = some a → 0 < l.length → a.block < w0.heap.size) (hl : l.length ≤ 140737488355328) (hp : s.pend.length ≤ 1000000000000) :
    Calls Try.prog 20 #[.pointer (some ⟨p, 0, none⟩), .int .i64 b, .slice A l.length c] w fun e w' => e = .returned (.int .i64 (s.write b l).1) ∧ Sep w0 w' (DevA p (s.write b l).2 :: R) := by
  obtain ⟨F, hd, hlow, hf⟩ := S.one
  refine (write_any (show Dev w p s F from hd) b A c l hr (fun a e h hF => by have := hlow _ hF; have := hA a e h; omega) hl hp).mono ?_
  rintro e w' ⟨rfl, d, c⟩
  exact ⟨rfl, Sep.dev_grow hf d c⟩
theorem write_nil (S : Sep w0 w (DevA p s :: R)) (b : Int) (hp : s.pend.length ≤ 1000000000000) :
    Calls Try.prog 20 #[.pointer (some ⟨p, 0, none⟩), .int .i64 b, .slice none 0 0] w fun e w' => e = .returned (.int .i64 (s.write b []).1) ∧ Sep w0 w' (DevA p (s.write b []).2 :: R) :=
  write_old S (A := none) (c := 0) (l := []) b ⟨rfl, by decide, fun h => absurd h (Nat.lt_irrefl 0)⟩ (fun a h => by cases h) (Nat.zero_le _) hp
/-- Written out of a part of something that lies apart. -/
theorem write_part {B : Asn} {A : Option Addr} {c : Nat} {l : List Int} (S : Sep w0 w (DevA p s :: B :: R)) (b : Int) (hB : ∀ G, B.H w G → ReadsInt w .u8 A l.length l ∧ ∀ a, A = some a → 0 < l.length → G a.block) (hl : l.length ≤ 140737488355328) (hp : s.pend.length ≤ 1000000000000) :
    Calls Try.prog 20 #[.pointer (some ⟨p, 0, none⟩), .int .i64 b, .slice A l.length c] w fun e w' => e = .returned (.int .i64 (s.write b l).1) ∧ Sep w0 w' (DevA p (s.write b l).2 :: B :: R) := by
  obtain ⟨F, G, hd, hb, hne, _, hf⟩ := S.pair
  obtain ⟨hr, hA⟩ := hB G hb
  refine (write_any (show Dev w p s F from hd) b A c l hr (fun a e h hF => hne _ (hA a e h) hF) hl hp).mono ?_
  rintro e w' ⟨rfl, d, c⟩
  exact ⟨rfl, Sep.dev_grow hf d c⟩
theorem read_s (S : Sep w0 w (DevA p s :: R)) (b : Int) : Calls Try.prog 22 #[.pointer (some ⟨p, 0, none⟩), .int .i64 b] w fun e w' => ∃ A c, e = .returned (.tuple #[.slice A (s.read b).1.length c, .int .i64 (s.read b).2]) ∧ Sep w0 w' (Byt A (s.read b).1.length c (s.read b).1 :: DevA p s :: R) := by
  obtain ⟨F, hd, hlow, hf⟩ := S.one
  refine (read_any (show Dev w p s F from hd) b).mono ?_
  rintro e w' ⟨v, rfl, ho, d, c⟩
  obtain ⟨A, c', rfl⟩ := own_slice ho
  exact ⟨A, c', rfl, Sep.dev_row (Dev.lt hd) hf d c ho⟩
theorem durable_s (S : Sep w0 w (DevA p s :: R)) : Calls Try.prog 25 #[.pointer (some ⟨p, 0, none⟩)] w fun e w' => ∃ A c, e = .returned (.slice A s.dur.length c) ∧ Sep w0 w' (Byt A s.dur.length c s.dur :: DevA p s :: R) := by
  obtain ⟨F, hd, hlow, hf⟩ := S.one
  refine (durable_any (show Dev w p s F from hd)).mono ?_
  rintro e w' ⟨v, rfl, ho, d, c⟩
  obtain ⟨A, c', rfl⟩ := own_slice ho
  exact ⟨A, c', rfl, Sep.dev_row (Dev.lt hd) hf d c ho⟩
theorem flush_s (S : Sep w0 w (DevA p s :: R)) : Calls Try.prog 18 #[.pointer (some ⟨p, 0, none⟩)] w fun e w' => e = .returned (.int .i64 s.flush.1) ∧ Sep w0 w' (DevA p s.flush.2 :: R) := by
  obtain ⟨F, hd, hlow, hf⟩ := S.one
  refine (flush_any (show Dev w p s F from hd)).mono ?_
  rintro e w' ⟨rfl, d, c⟩
  exact ⟨rfl, Sep.dev_step hf d c⟩
theorem power_s (S : Sep w0 w (DevA p s :: R)) : Calls Try.prog 34 #[.pointer (some ⟨p, 0, none⟩)] w fun e w' => e = .returned (.bool (!s.off)) ∧ Sep w0 w' (DevA p s :: R) := by
  obtain ⟨F, hd, hlow, hf⟩ := S.one
  refine (power_any (show Dev w p s F from hd)).mono ?_
  rintro e w' ⟨rfl, d, c⟩
  exact ⟨rfl, Sep.dev_step hf d c⟩
theorem arm_s (S : Sep w0 w (DevA p s :: R)) (k : Int) (hk : k < 9223372036854775808) : Calls Try.prog 40 #[.pointer (some ⟨p, 0, none⟩), .int .i64 k] w fun e w' => e = .returned (.int .i64 (s.arm k).1) ∧ Sep w0 w' (DevA p (s.arm k).2 :: R) := by
  obtain ⟨F, hd, hlow, hf⟩ := S.one
  refine (arm_any (show Dev w p s F from hd) k hk).mono ?_
  rintro e w' ⟨rfl, d, c⟩
  exact ⟨rfl, Sep.dev_step hf d c⟩
theorem size_s (S : Sep w0 w (DevA p s :: R)) : Calls Try.prog 39 #[.pointer (some ⟨p, 0, none⟩)] w fun e w' => e = .returned (.int .i64 (s.n : Int)) ∧ w' = w := by
  obtain ⟨F, hd, hlow⟩ := S.hd
  obtain ⟨L, h⟩ := (show Dev w p s F from hd)
  exact size_in h
theorem crash_nil (S : Sep w0 w (DevA p s :: R)) : Calls Try.prog 28 #[.pointer (some ⟨p, 0, none⟩), .slice none 0 0] w fun e w' => e = .returned (.tuple #[]) ∧ Sep w0 w' (DevA p (s.crash []) :: R) := by
  obtain ⟨F, hd, hlow, hf⟩ := S.one
  refine (crash_any (show Dev w p s F from hd) none 0 [] ⟨rfl, by decide, fun h => absurd h (Nat.lt_irrefl 0)⟩ (fun a h => by cases h)).mono ?_
  rintro e w' ⟨rfl, d, c⟩
  exact ⟨rfl, Sep.dev_step hf d c⟩
/-- Kept as a list says that was there before. -/
theorem crash_old (S : Sep w0 w (DevA p s :: R)) (A : Option Addr) (c : Nat) (ks : List Bool) (hr : ReadsOf Value.bool false w A ks.length ks) (hA : ∀ a, A = some a → 0 < ks.length → a.block < w0.heap.size) : Calls Try.prog 28 #[.pointer (some ⟨p, 0, none⟩), .slice A ks.length c] w fun e w' => e = .returned (.tuple #[]) ∧ Sep w0 w' (DevA p (s.crash ks) :: R) := by
  obtain ⟨F, hd, hlow, hf⟩ := S.one
  refine (crash_any (show Dev w p s F from hd) A c ks hr (fun a e h hF => by have := hlow _ hF; have := hA a e h; omega)).mono ?_
  rintro e w' ⟨rfl, d, c⟩
  exact ⟨rfl, Sep.dev_step hf d c⟩
theorem crash_part {B : Asn} (S : Sep w0 w (DevA p s :: B :: R)) (A : Option Addr) (c : Nat) (ks : List Bool) (hB : ∀ G, B.H w G → ReadsOf Value.bool false w A ks.length ks ∧ ∀ a, A = some a → 0 < ks.length → G a.block) : Calls Try.prog 28 #[.pointer (some ⟨p, 0, none⟩), .slice A ks.length c] w fun e w' => e = .returned (.tuple #[]) ∧ Sep w0 w' (DevA p (s.crash ks) :: B :: R) := by
  obtain ⟨F, G, hd, hb, hne, _, hf⟩ := S.pair
  obtain ⟨hr, hA⟩ := hB G hb
  refine (crash_any (show Dev w p s F from hd) A c ks hr (fun a e h hF => hne _ (hA a e h) hF)).mono ?_
  rintro e w' ⟨rfl, d, c⟩
  exact ⟨rfl, Sep.dev_step hf d c⟩
end
/-! ### lists of writes that were handed out -/
def PendA (v : Value) (l : List (Int × List Int)) (qs : List (Int × List Int × Value)) : Asn where
  H w F := Pends w 0 v l qs ∧ (∀ k, v.ownBlock = some k → F k) ∧ (∀ x ∈ qs, ∀ k, x.2.2.ownBlock = some k → F k) ∧ ∀ k, F k → k < w.heap.size
  move := fun h hk => ⟨⟨h.1.is, own_move h.1.row fun k e => hk k (h.2.1 k e), fun x hx => own_move (h.1.data x hx) fun k e => hk k (h.2.2.1 x hx k e), h.1.apart⟩, h.2.1, h.2.2.1, fun k hf => lt_move (h.2.2.2 k hf) (hk k hf)⟩
  lt := fun h => h.2.2.2
section
variable {w0 w w' : World} {p : Nat} {s : DS} {R : List Asn}
theorem pends_base {w : World} {B : Nat} {v : Value} {l : List (Int × List Int)} {qs : List (Int × List Int × Value)} (h : Pends w B v l qs) : (PendA v l qs).H w (fun k => B ≤ k ∧ k < w.heap.size) :=
  ⟨⟨h.is, own_weaken h.row (Nat.zero_le _), fun x hx => own_weaken (h.data x hx) (Nat.zero_le _), h.apart⟩, fun k e => ⟨own_base h.row k e, own_lt h.row k e⟩, fun x hx k e => ⟨own_base (h.data x hx) k e, own_lt (h.data x hx) k e⟩, fun k hk => hk.2⟩
theorem pending_s (S : Sep w0 w (DevA p s :: R)) (hp : s.pend.length ≤ 1000000000000) : Calls Try.prog 27 #[.pointer (some ⟨p, 0, none⟩)] w fun e w' => ∃ A c qs, e = .returned (.slice A s.pend.length c) ∧ Sep w0 w' (PendA (.slice A s.pend.length c) s.pend qs :: DevA p s :: R) := by
  obtain ⟨F, hd, hlow, hf⟩ := S.one
  refine (pending_any (show Dev w p s F from hd) hp).mono ?_
  rintro e w' ⟨v, qs, rfl, hP, d, c⟩
  have hl : s.pend.length = qs.length := by rw [hP.is, List.length_map]
  have hrow := hP.row
  rw [← hl] at hrow
  obtain ⟨A, cp, rfl⟩ := own_slice hrow
  refine ⟨A, cp, qs, rfl, hf w' [PendA _ s.pend qs, DevA p s] (Star.two (A := PendA _ s.pend qs) (B := DevA p s) (G' := F) (pends_base hP) (fun k hk => .inr hk) d fun k hk => ⟨.inl hk, fun q => ?_⟩) c⟩
  have := Dev.lt hd k hk
  omega
/-- An element of such a list. -/
theorem Sep.pend_at {A : Option Addr} {n c : Nat} {l : List (Int × List Int)} {qs : List (Int × List Int × Value)} (S : Sep w0 w (PendA (.slice A n c) l qs :: R)) (hl : l.length = n) (i : Nat) (hi : i < n) :
    ∃ g x, A = some ⟨g, 0, none⟩ ∧ qs[i]? = some x ∧ l[i]? = some (x.1, x.2.1) ∧ w.cell? ⟨g, i * 2, none⟩ = some (.int .i64 x.1) ∧ w.cell? ⟨g, i * 2 + 1, none⟩ = some x.2.2 ∧ w.ownsRow w0.heap.size 5 1 x.2.2 x.2.1.length (nums .u8 x.2.1) := by
  obtain ⟨F, h, hs⟩ := S.hd
  have hP := h.1
  have hq : qs.length = n := by rw [← hl, hP.is, List.length_map]
  have hx : qs[i]? = some qs[i] := List.getElem?_eq_getElem (by omega)
  have hrow := hP.row
  rw [hq] at hrow
  obtain ⟨g, cap, e, _, _⟩ := hrow.form (by omega)
  cases e
  have c1 := hrow.cells (g := g) rfl _ _ (pcells_at hx).1
  have c2 := hrow.cells (g := g) rfl _ _ (pcells_at hx).2
  rw [add_plain] at c1 c2
  refine ⟨g, qs[i], rfl, hx, ?_, c1, c2, ?_⟩
  · rw [hP.is, List.getElem?_map, hx]; rfl
  · have hm := List.mem_of_getElem? hx
    exact own_up (hP.data _ hm) fun k e => hs k (h.2.2.1 _ hm k e)
end
/-! ### the laws' helpers -/
section
variable {w0 w w' : World} {R : List Asn}
theorem known_s (S : Sep w0 w R) : Calls Try.prog 12 #[] w fun e w' => e = .returned (.bool true) ∧ Sep w0 w' R :=
  (known_any w).mono fun e w' h => ⟨h.1, S.calm h.2⟩
theorem full_r (x : Int) (w : World) : Calls Try.prog 21 #[.int .u8 x] w fun e w' => ∃ v, e = .returned v ∧ w'.ownsRow w.heap.size 5 1 v 512 (nums .u8 (r x)) ∧ Below w.heap.size w w' := full_any x w
theorem bools_in {A : Option Addr} {ks : List Bool} (h : Kd.C Kd.bool w0 A ks.length ks) (hb : Below w0.heap.size w0 w) : ReadsOf Value.bool false w A ks.length ks ∧ ∀ a, A = some a → 0 < ks.length → a.block < w0.heap.size := by
  have h1 := Kd.reads_of_C (d := false) h
  refine ⟨⟨h1.1, h1.2.1, fun hn => ?_⟩, fun a e hn => ?_⟩
  · obtain ⟨ad, e, hr⟩ := h1.2.2 hn
    exact ⟨ad, e, fun j hj => pw_cell_below hb (hr j hj)⟩
  · obtain ⟨ad, e', hr⟩ := h1.2.2 hn
    have := World.block_lt_of_cell? _ _ (hr 0 hn)
    rw [Dev.add_block] at this
    rw [e] at e'
    cases e'
    exact this
theorem full_s (S : Sep w0 w R) (x : Int) : Calls Try.prog 21 #[.int .u8 x] w fun e w' => ∃ A c, e = .returned (.slice A 512 c) ∧ Sep w0 w' (Byt A 512 c (r x) :: R) := by
  refine (full_any x w).mono ?_
  rintro e w' ⟨v, rfl, hv, b⟩
  obtain ⟨A, c, rfl⟩ := own_slice hv
  exact ⟨A, c, rfl, S.row_new b hv⟩
theorem same_s (S : Sep w0 w R) (A B : Option Addr) (n m c1 c2 : Nat) (a b : List Int) (ha : ReadsInt w .u8 A n a) (hb : ReadsInt w .u8 B m b) (h1 : n ≤ c1) (h2 : m ≤ c2) (hn : n ≤ 140737488355328) :
    Calls Try.prog 23 #[.slice A n c1, .slice B m c2] w fun e w' => e = .returned (.bool (decide (a = b))) ∧ Sep w0 w' R :=
  (same_any w A B n m c1 c2 a b ha.1 hb.1 ha hb h1 h2 hn).mono fun e w' h => ⟨h.1, S.calm h.2⟩
theorem same_t (S : Sep w0 w R) (A B : Option Addr) (n m c1 c2 : Nat) (a b : List Int) (hab : a = b) (ha : ReadsInt w .u8 A n a) (hb : ReadsInt w .u8 B m b) (h1 : n ≤ c1) (h2 : m ≤ c2) (hn : n ≤ 140737488355328) :
    Calls Try.prog 23 #[.slice A n c1, .slice B m c2] w fun e w' => e = .returned (.bool true) ∧ Sep w0 w' R := by
  have h := same_s S A B n m c1 c2 a b ha hb h1 h2 hn
  rw [decide_eq_true hab] at h
  exact h
theorem zero_s (S : Sep w0 w R) (A : Option Addr) (n c : Nat) (l : List Int) (ha : ReadsInt w .u8 A n l) (h1 : n ≤ c) (hn : n ≤ 140737488355328) : Calls Try.prog 46 #[.slice A n c] w fun e w' => e = .returned (.bool (l.all (· == 0))) ∧ Sep w0 w' R :=
  (zero_any w A n c l ha.1 ha h1 hn).mono fun e w' h => ⟨h.1, S.calm h.2⟩
end
end Go.Proofs.Ythnbmfkmaijibaa.Sep
