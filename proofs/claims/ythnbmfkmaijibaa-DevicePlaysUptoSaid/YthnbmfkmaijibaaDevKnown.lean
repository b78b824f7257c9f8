/- `known`. -/
import Derived.Test.YthnbmfkmaijibaaDevHelp
import Derived.Deep.RegionHeld3
namespace Go.Proofs.Ythnbmfkmaijibaa.Help
open Go.Proofs Go.RowKit Go.Proofs.YthnbmfkmaijibaaW.PrintWords Go.Proofs.YthnbmfkmaijibaaW.PrintLast Go.Proofs.YthnbmfkmaijibaaW.PrintMore Go.Proofs.Ythnbmfkmaijibaa.IMap Go.Proofs.Ythnbmfkmaijibaa.Dev Go.Proofs.Ythnbmfkmaijibaa.PDeviceReads
set_option linter.unusedVariables false
set_option linter.unusedSimpArgs false
section
variable {w w' : World} {B n sz : Nat} {e : TypeId} {v : Value} {xs : List Value} {F : Nat → Prop}
theorem own_chg (h : w.ownsRow B e sz v n xs) (na : ∀ k, v.ownBlock = some k → ¬ F k) (hc : Chg F w w') : w'.ownsRow B e sz v n xs := own_move h fun k hk => hc.block k (own_lt h k hk) (na k hk)
theorem na_grow (h : w.ownsRow B e sz v n xs) (na : ∀ k, v.ownBlock = some k → ¬ F k) : ∀ k, v.ownBlock = some k → ¬ grow F w w' k := fun k hk hg => hg.elim (na k hk) fun q => by have := own_lt h k hk; omega
theorem na_new {p : Nat} {s : DS} (h : w'.ownsRow w.heap.size e sz v n xs) (d : Dev w p s F) : ∀ k, v.ownBlock = some k → ¬ F k := fun k hk hF => by have := own_base h k hk; have := d.lt k hF; omega
end
theorem reads_own {w : World} {B n : Nat} {A : Option Addr} {c : Nat} {l : List Int} (h : w.ownsRow B 5 1 (.slice A n c) n (nums .u8 l)) : ReadsInt w .u8 A n l := own_reads' h
theorem len_own {w : World} {B n : Nat} {v : Value} {l : List Int} (h : w.ownsRow B 5 1 v n (nums .u8 l)) : l.length = n := by
  have := h.1
  simpa [nums] using this
theorem blk_own {w : World} {B n c : Nat} {A : Option Addr} {xs : List Value} {e : TypeId} {sz : Nat} (h : w.ownsRow B e sz (.slice A n c) n xs) {F : Nat → Prop} (na : ∀ k, (Value.slice A n c).ownBlock = some k → ¬ F k) : ∀ a, A = some a → 0 < n → ¬ F a.block := fun a e _ => na a.block (by rw [e]; rfl)
theorem write_512 {w : World} {p : Nat} {s : DS} {F : Nat → Prop} (h : Dev w p s F) (b : Int) (A : Option Addr) (c : Nat) (l : List Int) (hl : l.length = 512) (hr : ReadsInt w .u8 A 512 l) (hA : ∀ a, A = some a → 0 < 512 → ¬ F a.block) (hp : s.pend.length ≤ 1000000000000) :
    Calls Try.prog 20 #[.pointer (some ⟨p, 0, none⟩), .int .i64 b, .slice A 512 c] w fun e w' => e = .returned (.int .i64 (s.write b l).1) ∧ Dev w' p (s.write b l).2 (grow F w w') ∧ Chg F w w' := by
  have := write_any h b A c l (by rw [hl]; exact hr) (by rw [hl]; exact hA) (by rw [hl]; decide) hp
  rw [hl] at this
  exact this
def K0 : DS := DS.made (List.replicate (512 * 2) 0)
def r (x : Int) : List Int := List.replicate 512 x
def K1 : DS := (K0.write 1 (r 7)).2
def K2 : DS := K1.flush.2
def K3 : DS := (K2.write 0 (r 9)).2
def K4 : DS := K3.crash []
theorem e1 : (K0.write 1 (r 7)).1 = 0 := by decide +kernel
theorem e2 : K1.read 1 = (r 7, 0) := by decide +kernel
theorem e3 : K1.dur.length = 1024 := by decide +kernel
theorem e3' : (K1.dur.all fun x => x == 0) = true := by decide +kernel
theorem e4 : K1.flush.1 = 0 := by decide +kernel
theorem e5 : K2.dur.length = 1024 := by decide +kernel
theorem e5' : K2.dur.drop 512 = r 7 := by decide +kernel
theorem e6 : (K2.write 0 (r 9)).1 = 0 := by decide +kernel
theorem e7 : K4.read 0 = (r 0, 0) := by decide +kernel
theorem e7' : ((r 0).all fun x => x == 0) = true := by decide +kernel
theorem e8 : K0.pend.length = 0 := rfl
theorem e9 : K2.pend.length = 0 := by decide +kernel
theorem er (x : Int) : (r x).length = 512 := List.length_replicate
/-- The device at p, all of its memory new since w0. -/
structure At (w0 w : World) (p : Nat) (s : DS) (F : Nat → Prop) : Prop where
  dev : Dev w p s F
  low : ∀ k, F k → w0.heap.size ≤ k
  bel : Below w0.heap.size w0 w
theorem At.step {w0 w w' : World} {p : Nat} {s s' : DS} {F : Nat → Prop} (h : At w0 w p s F) (d : Dev w' p s' F) (c : Chg F w w') : At w0 w' p s' F := ⟨d, h.low, h.bel.trans (c.below h.bel.size h.low)⟩
theorem At.grown {w0 w w' : World} {p : Nat} {s s' : DS} {F : Nat → Prop} (h : At w0 w p s F) (d : Dev w' p s' (grow F w w')) (c : Chg F w w') : At w0 w' p s' (grow F w w') :=
  ⟨d, fun k hk => hk.elim (h.low k) fun q => Nat.le_trans h.bel.size q.1, h.bel.trans (c.below h.bel.size h.low)⟩
theorem At.calm {w0 w w' : World} {p : Nat} {s : DS} {F : Nat → Prop} (h : At w0 w p s F) (b : Below w.heap.size w w') : At w0 w' p s F := ⟨h.dev.below b, h.low, below_call2 b h.bel⟩
theorem At.new {w0 w' : World} {p : Nat} {s : DS} (d : Dev w' p s (fun k => w0.heap.size ≤ k ∧ k < w'.heap.size)) (b : Below w0.heap.size w0 w') : At w0 w' p s (fun k => w0.heap.size ≤ k ∧ k < w'.heap.size) := ⟨d, fun _ h => h.1, b⟩
theorem same_yes (w : World) (A B : Option Addr) (n c1 c2 : Nat) (a : List Int) (hna : a.length = n) (ha : ReadsInt w .u8 A n a) (hb : ReadsInt w .u8 B n a) (h1 : n ≤ c1) (h2 : n ≤ c2) (hn : n ≤ 140737488355328) :
    Calls Try.prog 23 #[.slice A n c1, .slice B n c2] w fun e w' => e = .returned (.bool true) ∧ Below w.heap.size w w' := by
  have := same_any w A B n n c1 c2 a a hna hna ha hb h1 h2 hn
  rw [decide_eq_true rfl] at this
  exact this
theorem rkd {W : World} {A : Option Addr} {n : Nat} {l : List Int} (h : ReadsInt W .u8 A n l) : ReadsInt W.drew .u8 A n l := h
theorem bkd {w W : World} {B : Nat} (h : Below B w W) : Below B w W.drew := below_drew h
set_option maxHeartbeats 4000000 in
set_option maxRecDepth 100000 in
theorem known_any (w : World) : Calls Try.prog 12 #[] w fun e w' => e = .returned (.bool true) ∧ Below w.heap.size w w' := by
  go_enter Try.func12, Try.ntmps12
  go_wp2_with fail
  refine (new_any w 2 (by decide) (by decide)).mono ?_
  rintro e w1 ⟨p, rfl, D1, B1⟩
  have A1 : At w w1 p K0 _ := At.new D1 B1
  clear D1 B1
  generalize (fun k => w.heap.size ≤ k ∧ k < w1.heap.size) = F1 at A1
  go_wp2_with fail
  refine (full_any 7 w1).mono ?_
  rintro e w2 ⟨v, rfl, hv, hb⟩
  obtain ⟨A, c, rfl⟩ := own_slice hv
  have hna := na_new hv A1.dev
  have A2 := A1.calm hb
  clear A1 hb
  go_wp2_with fail
  have P3 := write_512 A2.dev 1 A c (r 7) (er 7) (reads_own hv) (blk_own hv hna) (by rw [e8]; decide)
  rw [e1] at P3
  refine P3.mono ?_
  clear P3
  rintro e w3 ⟨rfl, D3, C3⟩
  have A3 : At w w3 p K1 _ := A2.grown D3 C3
  clear A2 D3 C3 hv hna
  generalize grow F1 w2 w3 = F at A3
  go_wp2_with fail
  have P4 := read_any A3.dev 1
  rw [e2] at P4
  refine P4.mono ?_
  clear P4
  rintro e w4 ⟨va, rfl, ha, D4, C4⟩
  have na := na_new ha A3.dev
  have A4 := A3.step D4 C4
  clear A3 D4 C4
  simp only [er] at ha
  obtain ⟨Aa, ca, rfl⟩ := own_slice ha
  go_wp2_with fail
  refine (durable_any A4.dev).mono ?_
  rintro e w5 ⟨vb, rfl, hbf, D5, C5⟩
  have nbf := na_new hbf A4.dev
  have ha := own_chg ha na C5
  have A5 := A4.step D5 C5
  clear A4 D5 C5
  rw [e3] at hbf
  obtain ⟨Ab, cb, rfl⟩ := own_slice hbf
  go_wp2_with fail
  have P6 := flush_any A5.dev
  rw [e4] at P6
  refine P6.mono ?_
  clear P6
  rintro e w6 ⟨rfl, D6, C6⟩
  have ha := own_chg ha na C6
  have hbf := own_chg hbf nbf C6
  have A6 : At w w6 p K2 F := A5.step D6 C6
  clear A5 D6 C6
  go_wp2_with fail
  refine (durable_any A6.dev).mono ?_
  rintro e w7 ⟨vd, rfl, hbe, D7, C7⟩
  have nbe := na_new hbe A6.dev
  have ha := own_chg ha na C7
  have hbf := own_chg hbf nbf C7
  have A7 := A6.step D7 C7
  clear A6 D7 C7
  rw [e5] at hbe
  obtain ⟨Ad, cd, rfl⟩ := own_slice hbe
  go_wp2_with fail
  refine (full_any 9 w7).mono ?_
  rintro e w8 ⟨v, rfl, hv, hb⟩
  obtain ⟨A, c, rfl⟩ := own_slice hv
  have hna := na_new hv A7.dev
  have A8 := A7.calm hb
  have ha := pw_own_below ha hb
  have hbf := pw_own_below hbf hb
  have hbe := pw_own_below hbe hb
  clear A7 hb
  go_wp2_with fail
  have P9 := write_512 A8.dev 0 A c (r 9) (er 9) (reads_own hv) (blk_own hv hna) (by rw [e9]; decide)
  rw [e6] at P9
  refine P9.mono ?_
  clear P9
  rintro e w9 ⟨rfl, D9, C9⟩
  have A9 : At w w9 p K3 _ := A8.grown D9 C9
  have na' := na_grow (w' := w9) ha na
  have nbf' := na_grow (w' := w9) hbf nbf
  have nbe' := na_grow (w' := w9) hbe nbe
  have ha := own_chg ha na C9
  have hbf := own_chg hbf nbf C9
  have hbe := own_chg hbe nbe C9
  clear A8 D9 C9 hv hna na nbf nbe
  generalize grow F w8 w9 = F9 at A9 na' nbf' nbe'
  go_wp2_with fail
  refine (crash_any A9.dev none 0 [] ⟨rfl, by decide, fun h => absurd h (Nat.lt_irrefl 0)⟩ (fun a h => by cases h)).mono ?_
  rintro e w10 ⟨rfl, D10, C10⟩
  have ha := own_chg ha na' C10
  have hbf := own_chg hbf nbf' C10
  have hbe := own_chg hbe nbe' C10
  have A10 : At w w10 p K4 F9 := A9.step D10 C10
  clear A9 D10 C10
  go_wp2_with fail
  have P11 := read_any A10.dev 0
  rw [e7] at P11
  refine P11.mono ?_
  clear P11
  rintro e w11 ⟨vz, rfl, hz, D11, C11⟩
  have ha := own_chg ha na' C11
  have hbf := own_chg hbf nbf' C11
  have hbe := own_chg hbe nbe' C11
  have A11 := A10.step D11 C11
  have B11 := A11.bel
  clear A10 D11 C11 A11 na' nbf' nbe'
  simp only [er] at hz
  obtain ⟨Az, cz, rfl⟩ := own_slice hz
  go_wp2_with fail
  refine (zero_any w11 Az 512 cz (r 0) (er 0) (reads_own hz) (own_cap hz) (by decide)).mono ?_
  rintro e w12 ⟨rfl, b12⟩
  rw [e7']
  have ha := pw_own_below ha b12
  have hbf := pw_own_below hbf b12
  have hbe := pw_own_below hbe b12
  have B12 := below_call2 b12 B11
  clear b12 B11 hz
  go_wp2_with fail
  refine (zero_any w12 Ab 1024 cb K1.dur e3 (reads_own hbf) (own_cap hbf) (by decide)).mono ?_
  rintro e w13 ⟨rfl, b13⟩
  rw [e3']
  have ha := pw_own_below ha b13
  have hbe := pw_own_below hbe b13
  have B13 := below_call2 b13 B12
  clear b13 B12 hbf
  go_wp2_with (go_at_call 19; refine (num_any _ _).mono ?_; rintro e w' ⟨rfl, rfl⟩)
  obtain ⟨gd, cd', ed, _, _⟩ := hbe.form (by decide)
  cases ed
  have hcap : 1024 ≤ cd := own_cap hbe
  have hcne : ¬ cd = 512 := by omega
  have hca := own_cap ha
  have ra := reads_own ha
  have rd0 := (reads_own hbe).drop_ 512 (by decide) hcap
  rw [e5', if_neg hcne] at rd0
  have rd1 : ReadsInt w' .u8 (some ⟨gd, 512, none⟩) 512 (r 7) := rd0
  clear ha hbe rd0
  go_region_held3 (fun W => ReadsInt W .u8 Aa 512 (r 7) ∧ ReadsInt W .u8 (some ⟨gd, 512, none⟩) 512 (r 7) ∧ Below w.heap.size w W) (refine ⟨?_, ?_, ?_⟩ <;> (repeat (first | (with_reducible exact ra) | (with_reducible exact rd1) | (with_reducible exact B13) | (with_reducible refine rkd ?_) | (with_reducible refine bkd ?_) | (with_reducible refine ReadsInt.below ?_ (by assumption)) | (with_reducible refine below_call2 (by assumption) ?_))))
    (first | (go_at_call 21; refine (full_any _ _).mono ?_; rintro e w9 ⟨vq, rfl, hvq, hbq⟩; obtain ⟨Aq, cq, rfl⟩ := own_slice hvq) | (go_at_call 23; have hS : ReadsInt w9 .u8 Aa 512 (r 7) ∧ ReadsInt w9 .u8 (some ⟨gd, 512, none⟩) 512 (r 7) ∧ Below w.heap.size w w9 := (by assumption); (first | with_reducible refine (same_yes w9 Aa Aq 512 ca cq (r 7) (er 7) hS.1 (reads_own hvq) hca (own_cap hvq) (by decide)).mono ?_ | with_reducible refine (same_yes w9 (some ⟨gd, 512, none⟩) Aq 512 (cd - 512) cq (r 7) (er 7) hS.2.1 (reads_own hvq) (by omega) (own_cap hvq) (by decide)).mono ?_); clear hS; rintro e w10 ⟨rfl, hbq⟩))
  have hW : ReadsInt w10 .u8 Aa 512 (r 7) ∧ ReadsInt w10 .u8 (some ⟨gd, 512, none⟩) 512 (r 7) ∧ Below w.heap.size w w10 := by assumption
  have hB := hW.2.2
  clear hW hbq hvq ra rd1
  go_wp2
  go_ret
  exact ⟨rfl, hB⟩
end Go.Proofs.Ythnbmfkmaijibaa.Help
