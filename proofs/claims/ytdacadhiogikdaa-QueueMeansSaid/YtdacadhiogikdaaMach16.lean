/- The machine of the queue: its states as data, what it does, and the contracts of its functions. -/
import Derived.Test.YtdacadhiogikdaaLeaf
import Derived.Test.YtdacadhiogikdaaNums
import Derived.Laws.EntriesVeiled
import Derived.Deep.RegionWith
import Derived.StillTailTactics
namespace Go.Proofs.Ytdacadhiogikdaa
open Go.RowKit

/-- The word that a number is. -/
def u64 (x : Int) : Int := x % 18446744073709551616
def behindI (f k n : Int) : Int := (u64 f % n + k % n) % n
theorem u64_wrap (f : Int) : IntKind.u64.wrap f = u64 f := by
  unfold u64
  simp [IntKind.wrap, IntKind.bits, IntKind.signed]
theorem u64_bounds (f : Int) : 0 ≤ u64 f ∧ u64 f ≤ 18446744073709551615 := by unfold u64; omega
theorem behind_bounds (f k n : Int) (h1 : 1 ≤ n) : 0 ≤ behindI f k n ∧ behindI f k n < n :=
  ⟨Int.emod_nonneg _ (by omega), Int.emod_lt_of_pos _ (by omega)⟩
theorem behind_eq (f k n : Int) (h1 : 1 ≤ n) (h2 : n ≤ 16) : wrap64 ((IntKind.u64.wrap ((IntKind.u64.wrap f).tmod n + k % n)).tmod n) = behindI f k n := by
  have hf := u64_bounds f
  rw [u64_wrap, u64_wrap, Int.tmod_eq_emod_of_nonneg hf.1]
  have ha := Int.emod_nonneg (u64 f) (show n ≠ 0 by omega)
  have ha2 := Int.emod_lt_of_pos (u64 f) (show 0 < n by omega)
  have hb := Int.emod_nonneg k (show n ≠ 0 by omega)
  have hb2 := Int.emod_lt_of_pos k (show 0 < n by omega)
  have hs : u64 (u64 f % n + k % n) = u64 f % n + k % n := by unfold u64 at *; omega
  rw [hs, Int.tmod_eq_emod_of_nonneg (by omega)]
  have hc := Int.emod_nonneg (u64 f % n + k % n) (show n ≠ 0 by omega)
  have hc2 := Int.emod_lt_of_pos (u64 f % n + k % n) (show 0 < n by omega)
  unfold behindI
  unfold wrap64
  omega

/-- A call that only draws. -/
def Drew (v : Value) (w : World) (e : Ending) (w' : World) : Prop := e = .returned v ∧ ∃ q, w' = w.drewN q
theorem Drew.gives {v : Value} {w w' : World} {e : Ending} (h : Drew v w e w') : Gives v w e w' := by
  obtain ⟨h1, q, rfl⟩ := h
  exact ⟨h1, below_drewN w q⟩

set_option maxHeartbeats 1000000 in
theorem behind_calls (w : World) (f k n : Int) (h1 : 1 ≤ n) (h2 : n ≤ 16) (hk : 0 ≤ k) (hk2 : k ≤ 18446744073709551615) :
    Calls Try.prog 26 #[.int .i64 f, .int .u64 k, .int .i64 n] w (Drew (.int .i64 (behindI f k n)) w) := by
  have h3 : (n == 0) = false := by simp; omega
  have HE := Lib.hid (behind_eq f k n h1 h2)
  go_enter Try.func26, Try.ntmps26
  go_wp2
  go_quiet (fail)
  go_wp2
  go_ret
  exact ⟨by rw [← HE.out]; rfl, _, rfl⟩

set_option maxHeartbeats 1000000 in
theorem Behind_calls (w : World) (f k n : Int) (h1 : 1 ≤ n) (h2 : n ≤ 16) (hk : 0 ≤ k) (hk2 : k ≤ 18446744073709551615) :
    Calls Try.prog 27 #[.int .i64 f, .int .u64 k, .int .i64 n] w (Drew (.int .i64 (behindI f k n)) w) := by
  have h3 : (n == 0) = false := by simp; omega
  have HE := Lib.hid (behind_eq f k n h1 h2)
  go_enter Try.func27, Try.ntmps27
  go_wp2
  go_quiet (fail)
  go_wp2
  go_ret
  exact ⟨by rw [← HE.out]; rfl, _, rfl⟩

/-- The machine's own cells. -/
structure QS where
  base : Int
  most : Int
  call : Int
  v : Int
  f : Int
  l : Int
def QS.cells (m : QS) (nx : Value) : Array Value := #[.int .i64 m.base, .int .i64 m.most, .int .i64 m.call, .int .i64 m.v, nx, .int .i64 m.f, .int .i64 m.l]
def QRep (w : World) (p : Nat) (m : QS) (nx : Value) : Prop := w.heap[p]? = some (.cells (m.cells nx) 62 (0, 0))
/-- Within the bounds of New. -/
def QS.ok (m : QS) : Prop := 0 ≤ m.base ∧ m.base ≤ 1024 ∧ 0 ≤ m.most ∧ m.most ≤ 16

def fnV (n : Nat) : Value := .func (.func n) #[] #[]

/-- What a step leaves: its want; the machine's block, with what comes next. -/
def StepPost (p : Nat) (m : QS) (nx : Value) (x : WantS) (w : World) (e : Ending) (w' : World) : Prop := e = .returned x.val ∧ w.grownBy w' (some p) ∧ QRep w' p m nx

theorem box7 {w : World} {p : Nat} {m : QS} {nx : Value} (h : QRep w p m nx) :
    (w.cell? ⟨p, 0, none⟩ = some (.int .i64 m.base) ∧ w.cell? ⟨p, 1, none⟩ = some (.int .i64 m.most) ∧ w.cell? ⟨p, 2, none⟩ = some (.int .i64 m.call) ∧ w.cell? ⟨p, 3, none⟩ = some (.int .i64 m.v) ∧
      w.cell? ⟨p, 4, none⟩ = some nx ∧ w.cell? ⟨p, 5, none⟩ = some (.int .i64 m.f) ∧ w.cell? ⟨p, 6, none⟩ = some (.int .i64 m.l)) ∧
    (w.frozen? ⟨p, 3, none⟩ = false ∧ w.frozen? ⟨p, 4, none⟩ = false ∧ w.frozen? ⟨p, 5, none⟩ = false ∧ w.frozen? ⟨p, 6, none⟩ = false) ∧ p < w.heap.size := by
  unfold QRep QS.cells at h
  have hc := fun j => cell_of_row w p j _ _ _ h
  have hf := fun j => frozen_of_row w p j _ _ h
  refine ⟨⟨?_, ?_, ?_, ?_, ?_, ?_, ?_⟩, ⟨hf 3, hf 4, hf 5, hf 6⟩, (Array.getElem?_eq_some_iff.1 h).1⟩
  · simpa using hc 0
  · simpa using hc 1
  · simpa using hc 2
  · simpa using hc 3
  · simpa using hc 4
  · simpa using hc 5
  · simpa using hc 6

set_option maxHeartbeats 1000000 in
theorem read_calls (w : World) (p : Nat) (m : QS) (nx : Value) (cell : Int) (n : Nat) (h : QRep w p m nx) (hm : m.ok) (hc : 0 ≤ cell ∧ cell ≤ 100) :
    Calls Try.prog 32 #[.pointer (some ⟨p, 0, none⟩), .int .i64 cell, .func (.func n) #[] #[]] w (StepPost p m (fnV n) (readS (m.base + cell)) w) := by
  obtain ⟨⟨c0, c1, c2, c3, c4, c5, c6⟩, ⟨f3, f4, f5, f6⟩, hlt⟩ := box7 h
  have HP := Lib.hid h
  obtain ⟨base, most, call, v, f, l⟩ := m
  obtain ⟨hb0, hb1, hm0, hm1⟩ := hm
  obtain ⟨hc0, hc1⟩ := hc
  dsimp only at hb0 hb1 hm0 hm1 c0
  clear h
  go_enter Try.func32, Try.ntmps32
  go_wp2
  refine bodyPost_ret (results_cell_row rfl _ _ _ _ _ _ _ rfl (heap_new (by simp)) Try.underlying44 rfl infoWant) rfl ⟨rfl, grown_alloc (grown_set (grown_refl _ _) _) _, ?_⟩
  exact heap_old (heap_set HP.out)

-- STEPS
set_option maxHeartbeats 1000000 in
theorem write_calls (w : World) (p : Nat) (m : QS) (nx : Value) (cell v : Int) (n : Nat) (h : QRep w p m nx) (hm : m.ok) (hc : 0 ≤ cell ∧ cell ≤ 100) :
    Calls Try.prog 39 #[.pointer (some ⟨p, 0, none⟩), .int .i64 cell, .int .i64 v, .func (.func n) #[] #[]] w (StepPost p m (fnV n) (putS (m.base + cell) v) w) := by
  obtain ⟨⟨c0, c1, c2, c3, c4, c5, c6⟩, ⟨f3, f4, f5, f6⟩, hlt⟩ := box7 h
  have HP := Lib.hid h
  obtain ⟨base, most, call, v0, f, l⟩ := m
  obtain ⟨hb0, hb1, hm0, hm1⟩ := hm
  obtain ⟨hc0, hc1⟩ := hc
  dsimp only at hb0 hb1 hm0 hm1 c0
  clear h
  go_enter Try.func39, Try.ntmps39
  go_wp2
  refine bodyPost_ret (results_cell_row rfl _ _ _ _ _ _ _ rfl (heap_new (by simp)) Try.underlying44 rfl infoWant) rfl ⟨rfl, grown_alloc (grown_set (grown_refl _ _) _) _, ?_⟩
  exact heap_old (heap_set HP.out)

/-- What the end leaves: the want in a block of its own, which the closure that comes next has captured. -/
def DonePost (p : Nat) (m : QS) (x : WantS) (w : World) (e : Ending) (w' : World) : Prop :=
  e = .returned x.val ∧ w.grownBy w' (some p) ∧ ∃ c, w.heap.size ≤ c ∧ QRep w' p m (.func (.func 42) #[] #[.pointer (some ⟨c, 0, none⟩)]) ∧
    w'.heap[c]? = some (.cells #[.int .i64 x.kind, .int .i64 x.cell, .int .i64 x.value, .int .i64 x.code] 44 (0, 0))

set_option maxHeartbeats 1000000 in
theorem done_calls (w : World) (p : Nat) (m : QS) (nx : Value) (v code : Int) (h : QRep w p m nx) :
    Calls Try.prog 38 #[.pointer (some ⟨p, 0, none⟩), .int .i64 v, .int .i64 code] w (DonePost p m ⟨6, 0, v, code⟩ w) := by
  obtain ⟨⟨c0, c1, c2, c3, c4, c5, c6⟩, ⟨f3, f4, f5, f6⟩, hlt⟩ := box7 h
  have HP := Lib.hid h
  clear h
  go_enter Try.func38, Try.ntmps38
  go_wp2
  refine bodyPost_ret (results_cell_row rfl _ _ _ _ _ _ _ rfl (heap_old (heap_new (by simp))) Try.underlying44 rfl infoWant) rfl ⟨rfl, grown_alloc (grown_alloc (grown_set (grown_refl _ _) _) _) _, w.heap.size + 1, by omega, heap_old (heap_old (heap_set HP.out)), heap_new (by simp)⟩

theorem grown_trans {a b c : World} {r : Option Nat} (h : a.grownBy b r) (k : b.grownBy c r) : a.grownBy c r :=
  ⟨k.os.trans h.os, k.tape.trans h.tape, k.output.trans h.output, Nat.le_trans h.size k.size, fun q hq hne => (k.block q (Nat.lt_of_lt_of_le hq h.size) hne).trans (h.block q hq hne)⟩

theorem close4 {w w1 : World} {p g : Nat} {m : QS} {nx : Value} {x : WantS} {o : Obj} {a b c d : Value} (hlt : p < w.heap.size) (hg : g = w.heap.size) (h1 : (w.alloc o).grownBy w1 (some p)) (h2 : QRep w1 p m nx) {e : Ending} (he : e = .returned x.val) :
    StepPost p m nx x w e ((((w1.setCell ⟨g, 0, none⟩ a).setCell ⟨g, 1, none⟩ b).setCell ⟨g, 2, none⟩ c).setCell ⟨g, 3, none⟩ d) := by
  have hs := h1.size
  have hs' : w.heap.size + 1 ≤ w1.heap.size := by simpa using hs
  refine ⟨he, ⟨h1.os, h1.tape, h1.output, by simp; omega, fun k hk hne => ?_⟩, ?_⟩
  · have e : g ≠ k := by omega
    rw [Below.heap_setCell _ _ _ _ (by simpa using e.symm), Below.heap_setCell _ _ _ _ (by simpa using e.symm), Below.heap_setCell _ _ _ _ (by simpa using e.symm), Below.heap_setCell _ _ _ _ (by simpa using e.symm), h1.block k (by simp; omega) hne]
    exact Below.heap_alloc _ _ _ hk
  · exact heap_set_other (heap_set_other (heap_set_other (heap_set_other h2 (by simp; omega)) (by simp; omega)) (by simp; omega)) (by simp; omega)

set_option maxHeartbeats 1000000 in
theorem begin_calls (w : World) (p : Nat) (m : QS) (nx : Value) (v : Int) (h : QRep w p m nx) (hm : m.ok) :
    Calls Try.prog 29 #[.pointer (some ⟨p, 0, none⟩), .int .i64 v] w (StepPost p m (fnV 33) (readS m.base) w) := by
  obtain ⟨⟨c0, c1, c2, c3, c4, c5, c6⟩, ⟨f3, f4, f5, f6⟩, hlt⟩ := box7 h
  have HP := Lib.hid h
  have HM := Lib.hid hm
  obtain ⟨hb0, hb1, hm0, hm1⟩ := hm
  clear h
  go_enter Try.func29, Try.ntmps29
  go_wp2_with (go_at_call 32; refine (read_calls _ p m nx 0 33 (heap_old HP.out) HM.out (by omega)).mono ?_; rintro e w1 ⟨rfl, post1⟩; have hg1 := box_grown post1.1 (heap_new (n := w.heap.size) (by simp)) (by omega); obtain ⟨⟨d0, d1, d2, d3⟩, ⟨g0, g1, g2, g3⟩, hz⟩ := box4 hg1; simp only [WantS.val])
  exact bodyPost_ret (results_cell_row rfl _ _ _ _ _ _ _ rfl (heap_set (heap_set (heap_set (heap_set hg1)))) Try.underlying44 rfl infoWant) rfl (close4 hlt rfl post1.1 post1.2 rfl)

theorem qrep_drewN {w : World} {p : Nat} {m : QS} {nx : Value} {q : Nat} (h : QRep w p m nx) : QRep (w.drewN q) p m nx := h
theorem heap_new_drewN {w : World} {o : Obj} {n q : Nat} (h : n = w.heap.size) : ((w.alloc o).drewN q).heap[n]? = some o := heap_new h

theorem close4s {w w0 w1 : World} {p g : Nat} {m : QS} {nx : Value} {x : WantS} {o : Obj} {a b c d : Value} (h0 : w.grownBy w0 (some p)) (hlt : p < w0.heap.size) (hg : g = w0.heap.size) (h1 : (w0.alloc o).grownBy w1 (some p)) (h2 : QRep w1 p m nx) {e : Ending} (he : e = .returned x.val) :
    StepPost p m nx x w e ((((w1.setCell ⟨g, 0, none⟩ a).setCell ⟨g, 1, none⟩ b).setCell ⟨g, 2, none⟩ c).setCell ⟨g, 3, none⟩ d) := by
  obtain ⟨k1, k2, k3⟩ := close4 (a := a) (b := b) (c := c) (d := d) hlt hg h1 h2 he
  exact ⟨k1, grown_trans h0 k2, k3⟩

/-- What a done closure's owner leaves, seen from a step: the want is stored once more, in the step's own block. -/
theorem close4d {w w1 : World} {p g : Nat} {m : QS} {x : WantS} {o : Obj} {a b c d : Value} (hlt : p < w.heap.size) (hg : g = w.heap.size) {v1 : Value} (h1 : DonePost p m x (w.alloc o) (.returned v1) w1) {e : Ending} (he : e = .returned x.val) :
    DonePost p m x w e ((((w1.setCell ⟨g, 0, none⟩ a).setCell ⟨g, 1, none⟩ b).setCell ⟨g, 2, none⟩ c).setCell ⟨g, 3, none⟩ d) := by
  obtain ⟨-, h2, k, h3, h4, h5⟩ := h1
  obtain ⟨-, g1, g2⟩ := close4 (x := x) (a := a) (b := b) (c := c) (d := d) (e := .returned x.val) hlt hg h2 h4 rfl
  have hk : w.heap.size + 1 ≤ k := by simpa using h3
  exact ⟨he, g1, k, by omega, g2, heap_set_other (heap_set_other (heap_set_other (heap_set_other h5 (by simp; omega)) (by simp; omega)) (by simp; omega)) (by simp; omega)⟩

theorem close4ds {w w0 w1 : World} {p g : Nat} {m : QS} {x : WantS} {o : Obj} {a b c d : Value} (h0 : w.grownBy w0 (some p)) (hlt : p < w0.heap.size) (hg : g = w0.heap.size) {v1 : Value} (h1 : DonePost p m x (w0.alloc o) (.returned v1) w1) {e : Ending} (he : e = .returned x.val) :
    DonePost p m x w e ((((w1.setCell ⟨g, 0, none⟩ a).setCell ⟨g, 1, none⟩ b).setCell ⟨g, 2, none⟩ c).setCell ⟨g, 3, none⟩ d) := by
  obtain ⟨k1, k2, k, k3, k4⟩ := close4d (a := a) (b := b) (c := c) (d := d) hlt hg h1 he
  exact ⟨k1, grown_trans h0 k2, k, Nat.le_trans h0.size k3, k4⟩

theorem done1_calls (w : World) (c : Nat) (x : WantS) (u v : Value) (h : w.heap[c]? = some (.cells #[.int .i64 x.kind, .int .i64 x.cell, .int .i64 x.value, .int .i64 x.code] 44 (0, 0))) :
    Calls Try.prog 42 #[u, v, .pointer (some ⟨c, 0, none⟩)] w (Gives x.val w) := by
  obtain ⟨⟨c0, c1, c2, c3⟩, -, hlt⟩ := box4 h
  clear h
  go_enter Try.func42, Try.ntmps42
  go_wp2
  refine bodyPost_ret (results_cell_row rfl _ _ _ _ _ _ _ rfl (heap_new (by simp)) Try.underlying44 rfl infoWant) rfl ⟨rfl, below_alloc _ _⟩

set_option maxHeartbeats 1000000 in
theorem tookFirst_calls (w : World) (p : Nat) (m : QS) (nx : Value) (v : Int) (h : QRep w p m nx) (hm : m.ok) :
    Calls Try.prog 33 #[.pointer (some ⟨p, 0, none⟩), .int .i64 v] w (StepPost p { m with f := v } (fnV 37) (readS (m.base + 1)) w) := by
  obtain ⟨⟨c0, c1, c2, c3, c4, c5, c6⟩, ⟨f3, f4, f5, f6⟩, hlt⟩ := box7 h
  have HP := Lib.hid h
  have HM := Lib.hid hm
  obtain ⟨hb0, hb1, hm0, hm1⟩ := hm
  have HP2 : Hid (QRep (w.setCell ⟨p, 5, none⟩ (.int .i64 v)) p { m with f := v } nx) := heap_set HP.out
  have HM2 : Hid (QS.ok { m with f := v }) := HM.out
  clear h
  go_enter Try.func33, Try.ntmps33
  go_wp2_with (go_at_call 32; refine (read_calls _ p { m with f := v } nx 1 37 (heap_old HP2.out) HM2.out (by omega)).mono ?_; rintro e w1 ⟨rfl, post1⟩; have hg1 := box_grown post1.1 (heap_new (n := w.heap.size) (by simp)) (by omega); obtain ⟨⟨d0, d1, d2, d3⟩, ⟨g0, g1, g2, g3⟩, hz⟩ := box4 hg1; simp only [WantS.val])
  refine bodyPost_ret (results_cell_row rfl _ _ _ _ _ _ _ rfl (heap_set (heap_set (heap_set (heap_set hg1)))) Try.underlying44 rfl infoWant) rfl ?_
  exact close4s (grown_set (grown_refl _ _) _) (by simpa using hlt) (by simp) post1.1 post1.2 rfl

set_option maxHeartbeats 1000000 in
theorem laid_calls (w : World) (p : Nat) (m : QS) (nx : Value) (v : Int) (h : QRep w p m nx) (hm : m.ok) :
    Calls Try.prog 40 #[.pointer (some ⟨p, 0, none⟩), .int .i64 v] w (StepPost p m (fnV 43) (putS (m.base + 1) (wrap64 (m.l + 1))) w) := by
  obtain ⟨⟨c0, c1, c2, c3, c4, c5, c6⟩, ⟨f3, f4, f5, f6⟩, hlt⟩ := box7 h
  have HP := Lib.hid h
  have HM := Lib.hid hm
  obtain ⟨hb0, hb1, hm0, hm1⟩ := hm
  clear h
  go_enter Try.func40, Try.ntmps40
  go_wp2_with (go_at_call 39; refine (write_calls _ p m nx 1 _ 43 (heap_old HP.out) HM.out (by omega)).mono ?_; rintro e w1 ⟨rfl, post1⟩; have hg1 := box_grown post1.1 (heap_new (n := w.heap.size) (by simp)) (by omega); obtain ⟨⟨d0, d1, d2, d3⟩, ⟨g0, g1, g2, g3⟩, hz⟩ := box4 hg1; simp only [WantS.val])
  exact bodyPost_ret (results_cell_row rfl _ _ _ _ _ _ _ rfl (heap_set (heap_set (heap_set (heap_set hg1)))) Try.underlying44 rfl infoWant) rfl (close4 hlt rfl post1.1 post1.2 rfl)

set_option maxHeartbeats 1000000 in
theorem moved_calls (w : World) (p : Nat) (m : QS) (nx : Value) (v : Int) (h : QRep w p m nx) (hm : m.ok) :
    Calls Try.prog 44 #[.pointer (some ⟨p, 0, none⟩), .int .i64 v] w (StepPost p m (fnV 45) (putS (m.base + 1) (wrap64 (m.l - 1))) w) := by
  obtain ⟨⟨c0, c1, c2, c3, c4, c5, c6⟩, ⟨f3, f4, f5, f6⟩, hlt⟩ := box7 h
  have HP := Lib.hid h
  have HM := Lib.hid hm
  obtain ⟨hb0, hb1, hm0, hm1⟩ := hm
  clear h
  go_enter Try.func44, Try.ntmps44
  go_wp2_with (go_at_call 39; refine (write_calls _ p m nx 1 _ 45 (heap_old HP.out) HM.out (by omega)).mono ?_; rintro e w1 ⟨rfl, post1⟩; have hg1 := box_grown post1.1 (heap_new (n := w.heap.size) (by simp)) (by omega); obtain ⟨⟨d0, d1, d2, d3⟩, ⟨g0, g1, g2, g3⟩, hz⟩ := box4 hg1; simp only [WantS.val])
  exact bodyPost_ret (results_cell_row rfl _ _ _ _ _ _ _ rfl (heap_set (heap_set (heap_set (heap_set hg1)))) Try.underlying44 rfl infoWant) rfl (close4 hlt rfl post1.1 post1.2 rfl)

set_option maxHeartbeats 1000000 in
theorem laid1_calls (w : World) (p : Nat) (m : QS) (nx : Value) (v : Int) (h : QRep w p m nx) :
    Calls Try.prog 43 #[.pointer (some ⟨p, 0, none⟩), .int .i64 v] w (DonePost p m ⟨6, 0, 0, 0⟩ w) := by
  have hlt : p < w.heap.size := (Array.getElem?_eq_some_iff.1 h).1
  have HP := Lib.hid h
  clear h
  go_enter Try.func43, Try.ntmps43
  go_wp2_with fail
  refine (done_calls _ p m nx 0 0 (heap_old HP.out)).mono ?_
  rintro e w1 ⟨rfl, post1, post2⟩
  have hg1 := box_grown post1 (heap_new (n := w.heap.size) (by simp)) (by omega)
  obtain ⟨⟨d0, d1, d2, d3⟩, ⟨g0, g1, g2, g3⟩, hz⟩ := box4 hg1
  have hd : DonePost p m ⟨6, 0, 0, 0⟩ (w.alloc (.cells #[.int .i64 0, .int .i64 0, .int .i64 0, .int .i64 0] 44)) (.returned (⟨6, 0, 0, 0⟩ : WantS).val) w1 := ⟨rfl, post1, post2⟩
  have HD : Hid (DonePost p m ⟨6, 0, 0, 0⟩ (w.alloc (.cells #[.int .i64 0, .int .i64 0, .int .i64 0, .int .i64 0] 44)) (.returned (⟨6, 0, 0, 0⟩ : WantS).val) w1) := hd
  clear post1 post2 hd
  simp only [WantS.val]
  go_wp2
  exact bodyPost_ret (results_cell_row rfl _ _ _ _ _ _ _ rfl (heap_set (heap_set (heap_set (heap_set hg1)))) Try.underlying44 rfl infoWant) rfl (close4d hlt rfl HD.out rfl)

set_option maxHeartbeats 1000000 in
theorem moved1_calls (w : World) (p : Nat) (m : QS) (nx : Value) (v : Int) (h : QRep w p m nx) :
    Calls Try.prog 45 #[.pointer (some ⟨p, 0, none⟩), .int .i64 v] w (DonePost p m ⟨6, 0, m.v, 0⟩ w) := by
  obtain ⟨⟨c0, c1, c2, c3, c4, c5, c6⟩, ⟨f3, f4, f5, f6⟩, hlt⟩ := box7 h
  have HP := Lib.hid h
  clear h
  go_enter Try.func45, Try.ntmps45
  go_wp2_with fail
  refine (done_calls _ p m nx m.v 0 (heap_old HP.out)).mono ?_
  rintro e w1 ⟨rfl, post1, post2⟩
  have hg1 := box_grown post1 (heap_new (n := w.heap.size) (by simp)) (by omega)
  obtain ⟨⟨d0, d1, d2, d3⟩, ⟨g0, g1, g2, g3⟩, hz⟩ := box4 hg1
  have hd : DonePost p m ⟨6, 0, m.v, 0⟩ (w.alloc (.cells #[.int .i64 0, .int .i64 0, .int .i64 0, .int .i64 0] 44)) (.returned (⟨6, 0, m.v, 0⟩ : WantS).val) w1 := ⟨rfl, post1, post2⟩
  have HD : Hid (DonePost p m ⟨6, 0, m.v, 0⟩ (w.alloc (.cells #[.int .i64 0, .int .i64 0, .int .i64 0, .int .i64 0] 44)) (.returned (⟨6, 0, m.v, 0⟩ : WantS).val) w1) := hd
  clear post1 post2 hd
  simp only [WantS.val]
  go_wp2
  exact bodyPost_ret (results_cell_row rfl _ _ _ _ _ _ _ rfl (heap_set (heap_set (heap_set (heap_set hg1)))) Try.underlying44 rfl infoWant) rfl (close4d hlt rfl HD.out rfl)

set_option maxHeartbeats 2000000 in
theorem got_calls (w : World) (p : Nat) (m : QS) (nx : Value) (v : Int) (h : QRep w p m nx) (hm : m.ok) (h1 : 1 ≤ m.most) :
    Calls Try.prog 41 #[.pointer (some ⟨p, 0, none⟩), .int .i64 v] w (StepPost p { m with v := v } (fnV 44) (putS m.base (behindI m.f 1 m.most)) w) := by
  obtain ⟨⟨c0, c1, c2, c3, c4, c5, c6⟩, ⟨f3, f4, f5, f6⟩, hlt⟩ := box7 h
  have HP := Lib.hid h
  have HM := Lib.hid hm
  obtain ⟨hb0, hb1, hm0, hm1⟩ := hm
  have HP2 : Hid (QRep (w.setCell ⟨p, 3, none⟩ (.int .i64 v)) p { m with v := v } nx) := heap_set HP.out
  have HM2 : Hid (QS.ok { m with v := v }) := HM.out
  clear h
  go_enter Try.func41, Try.ntmps41
  go_wp2_with fail
  go_region_with (first | (go_at_call 26; refine (behind_calls _ _ _ _ h1 hm1 (by omega) (by omega)).mono ?_; rintro e w' ⟨rfl, q, rfl⟩) | (go_at_call 39; refine (write_calls _ p { m with v := v } nx 0 _ 44 (qrep_drewN (heap_old HP2.out)) HM2.out (by omega)).mono ?_; rintro e w1 ⟨rfl, post1⟩; have hg1 := box_grown post1.1 (heap_new_drewN (n := w.heap.size) (by simp)) (by omega); obtain ⟨⟨d0, d1, d2, d3⟩, ⟨g0, g1, g2, g3⟩, hz⟩ := box4 hg1; simp only [WantS.val]))
  all_goals
    go_wp2
    refine bodyPost_ret (results_cell_row rfl _ _ _ _ _ _ _ rfl (heap_set (heap_set (heap_set (heap_set hg1)))) Try.underlying44 rfl infoWant) rfl ?_
    exact close4s (grown_set (grown_refl _ _) _) (by simpa using hlt) (by simp) (grown_trans (grown_drewN (grown_refl _ _) _) post1.1) post1.2 rfl

set_option maxHeartbeats 2000000 in
theorem tookLength_len (w : World) (p : Nat) (m : QS) (nx : Value) (v : Int) (h : QRep w p m nx) (hm : m.ok) (hc : m.call = 5) :
    Calls Try.prog 37 #[.pointer (some ⟨p, 0, none⟩), .int .i64 v] w (DonePost p { m with l := v } ⟨6, 0, v, 0⟩ w) := by
  obtain ⟨⟨c0, c1, c2, c3, c4, c5, c6⟩, ⟨f3, f4, f5, f6⟩, hlt⟩ := box7 h
  have HP := Lib.hid h
  have HM := Lib.hid hm
  obtain ⟨hb0, hb1, hm0, hm1⟩ := hm
  have HP2 : Hid (QRep (w.setCell ⟨p, 6, none⟩ (.int .i64 v)) p { m with l := v } nx) := heap_set HP.out
  have HM2 : Hid (QS.ok { m with l := v }) := HM.out
  clear h
  rw [hc] at c2
  clear hc
  go_enter Try.func37, Try.ntmps37
  go_wp2_with fail
  refine (done_calls _ p { m with l := v } nx v 0 (heap_old HP2.out)).mono ?_
  rintro e w1 ⟨rfl, post1, post2⟩
  have hg1 := box_grown post1 (heap_new (n := w.heap.size) (by simp)) (by omega)
  obtain ⟨⟨d0, d1, d2, d3⟩, ⟨g0, g1, g2, g3⟩, hz⟩ := box4 hg1
  have hd : DonePost p { m with l := v } ⟨6, 0, v, 0⟩ ((w.setCell ⟨p, 6, none⟩ (.int .i64 v)).alloc (.cells #[.int .i64 0, .int .i64 0, .int .i64 0, .int .i64 0] 44)) (.returned (⟨6, 0, v, 0⟩ : WantS).val) w1 := ⟨rfl, post1, post2⟩
  have HD : Hid (DonePost p { m with l := v } ⟨6, 0, v, 0⟩ ((w.setCell ⟨p, 6, none⟩ (.int .i64 v)).alloc (.cells #[.int .i64 0, .int .i64 0, .int .i64 0, .int .i64 0] 44)) (.returned (⟨6, 0, v, 0⟩ : WantS).val) w1) := hd
  clear post1 post2 hd
  simp only [WantS.val]
  go_wp2
  exact bodyPost_ret (results_cell_row rfl _ _ _ _ _ _ _ rfl (heap_set (heap_set (heap_set (heap_set hg1)))) Try.underlying44 rfl infoWant) rfl (close4ds (grown_set (grown_refl _ _) _) (by simpa using hlt) (by simp) HD.out rfl)

set_option maxHeartbeats 2000000 in
theorem tookLength_full (w : World) (p : Nat) (m : QS) (nx : Value) (v : Int) (h : QRep w p m nx) (hm : m.ok) (hc : m.call = 3) (hf : m.most ≤ u64 v) :
    Calls Try.prog 37 #[.pointer (some ⟨p, 0, none⟩), .int .i64 v] w (DonePost p { m with l := v } ⟨6, 0, 0, 2⟩ w) := by
  obtain ⟨⟨c0, c1, c2, c3, c4, c5, c6⟩, ⟨f3, f4, f5, f6⟩, hlt⟩ := box7 h
  have HP := Lib.hid h
  have HM := Lib.hid hm
  obtain ⟨hb0, hb1, hm0, hm1⟩ := hm
  have HP2 : Hid (QRep (w.setCell ⟨p, 6, none⟩ (.int .i64 v)) p { m with l := v } nx) := heap_set HP.out
  have HM2 : Hid (QS.ok { m with l := v }) := HM.out
  clear h
  rw [hc] at c2
  rw [← u64_wrap] at hf
  clear hc
  go_enter Try.func37, Try.ntmps37
  go_wp2_with fail
  refine (done_calls _ p { m with l := v } nx 0 2 (heap_old HP2.out)).mono ?_
  rintro e w1 ⟨rfl, post1, post2⟩
  have hg1 := box_grown post1 (heap_new (n := w.heap.size) (by simp)) (by omega)
  obtain ⟨⟨d0, d1, d2, d3⟩, ⟨g0, g1, g2, g3⟩, hz⟩ := box4 hg1
  have hd : DonePost p { m with l := v } ⟨6, 0, 0, 2⟩ ((w.setCell ⟨p, 6, none⟩ (.int .i64 v)).alloc (.cells #[.int .i64 0, .int .i64 0, .int .i64 0, .int .i64 0] 44)) (.returned (⟨6, 0, 0, 2⟩ : WantS).val) w1 := ⟨rfl, post1, post2⟩
  have HD : Hid (DonePost p { m with l := v } ⟨6, 0, 0, 2⟩ ((w.setCell ⟨p, 6, none⟩ (.int .i64 v)).alloc (.cells #[.int .i64 0, .int .i64 0, .int .i64 0, .int .i64 0] 44)) (.returned (⟨6, 0, 0, 2⟩ : WantS).val) w1) := hd
  clear post1 post2 hd
  simp only [WantS.val]
  go_wp2
  exact bodyPost_ret (results_cell_row rfl _ _ _ _ _ _ _ rfl (heap_set (heap_set (heap_set (heap_set hg1)))) Try.underlying44 rfl infoWant) rfl (close4ds (grown_set (grown_refl _ _) _) (by simpa using hlt) (by simp) HD.out rfl)

set_option maxHeartbeats 2000000 in
theorem tookLength_put (w : World) (p : Nat) (m : QS) (nx : Value) (v : Int) (h : QRep w p m nx) (hm : m.ok) (hc : m.call = 3) (hf : u64 v < m.most) (h1 : 1 ≤ m.most) :
    Calls Try.prog 37 #[.pointer (some ⟨p, 0, none⟩), .int .i64 v] w (StepPost p { m with l := v } (fnV 40) (putS (m.base + (2 + behindI m.f (u64 v) m.most)) m.v) w) := by
  obtain ⟨⟨c0, c1, c2, c3, c4, c5, c6⟩, ⟨f3, f4, f5, f6⟩, hlt⟩ := box7 h
  have HP := Lib.hid h
  have HM := Lib.hid hm
  obtain ⟨hb0, hb1, hm0, hm1⟩ := hm
  have HP2 : Hid (QRep (w.setCell ⟨p, 6, none⟩ (.int .i64 v)) p { m with l := v } nx) := heap_set HP.out
  have HM2 : Hid (QS.ok { m with l := v }) := HM.out
  clear h
  rw [hc] at c2
  have hub := u64_bounds v
  have hbb := behind_bounds m.f (u64 v) m.most h1
  rw [← u64_wrap] at hf hub hbb
  rw [← u64_wrap]
  have hne : w.heap.size ≠ p := by omega
  have hcb : Hid (0 ≤ 2 + behindI m.f (IntKind.u64.wrap v) m.most ∧ 2 + behindI m.f (IntKind.u64.wrap v) m.most ≤ 100) := by constructor <;> omega
  have hwr : IntKind.i64.wrap (2 + behindI m.f (IntKind.u64.wrap v) m.most) = 2 + behindI m.f (IntKind.u64.wrap v) m.most := IntWalk.i64_in _ (by omega)
  clear hc hbb
  go_enter Try.func37, Try.ntmps37
  go_wp2_with fail
  go_region_with (first | (go_at_call 26; refine (behind_calls _ _ _ _ h1 hm1 hub.1 hub.2).mono ?_; rintro e w' ⟨rfl, q, rfl⟩) | (go_at_call 39; refine (write_calls _ p { m with l := v } nx _ _ 40 (qrep_drewN (heap_old HP2.out)) HM2.out hcb.out).mono ?_; rintro e w1 ⟨rfl, post1⟩; have hg1 := box_grown post1.1 (heap_new_drewN (n := w.heap.size) (by simp)) hne; obtain ⟨⟨d0, d1, d2, d3⟩, ⟨g0, g1, g2, g3⟩, hz⟩ := box4 hg1; simp only [WantS.val]))
  all_goals
    go_wp2
    refine bodyPost_ret (results_cell_row rfl _ _ _ _ _ _ _ rfl (heap_set (heap_set (heap_set (heap_set hg1)))) Try.underlying44 rfl infoWant) rfl ?_
    exact close4s (grown_set (grown_refl _ _) _) (by simpa using hlt) (by simp) (grown_trans (grown_drewN (grown_refl _ _) _) post1.1) post1.2 rfl

set_option maxHeartbeats 2000000 in
theorem tookLength_zero (w : World) (p : Nat) (m : QS) (nx : Value) (v : Int) (h : QRep w p m nx) (hm : m.ok) (hc5 : m.call ≠ 5) (hc3 : m.call ≠ 3) (hz : v = 0) :
    Calls Try.prog 37 #[.pointer (some ⟨p, 0, none⟩), .int .i64 v] w (DonePost p { m with l := v } ⟨6, 0, 0, 1⟩ w) := by
  obtain ⟨⟨c0, c1, c2, c3, c4, c5, c6⟩, ⟨f3, f4, f5, f6⟩, hlt⟩ := box7 h
  have HP := Lib.hid h
  have HM := Lib.hid hm
  obtain ⟨hb0, hb1, hm0, hm1⟩ := hm
  have HP2 : Hid (QRep (w.setCell ⟨p, 6, none⟩ (.int .i64 v)) p { m with l := v } nx) := heap_set HP.out
  have HM2 : Hid (QS.ok { m with l := v }) := HM.out
  clear h
  have h5 : (m.call == 5) = false := by simpa using hc5
  have h3 : (m.call == 3) = false := by simpa using hc3
  subst hz
  clear hc5 hc3
  go_enter Try.func37, Try.ntmps37
  go_wp2_with fail
  refine (done_calls _ p { m with l := 0 } nx 0 1 (heap_old HP2.out)).mono ?_
  rintro e w1 ⟨rfl, post1, post2⟩
  have hg1 := box_grown post1 (heap_new (n := w.heap.size) (by simp)) (by omega)
  obtain ⟨⟨d0, d1, d2, d3⟩, ⟨g0, g1, g2, g3⟩, hz⟩ := box4 hg1
  have hd : DonePost p { m with l := 0 } ⟨6, 0, 0, 1⟩ ((w.setCell ⟨p, 6, none⟩ (.int .i64 0)).alloc (.cells #[.int .i64 0, .int .i64 0, .int .i64 0, .int .i64 0] 44)) (.returned (⟨6, 0, 0, 1⟩ : WantS).val) w1 := ⟨rfl, post1, post2⟩
  have HD : Hid (DonePost p { m with l := 0 } ⟨6, 0, 0, 1⟩ ((w.setCell ⟨p, 6, none⟩ (.int .i64 0)).alloc (.cells #[.int .i64 0, .int .i64 0, .int .i64 0, .int .i64 0] 44)) (.returned (⟨6, 0, 0, 1⟩ : WantS).val) w1) := hd
  clear post1 post2 hd
  simp only [WantS.val]
  go_wp2
  exact bodyPost_ret (results_cell_row rfl _ _ _ _ _ _ _ rfl (heap_set (heap_set (heap_set (heap_set hg1)))) Try.underlying44 rfl infoWant) rfl (close4ds (grown_set (grown_refl _ _) _) (by simpa using hlt) (by simp) HD.out rfl)

set_option maxHeartbeats 2000000 in
theorem tookLength_none (w : World) (p : Nat) (m : QS) (nx : Value) (v : Int) (h : QRep w p m nx) (hm : m.ok) (hc5 : m.call ≠ 5) (hc3 : m.call ≠ 3) (hz : v ≠ 0) (hn : m.most = 0) :
    Calls Try.prog 37 #[.pointer (some ⟨p, 0, none⟩), .int .i64 v] w (DonePost p { m with l := v } ⟨6, 0, 0, 1⟩ w) := by
  obtain ⟨⟨c0, c1, c2, c3, c4, c5, c6⟩, ⟨f3, f4, f5, f6⟩, hlt⟩ := box7 h
  have HP := Lib.hid h
  have HM := Lib.hid hm
  obtain ⟨hb0, hb1, hm0, hm1⟩ := hm
  have HP2 : Hid (QRep (w.setCell ⟨p, 6, none⟩ (.int .i64 v)) p { m with l := v } nx) := heap_set HP.out
  have HM2 : Hid (QS.ok { m with l := v }) := HM.out
  clear h
  have h5 : (m.call == 5) = false := by simpa using hc5
  have h3 : (m.call == 3) = false := by simpa using hc3
  have hz' : (v == 0) = false := by simpa using hz
  rw [hn] at c1
  clear hc5 hc3 hz hn
  go_enter Try.func37, Try.ntmps37
  go_wp2_with fail
  refine (done_calls _ p { m with l := v } nx 0 1 (heap_old HP2.out)).mono ?_
  rintro e w1 ⟨rfl, post1, post2⟩
  have hg1 := box_grown post1 (heap_new (n := w.heap.size) (by simp)) (by omega)
  obtain ⟨⟨d0, d1, d2, d3⟩, ⟨g0, g1, g2, g3⟩, hz⟩ := box4 hg1
  have hd : DonePost p { m with l := v } ⟨6, 0, 0, 1⟩ ((w.setCell ⟨p, 6, none⟩ (.int .i64 v)).alloc (.cells #[.int .i64 0, .int .i64 0, .int .i64 0, .int .i64 0] 44)) (.returned (⟨6, 0, 0, 1⟩ : WantS).val) w1 := ⟨rfl, post1, post2⟩
  have HD : Hid (DonePost p { m with l := v } ⟨6, 0, 0, 1⟩ ((w.setCell ⟨p, 6, none⟩ (.int .i64 v)).alloc (.cells #[.int .i64 0, .int .i64 0, .int .i64 0, .int .i64 0] 44)) (.returned (⟨6, 0, 0, 1⟩ : WantS).val) w1) := hd
  clear post1 post2 hd
  simp only [WantS.val]
  go_wp2
  exact bodyPost_ret (results_cell_row rfl _ _ _ _ _ _ _ rfl (heap_set (heap_set (heap_set (heap_set hg1)))) Try.underlying44 rfl infoWant) rfl (close4ds (grown_set (grown_refl _ _) _) (by simpa using hlt) (by simp) HD.out rfl)

set_option maxHeartbeats 2000000 in
theorem tookLength_get (w : World) (p : Nat) (m : QS) (nx : Value) (v : Int) (h : QRep w p m nx) (hm : m.ok) (hc5 : m.call ≠ 5) (hc3 : m.call ≠ 3) (hz : v ≠ 0) (h1 : 1 ≤ m.most) :
    Calls Try.prog 37 #[.pointer (some ⟨p, 0, none⟩), .int .i64 v] w (StepPost p { m with l := v } (fnV 41) (readS (m.base + (2 + behindI m.f 0 m.most))) w) := by
  obtain ⟨⟨c0, c1, c2, c3, c4, c5, c6⟩, ⟨f3, f4, f5, f6⟩, hlt⟩ := box7 h
  have HP := Lib.hid h
  have HM := Lib.hid hm
  obtain ⟨hb0, hb1, hm0, hm1⟩ := hm
  have HP2 : Hid (QRep (w.setCell ⟨p, 6, none⟩ (.int .i64 v)) p { m with l := v } nx) := heap_set HP.out
  have HM2 : Hid (QS.ok { m with l := v }) := HM.out
  clear h
  have h5 : (m.call == 5) = false := by simpa using hc5
  have h3 : (m.call == 3) = false := by simpa using hc3
  have hz' : (v == 0) = false := by simpa using hz
  have hn' : (m.most == 0) = false := by simp; omega
  have hbb := behind_bounds m.f 0 m.most h1
  have hne : w.heap.size ≠ p := by omega
  have hcb : Hid (0 ≤ 2 + behindI m.f 0 m.most ∧ 2 + behindI m.f 0 m.most ≤ 100) := by constructor <;> omega
  have hwr : IntKind.i64.wrap (2 + behindI m.f 0 m.most) = 2 + behindI m.f 0 m.most := IntWalk.i64_in _ (by omega)
  clear hc5 hc3 hz hbb
  go_enter Try.func37, Try.ntmps37
  go_wp2_with fail
  go_region_with (first | (go_at_call 26; refine (behind_calls _ _ _ _ h1 hm1 (Int.le_refl 0) (by decide)).mono ?_; rintro e w' ⟨rfl, q, rfl⟩) | (go_at_call 32; refine (read_calls _ p { m with l := v } nx _ 41 (qrep_drewN (heap_old HP2.out)) HM2.out hcb.out).mono ?_; rintro e w1 ⟨rfl, post1⟩; have hg1 := box_grown post1.1 (heap_new_drewN (n := w.heap.size) (by simp)) hne; obtain ⟨⟨d0, d1, d2, d3⟩, ⟨g0, g1, g2, g3⟩, hz⟩ := box4 hg1; simp only [WantS.val]))
  all_goals
    go_wp2
    refine bodyPost_ret (results_cell_row rfl _ _ _ _ _ _ _ rfl (heap_set (heap_set (heap_set (heap_set hg1)))) Try.underlying44 rfl infoWant) rfl ?_
    exact close4s (grown_set (grown_refl _ _) _) (by simpa using hlt) (by simp) (grown_trans (grown_drewN (grown_refl _ _) _) post1.1) post1.2 rfl

end Go.Proofs.Ytdacadhiogikdaa
