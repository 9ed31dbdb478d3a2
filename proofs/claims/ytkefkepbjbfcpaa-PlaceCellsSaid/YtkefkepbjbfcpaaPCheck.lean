/- Which configurations may be: the contracts of both Checks. -/
import Derived.Test.YtkefkepbjbfcpaaPSize
import Derived.Deep.LoopGhost
namespace Go.Proofs.Ytkefkepbjbfcpaa
open Go.RowKit

/-- A slice of regions that reads as a list; its cells lie below block B. -/
def ReadsR (w : World) (B : Nat) (v : Value) (rs : List (Int × Int)) : Prop :=
  rs.length ≤ 8796093021952 ∧ ∃ (a : Option Addr) (c : Nat), v = .slice a rs.length c ∧ rs.length ≤ c ∧ c ≤ 9223372036854775807 ∧
    (rs = [] ∨ ∃ b off, a = some ⟨b, off, none⟩ ∧ b < B ∧ ∀ i, i < rs.length → w.cell? ⟨b, off + i * 2, none⟩ = some (.int .i64 (rs.getD i (0, 0)).1) ∧ w.cell? ⟨b, off + i * 2 + 1, none⟩ = some (.int .i64 (rs.getD i (0, 0)).2))
theorem ReadsR.below {w w' : World} {B : Nat} {v : Value} {rs : List (Int × Int)} (h : ReadsR w B v rs) (hb : Below B w w') : ReadsR w' B v rs := by
  obtain ⟨h1, a, c, rfl, hc, hm, h3⟩ := h
  refine ⟨h1, a, c, rfl, hc, hm, ?_⟩
  rcases h3 with h3 | ⟨b, off, rfl, hB, hcell⟩
  · exact .inl h3
  · exact .inr ⟨b, off, rfl, hB, fun i hi => ⟨(hb.cell (p := ⟨b, off + i * 2, none⟩) hB).trans (hcell i hi).1, (hb.cell (p := ⟨b, off + i * 2 + 1, none⟩) hB).trans (hcell i hi).2⟩⟩
theorem ReadsR.mono {w : World} {B B' : Nat} {v : Value} {rs : List (Int × Int)} (h : ReadsR w B v rs) (hb : B ≤ B') : ReadsR w B' v rs := by
  obtain ⟨h1, a, c, rfl, hc, hm, h3⟩ := h
  refine ⟨h1, a, c, rfl, hc, hm, ?_⟩
  rcases h3 with h3 | ⟨b, off, rfl, hB, hcell⟩
  · exact .inl h3
  · exact .inr ⟨b, off, rfl, by omega, hcell⟩

structure Cfg where
  raw : Int
  ring : Int
  writes : Int
  stamps : Int
  multi : Bool
  tries : Int
def Cfg.cells (c : Cfg) (rv : Value) : Array Value := #[.int .i64 c.raw, .int .i64 c.ring, .int .i64 c.writes, .int .i64 c.stamps, .bool c.multi, .int .i64 c.tries, rv]
def Cfg.val (c : Cfg) (rv : Value) : Value := .agg (c.cells rv)
def fieldsB (c : Cfg) (n : Nat) : Bool := decide (1 ≤ c.raw ∧ c.raw ≤ 64 ∧ 1 ≤ c.ring ∧ c.ring ≤ 16 ∧ 1 ≤ c.writes ∧ c.writes ≤ 24 ∧ 1 ≤ c.stamps ∧ c.stamps ≤ 1099511627776 ∧ 1 ≤ c.tries ∧ c.tries ≤ 255 ∧ n ≤ 8)
def regsB (rs : List (Int × Int)) : Bool := rs.all fun r => regB r.1 r.2
def checkE (c : Cfg) (rs : List (Int × Int)) : Int := if fieldsB c rs.length = true ∧ regsB rs = true then 0 else 13
theorem check_fields {c : Cfg} {rs : List (Int × Int)} (h : fieldsB c rs.length = false) : checkE c rs = 13 := by simp [checkE, h]
theorem check_reg {c : Cfg} {rs : List (Int × Int)} {k : Nat} (hk : k < rs.length) (h : regB (rs.getD k (0, 0)).1 (rs.getD k (0, 0)).2 = false) : checkE c rs = 13 := by
  have : regsB rs = false := by
    unfold regsB
    rw [List.all_eq_false]
    refine ⟨rs[k], List.getElem_mem hk, ?_⟩
    simpa [List.getD_eq_getElem?_getD, hk] using h
  simp [checkE, this]
theorem check_all {c : Cfg} {rs : List (Int × Int)} (h : fieldsB c rs.length = true) (hr : ∀ j, j < rs.length → regB (rs.getD j (0, 0)).1 (rs.getD j (0, 0)).2 = true) : checkE c rs = 0 := by
  have : regsB rs = true := by
    unfold regsB
    rw [List.all_eq_true]
    intro r hm
    obtain ⟨j, hj, rfl⟩ := List.getElem_of_mem hm
    simpa [List.getD_eq_getElem?_getD, hj] using hr j hj
  simp [checkE, this, h]

theorem sizeE_of {kind cap : Int} {b : Bool} (h : regB kind cap = b) : sizeE kind cap = if b = true then 0 else 13 := by subst h; rfl

/-- The seven cells of a configuration's block. -/
theorem box7 {w : World} {g : Nat} {a b c d e f h : Value} {t : TypeId} (hg : w.heap[g]? = some (.cells #[a, b, c, d, e, f, h] t (0, 0))) :
    w.cell? ⟨g, 0, none⟩ = some a ∧ w.cell? ⟨g, 1, none⟩ = some b ∧ w.cell? ⟨g, 2, none⟩ = some c ∧ w.cell? ⟨g, 3, none⟩ = some d ∧ w.cell? ⟨g, 4, none⟩ = some e ∧ w.cell? ⟨g, 5, none⟩ = some f ∧ w.cell? ⟨g, 6, none⟩ = some h := by
  have hc := fun j => cell_of_row w g j _ _ _ hg
  refine ⟨?_, ?_, ?_, ?_, ?_, ?_, ?_⟩
  · simpa using hc 0
  · simpa using hc 1
  · simpa using hc 2
  · simpa using hc 3
  · simpa using hc 4
  · simpa using hc 5
  · simpa using hc 6

set_option maxRecDepth 100000 in
set_option maxHeartbeats 4000000 in
theorem Check_fields (w : World) (B : Nat) (c : Cfg) (v : Value) (rs : List (Int × Int)) (hr : ReadsR w B v rs) (hf : fieldsB c rs.length = false) :
    Calls Try.prog 11 #[c.val v] w (Gives (.int .i64 13) w) := by
  obtain ⟨hl, a, cp, rfl, hcp, hcm, -⟩ := hr
  obtain ⟨raw, ring, writes, stamps, multi, tries⟩ := c
  have hf' := of_decide_eq_false hf
  dsimp only at hf'
  unfold Cfg.val Cfg.cells
  dsimp only
  clear hf
  rcases (show (raw < 1 ∨ 64 < raw) ∨ (1 ≤ raw ∧ raw ≤ 64) from by omega) with h1 | ⟨h1, h1'⟩
  · have g1 := within_f h1
    clear hf' h1
    go_enter Try.func11, Try.ntmps11
    go_wp2_with (first | (go_at_call 21; refine (within_calls _ _ _ _).mono ?_; rintro e w' ⟨rfl, rfl⟩) | (go_at_call 27; refine (within64_calls _ _ _ _).mono ?_; rintro e w' ⟨rfl, rfl⟩))
    go_ret
    exact ⟨rfl, below_alloc _ _⟩
  have g1 := within_t h1 h1'
  rcases (show (ring < 1 ∨ 16 < ring) ∨ (1 ≤ ring ∧ ring ≤ 16) from by omega) with h2 | ⟨h2, h2'⟩
  · have g2 := within_f h2
    clear hf' h2
    go_enter Try.func11, Try.ntmps11
    go_wp2_with (first | (go_at_call 21; refine (within_calls _ _ _ _).mono ?_; rintro e w' ⟨rfl, rfl⟩) | (go_at_call 27; refine (within64_calls _ _ _ _).mono ?_; rintro e w' ⟨rfl, rfl⟩))
    go_ret
    exact ⟨rfl, below_alloc _ _⟩
  have g2 := within_t h2 h2'
  rcases (show (writes < 1 ∨ 24 < writes) ∨ (1 ≤ writes ∧ writes ≤ 24) from by omega) with h3 | ⟨h3, h3'⟩
  · have g3 := within_f h3
    clear hf' h3
    go_enter Try.func11, Try.ntmps11
    go_wp2_with (first | (go_at_call 21; refine (within_calls _ _ _ _).mono ?_; rintro e w' ⟨rfl, rfl⟩) | (go_at_call 27; refine (within64_calls _ _ _ _).mono ?_; rintro e w' ⟨rfl, rfl⟩))
    go_ret
    exact ⟨rfl, below_alloc _ _⟩
  have g3 := within_t h3 h3'
  rcases (show (stamps < 1 ∨ 1099511627776 < stamps) ∨ (1 ≤ stamps ∧ stamps ≤ 1099511627776) from by omega) with h4 | ⟨h4, h4'⟩
  · have g4 := within_f h4
    clear hf' h4
    go_enter Try.func11, Try.ntmps11
    go_wp2_with (first | (go_at_call 21; refine (within_calls _ _ _ _).mono ?_; rintro e w' ⟨rfl, rfl⟩) | (go_at_call 27; refine (within64_calls _ _ _ _).mono ?_; rintro e w' ⟨rfl, rfl⟩))
    go_ret
    exact ⟨rfl, below_alloc _ _⟩
  have g4 := within_t h4 h4'
  rcases (show (tries < 1 ∨ 255 < tries) ∨ (1 ≤ tries ∧ tries ≤ 255) from by omega) with h5 | ⟨h5, h5'⟩
  · have g5 := within_f h5
    clear hf' h5
    go_enter Try.func11, Try.ntmps11
    go_wp2_with (first | (go_at_call 21; refine (within_calls _ _ _ _).mono ?_; rintro e w' ⟨rfl, rfl⟩) | (go_at_call 27; refine (within64_calls _ _ _ _).mono ?_; rintro e w' ⟨rfl, rfl⟩))
    go_ret
    exact ⟨rfl, below_alloc _ _⟩
  have g5 := within_t h5 h5'
  have h6 : (8 : Int) < (rs.length : Int) := by omega
  clear hf'
  go_enter Try.func11, Try.ntmps11
  go_wp2_with (first | (go_at_call 21; refine (within_calls _ _ _ _).mono ?_; rintro e w' ⟨rfl, rfl⟩) | (go_at_call 27; refine (within64_calls _ _ _ _).mono ?_; rintro e w' ⟨rfl, rfl⟩))
  go_ret
  exact ⟨rfl, below_alloc _ _⟩

set_option maxRecDepth 100000 in
set_option maxHeartbeats 4000000 in
theorem Check_loop (w : World) (B : Nat) (c : Cfg) (v : Value) (rs : List (Int × Int)) (hr : ReadsR w B v rs) (hB : B ≤ w.heap.size) (hf : fieldsB c rs.length = true) :
    Calls Try.prog 11 #[c.val v] w (Gives (.int .i64 (checkE c rs)) w) := by
  obtain ⟨hl, a, cp, rfl, hcp, hcm, hr⟩ := hr
  have HALL := Lib.hid (check_all hf)
  have HREG := Lib.hid (fun k hk h => check_reg (c := c) (rs := rs) (k := k) hk h)
  generalize checkE c rs = E at *
  obtain ⟨raw, ring, writes, stamps, multi, tries⟩ := c
  obtain ⟨h1, h1', h2, h2', h3, h3', h4, h4', h5, h5', h6⟩ := of_decide_eq_true hf
  dsimp only at h1 h1' h2 h2' h3 h3' h4 h4' h5 h5'
  have g1 := within_t h1 h1'
  have g2 := within_t h2 h2'
  have g3 := within_t h3 h3'
  have g4 := within_t h4 h4'
  have g5 := within_t h5 h5'
  have h6' : (rs.length : Int) ≤ 8 := by omega
  have HR := Lib.hid hr
  unfold Cfg.val Cfg.cells
  dsimp only
  clear hf hr
  go_enter Try.func11, Try.ntmps11
  go_wp2_with (first | (go_at_call 21; refine (within_calls _ _ _ _).mono ?_; rintro e w' ⟨rfl, rfl⟩) | (go_at_call 27; refine (within64_calls _ _ _ _).mono ?_; rintro e w' ⟨rfl, rfl⟩))
  go_loopg [44] (rs.length + 1) (fun n v44 wr => ∃ (k : Nat), k ≤ rs.length ∧ v44 = .int .i64 k ∧ n + k = rs.length + 1 ∧ (∀ j, j < k → regB (rs.getD j (0, 0)).1 (rs.getD j (0, 0)).2 = true) ∧ Below w.heap.size w wr)
  case atStart => exact ⟨0, Nat.zero_le _, rfl, rfl, fun j hj => by omega, below_alloc _ _⟩
  case round =>
    obtain ⟨k, hk, rfl, hn, hall, bel⟩ := hrel
    have HN := Lib.hid hn
    have HA := Lib.hid hall
    clear hn hall
    by_cases hlt : k < rs.length
    · rcases HR.out with h | ⟨b, off, rfl, hbB, hcell⟩
      · exact absurd hlt (by rw [h]; simp)
      have hc0 := (bel.cell (p := ⟨b, off + k * 2, none⟩) (by simp; omega)).trans (hcell k hlt).1
      have hc1 := (bel.cell (p := ⟨b, off + k * 2 + 1, none⟩) (by simp; omega)).trans (hcell k hlt).2
      have hreg := HREG.out k hlt
      have HA' : Hid (regB (rs.getD k (0, 0)).1 (rs.getD k (0, 0)).2 = true → ∀ j, j < k + 1 → regB (rs.getD j (0, 0)).1 (rs.getD j (0, 0)).2 = true) := fun h j hj => by
        by_cases e : j = k
        · subst e; exact h
        · exact HA.out j (by omega)
      generalize (rs.getD k (0, 0)).1 = kind at *
      generalize (rs.getD k (0, 0)).2 = cap at *
      have hbs : b < wr.heap.size := by have := bel.size; omega
      have hlt' : (k : Int) < (rs.length : Int) := by omega
      clear hcell
      by_cases hb : regB kind cap = true
      · have he := sizeE_of hb
        rw [if_pos rfl] at he
        clear hreg
        have HB := Lib.hid hb
        have HE := Lib.hid he
        clear hb he
        go_wp2_with fail
        refine (Size_calls kind cap _).mono ?_
        rintro e w1 ⟨rfl, hb1⟩
        simp only [sizeV, HE.out]
        go_wp2
        go_roundg (rs.length - k)
        case measure => have := HN.out; omega
        case rel => exact ⟨k + 1, by omega, by go_num, by omega, HA'.out HB.out, bel.trans ((below_trans (below_alloc _ _) hb1).mono bel.size)⟩
      · have hb' : regB kind cap = false := by simpa using hb
        have he := sizeE_of hb'
        rw [if_neg (by decide)] at he
        have HE := Lib.hid he
        have HF := Lib.hid (hreg hb')
        clear hb hb' he hreg
        go_wp2_with fail
        refine (Size_calls kind cap _).mono ?_
        rintro e w1 ⟨rfl, hb1⟩
        simp only [sizeV, HE.out]
        go_wp2
        go_ret
        exact ⟨by rw [HF.out]; rfl, bel.trans ((below_trans (below_alloc _ _) hb1).mono bel.size)⟩
    · have HF := Lib.hid (HALL.out (fun j hj => HA.out j (by omega)))
      have hk' : k = rs.length := by omega
      subst hk'
      go_wp2
      go_ret
      exact ⟨by rw [HF.out]; rfl, bel⟩

theorem Check_calls (w : World) (B : Nat) (c : Cfg) (v : Value) (rs : List (Int × Int)) (hr : ReadsR w B v rs) (hB : B ≤ w.heap.size) :
    Calls Try.prog 11 #[c.val v] w (Gives (.int .i64 (checkE c rs)) w) := by
  by_cases hf : fieldsB c rs.length = true
  · exact Check_loop w B c v rs hr hB hf
  · rw [check_fields (by simpa using hf)]
    exact Check_fields w B c v rs hr (by simpa using hf)

end Go.Proofs.Ytkefkepbjbfcpaa
