/- Where regions begin: the contracts of ahead, Cells and Base, and of the reference's. -/
import Derived.Test.YtkefkepbjbfcpaaPRefCheck
namespace Go.Proofs.Ytkefkepbjbfcpaa
open Go.RowKit

def sumSz (rs : List (Int × Int)) (k : Nat) : Int := ((rs.take k).map fun r => sizeN r.1 r.2).sum
theorem sum_snoc (rs : List (Int × Int)) (k : Nat) (h : k < rs.length) : sumSz rs (k + 1) = sumSz rs k + sizeN (rs.getD k (0, 0)).1 (rs.getD k (0, 0)).2 := by
  unfold sumSz
  rw [List.take_succ_eq_append_getElem h, List.map_append, List.sum_append]
  simp [List.getD_eq_getElem?_getD, h]
theorem sum_bd (rs : List (Int × Int)) (k : Nat) (h : k ≤ rs.length) : 0 ≤ sumSz rs k ∧ sumSz rs k ≤ 49 * k := by
  induction k with
  | zero => simp [sumSz]
  | succ k ih =>
    have h1 := ih (by omega)
    have h2 := size_bd (rs.getD k (0, 0)).1 (rs.getD k (0, 0)).2
    rw [sum_snoc rs k (by omega)]
    omega

set_option maxRecDepth 100000 in
set_option maxHeartbeats 2000000 in
theorem ahead_calls (w : World) (B : Nat) (c : Cfg) (v : Value) (rs : List (Int × Int)) (r : Nat) (hr : ReadsR w B v rs) (hB : B ≤ w.heap.size) (hn : rs.length ≤ 8) (hrn : r ≤ rs.length) (h0 : 1 ≤ c.raw) (h1 : c.raw ≤ 64) :
    Calls Try.prog 28 #[c.val v, .int .i64 (r : Int)] w (Gives (.int .i64 (c.raw + sumSz rs r)) w) := by
  obtain ⟨hl, a, cp, rfl, hcp, hcm, hr⟩ := hr
  obtain ⟨raw, ring, writes, stamps, multi, tries⟩ := c
  dsimp only at h0 h1
  have HR := Lib.hid hr
  unfold Cfg.val Cfg.cells
  dsimp only
  have hrc : (r : Int) ≤ (cp : Int) := by omega
  have hr0 : (0 : Int) ≤ (r : Int) := by omega
  clear hr
  go_enter Try.func28, Try.ntmps28
  go_wp2
  have hs0 : sumSz rs 0 = 0 := rfl
  go_loopg [5, 17] (r + 1) (fun n vs vk wr => ∃ (k : Nat), k ≤ r ∧ vk = .int .i64 k ∧ vs = .int .i64 (raw + sumSz rs k) ∧ n + k = r + 1 ∧ Below w.heap.size w wr)
  case atStart => exact ⟨0, Nat.zero_le _, rfl, by rw [hs0, Int.add_zero], rfl, below_alloc _ _⟩
  case round =>
    clear hs0
    obtain ⟨k, hk, rfl, rfl, hn', bel⟩ := hrel
    have HN := Lib.hid hn'
    have hsb := sum_bd rs k (by omega)
    clear hn'
    by_cases hlt : k < r
    · rcases HR.out with h | ⟨b, off, rfl, hbB, hcell⟩
      · exact absurd (Nat.lt_of_lt_of_le hlt hrn) (by rw [h]; simp)
      have hc0 := (bel.cell (p := ⟨b, off + k * 2, none⟩) (by simp; omega)).trans (hcell k (by omega)).1
      have hc1 := (bel.cell (p := ⟨b, off + k * 2 + 1, none⟩) (by simp; omega)).trans (hcell k (by omega)).2
      have hsn := sum_snoc rs k (by omega)
      generalize (rs.getD k (0, 0)).1 = kind at *
      generalize (rs.getD k (0, 0)).2 = cap at *
      have hz := size_bd kind cap
      have hbs : b < wr.heap.size := by have := bel.size; omega
      have hlt' : (k : Int) < (r : Int) := by omega
      have HS := Lib.hid hsn
      clear hcell hsn
      generalize hS : sumSz rs k = S at *
      have HSS := Lib.hid hS
      clear hS
      go_wp2_with fail
      refine (Size_calls kind cap _).mono ?_
      rintro e w1 ⟨rfl, hb1⟩
      simp only [sizeV]
      generalize hZ : sizeN kind cap = Z at *
      have HZ := Lib.hid hZ
      clear hZ
      go_wp2
      go_roundg (r - k)
      case measure => have := HN.out; omega
      case rel => exact ⟨k + 1, by omega, by go_num, by rw [HS.out, ← Int.add_assoc], by omega, bel.trans ((below_trans (below_alloc _ _) hb1).mono bel.size)⟩
    · have hk' : k = r := by omega
      subst hk'
      go_wp2
      go_ret
      exact ⟨rfl, bel⟩

def cellsV (c : Cfg) (rs : List (Int × Int)) : Value := .tuple #[.int .i64 (if checkE c rs = 0 then c.raw + sumSz rs rs.length else 0), .int .i64 (checkE c rs)]
def baseV (c : Cfg) (rs : List (Int × Int)) (r : Int) : Value :=
  if checkE c rs = 0 then (if r < 0 ∨ rs.length ≤ r then .tuple #[.int .i64 0, .int .i64 1] else .tuple #[.int .i64 (c.raw + sumSz rs r.toNat), .int .i64 0]) else .tuple #[.int .i64 0, .int .i64 (checkE c rs)]

theorem check_ok {c : Cfg} {rs : List (Int × Int)} (h : checkE c rs = 0) : fieldsB c rs.length = true := by
  unfold checkE at h
  split at h
  · rename_i h1; exact h1.1
  · omega

set_option maxRecDepth 100000 in
set_option maxHeartbeats 2000000 in
theorem Cells_calls (w : World) (B : Nat) (c : Cfg) (v : Value) (rs : List (Int × Int)) (hr : ReadsR w B v rs) (hB : B ≤ w.heap.size) :
    Calls Try.prog 13 #[c.val v] w (Gives (cellsV c rs) w) := by
  have HR := Lib.hid hr
  obtain ⟨hl, a, cp, rfl, hcp, hcm, -⟩ := hr
  by_cases hE : checkE c rs = 0
  · obtain ⟨f0, f1, -, -, -, -, -, -, -, -, f2⟩ := of_decide_eq_true (check_ok hE)
    have e : cellsV c rs = .tuple #[.int .i64 (c.raw + sumSz rs rs.length), .int .i64 0] := by unfold cellsV; rw [if_pos hE, hE]
    rw [e]
    have HC := Lib.hid (fun w B v h1 h2 => Check_calls w B c v rs h1 h2)
    have HE := Lib.hid hE
    have HH := Lib.hid (fun w B v h1 h2 => ahead_calls w B c v rs rs.length h1 h2 f2 (Nat.le_refl _) f0 f1)
    unfold Cfg.val Cfg.cells at *
    clear e hE
    go_enter Try.func13, Try.ntmps13
    go_wp2_with fail
    refine (HC.out _ B _ (HR.out.below ((below_alloc _ _).mono hB)) (by simp; omega)).mono ?_
    rintro e w1 ⟨rfl, hb1⟩
    rw [HE.out]
    have hc := box_keep hb1 (heap_new (w := w) rfl)
    obtain ⟨q0, q1, q2, q3, q4, q5, q6⟩ := box7 hc
    have hb01 := below_trans (below_alloc _ _) hb1
    clear hc
    go_wp2_with fail
    refine (HH.out _ B _ (HR.out.below (hb01.mono hB)) (Nat.le_trans hB hb01.size)).mono ?_
    rintro e w2 ⟨rfl, hb2⟩
    go_wp2
    go_ret2
    exact ⟨rfl, hb01.trans (hb2.mono hb01.size)⟩
  · have e : cellsV c rs = .tuple #[.int .i64 0, .int .i64 (checkE c rs)] := by unfold cellsV; rw [if_neg hE]
    rw [e]
    have HC := Lib.hid (fun w B v h1 h2 => Check_calls w B c v rs h1 h2)
    unfold Cfg.val Cfg.cells at *
    have hE' : (checkE c rs != 0) = true := by simpa using hE
    clear e hE
    go_enter Try.func13, Try.ntmps13
    go_wp2_with fail
    refine (HC.out _ B _ (HR.out.below ((below_alloc _ _).mono hB)) (by simp; omega)).mono ?_
    rintro e w1 ⟨rfl, hb1⟩
    go_wp2
    go_ret2
    exact ⟨rfl, below_trans (below_alloc _ _) hb1⟩

set_option maxRecDepth 100000 in
set_option maxHeartbeats 2000000 in
theorem Base_calls (w : World) (B : Nat) (c : Cfg) (v : Value) (rs : List (Int × Int)) (r : Int) (hr : ReadsR w B v rs) (hB : B ≤ w.heap.size) :
    Calls Try.prog 15 #[c.val v, .int .i64 r] w (Gives (baseV c rs r) w) := by
  have HR := Lib.hid hr
  obtain ⟨hl, a, cp, rfl, hcp, hcm, -⟩ := hr
  by_cases hE : checkE c rs = 0
  · obtain ⟨f0, f1, -, -, -, -, -, -, -, -, f2⟩ := of_decide_eq_true (check_ok hE)
    have HC := Lib.hid (fun w B v h1 h2 => Check_calls w B c v rs h1 h2)
    have HE := Lib.hid hE
    rcases (show (r < 0 ∨ (0 ≤ r ∧ rs.length ≤ r)) ∨ (0 ≤ r ∧ r < rs.length) from by omega) with h | ⟨h, h'⟩
    · have e : baseV c rs r = .tuple #[.int .i64 0, .int .i64 1] := by unfold baseV; rw [if_pos hE, if_pos (by omega)]
      rw [e]
      unfold Cfg.val Cfg.cells at *
      clear e hE
      rcases h with h | ⟨h, h'⟩
      all_goals
        go_enter Try.func15, Try.ntmps15
        go_wp2_with fail
        refine (HC.out _ B _ (HR.out.below ((below_alloc _ _).mono hB)) (by simp; omega)).mono ?_
        rintro e w1 ⟨rfl, hb1⟩
        rw [HE.out]
        have hc := box_keep hb1 (heap_new (w := w) rfl)
        obtain ⟨q0, q1, q2, q3, q4, q5, q6⟩ := box7 hc
        clear hc
        go_wp2
        go_ret2
        exact ⟨rfl, below_trans (below_alloc _ _) hb1⟩
    · have e : baseV c rs r = .tuple #[.int .i64 (c.raw + sumSz rs r.toNat), .int .i64 0] := by unfold baseV; rw [if_pos hE, if_neg (by omega)]
      rw [e]
      obtain ⟨r, rfl⟩ := Int.eq_ofNat_of_zero_le h
      rw [Int.toNat_natCast]
      have HH := Lib.hid (fun w B v h1 h2 => ahead_calls w B c v rs r h1 h2 f2 (by omega) f0 f1)
      unfold Cfg.val Cfg.cells at *
      clear e hE
      go_enter Try.func15, Try.ntmps15
      go_wp2_with fail
      refine (HC.out _ B _ (HR.out.below ((below_alloc _ _).mono hB)) (by simp; omega)).mono ?_
      rintro e w1 ⟨rfl, hb1⟩
      rw [HE.out]
      have hc := box_keep hb1 (heap_new (w := w) rfl)
      obtain ⟨q0, q1, q2, q3, q4, q5, q6⟩ := box7 hc
      have hb01 := below_trans (below_alloc _ _) hb1
      clear hc
      go_wp2_with fail
      refine (HH.out _ B _ (HR.out.below (hb01.mono hB)) (Nat.le_trans hB hb01.size)).mono ?_
      rintro e w2 ⟨rfl, hb2⟩
      go_wp2
      go_ret2
      exact ⟨rfl, hb01.trans (hb2.mono hb01.size)⟩
  · have e : baseV c rs r = .tuple #[.int .i64 0, .int .i64 (checkE c rs)] := by unfold baseV; rw [if_neg hE]
    rw [e]
    have HC := Lib.hid (fun w B v h1 h2 => Check_calls w B c v rs h1 h2)
    unfold Cfg.val Cfg.cells at *
    have hE' : (checkE c rs != 0) = true := by simpa using hE
    clear e hE
    go_enter Try.func15, Try.ntmps15
    go_wp2_with fail
    refine (HC.out _ B _ (HR.out.below ((below_alloc _ _).mono hB)) (by simp; omega)).mono ?_
    rintro e w1 ⟨rfl, hb1⟩
    go_wp2
    go_ret2
    exact ⟨rfl, below_trans (below_alloc _ _) hb1⟩

end Go.Proofs.Ytkefkepbjbfcpaa
