/- Where regions begin: the contracts of the reference's Cells and Base. -/
import Derived.Test.YtkefkepbjbfcpaaPAhead
namespace Go.Proofs.Ytkefkepbjbfcpaa
open Go.RowKit

theorem ReadsR.tail {w : World} {B : Nat} {a : Option Addr} {n c : Nat} {rs : List (Int × Int)} (h : ReadsR w B (.slice a n c) rs) : n = rs.length ∧
    (rs = [] ∨ ∃ b off, a = some ⟨b, off, none⟩ ∧ b < B ∧ ∀ i, i < rs.length → w.cell? ⟨b, off + i * 2, none⟩ = some (.int .i64 (rs.getD i (0, 0)).1) ∧ w.cell? ⟨b, off + i * 2 + 1, none⟩ = some (.int .i64 (rs.getD i (0, 0)).2)) := by
  obtain ⟨-, a', c', e, -, -, h3⟩ := h
  injection e with e1 e2 e3
  subst e1
  exact ⟨e2, h3⟩

set_option maxRecDepth 100000 in
set_option maxHeartbeats 2000000 in
theorem RefCells_calls (w : World) (B : Nat) (c : Cfg) (v : Value) (rs : List (Int × Int)) (hr : ReadsR w B v rs) (hB : B ≤ w.heap.size) :
    Calls Try.prog 14 #[c.val v] w (Gives (cellsV c rs) w) := by
  have HR := Lib.hid hr
  obtain ⟨hl, a, cp, rfl, hcp, hcm, -⟩ := hr
  by_cases hE : checkE c rs = 0
  · obtain ⟨f0, f1, -, -, -, -, -, -, -, -, f2⟩ := of_decide_eq_true (check_ok hE)
    have e : cellsV c rs = .tuple #[.int .i64 (c.raw + sumSz rs rs.length), .int .i64 0] := by unfold cellsV; rw [if_pos hE, hE]
    rw [e]
    have HC := Lib.hid (fun w B v h1 h2 => RefCheck_calls w B c v rs h1 h2)
    have HE := Lib.hid hE
    unfold Cfg.val Cfg.cells at *
    clear e hE
    go_enter Try.func14, Try.ntmps14
    go_wp2_with fail
    refine (HC.out _ B _ (HR.out.below ((below_alloc _ _).mono hB)) (by simp; omega)).mono ?_
    rintro e w1 ⟨rfl, hb1⟩
    rw [HE.out]
    have hc := box_keep hb1 (heap_new (w := w) rfl)
    obtain ⟨q0, q1, q2, q3, q4, q5, q6⟩ := box7 hc
    have hb01 := below_trans (below_alloc _ _) hb1
    go_wp2
    have hs0 : sumSz rs 0 = 0 := rfl
    obtain ⟨raw, ring, writes, stamps, multi, tries⟩ := c
    dsimp only at f0 f1 hc ⊢
    have HCF := Lib.hid hc
    clear hc q0 q1 q2 q3 q4 q5 q6
    have hsz1 := hb01.size
    have hrl : rs.length ≤ rs.length := Nat.le_refl _
    obtain ⟨-, HR3⟩ := HR.out.tail
    have HR3 := Lib.hid HR3
    go_loopg [5, 6] (rs.length + 1) (fun n vs vk wr => ∃ (k : Nat), k ≤ rs.length ∧ vk = .int .i64 k ∧ vs = .int .i64 (raw + sumSz rs k) ∧ n + k = rs.length + 1 ∧
      wr.heap[w.heap.size]? = some (.cells #[.int .i64 raw, .int .i64 ring, .int .i64 writes, .int .i64 stamps, .bool multi, .int .i64 tries, .slice a rs.length cp] 30 (0, 0)) ∧ Below w.heap.size w wr)
    case atStart => exact ⟨0, Nat.zero_le _, rfl, by rw [hs0, Int.add_zero], rfl, HCF.out, hb01⟩
    case round =>
      clear hs0 hb01 hsz1 HCF
      obtain ⟨k, hk, rfl, rfl, hn', hC, bel⟩ := hrel
      have HN := Lib.hid hn'
      have HCF := Lib.hid hC
      obtain ⟨q0, q1, q2, q3, q4, q5, q6⟩ := box7 hC
      have hwsz := (Array.getElem?_eq_some_iff.1 hC).1
      have hsb := sum_bd rs k (by omega)
      clear hn' hC
      by_cases hlt : k < rs.length
      · rcases HR3.out with h | ⟨b, off, rfl, hbB, hcell⟩
        · exact absurd (Nat.lt_of_lt_of_le hlt hrl) (by rw [h]; simp)
        have hc0 := (bel.cell (p := ⟨b, off + k * 2, none⟩) (by simp; omega)).trans (hcell k (by omega)).1
        have hc1 := (bel.cell (p := ⟨b, off + k * 2 + 1, none⟩) (by simp; omega)).trans (hcell k (by omega)).2
        have hsn := sum_snoc rs k (by omega)
        generalize (rs.getD k (0, 0)).1 = kind at *
        generalize (rs.getD k (0, 0)).2 = cap at *
        have hz := size_bd kind cap
        have hbs : b < wr.heap.size := by have := bel.size; omega
        have hlt' : (k : Int) < (rs.length : Int) := by omega
        have hlt2 : (k : Int) < (rs.length : Int) := by omega
        have HS := Lib.hid hsn
        clear hcell hsn
        generalize hS : sumSz rs k = S at *
        have HSS := Lib.hid hS
        clear hS
        go_wp2_with fail
        refine (RSize_calls kind cap _).mono ?_
        rintro e w1 ⟨rfl, hb1⟩
        simp only [sizeV]
        generalize hZ : sizeN kind cap = Z at *
        have HZ := Lib.hid hZ
        have HC1 := Lib.hid (box_keep hb1 HCF.out)
        clear hZ
        go_wp2
        go_roundg (rs.length - k)
        case measure => have := HN.out; omega
        case rel => exact ⟨k + 1, by omega, by go_num, by rw [HS.out, ← Int.add_assoc], by omega, HC1.out, bel.trans (hb1.mono bel.size)⟩
      · have hk' : k = rs.length := by omega
        subst hk'
        go_wp2
        go_ret2
        exact ⟨rfl, bel⟩
  · have e : cellsV c rs = .tuple #[.int .i64 0, .int .i64 (checkE c rs)] := by unfold cellsV; rw [if_neg hE]
    rw [e]
    have HC := Lib.hid (fun w B v h1 h2 => RefCheck_calls w B c v rs h1 h2)
    unfold Cfg.val Cfg.cells at *
    have hE' : (checkE c rs != 0) = true := by simpa using hE
    clear e hE
    go_enter Try.func14, Try.ntmps14
    go_wp2_with fail
    refine (HC.out _ B _ (HR.out.below ((below_alloc _ _).mono hB)) (by simp; omega)).mono ?_
    rintro e w1 ⟨rfl, hb1⟩
    go_wp2
    go_ret2
    exact ⟨rfl, below_trans (below_alloc _ _) hb1⟩

set_option maxRecDepth 100000 in
set_option maxHeartbeats 2000000 in
theorem RefBase_calls (w : World) (B : Nat) (c : Cfg) (v : Value) (rs : List (Int × Int)) (r : Int) (hr : ReadsR w B v rs) (hB : B ≤ w.heap.size) :
    Calls Try.prog 16 #[c.val v, .int .i64 r] w (Gives (baseV c rs r) w) := by
  have HR := Lib.hid hr
  obtain ⟨hl, a, cp, rfl, hcp, hcm, -⟩ := hr
  by_cases hE : checkE c rs = 0
  · obtain ⟨f0, f1, -, -, -, -, -, -, -, -, f2⟩ := of_decide_eq_true (check_ok hE)
    have HC := Lib.hid (fun w B v h1 h2 => RefCheck_calls w B c v rs h1 h2)
    have HE := Lib.hid hE
    rcases (show (r < 0 ∨ (0 ≤ r ∧ rs.length ≤ r)) ∨ (0 ≤ r ∧ r < rs.length) from by omega) with h | ⟨h, h'⟩
    · have e : baseV c rs r = .tuple #[.int .i64 0, .int .i64 1] := by unfold baseV; rw [if_pos hE, if_pos (by omega)]
      rw [e]
      unfold Cfg.val Cfg.cells at *
      clear e hE
      rcases h with h | ⟨h, h'⟩
      all_goals
        go_enter Try.func16, Try.ntmps16
        go_wp2_with fail
        refine (HC.out _ B _ (HR.out.below ((below_alloc _ _).mono hB)) (by simp; omega)).mono ?_
        rintro e w1 ⟨rfl, hb1⟩
        rw [HE.out]
        have hc := box_keep hb1 (heap_new (w := w) rfl)
        obtain ⟨q0, q1, q2, q3, q4, q5, q6⟩ := box7 hc
        clear hc
        go_wp2
        go_ret2
        exact ⟨rfl, below_trans (below_alloc _ _) hb1⟩
    · have e : baseV c rs r = .tuple #[.int .i64 (c.raw + sumSz rs r.toNat), .int .i64 0] := by unfold baseV; rw [if_pos hE, if_neg (by omega)]
      rw [e]
      obtain ⟨r, rfl⟩ := Int.eq_ofNat_of_zero_le h
      rw [Int.toNat_natCast]
      have hdd : decide (rs.length ≤ r) = false := by simp; omega
      unfold Cfg.val Cfg.cells at *
      clear e hE
      go_enter Try.func16, Try.ntmps16
      go_wp2_with fail
      refine (HC.out _ B _ (HR.out.below ((below_alloc _ _).mono hB)) (by simp; omega)).mono ?_
      rintro e w1 ⟨rfl, hb1⟩
      rw [HE.out]
      have hc := box_keep hb1 (heap_new (w := w) rfl)
      obtain ⟨q0, q1, q2, q3, q4, q5, q6⟩ := box7 hc
      have hb01 := below_trans (below_alloc _ _) hb1
      go_wp2
      have hs0 : sumSz rs 0 = 0 := rfl
      obtain ⟨raw, ring, writes, stamps, multi, tries⟩ := c
      dsimp only at f0 f1 hc ⊢
      have HCF := Lib.hid hc
      clear hc q0 q1 q2 q3 q4 q5 q6
      have hsz1 := hb01.size
      have hrl : r ≤ rs.length := by omega
      obtain ⟨-, HR3⟩ := HR.out.tail
      have HR3 := Lib.hid HR3
      go_loopg [7, 8] (r + 1) (fun n vs vk wr => ∃ (k : Nat), k ≤ r ∧ vk = .int .i64 k ∧ vs = .int .i64 (raw + sumSz rs k) ∧ n + k = r + 1 ∧
        wr.heap[w.heap.size]? = some (.cells #[.int .i64 raw, .int .i64 ring, .int .i64 writes, .int .i64 stamps, .bool multi, .int .i64 tries, .slice a rs.length cp] 30 (0, 0)) ∧ Below w.heap.size w wr)
      case atStart => exact ⟨0, Nat.zero_le _, rfl, by rw [hs0, Int.add_zero], rfl, HCF.out, hb01⟩
      case round =>
        clear hs0 hb01 hsz1 HCF
        obtain ⟨k, hk, rfl, rfl, hn', hC, bel⟩ := hrel
        have HN := Lib.hid hn'
        have HCF := Lib.hid hC
        obtain ⟨q0, q1, q2, q3, q4, q5, q6⟩ := box7 hC
        have hwsz := (Array.getElem?_eq_some_iff.1 hC).1
        have hsb := sum_bd rs k (by omega)
        clear hn' hC
        by_cases hlt : k < r
        · rcases HR3.out with h | ⟨b, off, rfl, hbB, hcell⟩
          · exact absurd (Nat.lt_of_lt_of_le hlt hrl) (by rw [h]; simp)
          have hc0 := (bel.cell (p := ⟨b, off + k * 2, none⟩) (by simp; omega)).trans (hcell k (by omega)).1
          have hc1 := (bel.cell (p := ⟨b, off + k * 2 + 1, none⟩) (by simp; omega)).trans (hcell k (by omega)).2
          have hsn := sum_snoc rs k (by omega)
          generalize (rs.getD k (0, 0)).1 = kind at *
          generalize (rs.getD k (0, 0)).2 = cap at *
          have hz := size_bd kind cap
          have hbs : b < wr.heap.size := by have := bel.size; omega
          have hlt' : (k : Int) < (r : Int) := by omega
          have hlt2 : (k : Int) < (rs.length : Int) := by omega
          have HS := Lib.hid hsn
          clear hcell hsn
          generalize hS : sumSz rs k = S at *
          have HSS := Lib.hid hS
          clear hS
          go_wp2_with fail
          refine (RSize_calls kind cap _).mono ?_
          rintro e w1 ⟨rfl, hb1⟩
          simp only [sizeV]
          generalize hZ : sizeN kind cap = Z at *
          have HZ := Lib.hid hZ
          have HC1 := Lib.hid (box_keep hb1 HCF.out)
          clear hZ
          go_wp2
          go_roundg (r - k)
          case measure => have := HN.out; omega
          case rel => exact ⟨k + 1, by omega, by go_num, by rw [HS.out, ← Int.add_assoc], by omega, HC1.out, bel.trans (hb1.mono bel.size)⟩
        · have hk' : k = r := by omega
          subst hk'
          go_wp2
          go_ret2
          exact ⟨rfl, bel⟩
  · have e : baseV c rs r = .tuple #[.int .i64 0, .int .i64 (checkE c rs)] := by unfold baseV; rw [if_neg hE]
    rw [e]
    have HC := Lib.hid (fun w B v h1 h2 => RefCheck_calls w B c v rs h1 h2)
    unfold Cfg.val Cfg.cells at *
    have hE' : (checkE c rs != 0) = true := by simpa using hE
    clear e hE
    go_enter Try.func16, Try.ntmps16
    go_wp2_with fail
    refine (HC.out _ B _ (HR.out.below ((below_alloc _ _).mono hB)) (by simp; omega)).mono ?_
    rintro e w1 ⟨rfl, hb1⟩
    go_wp2
    go_ret2
    exact ⟨rfl, below_trans (below_alloc _ _) hb1⟩

end Go.Proofs.Ytkefkepbjbfcpaa
