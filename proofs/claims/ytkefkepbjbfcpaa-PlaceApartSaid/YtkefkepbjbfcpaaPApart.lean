/- The walk of the law PlaceApart. -/
import Derived.Test.YtkefkepbjbfcpaaPLaws
namespace Go.Proofs.Ytkefkepbjbfcpaa
open Go.RowKit

theorem check_regs {c : Cfg} {rs : List (Int × Int)} (h : checkE c rs = 0) {k : Nat} (hk : k < rs.length) : sizeE (rs.getD k (0, 0)).1 (rs.getD k (0, 0)).2 = 0 := by
  by_cases hb : regB (rs.getD k (0, 0)).1 (rs.getD k (0, 0)).2 = true
  · rw [sizeE_of hb, if_pos rfl]
  · have := check_reg (c := c) hk (by simpa using hb)
    omega
theorem base_in {c : Cfg} {rs : List (Int × Int)} (h : checkE c rs = 0) {k : Nat} (hk : k < rs.length) : baseV c rs k = .tuple #[.int .i64 (c.raw + sumSz rs k), .int .i64 0] := by
  unfold baseV
  rw [if_pos h, if_neg (by omega), Int.toNat_natCast]
theorem base_end {c : Cfg} {rs : List (Int × Int)} (h : checkE c rs = 0) : baseV c rs rs.length = .tuple #[.int .i64 0, .int .i64 1] := by
  unfold baseV
  rw [if_pos h, if_pos (by omega)]
theorem cells_in {c : Cfg} {rs : List (Int × Int)} (h : checkE c rs = 0) : cellsV c rs = .tuple #[.int .i64 (c.raw + sumSz rs rs.length), .int .i64 0] := by
  unfold cellsV
  rw [if_pos h, h]

set_option maxRecDepth 100000 in
set_option maxHeartbeats 2000000 in
theorem Apart_walk (w : World) (c : Cfg) (v : Value) (rs : List (Int × Int)) (hr : ReadsR w w.heap.size v rs) : Calls Try.prog 7 #[c.val v] w (True_ w) := by
  have HR := Lib.hid hr
  have H1 := Lib.hid (fun w B h1 h2 => Check_calls w B c v rs h1 h2)
  have H2 := Lib.hid (fun w B h1 h2 => RefCheck_calls w B c v rs h1 h2)
  by_cases hE : checkE c rs = 0
  · have HB := Lib.hid (fun w B r h1 h2 => Base_calls w B c v rs r h1 h2)
    have HBI := Lib.hid (fun k hk => base_in (c := c) (rs := rs) hE (k := k) hk)
    have HBE := Lib.hid (base_end hE)
    have HC := Lib.hid (fun w B h1 h2 => Cells_calls w B c v rs h1 h2)
    rw [cells_in hE] at HC
    rw [hE] at H1 H2
    have HRG := Lib.hid (fun k hk => check_regs hE (k := k) hk)
    obtain ⟨f0, f1, -, -, -, -, -, -, -, -, f2⟩ := of_decide_eq_true (check_ok hE)
    obtain ⟨raw, ring, writes, stamps, multi, tries⟩ := c
    unfold Cfg.val Cfg.cells at *
    dsimp only at *
    obtain ⟨hl, a, cp, rfl, hcp, hcm, hr3⟩ := hr
    have HR3 := Lib.hid hr3
    have hn8 : (rs.length : Int) ≤ 8 := by omega
    have hs0 : sumSz rs 0 = 0 := rfl
    clear hE hr3
    go_enter Try.func7, Try.ntmps7
    go_wp2_with fail
    refine (H1.out _ w.heap.size (HR.out.below (below_alloc _ _)) (by simp)).mono ?_
    rintro e1 w1 ⟨rfl, hb1⟩
    have hc := box_keep hb1 (heap_new (w := w) rfl)
    obtain ⟨q0, q1, q2, q3, q4, q5, q6⟩ := box7 hc
    have hb01 := below_trans (below_alloc _ _) hb1
    have HCF := Lib.hid hc
    clear hc
    go_wp2_with fail
    refine (H2.out _ w.heap.size (HR.out.below hb01) hb01.size).mono ?_
    rintro e2 w2 ⟨rfl, hb2⟩
    have hc := box_keep hb2 HCF.out
    clear q0 q1 q2 q3 q4 q5 q6
    obtain ⟨q0, q1, q2, q3, q4, q5, q6⟩ := box7 hc
    have hb02 := hb01.trans (hb2.mono hb01.size)
    have HCF2 := Lib.hid hc
    clear hc HCF
    go_wp2
    clear q0 q1 q2 q3 q4 q5 q6
    go_loopg [5, 6] (rs.length + 1) (fun n vs vk wr => ∃ (k : Nat), k ≤ rs.length ∧ vk = .int .i64 k ∧ vs = .int .i64 (raw + sumSz rs k) ∧ n + k = rs.length + 1 ∧
      wr.heap[w.heap.size]? = some (.cells #[.int .i64 raw, .int .i64 ring, .int .i64 writes, .int .i64 stamps, .bool multi, .int .i64 tries, .slice a rs.length cp] 30 (0, 0)) ∧ Below w.heap.size w wr)
    case atStart => exact ⟨0, Nat.zero_le _, rfl, by rw [hs0, Int.add_zero], rfl, HCF2.out, hb02⟩
    case round =>
      clear hs0 hb01 hb02 HCF2 hb1 hb2
      obtain ⟨k, hk, rfl, rfl, hn', hC, bel⟩ := hrel
      have HN := Lib.hid hn'
      have HCF := Lib.hid hC
      obtain ⟨q0, q1, q2, q3, q4, q5, q6⟩ := box7 hC
      have hwsz := (Array.getElem?_eq_some_iff.1 hC).1
      have hsb := sum_bd rs k hk
      clear hn' hC
      by_cases hlt : k < rs.length
      · rcases HR3.out with h | ⟨b, off, rfl, hbB, hcell⟩
        · exact absurd hlt (by rw [h]; simp)
        have hc0 := hcell k hlt
        have hsn := sum_snoc rs k hlt
        have hE := HRG.out k hlt
        have hbk := HBI.out k hlt
        generalize (rs.getD k (0, 0)).1 = kind at *
        generalize (rs.getD k (0, 0)).2 = cap at *
        have hz := size_bd kind cap
        have hlt' : (k : Int) < (rs.length : Int) := by omega
        have HS := Lib.hid hsn
        have HE := Lib.hid hE
        have HC0 := Lib.hid hc0
        have HBK := Lib.hid hbk
        clear hcell hsn hE hc0 hbk
        generalize hS : sumSz rs k = S at *
        have HSS := Lib.hid hS
        clear hS
        go_wp2_with fail
        refine (HB.out _ w.heap.size (k : Int) (HR.out.below bel) bel.size).mono ?_
        rintro e w1 ⟨rfl, hb1⟩
        rw [HBK.out]
        have bel1 := bel.trans (hb1.mono bel.size)
        have hc := box_keep hb1 HCF.out
        clear q0 q1 q2 q3 q4 q5 q6
        obtain ⟨q0, q1, q2, q3, q4, q5, q6⟩ := box7 hc
        have HCF1 := Lib.hid hc
        have hc0 := (bel1.cell (p := ⟨b, off + k * 2, none⟩) (by simp; omega)).trans HC0.out.1
        have hc1 := (bel1.cell (p := ⟨b, off + k * 2 + 1, none⟩) (by simp; omega)).trans HC0.out.2
        have hbs : b < w1.heap.size := by have := bel1.size; omega
        clear hc
        go_wp2_with fail
        refine (Size_calls kind cap _).mono ?_
        rintro e w2 ⟨rfl, hb2⟩
        simp only [sizeV, HE.out]
        generalize hZ : sizeN kind cap = Z at *
        have HZ := Lib.hid hZ
        have HC2 := Lib.hid (box_keep hb2 HCF1.out)
        clear hZ
        go_wp2
        go_roundg (rs.length - k)
        case measure => have := HN.out; omega
        case rel => exact ⟨k + 1, by omega, by go_num, by rw [HS.out, ← Int.add_assoc], by omega, HC2.out, bel1.trans (hb2.mono bel1.size)⟩
      · have hk' : k = rs.length := by omega
        subst hk'
        clear hsb
        go_wp2_with fail
        refine (HC.out _ w.heap.size (HR.out.below bel) bel.size).mono ?_
        rintro e w1 ⟨rfl, hb1⟩
        have bel1 := bel.trans (hb1.mono bel.size)
        have hc := box_keep hb1 HCF.out
        clear q0 q1 q2 q3 q4 q5 q6
        obtain ⟨q0, q1, q2, q3, q4, q5, q6⟩ := box7 hc
        clear hc
        go_wp2_with fail
        refine (HB.out _ w.heap.size (rs.length : Int) (HR.out.below bel1) bel1.size).mono ?_
        rintro e w2 ⟨rfl, hb2⟩
        rw [HBE.out]
        go_wp2
        go_ret
        exact ⟨rfl, bel1.trans (hb2.mono bel1.size)⟩
  · have hE' : (checkE c rs != 0) = true := by simpa using hE
    unfold Cfg.val Cfg.cells at *
    generalize checkE c rs = E at *
    clear hr hE
    go_enter Try.func7, Try.ntmps7
    go_wp2_with fail
    refine (H1.out _ w.heap.size (HR.out.below (below_alloc _ _)) (by simp)).mono ?_
    rintro e1 w1 ⟨rfl, hb1⟩
    have hc := box_keep hb1 (heap_new (w := w) rfl)
    obtain ⟨q0, q1, q2, q3, q4, q5, q6⟩ := box7 hc
    have hb01 := below_trans (below_alloc _ _) hb1
    clear hc
    go_wp2_with fail
    refine (H2.out _ w.heap.size (HR.out.below hb01) hb01.size).mono ?_
    rintro e2 w2 ⟨rfl, hb2⟩
    go_wp2
    go_ret
    exact ⟨rfl, hb01.trans (hb2.mono hb01.size)⟩

end Go.Proofs.Ytkefkepbjbfcpaa
