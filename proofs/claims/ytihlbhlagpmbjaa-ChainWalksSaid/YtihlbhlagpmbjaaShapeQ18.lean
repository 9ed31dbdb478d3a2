/- What the chain's cells say: the program's Shape where the rows are right. -/
import Derived.Test.YtihlbhlagpmbjaaShapeP18
import Derived.Deep.RegionLaw
import Derived.Deep.AppendLies
namespace Go.Proofs.Ytihlbhlagpmbjaa
open Go.RowKit

theorem own_keepN {wr w1 : World} {O o : Obj} {v : Value} {base n q r : Nat} {e : TypeId} {xs : List Value} (own : wr.ownsRow base e 1 v n xs) (hq : q < base) (ho : wr.heap[q]? = some o)
    (hgrow : ((wr.drewN r).alloc O).grownBy w1 v.ownBlock) : w1.heap[q]? = some o := by
  have hlt : q < wr.heap.size := (Array.getElem?_eq_some_iff.1 ho).1
  rw [hgrow.block q (by simp; omega) (fun e => by have := (own.lt q e.symm).1; omega)]
  exact heap_old (w := wr.drewN r) ho
/-- What Shape leaves where both rows are right. -/
def FinePost (keys : List Int) (w : World) (e : Ending) (w' : World) : Prop := if risesB keys = true then ShapePost 4 keys 0 w e w' else ShapePost 0 [] 12 w e w'

set_option maxRecDepth 100000 in
set_option maxHeartbeats 4000000 in
theorem Shape_fine (w : World) (B : Nat) (most : Int) (a : Value) (xs : List Int) (ha : Reads w B a xs) (hB : B ≤ w.heap.size) (hok : shapeOk most xs = true) (hu : usedOk most xs = true) (hr : rowsOk xs = true) :
    Calls Try.prog 15 #[.int .i64 most, a] w (FinePost (keysC xs (rowA xs).2.1) w) := by
  have HA := Lib.hid ha
  have HXR := Lib.hid ha.2.1
  obtain ⟨hxl, hxr, a, ca, rfl, hca, ha⟩ := ha
  obtain ⟨⟨h0, h1⟩, hl⟩ := of_decide_eq_true hok
  have hl' : ((xs.length : Int) != sizeI most) = false := by simpa using hl
  rw [sizeI_in h0 h1] at hl
  rcases ha with h | ⟨b, off, rfl, hBb, hcell⟩
  · subst h; simp at hl; omega
  have c0 := hcell 0 (by omega)
  have c1 := hcell 1 (by omega)
  have c2 := hcell 2 (by omega)
  rw [Nat.add_zero] at c0
  have hu := of_decide_eq_true hu
  have hlen : (xs.length : Int) = 2 * most + 3 := hl
  obtain ⟨i0, yi, yz0, yz1, yz2⟩ := info_parts infoI64
  have r0 : -9223372036854775808 ≤ xs.getD 0 0 ∧ xs.getD 0 0 ≤ 9223372036854775807 := hxr _ (by rw [List.getD_eq_getElem?_getD, List.getElem?_eq_getElem (by omega)]; simp)
  have r1 : -9223372036854775808 ≤ xs.getD 1 0 ∧ xs.getD 1 0 ≤ 9223372036854775807 := hxr _ (by rw [List.getD_eq_getElem?_getD, List.getElem?_eq_getElem (by omega)]; simp)
  obtain ⟨u0, u1⟩ := hu
  have hmA : Marks (usedC xs) (rowA xs).2.2 := rowF_marks (marks_nil _)
  have HRA := Lib.hid (fun (W : World) (bm : Nat) (ha : Reads W B (.slice (some ⟨b, off, none⟩) xs.length ca) xs) (hb : B ≤ bm) (hs : Seen W bm []) => row_calls W B bm most (usedC xs) (xs.getD 0 0) _ xs [] 17 ha hb hs (marks_nil _) hlen ⟨u0, u1, h1⟩ rfl r0 rfl)
  have hS17 : (rowA xs).2.2.length ≤ 17 := by
    obtain ⟨n, hn⟩ := Int.eq_ofNat_of_zero_le u0
    have := marks_len n _ (by rw [← hn]; exact hmA)
    omega
  have HRB := Lib.hid (fun (W : World) (bm : Nat) (ha : Reads W B (.slice (some ⟨b, off, none⟩) xs.length ca) xs) (hb : B ≤ bm) (hs : Seen W bm (rowA xs).2.2) => row_calls W B bm most (usedC xs) (xs.getD 1 0) _ xs (rowA xs).2.2 (17 - (rowA xs).2.2.length) ha hb hs hmA hlen ⟨u0, u1, h1⟩ rfl r1 (by omega))
  have hcase : (rowA xs).1 = true ∧ (rowB xs).1 = true ∧ ((rowB xs).2.2.length : Int) = usedC xs := by
    unfold rowsOk at hr
    rw [Bool.and_eq_true, Bool.and_eq_true, decide_eq_true_eq] at hr
    exact ⟨hr.1.1, hr.1.2, hr.2⟩
  have hnodes := (rowA_ok hcase.1).2
  have hAl : (rowA xs).2.1.length ≤ 17 := by
    have h := hS17
    rw [(rowA_ok hcase.1).1, List.length_reverse] at h
    exact h
  have hA : rowF xs (usedC xs) 17 (xs.getD 0 0) [] [] = rowA xs := rfl
  have hBB : rowF xs (usedC xs) (17 - (rowA xs).2.2.length) (xs.getD 1 0) (rowA xs).2.2 [] = rowB xs := rfl
  rw [hA] at HRA
  rw [hBB] at HRB
  have c2' : w.cell? ⟨b, off + 2, none⟩ = some (.int .i64 (usedC xs)) := c2
  generalize rowA xs = RA at *
  generalize rowB xs = RB at *
  generalize usedC xs = u at *
  generalize xs.getD 0 0 = f0 at *
  generalize xs.getD 1 0 = f1 at *
  obtain ⟨A0, A1, A2⟩ := RA
  obtain ⟨B0, B1, B2⟩ := RB
  have hbs : b < w.heap.size := by omega
  have hbne : b ≠ w.heap.size := by omega
  have hx0 : (0 : Int) < xs.length := by omega
  have hx1 : (1 : Int) < xs.length := by omega
  have hx2 : (2 : Int) < xs.length := by omega
  have HLEN := Lib.hid hlen
  have HCE := Lib.hid hcell
  clear hok hcell hxr hl hr hA hBB hmA hS17 c2 hlen
  dsimp only at hcase HRA HRB
  have hmk : ∀ W, (Instr.makeMap 57 none).run Try.prog W = .ok (.map (some W.heap.size)) (W.alloc (.map #[] 0)) := fun _ => rfl
  go_enter Try.func15, Try.ntmps15
  go_wp2_with (go_at_call 12; refine (Size_calls _ _).mono ?_; rintro e w' ⟨rfl, rfl⟩)
  have HSM : Hid (∀ o, Seen ((w.alloc o).alloc (.map #[] 0)) (w.heap.size + 1) []) := fun o => by have := seen_made (w.alloc o); simpa using this
  have HAM : Hid (∀ o o', Reads ((w.alloc o).alloc o') B (.slice (some ⟨b, off, none⟩) xs.length ca) xs) := fun o o' => HA.out.below (((Below.refl _ _).alloc hB _).alloc (by simp; omega) _)
  go_wp2_with fail
  refine Calls.mono (HRA.out _ _ (HAM.out _ _) (by omega) (HSM.out _)) ?_
  rintro e w1 ⟨v1, rfl, own1, hs1, -, hg1⟩
  have hz1 := hg1.size
  simp at hz1
  have hk1 : w1.heap[w.heap.size]? = some (.cells #[.int .i64 0, .slice none 0 0, .slice none 0 0] 28 (0, 0)) := (hg1.block w.heap.size (by show _ < ((w.alloc _).alloc _).heap.size; simp <;> omega) (by simp <;> omega)).trans (heap_old (heap_new rfl))
  have b1 : Below w.heap.size w w1 := ⟨hg1.os, hg1.tape, hg1.output, by omega, fun q hq => (hg1.block q (by simp; omega) (fun e => by injection e with e; omega)).trans ((Below.heap_alloc _ _ _ (by simp; omega)).trans (Below.heap_alloc _ _ _ hq))⟩
  have B1 := Lib.hid b1
  have HK1 := Lib.hid hk1
  have HS1 := Lib.hid hs1
  have d1 : w1.cell? ⟨b, off + 1, none⟩ = some (.int .i64 f1) := (b1.cell (p := ⟨b, off + 1, none⟩) hbs).trans c1
  have d2 : w1.cell? ⟨b, off + 2, none⟩ = some (.int .i64 u) := (b1.cell (p := ⟨b, off + 2, none⟩) hbs).trans c2'
  have OW1 := Lib.hid own1
  clear hk1 hs1 b1 hg1 own1
  dsimp only
  go_wp2_with fail
  refine Calls.mono (HRB.out _ _ ((HA.out.below (B1.out.mono hB))) (by omega) HS1.out) ?_
  rintro e w2 ⟨v2, rfl, own2, hs2, -, hg2⟩
  have hz2 := hg2.size
  have hk2 : w2.heap[w.heap.size]? = some (.cells #[.int .i64 0, .slice none 0 0, .slice none 0 0] 28 (0, 0)) := (hg2.block w.heap.size (by omega) (by simp)).trans HK1.out
  have b2 : Below w.heap.size w w2 := B1.out.trans ⟨hg2.os, hg2.tape, hg2.output, hg2.size, fun q hq => hg2.block q (by omega) (fun e => by injection e with e; omega)⟩
  have e2 : w2.cell? ⟨b, off + 2, none⟩ = some (.int .i64 u) := (b2.cell (p := ⟨b, off + 2, none⟩) hbs).trans c2'
  have hln : ∀ ty n, (Builtin.len_ #[57] ty #[.map (some (w.heap.size + 1))]).run Try.prog (w2.drewN n) = .ok (.int .i64 B2.length) (w2.drewN n) := fun ty n => Seen.len (w := w2.drewN n) hs2 ty
  obtain ⟨⟨s0, s1, s2⟩, ⟨t0, t1, t2⟩, hlt2⟩ := box3 hk2
  have HK2 := Lib.hid hk2
  have B2' := Lib.hid b2
  have OW2 : Hid (Owns w2 (w.heap.size + 2) v1 A1) := (Owns.le OW1.out (by simp)).kept hg2 (.inr fun e => by
    have := (OW1.out.lt _ e).1
    rw [World.size_alloc, World.size_alloc] at this
    omega)
  clear hk2 b2 hs2 hg2 own2 hmk
  obtain ⟨rfl, rfl, hsum⟩ := hcase
  have hsum' : ((B2.length : Int) != u) = false := by simpa using hsum
  clear hsum
  have hb3 := fun n => box3 (show ((w2.drewN n).alloc (.cells #[.int .i64 0, .slice none 0 0, .slice none 0 0] 28)).heap[w2.heap.size]? = some (.cells #[.int .i64 0, .slice none 0 0, .slice none 0 0] 28 (0, 0)) from heap_new rfl)
  have q0 := fun n => (hb3 n).1.1
  have q1 := fun n => (hb3 n).1.2.1
  have q2 := fun n => (hb3 n).1.2.2
  have p0 := fun n => (hb3 n).2.1.1
  have p1 := fun n => (hb3 n).2.1.2.1
  have p2 := fun n => (hb3 n).2.1.2.2
  clear hb3
  have hAr : ∀ x ∈ A1, 1 ≤ x ∧ x ≤ 16 := fun x hx => by have := hnodes x hx; unfold leadsP at this; omega
  obtain ⟨-, -, an, cn, rfl, hcn, hnc⟩ := OW2.out.reads (by omega) (fun x hx => by have := hAr x hx; omega)
  have HNC := Lib.hid hnc
  clear hnc
  dsimp only
  go_wp2_with fail
  go_quiet (fail)
  go_wp2
  go_loopg [77] (A1.length + 1) (fun nn v77 wr => ∃ (k : Nat) (a' : Option Addr) (n' c' : Nat), k ≤ A1.length ∧ v77 = .int .i64 k ∧ nn + k = A1.length + 1 ∧
    wr.ownsRow (w2.heap.size + 1) 2 1 (.slice a' n' c') k (((keysC xs A1).take k).map (Value.int .i64)) ∧ wr.heap[w2.heap.size]? = some (.cells #[.int .i64 4, .slice a' n' c', .slice none 0 0] 28 (0, 0)) ∧
    Below w2.heap.size w2 wr ∧ Rises (keysC xs A1) k)
  case atStart =>
    exact ⟨0, none, 0, 0, Nat.zero_le _, rfl, rfl, World.ownsRow_nil _ _ _ _, heap_set (heap_set (heap_set (heap_new rfl))), (((below_trans (below_drewN _ _) (below_alloc _ _)).setCell (by simp) _).setCell (by simp) _).setCell (by simp) _, fun i hi => by omega⟩
  case round =>
    obtain ⟨k, a', n', c', hk, rfl, hn, own, hS, bel, hris⟩ := hrel
    obtain ⟨⟨s0, s1, s2⟩, ⟨g0, g1, g2⟩, hSlt⟩ := box3 hS
    have HS := Lib.hid hS
    have HN := Lib.hid hn
    have HRI := Lib.hid hris
    have hzr := bel.size
    clear hS hn hris
    by_cases hlt : k < A1.length
    · rcases HNC.out with h | ⟨nb, no, rfl, hnb, hncell⟩
      · rw [h] at hlt; simp at hlt
      have hq := (bel.cell (p := ⟨nb, no + k, none⟩) hnb).trans (hncell k hlt)
      have hqm : A1.getD k 0 ∈ A1 := by rw [List.getD_eq_getElem?_getD, List.getElem?_eq_getElem hlt]; simp
      have hl := hnodes _ hqm
      have hkey : (keysC xs A1).getD k 0 = xs.getD (keyI (A1.getD k 0)).toNat 0 := by unfold keysC; simp [List.getD_eq_getElem?_getD, hlt]
      have hkl : (keysC xs A1).length = A1.length := by simp [keysC]
      have htk := take_snoc' (keysC xs A1) k (by omega)
      generalize A1.getD k 0 = q at *
      have hm1 : (16 : Int) ≤ 16 := by omega
      obtain ⟨l0, l1⟩ := hl
      obtain ⟨j, hj⟩ : ∃ j : Nat, keyI q = j := Int.eq_ofNat_of_zero_le (by unfold keyI; omega)
      have hjl : (j : Int) < (xs.length : Int) := by have := HLEN.out; unfold keyI at hj; omega
      have HKC : Hid (∀ W, Calls Try.prog 29 #[.int .i64 q] W (Just (.int .i64 (j : Int)) W)) := fun W => by rw [← hj]; exact key_calls W q (by omega) (by omega)
      rw [hj, Int.toNat_natCast] at hkey
      have hbw2 : b < w2.heap.size := by omega
      have hx : wr.cell? ⟨b, off + j, none⟩ = some (.int .i64 (xs.getD j 0)) := (bel.cell (p := ⟨b, off + j, none⟩) hbw2).trans ((B2'.out.cell (p := ⟨b, off + j, none⟩) hbs).trans (HCE.out j (by omega)))
      rw [hkey] at htk
      have HTK := Lib.hid htk
      have HKEY := Lib.hid hkey
      have HX := Lib.hid hx
      have hbS : b ≠ w2.heap.size := by omega
      generalize xs.getD j 0 = x at *
      have hklt : (k : Int) < (A1.length : Int) := by omega
      clear htk hkey hqm hj
      go_wp2_with fail
      have hnews1 : ∀ (r i : Nat) (u : Value), [Value.int .i64 x][i]? = some u → ((wr.drewN r).alloc (.cells #[.int .i64 x] 2)).cell? ((⟨wr.heap.size, 0, none⟩ : Addr).add i) = some u := by
        intro r i u hi
        match i, hi with
        | 0, hi => simp at hi; subst hi; simp [Addr.add]; exact World.cell?_alloc_new (wr.drewN r) _ _ 0
      have HNW := Lib.hid hnews1
      have hSb : w2.heap.size + 1 ≤ wr.heap.size := by omega
      clear hnews1
      go_region_law (first | (refine step_append_lies _ rfl (.tmp 83) (.tmp 89) 24 rfl (w2.heap.size + 1) 2 i0 (.int .i64 0) 1 8 Try.underlying24 yi yz0 yz1 yz2 rfl (by decide) (.slice a' n' c') k (((keysC xs A1).take k).map (Value.int .i64)) rfl (World.ownsRow.alloc (w := wr.drewN _) own _) ⟨wr.heap.size, 0, none⟩ 1 1 [.int .i64 x] rfl rfl (HNW.out _) (by simp [Value.oneCell']) (by decide) (by unfold maxLen; omega) (by omega) (by simp; omega) _ rfl ?_; intro g cap w5 hown5 hgrow5 hat5 hgl5; have hS5 := own_keepN own (by omega) HS.out hgrow5; obtain ⟨⟨t0', t1', t2'⟩, ⟨v0', v1', v2'⟩, hTlt⟩ := box3 hS5; have HS5 := Lib.hid hS5; clear hS5) | (go_simp; refine (HKC.out _).mono ?_; rintro e w' ⟨rfl, rfl⟩; go_simp))
      all_goals
        have hl : ((keysC xs A1).take k).map (Value.int .i64) ++ [Value.int .i64 x] = ((keysC xs A1).take (k + 1)).map (Value.int .i64) := by rw [HTK.out]; simp
        have bel1 : Below w2.heap.size w2 w5 := (below_alloc_of (below_trans bel (below_drewN _ _)) _ |>.grown hgrow5 (by have := bel.size; simp; omega) (fun q hq => by have := (own.lt q hq).1; omega))
        have own1 : w5.ownsRow (w2.heap.size + 1) 2 1 (.slice (some ⟨g, 0, none⟩) (k + 1) cap) (k + 1) (((keysC xs A1).take (k + 1)).map (Value.int .i64)) := by rw [← hl]; simpa using hown5
        have hgb : w2.heap.size + 1 ≤ g := (own1.lt g rfl).1
        clear hl hown5 hgrow5 hat5
        have hw6 : ∃ w6, w6 = w5.setCell ⟨w2.heap.size, 1, none⟩ (.slice (some ⟨g, 0, none⟩) (k + 1) cap) := ⟨_, rfl⟩
        obtain ⟨w6, hw6⟩ := hw6
        have own6 : w6.ownsRow (w2.heap.size + 1) 2 1 (.slice (some ⟨g, 0, none⟩) (k + 1) cap) (k + 1) (((keysC xs A1).take (k + 1)).map (Value.int .i64)) := by rw [hw6]; exact ownsRow_setCell_below own1 (by simp) _
        have hS6 : w6.heap[w2.heap.size]? = some (.cells #[.int .i64 4, .slice (some ⟨g, 0, none⟩) (k + 1) cap, .slice none 0 0] 28 (0, 0)) := by rw [hw6]; exact heap_set HS5.out
        have bel6 : Below w2.heap.size w2 w6 := by rw [hw6]; exact bel1.setCell (by simp) _
        have BEL6 := Lib.hid bel6
        have HS6 := Lib.hid hS6
        have OW6 := Lib.hid own6
        have htl : ((keysC xs A1).take (k + 1)).length = k + 1 := by simp; omega
        have hcl6 : ∀ i, i < k + 1 → w6.cell? ⟨g, i, none⟩ = some (.int .i64 ((keysC xs A1).getD i 0)) := fun i hi => by
          rcases own6.2 with ⟨h3, _⟩ | ⟨g', cap', cur, hv, _, hg, hnc, _, hcs, htk2⟩
          · cases h3
          · injection hv with e1 _ _
            injection e1 with e1
            injection e1 with e1 _ _
            subst e1
            have h1 : (cur.toList.take ((k + 1) * 1))[i]? = (((keysC xs A1).take (k + 1)).map (Value.int .i64))[i]? := by rw [htk2]
            rw [Nat.mul_one, List.getElem?_take, if_pos hi] at h1
            rw [cell_of_row w6 g i _ _ _ hg]
            simp [hi, show i < (keysC xs A1).length by omega, List.getD_eq_getElem?_getD] at h1 ⊢
            exact h1
        have HCL := Lib.hid hcl6
        have hR6 : w6.heap[w.heap.size]? = some (.cells #[.int .i64 0, .slice none 0 0, .slice none 0 0] 28 (0, 0)) := (bel6.block _ (by omega)).trans HK2.out
        have HR6 := Lib.hid hR6
        obtain ⟨⟨z0, z1, z2⟩, ⟨y0, y1, y2⟩, hz6⟩ := box3 hR6
        obtain ⟨⟨m0, m1, m2⟩, -, hz62⟩ := box3 hS6
        have hkn : k < A1.length + 1 := by omega
        clear bel6 hS6 own6 hcl6 hR6
        go_wp2_with fail
        rw [← hw6]
        clear hw6
        rcases Nat.eq_zero_or_pos k with hz | hz
        · subst hz
          go_quiet (fail)
          go_wp2
          go_roundg A1.length
          case measure => have := HN.out; omega
          case rel => exact ⟨1, _, _, _, by omega, by go_num, by have := HN.out; omega, OW6.out, HS6.out, below_drewN_of BEL6.out _, fun i hi => by omega⟩
        · obtain ⟨i, rfl⟩ : ∃ i, k = i + 1 := ⟨k - 1, by omega⟩
          have ck := HCL.out (i + 1) (by omega)
          have cp := HCL.out i (by omega)
          rw [HKEY.out] at ck
          generalize hy : (keysC xs A1).getD i 0 = y at *
          have HY := Lib.hid hy
          clear hy
          have hi1 : ((i : Int) + 1) < (i : Int) + 1 + 1 := by omega
          have hi2 : (i : Int) < (i : Int) + 1 + 1 := by omega
          have hi3 : (0 : Int) < (i : Int) + 1 := by omega
          by_cases hxy : x ≤ y
          · have hnr : ¬ risesB (keysC xs A1) = true := fun h => by
              have h2 := (rises_iff _).1 h i (by omega)
              rw [HY.out, HKEY.out] at h2
              omega
            go_quiet (fail)
            go_wp2
            refine bodyPost_ret (results_shape (p := 4) (u := 5) rfl _ _ _ _ _ _ _ rfl (heap_set (heap_set (heap_set HR6.out))) Try.underlying28 rfl infoShape) rfl ?_
            unfold FinePost
            rw [if_neg hnr]
            exact ⟨none, 0, 0, rfl, owns_nil _ _, (((B2'.out.trans ((below_drewN_of BEL6.out _).mono (by omega))).setCell (by simp) _).setCell (by simp) _).setCell (by simp) _⟩
          · go_quiet (fail)
            go_wp2
            go_roundg (A1.length - (i + 1))
            case measure => have := HN.out; omega
            case rel => exact ⟨i + 1 + 1, _, _, _, by omega, by go_num, by have := HN.out; omega, OW6.out, HS6.out, below_drewN_of BEL6.out _, fun n hn => by
              by_cases e : n = i
              · subst e; rw [HY.out, HKEY.out]; omega
              · exact HRI.out n (by omega)⟩
    · have hkA : k = A1.length := by omega
      have hR6 : wr.heap[w.heap.size]? = some (.cells #[.int .i64 0, .slice none 0 0, .slice none 0 0] 28 (0, 0)) := (bel.block _ (by omega)).trans HK2.out
      have HR6 := Lib.hid hR6
      obtain ⟨⟨z0, z1, z2⟩, ⟨y0, y1, y2⟩, hz6⟩ := box3 hR6
      have hkl : (keysC xs A1).length = A1.length := by simp [keysC]
      have hyes : risesB (keysC xs A1) = true := (rises_iff _).2 (by rw [hkl, ← hkA]; exact HRI.out)
      have OWF : Hid (Owns wr (w2.heap.size + 1) (.slice a' n' c') (keysC xs A1)) := by
        have h := own
        rw [hkA, ← hkl, List.take_length] at h
        exact h
      have hklt : ¬ ((k : Int) < (A1.length : Int)) := by omega
      clear hR6 own hkA hlt
      go_wp2
      refine bodyPost_ret (results_shape (p := 4) (u := 5) rfl _ _ _ _ _ _ _ rfl (heap_set (heap_set (heap_set HR6.out))) Try.underlying28 rfl infoShape) rfl ?_
      unfold FinePost
      rw [if_pos hyes]
      refine ⟨_, _, _, rfl, ?_, (((B2'.out.trans (bel.mono (by omega))).setCell (by simp) _).setCell (by simp) _).setCell (by simp) _⟩
      exact Owns.le (ownsRow_setCell_below (ownsRow_setCell_below (ownsRow_setCell_below OWF.out (by simp; omega) _) (by simp; omega) _) (by simp; omega) _) (by omega)

end Go.Proofs.Ytihlbhlagpmbjaa
