/- The contract of the reference's Go. -/
import Derived.Test.YtihlbhlagpmbjaaRefF18
namespace Go.Proofs.Ytihlbhlagpmbjaa
open Go.RowKit

theorem infoWay : (Try.prog.info? 86).map (·.size) = some 8 := by kernel_rfl

/-- A round's block of the way's cells. -/
def WayBox (w : World) (g : Nat) (x : WayR) : Prop := w.heap[g]? = some (.cells x.cells 86 (0, 0))
theorem way8 {w : World} {g : Nat} {x : WayR} (h : WayBox w g x) :
    (w.cell? ⟨g, 0, none⟩ = some (.int .i64 x.link) ∧ w.cell? ⟨g, 1, none⟩ = some (.int .i64 x.p) ∧ w.cell? ⟨g, 2, none⟩ = some (.int .i64 x.node) ∧ w.cell? ⟨g, 3, none⟩ = some (.bool x.at_) ∧ w.cell? ⟨g, 4, none⟩ = some (.int .i64 x.key) ∧
      w.cell? ⟨g, 5, none⟩ = some (.int .i64 x.reads) ∧ w.cell? ⟨g, 6, none⟩ = some (.bool x.over) ∧ w.cell? ⟨g, 7, none⟩ = some (.int .i64 x.cell)) ∧
    (w.frozen? ⟨g, 0, none⟩ = false ∧ w.frozen? ⟨g, 1, none⟩ = false ∧ w.frozen? ⟨g, 2, none⟩ = false ∧ w.frozen? ⟨g, 3, none⟩ = false ∧ w.frozen? ⟨g, 4, none⟩ = false ∧ w.frozen? ⟨g, 5, none⟩ = false ∧ w.frozen? ⟨g, 6, none⟩ = false ∧ w.frozen? ⟨g, 7, none⟩ = false) ∧ g < w.heap.size := box8 h

theorem below_set {W w : World} {g i : Nat} (h : Below W.heap.size W w) (hg : W.heap.size ≤ g) (v : Value) : Below W.heap.size W (w.setCell ⟨g, i, none⟩ v) := h.setCell (by simpa using hg) _

theorem goLoop_out {key most : Int} {f : Nat} {link q : Int} {cnt : Nat} {l : List Int} (hl : ¬ leadsP most q) : goLoop key most f link q cnt l = ⟨link, q, 0, false, 0, cnt, true, 0⟩ := by
  cases f with
  | zero => rfl
  | succ f => unfold goLoop; rw [if_neg hl]
theorem goLoop_nil {key most : Int} {f : Nat} {link q : Int} {cnt : Nat} (hl : leadsP most q) : goLoop key most (f + 1) link q cnt [] = ⟨link, q, 0, false, 0, cnt, false, keyI q⟩ := by
  unfold goLoop; rw [if_pos hl]
theorem goLoop_hit {key most : Int} {f : Nat} {link q v : Int} {cnt : Nat} {l : List Int} (hl : leadsP most q) (hk : key ≤ v) : goLoop key most (f + 1) link q cnt (v :: l) = ⟨link, q, q, v == key, v, cnt + 1, true, 0⟩ := by
  unfold goLoop
  rw [if_pos hl]
  cases l with
  | nil => exact if_pos hk
  | cons u l => exact if_pos hk
theorem goLoop_end {key most : Int} {f : Nat} {link q v : Int} {cnt : Nat} (hl : leadsP most q) (hk : ¬ key ≤ v) : goLoop key most (f + 1) link q cnt [v] = ⟨linkI q, q, 0, false, 0, cnt + 1, false, linkI q⟩ := by
  unfold goLoop
  rw [if_pos hl]
  exact if_neg hk
theorem goLoop_on {key most : Int} {f : Nat} {link q v u : Int} {cnt : Nat} {l : List Int} (hl : leadsP most q) (hk : ¬ key ≤ v) : goLoop key most (f + 1) link q cnt (v :: u :: l) = goLoop key most f (linkI q) u (cnt + 2) l := by
  rw [goLoop, if_pos hl]
  exact if_neg hk
theorem drop_at {rest : List Int} {k : Nat} (h : k < rest.length) : rest.drop k = rest.getD k 0 :: rest.drop (k + 1) := by
  rw [List.drop_eq_getElem_cons h]; simp [List.getD_eq_getElem?_getD, h]

set_option maxRecDepth 100000 in
set_option maxHeartbeats 8000000 in
theorem Go_calls (w : World) (B : Nat) (key most : Int) (r : Value) (read : List Int) (hr : Reads w B r read) (hB : B ≤ w.heap.size) (hm0 : 0 ≤ most) (hm1 : most ≤ 16) :
    Calls Try.prog 73 #[.int .i64 key, .int .i64 most, r] w (Gives (.agg (goS key most read).cells) w) := by
  rcases read with _ | ⟨p, rest⟩
  · rw [show goS key most [] = ⟨0, 0, 0, false, 0, 0, false, 0⟩ from rfl]
    obtain ⟨hrl, hrr, a, c, rfl, hc, -⟩ := hr
    clear hrl hrr
    go_enter Try.func73, Try.ntmps73
    go_wp2
    refine bodyPost_ret (results_cell_row rfl _ _ _ _ _ _ _ rfl (heap_old (heap_new rfl)) Try.underlying86 rfl infoWay) rfl ⟨rfl, below_alloc_of (below_alloc _ _) _⟩
  · obtain ⟨n, rfl⟩ := Int.eq_ofNat_of_zero_le hm0
    generalize hS : goS key n (p :: rest) = S
    have HS : Hid (goLoop key n n 0 p 1 rest = S) := hS
    obtain ⟨b, off, c, rfl, hbs, hcc, hcl, c0, cs⟩ := reads_at hr hB
    have CS := Lib.hid cs
    have hbne : b ≠ w.heap.size := by omega
    have hbne1 : b ≠ w.heap.size + 1 := by omega
    have hi0 : (0 : Int) < (rest.length : Int) + 1 := by omega
    have hn0 : ¬ ((rest.length : Int) + 1 = 0) := by omega
    clear hr cs hS
    go_enter Try.func73, Try.ntmps73
    go_wp2
    go_loopg [8] (n + 1) (fun nn v8 wr => ∃ (k cnt : Nat) (link q : Int), v8 = .int .i64 k ∧ nn + k = n + 1 ∧ k ≤ n ∧ cnt ≤ rest.length ∧ goLoop key n (n - k) link q (cnt + 1) (rest.drop cnt) = S ∧
      WayBox wr (w.heap.size + 1) ⟨link, q, 0, false, 0, cnt + 1, false, 0⟩ ∧ WayBox wr w.heap.size ⟨0, 0, 0, false, 0, 0, false, 0⟩ ∧ Below w.heap.size w wr)
    case atStart =>
      exact ⟨0, 0, 0, p, rfl, rfl, Nat.zero_le _, Nat.zero_le _, HS.out, heap_new (by simp), heap_old (heap_new rfl), below_alloc_of (below_alloc _ _) _⟩
    case round =>
      obtain ⟨k, cnt, link, q, rfl, hnn, hk, hcnt, hloop, hbox, hres, bel⟩ := hrel
      have HN := Lib.hid hnn
      have HL := Lib.hid hloop
      have HBX := Lib.hid hbox
      have HRS := Lib.hid hres
      have BEL := Lib.hid bel
      obtain ⟨⟨x0, x1, x2, x3, x4, x5, x6, x7⟩, ⟨f0, f1, f2, f3, f4, f5, f6, f7⟩, hzx⟩ := way8 hbox
      obtain ⟨⟨y0, y1, y2, y3, y4, y5, y6, y7⟩, ⟨g0, g1, g2, g3, g4, g5, g6, g7⟩, hzr⟩ := way8 hres
      dsimp only at x0 x1 x2 x3 x4 x5 x6 x7 y0 y1 y2 y3 y4 y5 y6 y7
      clear hnn hloop hbox hres HS
      by_cases hkn : k = n
      · have HR : Hid (S = ⟨link, q, 0, false, 0, cnt + 1, true, 0⟩) := by have h := HL.out; rw [hkn, Nat.sub_self] at h; exact h.symm
        have hkn' : ¬ ((k : Int) < (n : Int)) := by omega
        clear hkn
        go_wp2
        exact bodyPost_ret (results_cell_row rfl _ _ _ _ _ _ _ rfl (heap_set (heap_set (heap_set (heap_set (heap_set (heap_set (heap_set (heap_set (heap_set_other HRS.out (by simp)))))))))) Try.underlying86 rfl infoWay) rfl ⟨by rw [HR.out]; (simp [WayR.cells] <;> omega), (below_set (below_set (below_set (below_set (below_set (below_set (below_set (below_set (below_set BEL.out (by omega) _) (Nat.le_refl _) _) (Nat.le_refl _) _) (Nat.le_refl _) _) (Nat.le_refl _) _) (Nat.le_refl _) _) (Nat.le_refl _) _) (Nat.le_refl _) _) (Nat.le_refl _) _)⟩
      · obtain ⟨f, hf⟩ : ∃ f, n - k = f + 1 := ⟨n - k - 1, by omega⟩
        have hf2 : n - (k + 1) = f := by omega
        have HF2 := Lib.hid hf2
        have hloop2 := HL.out
        rw [hf] at hloop2
        have HL2 := Lib.hid hloop2
        have hkn' : (k : Int) < (n : Int) := by omega
        clear hf hf2 hloop2 HL hkn
        by_cases hl : leadsP (n : Int) q
        · have hq0 : 0 < q := by unfold leadsP at hl; omega
          by_cases hce : cnt = rest.length
          · have HR : Hid (S = ⟨link, q, 0, false, 0, cnt + 1, false, keyI q⟩) := by
              have h := HL2.out
              rw [show rest.drop cnt = [] from by rw [hce]; exact List.drop_length, goLoop_nil hl] at h
              exact h.symm
            have hce' : (cnt : Int) = (rest.length : Int) := by omega
            clear hce
            go_wp2_with fail
            refine (rleads_t hl).mono ?_
            rintro e w' ⟨rfl, rfl⟩
            go_wp2_with fail
            refine (rleads_t hl).mono ?_
            rintro e w' ⟨rfl, rfl⟩
            go_wp2_with fail
            refine (rkey_calls _ q (lead0 hl) (lead1 hl hm1)).mono ?_
            rintro e w' ⟨rfl, rfl⟩
            go_wp2
            exact bodyPost_ret (results_cell_row rfl _ _ _ _ _ _ _ rfl (heap_set (heap_set (heap_set (heap_set (heap_set (heap_set (heap_set (heap_set (heap_set_other HRS.out (by simp)))))))))) Try.underlying86 rfl infoWay) rfl ⟨by rw [HR.out]; (simp [WayR.cells] <;> omega), (below_set (below_set (below_set (below_set (below_set (below_set (below_set (below_set (below_set BEL.out (by omega) _) (Nat.le_refl _) _) (Nat.le_refl _) _) (Nat.le_refl _) _) (Nat.le_refl _) _) (Nat.le_refl _) _) (Nat.le_refl _) _) (Nat.le_refl _) _) (Nat.le_refl _) _)⟩
          · have hcl2 : cnt < rest.length := by omega
            have hcn : ¬ ((cnt : Int) = (rest.length : Int)) := by omega
            have hclt : (cnt : Int) + 1 < (rest.length : Int) + 1 := by omega
            have hd := drop_at hcl2
            have hv0 := (BEL.out.cell (p := ⟨b, off + 1 + cnt, none⟩) hbs).trans (CS.out cnt hcl2)
            rw [Nat.add_assoc, Nat.add_comm 1 cnt] at hv0
            generalize rest.getD cnt 0 = v at *
            have HD := Lib.hid hd
            clear hd hce
            by_cases hkv : key ≤ v
            · have HR : Hid (S = ⟨link, q, q, v == key, v, cnt + 1 + 1, true, 0⟩) := by
                have h := HL2.out
                rw [HD.out, goLoop_hit hl hkv] at h
                exact h.symm
              go_wp2_with fail
              refine (rleads_t hl).mono ?_
              rintro e w' ⟨rfl, rfl⟩
              go_wp2_with fail
              refine (rleads_t hl).mono ?_
              rintro e w' ⟨rfl, rfl⟩
              go_wp2
              exact bodyPost_ret (results_cell_row rfl _ _ _ _ _ _ _ rfl (heap_set (heap_set (heap_set (heap_set (heap_set (heap_set (heap_set (heap_set (heap_set_other (heap_set_other (heap_set_other (heap_set_other (heap_set_other HRS.out (by simp)) (by simp)) (by simp)) (by simp)) (by simp)))))))))) Try.underlying86 rfl infoWay) rfl ⟨by rw [HR.out]; (simp [WayR.cells] <;> omega), (below_set (below_set (below_set (below_set (below_set (below_set (below_set (below_set (below_set (below_set (below_set (below_set (below_set BEL.out (by omega) _) (by omega) _) (by omega) _) (by omega) _) (by omega) _) (Nat.le_refl _) _) (Nat.le_refl _) _) (Nat.le_refl _) _) (Nat.le_refl _) _) (Nat.le_refl _) _) (Nat.le_refl _) _) (Nat.le_refl _) _) (Nat.le_refl _) _)⟩
            · by_cases hce2 : cnt + 1 = rest.length
              · have HR : Hid (S = ⟨linkI q, q, 0, false, 0, cnt + 1 + 1, false, linkI q⟩) := by
                  have h := HL2.out
                  rw [HD.out, show rest.drop (cnt + 1) = [] from by rw [hce2]; exact List.drop_length, goLoop_end hl hkv] at h
                  exact h.symm
                have hce3 : (cnt : Int) + 1 = (rest.length : Int) := by omega
                have hv1 : wr.cell? ⟨b, off + rest.length, none⟩ = some (.int .i64 v) := by rw [← hce2]; exact hv0
                clear hce2
                go_wp2_with fail
                refine (rleads_t hl).mono ?_
                rintro e w' ⟨rfl, rfl⟩
                go_wp2_with fail
                refine (rleads_t hl).mono ?_
                rintro e w' ⟨rfl, rfl⟩
                go_wp2_with fail
                refine (rlink_calls _ q (lead0 hl) (lead1 hl hm1)).mono ?_
                rintro e w' ⟨rfl, rfl⟩
                go_wp2
                exact bodyPost_ret (results_cell_row rfl _ _ _ _ _ _ _ rfl (heap_set (heap_set (heap_set (heap_set (heap_set (heap_set (heap_set (heap_set (heap_set_other (heap_set_other (heap_set_other HRS.out (by simp)) (by simp)) (by simp)))))))))) Try.underlying86 rfl infoWay) rfl ⟨by rw [HR.out]; (simp [WayR.cells] <;> omega), (below_set (below_set (below_set (below_set (below_set (below_set (below_set (below_set (below_set (below_set (below_set BEL.out (by omega) _) (by omega) _) (by omega) _) (Nat.le_refl _) _) (Nat.le_refl _) _) (Nat.le_refl _) _) (Nat.le_refl _) _) (Nat.le_refl _) _) (Nat.le_refl _) _) (Nat.le_refl _) _) (Nat.le_refl _) _)⟩
              · have hcl3 : cnt + 1 < rest.length := by omega
                have hcn3 : ¬ ((cnt : Int) + 1 = (rest.length : Int)) := by omega
                have hclt3 : (cnt : Int) + 1 + 1 < (rest.length : Int) + 1 := by omega
                have hd2 := drop_at hcl3
                have hu0 := (BEL.out.cell (p := ⟨b, off + 1 + (cnt + 1), none⟩) hbs).trans (CS.out (cnt + 1) hcl3)
                rw [Nat.add_assoc, Nat.add_comm 1 (cnt + 1)] at hu0
                generalize rest.getD (cnt + 1) 0 = u at *
                have HR : Hid (goLoop key n (n - (k + 1)) (linkI q) u (cnt + 2 + 1) (rest.drop (cnt + 2)) = S) := by
                  have h := HL2.out
                  rw [HD.out, hd2, goLoop_on hl hkv] at h
                  rw [HF2.out]
                  exact h
                clear hd2 hce2
                go_wp2_with fail
                refine (rleads_t hl).mono ?_
                rintro e w' ⟨rfl, rfl⟩
                go_wp2_with fail
                refine (rleads_t hl).mono ?_
                rintro e w' ⟨rfl, rfl⟩
                go_wp2_with fail
                refine (rlink_calls _ q (lead0 hl) (lead1 hl hm1)).mono ?_
                rintro e w' ⟨rfl, rfl⟩
                go_wp2
                go_roundg (n - k)
                case measure => have := HN.out; omega
                case rel => exact ⟨k + 1, cnt + 2, linkI q, u, by go_num, by omega, by omega, by omega, HR.out, heap_set (heap_set (heap_set (heap_set HBX.out))), heap_set_other (heap_set_other (heap_set_other (heap_set_other HRS.out (by simp)) (by simp)) (by simp)) (by simp), below_set (below_set (below_set (below_set BEL.out (by omega) _) (by omega) _) (by omega) _) (by omega) _⟩
        · have HR : Hid (S = ⟨link, q, 0, false, 0, cnt + 1, true, 0⟩) := by have h := HL2.out; rw [goLoop_out hl] at h; exact h.symm
          go_wp2_with fail
          refine (rleads_f hl).mono ?_
          rintro e w' ⟨rfl, rfl⟩
          go_wp2
          exact bodyPost_ret (results_cell_row rfl _ _ _ _ _ _ _ rfl (heap_set (heap_set (heap_set (heap_set (heap_set (heap_set (heap_set (heap_set (heap_set_other HRS.out (by simp)))))))))) Try.underlying86 rfl infoWay) rfl ⟨by rw [HR.out]; (simp [WayR.cells] <;> omega), (below_set (below_set (below_set (below_set (below_set (below_set (below_set (below_set (below_set BEL.out (by omega) _) (Nat.le_refl _) _) (Nat.le_refl _) _) (Nat.le_refl _) _) (Nat.le_refl _) _) (Nat.le_refl _) _) (Nat.le_refl _) _) (Nat.le_refl _) _) (Nat.le_refl _) _)⟩

end Go.Proofs.Ytihlbhlagpmbjaa
