/- The walk of the law CounterMeans. -/
import Derived.Test.YtojenaghbfidlaaDone
import Derived.Test.YtojenaghbfidlaaCallsF
import Derived.Test.YtojenaghbfidlaaShape15
import Derived.OwnWalk
import Derived.Deep.RegionHeld3
import Derived.Outline
import Derived.BigRegion
namespace Go.Proofs.Ytojenaghbfidlaa
open Go.RowKit

theorem run_out15 {base most call : Int} {xs cs : List Int} (h : xs.getD 0 0 < 0 ∨ most ≤ xs.getD 0 0) : runM base 3 (initM base most call xs) 0 cs = ⟨0, 1, true, cs⟩ := by
  have e : initM base most call xs = ⟨0, false, 0, 3, ⟨6, 0, 0, 1⟩⟩ := if_pos h
  rw [e, run_end (x := ⟨6, 0, 0, 1⟩) rfl rfl]

theorem run_get15 {most : Int} {xs ws : List Int} {ahead i : Nat} (hi : xs.getD 0 0 = i) (hm : (i : Int) < most) (hl : (ws.length : Int) = most) :
    runM ahead 3 (initM ahead most 2 xs) 0 (List.replicate ahead 0 ++ ws) = ⟨wrap64 (ws.getD i 0 + 0), 0, true, List.replicate ahead 0 ++ ws⟩ := by
  have e : initM ahead most 2 xs = ⟨(ahead : Int) + i, false, 0, 0, w0⟩ := by unfold initM; rw [hi, if_neg (by omega)]; rfl
  have hn : ¬ (((ahead : Int) + i) < (ahead : Int) ∨ ((List.replicate ahead 0 ++ ws).length : Int) ≤ (ahead : Int) + i) := by simp; omega
  have ht : ((ahead : Int) + (i : Int)).toNat = ahead + i := by omega
  have hg : (List.replicate ahead 0 ++ ws).getD (ahead + i) 0 = ws.getD i 0 := by
    rw [List.getD_eq_getElem?_getD, List.getElem?_append_right (by simp)]
    simp [List.getD_eq_getElem?_getD]
  rw [e, run_read (x := readS ((ahead : Int) + i)) rfl rfl hn]
  simp only [readS]
  rw [ht, hg]
  exact run_end (x := ⟨6, 0, wrap64 (ws.getD i 0 + 0), 0⟩) (by simp [outM, stepM]) rfl

theorem run_add15 {most : Int} {xs ws : List Int} {ahead i : Nat} (hi : xs.getD 0 0 = i) (hm : (i : Int) < most) (hl : (ws.length : Int) = most) :
    runM ahead 3 (initM ahead most 1 xs) 0 (List.replicate ahead 0 ++ ws) = ⟨wrap64 (ws.getD i 0 + xs.getD 1 0), 0, true, List.replicate ahead 0 ++ ws.set i (wrap64 (ws.getD i 0 + xs.getD 1 0))⟩ := by
  have e : initM ahead most 1 xs = ⟨(ahead : Int) + i, true, xs.getD 1 0, 0, w0⟩ := by unfold initM; rw [hi, if_neg (by omega)]; rfl
  have hn : ¬ (((ahead : Int) + i) < (ahead : Int) ∨ ((List.replicate ahead 0 ++ ws).length : Int) ≤ (ahead : Int) + i) := by simp; omega
  have ht : ((ahead : Int) + (i : Int)).toNat = ahead + i := by omega
  have hg : (List.replicate ahead 0 ++ ws).getD (ahead + i) 0 = ws.getD i 0 := by
    rw [List.getD_eq_getElem?_getD, List.getElem?_append_right (by simp)]
    simp [List.getD_eq_getElem?_getD]
  have hs : ∀ x, (List.replicate ahead 0 ++ ws).set (ahead + i) x = List.replicate ahead 0 ++ ws.set i x := fun x => by
    rw [List.set_append_right _ _ (by simp)]
    simp
  rw [e, run_read (x := readS ((ahead : Int) + i)) rfl rfl hn]
  simp only [readS]
  rw [ht, hg]
  rw [run_put (x := putS ((ahead : Int) + i) (wrap64 (ws.getD i 0 + xs.getD 1 0))) (by simp [outM, stepM]) (by simp [putS]) (by simp [putS]) hn]
  simp only [putS]
  rw [ht, hs]
  exact run_end (x := ⟨6, 0, wrap64 (ws.getD i 0 + xs.getD 1 0), 0⟩) (by simp [outM, stepM]) rfl

theorem cells_of_own {w : World} {base g c : Nat} {cs : List Int} (h : w.ownsRow base 2 1 (.slice (some ⟨g, 0, none⟩) cs.length c) cs.length (cs.map (Value.int .i64))) : Cells w g cs := by
  rcases h.2 with ⟨h3, _⟩ | ⟨g', cap, cur, hv, hb, hg, hnc, _, hcs, htk⟩
  · cases h3
  · injection hv with e1 _ _
    injection e1 with e1
    injection e1 with e1 _ _
    subst e1
    refine ⟨cur, hg, by omega, fun i hi => ?_⟩
    have h1 : (cur.toList.take (cs.length * 1))[i]? = (cs.map (Value.int .i64))[i]? := by rw [htk]
    rw [Nat.mul_one, List.getElem?_take, if_pos hi] at h1
    simp [List.getD_eq_getElem?_getD, hi] at h1 ⊢
    exact h1

theorem mk_at (n : Nat) (L : Int) (hL : L = n) (hn : n ≤ 1000) (w : World) : (Instr.makeSlice 24 (.int .i64 L) (.int .i64 L)).run Try.prog w = .ok (.slice (some ⟨w.heap.size, 0, none⟩) n n) (w.alloc (.cells (madeCells #[.int .i64 0] n) 2)) := by
  subst hL
  obtain ⟨i0, hi, hz0, hz1, hz2⟩ := info_parts infoI64
  have h := run_make (P := Try.prog) (w := w) 24 2 i0 (.int .i64 0) Try.underlying24 hi hz0 .i64 .i64 n n (by omega) (by omega) (by rw [hz2]; omega) (by omega)
  rw [hz1, Int.toNat_natCast, Nat.mul_one] at h
  exact h
theorem cells_made {w : World} {g n : Nat} (h : w.heap[g]? = some (.cells (madeCells #[.int .i64 0] n) 2 (0, 0))) : Cells w g (List.replicate n 0) := by
  refine ⟨_, h, by simp [size_madeCells], fun i hi => ?_⟩
  have hi' : i < n := by simpa using hi
  unfold madeCells
  simp [hi', Nat.mod_one]

theorem just_quiet {f : FuncId} {args : Array Value} {w : World} {n : Nat} {v : Value} (h : ∀ W, Calls Try.prog f args W (Just v W)) :
    Calls Try.prog f args (w.drewN n) fun e w'' => e = .returned v ∧ ∃ m, w'' = w.drewN m := (h _).mono fun _ _ ⟨h1, h2⟩ => ⟨h1, n, h2.symm⟩

set_option maxRecDepth 100000 in
set_option maxHeartbeats 8000000 in
theorem Means_walk (w : World) (most ahead : Int) (v : Value) (cl : List CallS) (hc : ReadsC w w.heap.size v cl) : Calls Try.prog 10 #[.int .i64 most, .int .i64 ahead, v] w (True_ w) := by
  obtain ⟨hcl, a, cp, rfl, hcp, hcr⟩ := hc
  have HCR := Lib.hid hcr
  clear hcr
  by_cases hok : 0 ≤ most ∧ most ≤ 16 ∧ 0 ≤ ahead ∧ ahead ≤ 100
  · obtain ⟨m0, m1, a0, a1⟩ := hok
    obtain ⟨nm, rfl⟩ := Int.eq_ofNat_of_zero_le m0
    obtain ⟨na, rfl⟩ := Int.eq_ofNat_of_zero_le a0
    obtain ⟨i0, hi, hz0, hz1, hz2⟩ := info_parts infoI64
    go_enter Try.func10, Try.ntmps10
    have hmk1 := fun w => mk_at (na + nm) ((na : Int) + (nm : Int)) (by omega) (by omega) w
    have hmk2 := fun w => mk_at nm (nm : Int) rfl (by omega) w
    have hnn : (na : Int) + (nm : Int) ≤ 116 := by omega
    go_wp2
    go_loopg [9] (cl.length + 1) (fun n v9 wr => ∃ (k : Nat) (ws : List Int), k ≤ cl.length ∧ v9 = .int .i64 k ∧ n + k = cl.length + 1 ∧ ws.length = nm ∧ (∀ x ∈ ws, In64 x) ∧ Cells wr w.heap.size (List.replicate na 0 ++ ws) ∧ Cells wr (w.heap.size + 1) ws ∧ Below w.heap.size w wr)
    case atStart => exact ⟨0, List.replicate nm 0, Nat.zero_le _, rfl, rfl, by simp, by simp [In64], by rw [List.replicate_append_replicate]; exact cells_made (heap_old (heap_new rfl)), cells_made (heap_new (by simp)), below_alloc_of (below_alloc _ _) _⟩
    case round =>
      obtain ⟨k, ws, hk, rfl, hn, hwl, hwr, hC1, hC2, bel⟩ := hrel
      have HN := Lib.hid hn
      have HWL := Lib.hid hwl
      have HWR := Lib.hid hwr
      have HC1 := Lib.hid hC1
      have HC2 := Lib.hid hC2
      have hg1 := hC1.lt
      have hg2 := hC2.lt
      clear hn hwl hwr hC1 hC2
      by_cases hlt : k < cl.length
      · rcases HCR.out with h | ⟨b, off, rfl, hbB, hcell⟩
        · exact absurd hlt (by rw [h]; simp)
        obtain ⟨hc0, hc1, hra⟩ := hcell k hlt
        have hd0 := (bel.cell (p := ⟨b, off + k * 2, none⟩) (by simp; omega)).trans hc0
        have hd1 := (bel.cell (p := ⟨b, off + k * 2 + 1, none⟩) (by simp; omega)).trans hc1
        clear hc0 hc1
        generalize cl.getD k noCall = C at *
        obtain ⟨call, av, xs⟩ := C
        dsimp only at hd0 hd1 hra
        have hbs : b < wr.heap.size := by have := bel.size; omega
        have hlt' : (k : Int) < (cl.length : Int) := by omega
        have HRA := Lib.hid hra
        obtain ⟨hxl, hxr, aA, cA, rfl, hcA, hxc⟩ := hra
        have HXC := Lib.hid hxc
        have HXR := Lib.hid hxr
        clear hcell hxc hxr
        by_cases har : arityI call = (xs.length : Int)
        · have har' : (arityI call != (xs.length : Int)) = false := by simpa using har
          have hyes : takesB na nm (arityI call) xs.length = true := takesB_t (by omega) (by omega) (by omega) (by omega) har
          have hlen : (List.replicate na 0 ++ ws).length = na + nm := by rw [List.length_append, List.length_replicate, HWL.out]
          have HD : ∀ w', Below w.heap.size w w' → Cells w' w.heap.size (List.replicate na 0 ++ ws) → Calls Try.prog 24 #[.slice (some ⟨w.heap.size, 0, none⟩) (na + nm) (na + nm), .int .i64 (na : Int), .int .i64 (nm : Int), .int .i64 call, .slice aA xs.length cA] w' (DonePost_ w.heap.size (runM na 3 (initM na nm call xs) 0 (List.replicate na 0 ++ ws)) w') := fun w' hb hc => by
            have h := done_calls w' w.heap.size w.heap.size (na + nm) na nm call (.slice aA xs.length cA) xs (List.replicate na 0 ++ ws) (HRA.out.below hb) hb.size hc (by rw [hlen]; omega) hyes
            rw [hlen] at h
            exact h
          have HDD := Lib.hid (fun q => HD (wr.drewN q) (bel.trans ⟨rfl, rfl, rfl, Nat.le_refl _, fun _ _ => rfl⟩) (HC1.out.keep rfl))
          have hcase : call = 1 ∧ xs.length = 2 ∨ call = 2 ∧ xs.length = 1 := by
            have h := har
            unfold arityI at h
            split at h
            · left; omega
            · split at h
              · right; omega
              · omega
          have hx1 : 1 ≤ xs.length := by omega
          obtain ⟨bA, oA, rfl, hbA, hxcell⟩ : ∃ bA oA, aA = some ⟨bA, oA, none⟩ ∧ bA < w.heap.size ∧ ∀ i, i < xs.length → w.cell? ⟨bA, oA + i, none⟩ = some (.int .i64 (xs.getD i 0)) := by
            rcases HXC.out with h | h
            · rw [h] at hx1; simp at hx1
            · exact h
          have hx00 := hxcell 0 (by omega)
          rw [Nat.add_zero] at hx00
          have HX0 := Lib.hid hx00
          have HX1 := Lib.hid (fun h : call = 1 => hxcell 1 (by omega))
          clear hxcell HD hlen hx00
          by_cases hout : xs.getD 0 0 < 0 ∨ (nm : Int) ≤ xs.getD 0 0
          · have hrun := run_out15 (base := (na : Int)) (most := (nm : Int)) (call := call) (cs := List.replicate na 0 ++ ws) hout
            rw [hrun] at HDD
            clear hrun
            have HX0' := HX0.out
            generalize xs.getD 0 0 = x0 at *
            have HX0 := Lib.hid HX0'
            have HC00 := Lib.hid hd0
            have HC01 := Lib.hid hd1
            clear HX0'
            rcases (show x0 < 0 ∨ (0 ≤ x0 ∧ (nm : Int) ≤ x0) from by omega) with hz | ⟨hz, hz'⟩
            all_goals
             clear hout
             go_wp2
             go_quiet ((go_at_call 23; exact just_quiet (fun W => Arity_calls _ W)))
             go_wp2
             go_region_held3 (fun w' => w'.cell? ⟨b, off + k * 2, none⟩ = some (.int .i64 call) ∧ w'.cell? ⟨b, off + k * 2 + 1, none⟩ = some (.slice (some ⟨bA, oA, none⟩) xs.length cA)) (go_keep) (first | (go_at_call 24; refine (HDD.out _).mono ?_; rintro e2 w2 ⟨rfl, hg2, hcl2⟩; have k0 := (hg2.cell_far ⟨b, off + k * 2, none⟩ (by simp; omega) (by simp; omega)); have k1 := (hg2.cell_far ⟨b, off + k * 2 + 1, none⟩ (by simp; omega) (by simp; omega)); have KX := Lib.hid (hg2.cell_far ⟨bA, oA, none⟩ (by simp; omega) (by simp; omega)); have HG2 := Lib.hid hg2; have HCL2 := Lib.hid hcl2))
             have hxa : w2.cell? ⟨bA, oA, none⟩ = some (.int .i64 x0) := KX.out.trans ((bel.cell (p := ⟨bA, oA, none⟩) hbA).trans HX0.out)
             have c20 : w2.cell? ⟨b, off + k * 2, none⟩ = some (.int .i64 call) := k0.trans HC00.out
             have c21 : w2.cell? ⟨b, off + k * 2 + 1, none⟩ = some (.slice (some ⟨bA, oA, none⟩) xs.length cA) := k1.trans HC01.out
             have bel2 : Below w.heap.size w w2 := bel.trans (show Below w.heap.size wr w2 from ⟨HG2.out.os, HG2.out.tape, HG2.out.output, HG2.out.size, fun q hq => HG2.out.block q (by have := bel.size; show q < wr.heap.size; omega) (fun e => by injection e with e; omega)⟩)
             have HC22 : Hid (Cells w2 (w.heap.size + 1) ws) := HC2.out.keep (HG2.out.block (w.heap.size + 1) (by show _ < wr.heap.size; omega) (fun e => by injection e with e; omega))
             clear k0 k1 hcl2 hg2
             go_wp2
             go_roundg (cl.length - k)
             case measure => have := HN.out; omega
             case rel => exact ⟨k + 1, ws, by omega, by go_num, by omega, HWL.out, HWR.out, HCL2.out, HC22.out, bel2⟩
          · obtain ⟨i, hi⟩ := Int.eq_ofNat_of_zero_le (show 0 ≤ xs.getD 0 0 by omega)
            have him : (i : Int) < (nm : Int) := by omega
            have hiw : i < ws.length := by have := HWL.out; omega
            have hu64 : In64 (ws.getD i 0) := HWR.out _ (by simp [List.getD_eq_getElem?_getD, hiw])
            have HX0' := HX0.out
            rw [hi] at HX0'
            have HX0 := Lib.hid HX0'
            have HC00 := Lib.hid hd0
            have HC01 := Lib.hid hd1
            rcases hcase with ⟨rfl, hx2⟩ | ⟨rfl, hx2⟩
            · have hrun := run_add15 (xs := xs) (ws := ws) (ahead := na) (most := (nm : Int)) hi him (by have := HWL.out; omega)
              rw [hrun] at HDD
              have hx1' := HX1.out rfl
              have HX1' := Lib.hid hx1'
              have HI := Lib.hid hi
              have hx2' : (1 : Int) < (xs.length : Int) := by omega
              generalize hv1 : xs.getD 1 0 = d at *
              generalize hu : ws.getD i 0 = u at *
              have HU := Lib.hid hu
              have hset : In64 (wrap64 (u + d)) := by unfold In64 wrap64; omega
              have HSET : Hid (∀ x ∈ ws.set i (wrap64 (u + d)), In64 x) := fun x hx => by
                rcases List.mem_or_eq_of_mem_set hx with h | h
                · exact HWR.out x h
                · rw [h]; exact hset
              generalize hVV : wrap64 (u + d) = V at *
              have HVV := Lib.hid hVV
              clear hrun hi HX0' hout hx1' hv1 hu hset hVV hx2 har hyes
              go_wp2
              go_quiet ((go_at_call 23; exact just_quiet (fun W => Arity_calls _ W)))
              go_wp2
              go_region_held3 (fun w' => w'.cell? ⟨b, off + k * 2, none⟩ = some (.int .i64 1) ∧ w'.cell? ⟨b, off + k * 2 + 1, none⟩ = some (.slice (some ⟨bA, oA, none⟩) xs.length cA)) (go_keep) (first | (go_at_call 24; refine (HDD.out _).mono ?_; rintro e2 w2 ⟨rfl, hg2, hcl2⟩; have k0 := (hg2.cell_far ⟨b, off + k * 2, none⟩ (by simp; omega) (by simp; omega)); have k1 := (hg2.cell_far ⟨b, off + k * 2 + 1, none⟩ (by simp; omega) (by simp; omega)); have KX := Lib.hid (hg2.cell_far ⟨bA, oA, none⟩ (by simp; omega) (by simp; omega)); have KY := Lib.hid (hg2.cell_far ⟨bA, oA + 1, none⟩ (by simp; omega) (by simp; omega)); have HG2 := Lib.hid hg2; have HCL2 := Lib.hid hcl2))
              have hxa : w2.cell? ⟨bA, oA, none⟩ = some (.int .i64 (i : Int)) := KX.out.trans ((bel.cell (p := ⟨bA, oA, none⟩) hbA).trans HX0.out)
              have c20 : w2.cell? ⟨b, off + k * 2, none⟩ = some (.int .i64 1) := k0.trans HC00.out
              have c21 : w2.cell? ⟨b, off + k * 2 + 1, none⟩ = some (.slice (some ⟨bA, oA, none⟩) xs.length cA) := k1.trans HC01.out
              have bel2 : Below w.heap.size w w2 := bel.trans (show Below w.heap.size wr w2 from ⟨HG2.out.os, HG2.out.tape, HG2.out.output, HG2.out.size, fun q hq => HG2.out.block q (by have := bel.size; show q < wr.heap.size; omega) (fun e => by injection e with e; omega)⟩)
              have HC22 : Hid (Cells w2 (w.heap.size + 1) ws) := HC2.out.keep (HG2.out.block (w.heap.size + 1) (by show _ < wr.heap.size; omega) (fun e => by injection e with e; omega))
              clear k0 k1 hcl2 hg2
              have hwc : w2.cell? ⟨w.heap.size + 1, i, none⟩ = some (.int .i64 u) := by have h := HC22.out.cell hiw; rw [HU.out] at h; exact h
              have hwf := HC22.out.frozen i
              have hxb : w2.cell? ⟨bA, oA + 1, none⟩ = some (.int .i64 d) := KY.out.trans ((bel.cell (p := ⟨bA, oA + 1, none⟩) hbA).trans HX1'.out)
              have hnb : b ≠ w.heap.size + 1 := by omega
              have hnA : bA ≠ w.heap.size + 1 := by omega
              have HC23 := Lib.hid (HC22.out.set hiw V)
              have hVw : IntKind.i64.wrap (u + d) = V := by rw [← HVV.out]; first | rfl | (rw [IntKind.wrap_i64]; unfold wrap64; omega)
              go_wp2
              go_region
              all_goals
                go_wp2
                go_roundg (cl.length - k)
                case measure => have := HN.out; omega
                case rel => exact ⟨k + 1, ws.set i V, by omega, by go_num, by omega, by rw [List.length_set]; exact HWL.out, HSET.out, HCL2.out.keep (heap_setCell_other w2 ⟨w.heap.size + 1, i, none⟩ w.heap.size _ (by simp)), HC23.out, (bel2.setCell (p := ⟨w.heap.size + 1, i, none⟩) (by simp) _).trans ⟨rfl, rfl, rfl, Nat.le_refl _, fun _ _ => rfl⟩⟩
            · have hrun := run_get15 (xs := xs) (ws := ws) (ahead := na) (most := (nm : Int)) hi him (by have := HWL.out; omega)
              rw [Int.add_zero, wrap_in hu64] at hrun
              rw [hrun] at HDD
              generalize hu : ws.getD i 0 = u at *
              have HU := Lib.hid hu
              clear hrun hi HX0' hout hu hx2 har hyes
              go_wp2
              go_quiet ((go_at_call 23; exact just_quiet (fun W => Arity_calls _ W)))
              go_wp2
              go_region_held3 (fun w' => w'.cell? ⟨b, off + k * 2, none⟩ = some (.int .i64 2) ∧ w'.cell? ⟨b, off + k * 2 + 1, none⟩ = some (.slice (some ⟨bA, oA, none⟩) xs.length cA)) (go_keep) (first | (go_at_call 24; refine (HDD.out _).mono ?_; rintro e2 w2 ⟨rfl, hg2, hcl2⟩; have k0 := (hg2.cell_far ⟨b, off + k * 2, none⟩ (by simp; omega) (by simp; omega)); have k1 := (hg2.cell_far ⟨b, off + k * 2 + 1, none⟩ (by simp; omega) (by simp; omega)); have KX := Lib.hid (hg2.cell_far ⟨bA, oA, none⟩ (by simp; omega) (by simp; omega)); have HG2 := Lib.hid hg2; have HCL2 := Lib.hid hcl2))
              have hxa : w2.cell? ⟨bA, oA, none⟩ = some (.int .i64 (i : Int)) := KX.out.trans ((bel.cell (p := ⟨bA, oA, none⟩) hbA).trans HX0.out)
              have c20 : w2.cell? ⟨b, off + k * 2, none⟩ = some (.int .i64 2) := k0.trans HC00.out
              have c21 : w2.cell? ⟨b, off + k * 2 + 1, none⟩ = some (.slice (some ⟨bA, oA, none⟩) xs.length cA) := k1.trans HC01.out
              have bel2 : Below w.heap.size w w2 := bel.trans (show Below w.heap.size wr w2 from ⟨HG2.out.os, HG2.out.tape, HG2.out.output, HG2.out.size, fun q hq => HG2.out.block q (by have := bel.size; show q < wr.heap.size; omega) (fun e => by injection e with e; omega)⟩)
              have HC22 : Hid (Cells w2 (w.heap.size + 1) ws) := HC2.out.keep (HG2.out.block (w.heap.size + 1) (by show _ < wr.heap.size; omega) (fun e => by injection e with e; omega))
              clear k0 k1 hcl2 hg2
              have hwc : w2.cell? ⟨w.heap.size + 1, i, none⟩ = some (.int .i64 u) := by have h := HC22.out.cell hiw; rw [HU.out] at h; exact h
              go_wp2
              go_roundg (cl.length - k)
              case measure => have := HN.out; omega
              case rel => exact ⟨k + 1, ws, by omega, by go_num, by omega, HWL.out, HWR.out, HCL2.out, HC22.out, bel2⟩
        · have har' : (arityI call != (xs.length : Int)) = true := by simpa using har
          clear har
          go_wp2
          go_quiet ((go_at_call 23; exact just_quiet (fun W => Arity_calls _ W)))
          go_wp2
          go_roundg (cl.length - k)
          case measure => have := HN.out; omega
          case rel => exact ⟨k + 1, ws, by omega, by go_num, by omega, HWL.out, HWR.out, HC1.out, HC2.out, bel.trans ⟨rfl, rfl, rfl, Nat.le_refl _, fun _ _ => rfl⟩⟩
      · have hwr2 : wr.heap.size = wr.heap.size := rfl
        have hrd : ∀ (A : Option Addr) (c : Nat), nm ≤ c → (0 < nm → A = some ⟨w.heap.size, na, none⟩) → Reads wr wr.heap.size (.slice A nm c) ws := fun A c h1 h2 => by
          refine ⟨by have := HWL.out; omega, HWR.out, A, c, by rw [HWL.out], by have := HWL.out; omega, ?_⟩
          rcases Nat.eq_zero_or_pos nm with hz | hz
          · exact .inl (List.eq_nil_of_length_eq_zero (by have := HWL.out; omega))
          · refine .inr ⟨w.heap.size, na, h2 hz, hg1, fun i hi => ?_⟩
            have h := HC1.out.cell (i := na + i) (by rw [List.length_append, List.length_replicate]; omega)
            rw [h, List.getD_eq_getElem?_getD, List.getElem?_append_right (by simp)]
            simp [List.getD_eq_getElem?_getD]
        have HRD := Lib.hid hrd
        clear hrd
        rcases Nat.eq_zero_or_pos nm with hz | hz
        · subst hz
          have hsh : shapeOk 0 ws = true := decide_eq_true ⟨⟨by omega, by omega⟩, by rw [sizeI_in (by omega) (by omega), HWL.out]; rfl⟩
          have HSC := Shape_calls wr wr.heap.size 0 (.slice (some ⟨w.heap.size, 0, none⟩) 0 0) ws (HRD.out _ 0 (Nat.le_refl _) (fun h => by omega)) (Nat.le_refl _)
          rw [if_pos hsh] at HSC
          have HSCC := Lib.hid HSC
          have hrw : Reads wr wr.heap.size (.slice (some ⟨w.heap.size + 1, 0, none⟩) 0 0) ws := by
            refine ⟨by have := HWL.out; omega, HWR.out, _, 0, by rw [HWL.out], by have := HWL.out; omega, .inr ⟨w.heap.size + 1, 0, rfl, hg2, fun i hi => ?_⟩⟩
            rw [Nat.zero_add]
            exact HC2.out.cell hi
          have HRW := Lib.hid hrw
          have hz0 : ∀ j, j < na → wr.cell? ⟨w.heap.size, j, none⟩ = some (.int .i64 0) := fun j hj => by
            rw [HC1.out.cell (by rw [List.length_append, List.length_replicate]; omega), List.getD_eq_getElem?_getD, List.getElem?_append_left (by simpa using hj)]
            simp [hj]
          have HZ0 := Lib.hid hz0
          clear HSC hsh hrw hz0
          go_wp2_with fail
          refine HSCC.out.mono ?_
          rintro e2 w2 ⟨a2, n2, c2, rfl, own2, hb2⟩
          have HO2 := Lib.hid (own2.reads (by have := HWL.out; omega) HWR.out)
          have hsz2 := hb2.size
          clear own2
          go_wp2_with fail
          refine (SameNumbers_calls _ _ _ _ ws ws (HO2.out.below (below_alloc _ _)) (((HRW.out.below hb2).mono hsz2).below (below_alloc _ _))).mono ?_
          rintro e3 w3 ⟨rfl, hb3⟩
          rw [decide_eq_true rfl]
          have hg3 := box_keep hb3 (heap_new (w := w2) rfl)
          obtain ⟨⟨d0, d1, d2⟩, -, hlt3⟩ := box3 hg3
          have bel3 : Below wr.heap.size wr w3 := hb2.trans ((below_trans (below_alloc _ _) hb3).mono hsz2)
          have HB3 := Lib.hid bel3
          clear hg3 hb2 hb3 bel3
          go_wp2
          go_loop [18, 19] (fun vs vj => ∃ j : Nat, j ≤ na ∧ vj = .int .i64 j ∧ vs = .bool true) (fun _ vj => na - (intOf vj).toNat)
          case atStart => exact ⟨0, Nat.zero_le _, rfl, rfl⟩
          case round =>
            obtain ⟨j, hj, rfl, rfl⟩ := hrel
            by_cases hjn : j < na
            · have hcj := (HB3.out.cell (p := ⟨w.heap.size, j, none⟩) hg1).trans (HZ0.out j hjn)
              have hjn' : (j : Int) < (na : Int) := by omega
              go_wp2
              go_round
              case rel => exact ⟨j + 1, by omega, by go_num, rfl⟩
              case measure => simp [intOf]; omega
            · go_wp2
              go_ret
              exact ⟨rfl, bel.trans (HB3.out.mono bel.size)⟩
        · have hne : ¬ (na + nm = na) := by omega
          have hsh : shapeOk (nm : Int) ws = true := decide_eq_true ⟨⟨by omega, by omega⟩, by rw [sizeI_in (by omega) (by omega), HWL.out]⟩
          have HSC := Shape_calls wr wr.heap.size nm (.slice (some ⟨w.heap.size, na, none⟩) nm nm) ws (HRD.out _ nm (Nat.le_refl _) (fun _ => rfl)) (Nat.le_refl _)
          rw [if_pos hsh] at HSC
          have HSCC := Lib.hid HSC
          have hrw : Reads wr wr.heap.size (.slice (some ⟨w.heap.size + 1, 0, none⟩) nm nm) ws := by
            refine ⟨by have := HWL.out; omega, HWR.out, _, nm, by rw [HWL.out], by have := HWL.out; omega, .inr ⟨w.heap.size + 1, 0, rfl, hg2, fun i hi => ?_⟩⟩
            rw [Nat.zero_add]
            exact HC2.out.cell hi
          have HRW := Lib.hid hrw
          have hz0 : ∀ j, j < na → wr.cell? ⟨w.heap.size, j, none⟩ = some (.int .i64 0) := fun j hj => by
            rw [HC1.out.cell (by rw [List.length_append, List.length_replicate]; omega), List.getD_eq_getElem?_getD, List.getElem?_append_left (by simpa using hj)]
            simp [hj]
          have HZ0 := Lib.hid hz0
          clear HSC hsh hrw hz0
          go_wp2_with fail
          refine HSCC.out.mono ?_
          rintro e2 w2 ⟨a2, n2, c2, rfl, own2, hb2⟩
          have HO2 := Lib.hid (own2.reads (by have := HWL.out; omega) HWR.out)
          have hsz2 := hb2.size
          clear own2
          go_wp2_with fail
          refine (SameNumbers_calls _ _ _ _ ws ws (HO2.out.below (below_alloc _ _)) (((HRW.out.below hb2).mono hsz2).below (below_alloc _ _))).mono ?_
          rintro e3 w3 ⟨rfl, hb3⟩
          rw [decide_eq_true rfl]
          have hg3 := box_keep hb3 (heap_new (w := w2) rfl)
          obtain ⟨⟨d0, d1, d2⟩, -, hlt3⟩ := box3 hg3
          have bel3 : Below wr.heap.size wr w3 := hb2.trans ((below_trans (below_alloc _ _) hb3).mono hsz2)
          have HB3 := Lib.hid bel3
          clear hg3 hb2 hb3 bel3
          go_wp2
          go_loop [18, 19] (fun vs vj => ∃ j : Nat, j ≤ na ∧ vj = .int .i64 j ∧ vs = .bool true) (fun _ vj => na - (intOf vj).toNat)
          case atStart => exact ⟨0, Nat.zero_le _, rfl, rfl⟩
          case round =>
            obtain ⟨j, hj, rfl, rfl⟩ := hrel
            by_cases hjn : j < na
            · have hcj := (HB3.out.cell (p := ⟨w.heap.size, j, none⟩) hg1).trans (HZ0.out j hjn)
              have hjn' : (j : Int) < (na : Int) := by omega
              go_wp2
              go_round
              case rel => exact ⟨j + 1, by omega, by go_num, rfl⟩
              case measure => simp [intOf]; omega
            · go_wp2
              go_ret
              exact ⟨rfl, bel.trans (HB3.out.mono bel.size)⟩
  · rcases (show most < 0 ∨ (0 ≤ most ∧ 16 < most) ∨ (0 ≤ most ∧ most ≤ 16 ∧ ahead < 0) ∨ (0 ≤ most ∧ most ≤ 16 ∧ 0 ≤ ahead ∧ 100 < ahead) from by omega) with h | ⟨h, h1⟩ | ⟨h, h1, h2⟩ | ⟨h, h1, h2, h3⟩
    all_goals
      clear hok
      go_enter Try.func10, Try.ntmps10
      go_wp2
      go_ret
      exact ⟨rfl, Below.refl _ _⟩

end Go.Proofs.Ytojenaghbfidlaa
