/- The walk of the law QueueMeans. -/
import Derived.Test.YtdacadhiogikdaaDone
import Derived.Test.YtdacadhiogikdaaCallsF
import Derived.Test.YtdacadhiogikdaaRefShape16
import Derived.Test.YtdacadhiogikdaaRow16
import Derived.OwnWalk
import Derived.Deep.RegionHeld3
import Derived.Outline
import Derived.BigRegion
namespace Go.Proofs.Ytdacadhiogikdaa
open Go.RowKit

theorem cells_of_own {w : World} {base g c : Nat} {cs : List Int} (h : w.ownsRow base 2 1 (.slice (some ⟨g, 0, none⟩) cs.length c) cs.length (cs.map (Value.int .i64))) : Cells w g cs := by
  rcases h.2 with ⟨h3, _⟩ | ⟨g', cap, cur, hv, hb, hg, hnc, _, hcs, htk⟩
  · cases h3
  · injection hv with e1 _ _
    injection e1 with e1
    injection e1 with e1 _ _
    subst e1
    refine ⟨cur, hg, by omega, fun i hi => ?_⟩
    have h1 : (cur.toList.take (cs.length * 1))[i]? = (cs.map (Value.int .i64))[i]? := by rw [htk]
    rw [Nat.mul_one, List.getElem?_take, if_pos hi] at h1
    simp [List.getD_eq_getElem?_getD, hi] at h1 ⊢
    exact h1
theorem own_open {w : World} {base : Nat} {v : Value} {cs : List Int} (h : Owns w base v cs) (hn : 0 < cs.length) : ∃ g c, v = .slice (some ⟨g, 0, none⟩) cs.length c ∧ base ≤ g ∧ g < w.heap.size ∧ Cells w g cs ∧ cs.length ≤ c := by
  have h0 := h
  rcases h.2 with ⟨_, h1⟩ | ⟨g', cap, cur, hv, hb, hg, hnc, _⟩
  · have h2 : cs.length = 0 := by simp at h1; simp [h1]
    omega
  · subst hv
    exact ⟨g', cap, rfl, hb, (Array.getElem?_eq_some_iff.1 hg).1, cells_of_own h0, hnc⟩

theorem just_quiet {f : FuncId} {args : Array Value} {w : World} {n : Nat} {v : Value} (h : ∀ W, Calls Try.prog f args W (Just v W)) :
    Calls Try.prog f args (w.drewN n) fun e w'' => e = .returned v ∧ ∃ m, w'' = w.drewN m := (h _).mono fun _ _ ⟨h1, h2⟩ => ⟨h1, n, h2.symm⟩

theorem bel_done {w wr w2 : World} {q g : Nat} (bel : Below w.heap.size w wr) (hg : w.heap.size ≤ g) (h : (wr.drewN q).grownBy w2 (some g)) : Below w.heap.size w w2 :=
  bel.trans ⟨h.os, h.tape, h.output, h.size, fun k hk => h.block k (by have := bel.size; show k < wr.heap.size; omega) (fun e => by injection e with e; omega)⟩

theorem own_done {wr w2 : World} {v : Value} {q g B : Nat} {xs : List Int} (h : Owns wr B v xs) (hg : g < B) (hgr : (wr.drewN q).grownBy w2 (some g)) : Owns w2 B v xs := by
  have h' : Owns (wr.drewN q) B v xs := h
  refine ⟨h.1, ?_⟩
  rcases h.2 with hn | ⟨g', cap, cur, hv, hb, hx, r⟩
  · exact .inl hn
  · exact .inr ⟨g', cap, cur, hv, hb, (hgr.block g' (Array.getElem?_eq_some_iff.1 hx).1 (fun e => by injection e with e; omega)).trans hx, r⟩

theorem own_set {w : World} {B p i : Nat} {v u : Value} {xs : List Int} (h : Owns w B v xs) (hp : p < B) : Owns (w.setCell ⟨p, i, none⟩ u) B v xs := by
  refine ⟨h.1, ?_⟩
  rcases h.2 with hn | ⟨g', cap, cur, hv, hb, hx, r⟩
  · exact .inl hn
  · exact .inr ⟨g', cap, cur, hv, hb, heap_set_other hx (by simp; omega), r⟩

set_option maxRecDepth 100000 in
set_option maxHeartbeats 4000000 in
theorem Means_bad (w : World) (most : Int) (v cv : Value) (xs : List Int) (hx : Reads w w.heap.size v xs) (hbad : (shapeS most xs).2.2 ≠ 0) :
    Calls Try.prog 10 #[.int .i64 most, v, cv] w (True_ w) := by
  have HX := Lib.hid hx
  have H1 := Lib.hid (Shape_calls w w.heap.size most v xs hx (Nat.le_refl _))
  have H2 := Lib.hid (fun W (hb : Below w.heap.size w W) => RefShape_calls W w.heap.size most v xs (hx.below hb) hb.size)
  generalize shapeS most xs = S at *
  obtain ⟨kk, vals, err⟩ := S
  dsimp only at hbad H1 H2
  have hbad' : (err != 0) = true := by simpa using hbad
  clear hx hbad
  go_enter Try.func10, Try.ntmps10
  go_wp2_with fail
  refine H1.out.mono ?_
  rintro e w1 ⟨a1, n1, c1, rfl, own1, hb1⟩
  go_wp2_with fail
  refine (H2.out _ (below_alloc_of hb1 _)).mono ?_
  rintro e w2 ⟨a2, n2, c2, rfl, own2, hb2⟩
  have hbel : Below w.heap.size w w2 := (below_alloc_of hb1 _).trans (hb2.mono (by have := hb1.size; simp; omega))
  go_wp2
  go_ret
  exact ⟨rfl, below_alloc_of hbel _⟩

set_option maxRecDepth 100000 in
set_option maxHeartbeats 40000000 in
theorem Means_good (w : World) (n f l : Nat) (v cv : Value) (cs : List Int) (cl : List CallS) (hx : Reads w w.heap.size v cs) (hq : QOk n f l cs) (hc : ReadsC w w.heap.size cv cl) :
    Calls Try.prog 10 #[.int .i64 n, v, cv] w (True_ w) := by
  obtain ⟨hcl, a, cp, rfl, hcp, hcr⟩ := hc
  have HCR := Lib.hid hcr
  have HX := Lib.hid hx
  have H1 := Lib.hid (Shape_calls w w.heap.size n v cs hx (Nat.le_refl _))
  have H2 := Lib.hid (fun W (hb : Below w.heap.size w W) => RefShape_calls W w.heap.size n v cs (hx.below hb) hb.size)
  rw [shape_of hq] at H1 H2
  dsimp only at H1 H2
  have hn16 := hq.most
  have hcl2 : cs.length = n + 2 := hq.len
  have hl16 := hq.fit
  have hrl := rowN_len n f cs l
  have HRI := Lib.hid (rowN_in (n := n) (f := f) hq.num l)
  have HQ := Lib.hid hq
  clear hcr hx hq
  obtain ⟨i0, yi, yz0, yz1, yz2⟩ := info_parts infoI64
  go_enter Try.func10, Try.ntmps10
  go_wp2_with fail
  refine H1.out.mono ?_
  rintro e w1 ⟨a1, n1, c1, rfl, own1, hb1⟩
  have HO1 := Lib.hid own1
  clear own1
  go_wp2_with fail
  refine (H2.out _ (below_alloc_of hb1 _)).mono ?_
  rintro e w2 ⟨a2, n2, c2, rfl, own2, hb2⟩
  clear own2
  have hz1 := hb1.size
  have hz2 := hb2.size
  simp at hz2
  have hbel2 : Below w.heap.size w w2 := (below_alloc_of hb1 _).trans (hb2.mono (by simp; omega))
  have HBEL2 := Lib.hid hbel2
  have hbx2 := box_keep hb2 (heap_new (w := w1) rfl)
  have HBX2 := Lib.hid hbx2
  have HRO := Lib.hid (((HO1.out.reads (by omega) HRI.out).below (below_alloc _ _)).below ((hb2.mono (by simp))))
  clear hbx2 hbel2
  go_wp2_with fail
  refine (numbers_calls _ w.heap.size v cs ((HX.out.below HBEL2.out).below (below_alloc_of (Below.refl _ _) _ |>.mono (by omega))) (by simp; omega)).mono ?_
  rintro e w3 ⟨v3, rfl, own3, hb3⟩
  obtain ⟨g, c3, rfl, hg1, hg2, hcells, hc3⟩ := own_open own3 (by omega)
  have hz3 := hb3.size
  simp at hz3 hg1
  have hc3n : n + 2 ≤ c3 := by omega
  have HC3 := Lib.hid hcells
  have HBX3 := Lib.hid (box_keep hb3 (heap_old HBX2.out))
  have hbel3 : Below w.heap.size w w3 := (below_alloc_of HBEL2.out _).trans (hb3.mono (by simp; omega))
  have HBEL3 := Lib.hid hbel3
  have HRO3 := Lib.hid (((HRO.out.mono (show w1.heap.size ≤ w2.heap.size by omega)).below (below_alloc _ _)).below (hb3.mono (by simp)))
  have hpp := HBX3.out
  obtain ⟨⟨d0, d1, d2⟩, -, hlt3⟩ := box3 hpp
  have hb3' := hb3
  clear hcells own3 hb3 hbel3 hpp hb2 hc3
  rw [hcl2]
  go_wp2_with fail
  refine (numbers_calls _ _ _ _ HRO3.out (by omega)).mono ?_
  rintro e w4 ⟨v4, rfl, own4, hb4⟩
  have hz4 := hb4.size
  have HC4 := Lib.hid (HC3.out.keep (hb4.block g hg2))
  have HBX4 := Lib.hid (box_keep hb4 HBX3.out)
  have HBEL4 := Lib.hid (HBEL3.out.trans (hb4.mono (by omega)))
  have HOW4 := Lib.hid own4
  clear own4 d0 d1 d2 hb4 hb3'
  go_wp2
  go_loopg [12, 13] (cl.length + 1) (fun nn v12 v13 wr => ∃ (k f l : Nat) (cs : List Int), k ≤ cl.length ∧ v13 = .int .i64 k ∧ nn + k = cl.length + 1 ∧ QOk n f l cs ∧ Owns wr w3.heap.size v12 (rowN n f cs l) ∧ Cells wr g cs ∧
    wr.heap[w1.heap.size]? = some (.cells #[.int .i64 2, .slice a1 n1 c1, .slice none 0 0] 28 (0, 0)) ∧ Below w.heap.size w wr ∧ w3.heap.size ≤ wr.heap.size)
  case atStart => exact ⟨0, f, l, cs, Nat.zero_le _, rfl, rfl, HQ.out, HOW4.out, HC4.out, HBX4.out, HBEL4.out, hz4⟩
  case round =>
    clear HQ HOW4 HC4 HBX4 HBEL4 HBEL3 HBX3 HC3 HRO HRO3 HBX2 HBEL2 HO1 HRI hrl hcl2 hl16 H1 H2 HX
    obtain ⟨k, f, l, cs, hk, rfl, hn, hq, how, hC, hbx, bel, hzr⟩ := hrel
    have HN := Lib.hid hn
    have HQ := Lib.hid hq
    have HC := Lib.hid hC
    have HBX := Lib.hid hbx
    have hgr := hC.lt
    have hcs2 : cs.length = n + 2 := hq.len
    have hl16 := hq.fit
    have hrl := rowN_len n f cs l
    have HRI := Lib.hid (rowN_in (n := n) (f := f) hq.num l)
    have hrr := how.reads (by omega) HRI.out
    have HOW := Lib.hid how
    have HGW := Lib.hid (show w.heap.size ≤ g by omega)
    have HGB := Lib.hid hg2
    obtain ⟨-, -, aR, cR, rfl, hcR, -⟩ := hrr
    rw [hrl] at HOW hcR ⊢
    clear hn hC how hbx hq
    by_cases hlt : k < cl.length
    · rcases HCR.out with h | ⟨b, off, rfl, hbB, hcell⟩
      · exact absurd hlt (by rw [h]; simp)
      obtain ⟨hc0, hc1, hra⟩ := hcell k hlt
      have hd0 := (bel.cell (p := ⟨b, off + k * 2, none⟩) (by simp; omega)).trans hc0
      have hd1 := (bel.cell (p := ⟨b, off + k * 2 + 1, none⟩) (by simp; omega)).trans hc1
      clear hc0 hc1 hcell
      generalize cl.getD k noCall = C at *
      obtain ⟨call, av, xs⟩ := C
      dsimp only at hd0 hd1 hra
      have hbs : b < wr.heap.size := by have := bel.size; omega
      have hlt' : (k : Int) < (cl.length : Int) := by omega
      have HRA := Lib.hid hra
      obtain ⟨hxl, hxr, aA, cA, rfl, hcA, hxc⟩ := hra
      have HXC := Lib.hid hxc
      have HXR := Lib.hid hxr
      clear hxc hxr
      by_cases har : arityI call = (xs.length : Int)
      · have har' : (arityI call != (xs.length : Int)) = false := by simpa using har
        have hyes : takesB 0 n (arityI call) xs.length = true := takesB_t (by omega) (by omega) (by omega) (by omega) har
        have HD : ∀ w', Below w.heap.size w w' → Cells w' g cs → Calls Try.prog 24 #[.slice (some ⟨g, 0, none⟩) (n + 2) c3, .int .i64 0, .int .i64 (n : Int), .int .i64 call, .slice aA xs.length cA] w' (DonePost_ g (runM 0 6 (initM 0 n call xs) 0 cs) w') := fun w' hb hc => by
          have h := doneLaw_calls w' w.heap.size g c3 0 n call (.slice aA xs.length cA) xs cs (HRA.out.below hb) hb.size hc (by omega) hyes
          rw [hcs2] at h
          exact h
        have HDD := Lib.hid (fun q => HD (wr.drewN q) (bel.trans ⟨rfl, rfl, rfl, Nat.le_refl _, fun _ _ => rfl⟩) (HC.out.keep rfl))
        have HC00 := Lib.hid hd0
        have HC01 := Lib.hid hd1
        clear HD
        rcases arity_cases har with ⟨rfl, hx1⟩ | ⟨rfl, hx0⟩ | ⟨rfl, hx0⟩
        · have hx1c : ∃ bA oA, aA = some ⟨bA, oA, none⟩ ∧ bA < w.heap.size ∧ w.cell? ⟨bA, oA, none⟩ = some (.int .i64 (xs.getD 0 0)) := by
            rcases HXC.out with h | ⟨bA, oA, h1, h2, h3⟩
            · rw [h] at hx1; simp at hx1
            · exact ⟨bA, oA, h1, h2, by have := h3 0 (by omega); rwa [Nat.add_zero] at this⟩
          obtain ⟨bA, oA, rfl, hbA, hx00⟩ := hx1c
          have hv64 : In64 (xs.getD 0 0) := HXR.out _ (by rw [List.getD_eq_getElem?_getD, List.getElem?_eq_getElem (by omega)]; simp)
          have HV64 := Lib.hid hv64
          have HX0 := Lib.hid hx00
          clear hx00 hv64
          by_cases hful : n ≤ l
          · rw [run_full HQ.out xs hful] at HDD
            -- SEG full
            have hful' : (n : Int) ≤ (l : Int) := by omega
            clear har hyes hx1 hful
            go_wp2
            go_quiet ((go_at_call 23; exact just_quiet (fun W => Arity_calls _ W)))
            go_wp2
            go_region_held3 (fun w' => w'.cell? ⟨b, off + k * 2, none⟩ = some (.int .i64 3) ∧ w'.cell? ⟨b, off + k * 2 + 1, none⟩ = some (.slice (some ⟨bA, oA, none⟩) xs.length cA)) (go_keep) (first | (go_at_call 24; refine (HDD.out _).mono ?_; rintro e2 w2 ⟨rfl, hg2, hcl2⟩; have k0 := (hg2.cell_far ⟨b, off + k * 2, none⟩ (by simp; omega) (by simp; omega)); have k1 := (hg2.cell_far ⟨b, off + k * 2 + 1, none⟩ (by simp; omega) (by simp; omega)); have HG2 := Lib.hid hg2; have HCL2 := Lib.hid hcl2))
            have c20 : w2.cell? ⟨b, off + k * 2, none⟩ = some (.int .i64 3) := k0.trans HC00.out
            have c21 : w2.cell? ⟨b, off + k * 2 + 1, none⟩ = some (.slice (some ⟨bA, oA, none⟩) xs.length cA) := k1.trans HC01.out
            have bel2 : Below w.heap.size w w2 := bel_done bel HGW.out HG2.out
            have HOW2 : Hid (Owns w2 w3.heap.size (.slice aR l cR) (rowN n f cs l)) := own_done HOW.out HGB.out HG2.out
            have HBX2 : Hid (w2.heap[w1.heap.size]? = some (.cells #[.int .i64 2, .slice a1 n1 c1, .slice none 0 0] 28 (0, 0))) := box_grown HG2.out HBX.out (by omega)
            clear k0 k1 hcl2 hg2
            go_wp2
            go_roundg (cl.length - k)
            case measure => have := HN.out; omega
            case rel => exact ⟨k + 1, f, l, cs, by omega, by go_num, by omega, HQ.out, HOW2.out, HCL2.out, HBX2.out, bel2, by have := HG2.out.size; simp at this; omega⟩
            -- END full
          · rw [run_laid HQ.out xs (by omega)] at HDD
            -- SEG put
            have HP := Lib.hid (row_put HQ.out (show l < n by omega) HV64.out)
            generalize (cs.set (2 + (f + l) % n) (xs.getD 0 0)).set 1 ((l : Int) + 1) = cs' at *
            generalize xs.getD 0 0 = x at *
            clear har hyes
            have hful' : (l : Int) < n := by omega
            have hx1' : (0 : Int) < (xs.length : Int) := by omega
            clear hx1 hful
            go_wp2
            go_quiet ((go_at_call 23; exact just_quiet (fun W => Arity_calls _ W)))
            go_wp2
            go_region_held3 (fun w' => w'.cell? ⟨b, off + k * 2, none⟩ = some (.int .i64 3) ∧ w'.cell? ⟨b, off + k * 2 + 1, none⟩ = some (.slice (some ⟨bA, oA, none⟩) xs.length cA)) (go_keep) (first | (go_at_call 24; refine (HDD.out _).mono ?_; rintro e2 w2 ⟨rfl, hg2, hcl2⟩; have k0 := (hg2.cell_far ⟨b, off + k * 2, none⟩ (by simp; omega) (by simp; omega)); have k1 := (hg2.cell_far ⟨b, off + k * 2 + 1, none⟩ (by simp; omega) (by simp; omega)); have KX := Lib.hid (hg2.cell_far ⟨bA, oA, none⟩ (by simp; omega) (by simp; omega)); have HG2 := Lib.hid hg2; have HCL2 := Lib.hid hcl2))
            have c20 : w2.cell? ⟨b, off + k * 2, none⟩ = some (.int .i64 3) := k0.trans HC00.out
            have c21 : w2.cell? ⟨b, off + k * 2 + 1, none⟩ = some (.slice (some ⟨bA, oA, none⟩) xs.length cA) := k1.trans HC01.out
            have bel2 : Below w.heap.size w w2 := bel_done bel HGW.out HG2.out
            have HOW2 : Hid (Owns w2 w3.heap.size (.slice aR l cR) (rowN n f cs l)) := own_done HOW.out HGB.out HG2.out
            have HBX2 : Hid (w2.heap[w1.heap.size]? = some (.cells #[.int .i64 2, .slice a1 n1 c1, .slice none 0 0] 28 (0, 0))) := box_grown HG2.out HBX.out (by omega)
            clear k0 k1 hcl2 hg2
            have hxa : w2.cell? ⟨bA, oA, none⟩ = some (.int .i64 x) := KX.out.trans ((bel.cell (p := ⟨bA, oA, none⟩) hbA).trans HX0.out)
            have hown : w2.ownsRow w3.heap.size 2 1 (.slice aR l cR) l ((rowN n f cs l).map (Value.int .i64)) := by
              have h := HOW2.out
              unfold Owns at h
              rw [hrl] at h
              exact h
            have hz22 := HG2.out.size
            simp at hz22
            go_wp2_with (at_builtin; refine wpList_append_own _ rfl _ _ 24 rfl w3.heap.size 2 i0 (.int .i64 0) 1 8 Try.underlying24 yi yz0 yz1 yz2 rfl (by decide) _ _ _ rfl (hown.alloc _) ⟨w2.heap.size, 0, none⟩ 1 1 [.int .i64 x] rfl rfl ?c1 ?c2 ?c3 ?c4 ?c5 ?_)
            case c1 =>
              intro j u hj
              match j, hj with
              | 0, hj => simp at hj; subst hj; simp [Addr.add]
            case c2 => intro u hu; simp at hu; subst hu; rfl
            case c3 => unfold maxLen; omega
            case c4 => omega
            case c5 => simp; omega
            intro v' w5 hown' hgrow _
            have hb5 : Below w.heap.size w w5 := (bel2.alloc (by omega) _).grown hgrow (by simp; omega) (fun r hr => by have := (hown.lt r hr).1; omega)
            have hk5 : ∀ q, q < w3.heap.size → w5.heap[q]? = w2.heap[q]? := fun q hq => (hgrow.block q (by simp; omega) (fun e => by have := (hown.lt q e.symm).1; omega)).trans (Below.heap_alloc _ _ _ (by omega))
            have hz5 : w3.heap.size ≤ w5.heap.size := by have := hgrow.size; simp at this; omega
            have HO5 : Hid (Owns w5 w3.heap.size v' (rowN n f cs' (l + 1))) := by
              have h := HP.out.2
              unfold Hid Owns
              rw [h, List.map_append, List.length_append, hrl]
              exact hown'
            have HC5 : Hid (Cells w5 g cs') := HCL2.out.keep (hk5 g HGB.out)
            have HB5 : Hid (w5.heap[w1.heap.size]? = some (.cells #[.int .i64 2, .slice a1 n1 c1, .slice none 0 0] 28 (0, 0))) := (hk5 _ (by omega)).trans HBX2.out
            clear hgrow hown hown' hk5
            go_wp2
            go_roundg (cl.length - k)
            case measure => have := HN.out; omega
            case rel => exact ⟨k + 1, f, l + 1, cs', by omega, by go_num, by omega, HP.out.1, HO5.out, HC5.out, HB5.out, hb5, hz5⟩
            -- END put
        · by_cases hz : l = 0
          · subst hz
            rw [run_none HQ.out xs] at HDD
            -- SEG none
            clear har hyes hx0
            go_wp2
            go_quiet ((go_at_call 23; exact just_quiet (fun W => Arity_calls _ W)))
            go_wp2
            go_region_held3 (fun w' => w'.cell? ⟨b, off + k * 2, none⟩ = some (.int .i64 2) ∧ w'.cell? ⟨b, off + k * 2 + 1, none⟩ = some (.slice aA xs.length cA)) (go_keep) (first | (go_at_call 24; refine (HDD.out _).mono ?_; rintro e2 w2 ⟨rfl, hg2, hcl2⟩; have k0 := (hg2.cell_far ⟨b, off + k * 2, none⟩ (by simp; omega) (by simp; omega)); have k1 := (hg2.cell_far ⟨b, off + k * 2 + 1, none⟩ (by simp; omega) (by simp; omega)); have HG2 := Lib.hid hg2; have HCL2 := Lib.hid hcl2))
            have c20 : w2.cell? ⟨b, off + k * 2, none⟩ = some (.int .i64 2) := k0.trans HC00.out
            have c21 : w2.cell? ⟨b, off + k * 2 + 1, none⟩ = some (.slice aA xs.length cA) := k1.trans HC01.out
            have bel2 : Below w.heap.size w w2 := bel_done bel HGW.out HG2.out
            have HOW2 : Hid (Owns w2 w3.heap.size (.slice aR 0 cR) (rowN n f cs 0)) := own_done HOW.out HGB.out HG2.out
            have HBX2 : Hid (w2.heap[w1.heap.size]? = some (.cells #[.int .i64 2, .slice a1 n1 c1, .slice none 0 0] 28 (0, 0))) := box_grown HG2.out HBX.out (by omega)
            clear k0 k1 hcl2 hg2
            go_wp2
            go_roundg (cl.length - k)
            case measure => have := HN.out; omega
            case rel => exact ⟨k + 1, f, 0, cs, by omega, by go_num, by omega, HQ.out, HOW2.out, HCL2.out, HBX2.out, bel2, by have := HG2.out.size; simp at this; omega⟩
            -- END none
          · have hlp : 0 < l := by omega
            obtain ⟨gR, cR', hv, hgR, hgRlt, hcRow, hcapR⟩ := own_open HOW.out (by omega)
            injection hv with hv1 hv2 hv3
            have HV1 := Lib.hid hv1
            subst hv3
            clear hv1
            rw [run_took HQ.out xs hlp] at HDD
            -- SEG took
            have HP := Lib.hid (row_took HQ.out hlp)
            have hr0x : (rowN n f cs l).getD 0 0 = cs.getD (2 + f % n) 0 := by rw [HP.out.2]; rfl
            have hln : ¬ (l : Int) = 0 := by omega
            generalize (cs.set 0 ((f + 1) % n : Nat)).set 1 ((l : Int) - 1) = cs' at *
            generalize hl1 : l - 1 = l' at *
            have HL1 := Lib.hid hl1
            clear hlp hz
            generalize cs.getD (2 + f % n) 0 = x at *
            have HX0 := Lib.hid hr0x
            have HRW := Lib.hid hcRow
            have HCAP := Lib.hid hcapR
            clear har hyes hx0 hr0x hl1 hv2 hcRow hcapR
            go_wp2
            go_quiet ((go_at_call 23; exact just_quiet (fun W => Arity_calls _ W)))
            go_wp2
            go_region_held3 (fun w' => w'.cell? ⟨b, off + k * 2, none⟩ = some (.int .i64 2) ∧ w'.cell? ⟨b, off + k * 2 + 1, none⟩ = some (.slice aA xs.length cA)) (go_keep) (first | (go_at_call 24; refine (HDD.out _).mono ?_; rintro e2 w2 ⟨rfl, hg2, hcl2⟩; have k0 := (hg2.cell_far ⟨b, off + k * 2, none⟩ (by simp; omega) (by simp; omega)); have k1 := (hg2.cell_far ⟨b, off + k * 2 + 1, none⟩ (by simp; omega) (by simp; omega)); have HG2 := Lib.hid hg2; have HCL2 := Lib.hid hcl2))
            have c20 : w2.cell? ⟨b, off + k * 2, none⟩ = some (.int .i64 2) := k0.trans HC00.out
            have c21 : w2.cell? ⟨b, off + k * 2 + 1, none⟩ = some (.slice aA xs.length cA) := k1.trans HC01.out
            have bel2 : Below w.heap.size w w2 := bel_done bel HGW.out HG2.out
            have HOW2 : Hid (Owns w2 w3.heap.size (.slice aR l cR) (rowN n f cs l)) := own_done HOW.out HGB.out HG2.out
            have HBX2 : Hid (w2.heap[w1.heap.size]? = some (.cells #[.int .i64 2, .slice a1 n1 c1, .slice none 0 0] 28 (0, 0))) := box_grown HG2.out HBX.out (by omega)
            clear k0 k1 hcl2 hg2
            have hv1 := HV1.out
            subst hv1
            have hz22 := HG2.out.size
            simp at hz22
            have HRW2 := Lib.hid (HRW.out.keep (HG2.out.block gR hgRlt (fun e => by injection e with e; omega)))
            have hr0 : w2.cell? ⟨gR, 0, none⟩ = some (.int .i64 x) := by rw [← HX0.out]; exact HRW2.out.cell (by omega)
            have HRD : Hid (∀ (A : Option Addr) (L c : Nat), L = l' → L ≤ c → (0 < l' → A = some ⟨gR, 1, none⟩) → Reads w2 w2.heap.size (.slice A L c) (rowN n ((f + 1) % n) cs' l')) := fun A L c h0 h1 h2 => by
              subst h0
              have hlr := rowN_len n ((f + 1) % n) cs' L
              have hl1 := HL1.out
              refine ⟨by omega, fun y hy => HRI.out y (by rw [HP.out.2]; exact List.mem_cons_of_mem _ hy), A, c, by rw [hlr], by omega, ?_⟩
              rcases Nat.eq_zero_or_pos L with hz | hz
              · exact .inl (List.eq_nil_of_length_eq_zero (by omega))
              · refine .inr ⟨gR, 1, h2 hz, by omega, fun i hi => ?_⟩
                rw [HRW2.out.cell (i := 1 + i) (by omega), HP.out.2, Nat.add_comm 1 i]
                rfl
            by_cases hc1 : cR = 1
            · subst hc1
              go_wp2_with fail
              refine (numbers_calls _ _ _ _ (HRD.out _ _ _ (by have := HL1.out; have := HCAP.out; omega) (by have := HL1.out; have := HCAP.out; omega) (by first | (intro _; rfl) | (intro h; have := HL1.out; have := HCAP.out; omega))) (Nat.le_refl _)).mono ?_
              rintro e5 w5 ⟨v5, rfl, own5, hb5⟩
              have hz5 : w3.heap.size ≤ w5.heap.size := by have := hb5.size; omega
              have HO5 := Lib.hid (Owns.le own5 (show w3.heap.size ≤ w2.heap.size by omega))
              have HB5 := Lib.hid (box_keep hb5 HBX2.out)
              have HC5 := Lib.hid (HCL2.out.keep (hb5.block g (by omega)))
              have bel5 : Below w.heap.size w w5 := bel2.trans (hb5.mono (by omega))
              clear own5 hb5
              go_wp2
              go_roundg (cl.length - k)
              case measure => have := HN.out; omega
              case rel => exact ⟨k + 1, (f + 1) % n, l', cs', by omega, by go_num, by omega, HP.out.1, HO5.out, HC5.out, HB5.out, bel5, hz5⟩
            · have hc1' : ¬ (cR = 1) := hc1
              go_wp2_with fail
              refine (numbers_calls _ _ _ _ (HRD.out _ _ _ (by have := HL1.out; have := HCAP.out; omega) (by have := HL1.out; have := HCAP.out; omega) (by first | (intro _; rfl) | (intro h; have := HL1.out; have := HCAP.out; omega))) (Nat.le_refl _)).mono ?_
              rintro e5 w5 ⟨v5, rfl, own5, hb5⟩
              have hz5 : w3.heap.size ≤ w5.heap.size := by have := hb5.size; omega
              have HO5 := Lib.hid (Owns.le own5 (show w3.heap.size ≤ w2.heap.size by omega))
              have HB5 := Lib.hid (box_keep hb5 HBX2.out)
              have HC5 := Lib.hid (HCL2.out.keep (hb5.block g (by omega)))
              have bel5 : Below w.heap.size w w5 := bel2.trans (hb5.mono (by omega))
              clear own5 hb5
              go_wp2
              go_roundg (cl.length - k)
              case measure => have := HN.out; omega
              case rel => exact ⟨k + 1, (f + 1) % n, l', cs', by omega, by go_num, by omega, HP.out.1, HO5.out, HC5.out, HB5.out, bel5, hz5⟩
            -- END took
        · rw [run_len HQ.out xs] at HDD
          -- SEG len
          clear har hyes hx0
          go_wp2
          go_quiet ((go_at_call 23; exact just_quiet (fun W => Arity_calls _ W)))
          go_wp2
          go_region_held3 (fun w' => w'.cell? ⟨b, off + k * 2, none⟩ = some (.int .i64 5) ∧ w'.cell? ⟨b, off + k * 2 + 1, none⟩ = some (.slice aA xs.length cA)) (go_keep) (first | (go_at_call 24; refine (HDD.out _).mono ?_; rintro e2 w2 ⟨rfl, hg2, hcl2⟩; have k0 := (hg2.cell_far ⟨b, off + k * 2, none⟩ (by simp; omega) (by simp; omega)); have k1 := (hg2.cell_far ⟨b, off + k * 2 + 1, none⟩ (by simp; omega) (by simp; omega)); have HG2 := Lib.hid hg2; have HCL2 := Lib.hid hcl2))
          have c20 : w2.cell? ⟨b, off + k * 2, none⟩ = some (.int .i64 5) := k0.trans HC00.out
          have c21 : w2.cell? ⟨b, off + k * 2 + 1, none⟩ = some (.slice aA xs.length cA) := k1.trans HC01.out
          have bel2 : Below w.heap.size w w2 := bel_done bel HGW.out HG2.out
          have HOW2 : Hid (Owns w2 w3.heap.size (.slice aR l cR) (rowN n f cs l)) := own_done HOW.out HGB.out HG2.out
          have HBX2 : Hid (w2.heap[w1.heap.size]? = some (.cells #[.int .i64 2, .slice a1 n1 c1, .slice none 0 0] 28 (0, 0))) := box_grown HG2.out HBX.out (by omega)
          clear k0 k1 hcl2 hg2
          go_wp2
          go_roundg (cl.length - k)
          case measure => have := HN.out; omega
          case rel => exact ⟨k + 1, f, l, cs, by omega, by go_num, by omega, HQ.out, HOW2.out, HCL2.out, HBX2.out, bel2, by have := HG2.out.size; simp at this; omega⟩
          -- END len
      · have har' : (arityI call != (xs.length : Int)) = true := by simpa using har
        clear har
        go_wp2
        go_quiet ((go_at_call 23; exact just_quiet (fun W => Arity_calls _ W)))
        go_wp2
        go_roundg (cl.length - k)
        case measure => have := HN.out; omega
        case rel => exact ⟨k + 1, f, l, cs, by omega, by go_num, by omega, HQ.out, HOW.out, HC.out, HBX.out, bel.trans ⟨rfl, rfl, rfl, Nat.le_refl _, fun _ _ => rfl⟩, by simpa using hzr⟩
    · have hsh := Shape_calls wr wr.heap.size n (.slice (some ⟨g, 0, none⟩) (n + 2) c3) cs ⟨by omega, HQ.out.num, _, c3, by rw [hcs2], by omega, .inr ⟨g, 0, rfl, hgr, fun i hi => by rw [Nat.zero_add]; exact HC.out.cell hi⟩⟩ (Nat.le_refl _)
      rw [shape_of HQ.out] at hsh
      -- SEG end
      dsimp only at hsh
      have HSH := Lib.hid hsh
      clear hsh
      go_wp2_with fail
      refine HSH.out.mono ?_
      rintro e5 w5 ⟨a5, n5, c5, rfl, own5, hb5⟩
      have hbx5 := box_keep hb5 HBX.out
      have HBX5 := Lib.hid hbx5
      obtain ⟨⟨d0, d1, d2⟩, ⟨f0, f1, f2⟩, hlt5⟩ := box3 hbx5
      have HO5 := Lib.hid own5
      have HRO5 := Lib.hid (HOW.out.below (hb5.mono (Nat.le_refl _)))
      have HB5 := Lib.hid hb5
      have hz5 := hb5.size
      clear hbx5 own5 hb5
      go_wp2_with fail
      refine (SameNumbers_calls _ _ _ _ _ _ ((own_set (own_set (own_set HO5.out (by omega)) (by omega)) (by omega)).reads (by omega) HRI.out) ((own_set (own_set (own_set HRO5.out (by omega)) (by omega)) (by omega)).reads (by omega) HRI.out)).mono ?_
      rintro e6 w6 ⟨rfl, hb6⟩
      rw [decide_eq_true rfl]
      have bel5 : Below w.heap.size w w5 := bel.trans (HB5.out.mono (by omega))
      have bel6 : Below w.heap.size w w6 := (((bel5.setCell (p := ⟨w1.heap.size, 0, none⟩) (by simp; omega) _).setCell (p := ⟨w1.heap.size, 1, none⟩) (by simp; omega) _).setCell (p := ⟨w1.heap.size, 2, none⟩) (by simp; omega) _).trans (hb6.mono (by simp; omega))
      clear hb6
      go_wp2
      go_ret
      exact ⟨rfl, bel6⟩
-- END end

theorem Means_walk (w : World) (most : Int) (v : Value) (xs : List Int) (cv : Value) (cl : List CallS) (hx : Reads w w.heap.size v xs) (hc : ReadsC w w.heap.size cv cl) :
    Calls Try.prog 10 #[.int .i64 most, v, cv] w (True_ w) := by
  by_cases h1 : shapeOk most xs = true
  · by_cases h2 : rangeOk most (xs.getD 0 0) (xs.getD 1 0) = true
    · obtain ⟨n, f, l, rfl, hq, -⟩ := qok_of h1 h2 hx.2.1
      exact Means_good w n f l v cv xs cl hx hq hc
    · exact Means_bad w most v cv xs hx (by rw [shapeS, if_pos h1, if_neg h2]; decide)
  · exact Means_bad w most v cv xs hx (by rw [shapeS, if_neg h1]; decide)

end Go.Proofs.Ytdacadhiogikdaa
