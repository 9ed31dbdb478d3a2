/- The walk of the law ChainMeans. -/
import Derived.Test.YtihlbhlagpmbjaaChainP18
import Derived.Test.YtihlbhlagpmbjaaMeansF18
import Derived.Test.YtihlbhlagpmbjaaCallsF
import Derived.Test.YtihlbhlagpmbjaaRefShapeQ18
import Derived.OwnWalk
import Derived.Deep.RegionHeld3
import Derived.Outline
import Derived.BigRegion
namespace Go.Proofs.Ytihlbhlagpmbjaa
open Go.RowKit

theorem cells_of_own {w : World} {base g c : Nat} {cs : List Int} (h : w.ownsRow base 2 1 (.slice (some ⟨g, 0, none⟩) cs.length c) cs.length (cs.map (Value.int .i64))) : Cells w g cs := by
  rcases h.2 with ⟨h3, _⟩ | ⟨g', cap, cur, hv, hb, hg, hnc, _, hcs, htk⟩
  · cases h3
  · injection hv with e1 _ _
    injection e1 with e1
    injection e1 with e1 _ _
    subst e1
    refine ⟨cur, hg, by omega, fun i hi => ?_⟩
    have h1 : (cur.toList.take (cs.length * 1))[i]? = (cs.map (Value.int .i64))[i]? := by rw [htk]
    rw [Nat.mul_one, List.getElem?_take, if_pos hi] at h1
    simp [List.getD_eq_getElem?_getD, hi] at h1 ⊢
    exact h1
theorem own_open {w : World} {base : Nat} {v : Value} {cs : List Int} (h : Owns w base v cs) (hn : 0 < cs.length) : ∃ g c, v = .slice (some ⟨g, 0, none⟩) cs.length c ∧ base ≤ g ∧ g < w.heap.size ∧ Cells w g cs ∧ cs.length ≤ c := by
  have h0 := h
  rcases h.2 with ⟨_, h1⟩ | ⟨g', cap, cur, hv, hb, hg, hnc, _⟩
  · have h2 : cs.length = 0 := by simp at h1; simp [h1]
    omega
  · subst hv
    exact ⟨g', cap, rfl, hb, (Array.getElem?_eq_some_iff.1 hg).1, cells_of_own h0, hnc⟩

theorem COk.keys_le {n u : Nat} {A Fr : List Nat} {cs : List Int} (h : COk n u A Fr cs) : (keysN cs A).length ≤ 16 := by
  have h1 := h.size
  have h2 := h.fit
  have h3 := h.most
  rw [keysN_len]
  simp at h1
  omega
theorem just_quiet {f : FuncId} {args : Array Value} {w : World} {n : Nat} {v : Value} (h : ∀ W, Calls Try.prog f args W (Just v W)) :
    Calls Try.prog f args (w.drewN n) fun e w'' => e = .returned v ∧ ∃ m, w'' = w.drewN m := (h _).mono fun _ _ ⟨h1, h2⟩ => ⟨h1, n, h2.symm⟩

theorem bel_done {w wr w2 : World} {q g : Nat} (bel : Below w.heap.size w wr) (hg : w.heap.size ≤ g) (h : (wr.drewN q).grownBy w2 (some g)) : Below w.heap.size w w2 :=
  bel.trans ⟨h.os, h.tape, h.output, h.size, fun k hk => h.block k (by have := bel.size; show k < wr.heap.size; omega) (fun e => by injection e with e; omega)⟩

theorem own_done {wr w2 : World} {v : Value} {q g B : Nat} {xs : List Int} (h : Owns wr B v xs) (hg : g < B) (hgr : (wr.drewN q).grownBy w2 (some g)) : Owns w2 B v xs := by
  have h' : Owns (wr.drewN q) B v xs := h
  refine ⟨h.1, ?_⟩
  rcases h.2 with hn | ⟨g', cap, cur, hv, hb, hx, r⟩
  · exact .inl hn
  · exact .inr ⟨g', cap, cur, hv, hb, (hgr.block g' (Array.getElem?_eq_some_iff.1 hx).1 (fun e => by injection e with e; omega)).trans hx, r⟩

theorem own_set {w : World} {B p i : Nat} {v u : Value} {xs : List Int} (h : Owns w B v xs) (hp : p < B) : Owns (w.setCell ⟨p, i, none⟩ u) B v xs := by
  refine ⟨h.1, ?_⟩
  rcases h.2 with hn | ⟨g', cap, cur, hv, hb, hx, r⟩
  · exact .inl hn
  · exact .inr ⟨g', cap, cur, hv, hb, heap_set_other hx (by simp; omega), r⟩

set_option maxRecDepth 100000 in
set_option maxHeartbeats 4000000 in
theorem Means_bad (w : World) (most : Int) (v cv : Value) (xs : List Int) (hx : Reads w w.heap.size v xs) (hbad : (shapeS most xs).2.2 ≠ 0) :
    Calls Try.prog 11 #[.int .i64 most, v, cv] w (True_ w) := by
  have HX := Lib.hid hx
  have H1 := Lib.hid (Shape_calls w w.heap.size most v xs hx (Nat.le_refl _))
  have H2 := Lib.hid (fun W (hb : Below w.heap.size w W) => RefShape_calls W w.heap.size most v xs (hx.below hb) hb.size)
  generalize shapeS most xs = S at *
  obtain ⟨kk, vals, err⟩ := S
  dsimp only at hbad H1 H2
  have hbad' : (err != 0) = true := by simpa using hbad
  clear hx hbad
  go_enter Try.func11, Try.ntmps11
  go_wp2_with fail
  refine H1.out.mono ?_
  rintro e w1 ⟨a1, n1, c1, rfl, own1, hb1⟩
  go_wp2_with fail
  refine (H2.out _ (below_alloc_of hb1 _)).mono ?_
  rintro e w2 ⟨a2, n2, c2, rfl, own2, hb2⟩
  have hbel : Below w.heap.size w w2 := (below_alloc_of hb1 _).trans (hb2.mono (by have := hb1.size; simp; omega))
  go_wp2
  go_ret
  exact ⟨rfl, below_alloc_of hbel _⟩

theorem arity18 {call : Int} {l : Nat} (h : arityI call = (l : Int)) : (call = 1 ∧ l = 1) ∨ (call = 4 ∧ l = 1) ∨ (call = 6 ∧ l = 1) ∨ (call = 8 ∧ l = 1) ∨ (call = 7 ∧ l = 0) ∨ (call = 5 ∧ l = 0) := by
  unfold arityI at h
  split at h
  · omega
  · split at h
    · omega
    · omega
theorem getD64 {xs : List Int} (h : ∀ x ∈ xs, In64 x) : In64 (xs.getD 0 0) := getD_mem64 h 0

set_option maxRecDepth 100000 in
set_option maxHeartbeats 40000000 in
theorem Means_good (w : World) (n u : Nat) (A Fr : List Nat) (v cv : Value) (cs : List Int) (cl : List CallS) (hx : Reads w w.heap.size v cs) (hq : COk n u A Fr cs) (hc : ReadsC w w.heap.size cv cl) :
    Calls Try.prog 11 #[.int .i64 n, v, cv] w (True_ w) := by
  obtain ⟨hcl, a, cp, rfl, hcp, hcr⟩ := hc
  have HCR := Lib.hid hcr
  have HX := Lib.hid hx
  have H1 := Lib.hid (Shape_calls w w.heap.size n v cs hx (Nat.le_refl _))
  have H2 := Lib.hid (fun W (hb : Below w.heap.size w W) => RefShape_calls W w.heap.size n v cs (hx.below hb) hb.size)
  rw [shape_of hq] at H1 H2
  dsimp only at H1 H2
  have hn16 := hq.most
  have hcl2 : cs.length = 2 * n + 3 := hq.len
  have hl16 := hq.keys_le
  have HRI := Lib.hid (keysN_in hq.num A)
  have HQ := Lib.hid hq
  clear hcr hx hq
  generalize hK : keysN cs A = K at *
  have HK := Lib.hid hK
  clear hK
  go_enter Try.func11, Try.ntmps11
  go_wp2_with fail
  refine H1.out.mono ?_
  rintro e w1 ⟨a1, n1, c1, rfl, own1, hb1⟩
  have HO1 := Lib.hid own1
  clear own1
  go_wp2_with fail
  refine (H2.out _ (below_alloc_of hb1 _)).mono ?_
  rintro e w2 ⟨a2, n2, c2, rfl, own2, hb2⟩
  clear own2
  have hz1 := hb1.size
  have hz2 := hb2.size
  simp at hz2
  have hbel2 : Below w.heap.size w w2 := (below_alloc_of hb1 _).trans (hb2.mono (by simp; omega))
  have HBEL2 := Lib.hid hbel2
  have hbx2 := box_keep hb2 (heap_new (w := w1) rfl)
  have HBX2 := Lib.hid hbx2
  have HRO := Lib.hid (((HO1.out.reads (by omega) HRI.out).below (below_alloc _ _)).below ((hb2.mono (by simp))))
  clear hbx2 hbel2
  go_wp2_with fail
  refine (numbers_calls _ w.heap.size v cs ((HX.out.below HBEL2.out).below (below_alloc_of (Below.refl _ _) _ |>.mono (by omega))) (by simp; omega)).mono ?_
  rintro e w3 ⟨v3, rfl, own3, hb3⟩
  obtain ⟨g, c3, rfl, hg1, hg2, hcells, hc3⟩ := own_open own3 (by omega)
  have hz3 := hb3.size
  simp at hz3 hg1
  have hc3n : 2 * n + 3 ≤ c3 := by omega
  have HC3 := Lib.hid hcells
  have HBX3 := Lib.hid (box_keep hb3 (heap_old HBX2.out))
  have hbel3 : Below w.heap.size w w3 := (below_alloc_of HBEL2.out _).trans (hb3.mono (by simp; omega))
  have HBEL3 := Lib.hid hbel3
  have HRO3 := Lib.hid (((HRO.out.mono (show w1.heap.size ≤ w2.heap.size by omega)).below (below_alloc _ _)).below (hb3.mono (by simp)))
  have hpp := HBX3.out
  obtain ⟨⟨d0, d1, d2⟩, -, hlt3⟩ := box3 hpp
  have hb3' := hb3
  clear hcells own3 hb3 hbel3 hpp hb2 hc3
  rw [hcl2]
  go_wp2_with fail
  refine (numbers_calls _ _ _ _ HRO3.out (by omega)).mono ?_
  rintro e w4 ⟨v4, rfl, own4, hb4⟩
  have hz4 := hb4.size
  have HC4 := Lib.hid (HC3.out.keep (hb4.block g hg2))
  have HBX4 := Lib.hid (box_keep hb4 HBX3.out)
  have HBEL4 := Lib.hid (HBEL3.out.trans (hb4.mono (by omega)))
  have HOW4 := Lib.hid own4
  clear own4 d0 d1 d2 hb4 hb3'
  go_wp2
  go_loopg [12, 13] (cl.length + 1) (fun nn v12 v13 wr => ∃ (k u : Nat) (A Fr : List Nat) (cs : List Int), k ≤ cl.length ∧ v13 = .int .i64 k ∧ nn + k = cl.length + 1 ∧ COk n u A Fr cs ∧ Owns wr w3.heap.size v12 (keysN cs A) ∧ Cells wr g cs ∧
    wr.heap[w1.heap.size]? = some (.cells #[.int .i64 4, .slice a1 n1 c1, .slice none 0 0] 28 (0, 0)) ∧ Below w.heap.size w wr ∧ w3.heap.size ≤ wr.heap.size)
  case atStart => exact ⟨0, u, A, Fr, cs, Nat.zero_le _, rfl, rfl, HQ.out, by rw [HK.out]; exact HOW4.out, HC4.out, HBX4.out, HBEL4.out, hz4⟩
  case round =>
    clear HQ HOW4 HC4 HBX4 HBEL4 HBEL3 HBX3 HC3 HRO HRO3 HBX2 HBEL2 HO1 HRI hcl2 hl16 H1 H2 HX HK
    obtain ⟨k, u, A, Fr, cs, hk, rfl, hn, hq, how, hC, hbx, bel, hzr⟩ := hrel
    have HN := Lib.hid hn
    have HQ := Lib.hid hq
    have HC := Lib.hid hC
    have HBX := Lib.hid hbx
    have hgr := hC.lt
    have hcs2 : cs.length = 2 * n + 3 := hq.len
    have hl16 := hq.keys_le
    have HRI := Lib.hid (keysN_in hq.num A)
    obtain ⟨a5, n5, c5, rfl⟩ := how.form
    have HOW := Lib.hid how
    have HGW := Lib.hid (show w.heap.size ≤ g by omega)
    have HGB := Lib.hid hg2
    clear hn hC how hbx hq
    by_cases hlt : k < cl.length
    · rcases HCR.out with h | ⟨b, off, rfl, hbB, hcell⟩
      · exact absurd hlt (by rw [h]; simp)
      obtain ⟨hc0, hc1, hra⟩ := hcell k hlt
      have hd0 := (bel.cell (p := ⟨b, off + k * 2, none⟩) (by simp; omega)).trans hc0
      have hd1 := (bel.cell (p := ⟨b, off + k * 2 + 1, none⟩) (by simp; omega)).trans hc1
      clear hc0 hc1 hcell
      generalize cl.getD k noCall = C at *
      obtain ⟨call, av, xs⟩ := C
      dsimp only at hd0 hd1 hra
      have hbs : b < wr.heap.size := by have := bel.size; omega
      have hlt' : (k : Int) < (cl.length : Int) := by omega
      have HRA := Lib.hid hra
      have hx64 := getD64 hra.2.1
      obtain ⟨hxl, hxr, aA, cA, rfl, hcA, hxc⟩ := hra
      clear hxc hxr
      by_cases har : arityI call = (xs.length : Int)
      · have har' : (arityI call != (xs.length : Int)) = false := by simpa using har
        have hyes : takesB 0 n (arityI call) xs.length = true := takesB_t (by omega) (by omega) (by omega) (by omega) har
        have hcc := arity18 har
        obtain ⟨u', A', Fr', cs', hok', hrun, hkeys⟩ := run_means HQ.out (call := call) (xs := xs) (by omega) hx64
        have HDD := Lib.hid (fun q => doneLaw_calls (wr.drewN q) w.heap.size g c3 n 0 call (.slice aA xs.length cA) xs cs (HRA.out.below (bel.trans ⟨rfl, rfl, rfl, Nat.le_refl _, fun _ _ => rfl⟩)) (by have := bel.size; exact this) (HC.out.keep rfl) (by omega) hyes)
        rw [hcs2, hrun] at HDD
        have HMM := Lib.hid (fun W (hb : Below w.heap.size w W) (ho : Owns W w3.heap.size (.slice a5 n5 c5) (keysN cs A)) (hz : w3.heap.size ≤ W.heap.size) => means_calls W w3.heap.size (.slice a5 n5 c5) (.slice aA xs.length cA) (keysN cs A) xs n call ho hz (by omega) HRI.out ((HRA.out.below hb).mono hb.size) hcc)
        generalize hgR : meansS (keysN cs A) n call (xs.getD 0 0) = R at *
        obtain ⟨R1, R2, R3⟩ := R
        dsimp only at HDD hkeys
        have HOK := Lib.hid hok'
        have HKEY := Lib.hid hkeys
        have HC00 := Lib.hid hd0
        have HC01 := Lib.hid hd1
        clear har hyes hcc hrun hgR hok' hkeys hx64
        go_wp2
        go_quiet ((go_at_call 26; exact just_quiet (fun W => Arity_calls _ W)))
        go_wp2
        go_region_held3 (fun w' => w'.cell? ⟨b, off + k * 2, none⟩ = some (.int .i64 call) ∧ w'.cell? ⟨b, off + k * 2 + 1, none⟩ = some (.slice aA xs.length cA)) (go_keep) (first | (go_at_call 24; refine (HDD.out _).mono ?_; rintro e2 w2 ⟨rfl, hg2, hcl2⟩; have k0 := (hg2.cell_far ⟨b, off + k * 2, none⟩ (by simp; omega) (by simp; omega)); have k1 := (hg2.cell_far ⟨b, off + k * 2 + 1, none⟩ (by simp; omega) (by simp; omega)); have HG2 := Lib.hid hg2; have HCL2 := Lib.hid hcl2))
        have c20 : w2.cell? ⟨b, off + k * 2, none⟩ = some (.int .i64 call) := k0.trans HC00.out
        have c21 : w2.cell? ⟨b, off + k * 2 + 1, none⟩ = some (.slice aA xs.length cA) := k1.trans HC01.out
        have bel2 : Below w.heap.size w w2 := bel_done bel HGW.out HG2.out
        have HOW2 : Hid (Owns w2 w3.heap.size (.slice a5 n5 c5) (keysN cs A)) := own_done HOW.out HGB.out HG2.out
        have HBX2 : Hid (w2.heap[w1.heap.size]? = some (.cells #[.int .i64 4, .slice a1 n1 c1, .slice none 0 0] 28 (0, 0))) := box_grown HG2.out HBX.out (by omega)
        have hzw2 : w3.heap.size ≤ w2.heap.size := by have := HG2.out.size; simp at this; omega
        have hbs2 : b < w2.heap.size := by omega
        have HC20 := Lib.hid c20
        have HC21 := Lib.hid c21
        clear k0 k1 hcl2 hg2
        go_wp2
        go_region_held3 (fun w' => w'.cell? ⟨b, off + k * 2, none⟩ = some (.int .i64 call) ∧ w'.cell? ⟨b, off + k * 2 + 1, none⟩ = some (.slice aA xs.length cA)) (go_keep) (first | (go_at_call 25; refine (HMM.out _ (drewN_of bel2 _) HOW2.out hzw2).mono ?_; rintro e5 w5 ⟨v5, rfl, own5, hb5⟩; have k0 := (hb5.cell (p := ⟨b, off + k * 2, none⟩) hbs2); have k1 := (hb5.cell (p := ⟨b, off + k * 2 + 1, none⟩) hbs2); have HO5 := Lib.hid own5; have HB5 := Lib.hid hb5))
        have bel5 : Below w.heap.size w w5 := below_trans (drewN_of bel2 _) HB5.out
        have hz5 : w3.heap.size ≤ w5.heap.size := by have := HB5.out.size; simp at this; omega
        have HBX5 : Hid (w5.heap[w1.heap.size]? = some (.cells #[.int .i64 4, .slice a1 n1 c1, .slice none 0 0] 28 (0, 0))) := (HB5.out.block w1.heap.size (by simp; omega)).trans HBX2.out
        have HCL5 : Hid (Cells w5 g cs') := HCL2.out.keep (HB5.out.block g (by simp; omega))
        clear own5 hb5 k0 k1
        go_wp2
        go_roundg (cl.length - k)
        case measure => have := HN.out; omega
        case rel => exact ⟨k + 1, u', A', Fr', cs', by omega, by go_num, by omega, HOK.out, by rw [HKEY.out]; exact HO5.out, HCL5.out, HBX5.out, bel5, hz5⟩
      · have har' : (arityI call != (xs.length : Int)) = true := by simpa using har
        clear har
        go_wp2
        go_quiet ((go_at_call 26; exact just_quiet (fun W => Arity_calls _ W)))
        go_wp2
        go_roundg (cl.length - k)
        case measure => have := HN.out; omega
        case rel => exact ⟨k + 1, u, A, Fr, cs, by omega, by go_num, by omega, HQ.out, HOW.out, HC.out, HBX.out, drewN_of bel _, by simpa using hzr⟩
    · have hsh := Shape_calls wr wr.heap.size n (.slice (some ⟨g, 0, none⟩) (2 * n + 3) c3) cs ⟨by omega, HQ.out.num, _, c3, by rw [hcs2], by omega, .inr ⟨g, 0, rfl, hgr, fun i hi => by rw [Nat.zero_add]; exact HC.out.cell hi⟩⟩ (Nat.le_refl _)
      rw [shape_of HQ.out] at hsh
      dsimp only at hsh
      have HSH := Lib.hid hsh
      clear hsh
      go_wp2_with fail
      refine HSH.out.mono ?_
      rintro e5 w5 ⟨a5', n5', c5', rfl, own5, hb5⟩
      have hbx5 := box_keep hb5 HBX.out
      have HBX5 := Lib.hid hbx5
      obtain ⟨⟨d0, d1, d2⟩, ⟨f0, f1, f2⟩, hlt5⟩ := box3 hbx5
      have HO5 := Lib.hid own5
      have HRO5 := Lib.hid (HOW.out.below (hb5.mono (Nat.le_refl _)))
      have HB5 := Lib.hid hb5
      have hz5 := hb5.size
      clear hbx5 own5 hb5
      go_wp2_with fail
      refine (SameNumbers_calls _ _ _ _ _ _ ((own_set (own_set (own_set HO5.out (by omega)) (by omega)) (by omega)).reads (by omega) HRI.out) ((own_set (own_set (own_set HRO5.out (by omega)) (by omega)) (by omega)).reads (by omega) HRI.out)).mono ?_
      rintro e6 w6 ⟨rfl, hb6⟩
      rw [decide_eq_true rfl]
      have bel5 : Below w.heap.size w w5 := bel.trans (HB5.out.mono (by omega))
      have bel6 : Below w.heap.size w w6 := (((bel5.setCell (p := ⟨w1.heap.size, 0, none⟩) (by simp; omega) _).setCell (p := ⟨w1.heap.size, 1, none⟩) (by simp; omega) _).setCell (p := ⟨w1.heap.size, 2, none⟩) (by simp; omega) _).trans (hb6.mono (by simp; omega))
      clear hb6
      go_wp2
      go_ret
      exact ⟨rfl, bel6⟩

theorem Means_walk (w : World) (most : Int) (v : Value) (xs : List Int) (cv : Value) (cl : List CallS) (hx : Reads w w.heap.size v xs) (hc : ReadsC w w.heap.size cv cl) :
    Calls Try.prog 11 #[.int .i64 most, v, cv] w (True_ w) := by
  by_cases h1 : (shapeS most xs).2.2 = 0
  · obtain ⟨n, u, A, Fr, rfl, hq⟩ := cok_of h1 hx.2.1
    exact Means_good w n u A Fr v cv xs cl hx hq hc
  · exact Means_bad w most v cv xs hx h1

end Go.Proofs.Ytihlbhlagpmbjaa
