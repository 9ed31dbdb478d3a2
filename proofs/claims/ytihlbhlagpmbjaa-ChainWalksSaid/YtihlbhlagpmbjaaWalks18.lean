/- The walk of the law ChainWalks. -/
import Derived.Test.YtihlbhlagpmbjaaMeans18
namespace Go.Proofs.Ytihlbhlagpmbjaa
open Go.RowKit

theorem idx_rise : ∀ {K : List Int} {i : Nat}, K.Pairwise (· < ·) → i < K.length → idxS (K.getD i 0) K = i
  | [], i, _, h => by simp at h
  | a :: l, 0, _, _ => by
    show idxS a (a :: l) = 0
    rw [idxS, if_neg (by omega)]
  | a :: l, i + 1, h, hi => by
    have h' := List.pairwise_cons.1 h
    have hi' : i < l.length := by simpa using hi
    show idxS (l.getD i 0) (a :: l) = i + 1
    have hm : l.getD i 0 ∈ l := by rw [List.getD_eq_getElem?_getD, List.getElem?_eq_getElem hi']; simp
    rw [idxS, if_pos (h'.1 _ hm), idx_rise h'.2 hi']
theorem over_rise {K : List Int} {i : Nat} (h : K.Pairwise (· < ·)) (hi : i < K.length) : overS (K.getD i 0) K = i + 1 := by
  unfold overS thereS
  rw [idx_rise h hi, if_pos (decide_eq_true ⟨hi, rfl⟩)]
theorem cok_zero {n : Nat} (hn : n ≤ 16) : COk n 0 [] [] (List.replicate (2 * n + 3) 0) := by
  have hz : ∀ i, (List.replicate (2 * n + 3) (0 : Int)).getD i 0 = 0 := fun i => by
    rw [List.getD_eq_getElem?_getD, List.getElem?_replicate]
    split <;> rfl
  refine ⟨hn, by simp, hz 2, Nat.zero_le _, hz 0, hz 1, fun p hp => (nomatch hp), List.nodup_nil, rfl, List.Pairwise.nil, fun x hx => ?_⟩
  rw [(List.mem_replicate.1 hx).2]
  unfold In64
  omega
theorem cells_made {w : World} {base g n : Nat} (h : w.ownsRow base 2 1 (.slice (some ⟨g, 0, none⟩) n n) n (madeCells (Value.int .i64 0).cells (n * 1)).toList) : Cells w g (List.replicate n 0) := by
  have e : (madeCells (Value.int .i64 0).cells (n * 1)).toList = (List.replicate n (0 : Int)).map (Value.int .i64) := by
    unfold madeCells
    apply List.ext_getElem?
    intro i
    simp [Value.cells, Nat.mod_one]
    by_cases hi : i < n
    · simp [hi]
    · simp [hi]
  rw [e] at h
  exact cells_of_own (c := n) (by simpa using h)
theorem reads_one (w : World) (x : Int) (t : TypeId) (hx : In64 x) : Reads (w.alloc (.cells #[.int .i64 x] t (0, 0))) (w.alloc (.cells #[.int .i64 x] t (0, 0))).heap.size (.slice (some ⟨w.heap.size, 0, none⟩) 1 1) [x] := by
  refine ⟨by simp, fun y hy => by rw [List.mem_singleton.1 hy]; exact hx, _, 1, rfl, Nat.le_refl _, .inr ⟨w.heap.size, 0, rfl, by simp, fun i hi => ?_⟩⟩
  obtain rfl : i = 0 := by simpa using hi
  exact (cell_of_row _ w.heap.size 0 _ _ _ (heap_new (by simp))).trans rfl
theorem reads_none (w : World) (B : Nat) : Reads w B (.slice none 0 0) [] := ⟨by simp, fun y hy => (nomatch hy), none, 0, rfl, Nat.le_refl _, .inl rfl⟩
theorem ans_at {K : List Int} {i : Nat} (h : i < K.length) : ansS K i = (K, K.getD i 0, 0) := by unfold ansS; rw [if_neg (by omega)]
theorem ans_end {K : List Int} {i : Nat} (h : i = K.length) : ansS K i = (K, 0, 1) := by unfold ansS; rw [if_pos h]
theorem own_past {W w5 : World} {v : Value} {g B : Nat} {xs : List Int} (h : Owns W B v xs) (hg : g < B) (hgr : W.grownBy w5 (some g)) : Owns w5 B v xs := own_done (q := 0) (wr := W) h hg hgr

/-- What a call done over cells that say a chain leaves. -/
def DoneK (g : Nat) (n : Nat) (R : List Int × Int × Int) (w : World) (e : Ending) (w' : World) : Prop :=
  e = .returned (.tuple #[.int .i64 R.2.1, .int .i64 R.2.2, .bool true]) ∧ w.grownBy w' (some g) ∧ ∃ u A Fr cs, COk n u A Fr cs ∧ keysN cs A = R.1 ∧ Cells w' g cs
theorem doneK_calls (W : World) (n u g c : Nat) (call : Int) (av : Value) (A Fr : List Nat) (xs cs : List Int) (hq : COk n u A Fr cs) (ha : Reads W W.heap.size av xs) (hc : Cells W g cs) (har : arityI call = (xs.length : Int)) :
    Calls Try.prog 24 #[.slice (some ⟨g, 0, none⟩) (2 * n + 3) c, .int .i64 0, .int .i64 (n : Int), .int .i64 call, av] W (DoneK g n (meansS (keysN cs A) n call (xs.getD 0 0)) W) := by
  have hn := hq.most
  have hl := hq.len
  have hyes : takesB 0 n (arityI call) xs.length = true := takesB_t (by omega) (by omega) (by omega) (by omega) har
  have hcc := arity18 har
  obtain ⟨u', A', Fr', cs', hok', hrun, hkeys⟩ := run_means hq (call := call) (xs := xs) (by omega) (getD64 ha.2.1)
  have h := doneLaw_calls W W.heap.size g c n 0 call av xs cs ha (Nat.le_refl _) hc (by omega) hyes
  rw [hl, hrun] at h
  refine h.mono ?_
  rintro e w' ⟨rfl, h1, h2⟩
  exact ⟨rfl, h1, u', A', Fr', cs', hok', hkeys, h2⟩

set_option maxRecDepth 100000 in
set_option maxHeartbeats 40000000 in
theorem Walks_walk (w : World) (most : Int) (kv : Value) (ks : List Int) (hk : Reads w w.heap.size kv ks) :
    Calls Try.prog 9 #[.int .i64 most, kv] w (True_ w) := by
  obtain ⟨hkl, hkr, ka, kc, rfl, hkc, hkcell⟩ := hk
  have HKR := Lib.hid hkr
  have HKC := Lib.hid hkcell
  clear hkr hkcell
  rcases (show most < 0 ∨ (0 ≤ most ∧ 16 < most) ∨ (0 ≤ most ∧ most ≤ 16) from by omega) with h | ⟨h, h1⟩ | ⟨h0, h1⟩
  · go_enter Try.func9, Try.ntmps9
    go_wp2
    go_ret
    exact ⟨rfl, Below.refl _ _⟩
  · go_enter Try.func9, Try.ntmps9
    go_wp2
    go_ret
    exact ⟨rfl, Below.refl _ _⟩
  obtain ⟨n, rfl⟩ := Int.eq_ofNat_of_zero_le h0
  have hz0 := cok_zero (n := n) (by omega)
  have HZ := Lib.hid hz0
  clear hz0
  obtain ⟨i0, yi, yz0, yz1, yz2⟩ := info_parts infoI64
  go_enter Try.func9, Try.ntmps9
  go_wp2_with (at_make; refine wpList_make_full _ rfl _ _ 24 rfl w.heap.size 2 i0 (.int .i64 0) 1 Try.underlying24 yi yz0 yz1 _ _ _ _ (2 * n + 3) rfl rfl (by omega) (by omega) (by rw [yz2]; omega) (by unfold maxLen; omega) (Nat.le_refl _) ?_)
  intro w1 hown1 hgr1
  have hC1 := cells_made (by simpa [Value.cells] using hown1)
  have hz1 := hC1.lt
  have bel1 : Below w.heap.size w w1 := ⟨hgr1.os, hgr1.tape, hgr1.output, hgr1.size, fun q hq => hgr1.block q hq (by simp)⟩
  have HC1 := Lib.hid hC1
  have HB1 := Lib.hid bel1
  clear hown1 hgr1 hC1 bel1
  go_wp2
  go_loopg [6, 7] (ks.length + 1) (fun nn v6 v7 wr => ∃ (k u : Nat) (A Fr : List Nat) (cs : List Int), k ≤ ks.length ∧ v7 = .int .i64 k ∧ nn + k = ks.length + 1 ∧ COk n u A Fr cs ∧ Owns wr (w.heap.size + 1) v6 (keysN cs A) ∧ Cells wr w.heap.size cs ∧ Below w.heap.size w wr ∧ w.heap.size + 1 ≤ wr.heap.size)
  case atStart => exact ⟨0, 0, [], [], _, Nat.zero_le _, rfl, rfl, HZ.out, owns_nil _ _, HC1.out, HB1.out, hz1⟩
  case round =>
    clear HZ HC1 HB1
    obtain ⟨k, u, A, Fr, cs, hk, rfl, hn, hq, how, hC, bel, hzr⟩ := hrel
    have HN := Lib.hid hn
    have HQ := Lib.hid hq
    have HC := Lib.hid hC
    have hl16 := hq.keys_le
    have HRI := Lib.hid (keysN_in hq.num A)
    obtain ⟨a5, n5, c5, rfl⟩ := how.form
    have HOW := Lib.hid how
    have hbz := bel.size
    clear hn hC how hq
    by_cases hlt : k < ks.length
    · rcases HKC.out with h | ⟨b, off, rfl, hbB, hcell⟩
      · rw [h] at hlt; simp at hlt
      have hd0 := (bel.cell (p := ⟨b, off + k, none⟩) hbB).trans (hcell k hlt)
      have hx64 : In64 (ks.getD k 0) := HKR.out _ (by rw [List.getD_eq_getElem?_getD, List.getElem?_eq_getElem hlt]; simp)
      generalize ks.getD k 0 = x at *
      have hbs : b < wr.heap.size := by omega
      have hbne : b ≠ w.heap.size := by omega
      have hlt' : (k : Int) < (ks.length : Int) := by omega
      have HD0 := Lib.hid hd0
      have HDK := Lib.hid (doneK_calls (wr.alloc (.cells #[.int .i64 x] 2 (0, 0))) n u w.heap.size (2 * n + 3) 1 (.slice (some ⟨wr.heap.size, 0, none⟩) 1 1) A Fr [x] cs HQ.out (reads_one wr x _ hx64) (HC.out.keep (Below.heap_alloc _ _ _ (by omega))) rfl)
      have HMK := Lib.hid (fun (W : World) (ho : Owns W (w.heap.size + 1) (.slice a5 n5 c5) (keysN cs A)) (hz : w.heap.size + 1 ≤ W.heap.size) => means_calls (W.alloc (.cells #[.int .i64 x] 2 (0, 0))) (w.heap.size + 1) (.slice a5 n5 c5) (.slice (some ⟨W.heap.size, 0, none⟩) 1 1) (keysN cs A) [x] n 1 (ho.below (below_alloc _ _)) (by simp; omega) (by omega) HRI.out (reads_one W x _ hx64) (.inl ⟨rfl, rfl⟩))
      have hx0 : ([x] : List Int).getD 0 0 = x := rfl
      rw [hx0] at HDK HMK
      generalize meansS (keysN cs A) n 1 x = R at *
      obtain ⟨R1, R2, R3⟩ := R
      clear hcell hx64 hx0
      go_wp2_with fail
      refine Calls.mono HDK.out ?_
      rintro e w2 ⟨rfl, hg2, u', A', Fr', cs', hok', hkeys', hc2⟩
      have hz2 := hg2.size
      simp only [World.size_alloc] at hz2
      have hd2 : w2.cell? ⟨b, off + k, none⟩ = some (.int .i64 x) := (hg2.cell_far ⟨b, off + k, none⟩ (by simp; omega) (by simpa using hbne)).trans (cell_alloc_old HD0.out)
      have HOW2 := Lib.hid (own_past (HOW.out.below (below_alloc wr (.cells #[.int .i64 x] 2 (0, 0)))) (Nat.lt_succ_self _) hg2)
      have bel2 : Below w.heap.size w w2 := (below_alloc_of bel _).trans ⟨hg2.os, hg2.tape, hg2.output, by simp; omega, fun q hq => hg2.block q (by simp; omega) (fun e => by injection e with e; omega)⟩
      have HBEL2 := Lib.hid bel2
      have HCC := Lib.hid hc2
      have HOK := Lib.hid hok'
      have HKY := Lib.hid hkeys'
      have hw2 : w.heap.size + 1 ≤ w2.heap.size := by omega
      clear hg2 hok' hkeys' hc2 bel2 hd0
      dsimp only
      go_wp2_with fail
      refine Calls.mono (HMK.out _ HOW2.out hw2) ?_
      rintro e w3 ⟨v3, rfl, own3, hb3⟩
      have HO3 := Lib.hid own3
      have bel3 : Below w.heap.size w w3 := below_trans (below_alloc_of HBEL2.out _) hb3
      have HC3 := Lib.hid (HCC.out.keep ((hb3.block w.heap.size (by simp; omega)).trans (Below.heap_alloc _ _ _ (by omega))))
      have hz3 : w.heap.size + 1 ≤ w3.heap.size := by have := hb3.size; simp at this; omega
      clear own3 hb3
      dsimp only
      go_wp2
      go_roundg (ks.length - k)
      case measure => have := HN.out; omega
      case rel => exact ⟨k + 1, u', A', Fr', cs', by omega, by go_num, by have := HN.out; omega, HOK.out, by rw [HKY.out]; exact HO3.out, HC3.out, bel3, hz3⟩
    · have hlt' : ¬ ((k : Int) < (ks.length : Int)) := by omega
      have HRS := Lib.hid HQ.out.rise
      have HDL := Lib.hid (doneK_calls wr n u w.heap.size (2 * n + 3) 7 (.slice none 0 0) A Fr [] cs HQ.out (reads_none _ _) HC.out rfl)
      rw [means_7] at HDL
      generalize keysN cs A = K at *
      have HPK : Hid ((ansS K 0).1 = K) := ans_one _ _
      go_wp2_with fail
      refine Calls.mono HDL.out ?_
      rintro e w2 ⟨rfl, hg2, u2, A2, Fr2, cs2, hok2, hk2, hc2⟩
      rw [HPK.out] at hk2
      have hz2 := hg2.size
      have HOW2 := Lib.hid (own_past HOW.out (Nat.lt_succ_self _) hg2)
      have bel2 : Below w.heap.size w w2 := bel.trans ⟨hg2.os, hg2.tape, hg2.output, by omega, fun q hq => hg2.block q (by omega) (fun e => by injection e with e; omega)⟩
      have HBEL2 := Lib.hid bel2
      have HCC := Lib.hid hc2
      have HOK := Lib.hid hok2
      have HKY := Lib.hid hk2
      have hn5 : n5 = K.length := by
        obtain ⟨-, -, a6, c6, hv, -⟩ := HOW.out.reads (by omega) HRI.out
        injection hv
      subst hn5
      clear hg2 hok2 hk2 hc2 bel2
      go_wp2
      go_loopg [14, 15, 16, 17] (K.length + 1) (fun nn v14 v15 v16 v17 wr2 => ∃ (i u : Nat) (A Fr : List Nat) (cs : List Int), i ≤ K.length ∧ v17 = .int .i64 i ∧ v14 = .int .i64 (ansS K i).2.1 ∧ v15 = .int .i64 (ansS K i).2.2 ∧ v16 = .bool true ∧ nn + i = K.length + 1 ∧ COk n u A Fr cs ∧ keysN cs A = K ∧ Owns wr2 (w.heap.size + 1) (.slice a5 K.length c5) K ∧ Cells wr2 w.heap.size cs ∧ Below w.heap.size w wr2 ∧ w.heap.size + 1 ≤ wr2.heap.size)
      case atStart => exact ⟨0, u2, A2, Fr2, cs2, Nat.zero_le _, rfl, rfl, rfl, rfl, rfl, HOK.out, HKY.out, HOW2.out, HCC.out, HBEL2.out, by omega⟩
      case round =>
        obtain ⟨i, u3, A3, Fr3, cs3, hi, rfl, rfl, rfl, rfl, hn3, hq3, hK3, how3, hC3, bel3, hz3⟩ := hrel
        have HN3 := Lib.hid hn3
        have HQ3 := Lib.hid hq3
        have HK3 := Lib.hid hK3
        have HC3 := Lib.hid hC3
        have HOW3 := Lib.hid how3
        clear hn3 hq3 hK3 how3 hC3
        by_cases hil : i < K.length
        · rw [ans_at hil]
          obtain ⟨gk, ck, hv, hgk1, hgk2, hck, -⟩ := own_open HOW3.out (by omega)
          injection hv with hv1 hv2 hv3
          subst hv1
          have hki := hck.cell hil
          have hxi : In64 (K.getD i 0) := getD_mem64 HRI.out i
          have HDN := Lib.hid (doneK_calls (wr.alloc (.cells #[.int .i64 (K.getD i 0)] 2 (0, 0))) n u3 w.heap.size (2 * n + 3) 8 (.slice (some ⟨wr.heap.size, 0, none⟩) 1 1) A3 Fr3 [K.getD i 0] cs3 HQ3.out (reads_one wr _ _ hxi) (HC3.out.keep (Below.heap_alloc _ _ _ (by omega))) rfl)
          have hx0 : ([K.getD i 0] : List Int).getD 0 0 = K.getD i 0 := rfl
          rw [hx0, HK3.out, means_8, over_rise HRS.out hil] at HDN
          have HPK2 : Hid ((ansS K (i + 1)).1 = K) := ans_one _ _
          have HAN : ∃ z1 z2, (ansS K (i + 1)).2.1 = z1 ∧ (ansS K (i + 1)).2.2 = z2 := ⟨_, _, rfl, rfl⟩
          generalize K.getD i 0 = x at *
          have hil' : (i : Int) < (K.length : Int) := by omega
          have HILK := Lib.hid hil
          clear hck hxi hx0 hil hv2 hv3
          dsimp only
          go_wp2_with fail
          refine Calls.mono HDN.out ?_
          rintro e w4 ⟨rfl, hg4, u4, A4, Fr4, cs4, hok4, hk4, hc4⟩
          rw [HPK2.out] at hk4
          have hz4 := hg4.size
          simp only [World.size_alloc] at hz4
          have HOW4 := Lib.hid (own_past (HOW3.out.below (below_alloc wr (.cells #[.int .i64 x] 2 (0, 0)))) (Nat.lt_succ_self _) hg4)
          have bel4 : Below w.heap.size w w4 := (below_alloc_of bel3 _).trans ⟨hg4.os, hg4.tape, hg4.output, by simp; omega, fun q hq => hg4.block q (by simp; omega) (fun e => by injection e with e; omega)⟩
          have HOK4 := Lib.hid hok4
          have HKY4 := Lib.hid hk4
          have HC4 := Lib.hid hc4
          clear hg4 hok4 hk4 hc4
          go_wp2
          go_roundg (K.length - i)
          case measure => have := HN3.out; omega
          case rel => exact ⟨i + 1, u4, A4, Fr4, cs4, by have := HILK.out; omega, by go_num, rfl, rfl, rfl, by have := HN3.out; omega, HOK4.out, HKY4.out, HOW4.out, HC4.out, bel4, by omega⟩
        · have hie : i = K.length := by omega
          rw [ans_end hie]
          have HDL2 := Lib.hid (doneK_calls wr n u3 w.heap.size (2 * n + 3) 5 (.slice none 0 0) A3 Fr3 [] cs3 HQ3.out (reads_none _ _) HC3.out rfl)
          rw [HK3.out] at HDL2
          have hm : meansS K n 5 (([] : List Int).getD 0 0) = (K, ((K.length : Nat) : Int), 0) := rfl
          rw [hm] at HDL2
          have hil' : ¬ ((i : Int) < (K.length : Int)) := by omega
          clear hie hil hm
          dsimp only
          go_wp2_with fail
          refine Calls.mono HDL2.out ?_
          rintro e w4 ⟨rfl, hg4, -⟩
          have hz4 := hg4.size
          have bel4 : Below w.heap.size w w4 := bel3.trans ⟨hg4.os, hg4.tape, hg4.output, by omega, fun q hq => hg4.block q (by omega) (fun e => by injection e with e; omega)⟩
          clear hg4
          dsimp only
          go_wp2
          go_ret
          exact ⟨rfl, bel4⟩

end Go.Proofs.Ytihlbhlagpmbjaa
