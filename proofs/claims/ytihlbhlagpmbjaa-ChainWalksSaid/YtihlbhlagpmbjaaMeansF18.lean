/- The contract of means: what a call does to rising keys. -/
import Derived.Test.YtihlbhlagpmbjaaMeanD18
import Derived.Test.YtihlbhlagpmbjaaShapeB
import Derived.OwnWalk
import Derived.Deep.LoopGhost
import Derived.BigQuiet
namespace Go.Proofs.Ytihlbhlagpmbjaa
open Go.RowKit

/-- What means leaves: the keys behind the call, in a slice of the call's own or the one that came in. -/
def MeansPost (B : Nat) (R : List Int × Int × Int) (w : World) (e : Ending) (w' : World) : Prop :=
  ∃ v, e = .returned (.tuple #[v, .int .i64 R.2.1, .int .i64 R.2.2]) ∧ Owns w' B v R.1 ∧ Below w.heap.size w w'

theorem drewN_of {w w1 : World} (h : Below w.heap.size w w1) (n : Nat) : Below w.heap.size w (w1.drewN n) := h.trans ⟨rfl, rfl, rfl, Nat.le_refl _, fun _ _ => rfl⟩
theorem take_more {K : List Int} {s i : Nat} (h1 : s ≤ i) (h2 : i < K.length) : (K.drop s).take (i + 1 - s) = (K.drop s).take (i - s) ++ [K.getD i 0] := by
  rw [show i + 1 - s = (i - s) + 1 by omega, List.take_add_one]
  congr 1
  rw [List.getElem?_drop, show s + (i - s) = i by omega, List.getElem?_eq_getElem h2]
  simp [List.getD_eq_getElem?_getD, h2]
theorem take_all {K : List Int} {s i : Nat} (h : i = K.length) : (K.drop s).take (i - s) = K.drop s := by
  subst h
  exact List.take_of_length_le (by simp)
theorem own_more {W : World} {base : Nat} {v : Value} {L : List Int} {y : Int} (h : W.ownsRow base 2 1 v (L.length + 1) (L.map (Value.int .i64) ++ [.int .i64 y])) : Owns W base v (L ++ [y]) := by
  unfold Owns
  rw [List.map_append, List.length_append]
  exact h
theorem numsR {w : World} {B : Nat} {v : Value} {xs : List Int} (h : Owns w B v xs) (hl : xs.length ≤ 1000) (hr : ∀ x ∈ xs, -9223372036854775808 ≤ x ∧ x ≤ 9223372036854775807) : Reads w w.heap.size v xs := h.reads (by omega) hr


set_option maxRecDepth 100000 in
set_option maxHeartbeats 8000000 in
theorem means_has (w : World) (B : Nat) (lv av : Value) (K xs : List Int) (n : Int) (hl : Owns w B lv K) (_hB : B ≤ w.heap.size) (hK : K.length ≤ 1000) (hKr : ∀ x ∈ K, -9223372036854775808 ≤ x ∧ x ≤ 9223372036854775807) (hx : Reads w w.heap.size av xs) (h1 : xs.length = 1) :
    Calls Try.prog 25 #[lv, .int .i64 n, .int .i64 6, av] w (MeansPost B (meansS K n 6 (xs.getD 0 0)) w) := by
  obtain ⟨hxl, hxr, aA, cA, rfl, hcA, hxc⟩ := hx
  rcases hxc with h | ⟨bA, oA, rfl, hbA, hxcell⟩
  · rw [h] at h1; simp at h1
  have hx0 := hxcell 0 (by omega)
  rw [h1, Nat.add_zero] at *
  generalize xs.getD 0 0 = x at *
  obtain ⟨-, -, aL, cL, rfl, hcL, hLc⟩ := numsR hl hK hKr
  have HL := Lib.hid hl
  have HLC := Lib.hid hLc
  have HKR := Lib.hid hKr
  have hid := idx_le x K
  have HLT := Lib.hid (idx_lt x K)
  have HCS := Lib.hid (idx_cases x K)
  have hcA1 : 1 ≤ cA := hcA
  clear hl hLc hKr hxcell hxr hxl h1 hcA
  obtain ⟨i0, yi, yz0, yz1, yz2⟩ := info_parts infoI64
  generalize hix : idxS x K = ix at *
  have HIX := Lib.hid hix
  clear hix
  have hmax : ix ≤ 1000 := by omega
  go_enter Try.func25, Try.ntmps25
  go_wp2
  go_loopg [12] (K.length + 1) (fun nn v12 wr => ∃ k : Nat, k ≤ ix ∧ v12 = .int .i64 k ∧ nn + k = K.length + 1 ∧ Below w.heap.size w wr)
  case atStart => exact ⟨0, Nat.zero_le _, rfl, rfl, Below.refl _ _⟩
  case round =>
    obtain ⟨k, hk, rfl, hn, bel⟩ := hrel
    have HN := Lib.hid hn
    have hx1 := (bel.cell (p := ⟨bA, oA, none⟩) hbA).trans hx0
    have hzr := bel.size
    clear hn
    by_cases hlt : k < ix
    · have hkx : K.getD k 0 < x := HLT.out k hlt
      rcases HLC.out with h | ⟨bL, oL, rfl, hbL, hLcell⟩
      · rw [h] at hid; simp at hid; omega
      have hkc := (bel.cell (p := ⟨bL, oL + k, none⟩) hbL).trans (hLcell k (by omega))
      generalize K.getD k 0 = y at *
      have hkl : (k : Int) < (K.length : Int) := by omega
      clear hLcell
      go_wp2
      go_quiet (fail)
      go_wp2
      go_roundg (K.length - k)
      case measure => have := HN.out; omega
      case rel => exact ⟨k + 1, by omega, by go_num, by omega, drewN_of bel _⟩
    · obtain rfl : k = ix := by omega
      clear hk hlt
      rcases HCS.out with ⟨hc, hy, hth⟩ | ⟨hc, hy, hth⟩ | ⟨hc, hth⟩
      · rcases HLC.out with h | ⟨bL, oL, rfl, hbL, hLcell⟩
        · rw [h] at hc; simp at hc
        have hkc := (bel.cell (p := ⟨bL, oL + k, none⟩) hbL).trans (hLcell k hc)
        rw [hy] at hkc
        have hY := Lib.hid hy
        clear hy
        have hkl : (k : Int) < (K.length : Int) := by omega
        have HNR : Hid (∀ W, Below w.heap.size w W → Reads W W.heap.size (.slice (some ⟨bL, oL, none⟩) k cL) (K.take k)) := fun W hb => by
          refine ⟨by simp; omega, fun z hz => HKR.out z (List.mem_of_mem_take hz), _, cL, by simp; omega, by simp; omega, .inr ⟨bL, oL, rfl, by have := hb.size; omega, fun i hi => ?_⟩⟩
          rw [List.length_take] at hi
          have hik : i < k := by omega
          rw [show (K.take k).getD i 0 = K.getD i 0 by simp [List.getD_eq_getElem?_getD, hik]]
          exact (hb.cell (p := ⟨bL, oL + i, none⟩) hbL).trans (hLcell i (by omega))
        have HLX : Hid (∀ i, i < K.length → w.cell? ⟨bL, oL + i, none⟩ = some (.int .i64 (K.getD i 0))) := hLcell
        clear hLcell
        have HTH := Lib.hid hth
        have HC := Lib.hid hc
        clear hth hc
        go_wp2
        go_quiet (fail)
        go_wp2
        go_quiet (fail)
        go_wp2_with fail
        refine (numbers_calls _ _ _ _ (HNR.out _ (drewN_of bel _)) (Nat.le_refl _)).mono ?_
        rintro e w3 ⟨v3, rfl, own3, hb3⟩
        have bel3 : Below w.heap.size w w3 := below_trans (drewN_of bel _) hb3
        have HO3 : Hid (Owns w3 wr.heap.size v3 (K.take k)) := own3
        have hz3 : wr.heap.size ≤ w3.heap.size := hb3.size
        clear own3 hb3
        generalize wr.heap.size = z0 at *
        have hm : meansS K n 6 x = (K, 1, 0) := by simp [meansS, HTH.out]
        go_wp2
        go_ret3
        rw [hm]
        exact ⟨_, rfl, Owns.below HL.out bel3, bel3⟩
      · rcases HLC.out with h | ⟨bL, oL, rfl, hbL, hLcell⟩
        · rw [h] at hc; simp at hc
        have hkc := (bel.cell (p := ⟨bL, oL + k, none⟩) hbL).trans (hLcell k hc)
        generalize hgy : K.getD k 0 = y at *
        have hY := Lib.hid hgy
        clear hgy
        have hyx : ¬ (y < x) := by omega
        have hyne : (y == x) = false := by simpa using (show ¬ (y = x) by omega)
        have hkl : (k : Int) < (K.length : Int) := by omega
        have HNR : Hid (∀ W, Below w.heap.size w W → Reads W W.heap.size (.slice (some ⟨bL, oL, none⟩) k cL) (K.take k)) := fun W hb => by
          refine ⟨by simp; omega, fun z hz => HKR.out z (List.mem_of_mem_take hz), _, cL, by simp; omega, by simp; omega, .inr ⟨bL, oL, rfl, by have := hb.size; omega, fun i hi => ?_⟩⟩
          rw [List.length_take] at hi
          have hik : i < k := by omega
          rw [show (K.take k).getD i 0 = K.getD i 0 by simp [List.getD_eq_getElem?_getD, hik]]
          exact (hb.cell (p := ⟨bL, oL + i, none⟩) hbL).trans (hLcell i (by omega))
        have HLX : Hid (∀ i, i < K.length → w.cell? ⟨bL, oL + i, none⟩ = some (.int .i64 (K.getD i 0))) := hLcell
        clear hLcell
        have HTH := Lib.hid hth
        have HC := Lib.hid hc
        clear hth hc
        go_wp2
        go_quiet (fail)
        go_wp2
        go_quiet (fail)
        go_wp2_with fail
        refine (numbers_calls _ _ _ _ (HNR.out _ (drewN_of bel _)) (Nat.le_refl _)).mono ?_
        rintro e w3 ⟨v3, rfl, own3, hb3⟩
        have bel3 : Below w.heap.size w w3 := below_trans (drewN_of bel _) hb3
        have HO3 : Hid (Owns w3 wr.heap.size v3 (K.take k)) := own3
        have hz3 : wr.heap.size ≤ w3.heap.size := hb3.size
        clear own3 hb3
        generalize wr.heap.size = z0 at *
        have hm : meansS K n 6 x = (K, 0, 0) := by simp [meansS, HTH.out]
        go_wp2
        go_ret3
        rw [hm]
        exact ⟨_, rfl, Owns.below HL.out bel3, bel3⟩
      · have hkl : decide ((k : Int) < (K.length : Int)) = false := decide_eq_false (by omega)
        have hklb : decide (k < K.length) = false := decide_eq_false (by omega)
        have hklc : ¬ (k < K.length) := by omega
        have HNR : Hid (∀ W, Below w.heap.size w W → Reads W W.heap.size (.slice aL k cL) (K.take k)) := fun W hb => by
          rw [hc, List.take_length]
          exact (numsR HL.out hK HKR.out).below hb |>.mono hb.size
        have HTH := Lib.hid hth
        have HC := Lib.hid hc
        clear hth hc
        go_wp2
        go_quiet (fail)
        go_wp2
        go_quiet (fail)
        go_wp2_with fail
        refine (numbers_calls _ _ _ _ (HNR.out _ (drewN_of bel _)) (Nat.le_refl _)).mono ?_
        rintro e w3 ⟨v3, rfl, own3, hb3⟩
        have bel3 : Below w.heap.size w w3 := below_trans (drewN_of bel _) hb3
        have HO3 : Hid (Owns w3 wr.heap.size v3 (K.take k)) := own3
        have hz3 : wr.heap.size ≤ w3.heap.size := hb3.size
        clear own3 hb3
        generalize wr.heap.size = z0 at *
        have hm : meansS K n 6 x = (K, 0, 0) := by simp [meansS, HTH.out]
        go_wp2
        go_ret3
        rw [hm]
        exact ⟨_, rfl, Owns.below HL.out bel3, bel3⟩

set_option maxRecDepth 100000 in
set_option maxHeartbeats 8000000 in
theorem means_add (w : World) (B : Nat) (lv av : Value) (K xs : List Int) (n : Int) (hl : Owns w B lv K) (hB : B ≤ w.heap.size) (hK : K.length ≤ 1000) (hKr : ∀ x ∈ K, -9223372036854775808 ≤ x ∧ x ≤ 9223372036854775807) (hx : Reads w w.heap.size av xs) (h1 : xs.length = 1) :
    Calls Try.prog 25 #[lv, .int .i64 n, .int .i64 1, av] w (MeansPost B (meansS K n 1 (xs.getD 0 0)) w) := by
  obtain ⟨hxl, hxr, aA, cA, rfl, hcA, hxc⟩ := hx
  rcases hxc with h | ⟨bA, oA, rfl, hbA, hxcell⟩
  · rw [h] at h1; simp at h1
  have hx0 := hxcell 0 (by omega)
  rw [h1, Nat.add_zero] at *
  generalize xs.getD 0 0 = x at *
  obtain ⟨-, -, aL, cL, rfl, hcL, hLc⟩ := numsR hl hK hKr
  have HL := Lib.hid hl
  have HLC := Lib.hid hLc
  have HKR := Lib.hid hKr
  have hid := idx_le x K
  have HLT := Lib.hid (idx_lt x K)
  have HCS := Lib.hid (idx_cases x K)
  have hcA1 : 1 ≤ cA := hcA
  clear hl hLc hKr hxcell hxr hxl h1 hcA
  obtain ⟨i0, yi, yz0, yz1, yz2⟩ := info_parts infoI64
  generalize hix : idxS x K = ix at *
  have HIX := Lib.hid hix
  clear hix
  have hmax : ix ≤ 1000 := by omega
  go_enter Try.func25, Try.ntmps25
  go_wp2
  go_loopg [12] (K.length + 1) (fun nn v12 wr => ∃ k : Nat, k ≤ ix ∧ v12 = .int .i64 k ∧ nn + k = K.length + 1 ∧ Below w.heap.size w wr)
  case atStart => exact ⟨0, Nat.zero_le _, rfl, rfl, Below.refl _ _⟩
  case round =>
    obtain ⟨k, hk, rfl, hn, bel⟩ := hrel
    have HN := Lib.hid hn
    have hx1 := (bel.cell (p := ⟨bA, oA, none⟩) hbA).trans hx0
    have hzr := bel.size
    clear hn
    by_cases hlt : k < ix
    · have hkx : K.getD k 0 < x := HLT.out k hlt
      rcases HLC.out with h | ⟨bL, oL, rfl, hbL, hLcell⟩
      · rw [h] at hid; simp at hid; omega
      have hkc := (bel.cell (p := ⟨bL, oL + k, none⟩) hbL).trans (hLcell k (by omega))
      generalize K.getD k 0 = y at *
      have hkl : (k : Int) < (K.length : Int) := by omega
      clear hLcell
      go_wp2
      go_quiet (fail)
      go_wp2
      go_roundg (K.length - k)
      case measure => have := HN.out; omega
      case rel => exact ⟨k + 1, by omega, by go_num, by omega, drewN_of bel _⟩
    · obtain rfl : k = ix := by omega
      clear hk hlt
      rcases HCS.out with ⟨hc, hy, hth⟩ | ⟨hc, hy, hth⟩ | ⟨hc, hth⟩
      · rcases HLC.out with h | ⟨bL, oL, rfl, hbL, hLcell⟩
        · rw [h] at hc; simp at hc
        have hkc := (bel.cell (p := ⟨bL, oL + k, none⟩) hbL).trans (hLcell k hc)
        rw [hy] at hkc
        have hY := Lib.hid hy
        clear hy
        have hkl : (k : Int) < (K.length : Int) := by omega
        have HNR : Hid (∀ W, Below w.heap.size w W → Reads W W.heap.size (.slice (some ⟨bL, oL, none⟩) k cL) (K.take k)) := fun W hb => by
          refine ⟨by simp; omega, fun z hz => HKR.out z (List.mem_of_mem_take hz), _, cL, by simp; omega, by simp; omega, .inr ⟨bL, oL, rfl, by have := hb.size; omega, fun i hi => ?_⟩⟩
          rw [List.length_take] at hi
          have hik : i < k := by omega
          rw [show (K.take k).getD i 0 = K.getD i 0 by simp [List.getD_eq_getElem?_getD, hik]]
          exact (hb.cell (p := ⟨bL, oL + i, none⟩) hbL).trans (hLcell i (by omega))
        have HLX : Hid (∀ i, i < K.length → w.cell? ⟨bL, oL + i, none⟩ = some (.int .i64 (K.getD i 0))) := hLcell
        clear hLcell
        have HTH := Lib.hid hth
        have HC := Lib.hid hc
        clear hth hc
        go_wp2
        go_quiet (fail)
        go_wp2
        go_quiet (fail)
        go_wp2_with fail
        refine (numbers_calls _ _ _ _ (HNR.out _ (drewN_of bel _)) (Nat.le_refl _)).mono ?_
        rintro e w3 ⟨v3, rfl, own3, hb3⟩
        have bel3 : Below w.heap.size w w3 := below_trans (drewN_of bel _) hb3
        have HO3 : Hid (Owns w3 wr.heap.size v3 (K.take k)) := own3
        have hz3 : wr.heap.size ≤ w3.heap.size := hb3.size
        clear own3 hb3
        generalize wr.heap.size = z0 at *
        have hm : meansS K n 1 x = (K, 0, 3) := by simp [meansS, HTH.out]
        go_wp2
        go_ret3
        rw [hm]
        exact ⟨_, rfl, Owns.below HL.out bel3, bel3⟩
      · rcases HLC.out with h | ⟨bL, oL, rfl, hbL, hLcell⟩
        · rw [h] at hc; simp at hc
        have hkc := (bel.cell (p := ⟨bL, oL + k, none⟩) hbL).trans (hLcell k hc)
        generalize hgy : K.getD k 0 = y at *
        have hY := Lib.hid hgy
        clear hgy
        have hyx : ¬ (y < x) := by omega
        have hyne : (y == x) = false := by simpa using (show ¬ (y = x) by omega)
        have hkl : (k : Int) < (K.length : Int) := by omega
        have HNR : Hid (∀ W, Below w.heap.size w W → Reads W W.heap.size (.slice (some ⟨bL, oL, none⟩) k cL) (K.take k)) := fun W hb => by
          refine ⟨by simp; omega, fun z hz => HKR.out z (List.mem_of_mem_take hz), _, cL, by simp; omega, by simp; omega, .inr ⟨bL, oL, rfl, by have := hb.size; omega, fun i hi => ?_⟩⟩
          rw [List.length_take] at hi
          have hik : i < k := by omega
          rw [show (K.take k).getD i 0 = K.getD i 0 by simp [List.getD_eq_getElem?_getD, hik]]
          exact (hb.cell (p := ⟨bL, oL + i, none⟩) hbL).trans (hLcell i (by omega))
        have HLX : Hid (∀ i, i < K.length → w.cell? ⟨bL, oL + i, none⟩ = some (.int .i64 (K.getD i 0))) := hLcell
        clear hLcell
        have HTH := Lib.hid hth
        have HC := Lib.hid hc
        clear hth hc
        go_wp2
        go_quiet (fail)
        go_wp2
        go_quiet (fail)
        go_wp2_with fail
        refine (numbers_calls _ _ _ _ (HNR.out _ (drewN_of bel _)) (Nat.le_refl _)).mono ?_
        rintro e w3 ⟨v3, rfl, own3, hb3⟩
        have bel3 : Below w.heap.size w w3 := below_trans (drewN_of bel _) hb3
        have HO3 : Hid (Owns w3 wr.heap.size v3 (K.take k)) := own3
        have hz3 : wr.heap.size ≤ w3.heap.size := hb3.size
        clear own3 hb3
        generalize wr.heap.size = z0 at *
        by_cases hfull : n ≤ (K.length : Int)
        · have hm : meansS K n 1 x = (K, 0, 2) := by simp [meansS, HTH.out, hfull]
          go_wp2
          go_ret3
          rw [hm]
          exact ⟨_, rfl, Owns.below HL.out bel3, bel3⟩
        · have hm : meansS K n 1 x = (K.take k ++ x :: K.drop k, 0, 0) := by simp [meansS, HTH.out, hfull, HIX.out]
          have HM := Lib.hid hm
          have hx3 := (bel3.cell (p := ⟨bA, oA, none⟩) hbA).trans hx0
          obtain ⟨a3, n3, c3, rfl⟩ := HO3.out.form
          have hle3 : (K.take k).length ≤ 1000 := by simp; omega
          clear hm
          generalize K.take k = T at *
          have hown3 : w3.ownsRow z0 2 1 (.slice a3 n3 c3) T.length (T.map (Value.int .i64)) := HO3.out
          go_wp2_with (at_builtin; refine wpList_append_own _ rfl _ _ 24 rfl z0 2 i0 (.int .i64 0) 1 8 Try.underlying24 yi yz0 yz1 yz2 rfl (by decide) _ _ _ rfl (hown3.alloc _) ⟨w3.heap.size, 0, none⟩ 1 1 [.int .i64 x] rfl rfl ?c1 ?c2 ?c3 ?c4 ?c5 ?_)
          case c1 =>
            intro j u hj
            match j, hj with
            | 0, hj => simp at hj; subst hj; simp [Addr.add]
          case c2 => intro u hu; simp at hu; subst hu; rfl
          case c3 => unfold maxLen; omega
          case c4 => omega
          case c5 => simp; omega
          intro v5 w5 hown5 hgrow5 _
          have HO5 : Hid (Owns w5 z0 v5 (T ++ [x])) := own_more hown5
          have hz5 : z0 ≤ w5.heap.size := by have := hgrow5.size; simp at this; omega
          have bel5 : Below w.heap.size w w5 := (bel3.alloc (by omega) _).grown hgrow5 (by simp; omega) (fun r hr => by have := (hown3.lt r hr).1; omega)
          clear hown5 hgrow5 hown3
          go_wp2
          go_loopg [14, 15] (K.length + 1 - (k)) (fun nn v14 vi wr2 => ∃ (i : Nat), k ≤ i ∧ i ≤ K.length ∧ vi = .int .i64 i ∧ nn + i = K.length + 1 ∧ Owns wr2 z0 v14 ((T ++ [x]) ++ (K.drop (k)).take (i - (k))) ∧ Below w.heap.size w wr2 ∧ z0 ≤ wr2.heap.size)
          case atStart => exact ⟨k, Nat.le_refl _, by omega, by go_num, by omega, by rw [Nat.sub_self, List.take_zero, List.append_nil]; exact HO5.out, bel5, hz5⟩
          case round =>
            obtain ⟨i, hi1, hi2, rfl, hn2, own2, bel2, hz2⟩ := hrel
            have HN2 := Lib.hid hn2
            obtain ⟨a4, n4, c4, rfl⟩ := own2.form
            have HO2 := Lib.hid own2
            clear hn2 own2
            by_cases hlt : i < K.length
            · have hkc2 := (bel2.cell (p := ⟨bL, oL + i, none⟩) hbL).trans (HLX.out i hlt)
              have hsn : (T ++ [x]) ++ (K.drop (k)).take (i + 1 - (k)) = ((T ++ [x]) ++ (K.drop (k)).take (i - (k))) ++ [K.getD i 0] := by rw [take_more hi1 hlt]; exact (List.append_assoc _ _ _).symm
              have hle : ((T ++ [x]) ++ (K.drop (k)).take (i - (k))).length ≤ 2001 := by simp; omega
              have HSN := Lib.hid hsn
              clear hsn
              generalize (T ++ [x]) ++ (K.drop (k)).take (i - (k)) = L at *
              have hown2 : wr.ownsRow z0 2 1 (.slice a4 n4 c4) L.length (L.map (Value.int .i64)) := HO2.out
              generalize K.getD i 0 = y2 at *
              have hil : (i : Int) < (K.length : Int) := by omega
              go_wp2_with (at_builtin; refine wpList_append_own _ rfl _ _ 24 rfl z0 2 i0 (.int .i64 0) 1 8 Try.underlying24 yi yz0 yz1 yz2 rfl (by decide) _ _ _ rfl (hown2.alloc _) ⟨wr.heap.size, 0, none⟩ 1 1 [.int .i64 y2] rfl rfl ?c1 ?c2 ?c3 ?c4 ?c5 ?_)
              case c1 =>
                intro j u hj
                match j, hj with
                | 0, hj => simp at hj; subst hj; simp [Addr.add]
              case c2 => intro u hu; simp at hu; subst hu; rfl
              case c3 => unfold maxLen; omega
              case c4 => omega
              case c5 => simp; omega
              intro v6 w6 hown6 hgrow6 _
              have HO6 : Hid (Owns w6 z0 v6 ((T ++ [x]) ++ (K.drop (k)).take (i + 1 - (k)))) := by
                rw [HSN.out]
                exact own_more hown6
              have hz6 : z0 ≤ w6.heap.size := by have := hgrow6.size; simp at this; omega
              have bel6 : Below w.heap.size w w6 := (bel2.alloc (by omega) _).grown hgrow6 (by simp; omega) (fun r hr => by have := (hown2.lt r hr).1; omega)
              clear hown6 hgrow6 hown2
              go_wp2
              go_roundg (K.length - i)
              case measure => have := HN2.out; omega
              case rel => exact ⟨i + 1, by omega, by omega, by go_num, by omega, HO6.out, bel6, hz6⟩
            · have hie : i = K.length := by omega
              have hfin := HO2.out
              rw [take_all hie] at hfin
              have HFI := Lib.hid hfin
              have hil : ¬ ((i : Int) < (K.length : Int)) := by omega
              clear hfin hie hlt
              go_wp2
              go_ret3
              rw [HM.out]
              exact ⟨_, rfl, by simpa using Owns.le HFI.out (show B ≤ z0 by omega), bel2⟩
      · have hkl : decide ((k : Int) < (K.length : Int)) = false := decide_eq_false (by omega)
        have hklb : decide (k < K.length) = false := decide_eq_false (by omega)
        have hklc : ¬ (k < K.length) := by omega
        have HNR : Hid (∀ W, Below w.heap.size w W → Reads W W.heap.size (.slice aL k cL) (K.take k)) := fun W hb => by
          rw [hc, List.take_length]
          exact (numsR HL.out hK HKR.out).below hb |>.mono hb.size
        have HTH := Lib.hid hth
        have HC := Lib.hid hc
        clear hth hc
        go_wp2
        go_quiet (fail)
        go_wp2
        go_quiet (fail)
        go_wp2_with fail
        refine (numbers_calls _ _ _ _ (HNR.out _ (drewN_of bel _)) (Nat.le_refl _)).mono ?_
        rintro e w3 ⟨v3, rfl, own3, hb3⟩
        have bel3 : Below w.heap.size w w3 := below_trans (drewN_of bel _) hb3
        have HO3 : Hid (Owns w3 wr.heap.size v3 (K.take k)) := own3
        have hz3 : wr.heap.size ≤ w3.heap.size := hb3.size
        clear own3 hb3
        generalize wr.heap.size = z0 at *
        by_cases hfull : n ≤ (K.length : Int)
        · have hm : meansS K n 1 x = (K, 0, 2) := by simp [meansS, HTH.out, hfull]
          go_wp2
          go_ret3
          rw [hm]
          exact ⟨_, rfl, Owns.below HL.out bel3, bel3⟩
        · have hm : meansS K n 1 x = (K.take k ++ x :: K.drop k, 0, 0) := by simp [meansS, HTH.out, hfull, HIX.out]
          have HM := Lib.hid hm
          have hx3 := (bel3.cell (p := ⟨bA, oA, none⟩) hbA).trans hx0
          obtain ⟨a3, n3, c3, rfl⟩ := HO3.out.form
          have hle3 : (K.take k).length ≤ 1000 := by simp; omega
          clear hm
          generalize K.take k = T at *
          have hown3 : w3.ownsRow z0 2 1 (.slice a3 n3 c3) T.length (T.map (Value.int .i64)) := HO3.out
          go_wp2_with (at_builtin; refine wpList_append_own _ rfl _ _ 24 rfl z0 2 i0 (.int .i64 0) 1 8 Try.underlying24 yi yz0 yz1 yz2 rfl (by decide) _ _ _ rfl (hown3.alloc _) ⟨w3.heap.size, 0, none⟩ 1 1 [.int .i64 x] rfl rfl ?c1 ?c2 ?c3 ?c4 ?c5 ?_)
          case c1 =>
            intro j u hj
            match j, hj with
            | 0, hj => simp at hj; subst hj; simp [Addr.add]
          case c2 => intro u hu; simp at hu; subst hu; rfl
          case c3 => unfold maxLen; omega
          case c4 => omega
          case c5 => simp; omega
          intro v5 w5 hown5 hgrow5 _
          have HO5 : Hid (Owns w5 z0 v5 (T ++ [x])) := own_more hown5
          have hz5 : z0 ≤ w5.heap.size := by have := hgrow5.size; simp at this; omega
          have bel5 : Below w.heap.size w w5 := (bel3.alloc (by omega) _).grown hgrow5 (by simp; omega) (fun r hr => by have := (hown3.lt r hr).1; omega)
          clear hown5 hgrow5 hown3
          go_wp2
          go_loopg [14, 15] (K.length + 1 - (k)) (fun nn v14 vi wr2 => ∃ (i : Nat), k ≤ i ∧ i ≤ K.length ∧ vi = .int .i64 i ∧ nn + i = K.length + 1 ∧ Owns wr2 z0 v14 ((T ++ [x]) ++ (K.drop (k)).take (i - (k))) ∧ Below w.heap.size w wr2 ∧ z0 ≤ wr2.heap.size)
          case atStart => exact ⟨k, Nat.le_refl _, by omega, by go_num, by omega, by rw [Nat.sub_self, List.take_zero, List.append_nil]; exact HO5.out, bel5, hz5⟩
          case round =>
            obtain ⟨i, hi1, hi2, rfl, hn2, own2, bel2, hz2⟩ := hrel
            have HN2 := Lib.hid hn2
            obtain ⟨a4, n4, c4, rfl⟩ := own2.form
            have HO2 := Lib.hid own2
            clear hn2 own2
            by_cases hlt : i < K.length
            · exact absurd hlt (by have := HC.out; omega)
            · have hie : i = K.length := by omega
              have hfin := HO2.out
              rw [take_all hie] at hfin
              have HFI := Lib.hid hfin
              have hil : ¬ ((i : Int) < (K.length : Int)) := by omega
              clear hfin hie hlt
              go_wp2
              go_ret3
              rw [HM.out]
              exact ⟨_, rfl, by simpa using Owns.le HFI.out (show B ≤ z0 by omega), bel2⟩

set_option maxRecDepth 100000 in
set_option maxHeartbeats 8000000 in
theorem means_dele (w : World) (B : Nat) (lv av : Value) (K xs : List Int) (n : Int) (hl : Owns w B lv K) (hB : B ≤ w.heap.size) (hK : K.length ≤ 1000) (hKr : ∀ x ∈ K, -9223372036854775808 ≤ x ∧ x ≤ 9223372036854775807) (hx : Reads w w.heap.size av xs) (h1 : xs.length = 1) :
    Calls Try.prog 25 #[lv, .int .i64 n, .int .i64 4, av] w (MeansPost B (meansS K n 4 (xs.getD 0 0)) w) := by
  obtain ⟨hxl, hxr, aA, cA, rfl, hcA, hxc⟩ := hx
  rcases hxc with h | ⟨bA, oA, rfl, hbA, hxcell⟩
  · rw [h] at h1; simp at h1
  have hx0 := hxcell 0 (by omega)
  rw [h1, Nat.add_zero] at *
  generalize xs.getD 0 0 = x at *
  obtain ⟨-, -, aL, cL, rfl, hcL, hLc⟩ := numsR hl hK hKr
  have HL := Lib.hid hl
  have HLC := Lib.hid hLc
  have HKR := Lib.hid hKr
  have hid := idx_le x K
  have HLT := Lib.hid (idx_lt x K)
  have HCS := Lib.hid (idx_cases x K)
  have hcA1 : 1 ≤ cA := hcA
  clear hl hLc hKr hxcell hxr hxl h1 hcA
  obtain ⟨i0, yi, yz0, yz1, yz2⟩ := info_parts infoI64
  generalize hix : idxS x K = ix at *
  have HIX := Lib.hid hix
  clear hix
  have hmax : ix ≤ 1000 := by omega
  go_enter Try.func25, Try.ntmps25
  go_wp2
  go_loopg [12] (K.length + 1) (fun nn v12 wr => ∃ k : Nat, k ≤ ix ∧ v12 = .int .i64 k ∧ nn + k = K.length + 1 ∧ Below w.heap.size w wr)
  case atStart => exact ⟨0, Nat.zero_le _, rfl, rfl, Below.refl _ _⟩
  case round =>
    obtain ⟨k, hk, rfl, hn, bel⟩ := hrel
    have HN := Lib.hid hn
    have hx1 := (bel.cell (p := ⟨bA, oA, none⟩) hbA).trans hx0
    have hzr := bel.size
    clear hn
    by_cases hlt : k < ix
    · have hkx : K.getD k 0 < x := HLT.out k hlt
      rcases HLC.out with h | ⟨bL, oL, rfl, hbL, hLcell⟩
      · rw [h] at hid; simp at hid; omega
      have hkc := (bel.cell (p := ⟨bL, oL + k, none⟩) hbL).trans (hLcell k (by omega))
      generalize K.getD k 0 = y at *
      have hkl : (k : Int) < (K.length : Int) := by omega
      clear hLcell
      go_wp2
      go_quiet (fail)
      go_wp2
      go_roundg (K.length - k)
      case measure => have := HN.out; omega
      case rel => exact ⟨k + 1, by omega, by go_num, by omega, drewN_of bel _⟩
    · obtain rfl : k = ix := by omega
      clear hk hlt
      rcases HCS.out with ⟨hc, hy, hth⟩ | ⟨hc, hy, hth⟩ | ⟨hc, hth⟩
      · rcases HLC.out with h | ⟨bL, oL, rfl, hbL, hLcell⟩
        · rw [h] at hc; simp at hc
        have hkc := (bel.cell (p := ⟨bL, oL + k, none⟩) hbL).trans (hLcell k hc)
        rw [hy] at hkc
        have hY := Lib.hid hy
        clear hy
        have hkl : (k : Int) < (K.length : Int) := by omega
        have HNR : Hid (∀ W, Below w.heap.size w W → Reads W W.heap.size (.slice (some ⟨bL, oL, none⟩) k cL) (K.take k)) := fun W hb => by
          refine ⟨by simp; omega, fun z hz => HKR.out z (List.mem_of_mem_take hz), _, cL, by simp; omega, by simp; omega, .inr ⟨bL, oL, rfl, by have := hb.size; omega, fun i hi => ?_⟩⟩
          rw [List.length_take] at hi
          have hik : i < k := by omega
          rw [show (K.take k).getD i 0 = K.getD i 0 by simp [List.getD_eq_getElem?_getD, hik]]
          exact (hb.cell (p := ⟨bL, oL + i, none⟩) hbL).trans (hLcell i (by omega))
        have HLX : Hid (∀ i, i < K.length → w.cell? ⟨bL, oL + i, none⟩ = some (.int .i64 (K.getD i 0))) := hLcell
        clear hLcell
        have HTH := Lib.hid hth
        have HC := Lib.hid hc
        clear hth hc
        go_wp2
        go_quiet (fail)
        go_wp2
        go_quiet (fail)
        go_wp2_with fail
        refine (numbers_calls _ _ _ _ (HNR.out _ (drewN_of bel _)) (Nat.le_refl _)).mono ?_
        rintro e w3 ⟨v3, rfl, own3, hb3⟩
        have bel3 : Below w.heap.size w w3 := below_trans (drewN_of bel _) hb3
        have HO3 : Hid (Owns w3 wr.heap.size v3 (K.take k)) := own3
        have hz3 : wr.heap.size ≤ w3.heap.size := hb3.size
        clear own3 hb3
        generalize wr.heap.size = z0 at *
        have hm : meansS K n 4 x = (K.take k ++ K.drop (k + 1), 0, 0) := by simp [meansS, HTH.out, HIX.out]
        have HM := Lib.hid hm
        have HO5 : Hid (Owns w3 z0 v3 (K.take k)) := HO3.out
        have hz5 := hz3
        have bel5 := bel3
        have hk1 : k + 1 ≤ K.length := HC.out
        clear hm
        go_wp2
        go_loopg [14, 16] (K.length + 1 - (k + 1)) (fun nn v14 vi wr2 => ∃ (i : Nat), k + 1 ≤ i ∧ i ≤ K.length ∧ vi = .int .i64 i ∧ nn + i = K.length + 1 ∧ Owns wr2 z0 v14 (K.take k ++ (K.drop (k + 1)).take (i - (k + 1))) ∧ Below w.heap.size w wr2 ∧ z0 ≤ wr2.heap.size)
        case atStart => exact ⟨k + 1, Nat.le_refl _, by omega, by go_num, by omega, by rw [Nat.sub_self, List.take_zero, List.append_nil]; exact HO5.out, bel5, hz5⟩
        case round =>
          obtain ⟨i, hi1, hi2, rfl, hn2, own2, bel2, hz2⟩ := hrel
          have HN2 := Lib.hid hn2
          obtain ⟨a4, n4, c4, rfl⟩ := own2.form
          have HO2 := Lib.hid own2
          clear hn2 own2
          by_cases hlt : i < K.length
          · have hkc2 := (bel2.cell (p := ⟨bL, oL + i, none⟩) hbL).trans (HLX.out i hlt)
            have hsn : K.take k ++ (K.drop (k + 1)).take (i + 1 - (k + 1)) = (K.take k ++ (K.drop (k + 1)).take (i - (k + 1))) ++ [K.getD i 0] := by rw [take_more hi1 hlt]; exact (List.append_assoc _ _ _).symm
            have hle : (K.take k ++ (K.drop (k + 1)).take (i - (k + 1))).length ≤ 2001 := by simp; omega
            have HSN := Lib.hid hsn
            clear hsn
            generalize K.take k ++ (K.drop (k + 1)).take (i - (k + 1)) = L at *
            have hown2 : wr.ownsRow z0 2 1 (.slice a4 n4 c4) L.length (L.map (Value.int .i64)) := HO2.out
            generalize K.getD i 0 = y2 at *
            have hil : (i : Int) < (K.length : Int) := by omega
            go_wp2_with (at_builtin; refine wpList_append_own _ rfl _ _ 24 rfl z0 2 i0 (.int .i64 0) 1 8 Try.underlying24 yi yz0 yz1 yz2 rfl (by decide) _ _ _ rfl (hown2.alloc _) ⟨wr.heap.size, 0, none⟩ 1 1 [.int .i64 y2] rfl rfl ?c1 ?c2 ?c3 ?c4 ?c5 ?_)
            case c1 =>
              intro j u hj
              match j, hj with
              | 0, hj => simp at hj; subst hj; simp [Addr.add]
            case c2 => intro u hu; simp at hu; subst hu; rfl
            case c3 => unfold maxLen; omega
            case c4 => omega
            case c5 => simp; omega
            intro v6 w6 hown6 hgrow6 _
            have HO6 : Hid (Owns w6 z0 v6 (K.take k ++ (K.drop (k + 1)).take (i + 1 - (k + 1)))) := by
              rw [HSN.out]
              exact own_more hown6
            have hz6 : z0 ≤ w6.heap.size := by have := hgrow6.size; simp at this; omega
            have bel6 : Below w.heap.size w w6 := (bel2.alloc (by omega) _).grown hgrow6 (by simp; omega) (fun r hr => by have := (hown2.lt r hr).1; omega)
            clear hown6 hgrow6 hown2
            go_wp2
            go_roundg (K.length - i)
            case measure => have := HN2.out; omega
            case rel => exact ⟨i + 1, by omega, by omega, by go_num, by omega, HO6.out, bel6, hz6⟩
          · have hie : i = K.length := by omega
            have hfin := HO2.out
            rw [take_all hie] at hfin
            have HFI := Lib.hid hfin
            have hil : ¬ ((i : Int) < (K.length : Int)) := by omega
            clear hfin hie hlt
            go_wp2
            go_ret3
            rw [HM.out]
            exact ⟨_, rfl, by simpa using Owns.le HFI.out (show B ≤ z0 by omega), bel2⟩
      · rcases HLC.out with h | ⟨bL, oL, rfl, hbL, hLcell⟩
        · rw [h] at hc; simp at hc
        have hkc := (bel.cell (p := ⟨bL, oL + k, none⟩) hbL).trans (hLcell k hc)
        generalize hgy : K.getD k 0 = y at *
        have hY := Lib.hid hgy
        clear hgy
        have hyx : ¬ (y < x) := by omega
        have hyne : (y == x) = false := by simpa using (show ¬ (y = x) by omega)
        have hkl : (k : Int) < (K.length : Int) := by omega
        have HNR : Hid (∀ W, Below w.heap.size w W → Reads W W.heap.size (.slice (some ⟨bL, oL, none⟩) k cL) (K.take k)) := fun W hb => by
          refine ⟨by simp; omega, fun z hz => HKR.out z (List.mem_of_mem_take hz), _, cL, by simp; omega, by simp; omega, .inr ⟨bL, oL, rfl, by have := hb.size; omega, fun i hi => ?_⟩⟩
          rw [List.length_take] at hi
          have hik : i < k := by omega
          rw [show (K.take k).getD i 0 = K.getD i 0 by simp [List.getD_eq_getElem?_getD, hik]]
          exact (hb.cell (p := ⟨bL, oL + i, none⟩) hbL).trans (hLcell i (by omega))
        have HLX : Hid (∀ i, i < K.length → w.cell? ⟨bL, oL + i, none⟩ = some (.int .i64 (K.getD i 0))) := hLcell
        clear hLcell
        have HTH := Lib.hid hth
        have HC := Lib.hid hc
        clear hth hc
        go_wp2
        go_quiet (fail)
        go_wp2
        go_quiet (fail)
        go_wp2_with fail
        refine (numbers_calls _ _ _ _ (HNR.out _ (drewN_of bel _)) (Nat.le_refl _)).mono ?_
        rintro e w3 ⟨v3, rfl, own3, hb3⟩
        have bel3 : Below w.heap.size w w3 := below_trans (drewN_of bel _) hb3
        have HO3 : Hid (Owns w3 wr.heap.size v3 (K.take k)) := own3
        have hz3 : wr.heap.size ≤ w3.heap.size := hb3.size
        clear own3 hb3
        generalize wr.heap.size = z0 at *
        have hm : meansS K n 4 x = (K, 0, 1) := by simp [meansS, HTH.out]
        go_wp2
        go_ret3
        rw [hm]
        exact ⟨_, rfl, Owns.below HL.out bel3, bel3⟩
      · have hkl : decide ((k : Int) < (K.length : Int)) = false := decide_eq_false (by omega)
        have hklb : decide (k < K.length) = false := decide_eq_false (by omega)
        have hklc : ¬ (k < K.length) := by omega
        have HNR : Hid (∀ W, Below w.heap.size w W → Reads W W.heap.size (.slice aL k cL) (K.take k)) := fun W hb => by
          rw [hc, List.take_length]
          exact (numsR HL.out hK HKR.out).below hb |>.mono hb.size
        have HTH := Lib.hid hth
        have HC := Lib.hid hc
        clear hth hc
        go_wp2
        go_quiet (fail)
        go_wp2
        go_quiet (fail)
        go_wp2_with fail
        refine (numbers_calls _ _ _ _ (HNR.out _ (drewN_of bel _)) (Nat.le_refl _)).mono ?_
        rintro e w3 ⟨v3, rfl, own3, hb3⟩
        have bel3 : Below w.heap.size w w3 := below_trans (drewN_of bel _) hb3
        have HO3 : Hid (Owns w3 wr.heap.size v3 (K.take k)) := own3
        have hz3 : wr.heap.size ≤ w3.heap.size := hb3.size
        clear own3 hb3
        generalize wr.heap.size = z0 at *
        have hm : meansS K n 4 x = (K, 0, 1) := by simp [meansS, HTH.out]
        go_wp2
        go_ret3
        rw [hm]
        exact ⟨_, rfl, Owns.below HL.out bel3, bel3⟩

set_option maxRecDepth 100000 in
set_option maxHeartbeats 8000000 in
theorem means_len (w : World) (B : Nat) (lv av : Value) (K xs : List Int) (n : Int) (hl : Owns w B lv K) (_hB : B ≤ w.heap.size) (hK : K.length ≤ 1000) (hKr : ∀ x ∈ K, -9223372036854775808 ≤ x ∧ x ≤ 9223372036854775807) (hx : Reads w w.heap.size av xs) (h1 : xs.length = 0) :
    Calls Try.prog 25 #[lv, .int .i64 n, .int .i64 5, av] w (MeansPost B (meansS K n 5 (xs.getD 0 0)) w) := by
  obtain ⟨hxl, hxr, aA, cA, rfl, hcA, hxc⟩ := hx
  rw [h1] at *
  generalize xs.getD 0 0 = x at *
  obtain ⟨-, -, aL, cL, rfl, hcL, hLc⟩ := numsR hl hK hKr
  have HL := Lib.hid hl
  have HLC := Lib.hid hLc
  clear hl hLc hKr hxc hxr hxl h1 hcA
  have HNR : Hid (∀ W, Reads W W.heap.size (.slice aL 0 cL) []) := fun W => ⟨by simp, fun z hz => (nomatch hz), aL, cL, rfl, Nat.zero_le _, .inl rfl⟩
  go_enter Try.func25, Try.ntmps25
  go_wp2
  go_quiet (fail)
  go_wp2_with fail
  refine (numbers_calls _ _ _ _ (HNR.out _) (Nat.le_refl _)).mono ?_
  rintro e w3 ⟨v3, rfl, own3, hb3⟩
  have bel3 : Below w.heap.size w w3 := below_trans (drewN_of (Below.refl _ _) _) hb3
  clear own3 hb3
  go_wp2
  go_ret3
  exact ⟨_, rfl, Owns.below HL.out bel3, bel3⟩

set_option maxRecDepth 100000 in
set_option maxHeartbeats 8000000 in
theorem means_least (w : World) (B : Nat) (lv av : Value) (K xs : List Int) (n : Int) (hl : Owns w B lv K) (_hB : B ≤ w.heap.size) (hK : K.length ≤ 1000) (hKr : ∀ x ∈ K, -9223372036854775808 ≤ x ∧ x ≤ 9223372036854775807) (hx : Reads w w.heap.size av xs) (h1 : xs.length = 0) :
    Calls Try.prog 25 #[lv, .int .i64 n, .int .i64 7, av] w (MeansPost B (meansS K n 7 (xs.getD 0 0)) w) := by
  obtain ⟨hxl, hxr, aA, cA, rfl, hcA, hxc⟩ := hx
  rw [h1] at *
  generalize xs.getD 0 0 = x at *
  obtain ⟨-, -, aL, cL, rfl, hcL, hLc⟩ := numsR hl hK hKr
  have HL := Lib.hid hl
  have HLC := Lib.hid hLc
  clear hl hLc hKr hxc hxr hxl h1 hcA
  have HNR : Hid (∀ W, Reads W W.heap.size (.slice aL 0 cL) []) := fun W => ⟨by simp, fun z hz => (nomatch hz), aL, cL, rfl, Nat.zero_le _, .inl rfl⟩
  go_enter Try.func25, Try.ntmps25
  go_wp2
  go_quiet (fail)
  go_wp2_with fail
  refine (numbers_calls _ _ _ _ (HNR.out _) (Nat.le_refl _)).mono ?_
  rintro e w3 ⟨v3, rfl, own3, hb3⟩
  have bel3 : Below w.heap.size w w3 := below_trans (drewN_of (Below.refl _ _) _) hb3
  clear own3 hb3
  by_cases hz : K.length = 0
  · have hm : meansS K n 7 x = (K, 0, 1) := by rw [means_7]; simp [ansS, hz.symm]
    have hz1 : ((0 : Int) == (K.length : Int)) = true := beq_iff_eq.2 (by omega)
    have HM := Lib.hid hm
    clear hm hz
    go_wp2
    go_ret3
    rw [HM.out]
    exact ⟨_, rfl, Owns.below HL.out bel3, bel3⟩
  · have hm : meansS K n 7 x = (K, K.getD 0 0, 0) := by rw [means_7]; unfold ansS; rw [if_neg (by omega)]
    have hz1 : ((0 : Int) == (K.length : Int)) = false := by simpa using (show ¬ ((0 : Int) = (K.length : Int)) by omega)
    have HM := Lib.hid hm
    rcases HLC.out with h | ⟨bL, oL, rfl, hbL, hLcell⟩
    · rw [h] at hz; simp at hz
    have hkj := (bel3.cell (p := ⟨bL, oL + 0, none⟩) hbL).trans (hLcell 0 (by omega))
    rw [Nat.add_zero] at hkj
    have hjli : (0 : Int) < (K.length : Int) := by omega
    generalize K.getD 0 0 = yj at *
    clear hm hz
    go_wp2
    go_quiet (fail)
    go_wp2
    go_ret3
    rw [HM.out]
    exact ⟨_, rfl, Owns.below HL.out (drewN_of bel3 _), drewN_of bel3 _⟩

set_option maxRecDepth 100000 in
set_option maxHeartbeats 8000000 in
theorem means_nxt (w : World) (B : Nat) (lv av : Value) (K xs : List Int) (n : Int) (hl : Owns w B lv K) (_hB : B ≤ w.heap.size) (hK : K.length ≤ 1000) (hKr : ∀ x ∈ K, -9223372036854775808 ≤ x ∧ x ≤ 9223372036854775807) (hx : Reads w w.heap.size av xs) (h1 : xs.length = 1) :
    Calls Try.prog 25 #[lv, .int .i64 n, .int .i64 8, av] w (MeansPost B (meansS K n 8 (xs.getD 0 0)) w) := by
  obtain ⟨hxl, hxr, aA, cA, rfl, hcA, hxc⟩ := hx
  rcases hxc with h | ⟨bA, oA, rfl, hbA, hxcell⟩
  · rw [h] at h1; simp at h1
  have hx0 := hxcell 0 (by omega)
  rw [h1, Nat.add_zero] at *
  generalize xs.getD 0 0 = x at *
  obtain ⟨-, -, aL, cL, rfl, hcL, hLc⟩ := numsR hl hK hKr
  have HL := Lib.hid hl
  have HLC := Lib.hid hLc
  have HKR := Lib.hid hKr
  have hid := idx_le x K
  have HLT := Lib.hid (idx_lt x K)
  have HCS := Lib.hid (idx_cases x K)
  have hcA1 : 1 ≤ cA := hcA
  clear hl hLc hKr hxcell hxr hxl h1 hcA
  obtain ⟨i0, yi, yz0, yz1, yz2⟩ := info_parts infoI64
  generalize hix : idxS x K = ix at *
  have HIX := Lib.hid hix
  clear hix
  have hmax : ix ≤ 1000 := by omega
  go_enter Try.func25, Try.ntmps25
  go_wp2
  go_loopg [12] (K.length + 1) (fun nn v12 wr => ∃ k : Nat, k ≤ ix ∧ v12 = .int .i64 k ∧ nn + k = K.length + 1 ∧ Below w.heap.size w wr)
  case atStart => exact ⟨0, Nat.zero_le _, rfl, rfl, Below.refl _ _⟩
  case round =>
    obtain ⟨k, hk, rfl, hn, bel⟩ := hrel
    have HN := Lib.hid hn
    have hx1 := (bel.cell (p := ⟨bA, oA, none⟩) hbA).trans hx0
    have hzr := bel.size
    clear hn
    by_cases hlt : k < ix
    · have hkx : K.getD k 0 < x := HLT.out k hlt
      rcases HLC.out with h | ⟨bL, oL, rfl, hbL, hLcell⟩
      · rw [h] at hid; simp at hid; omega
      have hkc := (bel.cell (p := ⟨bL, oL + k, none⟩) hbL).trans (hLcell k (by omega))
      generalize K.getD k 0 = y at *
      have hkl : (k : Int) < (K.length : Int) := by omega
      clear hLcell
      go_wp2
      go_quiet (fail)
      go_wp2
      go_roundg (K.length - k)
      case measure => have := HN.out; omega
      case rel => exact ⟨k + 1, by omega, by go_num, by omega, drewN_of bel _⟩
    · obtain rfl : k = ix := by omega
      clear hk hlt
      rcases HCS.out with ⟨hc, hy, hth⟩ | ⟨hc, hy, hth⟩ | ⟨hc, hth⟩
      · rcases HLC.out with h | ⟨bL, oL, rfl, hbL, hLcell⟩
        · rw [h] at hc; simp at hc
        have hkc := (bel.cell (p := ⟨bL, oL + k, none⟩) hbL).trans (hLcell k hc)
        rw [hy] at hkc
        have hY := Lib.hid hy
        clear hy
        have hkl : (k : Int) < (K.length : Int) := by omega
        have HNR : Hid (∀ W, Below w.heap.size w W → Reads W W.heap.size (.slice (some ⟨bL, oL, none⟩) k cL) (K.take k)) := fun W hb => by
          refine ⟨by simp; omega, fun z hz => HKR.out z (List.mem_of_mem_take hz), _, cL, by simp; omega, by simp; omega, .inr ⟨bL, oL, rfl, by have := hb.size; omega, fun i hi => ?_⟩⟩
          rw [List.length_take] at hi
          have hik : i < k := by omega
          rw [show (K.take k).getD i 0 = K.getD i 0 by simp [List.getD_eq_getElem?_getD, hik]]
          exact (hb.cell (p := ⟨bL, oL + i, none⟩) hbL).trans (hLcell i (by omega))
        have HLX : Hid (∀ i, i < K.length → w.cell? ⟨bL, oL + i, none⟩ = some (.int .i64 (K.getD i 0))) := hLcell
        clear hLcell
        have HTH := Lib.hid hth
        have HC := Lib.hid hc
        clear hth hc
        go_wp2
        go_quiet (fail)
        go_wp2
        go_quiet (fail)
        go_wp2_with fail
        refine (numbers_calls _ _ _ _ (HNR.out _ (drewN_of bel _)) (Nat.le_refl _)).mono ?_
        rintro e w3 ⟨v3, rfl, own3, hb3⟩
        have bel3 : Below w.heap.size w w3 := below_trans (drewN_of bel _) hb3
        have HO3 : Hid (Owns w3 wr.heap.size v3 (K.take k)) := own3
        have hz3 : wr.heap.size ≤ w3.heap.size := hb3.size
        clear own3 hb3
        generalize wr.heap.size = z0 at *
        by_cases hend : k + 1 = K.length
        · have hm : meansS K n 8 x = (K, 0, 1) := by rw [means_8]; simp [overS, ansS, HTH.out, HIX.out, hend]
          have HM := Lib.hid hm
          have hend1 : (((k : Int) + 1 : Int) == (K.length : Int)) = true := beq_iff_eq.2 (by omega)
          clear hm
          go_wp2
          go_ret3
          rw [HM.out]
          exact ⟨_, rfl, Owns.below HL.out bel3, bel3⟩
        · have hm : meansS K n 8 x = (K, K.getD (k + 1) 0, 0) := by rw [means_8]; simp [overS, ansS, HTH.out, HIX.out, hend]
          have HM := Lib.hid hm
          have hend1 : (((k : Int) + 1 : Int) == (K.length : Int)) = false := by simpa using (show ¬ (((k : Int) + 1 : Int) = (K.length : Int)) by omega)
          have hjl : k + 1 < K.length := by have := HC.out; omega
          have hkj := (bel3.cell (p := ⟨bL, oL + (k + 1), none⟩) hbL).trans (HLX.out (k + 1) hjl)
          have hjli : ((k : Int) + 1 : Int) < (K.length : Int) := by omega
          generalize K.getD (k + 1) 0 = yj at *
          clear hm
          go_wp2
          go_quiet (fail)
          go_wp2
          go_ret3
          rw [HM.out]
          exact ⟨_, rfl, Owns.below HL.out (drewN_of bel3 _), drewN_of bel3 _⟩
      · rcases HLC.out with h | ⟨bL, oL, rfl, hbL, hLcell⟩
        · rw [h] at hc; simp at hc
        have hkc := (bel.cell (p := ⟨bL, oL + k, none⟩) hbL).trans (hLcell k hc)
        generalize hgy : K.getD k 0 = y at *
        have hY := Lib.hid hgy
        clear hgy
        have hyx : ¬ (y < x) := by omega
        have hyne : (y == x) = false := by simpa using (show ¬ (y = x) by omega)
        have hkl : (k : Int) < (K.length : Int) := by omega
        have HNR : Hid (∀ W, Below w.heap.size w W → Reads W W.heap.size (.slice (some ⟨bL, oL, none⟩) k cL) (K.take k)) := fun W hb => by
          refine ⟨by simp; omega, fun z hz => HKR.out z (List.mem_of_mem_take hz), _, cL, by simp; omega, by simp; omega, .inr ⟨bL, oL, rfl, by have := hb.size; omega, fun i hi => ?_⟩⟩
          rw [List.length_take] at hi
          have hik : i < k := by omega
          rw [show (K.take k).getD i 0 = K.getD i 0 by simp [List.getD_eq_getElem?_getD, hik]]
          exact (hb.cell (p := ⟨bL, oL + i, none⟩) hbL).trans (hLcell i (by omega))
        have HLX : Hid (∀ i, i < K.length → w.cell? ⟨bL, oL + i, none⟩ = some (.int .i64 (K.getD i 0))) := hLcell
        clear hLcell
        have HTH := Lib.hid hth
        have HC := Lib.hid hc
        clear hth hc
        go_wp2
        go_quiet (fail)
        go_wp2
        go_quiet (fail)
        go_wp2_with fail
        refine (numbers_calls _ _ _ _ (HNR.out _ (drewN_of bel _)) (Nat.le_refl _)).mono ?_
        rintro e w3 ⟨v3, rfl, own3, hb3⟩
        have bel3 : Below w.heap.size w w3 := below_trans (drewN_of bel _) hb3
        have HO3 : Hid (Owns w3 wr.heap.size v3 (K.take k)) := own3
        have hz3 : wr.heap.size ≤ w3.heap.size := hb3.size
        clear own3 hb3
        generalize wr.heap.size = z0 at *
        have hend : ¬ (k = K.length) := by have := HC.out; omega
        have hm : meansS K n 8 x = (K, K.getD (k) 0, 0) := by rw [means_8]; simp [overS, ansS, HTH.out, HIX.out, hend]
        have HM := Lib.hid hm
        have hend1 : (((k : Int) : Int) == (K.length : Int)) = false := by simpa using (show ¬ (((k : Int) : Int) = (K.length : Int)) by omega)
        have hjl : k < K.length := by have := HC.out; omega
        have hkj := (bel3.cell (p := ⟨bL, oL + (k), none⟩) hbL).trans (HLX.out (k) hjl)
        have hjli : ((k : Int) : Int) < (K.length : Int) := by omega
        generalize K.getD (k) 0 = yj at *
        clear hm
        go_wp2
        go_quiet (fail)
        go_wp2
        go_ret3
        rw [HM.out]
        exact ⟨_, rfl, Owns.below HL.out (drewN_of bel3 _), drewN_of bel3 _⟩
      · have hkl : decide ((k : Int) < (K.length : Int)) = false := decide_eq_false (by omega)
        have hklb : decide (k < K.length) = false := decide_eq_false (by omega)
        have hklc : ¬ (k < K.length) := by omega
        have HNR : Hid (∀ W, Below w.heap.size w W → Reads W W.heap.size (.slice aL k cL) (K.take k)) := fun W hb => by
          rw [hc, List.take_length]
          exact (numsR HL.out hK HKR.out).below hb |>.mono hb.size
        have HTH := Lib.hid hth
        have HC := Lib.hid hc
        clear hth hc
        go_wp2
        go_quiet (fail)
        go_wp2
        go_quiet (fail)
        go_wp2_with fail
        refine (numbers_calls _ _ _ _ (HNR.out _ (drewN_of bel _)) (Nat.le_refl _)).mono ?_
        rintro e w3 ⟨v3, rfl, own3, hb3⟩
        have bel3 : Below w.heap.size w w3 := below_trans (drewN_of bel _) hb3
        have HO3 : Hid (Owns w3 wr.heap.size v3 (K.take k)) := own3
        have hz3 : wr.heap.size ≤ w3.heap.size := hb3.size
        clear own3 hb3
        generalize wr.heap.size = z0 at *
        have hm : meansS K n 8 x = (K, 0, 1) := by rw [means_8]; simp [overS, ansS, HTH.out, HIX.out, HC.out]
        have HM := Lib.hid hm
        have hend1 : (((k : Int)) == (K.length : Int)) = true := beq_iff_eq.2 (by have := HC.out; omega)
        clear hm
        go_wp2
        go_ret3
        rw [HM.out]
        exact ⟨_, rfl, Owns.below HL.out bel3, bel3⟩

theorem means_calls (w : World) (B : Nat) (lv av : Value) (K xs : List Int) (n call : Int) (hl : Owns w B lv K) (hB : B ≤ w.heap.size) (hK : K.length ≤ 1000) (hKr : ∀ x ∈ K, -9223372036854775808 ≤ x ∧ x ≤ 9223372036854775807) (hx : Reads w w.heap.size av xs)
    (hc : (call = 1 ∧ xs.length = 1) ∨ (call = 4 ∧ xs.length = 1) ∨ (call = 6 ∧ xs.length = 1) ∨ (call = 8 ∧ xs.length = 1) ∨ (call = 7 ∧ xs.length = 0) ∨ (call = 5 ∧ xs.length = 0)) :
    Calls Try.prog 25 #[lv, .int .i64 n, .int .i64 call, av] w (MeansPost B (meansS K n call (xs.getD 0 0)) w) := by
  rcases hc with ⟨rfl, h⟩ | ⟨rfl, h⟩ | ⟨rfl, h⟩ | ⟨rfl, h⟩ | ⟨rfl, h⟩ | ⟨rfl, h⟩
  · exact means_add w B lv av K xs n hl hB hK hKr hx h
  · exact means_dele w B lv av K xs n hl hB hK hKr hx h
  · exact means_has w B lv av K xs n hl hB hK hKr hx h
  · exact means_nxt w B lv av K xs n hl hB hK hKr hx h
  · exact means_least w B lv av K xs n hl hB hK hKr hx h
  · exact means_len w B lv av K xs n hl hB hK hKr hx h

end Go.Proofs.Ytihlbhlagpmbjaa
