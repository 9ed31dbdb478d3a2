/- The queue over cells as a row: what the calls done over cells come to, no program in sight. -/
import Derived.Test.YtdacadhiogikdaaDone
import Derived.Test.YtdacadhiogikdaaShape16
namespace Go.Proofs.Ytdacadhiogikdaa
open Go.RowKit

/-- Cells that say a queue. -/
structure QOk (n : Nat) (f l : Nat) (cs : List Int) : Prop where
  most : n ≤ 16
  len : cs.length = n + 2
  first : cs.getD 0 0 = (f : Int)
  size : cs.getD 1 0 = (l : Int)
  fit : l ≤ n
  low : f = 0 ∨ f < n
  num : ∀ x ∈ cs, In64 x

theorem getD_mem64 {cs : List Int} (h : ∀ x ∈ cs, In64 x) (i : Nat) : In64 (cs.getD i 0) := by
  rw [List.getD_eq_getElem?_getD]
  rcases Nat.lt_or_ge i cs.length with hi | hi
  · rw [List.getElem?_eq_getElem hi]; exact h _ (List.getElem_mem hi)
  · rw [List.getElem?_eq_none hi]; simp [In64]
theorem set_mem64 {cs : List Int} (h : ∀ x ∈ cs, In64 x) (i : Nat) {v : Int} (hv : In64 v) : ∀ x ∈ cs.set i v, In64 x := fun x hx => by
  rcases List.mem_or_eq_of_mem_set hx with h' | h'
  · exact h x h'
  · rw [h']; exact hv
theorem getD_set_ne {cs : List Int} {i j : Nat} (h : i ≠ j) (v : Int) : (cs.set i v).getD j 0 = cs.getD j 0 := by
  simp [List.getD_eq_getElem?_getD, h]
theorem getD_set_eq {cs : List Int} {i : Nat} (h : i < cs.length) (v : Int) : (cs.set i v).getD i 0 = v := by
  simp [List.getD_eq_getElem?_getD, h]

theorem behind_nat {f n : Nat} (k : Nat) (hf : f ≤ 16) : behindI f k n = ((f + k) % n : Nat) := by
  have hu : u64 (f : Int) = f := by unfold u64; omega
  rw [behindI, hu, ← Int.add_emod]
  simp
theorem mod_case {f i n : Nat} (hf : f < n) (hi : i ≤ n) : (f + i) % n = if f + i < n then f + i else f + i - n := by
  by_cases h : f + i < n
  · rw [if_pos h, Nat.mod_eq_of_lt h]
  · rw [if_neg h, Nat.mod_eq_sub_mod (by omega), Nat.mod_eq_of_lt (by omega)]

/-- The row, over numbers. -/
def rowN (n f : Nat) (cs : List Int) (l : Nat) : List Int := (List.range l).map fun i => cs.getD (2 + (f + i) % n) 0
theorem rowN_len (n f : Nat) (cs : List Int) (l : Nat) : (rowN n f cs l).length = l := by simp [rowN]
theorem rowN_snoc (n f : Nat) (cs : List Int) (l : Nat) : rowN n f cs (l + 1) = rowN n f cs l ++ [cs.getD (2 + (f + l) % n) 0] := by
  unfold rowN; rw [List.range_succ, List.map_append]; rfl
theorem rowI_eq {n f : Nat} (hf : f ≤ 16) (cs : List Int) (l : Nat) : rowI (n : Int) (f : Int) cs l = rowN n f cs l := by
  unfold rowI rowN
  apply List.map_congr_left
  intro i _
  rw [behind_nat i hf, show (2 + (((f + i) % n : Nat) : Int)).toNat = 2 + (f + i) % n by omega]
theorem rowN_in {n f : Nat} {cs : List Int} (h : ∀ x ∈ cs, In64 x) (l : Nat) : ∀ x ∈ rowN n f cs l, In64 x := fun x hx => by
  unfold rowN at hx
  obtain ⟨i, _, rfl⟩ := List.mem_map.1 hx
  exact getD_mem64 h _

theorem qok_of {most : Int} {cs : List Int} (h1 : shapeOk most cs = true) (h2 : rangeOk most (cs.getD 0 0) (cs.getD 1 0) = true) (h64 : ∀ x ∈ cs, In64 x) :
    ∃ n f l : Nat, most = n ∧ QOk n f l cs ∧ shapeS most cs = (2, rowN n f cs l, 0) := by
  obtain ⟨⟨h0, h1'⟩, hl⟩ := of_decide_eq_true h1
  obtain ⟨a, b, c, d⟩ := of_decide_eq_true h2
  rw [sizeI_in h0 h1'] at hl
  obtain ⟨n, rfl⟩ := Int.eq_ofNat_of_zero_le h0
  obtain ⟨f, hf⟩ := Int.eq_ofNat_of_zero_le c
  obtain ⟨l, hl2⟩ := Int.eq_ofNat_of_zero_le a
  refine ⟨n, f, l, rfl, ⟨by omega, by omega, hf, hl2, by omega, by omega, h64⟩, ?_⟩
  rw [shapeS, if_pos h1, if_pos h2, hf, hl2, Int.toNat_natCast, rowI_eq (by omega)]
theorem shape_of {n f l : Nat} {cs : List Int} (h : QOk n f l cs) : shapeS (n : Int) cs = (2, rowN n f cs l, 0) := by
  have hm := h.most; have hl := h.len; have hfit := h.fit; have hlow := h.low
  have h1 : shapeOk (n : Int) cs = true := decide_eq_true ⟨⟨by omega, by omega⟩, by rw [sizeI_in (by omega) (by omega)]; omega⟩
  have h2 : rangeOk (n : Int) (cs.getD 0 0) (cs.getD 1 0) = true := by rw [h.first, h.size]; exact decide_eq_true ⟨by omega, by omega, by omega, by omega⟩
  rw [shapeS, if_pos h1, if_pos h2, h.first, h.size, Int.toNat_natCast, rowI_eq (by omega)]

theorem run_two {n f l : Nat} {cs : List Int} (h : QOk n f l cs) (k : Nat) (call : Int) (xs : List Int) :
    runM 0 (k + 2) (initM 0 n call xs) 0 cs = runM 0 k ⟨⟨0, n, call, xs.getD 0 0, f, 0⟩, 2, w0⟩ l cs := by
  have hl := h.len
  have e0 : outM (initM 0 n call xs) 0 = readS 0 := rfl
  have e1 : outM (stepM (initM 0 n call xs) 0) (cs.getD 0 0) = readS 1 := rfl
  have h0 : ¬ ((readS 0).cell < 0 ∨ (cs.length : Int) ≤ (readS 0).cell) := by simp only [readS]; omega
  have h1 : ¬ ((readS 1).cell < 0 ∨ (cs.length : Int) ≤ (readS 1).cell) := by simp only [readS]; omega
  rw [run_read e0 rfl h0]
  show runM 0 (k + 1) _ (cs.getD 0 0) cs = _
  rw [run_read e1 rfl h1]
  show runM 0 k ⟨⟨0, n, call, xs.getD 0 0, cs.getD 0 0, 0⟩, 2, w0⟩ (cs.getD 1 0) cs = _
  rw [h.first, h.size]

theorem run_len {n f l : Nat} {cs : List Int} (h : QOk n f l cs) (xs : List Int) : runM 0 6 (initM 0 n 5 xs) 0 cs = ⟨l, 0, true, cs⟩ := by
  rw [run_two h 4]
  exact run_end (x := ⟨6, 0, l, 0⟩) rfl rfl
theorem u64_nat {l : Nat} (h : l ≤ 16) : u64 (l : Int) = l := by unfold u64; omega
theorem run_full {n f l : Nat} {cs : List Int} (h : QOk n f l cs) (xs : List Int) (hf : n ≤ l) : runM 0 6 (initM 0 n 3 xs) 0 cs = ⟨0, 2, true, cs⟩ := by
  have hm := h.most; have hfit := h.fit
  rw [run_two h 4]
  refine run_end (x := ⟨6, 0, 0, 2⟩) ?_ rfl
  simp [outM, goM, lenM, u64_nat (show l ≤ 16 by omega), show (n : Int) ≤ l by omega]
theorem run_none {n f : Nat} {cs : List Int} (h : QOk n f 0 cs) (xs : List Int) : runM 0 6 (initM 0 n 2 xs) 0 cs = ⟨0, 1, true, cs⟩ := by
  rw [run_two h 4]
  refine run_end (x := ⟨6, 0, 0, 1⟩) ?_ rfl
  simp [outM, goM, lenM]
theorem run_laid {n f l : Nat} {cs : List Int} (h : QOk n f l cs) (xs : List Int) (hf : l < n) :
    runM 0 6 (initM 0 n 3 xs) 0 cs = ⟨0, 0, true, (cs.set (2 + (f + l) % n) (xs.getD 0 0)).set 1 (l + 1)⟩ := by
  have hm := h.most; have hfit := h.fit; have hlow := h.low; have hlen := h.len
  have hb := behind_nat (n := n) l (show f ≤ 16 by omega)
  have hmod := Nat.mod_lt (f + l) (show 0 < n by omega)
  have hlt : ¬ ((n : Int) ≤ l) := by omega
  have e1 : outM ⟨⟨0, n, 3, xs.getD 0 0, f, 0⟩, 2, w0⟩ l = putS ((2 + (f + l) % n : Nat) : Int) (xs.getD 0 0) := by
    simp [outM, goM, lenM, u64_nat (show l ≤ 16 by omega), hlt, hb]
  have e2 : stepM ⟨⟨0, n, 3, xs.getD 0 0, f, 0⟩, 2, w0⟩ l = ⟨⟨0, n, 3, xs.getD 0 0, f, l⟩, 3, w0⟩ := by
    simp [stepM, goM, lenM, u64_nat (show l ≤ 16 by omega), hlt]
  rw [run_two h 4, run_put e1 (by simp [putS]) (by simp [putS]) (by simp only [putS]; omega), e2]
  simp only [putS, Int.toNat_natCast]
  have e3 : outM ⟨⟨0, n, 3, xs.getD 0 0, f, l⟩, 3, w0⟩ 0 = putS 1 (l + 1) := by
    simp [outM, goM, show wrap64 ((l : Int) + 1) = l + 1 by unfold wrap64; omega]
  rw [run_put e3 (by simp [putS]) (by simp [putS]) (by simp only [putS, List.length_set]; omega)]
  exact run_end (x := ⟨6, 0, 0, 0⟩) rfl rfl
theorem run_took {n f l : Nat} {cs : List Int} (h : QOk n f l cs) (xs : List Int) (hf : 0 < l) :
    runM 0 6 (initM 0 n 2 xs) 0 cs = ⟨cs.getD (2 + f % n) 0, 0, true, (cs.set 0 ((f + 1) % n : Nat)).set 1 (l - 1)⟩ := by
  have hm := h.most; have hfit := h.fit; have hlow := h.low; have hlen := h.len
  have hb0 := behind_nat (n := n) 0 (show f ≤ 16 by omega)
  have hb1 := behind_nat (n := n) 1 (show f ≤ 16 by omega)
  have hmod := Nat.mod_lt f (show 0 < n by omega)
  have hmod1 := Nat.mod_lt (f + 1) (show 0 < n by omega)
  have hl0 : ¬ (l : Int) = 0 := by omega
  have hn0 : ¬ (n : Int) = 0 := by omega
  have hln : ¬ l = 0 := by omega
  have hnn : ¬ n = 0 := by omega
  have e1 : outM ⟨⟨0, n, 2, xs.getD 0 0, f, 0⟩, 2, w0⟩ l = readS ((2 + f % n : Nat) : Int) := by
    simp only [Nat.add_zero] at hb0
    simp only [outM, goM, lenM]
    simp only [show ¬ ((2 : Nat) = 0) by omega, show ¬ ((2 : Nat) = 1) by omega, show ¬ ((2 : Int) = 5) by omega, show ¬ ((2 : Int) = 3) by omega, if_false, if_true, hl0, hn0, or_self]
    rw [show ((0 : Int)) = ((0 : Nat) : Int) from rfl, hb0]
    simp [readS]
  have e2 : stepM ⟨⟨0, n, 2, xs.getD 0 0, f, 0⟩, 2, w0⟩ l = ⟨⟨0, n, 2, xs.getD 0 0, f, l⟩, 5, w0⟩ := by
    simp [stepM, goM, lenM, hln, hnn]
  rw [run_two h 4, run_read e1 rfl (by simp only [readS]; omega), e2]
  simp only [readS, Int.toNat_natCast]
  generalize cs.getD (2 + f % n) 0 = u
  have e3 : outM ⟨⟨0, n, 2, xs.getD 0 0, f, l⟩, 5, w0⟩ u = putS 0 ((f + 1) % n : Nat) := by
    simp only [outM, goM]
    rw [show ((1 : Int)) = ((1 : Nat) : Int) from rfl, hb1]
    simp
  have e4 : stepM ⟨⟨0, n, 2, xs.getD 0 0, f, l⟩, 5, w0⟩ u = ⟨⟨0, n, 2, u, f, l⟩, 6, w0⟩ := rfl
  rw [run_put e3 (by simp [putS]) (by simp [putS]) (by simp only [putS]; omega), e4]
  have e5 : outM ⟨⟨0, n, 2, u, f, l⟩, 6, w0⟩ 0 = putS 1 (l - 1) := by
    simp [outM, goM, show wrap64 ((l : Int) - 1) = l - 1 by unfold wrap64; omega]
  rw [run_put e5 (by simp [putS]) (by simp [putS]) (by simp only [putS, List.length_set]; omega)]
  exact run_end (x := ⟨6, 0, u, 0⟩) rfl rfl

theorem row_put {n f l : Nat} {cs : List Int} (h : QOk n f l cs) (hf : l < n) {v : Int} (hv : In64 v) :
    QOk n f (l + 1) ((cs.set (2 + (f + l) % n) v).set 1 (l + 1)) ∧ rowN n f ((cs.set (2 + (f + l) % n) v).set 1 (l + 1)) (l + 1) = rowN n f cs l ++ [v] := by
  have hm := h.most; have hfit := h.fit; have hlow := h.low; have hlen := h.len
  have hmod := Nat.mod_lt (f + l) (show 0 < n by omega)
  refine ⟨⟨hm, by simp [hlen], ?_, ?_, by omega, hlow, ?_⟩, ?_⟩
  · rw [getD_set_ne (by omega), getD_set_ne (by omega), h.first]
  · rw [getD_set_eq (by simp; omega)]; simp
  · exact set_mem64 (set_mem64 h.num _ hv) _ (by unfold In64; omega)
  · rw [rowN_snoc]
    congr 1
    · unfold rowN
      apply List.map_congr_left
      intro i hi
      have hi := List.mem_range.1 hi
      rw [getD_set_ne (by omega), getD_set_ne]
      rw [mod_case (by omega) (by omega), mod_case (by omega) (by omega)]
      split <;> split <;> omega
    · rw [getD_set_ne (by omega), getD_set_eq (by omega)]
theorem row_get {n f l : Nat} {cs : List Int} (h : QOk n f (l + 1) cs) :
    QOk n ((f + 1) % n) l ((cs.set 0 ((f + 1) % n : Nat)).set 1 l) ∧ rowN n f cs (l + 1) = cs.getD (2 + f % n) 0 :: rowN n ((f + 1) % n) ((cs.set 0 ((f + 1) % n : Nat)).set 1 l) l := by
  have hm := h.most; have hfit := h.fit; have hlow := h.low; have hlen := h.len
  have hmod := Nat.mod_lt (f + 1) (show 0 < n by omega)
  refine ⟨⟨hm, by simp [hlen], ?_, ?_, by omega, .inr hmod, ?_⟩, ?_⟩
  · rw [getD_set_ne (by omega), getD_set_eq (by omega)]
  · rw [getD_set_eq (by simp; omega)]
  · exact set_mem64 (set_mem64 h.num _ (by unfold In64; omega)) _ (by unfold In64; omega)
  · unfold rowN
    rw [List.range_succ_eq_map, List.map_cons, List.map_map]
    congr 1
    apply List.map_congr_left
    intro i hi
    rw [getD_set_ne (by omega), getD_set_ne (by omega)]
    show cs.getD (2 + (f + (i + 1)) % n) 0 = _
    rw [Nat.mod_add_mod, Nat.add_assoc, Nat.add_comm 1 i]

theorem row_took {n f l : Nat} {cs : List Int} (h : QOk n f l cs) (hl : 0 < l) :
    QOk n ((f + 1) % n) (l - 1) ((cs.set 0 ((f + 1) % n : Nat)).set 1 (l - 1)) ∧ rowN n f cs l = cs.getD (2 + f % n) 0 :: rowN n ((f + 1) % n) ((cs.set 0 ((f + 1) % n : Nat)).set 1 (l - 1)) (l - 1) := by
  obtain ⟨k, rfl⟩ : ∃ k, l = k + 1 := ⟨l - 1, by omega⟩
  rw [show (((k + 1 : Nat) : Int) - 1) = k by omega]
  exact row_get h

end Go.Proofs.Ytdacadhiogikdaa
