/- Encode of Decode and Decode of Encode, as plain data. -/
import Derived.Test.YtafknogjhhghbaaDoorCEncode
namespace Go.Proofs.YtafknogjhhghbaaDoor
open Go.RowKit

theorem leBytes_mod : ∀ (k m n : Nat), m % 256 ^ k = n % 256 ^ k → leBytes m k = leBytes n k
  | 0, _, _, _ => rfl
  | k + 1, m, n, h => by
    rw [Nat.pow_succ, Nat.mul_comm] at h
    have h1 : m % 256 = n % 256 := by
      have := congrArg (· % 256) h
      simpa [Nat.mod_mul_right_mod] using this
    have h2 : m / 256 % 256 ^ k = n / 256 % 256 ^ k := by
      have := congrArg (· / 256) h
      simpa [Nat.mod_mul_right_div_self] using this
    rw [leBytes, leBytes, h1, leBytes_mod k _ _ h2]

/-- The low bytes of what bytes are. -/
theorem leBytes_le (l : List UInt8) : ∀ (k a : Nat), a + k ≤ l.length → leBytes (leF l a k) k = (l.drop a).take k
  | 0, _, _ => by simp [leBytes]
  | k + 1, a, h => by
    have ih := leBytes_le l k (a + 1) (by omega)
    have hb := byte_lt l a
    have e1 : leF l a (k + 1) % 256 = byteN l a := by rw [leF]; omega
    have e2 : leF l a (k + 1) / 256 = leF l (a + 1) k := by rw [leF]; omega
    rw [leBytes, e1, e2, ih, List.drop_eq_getElem_cons (show a < l.length by omega), List.take_succ_cons]
    congr 1
    unfold byteN
    simp [List.getD_eq_getElem?_getD, show a < l.length by omega]

theorem word_value {sh n : Nat} (h : sh ≤ 6) (hn : n < 256 ^ widthN sh) : wordN (valueI sh n) % 256 ^ widthN sh = n % 256 ^ widthN sh := by
  rcases seven h with rfl | rfl | rfl | rfl | rfl | rfl | rfl
  · show wordN (valueI 0 n) % 1 = n % 1
    omega
  · show wordN (valueI 1 n) % 256 = n % 256
    have hn' : n < 256 := hn
    unfold valueI wordN
    rw [if_pos rfl]
    split <;> omega
  · show wordN (valueI 2 n) % 65536 = n % 65536
    have hn' : n < 65536 := hn
    unfold valueI wordN
    rw [if_neg (show ¬ (2 : Nat) = 1 by omega), if_pos rfl]
    split <;> omega
  · show wordN (valueI 3 n) % 18446744073709551616 = n % 18446744073709551616
    have hn' : n < 18446744073709551616 := hn
    rw [← value_else (by omega) (by omega)]
    unfold wrap64 wordN
    omega
  · show wordN (valueI 4 n) % 256 = n % 256
    have hn' : n < 256 := hn
    rw [← value_else (by omega) (by omega)]
    unfold wrap64 wordN
    omega
  · show wordN (valueI 5 n) % 256 = n % 256
    have hn' : n < 256 := hn
    rw [← value_else (by omega) (by omega)]
    unfold wrap64 wordN
    omega
  · show wordN (valueI 6 n) % 65536 = n % 65536
    have hn' : n < 65536 := hn
    rw [← value_else (by omega) (by omega)]
    unfold wrap64 wordN
    omega

/-- The bytes of what stands at a place are those that stand there. -/
theorem at_bytes {l : List UInt8} {a : Nat} (h : (atS l a).err = 0) :
    ∃ W : Nat, (atS l a).n = 1 + W ∧ a + 1 + W ≤ l.length ∧ 0 ≤ (atS l a).code ∧ (atS l a).code < 41 ∧ fitsB (shapeN (atS l a).code.toNat) (atS l a).operand = true ∧
      opBytes ((atS l a).code, (atS l a).operand) = (l.drop a).take (1 + W) ∧ (opBytes ((atS l a).code, (atS l a).operand)).length = 1 + W := by
  obtain ⟨a', e, h1, h2, h3, h4⟩ := at_in h
  obtain rfl : a = a' := by omega
  have hok := atS_ok h1 h2 h3
  by_cases hf : fitsB (shapeN (byteN l a)) (valueI (shapeN (byteN l a)) (leF l (a + 1) (widthN (shapeN (byteN l a))))) = true
  · rw [if_pos hf] at hok
    rw [hok]
    have hb : opBytes ((byteN l a : Int), valueI (shapeN (byteN l a)) (leF l (a + 1) (widthN (shapeN (byteN l a))))) = (l.drop a).take (1 + widthN (shapeN (byteN l a))) := by
      unfold opBytes
      simp only [Int.toNat_natCast]
      rw [leBytes_mod _ _ _ (word_value (shape_le _) (leF_lt _ _ _)), leBytes_le _ _ _ h3, List.drop_eq_getElem_cons h1, Nat.add_comm 1, List.take_succ_cons]
      congr 1
      unfold byteN
      simp [List.getD_eq_getElem?_getD, h1]
    refine ⟨widthN (shapeN (byteN l a)), rfl, h3, by simp, by dsimp only; omega, by simpa using hf, hb, ?_⟩
    rw [hb]
    simp
    omega
  · rw [if_neg hf] at hok
    rw [hok] at h
    simp [noSpot] at h

theorem enc_cons {r : Int × Int} {rs : List (Int × Int)} {i : Nat} {acc : List UInt8} (h0 : 0 ≤ r.1) (h1 : r.1 < 41) (h2 : fitsB (shapeN r.1.toNat) r.2 = true) (h3 : (acc ++ opBytes r).length ≤ 512) :
    encGo (r :: rs) i acc = encGo rs (i + 1) (acc ++ opBytes r) := by
  rw [encGo, if_neg (by omega), if_neg (by rw [h2]; decide), if_neg (by omega)]

/-- What Decode takes Encode gives again. -/
theorem there_go (l : List UInt8) (hl : l.length ≤ 512) : ∀ (f a : Nat) (acc r : List (Int × Int)) (i : Nat), a ≤ l.length → l.length < a + f → (decGo l f a acc).err = 0 → (decGo l f a acc).ops = acc ++ r → encGo r i (l.take a) = ⟨l, 0, 0⟩
  | 0, a, acc, r, i, h1, h2, _, _ => by omega
  | f + 1, a, acc, r, i, h1, h2, h3, h4 => by
    rw [decGo] at h3 h4
    by_cases hc : l.length ≤ a
    · rw [if_pos hc] at h4
      have hr : r = [] := by
        have := congrArg List.length h4
        simp at this
        exact List.eq_nil_of_length_eq_zero (by simpa using this)
      subst hr
      rw [encGo, List.take_of_length_le hc]
    · rw [if_neg hc] at h3 h4
      by_cases he : (atS l a).err = 0
      · rw [if_neg (by simp [he])] at h3 h4
        obtain ⟨W, hn, hW, c0, c1, hf, hb, hbl⟩ := at_bytes he
        obtain ⟨r', hr'⟩ := dec_pre l f _ _ h3
        have hrr : r = ((atS l a).code, (atS l a).operand) :: r' := by
          rw [hr'] at h4
          have := h4
          rw [List.append_assoc] at this
          exact (List.append_cancel_left this).symm
        have hacc : l.take a ++ opBytes ((atS l a).code, (atS l a).operand) = l.take (a + (1 + W)) := by
          rw [hb]
          exact (List.take_add).symm
        rw [hrr, enc_cons c0 c1 hf (by rw [hacc, List.length_take]; omega), hacc]
        have hnn : (atS l a).n.toNat = 1 + W := by omega
        rw [hnn] at h3 hr'
        exact there_go l hl f (a + (1 + W)) _ r' (i + 1) (by omega) (by omega) h3 hr'
      · rw [if_pos (by simpa using he)] at h3
        exact absurd h3 he

theorem there {l : List UInt8} (h : (decS l).err = 0) : encS (decS l).ops = ⟨l, 0, 0⟩ := by
  unfold decS at h ⊢
  by_cases hl : 512 < l.length
  · rw [if_pos hl] at h; simp at h
  · rw [if_neg hl] at h ⊢
    have := there_go l (by omega) (l.length + 1) 0 [] (decGo l (l.length + 1) 0 []).ops 0 (Nat.zero_le _) (by omega) h (by simp)
    simpa [encS, encAt] using this

end Go.Proofs.YtafknogjhhghbaaDoor
