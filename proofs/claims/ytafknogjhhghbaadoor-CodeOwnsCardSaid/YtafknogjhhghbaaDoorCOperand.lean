/- The reference's operand: the number that bytes are. -/
import Derived.Test.YtafknogjhhghbaaDoorCAt
namespace Go.Proofs.YtafknogjhhghbaaDoor
open Go.RowKit

theorem leF_congr (l m : List UInt8) : ∀ (k a b : Nat), (∀ j, j < k → byteN l (a + j) = byteN m (b + j)) → leF l a k = leF m b k
  | 0, _, _, _ => rfl
  | k + 1, a, b, h => by
    have h0 := h 0 (by omega)
    have ih := leF_congr l m k (a + 1) (b + 1) (fun j hj => by
      have := h (j + 1) (by omega)
      rwa [show a + (j + 1) = a + 1 + j by omega, show b + (j + 1) = b + 1 + j by omega] at this)
    rw [leF, leF, ih]
    simp only [Nat.add_zero] at h0
    rw [h0]

theorem op_step (n b : Nat) (hb : b < 256) (hn : b + 256 * n < 18446744073709551616) : IntKind.u64.wrap (IntKind.u64.wrap (256 * (n : Int)) + IntKind.u64.wrap (b : Int)) = ((b + 256 * n : Nat) : Int) := by
  simp only [IntKind.wrap, IntKind.bits, IntKind.signed]
  simp
  omega

theorem val1_lo {b : Nat} (h : b < 128) : wrap64 (b : Int) = valueI 1 b := by
  unfold valueI wrap64
  rw [if_pos rfl]
  split <;> omega
theorem val1_hi {b : Nat} (h : 128 ≤ b) (h2 : b < 256) : wrap64 (wrap64 (b : Int) - 256) = valueI 1 b := by
  unfold valueI wrap64
  rw [if_pos rfl]
  split <;> omega
theorem val2_lo {b : Nat} (h : b < 32768) : wrap64 (b : Int) = valueI 2 b := by
  unfold valueI wrap64
  rw [if_neg (show ¬ (2 : Nat) = 1 by omega), if_pos rfl]
  split <;> omega
theorem val2_hi {b : Nat} (h : 32768 ≤ b) (h2 : b < 65536) : wrap64 (wrap64 (b : Int) - 65536) = valueI 2 b := by
  unfold valueI wrap64
  rw [if_neg (show ¬ (2 : Nat) = 1 by omega), if_pos rfl]
  split <;> omega

theorem six {sh : Nat} (h : sh ≤ 6) (hw : widthN sh ≠ 0) : sh = 1 ∨ sh = 2 ∨ sh = 3 ∨ sh = 4 ∨ sh = 5 ∨ sh = 6 := by
  rcases seven h with rfl | h
  · exact absurd rfl hw
  · exact h

set_option maxRecDepth 100000 in
set_option maxHeartbeats 4000000 in
theorem operand_calls (w : World) (s : ByteArray) (c : Nat) (hc : c < 41) (hl : s.size = widthN (shapeN c)) (h0 : widthN (shapeN c) ≠ 0) :
    Calls Tryd.prog 24 #[.int .i64 (c : Int), .string s] w (Just (.int .i64 (valueI (shapeN c) (leF s.data.toList 0 (widthN (shapeN c))))) w) := by
  have HR := Lib.hid (fun w => Range_calls c hc w)
  have hsh := shape_le c
  generalize shapeN c = sh at *
  have h8 := width_le sh
  have hpos : 1 ≤ s.size := by omega
  have hs8 : s.size ≤ 8 := by omega
  have HL := Lib.hid hl
  rw [← hl]
  clear hl h8
  go_enter Tryd.func24, Tryd.ntmps24
  go_wp2
  go_loop [5, 6] (fun vn vk => ∃ k : Nat, k ≤ s.size ∧ vk = .int .i64 ((k : Int) - 1) ∧ vn = .int .u64 (leF s.data.toList k (s.size - k) : Nat)) (fun _ vk => (intOf vk + 1).toNat)
  case atStart => exact ⟨s.size, Nat.le_refl _, rfl, by rw [Nat.sub_self]; rfl⟩
  case round =>
    obtain ⟨k, hk, rfl, rfl⟩ := hrel
    cases k with
    | succ k =>
      have e1 : ((k + 1 : Nat) : Int) - 1 = (k : Int) := by omega
      rw [e1]
      have hks : (k : Int) < (s.size : Int) := by omega
      have e2 : s.size - k = (s.size - (k + 1)) + 1 := by omega
      have hst : leF s.data.toList k (s.size - k) = byteN s.data.toList k + 256 * leF s.data.toList (k + 1) (s.size - (k + 1)) := by rw [e2]; rfl
      have hlt := leF_lt8 s.data.toList (s.size - k) k (by omega)
      rw [hst] at hlt
      have HST := Lib.hid hst
      have HLT := Lib.hid hlt
      have HBY := Lib.hid (byte_at s k (by omega))
      clear hst hlt e1 e2
      generalize leF s.data.toList (k + 1) (s.size - (k + 1)) = n at *
      go_wp2
      go_round
      case rel =>
        refine ⟨k, by omega, rfl, ?_⟩
        congr 1
        rw [HST.out, HBY.out]
        exact op_step _ _ (UInt8.toNat_lt _) (by rw [← HBY.out]; exact HLT.out)
      case measure => simp [intOf] <;> omega
    | zero =>
      rw [Nat.sub_zero]
      have hlt := leF_lt8 s.data.toList s.size 0 hs8
      have hlt2 := leF_lt s.data.toList s.size 0
      have e0 : ((0 : Nat) : Int) - 1 = -1 := rfl
      rw [e0]
      clear e0
      rcases six hsh h0 with rfl | rfl | rfl | rfl | rfl | rfl
      · have hl1 : s.size = 1 := HL.out
        have hb := byte_at s 0 (by omega)
        have hv1 : leF s.data.toList 0 1 = (s[0]'(by omega)).toNat := by simp [leF, hb]
        have hv : leF s.data.toList 0 s.size = leF s.data.toList 0 1 := congrArg (leF s.data.toList 0) hl1
        have hb256 := (s[0]'(by omega)).toNat_lt
        rcases Nat.lt_or_ge (s[0]'(by omega)).toNat 128 with hx | hx
        · have hd : decide ((128 : Int) ≤ ((s[0]'(by omega)).toNat : Int)) = false := by simp; omega
          have HFIN : Hid (wrap64 ((leF s.data.toList 0 1 : Nat) : Int) = valueI 1 (leF s.data.toList 0 s.size)) := by
            show _ = _
            rw [hv]
            exact val1_lo (by omega)
          clear hx hv hv1 hb
          go_wp2_with (go_at_call 21; refine (HR.out _).mono ?_; rintro e w' ⟨rfl, rfl⟩)
          go_ret
          exact ⟨ret_int HFIN.out, rfl⟩
        · have hd : decide ((128 : Int) ≤ ((s[0]'(by omega)).toNat : Int)) = true := by simp; omega
          have HFIN : Hid (wrap64 (wrap64 ((leF s.data.toList 0 1 : Nat) : Int) - 256) = valueI 1 (leF s.data.toList 0 s.size)) := by
            show _ = _
            rw [hv]
            exact val1_hi (by omega) (by omega)
          clear hx hv hv1 hb
          go_wp2_with (go_at_call 21; refine (HR.out _).mono ?_; rintro e w' ⟨rfl, rfl⟩)
          go_ret
          exact ⟨ret_int HFIN.out, rfl⟩
      · have hl1 : s.size = 2 := HL.out
        have hb := byte_at s 1 (by omega)
        have hb0 := byte_at s 0 (by omega)
        have hv1 : leF s.data.toList 0 2 = (s[0]'(by omega)).toNat + 256 * (s[1]'(by omega)).toNat := by simp [leF, hb, hb0]
        have hv : leF s.data.toList 0 s.size = leF s.data.toList 0 2 := congrArg (leF s.data.toList 0) hl1
        have hb256 := (s[1]'(by omega)).toNat_lt
        have hc256 := (s[0]'(by omega)).toNat_lt
        rcases Nat.lt_or_ge (s[1]'(by omega)).toNat 128 with hx | hx
        · have hd : decide ((128 : Int) ≤ ((s[1]'(by omega)).toNat : Int)) = false := by simp; omega
          have HFIN : Hid (wrap64 ((leF s.data.toList 0 2 : Nat) : Int) = valueI 2 (leF s.data.toList 0 s.size)) := by
            show _ = _
            rw [hv]
            exact val2_lo (by omega)
          clear hx hv hv1 hb hb0
          go_wp2_with (go_at_call 21; refine (HR.out _).mono ?_; rintro e w' ⟨rfl, rfl⟩)
          go_ret
          exact ⟨ret_int HFIN.out, rfl⟩
        · have hd : decide ((128 : Int) ≤ ((s[1]'(by omega)).toNat : Int)) = true := by simp; omega
          have HFIN : Hid (wrap64 (wrap64 ((leF s.data.toList 0 2 : Nat) : Int) - 65536) = valueI 2 (leF s.data.toList 0 s.size)) := by
            show _ = _
            rw [hv]
            exact val2_hi (by omega) (by omega)
          clear hx hv hv1 hb hb0
          go_wp2_with (go_at_call 21; refine (HR.out _).mono ?_; rintro e w' ⟨rfl, rfl⟩)
          go_ret
          exact ⟨ret_int HFIN.out, rfl⟩
      · have hl1 : s.size = 8 := HL.out
        have hv : leF s.data.toList 0 s.size = leF s.data.toList 0 8 := congrArg (leF s.data.toList 0) hl1
        have HFIN : Hid (wrap64 ((leF s.data.toList 0 8 : Nat) : Int) = valueI 3 (leF s.data.toList 0 s.size)) := by
          show _ = _
          rw [hv]
          exact value_else (by omega) (by omega)
        clear hv
        go_wp2_with (go_at_call 21; refine (HR.out _).mono ?_; rintro e w' ⟨rfl, rfl⟩)
        go_ret
        exact ⟨ret_int HFIN.out, rfl⟩
      · have hl1 : s.size = 1 := HL.out
        go_wp2_with (go_at_call 21; refine (HR.out _).mono ?_; rintro e w' ⟨rfl, rfl⟩)
        go_ret
        exact ⟨ret_int (value_else (by omega) (by omega)), rfl⟩
      · have hl1 : s.size = 1 := HL.out
        go_wp2_with (go_at_call 21; refine (HR.out _).mono ?_; rintro e w' ⟨rfl, rfl⟩)
        go_ret
        exact ⟨ret_int (value_else (by omega) (by omega)), rfl⟩
      · have hl1 : s.size = 2 := HL.out
        go_wp2_with (go_at_call 21; refine (HR.out _).mono ?_; rintro e w' ⟨rfl, rfl⟩)
        go_ret
        exact ⟨ret_int (value_else (by omega) (by omega)), rfl⟩

end Go.Proofs.YtafknogjhhghbaaDoor
