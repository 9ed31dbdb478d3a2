/- Instructions as bytes: the contract of the reference's Encode. -/
import Derived.Test.YtafknogjhhghbaaDoorCBytes
namespace Go.Proofs.YtafknogjhhghbaaDoor
open Go.RowKit

theorem append_mk (a b : List UInt8) : (⟨a.toArray⟩ : ByteArray) ++ (⟨b.toArray⟩ : ByteArray) = ⟨(a ++ b).toArray⟩ := by
  apply ByteArray.ext
  simp

set_option maxHeartbeats 1000000 in
theorem Range_bad (c : Int) (h : c < 0 ∨ 40 < c) (w : World) : Calls Tryd.prog 21 #[.int .i64 c] w (Just (.tuple #[.int .i64 0, .int .i64 0]) w) := by
  have HW := Lib.hid (fun w => Width_no c h w)
  have g1 : (c == 1) = false := by simp; omega
  have g2 : (c == 2) = false := by simp; omega
  have g3 : (c == 24) = false := by simp; omega
  have g4 : (c == 25) = false := by simp; omega
  have g5 : (c == 3) = false := by simp; omega
  have g6 : (c == 23) = false := by simp; omega
  have g7 : (c == 26) = false := by simp; omega
  clear h
  go_enter Tryd.func21, Tryd.ntmps21
  go_wp2_with (go_at_call 20; refine (HW.out _).mono ?_; rintro e w' ⟨rfl, rfl⟩)
  go_ret2
  exact ⟨rfl, rfl⟩

set_option maxRecDepth 100000 in
set_option maxHeartbeats 4000000 in
theorem RefEncode_calls (w : World) (B : Nat) (v : Value) (rs : List (Int × Int)) (hr : ReadsR w B v rs) (hB : B ≤ w.heap.size) (hq : ∀ r ∈ rs, (-9223372036854775808 ≤ r.1 ∧ r.1 ≤ 9223372036854775807) ∧ (-9223372036854775808 ≤ r.2 ∧ r.2 ≤ 9223372036854775807)) :
    Calls Tryd.prog 12 #[v] w (EncPost (encS rs) w) := by
  obtain ⟨hl, a, cp, rfl, hcp, hcm, hr⟩ := hr
  have HR := Lib.hid hr
  have HQ := Lib.hid hq
  unfold encS
  generalize hX : encAt rs 0 [] = X
  have HX := Lib.hid hX
  clear hr hq hX
  go_enter Tryd.func12, Tryd.ntmps12
  go_wp2
  go_loopg [5, 6] (rs.length + 1) (fun n v5 vk wr => ∃ (k : Nat) (acc : List UInt8), k ≤ rs.length ∧ vk = .int .i64 k ∧ n + k = rs.length + 1 ∧ v5 = .string ⟨acc.toArray⟩ ∧ acc.length ≤ 512 ∧ encAt rs k acc = X ∧ Below w.heap.size w wr)
  case atStart => exact ⟨0, [], Nat.zero_le _, rfl, rfl, rfl, by simp, HX.out, Below.refl _ _⟩
  case round =>
    obtain ⟨k, acc, hk, rfl, hn, rfl, hacc, hd, bel⟩ := hrel
    have HN := Lib.hid hn
    have HD := Lib.hid hd
    clear hn hd
    by_cases hlt : k < rs.length
    · rcases HR.out with h | ⟨b, off, rfl, hbB, hcell⟩
      · exact absurd hlt (by rw [h]; simp)
      have hc0 := (bel.cell (p := ⟨b, off + k * 2, none⟩) (by simp; omega)).trans (hcell k hlt).1
      have hc1 := (bel.cell (p := ⟨b, off + k * 2 + 1, none⟩) (by simp; omega)).trans (hcell k hlt).2
      have hqk := HQ.out (rs.getD k (0, 0)) (by simp [List.getD_eq_getElem?_getD, hlt])
      have HEA := Lib.hid (HD.out.symm.trans (enc_at acc hlt))
      generalize rs.getD k (0, 0) = r at *
      obtain ⟨code, opd⟩ := r
      dsimp only at hc0 hc1 hqk
      obtain ⟨⟨q0, q1⟩, q2, q3⟩ := hqk
      have hbs : b < wr.heap.size := by have := bel.size; omega
      have hlt' : (k : Int) < (rs.length : Int) := by omega
      clear hcell
      by_cases hbad : code < 0 ∨ 41 ≤ code
      · have hE := HEA.out
        rw [if_pos hbad] at hE
        have HE := Lib.hid hE
        have HW := Lib.hid (fun w => Width_no code (by omega) w)
        have HRG := Lib.hid (fun w => Range_bad code (by omega) w)
        clear hE hbad
        go_wp2_with (first | (go_at_call 20; refine (HW.out _).mono ?_; rintro e w' ⟨rfl, rfl⟩) | (go_at_call 21; refine (HRG.out _).mono ?_; rintro e w' ⟨rfl, rfl⟩))
        go_ret3
        rw [HE.out]
        exact ⟨rfl, bel⟩
      · have hE := HEA.out
        rw [if_neg hbad] at hE
        obtain ⟨cN, rfl⟩ := Int.eq_ofNat_of_zero_le (show 0 ≤ code by omega)
        rw [Int.toNat_natCast] at hE
        have hc41 : cN < 41 := by omega
        have HW := Lib.hid (fun w => Width_calls cN hc41 w)
        have HRG := Lib.hid (fun w => Range_calls cN hc41 w)
        have HB := Lib.hid (fun w => Bytes_calls w cN opd hc41)
        have hwl := width_le (shapeN cN)
        have hol : (opBytes ((cN : Int), opd)).length = 1 + widthN (shapeN cN) := by unfold opBytes; simp [leBytes_len]; omega
        have HOL := Lib.hid hol
        have HE := Lib.hid hE
        clear hE hbad hol q0 q1
        have hw0 : (0 : Int) ≤ (widthN (shapeN cN) : Int) := by omega
        by_cases hf : fitsB (shapeN cN) opd = true
        · obtain ⟨f1, f2⟩ := of_decide_eq_true hf
          have hE2 := HE.out
          rw [if_neg (by rw [hf]; decide)] at hE2
          rw [List.length_append, HOL.out] at hE2
          generalize loI (shapeN cN) = lo at *
          generalize hiI (shapeN cN) = hi at *
          generalize widthN (shapeN cN) = W at *
          clear hf
          by_cases hbig : 512 < acc.length + (1 + W)
          · rw [if_pos hbig] at hE2
            have HE2 := Lib.hid hE2
            have hbig' : (512 : Int) < (acc.length : Int) + 1 + W := by omega
            clear hE2
            go_wp2_with (first | (go_at_call 20; refine (HW.out _).mono ?_; rintro e w' ⟨rfl, rfl⟩) | (go_at_call 21; refine (HRG.out _).mono ?_; rintro e w' ⟨rfl, rfl⟩))
            go_ret3
            rw [HE2.out]
            exact ⟨rfl, bel⟩
          · rw [if_neg hbig] at hE2
            have HE2 := Lib.hid hE2
            have hsmall : (acc.length : Int) + 1 + W ≤ 512 := by omega
            have hs1 := fun w => run_string_add_sum (P := Tryd.prog) (w := w) ⟨acc.toArray⟩ ⟨(opBytes ((cN : Int), opd)).toArray⟩ (by have := HOL.out; simp [ByteArray.size]; omega)
            simp only [append_mk] at hs1
            clear hE2
            go_wp2_with (first | (go_at_call 20; refine (HW.out _).mono ?_; rintro e w' ⟨rfl, rfl⟩) | (go_at_call 21; refine (HRG.out _).mono ?_; rintro e w' ⟨rfl, rfl⟩) | (go_at_call 22; refine (HB.out _).mono ?_; rintro e w3 ⟨rfl, hb3⟩))
            go_roundg (rs.length - k)
            case measure => have := HN.out; omega
            case rel => exact ⟨k + 1, acc ++ opBytes ((cN : Int), opd), by omega, by go_num, by omega, rfl, by rw [List.length_append, HOL.out]; omega, HE2.out.symm, bel.trans (hb3.mono bel.size)⟩
        · have hE2 := HE.out
          have hf' : fitsB (shapeN cN) opd = false := by simpa using hf
          have hf2 := of_decide_eq_false hf'
          rw [if_pos hf'] at hE2
          have HE2 := Lib.hid hE2
          clear hE2 hf hf'
          generalize loI (shapeN cN) = lo at *
          generalize hiI (shapeN cN) = hi at *
          generalize widthN (shapeN cN) = W at *
          rcases (show opd < lo ∨ (lo ≤ opd ∧ hi < opd) from by omega) with hz | ⟨hz, hz'⟩
          all_goals
            clear hf2
            go_wp2_with (first | (go_at_call 20; refine (HW.out _).mono ?_; rintro e w' ⟨rfl, rfl⟩) | (go_at_call 21; refine (HRG.out _).mono ?_; rintro e w' ⟨rfl, rfl⟩))
            go_ret3
            rw [HE2.out]
            exact ⟨rfl, bel⟩
    · have hka : k = rs.length := by omega
      have HDE := Lib.hid (HD.out.symm.trans (enc_end (by omega)))
      subst hka
      go_wp2
      go_ret3
      rw [HDE.out]
      exact ⟨rfl, bel⟩

end Go.Proofs.YtafknogjhhghbaaDoor
