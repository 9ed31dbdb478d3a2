/- An instruction's bytes: the contract of the reference's Bytes. -/
import Derived.Test.YtafknogjhhghbaaDoorCThere
namespace Go.Proofs.YtafknogjhhghbaaDoor
open Go.RowKit

theorem ownB_one {w : World} {base g : Nat} {b : UInt8} (hg : w.heap[g]? = some (.cells #[.int .u8 (b.toNat : Int)] 5 (0, 0))) (hb : base ≤ g) : OwnB w base (.slice (some ⟨g, 0, none⟩) 1 1) [b] :=
  ⟨rfl, .inr ⟨g, 1, #[.int .u8 (b.toNat : Int)], rfl, hb, hg, Nat.le_refl _, by decide, rfl, rfl⟩⟩

theorem div_pow (n j : Nat) : n / 256 ^ j / 256 = n / 256 ^ (j + 1) := by rw [Nat.div_div_eq_div_mul, ← Nat.pow_succ]

theorem u64_div {m : Nat} (h : m < 18446744073709551616) : IntKind.u64.wrap ((m : Int) / 256) = ((m / 256 : Nat) : Int) := by
  simp only [IntKind.wrap, IntKind.bits, IntKind.signed]
  simp
  omega

set_option maxRecDepth 100000 in
set_option maxHeartbeats 2000000 in
theorem Bytes_calls (w : World) (cN : Nat) (opd : Int) (hc : cN < 41) : Calls Tryd.prog 22 #[.agg #[.int .i64 (cN : Int), .int .i64 opd]] w (Gives (.string ⟨(opBytes ((cN : Int), opd)).toArray⟩) w) := by
  have HW := Lib.hid (fun w => Width_calls cN hc w)
  obtain ⟨i0, hi, hz0, hz1, hz2⟩ := info_parts infoU8
  have hwl := width_le (shapeN cN)
  have hob : opBytes ((cN : Int), opd) = UInt8.ofNat cN :: leBytes (wordN opd) (widthN (shapeN cN)) := by unfold opBytes; simp
  rw [hob]
  have HWV := Lib.hid (word_val opd)
  have hwd : wordN opd < 18446744073709551616 := by unfold wordN; omega
  have HWD := Lib.hid hwd
  generalize widthN (shapeN cN) = W at *
  clear hob hwd
  go_enter Tryd.func22, Tryd.ntmps22
  go_wp2_with (go_at_call 20; refine (HW.out _).mono ?_; rintro e w' ⟨rfl, rfl⟩)
  have hbc : (UInt8.ofNat cN).toNat = cN := u8_val cN (by omega)
  have own0 : OwnB ((w.alloc (.cells #[.int .i64 (cN : Int), .int .i64 opd] 28)).alloc (.cells #[.int .u8 (cN : Int)] 5)) w.heap.size (.slice (some ⟨w.heap.size + 1, 0, none⟩) 1 1) [UInt8.ofNat cN] :=
    ownB_one (by rw [hbc]; exact heap_new (by simp)) (by omega)
  have OW0 := Lib.hid own0
  clear own0 hbc
  go_loopg [3, 4, 6] (W + 1) (fun n v3 v4 vj wr => ∃ (j : Nat) (A : Option Addr) (c : Nat), j ≤ W ∧ vj = .int .i64 j ∧ n + j = W + 1 ∧ v3 = .slice A (1 + j) c ∧ v4 = .int .u64 ((wordN opd / 256 ^ j : Nat) : Int) ∧ OwnB wr w.heap.size (.slice A (1 + j) c) (UInt8.ofNat cN :: leBytes (wordN opd) j) ∧ Below w.heap.size w wr)
  case atStart => exact ⟨0, _, 1, Nat.zero_le _, rfl, rfl, rfl, by rw [HWV.out]; simp, OW0.out, below_alloc_of (below_alloc _ _) _⟩
  case round =>
    obtain ⟨j, A, c, hj, rfl, hnj, rfl, rfl, own, bel⟩ := hrel
    have HNJ := Lib.hid hnj
    have hsz := bel.size
    clear hnj
    by_cases hjW : j < W
    · have hjW' : (j : Int) < (W : Int) := by omega
      have HSN := Lib.hid (leBytes_snoc j (wordN opd))
      have HDP := Lib.hid (div_pow (wordN opd) j)
      have hm : wordN opd / 256 ^ j < 18446744073709551616 := Nat.lt_of_le_of_lt (Nat.div_le_self _ _) HWD.out
      have HM := Lib.hid hm
      clear hm
      generalize hgm : wordN opd / 256 ^ j = m at *
      have hbv : (m : Int) % 256 = ((UInt8.ofNat (m % 256)).toNat : Int) := by rw [u8_val _ (by omega)]; rfl
      have HBV := Lib.hid hbv
      have own' : wr.ownsRow w.heap.size 5 1 (.slice A (1 + j) c) (1 + j) ((UInt8.ofNat cN :: leBytes (wordN opd) j).map fun b => Value.int .u8 (b.toNat : Int)) := by
        have h := own
        unfold OwnB at h
        rw [show (UInt8.ofNat cN :: leBytes (wordN opd) j).length = 1 + j by simp [leBytes_len]; omega] at h
        exact h
      clear hbv hgm
      go_wp2_with (at_builtin; refine wpList_append_own _ rfl _ _ 40 rfl w.heap.size 5 i0 (.int .u8 0) 1 1 Tryd.underlying40 hi hz0 hz1 hz2 rfl (by decide) _ _ _ rfl (own'.alloc _) ⟨wr.heap.size, 0, none⟩ 1 1 [.int .u8 ((m : Int) % 256)] rfl rfl ?d1 ?d2 ?d3 ?d4 ?d5 ?_)
      case d1 =>
        intro q u hq
        match q, hq with
        | 0, hq => simp at hq; subst hq; simp [Addr.add]
      case d2 => intro u hu; simp at hu; subst hu; rfl
      case d3 => unfold maxLen; omega
      case d4 => omega
      case d5 => simp; omega
      intro v3 w3 hown3 hgrow3 _
      rw [HBV.out] at hown3
      have hown3' : OwnB w3 w.heap.size v3 (UInt8.ofNat cN :: leBytes (wordN opd) (j + 1)) := by
        rw [HSN.out, ← List.cons_append]
        refine ownB_snoc ?_
        rw [show (UInt8.ofNat cN :: leBytes (wordN opd) j).length = 1 + j by simp [leBytes_len]; omega]
        exact hown3
      have hb3 : Below w.heap.size w w3 := (bel.alloc (by omega) _).grown hgrow3 (by simp; omega) (fun r hr => by have := (own'.lt r hr).1; omega)
      obtain ⟨A3, c3, hv3⟩ := ownB_slice hown3'
      rw [show (UInt8.ofNat cN :: leBytes (wordN opd) (j + 1)).length = 1 + (j + 1) by simp [leBytes_len]; omega] at hv3
      subst hv3
      clear hgrow3 hown3 own own'
      go_wp2
      go_roundg (W - j)
      case measure => have := HNJ.out; omega
      case rel =>
        refine ⟨j + 1, A3, c3, by omega, by go_num, by omega, rfl, ?_, hown3', hb3⟩
        rw [← HDP.out]
        congr 1
        exact u64_div HM.out
    · have hjW' : j = W := by omega
      have hcv := conv_own own (by simp [leBytes_len]; omega)
      subst hjW'
      go_wp2
      go_ret
      exact ⟨rfl, bel⟩

end Go.Proofs.YtafknogjhhghbaaDoor
