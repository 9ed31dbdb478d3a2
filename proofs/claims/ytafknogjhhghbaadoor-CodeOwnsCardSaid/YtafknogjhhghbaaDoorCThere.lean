/- The walk of the law CodeThere: what Decode takes Encode gives again. -/
import Derived.Test.YtafknogjhhghbaaDoorCRound
namespace Go.Proofs.YtafknogjhhghbaaDoor
open Go.RowKit

def OpIn (r : Int × Int) : Prop := (-9223372036854775808 ≤ r.1 ∧ r.1 ≤ 9223372036854775807) ∧ (-9223372036854775808 ≤ r.2 ∧ r.2 ≤ 9223372036854775807)
theorem at_range (l : List UInt8) (a : Int) : OpIn ((atS l a).code, (atS l a).operand) := by
  unfold OpIn
  by_cases h : (atS l a).err = 0
  · obtain ⟨a', rfl, h1, h2, h3, -⟩ := at_in h
    rw [atS_ok h1 h2 h3]
    split
    · have := value_range (shapeN (byteN l a')) (leF l (a' + 1) (widthN (shapeN (byteN l a'))))
      exact ⟨by dsimp only; omega, this⟩
    · simp [noSpot]
  · rw [at_no h]
    simp [noSpot]
theorem dec_range (l : List UInt8) : ∀ (f a : Nat) (acc : List (Int × Int)), (∀ r ∈ acc, OpIn r) → ∀ r ∈ (decGo l f a acc).ops, OpIn r
  | 0, _, acc, h => by simpa [decGo] using h
  | f + 1, a, acc, h => by
    rw [decGo]
    split
    · exact h
    · split
      · simp
      · refine dec_range l f _ _ (fun r hr => ?_)
        rcases List.mem_append.1 hr with hr | hr
        · exact h r hr
        · simp at hr
          rw [hr]
          exact at_range l a
theorem decS_range (l : List UInt8) : ∀ r ∈ (decS l).ops, OpIn r := by
  unfold decS
  split
  · simp
  · exact dec_range l _ 0 [] (by simp)

theorem str_eta (s : ByteArray) : (⟨s.data.toList.toArray⟩ : ByteArray) = s := by simp

set_option maxRecDepth 100000 in
set_option maxHeartbeats 1000000 in
theorem There_walk (w : World) (s : ByteArray) (hs : s.size ≤ 140737488351232) (ht : Tabled w) : Calls Tryd.prog 9 #[.string s] w (True_ w) := by
  have H1 := Lib.hid (fun w ht => Decode_calls w s (by omega) ht)
  have H2 := Lib.hid (fun w ht => RefDecode_calls w s (by omega) ht)
  have HT := Lib.hid ht
  have h0 := ht.1
  have hln := decS_len s.data.toList
  have HRG := Lib.hid (decS_range s.data.toList)
  have HTH := Lib.hid (fun h => there (l := s.data.toList) h)
  generalize decS s.data.toList = D at *
  obtain ⟨ops, err, at_⟩ := D
  dsimp only at hln
  clear ht
  by_cases he : err = 0
  · have hen := HTH.out he
    have HEN := Lib.hid hen
    subst he
    clear hen
    go_enter Tryd.func9, Tryd.ntmps9
    go_wp2_with fail
    refine (H1.out _ HT.out).mono ?_
    rintro e1 w1 ⟨a1, n1, c1, rfl, own1, hb1⟩
    have OW1 := Lib.hid own1
    clear own1
    go_wp2_with fail
    refine (Encode_calls _ w1.heap.size _ ops (own_reads OW1.out (by omega)) (Nat.le_refl _) HRG.out (HT.out.below h0 hb1)).mono ?_
    rintro e2 w2 ⟨rfl, hb2⟩
    rw [HEN.out]
    dsimp only
    rw [str_eta]
    go_wp2
    go_ret
    exact ⟨rfl, hb1.trans (hb2.mono hb1.size)⟩
  · have he' : (err != 0) = true := by simpa using he
    clear he
    go_enter Tryd.func9, Tryd.ntmps9
    go_wp2_with fail
    refine (H1.out _ HT.out).mono ?_
    rintro e1 w1 ⟨a1, n1, c1, rfl, own1, hb1⟩
    clear own1
    go_wp2_with fail
    refine (H2.out _ (HT.out.below h0 hb1)).mono ?_
    rintro e2 w2 ⟨a2, n2, c2, rfl, own2, hb2⟩
    clear own2
    go_wp2
    go_ret
    exact ⟨rfl, hb1.trans (hb2.mono hb1.size)⟩

end Go.Proofs.YtafknogjhhghbaaDoor
