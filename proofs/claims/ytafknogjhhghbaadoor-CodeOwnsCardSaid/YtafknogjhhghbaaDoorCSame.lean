/- Are two lists of instructions alike: the contract of Same; the walks of the laws CodeDecodes and CodeWalks. -/
import Derived.Test.YtafknogjhhghbaaDoorCDecode
namespace Go.Proofs.YtafknogjhhghbaaDoor
open Go.RowKit

theorem drewN_below (w : World) (n : Nat) : Below w.heap.size w (w.drewN n) := ⟨rfl, rfl, rfl, Nat.le_refl _, fun _ _ => rfl⟩

set_option maxHeartbeats 2000000 in
theorem Same_calls (w : World) (B : Nat) (a b : Value) (xs ys : List (Int × Int)) (ha : ReadsR w B a xs) (hb : ReadsR w B b ys) :
    Calls Tryd.prog 17 #[a, b] w (Gives (.bool (decide (xs = ys))) w) := by
  obtain ⟨hxl, a, ca, rfl, hca, hcam, ha⟩ := ha
  obtain ⟨hyl, b, cb, rfl, hcb, hcbm, hb⟩ := hb
  by_cases hl : xs.length = ys.length
  · have hl1 : ((xs.length : Int) != (ys.length : Int)) = false := by simp [hl]
    have HL := Lib.hid hl
    clear hl
    go_enter Tryd.func17, Tryd.ntmps17
    go_wp2
    go_loopw [5] (fun i wr => ∃ k : Nat, k ≤ xs.length ∧ i = .int .i64 k ∧ (∀ j, j < k → xs.getD j (0, 0) = ys.getD j (0, 0)) ∧ ∃ n, wr = w.drewN n) (fun i _ => xs.length - (intOf i).toNat)
    case atStart => exact ⟨0, Nat.zero_le _, rfl, fun j hj => by omega, 0, rfl⟩
    case round =>
      obtain ⟨k, hk, rfl, heq, n, rfl⟩ := hrel
      by_cases hlt : k < xs.length
      · have hlt' : k < ys.length := by have := HL.out; omega
        rcases ha with rfl | ⟨ba, oa, rfl, hBa, hca'⟩
        · exact absurd hlt (by simp)
        rcases hb with rfl | ⟨bb, ob, rfl, hBb, hcb'⟩
        · exact absurd hlt' (by simp)
        obtain ⟨hx0, hx1⟩ := hca' k hlt
        obtain ⟨hy0, hy1⟩ := hcb' k hlt'
        have HE := Lib.hid heq
        have hne : xs.getD k (0, 0) ≠ ys.getD k (0, 0) → xs ≠ ys := fun h e => h (by rw [e])
        have HNE := Lib.hid hne
        clear heq hca' hcb' hne
        generalize hgx : xs.getD k (0, 0) = x at *
        generalize hgy : ys.getD k (0, 0) = y at *
        have HGX := Lib.hid hgx
        have HGY := Lib.hid hgy
        clear hgx hgy
        obtain ⟨x0, x1⟩ := x
        obtain ⟨y0, y1⟩ := y
        dsimp only at hx0 hx1 hy0 hy1
        by_cases he : x0 = y0 ∧ x1 = y1
        · obtain ⟨rfl, rfl⟩ := he
          go_wp2
          go_quiet (fail)
          go_wp2
          go_roundw
          case rel =>
            refine ⟨k + 1, by omega, by go_num, fun j hj => ?_, _, rfl⟩
            by_cases hjk : j = k
            · subst hjk; rw [HGX.out, HGY.out]
            · exact HE.out j (by omega)
          case measure => simp [intOf]; omega
        · have hfin : decide (xs = ys) = false := decide_eq_false (HNE.out (fun e => he (by simpa using e)))
          have HF := Lib.hid hfin
          clear hfin
          rcases (show x0 ≠ y0 ∨ (x0 = y0 ∧ x1 ≠ y1) from by omega) with hz | ⟨rfl, hz⟩
          all_goals
            first
              | have hz' : (x0 == y0) = false := by simpa using hz
              | have hz' : (x1 == y1) = false := by simpa using hz
            clear he hz
            go_wp2
            go_quiet (fail)
            go_wp2
            go_ret
            exact ⟨by rw [HF.out]; rfl, (drewN_below w n).trans (drewN_below (w.drewN n) _)⟩
      · have hfin : decide (xs = ys) = true := by
          have hk' : k = xs.length := by omega
          apply decide_eq_true
          apply List.ext_getElem HL.out
          intro i h1 h2
          have := heq i (by omega)
          simpa [List.getD_eq_getElem?_getD, h1, h2] using this
        have HF := Lib.hid hfin
        clear heq hfin
        go_wp2
        go_ret
        exact ⟨by rw [HF.out]; rfl, drewN_below _ _⟩
  · have hl1 : ((xs.length : Int) != (ys.length : Int)) = true := by simpa using (show (xs.length : Int) ≠ (ys.length : Int) by omega)
    have hfin : decide (xs = ys) = false := decide_eq_false (fun h => hl (by rw [h]))
    rw [hfin]
    clear hl hfin
    go_enter Tryd.func17, Tryd.ntmps17
    go_wp2
    go_ret
    exact ⟨rfl, Below.refl _ _⟩

/-- A row of instructions of the call's own reads. -/
theorem own_reads {w : World} {base n c : Nat} {A : Option Addr} {rs : List (Int × Int)} (h : w.ownsRow base 28 2 (.slice A n c) rs.length (flatV rs)) (hl : rs.length ≤ 8796093021952) : ReadsR w w.heap.size (.slice A n c) rs := by
  have h2 := h.2
  rcases h2 with ⟨h3, h4⟩ | ⟨g, cap, cur, hv, hb, hg, hnc, hcm, hcs, htk⟩
  · injection h3 with e1 e2 e3
    subst e1 e2 e3
    have : rs = [] := List.eq_nil_of_length_eq_zero h4
    subst this
    exact ⟨by simp, none, 0, rfl, by simp, by omega, .inl rfl⟩
  · injection hv with e1 e2 e3
    subst e1 e2 e3
    refine ⟨hl, _, _, rfl, hnc, by simp only [maxLen] at hcm; omega, .inr ⟨g, 0, rfl, (Array.getElem?_eq_some_iff.1 hg).1, fun i hi => ?_⟩⟩
    have hf := flat_get rs i hi
    have hadd : ∀ j, (⟨g, 0, none⟩ : Addr).add j = ⟨g, 0 + j, none⟩ := fun j => by unfold Addr.add; split <;> simp_all
    have c0 := h.cells (g := g) rfl (i * 2) _ hf.1
    have c1 := h.cells (g := g) rfl (i * 2 + 1) _ hf.2
    rw [hadd] at c0 c1
    exact ⟨c0, by rw [Nat.add_assoc]; exact c1⟩

theorem dec_len (l : List UInt8) : ∀ (f a : Nat) (acc : List (Int × Int)), (decGo l f a acc).ops.length ≤ acc.length + f
  | 0, _, _ => by simp [decGo]
  | f + 1, a, acc => by
    rw [decGo]
    split
    · simp
    · split
      · simp
      · have := dec_len l f (a + (atS l a).n.toNat) (acc ++ [((atS l a).code, (atS l a).operand)])
        simp at this
        omega
theorem decS_len (l : List UInt8) : (decS l).ops.length ≤ 513 := by
  unfold decS
  split
  · simp
  · have := dec_len l (l.length + 1) 0 []
    simp at this
    omega

set_option maxRecDepth 100000 in
set_option maxHeartbeats 1000000 in
theorem Decodes_walk (w : World) (s : ByteArray) (hs : s.size ≤ 140737488351232) (ht : Tabled w) : Calls Tryd.prog 6 #[.string s] w (True_ w) := by
  have H1 := Lib.hid (fun w ht => Decode_calls w s (by omega) ht)
  have H2 := Lib.hid (fun w ht => RefDecode_calls w s (by omega) ht)
  have HT := Lib.hid ht
  have h0 := ht.1
  have hln := decS_len s.data.toList
  generalize decS s.data.toList = D at *
  obtain ⟨ops, err, at_⟩ := D
  dsimp only at hln
  clear ht
  go_enter Tryd.func6, Tryd.ntmps6
  go_wp2_with fail
  refine (H1.out _ HT.out).mono ?_
  rintro e1 w1 ⟨a1, n1, c1, rfl, own1, hb1⟩
  have OW1 := Lib.hid own1
  clear own1
  go_wp2_with fail
  refine (H2.out _ (HT.out.below h0 hb1)).mono ?_
  rintro e2 w2 ⟨a2, n2, c2, rfl, own2, hb2⟩
  have OW2 := Lib.hid own2
  have OW1' := Lib.hid (own_below OW1.out hb2)
  have hb02 := hb1.trans (hb2.mono hb1.size)
  clear own2
  go_wp2_with fail
  refine (Same_calls _ _ _ _ ops ops (own_reads OW1'.out (by omega)) (own_reads OW2.out (by omega))).mono ?_
  rintro e3 w3 ⟨rfl, hb3⟩
  rw [decide_eq_true rfl]
  go_wp2
  go_ret
  exact ⟨rfl, hb02.trans (hb3.mono hb02.size)⟩

end Go.Proofs.YtafknogjhhghbaaDoor
