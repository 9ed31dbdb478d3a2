/- The walk of the law CodeWalks: Decode goes as At tells. -/
import Derived.Test.YtafknogjhhghbaaDoorCSame
namespace Go.Proofs.YtafknogjhhghbaaDoor
open Go.RowKit

theorem dec_pre (l : List UInt8) : ∀ (f a : Nat) (acc : List (Int × Int)), (decGo l f a acc).err = 0 → ∃ r, (decGo l f a acc).ops = acc ++ r
  | 0, _, _, _ => ⟨[], by simp [decGo]⟩
  | f + 1, a, acc, h => by
    rw [decGo] at h ⊢
    by_cases h1 : l.length ≤ a
    · rw [if_pos h1]; exact ⟨[], by simp⟩
    · rw [if_neg h1] at h ⊢
      by_cases h2 : (atS l a).err ≠ 0
      · rw [if_pos h2] at h; exact absurd h h2
      · rw [if_neg h2] at h ⊢
        obtain ⟨r, hr⟩ := dec_pre l f _ _ h
        exact ⟨((atS l a).code, (atS l a).operand) :: r, by rw [hr]; simp⟩
theorem dec_at {l : List UInt8} {a : Nat} {acc : List (Int × Int)} {o : Int × Int} {X : Dec} (h : decAt l a (acc ++ [o]) = X) (h2 : X.err = 0) : acc.length < X.ops.length ∧ X.ops.getD acc.length (0, 0) = o := by
  subst h
  obtain ⟨r, hr⟩ := dec_pre l _ a (acc ++ [o]) h2
  unfold decAt
  rw [hr]
  simp [List.getD_eq_getElem?_getD]

set_option maxRecDepth 100000 in
set_option maxHeartbeats 4000000 in
theorem Walks_walk (w : World) (s : ByteArray) (hs : s.size ≤ 140737488351232) (ht : Tabled w) : Calls Tryd.prog 7 #[.string s] w (True_ w) := by
  have H1 := Lib.hid (fun w ht => Decode_calls w s (by omega) ht)
  have HT := Lib.hid ht
  have h0 := ht.1
  have hl : s.data.toList.length = s.size := by simp
  by_cases hbig : 512 < s.size
  · have e : decS s.data.toList = ⟨[], 2, 0⟩ := by unfold decS; rw [if_pos (by omega)]
    rw [e] at H1
    have hb' : (512 : Int) < (s.size : Int) := by omega
    clear e ht hl hbig
    go_enter Tryd.func7, Tryd.ntmps7
    go_wp2_with fail
    refine (H1.out _ HT.out).mono ?_
    rintro e1 w1 ⟨a1, n1, c1, rfl, own1, hb1⟩
    obtain ⟨A, c, hv⟩ := own_slice own1
    injection hv with e1 e2 e3
    subst e2
    clear own1
    go_wp2
    go_ret
    exact ⟨rfl, hb1⟩
  · have e : decS s.data.toList = decAt s.data.toList 0 [] := by unfold decS decAt; rw [if_neg (by omega)]; rfl
    have hb' : (s.size : Int) ≤ 512 := by omega
    have hln := decS_len s.data.toList
    have HAT := Lib.hid (fun w a ht => CodeAt_calls w s a (by omega) ht)
    have HL := Lib.hid hl
    have HX := Lib.hid e.symm
    generalize decS s.data.toList = X at *
    obtain ⟨ops, err, at_⟩ := X
    dsimp only at hln
    clear ht hl hbig e
    go_enter Tryd.func7, Tryd.ntmps7
    go_wp2_with fail
    refine (H1.out _ HT.out).mono ?_
    rintro e1 w1 ⟨a1, n1, c1, rfl, own1, hb1⟩
    obtain ⟨A, c, hv⟩ := own_slice own1
    injection hv with e1 e2 e3
    subst e2
    have OW := Lib.hid own1
    have HT1 := Lib.hid (HT.out.below h0 hb1)
    have h01 := HT1.out.1
    clear own1 e1 e3
    dsimp only
    by_cases hE : err = 0
    · subst hE
      go_wp2
      go_loopg [6, 7] (s.size + 1) (fun n v6 v7 wr => ∃ (a : Nat) (acc : List (Int × Int)), a ≤ s.size ∧ v6 = .int .i64 a ∧ n + a = s.size + 1 ∧ v7 = .int .i64 acc.length ∧ acc.length ≤ a ∧ decAt s.data.toList a acc = ⟨ops, 0, at_⟩ ∧ Below w1.heap.size w1 wr)
      case atStart => exact ⟨0, [], Nat.zero_le _, rfl, rfl, rfl, Nat.le_refl _, HX.out, Below.refl _ _⟩
      case round =>
        obtain ⟨a, acc, hk, rfl, hn, rfl, hacc, hd, bel⟩ := hrel
        have HN := Lib.hid hn
        have HD := Lib.hid hd
        clear hn hd
        by_cases hlt : a < s.size
        · have hlt' : (a : Int) < (s.size : Int) := by omega
          have hll : a < s.data.toList.length := by have := HL.out; omega
          by_cases he : (atS s.data.toList a).err = 0
          · obtain ⟨n, hn1, hn2, hn3, hn4⟩ := at_n he
            have hds := dec_step (acc := acc) hll he hn1 hn2
            have hn5 : (a : Int) + (n : Int) ≤ s.size := by have := HL.out; omega
            have HAT2 := Lib.hid (fun w ht => HAT.out w (a : Int) ht)
            unfold Spot4.val at HAT2
            generalize atS s.data.toList (a : Int) = z at *
            obtain ⟨zc, zo, zn, ze⟩ := z
            dsimp only at he hn1 hds HAT2
            subst he hn1
            have hds2 := hds.symm.trans HD.out
            obtain ⟨hi1, hi2⟩ := dec_at hds2 rfl
            have HDS := Lib.hid hds2
            dsimp only at hi1 hi2
            obtain ⟨g, rfl, hglt, hoc⟩ := own_at OW.out (by omega)
            have hfg := flat_get ops acc.length hi1
            rw [hi2] at hfg
            have HO0 := Lib.hid (hoc _ _ hfg.1)
            have HO1 := Lib.hid (hoc _ _ hfg.2)
            have hi3 : (acc.length : Int) < (ops.length : Int) := by omega
            clear hds hll hn4 hds2 hi2 hoc hfg
            go_wp2_with fail
            refine (HAT2.out _ (HT1.out.below h01 bel)).mono ?_
            rintro e1 w2 ⟨rfl, hb2⟩
            have bel2 := bel.trans (hb2.mono bel.size)
            have ho0 := (bel2.cell (p := ⟨g, acc.length * 2, none⟩) hglt).trans HO0.out
            have ho1 := (bel2.cell (p := ⟨g, acc.length * 2 + 1, none⟩) hglt).trans HO1.out
            have hgz : g < w2.heap.size := by have := bel2.size; omega
            have hgz2 : g ≠ w2.heap.size := by omega
            go_wp2
            go_quiet (fail)
            go_wp2
            go_roundg (s.size + 1 - (a + n))
            case measure => have := HN.out; omega
            case rel => exact ⟨a + n, acc ++ [(zc, zo)], by omega, by go_num, by omega, by simp, by simp; omega, HDS.out, (bel2.alloc bel2.size _).trans ⟨rfl, rfl, rfl, Nat.le_refl _, fun _ _ => rfl⟩⟩
          · have hdb := dec_bad (acc := acc) hll he
            have := HD.out.symm.trans hdb
            injection this with _ e2 _
            exact absurd e2.symm he
        · have hka : a = s.size := by omega
          have hde := HD.out.symm.trans (dec_end (l := s.data.toList) (a := a) (acc := acc) (by have := HL.out; omega))
          injection hde with _ _ e3
          subst e3 hka
          go_wp2
          go_ret
          exact ⟨rfl, hb1.trans (bel.mono hb1.size)⟩
    · have hE1 : (err == 0) = false := by simpa using hE
      go_wp2
      go_loopg [6, 7] (s.size + 1) (fun n v6 v7 wr => ∃ (a : Nat) (acc : List (Int × Int)), a ≤ s.size ∧ v6 = .int .i64 a ∧ n + a = s.size + 1 ∧ v7 = .int .i64 acc.length ∧ acc.length ≤ a ∧ decAt s.data.toList a acc = ⟨ops, err, at_⟩ ∧ Below w1.heap.size w1 wr)
      case atStart => exact ⟨0, [], Nat.zero_le _, rfl, rfl, rfl, Nat.le_refl _, HX.out, Below.refl _ _⟩
      case round =>
        obtain ⟨a, acc, hk, rfl, hn, rfl, hacc, hd, bel⟩ := hrel
        have HN := Lib.hid hn
        have HD := Lib.hid hd
        clear hn hd
        by_cases hlt : a < s.size
        · have hlt' : (a : Int) < (s.size : Int) := by omega
          have hll : a < s.data.toList.length := by have := HL.out; omega
          by_cases he : (atS s.data.toList a).err = 0
          · obtain ⟨n, hn1, hn2, hn3, hn4⟩ := at_n he
            have hds := dec_step (acc := acc) hll he hn1 hn2
            have hn5 : (a : Int) + (n : Int) ≤ s.size := by have := HL.out; omega
            have HAT2 := Lib.hid (fun w ht => HAT.out w (a : Int) ht)
            unfold Spot4.val at HAT2
            generalize atS s.data.toList (a : Int) = z at *
            obtain ⟨zc, zo, zn, ze⟩ := z
            dsimp only at he hn1 hds HAT2
            subst he hn1
            have HDS := Lib.hid (hds.symm.trans HD.out)
            clear hds hll hn4 hE
            go_wp2_with fail
            refine (HAT2.out _ (HT1.out.below h01 bel)).mono ?_
            rintro e1 w2 ⟨rfl, hb2⟩
            have bel2 := bel.trans (hb2.mono bel.size)
            go_wp2
            go_quiet (fail)
            go_wp2
            go_roundg (s.size + 1 - (a + n))
            case measure => have := HN.out; omega
            case rel => exact ⟨a + n, acc ++ [(zc, zo)], by omega, by go_num, by omega, by simp, by simp; omega, HDS.out, (bel2.alloc bel2.size _).trans ⟨rfl, rfl, rfl, Nat.le_refl _, fun _ _ => rfl⟩⟩
          · have hdb := HD.out.symm.trans (dec_bad (acc := acc) hll he)
            have hno := at_no he
            rw [hno] at hdb
            injection hdb with e1 e2 e3
            have HAT2 := Lib.hid (fun w ht => HAT.out w (a : Int) ht)
            rw [hno] at HAT2
            unfold Spot4.val noSpot at HAT2
            unfold noSpot at e2
            dsimp only at e2
            subst e1 e2 e3
            clear hE hE1 hno he hll
            go_wp2_with fail
            refine (HAT2.out _ (HT1.out.below h01 bel)).mono ?_
            rintro e1 w2 ⟨rfl, hb2⟩
            have bel2 := bel.trans (hb2.mono bel.size)
            go_wp2
            go_ret
            exact ⟨rfl, (hb1.trans (bel2.mono hb1.size)).alloc (Nat.le_trans hb1.size bel2.size) _⟩
        · have hde := HD.out.symm.trans (dec_end (l := s.data.toList) (a := a) (acc := acc) (by have := HL.out; omega))
          injection hde with _ e2 _
          exact absurd e2 hE

end Go.Proofs.YtafknogjhhghbaaDoor
