/- The walk of the law Ends. -/
import Derived.Test.YtihlbhlagpmbjaaEndS18
import Derived.Test.YtihlbhlagpmbjaaLaws
namespace Go.Proofs.Ytihlbhlagpmbjaa
open Go.RowKit

theorem steps_next {base most call : Int} {xs : List Int} {st : MS} {read : List Int} {writes : Int} {last : WantS} {v : Int} (h : Sim base most call xs st read writes last) (hv : In64 v) (h6 : last.kind ≠ 6) :
    stepsOf (readOf last read v) (writesOf last writes) (wantsS base most call xs (readOf last read v) (writesOf last writes) last) = stepsOf read writes last + 1 := by
  obtain ⟨-, -, h3⟩ := sim_step h hv
  obtain ⟨-, -, -, -, k4⟩ := sim_kind h
  have hk0 : (wantsS base most call xs (readOf last read v) (writesOf last writes) last).kind ≠ 0 := by omega
  generalize wantsS base most call xs (readOf last read v) (writesOf last writes) last = W at *
  unfold stepsOf
  rw [if_neg hk0]
  rcases k4 with e | e | e | ⟨e, -⟩
  · exact absurd e h6
  · have er : readOf last read v = read ++ [v] := if_pos e
    have ew : writesOf last writes = writes := if_neg (by omega)
    rw [er, ew, if_neg (by omega), List.length_append, List.length_cons, List.length_nil]
    omega
  · have er : readOf last read v = read := if_neg (by omega)
    have ew : writesOf last writes = writes + 1 := if_pos e
    rw [er, ew, if_neg (by omega)]
    omega
  · have er : readOf last read v = read := if_neg (by omega)
    have ew : writesOf last writes = writes := if_neg (by omega)
    rw [er, ew, if_pos e]
    omega

set_option maxRecDepth 100000 in
set_option maxHeartbeats 8000000 in
theorem Ends_walk (w : World) (base most call : Int) (av wv : Value) (xs ws : List Int) (ha : Reads w w.heap.size av xs) (hw : Reads w w.heap.size wv ws) :
    Calls Try.prog 10 #[asked base most call av wv] w (True_ w) := by
  unfold asked
  have ba := below_alloc w (.cells #[.int .i64 base, .int .i64 most, .int .i64 call, av, wv] 36)
  have HA := Lib.hid ((ha.below ba).mono (show w.heap.size ≤ (w.alloc (.cells #[.int .i64 base, .int .i64 most, .int .i64 call, av, wv] 36)).heap.size by simp))
  obtain ⟨hwl, hwr, wa, wc, rfl, hwc, hwcell⟩ := hw
  have HWR := Lib.hid hwr
  have HWC := Lib.hid hwcell
  clear ha ba hwr hwcell
  by_cases hok : takesB base most (arityI call) xs.length = true
  · have HS := Lib.hid (sim_init hok)
    obtain ⟨⟨hm0, hm1⟩, hb0, hb1', -⟩ := of_decide_eq_true hok
    go_enter Try.func10, Try.ntmps10
    go_wp2_with fail
    refine (New_yes _ _ base most call _ xs HA.out (Nat.le_refl _) hok).mono ?_
    rintro e w1 ⟨p, hp, rfl, hb1, F, rep1, hF⟩
    simp only [World.size_alloc] at hp hF
    have hA1 := box_keep hb1 (heap_new (w := w) rfl)
    obtain ⟨cA0, cA1, cA2, cA3, cA4⟩ := box5 hA1
    have HB := Lib.hid hA1
    clear hA1
    go_wp2_with fail
    refine (right_calls _ _ base most call _ xs (HA.out.below hb1)).mono ?_
    rintro e w2 ⟨rfl, rfl⟩
    rw [hok]
    go_wp2_with fail
    refine (Size_calls _ _).mono ?_
    rintro e w2 ⟨rfl, rfl⟩
    rw [sizeI_in hm0 hm1]
    clear cA0 cA1 cA2 cA3 cA4
    go_wp2_with fail
    go_loopg [7] ((endBound most).toNat + 1) (fun n v7 wr => ∃ (k : Nat) (st : MS) (F : List Nat) (read : List Int) (writes : Int) (last : WantS),
      v7 = .int .i64 k ∧ (k : Int) = stepsOf read writes last ∧ last.kind ≠ 6 ∧ n + k = (endBound most).toNat + 1 ∧ Sim base most call xs st read writes last ∧
      wr.heap[w.heap.size]? = some (.cells #[.int .i64 base, .int .i64 most, .int .i64 call, av, .slice wa ws.length wc] 36 (0, 0)) ∧
      Rep wr p st F ∧ (∀ q ∈ F, w.heap.size + 1 ≤ q) ∧ Below w.heap.size w wr)
    case atStart => exact ⟨0, _, F, [], 0, w0, rfl, rfl, by decide, rfl, HS.out, HB.out, rep1, hF, (below_alloc _ _).trans (hb1.mono (by simp))⟩
    case round =>
      clear HS HB rep1 hF hb1
      obtain ⟨k, st, F, read, writes, last, rfl, hks, h6, hnk, sim, hA, rep, foot, bel⟩ := hrel
      obtain ⟨cA0, cA1, cA2, cA3, cA4⟩ := box5 hA
      have hbound := (sim_ends sim).2.2 h6
      have hk2 : (k : Int) ≤ endBound most := by omega
      have HK2 := Lib.hid hk2
      have hsz := bel.size
      have hlw : w.heap.size < wr.heap.size := (Array.getElem?_eq_some_iff.1 hA).1
      have hval : k < ws.length → ∃ b off, wa = some ⟨b, off, none⟩ ∧ wr.cell? ⟨b, off + k, none⟩ = some (.int .i64 (ws.getD k 0)) := by
        intro hk
        rcases HWC.out with h | ⟨b, off, h, hb, hc⟩
        · exact absurd hk (by rw [h]; simp)
        · exact ⟨b, off, h, (bel.cell (p := ⟨b, off + k, none⟩) hb).trans (hc k hk)⟩
      have hv : In64 (ws.getD k 0) := by
        by_cases hk : k < ws.length
        · exact HWR.out _ (by simp [List.getD_eq_getElem?_getD, hk])
        · simp [List.getD_eq_getElem?_getD, Nat.not_lt.1 hk, In64]
      have hwkz : ¬ k < ws.length → ws.getD k 0 = 0 := fun h => by simp [List.getD_eq_getElem?_getD, Nat.not_lt.1 h]
      obtain ⟨s1, s2, s3⟩ := sim_step sim hv
      have hst := steps_next sim hv h6
      have hends := sim_ends s2
      rw [sizeI_in hm0 hm1] at hends
      generalize hgv : ws.getD k 0 = v at *
      generalize hgW : wantsS base most call xs (readOf last read v) (writesOf last writes) last = W at *
      generalize hgR : readOf last read v = R at *
      generalize hgw : writesOf last writes = Wr at *
      clear hgv hgR hgw hgW
      have HSIM := Lib.hid (⟨s1, s2, hst⟩ : _ ∧ _ ∧ _)
      have HK := Lib.hid hks
      have HN := Lib.hid hnk
      have HA1 := Lib.hid hA
      clear s1 s2 hst hks hnk hA sim hbound h6
      unfold endBound at hk2
      obtain ⟨W0, W1, W2, W3⟩ := W
      simp only at hends s3
      have hcase : (∃ b off, wa = some ⟨b, off, none⟩ ∧ k < ws.length ∧ wr.cell? ⟨b, off + k, none⟩ = some (.int .i64 v)) ∨ (ws.length ≤ k ∧ v = 0) := by
        by_cases hk : k < ws.length
        · obtain ⟨b, off, h1, h2⟩ := hval hk
          exact .inl ⟨b, off, h1, hk, h2⟩
        · exact .inr ⟨by omega, hwkz hk⟩
      clear hval hwkz
      rcases hcase with ⟨b, off, rfl, hk, hcw⟩ | ⟨hk, rfl⟩
      all_goals
        go_wp2_with fail
        refine (Next_calls _ _ st F _ rep).mono ?_
        rintro e w3 ⟨rfl, hg3, F', rep3, hF'⟩
        rw [HSIM.out.1]
        simp only [WantS.val]
        have hA3 := box_grown hg3 HA1.out (by omega)
        have HA3 := Lib.hid hA3
        have hMlt : w.heap.size < w3.heap.size := (Array.getElem?_eq_some_iff.1 hA3).1
        clear cA0 cA1 cA2 cA3 cA4
        obtain ⟨cA0, cA1, cA2, cA3, cA4⟩ := box5 hA3
        clear hA3
        have bel3 : Below w.heap.size w w3 := bel.trans ⟨hg3.os, hg3.tape, hg3.output, hg3.size, fun q hq => hg3.block q (by omega) (fun e => by injection e with e; omega)⟩
        by_cases e6 : W0 = 6
        · subst e6
          obtain ⟨rfl, hcv⟩ := hends.1 rfl
          by_cases h3 : W3 = 0
          · subst h3
            clear hcv hends s3
            go_wp2
            go_ret
            exact ⟨rfl, bel3.alloc bel3.size _⟩
          · have h2 : W2 = 0 := by omega
            subst h2
            have h3' : (W3 == 0) = false := by simpa using h3
            clear hcv hends s3 h3
            go_wp2
            go_ret
            exact ⟨rfl, bel3.alloc bel3.size _⟩
        · have e6' : (W0 == 6) = false := by simpa using e6
          have h23 : W0 = 2 ∨ W0 = 3 := by omega
          obtain ⟨h1, h2⟩ := hends.2.1 h23
          have he := hends.2.2 e6
          have HE := Lib.hid he
          clear hends s3 he
          rcases h23 with rfl | rfl
          all_goals
            go_wp2
            go_roundg ((endBound most).toNat - k)
            case measure => have := HN.out; have := HK2.out; omega
            case rel => exact ⟨k + 1, _, F', R, Wr, _, by go_num, by rw [HSIM.out.2.2, ← HK.out]; rfl, e6, by have := HN.out; have := HK2.out; omega, HSIM.out.2.1, heap_old HA3.out, rep_keep rep3 (fun q hq => Below.heap_alloc _ _ _ ((rep_mem rep3).2 q hq)), fun q hq => by rcases hF' q hq with h | h; exact foot q h; omega, bel3.alloc bel3.size _⟩
  · have hno : takesB base most (arityI call) xs.length = false := by simpa using hok
    clear hok
    go_enter Try.func10, Try.ntmps10
    go_wp2_with fail
    refine (New_no _ _ base most call _ xs HA.out hno).mono ?_
    rintro e w1 ⟨rfl, hb1⟩
    have hA1 := box_keep hb1 (heap_new (w := w) rfl)
    obtain ⟨cA0, cA1, cA2, cA3, cA4⟩ := box5 hA1
    clear hA1
    go_wp2_with fail
    refine (right_calls _ _ base most call _ xs (HA.out.below hb1)).mono ?_
    rintro e w2 ⟨rfl, rfl⟩
    rw [hno]
    go_wp2
    go_ret
    exact ⟨rfl, below_trans (below_alloc _ _) hb1⟩

end Go.Proofs.Ytihlbhlagpmbjaa
