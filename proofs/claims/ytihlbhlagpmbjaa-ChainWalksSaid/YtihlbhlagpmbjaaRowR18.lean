/- The contract of the reference's row: marks in a []bool of the call's own. -/
import Derived.Test.YtihlbhlagpmbjaaRowM18
import Derived.Test.YtihlbhlagpmbjaaRefD18
namespace Go.Proofs.Ytihlbhlagpmbjaa
open Go.RowKit

theorem infoInt : (Try.prog.info? 3).map (fun i => (i.zero, i.size, i.bytes)) = some (some (.int .i64 0), 1, 8) := by kernel_rfl
/-- A slice of ints of the call's own. -/
def OwnsI (w : World) (base : Nat) (v : Value) (xs : List Int) : Prop := w.ownsRow base 3 1 v xs.length (xs.map (Value.int .i64))
theorem OwnsI.form {w : World} {base : Nat} {v : Value} {xs : List Int} (h : OwnsI w base v xs) : ∃ a n c, v = .slice a n c := by
  rcases h.2 with ⟨rfl, _⟩ | ⟨g, cap, cur, rfl, _⟩
  · exact ⟨_, _, _, rfl⟩
  · exact ⟨_, _, _, rfl⟩
theorem ownsI_nil (w : World) (base : Nat) : OwnsI w base (.slice none 0 0) [] := World.ownsRow_nil _ _ _ _

/-- Block b marks just the keys of a list, of the numbers up to u. -/
def SeenB (w : World) (b : Nat) (u : Nat) (S : List Int) : Prop :=
  ∃ cur : Array Value, w.heap[b]? = some (.cells cur 4 (0, 0)) ∧ u < cur.size ∧ ∀ i : Nat, i ≤ u → cur[i]? = some (.bool (decide ((i : Int) ∈ S)))
theorem SeenB.lt {w : World} {b u : Nat} {S : List Int} (h : SeenB w b u S) : b < w.heap.size := by
  obtain ⟨cur, h1, -⟩ := h
  exact (Array.getElem?_eq_some_iff.1 h1).1
theorem SeenB.cell {w : World} {b u : Nat} {S : List Int} (h : SeenB w b u S) {i : Nat} (hi : i ≤ u) : w.cell? ⟨b, i, none⟩ = some (.bool (decide ((i : Int) ∈ S))) := by
  obtain ⟨cur, h1, h2, h3⟩ := h
  rw [cell_of_row w b i _ _ _ h1, h3 i hi]
theorem SeenB.frozen {w : World} {b u : Nat} {S : List Int} (h : SeenB w b u S) (i : Nat) : w.frozen? ⟨b, i, none⟩ = false := by
  obtain ⟨cur, h1, -⟩ := h
  exact frozen_of_row w b i _ _ h1
theorem SeenB.keep {w w' : World} {b u : Nat} {S : List Int} (h : SeenB w b u S) (hk : w'.heap[b]? = w.heap[b]?) : SeenB w' b u S := by
  obtain ⟨cur, h1, h2⟩ := h
  exact ⟨cur, hk.trans h1, h2⟩
theorem SeenB.mark {w : World} {b u : Nat} {S : List Int} (h : SeenB w b u S) {i : Nat} (hi : i ≤ u) : SeenB (w.setCell ⟨b, i, none⟩ (.bool true)) b u ((i : Int) :: S) := by
  obtain ⟨cur, h1, h2, h3⟩ := h
  refine ⟨_, heap_set h1, by simpa using h2, fun j hj => ?_⟩
  rw [Array.getElem?_setIfInBounds]
  by_cases e : i = j
  · subst e
    rw [if_pos rfl, if_pos (by omega)]
    simp
  · rw [if_neg e, h3 j hj]
    have : ¬ ((j : Int) = (i : Int)) := by omega
    simp [this]

/-- What the reference's row leaves. -/
def RefRowPost (b u : Nat) (R : Bool × List Int × List Int) (w : World) (e : Ending) (w' : World) : Prop :=
  ∃ v, e = .returned (.tuple #[v, .bool R.1]) ∧ OwnsI w' w.heap.size v R.2.1 ∧ SeenB w' b u R.2.2 ∧ Marks u R.2.2 ∧ w.grownBy w' (some b)

set_option maxRecDepth 100000 in
set_option maxHeartbeats 4000000 in
theorem refrow_calls (w : World) (B b u c : Nat) (most p : Int) (a : Value) (cs S : List Int) (f : Nat) (ha : Reads w B a cs) (hB : B ≤ b) (hs : SeenB w b u S) (hmk : Marks u S) (hlen : (cs.length : Int) = 2 * most + 3) (hu : (u : Int) ≤ most ∧ most ≤ 16) (_hcc : u + 1 ≤ c)
    (hp : -9223372036854775808 ≤ p ∧ p ≤ 9223372036854775807) (hf : S.length + f = 17) :
    Calls Try.prog 30 #[a, .int .i64 p, .int .i64 (u : Int), .slice (some ⟨b, 0, none⟩) (u + 1) c] w (RefRowPost b u (rowF cs u f p S []) w) := by
  obtain ⟨hxl, hxr, a, ca, rfl, hca, hcs⟩ := ha
  obtain ⟨hu1, hm16⟩ := hu
  have hu0 : (0 : Int) ≤ (u : Int) := by omega
  rcases hcs with h | ⟨ba, oa, rfl, hba, hcell⟩
  · rw [h] at hlen; simp at hlen; omega
  have hbl := hs.lt
  have HC := Lib.hid hcell
  have HXR := Lib.hid hxr
  have HS := Lib.hid hs
  have HM := Lib.hid hmk
  obtain ⟨i0, yi, yz0, yz1, yz2⟩ := info_parts infoInt
  generalize hR : rowF cs u f p S [] = R
  have HR := Lib.hid hR
  obtain ⟨R0, R1, R2⟩ := R
  have hne : ba ≠ b := by omega
  clear hcell hxr hs hmk hR
  go_enter Try.func30, Try.ntmps30
  go_wp2
  go_loopg [1, 10] (f + 1) (fun nn v1 v10 wr => ∃ (g : Nat) (q : Int) (S' l : List Int), v1 = .int .i64 q ∧ nn = g + 1 ∧ S'.length + g = 17 ∧ l.length + g ≤ 17 ∧ rowF cs u g q S' l = (R0, R1, R2) ∧ SeenB wr b u S' ∧ Marks u S' ∧ OwnsI wr w.heap.size v10 l ∧
    (-9223372036854775808 ≤ q ∧ q ≤ 9223372036854775807) ∧ w.grownBy wr (some b))
  case atStart => exact ⟨f, p, S, [], rfl, rfl, hf, by simp; omega, HR.out, HS.out, HM.out, ownsI_nil _ _, hp, grown_refl _ _⟩
  case round =>
    clear HR HS HM hp hf
    obtain ⟨g, q, S', l, rfl, hnn, hg, hlg, hrow, hs, hmk, how, hq, hgr⟩ := hrel
    have HN := Lib.hid hnn
    have HRW := Lib.hid hrow
    have HS := Lib.hid hs
    have HM := Lib.hid hmk
    obtain ⟨av, an, ac, rfl⟩ := how.form
    have HO := Lib.hid how
    have HG := Lib.hid hgr
    have hz := hgr.size
    clear hnn hrow hs hmk hgr
    by_cases h0 : q = 0
    · subst h0
      have HE := Lib.hid (HRW.out.symm.trans rowF_zero)
      go_wp2
      go_ret2
      have h := HE.out
      injection h with e1 h
      injection h with e2 e3
      subst e1 e2 e3
      exact ⟨_, rfl, HO.out, HS.out, HM.out, HG.out⟩
    · have h0' : (q != 0) = true := by simpa using h0
      by_cases hl : leadsP (u : Int) q
      · obtain ⟨nq, rfl⟩ := Int.eq_ofNat_of_zero_le (show 0 ≤ q by unfold leadsP at hl; omega)
        have hnq : nq ≤ u := by have := hl.2; omega
        have hnq0 : ¬ ((nq : Int) = 0) := h0
        have hnql : (nq : Int) < (u : Int) + 1 := by omega
        have hcb := HS.out.cell hnq
        by_cases hin : (nq : Int) ∈ S'
        · rw [decide_eq_true hin] at hcb
          have HE := Lib.hid (HRW.out.symm.trans (rowF_bad h0 (fun h => h.2 hin)))
          clear hin h0
          go_wp2_with fail
          refine (rleads_t hl).mono ?_
          rintro e w' ⟨rfl, rfl⟩
          go_wp2
          go_ret2
          have h := HE.out
          injection h with e1 h
          injection h with e2 e3
          subst e1 e2 e3
          exact ⟨_, rfl, ownsI_nil _ _, HS.out, HM.out, HG.out⟩
        · rw [decide_eq_false hin] at hcb
          have hml := marks_len u S' HM.out
          obtain ⟨g', rfl⟩ : ∃ g', g = g' + 1 := ⟨g - 1, by omega⟩
          have HE := Lib.hid ((rowF_on h0 hl hin).symm.trans HRW.out)
          have HM1 := Lib.hid (HM.out.cons hl hin)
          have HS1 := Lib.hid (HS.out.mark hnq)
          have hfz := HS.out.frozen nq
          obtain ⟨w1, hw1⟩ : ∃ w1, w1 = wr.setCell ⟨b, nq, none⟩ (.bool true) := ⟨_, rfl⟩
          have hg1 : wr.grownBy w1 (some b) := by rw [hw1]; exact grown_set (grown_refl _ _) _
          have HG1 := Lib.hid (grown_tr HG.out hg1)
          have hown : w1.ownsRow w.heap.size 3 1 (.slice av an ac) l.length (l.map (Value.int .i64)) := HO.out.kept hg1 (.inr fun e => by
            have := (HO.out.lt b e).1
            omega)
          rw [← hw1] at HS1
          have hz1 := hg1.size
          obtain ⟨j, hj⟩ : ∃ j : Nat, linkI (nq : Int) = j := Int.eq_ofNat_of_zero_le (by unfold linkI; omega)
          have hjl : j < cs.length := by unfold linkI at hj; omega
          have hjl' : (j : Int) < (cs.length : Int) := by omega
          have hlc := fun W => rlink_calls W (nq : Int) (by omega) (by omega)
          rw [hj] at hlc
          have HLC := Lib.hid hlc
          rw [hj, Int.toNat_natCast] at HE
          have hlo := hown.lt
          subst hw1
          clear hin h0 hlc hj
          go_wp2_with fail
          refine (rleads_t hl).mono ?_
          rintro e w' ⟨rfl, rfl⟩
          go_wp2_with (at_builtin; refine wpList_append_own _ rfl _ _ 62 rfl w.heap.size 3 i0 (.int .i64 0) 1 8 Try.underlying62 yi yz0 yz1 yz2 rfl (by decide) _ _ _ rfl (hown.alloc _) ⟨wr.heap.size, 0, none⟩ 1 1 [.int .i64 (nq : Int)] rfl rfl ?c1 ?c2 ?c3 ?c4 ?c5 ?_)
          case c1 =>
            intro k u' hk
            match k, hk with
            | 0, hk =>
              simp at hk
              subst hk
              exact (cell_of_row _ wr.heap.size 0 _ _ _ (heap_new (by simp))).trans rfl
          case c2 => intro u' hu'; simp at hu'; subst hu'; rfl
          case c3 => unfold maxLen; omega
          case c4 => omega
          case c5 => simp; omega
          intro v' w5 hown' hgrow _
          have hg5 : w.grownBy w5 (some b) := grown_own HG1.out hgrow (fun r hr => (hlo r hr).1)
          have HS5 : Hid (SeenB w5 b u ((nq : Int) :: S')) := HS1.out.keep ((hgrow.block b (by simp; omega) (fun e => by have := (hlo b e.symm).1; omega)).trans (Below.heap_alloc _ _ _ (by simp; omega)))
          have HO5 : Hid (OwnsI w5 w.heap.size v' (l ++ [(nq : Int)])) := by
            unfold Hid OwnsI
            rw [List.map_append, List.length_append]
            exact hown'
          have cj : w5.cell? ⟨ba, oa + j, none⟩ = some (.int .i64 (cs.getD j 0)) := (hg5.cell_far ⟨ba, oa + j, none⟩ (by simp; omega) (by simpa using hne)).trans (HC.out j hjl)
          have hjr : -9223372036854775808 ≤ cs.getD j 0 ∧ cs.getD j 0 ≤ 9223372036854775807 := HXR.out _ (by simp [List.getD_eq_getElem?_getD, hjl])
          generalize cs.getD j 0 = q2 at *
          have hz5 := hg5.size
          have HG5 := Lib.hid hg5
          clear hgrow hown hown' hg5 hlo
          go_wp2_with fail
          refine (HLC.out _).mono ?_
          rintro e w6 ⟨rfl, rfl⟩
          go_wp2
          go_roundg (g' + 1)
          case measure => have := HN.out; omega
          case rel => exact ⟨g', q2, (nq : Int) :: S', l ++ [(nq : Int)], rfl, rfl, by simp; omega, by simp; omega, HE.out, HS5.out, HM1.out, HO5.out, hjr, HG5.out⟩
      · have HE := Lib.hid (HRW.out.symm.trans (rowF_bad h0 (fun h => hl h.1)))
        clear h0
        go_wp2_with fail
        refine (rleads_f hl).mono ?_
        rintro e w' ⟨rfl, rfl⟩
        go_wp2
        go_ret2
        have h := HE.out
        injection h with e1 h
        injection h with e2 e3
        subst e1 e2 e3
        exact ⟨_, rfl, ownsI_nil _ _, HS.out, HM.out, HG.out⟩

end Go.Proofs.Ytihlbhlagpmbjaa
