/- Contracts of SameNumbers and numbers. -/
import Derived.Test.YtihlbhlagpmbjaaProg
import Derived.Test.YtihlbhlagpmbjaaBase
import Derived.KernelRfl
import Derived.BigQuiet
import Derived.Deep.QuietTactic
import Derived.Lib.Hide
namespace Go.Proofs.Ytihlbhlagpmbjaa
open Go.RowKit

theorem below_drewN (w : World) (n : Nat) : Below w.heap.size w (w.drewN n) := ⟨rfl, rfl, rfl, Nat.le_refl _, fun _ _ => rfl⟩

set_option maxHeartbeats 400000 in
theorem SameNumbers_calls (w : World) (B : Nat) (a b : Value) (xs ys : List Int) (ha : Reads w B a xs) (hb : Reads w B b ys) :
    Calls Try.prog 18 #[a, b] w (Gives (.bool (decide (xs = ys))) w) := by
  obtain ⟨hxl, hxr, a, ca, rfl, hca, ha⟩ := ha
  obtain ⟨hyl, hyr, b, cb, rfl, hcb, hb⟩ := hb
  by_cases hl : xs.length = ys.length
  · have hl1 : ((xs.length : Int) != (ys.length : Int)) = false := by simp [hl]
    have HL := Lib.hid hl
    clear hl
    go_enter Try.func18, Try.ntmps18
    go_wp2
    go_loopw [5] (fun i wr => ∃ k : Nat, k ≤ xs.length ∧ i = .int .i64 k ∧ (∀ j, j < k → xs.getD j 0 = ys.getD j 0) ∧ ∃ n, wr = w.drewN n) (fun i _ => xs.length - (intOf i).toNat)
    case atStart => exact ⟨0, Nat.zero_le _, rfl, fun j hj => by omega, 0, rfl⟩
    case round =>
      obtain ⟨k, hk, rfl, heq, n, rfl⟩ := hrel
      by_cases hlt : k < xs.length
      · have hlt' : k < ys.length := by have := HL.out; omega
        rcases ha with rfl | ⟨ba, oa, rfl, hBa, hca'⟩
        · exact absurd hlt (by simp)
        rcases hb with rfl | ⟨bb, ob, rfl, hBb, hcb'⟩
        · exact absurd hlt' (by simp)
        have hx := hca' k hlt
        have hy := hcb' k hlt'
        have HE := Lib.hid heq
        clear heq hca' hcb'
        have HX : Hid (xs.getD k 0 = xs.getD k 0) := rfl
        have hne : xs.getD k 0 ≠ ys.getD k 0 → xs ≠ ys := fun h e => h (by rw [e])
        generalize hgx : xs.getD k 0 = x at *
        generalize hgy : ys.getD k 0 = y at *
        have HGX := Lib.hid hgx
        have HGY := Lib.hid hgy
        have HNE := Lib.hid hne
        clear hgx hgy hne HX
        by_cases he : x = y
        · subst he
          go_wp2
          go_quiet (fail)
          go_wp2
          go_roundw
          case rel =>
            refine ⟨k + 1, by omega, by go_num, fun j hj => ?_, _, rfl⟩
            by_cases hjk : j = k
            · subst hjk; rw [HGX.out, HGY.out]
            · exact HE.out j (by omega)
          case measure => simp [intOf]; omega
        · have he' : (x != y) = true := by simpa using he
          have hfin : decide (xs = ys) = false := decide_eq_false (HNE.out he)
          rw [hfin]
          clear he hfin
          go_wp2
          go_quiet (fail)
          go_wp2
          go_ret
          exact ⟨rfl, (below_drewN w n).trans (below_drewN (w.drewN n) _)⟩
      · have hfin : decide (xs = ys) = true := by
          have hk' : k = xs.length := by omega
          apply decide_eq_true
          apply List.ext_getElem HL.out
          intro i h1 h2
          have := heq i (by omega)
          simpa [List.getD_eq_getElem?_getD, h1, h2] using this
        have HF := Lib.hid hfin
        clear heq hfin
        go_wp2
        go_ret
        exact ⟨by rw [HF.out]; rfl, below_drewN _ _⟩
  · have hl1 : ((xs.length : Int) != (ys.length : Int)) = true := by simpa using (show (xs.length : Int) ≠ (ys.length : Int) by omega)
    have hfin : decide (xs = ys) = false := decide_eq_false (fun h => hl (by rw [h]))
    rw [hfin]
    clear hl hfin
    go_enter Try.func18, Try.ntmps18
    go_wp2
    go_ret
    exact ⟨rfl, Below.refl _ _⟩

theorem infoI64 : (Try.prog.info? 2).map (fun i => (i.zero, i.size, i.bytes)) = some (some (.int .i64 0), 1, 8) := by kernel_rfl

/-- A slice of the call's own that owns a list of numbers. -/
def Owns (w : World) (base : Nat) (v : Value) (xs : List Int) : Prop := w.ownsRow base 2 1 v xs.length (xs.map (Value.int .i64))

def CopyOf (xs : List Int) (w : World) (e : Ending) (w' : World) : Prop := ∃ v', e = .returned v' ∧ Owns w' w.heap.size v' xs ∧ Below w.heap.size w w'

theorem take_snoc' (xs : List Int) (k : Nat) (h : k < xs.length) : xs.take (k + 1) = xs.take k ++ [xs.getD k 0] := by
  rw [List.take_succ_eq_append_getElem h]
  simp [List.getD_eq_getElem?_getD, h]

set_option maxHeartbeats 400000 in
theorem numbers_calls (w : World) (B : Nat) (a : Value) (xs : List Int) (ha : Reads w B a xs) (hB : B ≤ w.heap.size) :
    Calls Try.prog 14 #[a] w (CopyOf xs w) := by
  obtain ⟨hxl, hxr, a, ca, rfl, hca, ha⟩ := ha
  obtain ⟨i0, hi, hz0, hz1, hz2⟩ := info_parts infoI64
  go_enter Try.func14, Try.ntmps14
  go_wp2
  go_loopw [3, 4] (fun v i wr => ∃ k : Nat, k ≤ xs.length ∧ i = .int .i64 k ∧ wr.ownsRow w.heap.size 2 1 v k ((xs.take k).map (Value.int .i64)) ∧ Below w.heap.size w wr) (fun _ i _ => xs.length - (intOf i).toNat)
  case atStart => exact ⟨0, Nat.zero_le _, rfl, World.ownsRow_nil _ _ _ _, Below.refl _ _⟩
  case round =>
    obtain ⟨k, hk, rfl, hown, hbel⟩ := hrel
    by_cases hlt : k < xs.length
    · rcases ha with rfl | ⟨ba, oa, rfl, hBa, hca'⟩
      · exact absurd hlt (by simp)
      have hx : wr.cell? ⟨ba, oa + k, none⟩ = some (.int .i64 (xs.getD k 0)) := (hbel.cell (p := ⟨ba, oa + k, none⟩) (by simp; omega)).trans (hca' k hlt)
      have htk := Lib.hid (take_snoc' xs k hlt)
      clear hca'
      generalize hgx : xs.getD k 0 = x at *
      clear hgx
      have hsz := hbel.size
      go_wp2_with (at_builtin; refine wpList_append_own _ rfl _ _ 24 rfl w.heap.size 2 i0 (.int .i64 0) 1 8 Try.underlying24 hi hz0 hz1 hz2 rfl (by decide) _ _ _ rfl (hown.alloc _) ⟨wr.heap.size, 0, none⟩ 1 1 [.int .i64 x] rfl rfl ?c1 ?c2 ?c3 ?c4 ?c5 ?_)
      case c1 =>
        intro j u hj
        match j, hj with
        | 0, hj => simp at hj; subst hj; simp [Addr.add]
      case c2 => intro u hu; simp at hu; subst hu; rfl
      case c3 => unfold maxLen; omega
      case c4 => omega
      case c5 => simp; omega
      intro v' w1 hown' hgrow _
      have hb1 : Below w.heap.size w w1 := (hbel.alloc (by omega) _).grown hgrow (by simp; omega) (fun r hr => (hown.lt r hr).1)
      have hl : List.take k (xs.map (Value.int .i64)) ++ [Value.int .i64 x] = (xs.take (k + 1)).map (Value.int .i64) := by rw [htk.out]; simp [List.map_take]
      rw [hl] at hown'
      clear hl hgrow hown
      go_wp2
      go_roundw
      case rel => exact ⟨k + 1, by omega, by go_num, hown', hb1⟩
      case measure => simp [intOf]; omega
    · have hk' : k = xs.length := by omega
      have HK := Lib.hid hk'
      clear hk'
      go_wp2
      go_ret
      refine ⟨_, rfl, ?_, hbel⟩
      have h := HK.out
      subst h
      rw [List.take_length] at hown
      exact hown

/-- What owns reads. -/
theorem Owns.reads {w : World} {base : Nat} {v : Value} {xs : List Int} (h : Owns w base v xs) (hl : xs.length ≤ 17592186043904) (hr : ∀ x ∈ xs, -9223372036854775808 ≤ x ∧ x ≤ 9223372036854775807) :
    Reads w w.heap.size v xs := by
  refine ⟨hl, hr, ?_⟩
  rcases h.2 with ⟨rfl, hn⟩ | ⟨g, cap, cur, rfl, hbg, hg, hnc, _, hcs, htake⟩
  · exact ⟨none, 0, by rw [hn], by omega, .inl (List.eq_nil_of_length_eq_zero hn)⟩
  · refine ⟨some ⟨g, 0, none⟩, cap, rfl, hnc, .inr ⟨g, 0, rfl, (Array.getElem?_eq_some_iff.1 hg).1, fun i hi => ?_⟩⟩
    have hc := h.cells (g := g) rfl i (.int .i64 (xs.getD i 0)) (by simp [hi])
    have hadd : (⟨g, 0, none⟩ : Addr).add i = ⟨g, 0 + i, none⟩ := by unfold Addr.add; split <;> simp_all
    rwa [hadd] at hc

end Go.Proofs.Ytihlbhlagpmbjaa
