/- How a law's argument of type []Call is opened. -/
import Derived.Test.YtihlbhlagpmbjaaFrame
import Derived.Deep.Slices
namespace Go.Proofs.Ytihlbhlagpmbjaa
open Go.RowKit Go.ChangeShapes Go.WideShapes Go.Deep Go.ChangeAt

/-- A call of a collection that came in: its number, its arguments' slice, what they read as. -/
structure CallS where
  call : Int
  av : Value
  xs : List Int
def noCall : CallS := ⟨0, .slice none 0 0, []⟩

/-- A slice of calls that reads as a list; its cells lie below block B. -/
def ReadsC (w : World) (B : Nat) (v : Value) (cl : List CallS) : Prop :=
  cl.length ≤ 17592186043904 ∧ ∃ (a : Option Addr) (c : Nat), v = .slice a cl.length c ∧ cl.length ≤ c ∧
    (cl = [] ∨ ∃ b off, a = some ⟨b, off, none⟩ ∧ b < B ∧ ∀ i, i < cl.length → w.cell? ⟨b, off + i * 2, none⟩ = some (.int .i64 (cl.getD i noCall).call) ∧ w.cell? ⟨b, off + i * 2 + 1, none⟩ = some (cl.getD i noCall).av ∧ Reads w B (cl.getD i noCall).av (cl.getD i noCall).xs)

theorem exists_list {α : Type} (d : α) (Q : Nat → α → Prop) : ∀ n : Nat, (∀ i, i < n → ∃ x, Q i x) → ∃ l : List α, l.length = n ∧ ∀ i, i < n → Q i (l.getD i d)
  | 0, _ => ⟨[], rfl, fun i hi => by omega⟩
  | n + 1, h => by
    obtain ⟨l, hl, hq⟩ := exists_list d Q n (fun i hi => h i (by omega))
    obtain ⟨x, hx⟩ := h n (by omega)
    refine ⟨l ++ [x], by simp [hl], fun i hi => ?_⟩
    by_cases e : i = n
    · subst e
      simpa [List.getD_eq_getElem?_getD, ← hl] using hx
    · have := hq i (by omega)
      rw [List.getD_eq_getElem?_getD, List.getElem?_append_left (by omega)]
      simpa [List.getD_eq_getElem?_getD] using this

theorem open_calls {H : Type} {enc : TypeId × Value → H} {w : World} {r : Reach} {b0 : Nat} {v : Value} {d : DataW H} {p : List MemPlace}
    (hv : Value.okWide Try.prog w r b0 53 v) (h : DataW.Trod enc Try.prog w 0 (fun _ => true) true 53 v d p) (hf : Fits Try.prog 53 d) : ∃ cl, ReadsC w w.heap.size v cl := by
  obtain ⟨a0, len0, cap0, rfl⟩ := okWide_slice Try.underlying53 hv
  obtain ⟨fuel, h⟩ := h
  rcases open_slice Try.underlying53 h with ⟨h0, hx⟩ | ⟨a, len, cap, m, n, D, Pl, hcs, _, hl, hm, hmm, hx, hi⟩
  · simp [Value.cells] at h0
    obtain ⟨rfl, rfl, rfl⟩ := h0
    exact ⟨[], by simp, none, 0, rfl, by simp, .inl rfl⟩
  · simp [Value.cells] at hcs
    obtain ⟨rfl, rfl, rfl⟩ := hcs
    injection hx with hd _
    subst hd
    have hlen := fits_len Try.underlying53 hf
    rw [show Try.prog.bytesOf 55 = 32 by kernel_rfl] at hlen
    simp only [List.length_map, List.length_range, reachBytes] at hlen
    simp at hmm
    have hz : ∀ i, i < len0 → ∃ x : CallS, w.cell? (a.add (i * 2)) = some (.int .i64 x.call) ∧ w.cell? (a.add (i * 2 + 1)) = some x.av ∧ Reads w w.heap.size x.av x.xs := by
      intro i hil
      obtain ⟨cs', hc, ht'⟩ := hi i (by omega)
      rw [show Try.prog.cellsOf 55 = 2 by kernel_rfl] at hc
      have hfi : Fits Try.prog 55 (D i) := fits_elem Try.underlying53 hf (i := i) (by simp [hil])
      obtain ⟨ys, n', _, hyx, hcl, hyl, hg⟩ := DataW.trod_struct Try.underlying55 ht'
      obtain ⟨_, hcl2, hat⟩ := World.cells?_some hc
      match cs', hcl2 with
      | [c0, c1], _ =>
        match ys, hyl with
        | [y0, y1], _ =>
          have g0 : DataW.trod enc Try.prog w 0 (fun _ => true) true n' 3 (([c0, c1].drop 0).take (Try.prog.cellsOf 3)) = [y0, y1][0]? := hg 0 _ rfl
          have g1 : DataW.trod enc Try.prog w 0 (fun _ => true) true n' 24 (([c0, c1].drop 1).take (Try.prog.cellsOf 24)) = [y0, y1][1]? := hg 1 _ rfl
          rw [show Try.prog.cellsOf 3 = 1 by kernel_rfl] at g0
          rw [show Try.prog.cellsOf 24 = 1 by kernel_rfl] at g1
          simp only [Prod.mk.injEq] at hyx
          rw [hyx.1] at hfi
          obtain ⟨z0, e0, _, _⟩ := DataW.trod_int Try.underlying3 (show DataW.trod enc Try.prog w 0 (fun _ => true) true n' 3 [c0] = some y0 by simpa using g0)
          obtain ⟨xs, hxs⟩ := reads_of_trod Try.underlying24 Try.underlying2 cellsI64 bytesI64 (show DataW.trod enc Try.prog w 0 (fun _ => true) true n' 24 [c1] = some y1 by simpa using g1) (fits_struct Try.underlying55 hfi (j := 1) rfl rfl)
          simp at e0
          have a0 := hat 0 (by omega)
          have a1 := hat 1 (by omega)
          rw [Go.Deep.add_add] at a0 a1
          exact ⟨⟨z0, c1, xs⟩, by simpa [e0] using a0, by simpa using a1, hxs⟩
    obtain ⟨cl, hcl, hq⟩ := exists_list noCall _ len0 hz
    refine ⟨cl, by omega, some a, cap0, by rw [hcl], by omega, ?_⟩
    by_cases h0 : len0 = 0
    · left
      exact List.eq_nil_of_length_eq_zero (by omega)
    · right
      have hc0 := (hq 0 (by omega)).1
      obtain ⟨b, off, spot⟩ := a
      have hspot : spot = none := by simpa [Addr.add] using World.cell?_spot hc0
      subst hspot
      refine ⟨b, off, rfl, by simpa [Addr.add] using World.block_lt_of_cell? w _ hc0, fun i hi' => ?_⟩
      have hci := hq i (by omega)
      have hadd : ∀ j, (⟨b, off, none⟩ : Addr).add j = ⟨b, off + j, none⟩ := fun j => by unfold Addr.add; split <;> simp_all
      rw [hadd, hadd] at hci
      exact ⟨hci.1, by rw [Nat.add_assoc]; exact hci.2.1, hci.2.2⟩

end Go.Proofs.Ytihlbhlagpmbjaa
