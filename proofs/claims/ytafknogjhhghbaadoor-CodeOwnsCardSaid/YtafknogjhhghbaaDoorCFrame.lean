/- How the laws' arguments are opened: a string, a number, instructions, a Spot. -/
import Derived.Test.YtafknogjhhghbaaDoorCTells
import Derived.ProofKit
import Derived.SizedLaws
import Derived.Deep.Fields
import Derived.Deep.Slices
import Derived.OpenShut
namespace Go.Proofs.YtafknogjhhghbaaDoor
open Go.RowKit Go.ChangeShapes Go.WideShapes Go.Deep Go.ChangeAt

/-- A slice of pairs of numbers that reads as a list; its cells lie below block B. -/
def ReadsR (w : World) (B : Nat) (v : Value) (rs : List (Int × Int)) : Prop :=
  rs.length ≤ 8796093021952 ∧ ∃ (a : Option Addr) (c : Nat), v = .slice a rs.length c ∧ rs.length ≤ c ∧ c ≤ 9223372036854775807 ∧
    (rs = [] ∨ ∃ b off, a = some ⟨b, off, none⟩ ∧ b < B ∧ ∀ i, i < rs.length → w.cell? ⟨b, off + i * 2, none⟩ = some (.int .i64 (rs.getD i (0, 0)).1) ∧ w.cell? ⟨b, off + i * 2 + 1, none⟩ = some (.int .i64 (rs.getD i (0, 0)).2))
theorem ReadsR.below {w w' : World} {B : Nat} {v : Value} {rs : List (Int × Int)} (h : ReadsR w B v rs) (hb : Below B w w') : ReadsR w' B v rs := by
  obtain ⟨h1, a, c, rfl, hc, hm, h3⟩ := h
  refine ⟨h1, a, c, rfl, hc, hm, ?_⟩
  rcases h3 with h3 | ⟨b, off, rfl, hB, hcell⟩
  · exact .inl h3
  · exact .inr ⟨b, off, rfl, hB, fun i hi => ⟨(hb.cell (p := ⟨b, off + i * 2, none⟩) hB).trans (hcell i hi).1, (hb.cell (p := ⟨b, off + i * 2 + 1, none⟩) hB).trans (hcell i hi).2⟩⟩
theorem ReadsR.mono {w : World} {B B' : Nat} {v : Value} {rs : List (Int × Int)} (h : ReadsR w B v rs) (hb : B ≤ B') : ReadsR w B' v rs := by
  obtain ⟨h1, a, c, rfl, hc, hm, h3⟩ := h
  refine ⟨h1, a, c, rfl, hc, hm, ?_⟩
  rcases h3 with h3 | ⟨b, off, rfl, hB, hcell⟩
  · exact .inl h3
  · exact .inr ⟨b, off, rfl, by omega, hcell⟩

section
variable {H : Type} {enc : TypeId × Value → H} {P : Program} {w : World}

/-- What was read takes no more memory than the form's reach. -/
def Fits (P : Program) (t : TypeId) (d : DataW H) : Prop := ∀ n ∈ d.weights P t, n ≤ reachBytes
theorem fits_each {ts : List TypeId} {ds : List (DataW H)} (h : (DataW.weightsEach P ts ds).all (· ≤ reachBytes) = true) {j : Nat} {t : TypeId} {d : DataW H} (ht : ts[j]? = some t) (hd : ds[j]? = some d) : Fits P t d :=
  fun n hn => by simpa using List.all_eq_true.1 h n (DataW.weights_mem_each ht hd n hn)
theorem fits_struct {t : TypeId} {fs : Array Field} {parts : List (DataW H)} (hs : P.underlying t = some (.struct fs)) (h : Fits P t (.agg parts)) {j : Nat} {u : TypeId} {d : DataW H}
    (ht : (fs.toList.map (·.type))[j]? = some u) (hd : parts[j]? = some d) : Fits P u d := by
  intro n hn
  apply h n
  simp only [DataW.weights, hs]
  exact DataW.weights_mem_each ht hd n hn
theorem fits_len {t e : TypeId} {elems spare : List (DataW H)} (hs : P.underlying t = some (.slice e)) (h : Fits P t (.slice elems spare)) : (elems.length + spare.length) * P.bytesOf e ≤ reachBytes :=
  h _ (by simp [DataW.weights, hs])

theorem exists_list {α : Type} (d : α) (Q : Nat → α → Prop) : ∀ n : Nat, (∀ i, i < n → ∃ x, Q i x) → ∃ l : List α, l.length = n ∧ ∀ i, i < n → Q i (l.getD i d)
  | 0, _ => ⟨[], rfl, fun i hi => by omega⟩
  | n + 1, h => by
    obtain ⟨l, hl, hq⟩ := exists_list d Q n (fun i hi => h i (by omega))
    obtain ⟨x, hx⟩ := h n (by omega)
    refine ⟨l ++ [x], by simp [hl], fun i hi => ?_⟩
    by_cases e : i = n
    · subst e
      simpa [List.getD_eq_getElem?_getD, ← hl] using hx
    · have := hq i (by omega)
      rw [List.getD_eq_getElem?_getD, List.getElem?_append_left (by omega)]
      simpa [List.getD_eq_getElem?_getD] using this

/-- A slice of structs of two numbers reads as a list of pairs. -/
theorem open_pairs {t e : TypeId} {f0 f1 : Field} {fuel : Nat} {v : Value} {y : DataW H × List MemPlace} (ht : P.underlying t = some (.slice e)) (he : P.underlying e = some (.struct #[f0, f1]))
    (hone : oneCellFields P #[f0, f1] = true) (hC : P.cellsOf e = 2) (hby : P.bytesOf e = 16) (u0 : P.underlying f0.type = some (.int .i64)) (u1 : P.underlying f1.type = some (.int .i64))
    (h : DataW.trod enc P w 0 (fun _ => true) true fuel t [v] = some y) (hf : Fits P t y.1) :
    ∃ rs, ReadsR w w.heap.size v rs ∧ ∀ r ∈ rs, (-9223372036854775808 ≤ r.1 ∧ r.1 ≤ 9223372036854775807) ∧ (-9223372036854775808 ≤ r.2 ∧ r.2 ≤ 9223372036854775807) := by
  rcases open_slice ht h with ⟨h0, rfl⟩ | ⟨a, len, cap, m, n, D, Pl, hcs, _, hl, hm, hmm, hx, hi⟩
  · simp at h0
    subst h0
    exact ⟨[], ⟨by simp, none, 0, rfl, by simp, by omega, .inl rfl⟩, by simp⟩
  · simp at hcs
    subst hcs hx
    have hlen := fits_len ht hf
    rw [hby] at hlen
    simp only [List.length_map, List.length_range, reachBytes] at hlen
    simp at hmm
    have hz : ∀ i, i < len → ∃ r : Int × Int, (w.cell? (a.add (i * 2)) = some (.int .i64 r.1) ∧ w.cell? (a.add (i * 2 + 1)) = some (.int .i64 r.2)) ∧ (-9223372036854775808 ≤ r.1 ∧ r.1 ≤ 9223372036854775807) ∧ (-9223372036854775808 ≤ r.2 ∧ r.2 ≤ 9223372036854775807) := by
      intro i hil
      obtain ⟨cs', hc, ht'⟩ := hi i (by omega)
      rw [hC] at hc
      obtain ⟨ys, n', _, _, hcl, hyl, hg⟩ := DataW.trod_struct he ht'
      obtain ⟨_, hcl2, hat⟩ := World.cells?_some hc
      match cs', hcl2 with
      | [c0, c1], _ =>
        match ys, hyl with
        | [y0, y1], _ =>
          obtain ⟨o0, k0⟩ := hone_of hone 0 f0 rfl
          obtain ⟨o1, k1⟩ := hone_of hone 1 f1 rfl
          have g0 := hg 0 f0 rfl
          have g1 := hg 1 f1 rfl
          rw [o0, k0] at g0
          rw [o1, k1] at g1
          obtain ⟨z0, e0, _, w0⟩ := DataW.trod_int u0 (show DataW.trod enc P w 0 (fun _ => true) true n' f0.type [c0] = some y0 by simpa using g0)
          obtain ⟨z1, e1, _, w1⟩ := DataW.trod_int u1 (show DataW.trod enc P w 0 (fun _ => true) true n' f1.type [c1] = some y1 by simpa using g1)
          simp at e0 e1
          have a0 := hat 0 (by omega)
          have a1 := hat 1 (by omega)
          rw [Go.Deep.add_add] at a0 a1
          have b0 := bounds_i64 w0
          have b1 := bounds_i64 w1
          exact ⟨(z0, z1), ⟨by simpa [e0] using a0, by simpa [e1] using a1⟩, by dsimp only; omega, by dsimp only; omega⟩
    obtain ⟨rs, hrl, hq⟩ := exists_list ((0, 0) : Int × Int) _ len hz
    refine ⟨rs, ⟨by omega, some a, cap, by rw [hrl], by omega, by simp only [maxLen] at hm; omega, ?_⟩, fun r hr => ?_⟩
    · by_cases h0 : len = 0
      · left
        exact List.eq_nil_of_length_eq_zero (by omega)
      · right
        have hc0 := (hq 0 (by omega)).1.1
        obtain ⟨b, off, spot⟩ := a
        have hspot : spot = none := by simpa [Addr.add] using World.cell?_spot hc0
        subst hspot
        refine ⟨b, off, rfl, by simpa [Addr.add] using World.block_lt_of_cell? w _ hc0, fun i hi' => ?_⟩
        have hci := (hq i (by omega)).1
        have hadd : ∀ j, (⟨b, off, none⟩ : Addr).add j = ⟨b, off + j, none⟩ := fun j => by unfold Addr.add; split <;> simp_all
        rw [hadd, hadd] at hci
        exact ⟨hci.1, by rw [Nat.add_assoc]; exact hci.2⟩
    · obtain ⟨i, hi', rfl⟩ := List.getElem_of_mem hr
      have := (hq i (by omega)).2
      simpa [List.getD_eq_getElem?_getD, hi'] using this

theorem fits_str {t : TypeId} {bytes : List UInt8} (h : Fits (H := H) P t (.lit (.string bytes))) : bytes.length ≤ 140737488351232 := by
  have := h bytes.length (by simp [DataW.weights])
  simpa [reachBytes] using this

theorem open_four {r : Reach} {base b0 : Nat} {spare : Nat → Bool} {held : Bool} {t : TypeId} {f0 f1 f2 f3 : Field} {v : Value} {d : DataW H} {p : List MemPlace} (hs : P.underlying t = some (.struct #[f0, f1, f2, f3]))
    (hone : oneCellFields P #[f0, f1, f2, f3] = true) (hC : P.cellsOf t = 4) (hv : Value.okWide P w r b0 t v) (h : DataW.Trod enc P w base spare held t v d p) :
    ∃ (v0 v1 v2 v3 : Value) (y0 y1 y2 y3 : DataW H × List MemPlace) (n : Nat), v = .agg #[v0, v1, v2, v3] ∧ d = .agg [y0.1, y1.1, y2.1, y3.1] ∧
      DataW.trod enc P w base spare held n f0.type [v0] = some y0 ∧ DataW.trod enc P w base spare held n f1.type [v1] = some y1 ∧ DataW.trod enc P w base spare held n f2.type [v2] = some y2 ∧ DataW.trod enc P w base spare held n f3.type [v3] = some y3 := by
  obtain ⟨cs, rfl, hsz⟩ := okWide_struct hs hv
  obtain ⟨l⟩ := cs
  match l, hsz.trans hC with
  | [c0, c1, c2, c3], _ =>
    obtain ⟨fuel, hf⟩ := h
    obtain ⟨xs, n, _, hx, _, hlen, hg⟩ := DataW.trod_struct hs hf
    obtain ⟨o0, k0⟩ := hone_of hone 0 f0 rfl
    obtain ⟨o1, k1⟩ := hone_of hone 1 f1 rfl
    obtain ⟨o2, k2⟩ := hone_of hone 2 f2 rfl
    obtain ⟨o3, k3⟩ := hone_of hone 3 f3 rfl
    match xs, hlen with
    | [y0, y1, y2, y3], _ =>
      simp only [Prod.mk.injEq] at hx
      exact ⟨c0, c1, c2, c3, y0, y1, y2, y3, n, rfl, by simpa using hx.1, by simpa [Value.cells, o0, k0] using hg 0 f0 rfl, by simpa [Value.cells, o1, k1] using hg 1 f1 rfl, by simpa [Value.cells, o2, k2] using hg 2 f2 rfl, by simpa [Value.cells, o3, k3] using hg 3 f3 rfl⟩
end

theorem open_str {H : Type} {enc : TypeId × Value → H} {w : World} {r : Reach} {b0 : Nat} {v : Value} {d : DataW H} {p : List MemPlace}
    (hv : Value.okWide Tryd.prog w r b0 9 v) (h : DataW.Trod enc Tryd.prog w 0 (fun _ => true) true 9 v d p) (hf : Fits Tryd.prog 9 d) : ∃ s : ByteArray, v = .string s ∧ s.size ≤ 140737488351232 := by
  obtain ⟨s, rfl⟩ := okWide_string Tryd.underlying9 hv
  obtain ⟨m, hm⟩ := h
  obtain ⟨s', e0, x0, _⟩ := DataW.trod_string Tryd.underlying9 hm
  simp [Value.cells] at e0
  subst e0
  rw [show d = _ from congrArg Prod.fst x0] at hf
  exact ⟨s, rfl, by simpa using fits_str hf⟩

theorem open_ops {H : Type} {enc : TypeId × Value → H} {w : World} {r : Reach} {b0 : Nat} {v : Value} {d : DataW H} {p : List MemPlace}
    (hv : Value.okWide Tryd.prog w r b0 22 v) (h : DataW.Trod enc Tryd.prog w 0 (fun _ => true) true 22 v d p) (hf : Fits Tryd.prog 22 d) :
    ∃ rs, ReadsR w w.heap.size v rs ∧ ∀ r ∈ rs, (-9223372036854775808 ≤ r.1 ∧ r.1 ≤ 9223372036854775807) ∧ (-9223372036854775808 ≤ r.2 ∧ r.2 ≤ 9223372036854775807) := by
  obtain ⟨a, len, cap, rfl⟩ := okWide_slice Tryd.underlying22 hv
  obtain ⟨m, hm⟩ := h
  exact open_pairs Tryd.underlying22 Tryd.underlying28 (by kernel_rfl) (by kernel_rfl) (by kernel_rfl) Tryd.underlying3 Tryd.underlying2 hm hf

theorem open_spot {H : Type} {enc : TypeId × Value → H} {w : World} {r : Reach} {b0 : Nat} {v : Value} {d : DataW H} {p : List MemPlace}
    (hv : Value.okWide Tryd.prog w r b0 33 v) (h : DataW.Trod enc Tryd.prog w 0 (fun _ => true) true 33 v d p) (hf : Fits Tryd.prog 33 d) :
    ∃ (s : ByteArray) (a : Int) (x y : ByteArray), v = .agg #[.string s, .int .i64 a, .string x, .string y] ∧ s.size ≤ 140737488351232 ∧ x.size ≤ 140737488351232 ∧ y.size ≤ 140737488351232 := by
  obtain ⟨v0, v1, v2, v3, y0, y1, y2, y3, n, rfl, rfl, h0, h1, h2, h3⟩ := open_four Tryd.underlying33 (by kernel_rfl) (by kernel_rfl) hv h
  obtain ⟨s, e0, x0, _⟩ := DataW.trod_string Tryd.underlying9 h0
  obtain ⟨a, e1, _, _⟩ := DataW.trod_int Tryd.underlying3 h1
  obtain ⟨x, e2, x2, _⟩ := DataW.trod_string Tryd.underlying9 h2
  obtain ⟨y, e3, x3, _⟩ := DataW.trod_string Tryd.underlying9 h3
  have f0 := fits_struct Tryd.underlying33 hf (j := 0) rfl rfl
  have f2 := fits_struct Tryd.underlying33 hf (j := 2) rfl rfl
  have f3 := fits_struct Tryd.underlying33 hf (j := 3) rfl rfl
  rw [x0] at f0
  rw [x2] at f2
  rw [x3] at f3
  simp at e0 e1 e2 e3
  subst e0 e1 e2 e3
  exact ⟨s, a, x, y, rfl, by simpa using fits_str f0, by simpa using fits_str f2, by simpa using fits_str f3⟩

end Go.Proofs.YtafknogjhhghbaaDoor
