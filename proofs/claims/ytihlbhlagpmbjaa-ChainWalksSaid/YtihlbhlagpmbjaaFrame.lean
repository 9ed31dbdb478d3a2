/- How the laws' arguments are opened: a number, a slice of numbers, an Asked; and that what was read reads behind the call as before. -/
import Derived.Test.YtihlbhlagpmbjaaBase
import Derived.Test.YtihlbhlagpmbjaaProg
import Derived.ProofKit
import Derived.KernelRfl
import Derived.SizedLaws
import Derived.Deep.Fields
import Derived.OpenShut
namespace Go.Proofs.Ytihlbhlagpmbjaa
open Go.RowKit Go.ChangeShapes Go.WideShapes Go.Deep Go.ChangeAt

section
variable {H : Type} {enc : TypeId × Value → H} {P : Program} {w : World}

/-- What was read takes no more memory than the form's reach. -/
def Fits (P : Program) (t : TypeId) (d : DataW H) : Prop := ∀ n ∈ d.weights P t, n ≤ reachBytes
theorem fits_each {ts : List TypeId} {ds : List (DataW H)} (h : (DataW.weightsEach P ts ds).all (· ≤ reachBytes) = true) {j : Nat} {t : TypeId} {d : DataW H} (ht : ts[j]? = some t) (hd : ds[j]? = some d) : Fits P t d :=
  fun n hn => by simpa using List.all_eq_true.1 h n (DataW.weights_mem_each ht hd n hn)
theorem fits_struct {t : TypeId} {fs : Array Field} {parts : List (DataW H)} (hs : P.underlying t = some (.struct fs)) (h : Fits P t (.agg parts)) {j : Nat} {u : TypeId} {d : DataW H}
    (ht : (fs.toList.map (·.type))[j]? = some u) (hd : parts[j]? = some d) : Fits P u d := by
  intro n hn
  apply h n
  simp only [DataW.weights, hs]
  exact DataW.weights_mem_each ht hd n hn
theorem weights_mem_all {e : TypeId} : ∀ {l : List (DataW H)} {i : Nat} {d : DataW H}, l[i]? = some d → ∀ n ∈ d.weights P e, n ∈ DataW.weightsAll P e l
  | [], _, _, h, _, _ => by simp at h
  | x :: l, 0, d, h, n, hn => by
    simp at h
    subst h
    simp only [DataW.weightsAll, List.mem_append]
    exact .inl hn
  | x :: l, i + 1, d, h, n, hn => by
    simp only [DataW.weightsAll, List.mem_append]
    exact .inr (weights_mem_all (by simpa using h) n hn)
theorem fits_elem {t e : TypeId} {elems spare : List (DataW H)} (hs : P.underlying t = some (.slice e)) (h : Fits P t (.slice elems spare)) {i : Nat} {d : DataW H} (hd : elems[i]? = some d) : Fits P e d := by
  intro n hn
  apply h n
  simp only [DataW.weights, hs, List.mem_cons, List.mem_append]
  exact .inr (.inl (weights_mem_all hd n hn))
theorem fits_len {t e : TypeId} {elems spare : List (DataW H)} (hs : P.underlying t = some (.slice e)) (h : Fits P t (.slice elems spare)) : (elems.length + spare.length) * P.bytesOf e ≤ reachBytes :=
  h _ (by simp [DataW.weights, hs])

theorem reads_of_trod {t e : TypeId} {fuel : Nat} {v : Value} {y : DataW H × List MemPlace} (ht : P.underlying t = some (.slice e)) (he : P.underlying e = some (.int .i64)) (hc : P.cellsOf e = 1) (hb : P.bytesOf e = 8)
    (h : DataW.trod enc P w 0 (fun _ => true) true fuel t [v] = some y) (hf : Fits P t y.1) : ∃ xs, Reads w w.heap.size v xs := by
  rcases open_ints ht he hc h with ⟨hcs, hx⟩ | ⟨a, len, cap, zs, hcs, _, hl, hm, hz, hx, hcell, hwz⟩
  · simp at hcs
    subst hcs
    exact ⟨[], reads_nil _ _⟩
  · simp at hcs
    subst hcs
    simp at hz
    subst hx
    have hlen := fits_len ht hf
    rw [hb] at hlen
    simp only [lits, List.length_map, List.length_take, List.length_drop, reachBytes] at hlen
    have hlz : (zs.take len).length = len := by rw [List.length_take]; omega
    refine ⟨zs.take len, by omega, ?_, some a, cap, by rw [hlz], by omega, ?_⟩
    · intro x hx
      have hb := hwz x (List.mem_of_mem_take hx)
      have := bounds_i64 hb
      omega
    · by_cases h0 : len = 0
      · left
        subst h0
        simp
      · right
        have hc0 := hcell 0 (by omega)
        obtain ⟨b, off, spot⟩ := a
        have hspot : spot = none := by simpa [Addr.add] using World.cell?_spot hc0
        subst hspot
        refine ⟨b, off, rfl, by simpa [Addr.add] using World.block_lt_of_cell? w _ hc0, fun i hi => ?_⟩
        have hci := hcell i (by omega)
        have hadd : (⟨b, off, none⟩ : Addr).add i = ⟨b, off + i, none⟩ := by unfold Addr.add; split <;> simp_all
        rw [hadd] at hci
        rw [hci]
        congr 2
        simp only [List.getD_eq_getElem?_getD, List.getElem?_take]
        rw [if_pos (by omega)]

theorem open_agg5 {r : Reach} {base b0 : Nat} {spare : Nat → Bool} {held : Bool} {t : TypeId} {f0 f1 f2 f3 f4 : Field} {v : Value} {d : DataW H} {p : List MemPlace} (hs : P.underlying t = some (.struct #[f0, f1, f2, f3, f4])) (hone : oneCellFields P #[f0, f1, f2, f3, f4] = true) (hC : P.cellsOf t = 5)
    (hv : Value.okWide P w r b0 t v) (h : DataW.Trod enc P w base spare held t v d p) :
    ∃ (v0 v1 v2 v3 v4 : Value) (y0 y1 y2 y3 y4 : DataW H × List MemPlace) (n : Nat), v = .agg #[v0, v1, v2, v3, v4] ∧ d = .agg [y0.1, y1.1, y2.1, y3.1, y4.1] ∧
      DataW.trod enc P w base spare held n f0.type [v0] = some y0 ∧ DataW.trod enc P w base spare held n f1.type [v1] = some y1 ∧ DataW.trod enc P w base spare held n f2.type [v2] = some y2 ∧ DataW.trod enc P w base spare held n f3.type [v3] = some y3 ∧ DataW.trod enc P w base spare held n f4.type [v4] = some y4 := by
  obtain ⟨cs, rfl, hsz⟩ := okWide_struct hs hv
  obtain ⟨l⟩ := cs
  match l, hsz.trans hC with
  | [c0, c1, c2, c3, c4], _ =>
    obtain ⟨fuel, hf⟩ := h
    obtain ⟨xs, n, _, hx, _, hlen, hg⟩ := DataW.trod_struct hs hf
    obtain ⟨o0, k0⟩ := hone_of hone 0 f0 rfl
    obtain ⟨o1, k1⟩ := hone_of hone 1 f1 rfl
    obtain ⟨o2, k2⟩ := hone_of hone 2 f2 rfl
    obtain ⟨o3, k3⟩ := hone_of hone 3 f3 rfl
    obtain ⟨o4, k4⟩ := hone_of hone 4 f4 rfl
    match xs, hlen with
    | [y0, y1, y2, y3, y4], _ =>
      simp only [Prod.mk.injEq] at hx
      exact ⟨c0, c1, c2, c3, c4, y0, y1, y2, y3, y4, n, rfl, by simpa using hx.1, by simpa [Value.cells, o0, k0] using hg 0 f0 rfl, by simpa [Value.cells, o1, k1] using hg 1 f1 rfl, by simpa [Value.cells, o2, k2] using hg 2 f2 rfl, by simpa [Value.cells, o3, k3] using hg 3 f3 rfl, by simpa [Value.cells, o4, k4] using hg 4 f4 rfl⟩
end

theorem own : ownKnob Try.prog.godebug = none := by kernel_rfl
theorem laidOut : laidOutB Try.prog = true := by kernel_rfl
theorem cellsI64 : Try.prog.cellsOf 2 = 1 := by kernel_rfl
theorem bytesI64 : Try.prog.bytesOf 2 = 8 := by kernel_rfl

/-- A value of Asked that came in. -/
def asked (base most call : Int) (av wv : Value) : Value := .agg #[.int .i64 base, .int .i64 most, .int .i64 call, av, wv]

theorem open_asked {H : Type} {enc : TypeId × Value → H} {w : World} {r : Reach} {b0 : Nat} {v : Value} {d : DataW H} {p : List MemPlace}
    (hv : Value.okWide Try.prog w r b0 36 v) (h : DataW.Trod enc Try.prog w 0 (fun _ => true) true 36 v d p) (hf : Fits Try.prog 36 d) :
    ∃ base most call av wv xs ws, v = asked base most call av wv ∧ Reads w w.heap.size av xs ∧ Reads w w.heap.size wv ws := by
  obtain ⟨v0, v1, v2, v3, v4, y0, y1, y2, y3, y4, n, rfl, rfl, h0, h1, h2, h3, h4⟩ := open_agg5 Try.underlying36 (by kernel_rfl) (by kernel_rfl) hv h
  obtain ⟨base, e0, _, _⟩ := DataW.trod_int Try.underlying3 h0
  obtain ⟨most, e1, _, _⟩ := DataW.trod_int Try.underlying3 h1
  obtain ⟨call, e2, _, _⟩ := DataW.trod_int Try.underlying3 h2
  obtain ⟨xs, hx⟩ := reads_of_trod Try.underlying24 Try.underlying2 cellsI64 bytesI64 h3 (fits_struct Try.underlying36 hf (j := 3) rfl rfl)
  obtain ⟨ws, hw⟩ := reads_of_trod Try.underlying24 Try.underlying2 cellsI64 bytesI64 h4 (fits_struct Try.underlying36 hf (j := 4) rfl rfl)
  simp at e0 e1 e2
  subst e0 e1 e2
  exact ⟨base, most, call, v3, v4, xs, ws, rfl, hx, hw⟩

theorem open_nums {H : Type} {enc : TypeId × Value → H} {w : World} {r : Reach} {b0 : Nat} {v : Value} {fuel : Nat} {y : DataW H × List MemPlace}
    (hv : Value.okWide Try.prog w r b0 24 v) (h : DataW.trod enc Try.prog w 0 (fun _ => true) true fuel 24 v.cells.toList = some y) (hf : Fits Try.prog 24 y.1) : ∃ xs, Reads w w.heap.size v xs := by
  obtain ⟨a, len, cap, rfl⟩ := okWide_slice Try.underlying24 hv
  exact reads_of_trod Try.underlying24 Try.underlying2 cellsI64 bytesI64 h hf

end Go.Proofs.Ytihlbhlagpmbjaa
