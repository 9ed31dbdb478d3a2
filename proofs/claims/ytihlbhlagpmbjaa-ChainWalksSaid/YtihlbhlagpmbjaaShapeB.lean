/- What cells say, the part that the layers share: a Shape that a call leaves, and the contract of SameShape. -/
import Derived.Test.YtihlbhlagpmbjaaSizes
import Derived.Test.YtihlbhlagpmbjaaNums
import Derived.Test.YtihlbhlagpmbjaaApp
import Derived.WalkSpells
import Derived.Deep.AppendLies
import Derived.Deep.RegionLaw
import Derived.Deep.LoopGhost
namespace Go.Proofs.Ytihlbhlagpmbjaa
open Go.RowKit

theorem infoShape : (Try.prog.info? 28).map (·.size) = some 3 := by kernel_rfl

theorem Owns.form {w : World} {base : Nat} {v : Value} {xs : List Int} (h : Owns w base v xs) : ∃ a n c, v = .slice a n c := by
  rcases h.2 with ⟨rfl, _⟩ | ⟨g, cap, cur, rfl, _⟩
  · exact ⟨_, _, _, rfl⟩
  · exact ⟨_, _, _, rfl⟩
theorem Owns.le {w : World} {base base' : Nat} {v : Value} {xs : List Int} (h : Owns w base v xs) (hb : base' ≤ base) : Owns w base' v xs :=
  ⟨h.1, h.2.elim Or.inl (fun ⟨g, cap, cur, hv, hg, r⟩ => Or.inr ⟨g, cap, cur, hv, Nat.le_trans hb hg, r⟩)⟩
theorem owns_nil (w : World) (base : Nat) : Owns w base (.slice none 0 0) [] := World.ownsRow_nil _ _ _ _

/-- What a Shape leaves. -/
def ShapePost (k : Int) (vals : List Int) (err : Int) (w : World) (e : Ending) (w' : World) : Prop :=
  ∃ a n c, e = .returned (.tuple #[.agg #[.int .i64 k, .slice a n c, .slice none 0 0], .int .i64 err]) ∧ Owns w' w.heap.size (.slice a n c) vals ∧ Below w.heap.size w w'

theorem results_shape {P : Program} {fn : Func} {p u : Tmp} {ty : TypeId} (h : fn.results = #[.cell p ty, .tmp u]) (tmps : Array Value) (w : World) (g : Nat) (t : TypeId) (cs : Array Value) (fr : Nat × Nat) (d : TypeDesc)
    (hp : tmps.getD p undef = .pointer (some ⟨g, 0, none⟩)) (hg : w.heap[g]? = some (.cells cs t fr))
    (hu : P.underlying ty = some d) (hd : (match d with | .struct _ | .array _ _ => true | _ => false) = true) (hi : (P.info? ty).map (·.size) = some cs.size) :
    (results fn tmps).run P w = .ok (.tuple #[.agg cs, tmps.getD u undef]) w := by
  rw [results_cell_tmp h]
  rw [hp]
  simp [asAddr, run_loadVar_row w g t ty cs fr d hg hu hd hi, Result.andThen]

theorem box3 {w : World} {g : Nat} {a b c : Value} {t : TypeId} (h : w.heap[g]? = some (.cells #[a, b, c] t (0, 0))) :
    (w.cell? ⟨g, 0, none⟩ = some a ∧ w.cell? ⟨g, 1, none⟩ = some b ∧ w.cell? ⟨g, 2, none⟩ = some c) ∧
    (w.frozen? ⟨g, 0, none⟩ = false ∧ w.frozen? ⟨g, 1, none⟩ = false ∧ w.frozen? ⟨g, 2, none⟩ = false) ∧ g < w.heap.size := by
  have hc := fun j => cell_of_row w g j _ _ _ h
  have hf := fun j => frozen_of_row w g j _ _ h
  refine ⟨⟨?_, ?_, ?_⟩, ⟨hf 0, hf 1, hf 2⟩, (Array.getElem?_eq_some_iff.1 h).1⟩
  · simpa using hc 0
  · simpa using hc 1
  · simpa using hc 2

/-- A slice of the call's own under stores and calls that leave its block alone. -/
theorem Owns.below {w w' : World} {base : Nat} {v : Value} {xs : List Int} (h : Owns w base v xs) (hb : Below w.heap.size w w') : Owns w' base v xs :=
  h.kept ⟨hb.os, hb.tape, hb.output, hb.size, fun k hk _ => hb.block k hk⟩ (row := none) (by cases v.ownBlock <;> simp)

set_option maxHeartbeats 2000000 in
theorem SameShape_calls (w : World) (ka kb : Int) (a b : Value) (xs ys : List Int) (ha : Reads w w.heap.size a xs) (hb : Reads w w.heap.size b ys) :
    Calls Try.prog 17 #[.agg #[.int .i64 ka, a, .slice none 0 0], .agg #[.int .i64 kb, b, .slice none 0 0]] w (Gives (.bool (decide (xs = ys ∧ ka = kb))) w) := by
  have h2 : Below w.heap.size w ((w.alloc (.cells #[.int .i64 ka, a, .slice none 0 0] 28)).alloc (.cells #[.int .i64 kb, b, .slice none 0 0] 28)) := below_alloc_of (below_alloc _ _) _
  have HA := Lib.hid (ha.below h2)
  have HB := Lib.hid (hb.below h2)
  have H2 := Lib.hid h2
  clear ha hb h2
  go_enter Try.func17, Try.ntmps17
  go_wp2_with fail
  refine (SameNumbers_calls _ _ _ _ xs ys HA.out HB.out).mono ?_
  rintro e w1 ⟨rfl, hb1⟩
  have hg1 := box_keep hb1 (heap_old (heap_new (w := w) rfl))
  have hg2 := box_keep hb1 (heap_new (n := w.heap.size + 1) (by simp))
  obtain ⟨⟨c0, c1, c2⟩, -, hz⟩ := box3 hg1
  obtain ⟨⟨d0, d1, d2⟩, -, hz2⟩ := box3 hg2
  clear hg1 hg2
  have hbel := H2.out.trans (hb1.mono (by simp; omega))
  by_cases hx : xs = ys
  · rw [decide_eq_true hx]
    by_cases hk : ka = kb
    · have hfin : decide (xs = ys ∧ ka = kb) = true := decide_eq_true ⟨hx, hk⟩
      have HF := Lib.hid hfin
      subst hk
      clear hfin hx
      go_wp2_with fail
      refine wp_loop_rounds 1 ?_
      rw [rounds_succ]
      go_wp2
      go_ret
      exact ⟨by rw [HF.out]; rfl, hbel⟩
    · have hfin : decide (xs = ys ∧ ka = kb) = false := decide_eq_false (fun h => hk h.2)
      have HF := Lib.hid hfin
      have hk' : (ka != kb) = true := by simpa using hk
      clear hfin hx hk
      go_wp2
      go_ret
      exact ⟨by rw [HF.out]; rfl, hbel⟩
  · rw [decide_eq_false hx]
    have hfin : decide (xs = ys ∧ ka = kb) = false := decide_eq_false (fun h => hx h.1)
    have HF := Lib.hid hfin
    clear hfin hx
    go_wp2
    go_ret
    exact ⟨by rw [HF.out]; rfl, hbel⟩

theorem cell_alloc_old {w : World} {o : Obj} {p : Addr} {v : Value} (h : w.cell? p = some v) : (w.alloc o).cell? p = some v := by
  rw [World.cell?_alloc_lt _ _ _ (World.block_lt_of_cell? w _ h)]; exact h
theorem frozen_alloc_old {w : World} {o : Obj} {p : Addr} {b : Bool} (h : w.frozen? p = b) (hp : p.block < w.heap.size) : (w.alloc o).frozen? p = b := by
  rw [World.frozen?_alloc_old _ _ _ (by omega)]; exact h

theorem own_keep {wr w1 : World} {O o : Obj} {v : Value} {base n q : Nat} {e : TypeId} {xs : List Value} (own : wr.ownsRow base e 1 v n xs) (hq : q < base) (ho : wr.heap[q]? = some o)
    (hgrow : (wr.drew.alloc O).grownBy w1 v.ownBlock) : w1.heap[q]? = some o := by
  have hlt : q < wr.heap.size := (Array.getElem?_eq_some_iff.1 ho).1
  rw [hgrow.block q (by simp; omega) (fun e => by have := (own.lt q e.symm).1; omega)]
  exact heap_old (w := wr.drew) ho

end Go.Proofs.Ytihlbhlagpmbjaa
