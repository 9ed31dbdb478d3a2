/- A map[int64]bool of the call's own that holds marks: what it says, and its operations. -/
import Derived.Test.YtihlbhlagpmbjaaProg
import Derived.KernelRfl
import Derived.Maps.OwnSet
import Derived.Maps.OwnOps
namespace Go.Proofs.Ytihlbhlagpmbjaa
open Go.RowKit Go.ChangeMaps

theorem lawI64 : Maps.Keyed Try.prog 2 := Maps.int_keyed Try.underlying2
theorem zeroBool (w : World) : (zeroValue 4).run Try.prog w = .ok (.bool false) w := by
  have h : Try.t4.zero = some (.bool false) := by kernel_rfl
  simp [zeroValue, h]

theorem plainElem_bool_inv {H : Type} {P : Program} {e : TypeId} (he : P.underlying e = some .bool) {v : Value} {z : DataW H × List MemPlace} (h : plainElem P e v = some z) : ∃ x, v = .bool x ∧ z = (.lit (.bool x), []) := by
  unfold plainElem at h
  rw [he] at h
  cases v <;> simp at h
  subst h
  exact ⟨_, rfl, rfl⟩

def markLit (x : Bool) : DataW Nat := .lit (.bool x)
def keyLit (v : Int) : Lit := .int .i64 v

/-- Block b is a map in which just the keys of a list are marked. -/
def Seen (w : World) (b : Nat) (S : List Int) : Prop :=
  ∃ D : DataW Nat, w.ownsMap Try.prog 2 (plainElem Try.prog 4) b S.length D ∧ Maps.size D = S.length ∧ ∀ v : Int, D.atKey (keyLit v) (markLit false) = markLit (decide (v ∈ S)) ∧ Maps.has D (keyLit v) = decide (v ∈ S)

theorem Seen.lt {w : World} {b : Nat} {S : List Int} (h : Seen w b S) : b < w.heap.size := by
  obtain ⟨D, h1, -⟩ := h
  exact h1.lt
theorem seen_made (w : World) : Seen (w.alloc (.map #[] 0)) w.heap.size [] :=
  ⟨.map [], World.ownsMap_made _ _ _ _, rfl, fun _ => ⟨rfl, rfl⟩⟩
theorem Seen.kept {w w' : World} {b : Nat} {S : List Int} {row : Option Nat} (h : Seen w b S) (hg : w.grownBy w' row) (hne : some b ≠ row) : Seen w' b S := by
  obtain ⟨D, h1, h2⟩ := h
  exact ⟨D, h1.kept hg hne, h2⟩
theorem Seen.setCell {w : World} {b : Nat} {S : List Int} (h : Seen w b S) {a : Addr} (ha : b ≠ a.block) (u : Value) : Seen (w.setCell a u) b S := by
  obtain ⟨D, h1, h2⟩ := h
  exact ⟨D, h1.setCell ha u, h2⟩

theorem wf64 {v : Int} (hv : -9223372036854775808 ≤ v ∧ v ≤ 9223372036854775807) : (Lit.int .i64 v).wf = true := by
  have h1 : IntKind.i64.min = -9223372036854775808 := by decide
  have h2 : IntKind.i64.max = 9223372036854775807 := by decide
  simp [Lit.wf, h1, h2]
  omega
theorem Seen.look {w : World} {b : Nat} {S : List Int} (h : Seen w b S) {v : Int} (hv : -9223372036854775808 ≤ v ∧ v ≤ 9223372036854775807) :
    (Instr.lookup 57 (.map (some b)) (.int .i64 v) false).run Try.prog w = .ok (.bool (decide (v ∈ S))) w := by
  obtain ⟨D, h1, h2, h3⟩ := h
  obtain ⟨z, ps, hrun, hz⟩ := h1.lookup lawI64 Try.underlying57 (zeroBool w) (plainElem_bool Try.underlying4 false) (Maps.keyOf_int_mk Try.underlying2 (wf64 hv))
  obtain ⟨x, rfl, hx⟩ := plainElem_bool_inv Try.underlying4 hz
  have := (h3 v).1
  unfold keyLit markLit at this
  rw [this] at hx
  injection hx with hx _
  injection hx with hx
  injection hx with hx
  rw [hrun, ← hx]
theorem Seen.len {w : World} {b : Nat} {S : List Int} (h : Seen w b S) (ty : TypeId) : (Builtin.len_ #[57] ty #[.map (some b)]).run Try.prog w = .ok (.int .i64 S.length) w := by
  obtain ⟨D, h1, h2, -⟩ := h
  rw [h1.len Try.underlying57 ty, h2]
theorem Seen.mark {w : World} {b : Nat} {S : List Int} (h : Seen w b S) (hn : S.length < 1000) {v : Int} (hv : -9223372036854775808 ≤ v ∧ v ≤ 9223372036854775807) (hnew : v ∉ S) :
    ∃ w', (Instr.mapUpdate 57 (.map (some b)) (.int .i64 v) (.bool true)).run Try.prog w = .ok () w' ∧ Seen w' b (v :: S) ∧ w.grownBy w' (some b) := by
  obtain ⟨D, h1, h2, h3⟩ := h
  obtain ⟨w', hrun, ho, hg⟩ := h1.update lawI64 Try.underlying57 (by unfold maxLen; omega) (Maps.keyOf_int_mk Try.underlying2 (wf64 hv)) (plainElem_bool Try.underlying4 true)
  refine ⟨w', hrun, ⟨D.put (keyLit v) (markLit true), ho, ?_, fun u => ?_⟩, hg⟩
  · rw [Maps.size_put (h1.tidy lawI64)]
    have : Maps.has D (keyLit v) = false := by rw [(h3 v).2]; simpa using hnew
    rw [this, h2]
    rfl
  · by_cases e : u = v
    · subst e
      have hk : WideAt.IsKeyLit (keyLit u) := trivial
      rw [Maps.atKey_put_same h1.isMap hk, Maps.has_put_same h1.isMap hk]
      simp
    · have hne : keyLit u ≠ keyLit v := fun h => e (by unfold keyLit at h; injection h)
      rw [Maps.atKey_put_other hne, Maps.has_put_other hne, (h3 u).1, (h3 u).2]
      simp [e]

end Go.Proofs.Ytihlbhlagpmbjaa
