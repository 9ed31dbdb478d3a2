/- The counter's machine goes as the chapter says: plain reckoning, no program in sight. -/
import Derived.Test.YtojenaghbfidlaaWants
namespace Go.Proofs.Ytojenaghbfidlaa
open Go.RowKit

def In64 (v : Int) : Prop := -9223372036854775808 ≤ v ∧ v ≤ 9223372036854775807
theorem wrap_in {v : Int} (h : In64 v) : wrap64 v = v := by
  unfold In64 at h
  unfold wrap64
  omega

/-- The state of the machine, beside what was read and how many writes were told. -/
def Sim (base most call : Int) (xs : List Int) (st : MS) (read : List Int) (writes : Int) (last : WantS) : Prop :=
  Askable base most call xs ∧
  ((xs.getD 0 0 < 0 ∨ most ≤ xs.getD 0 0) ∧ st = ⟨0, false, 0, 3, ⟨6, 0, 0, 1⟩⟩ ∧ read = [] ∧ writes = 0 ∧ (last = w0 ∨ last = endS 0 1) ∨
   ¬ (xs.getD 0 0 < 0 ∨ most ≤ xs.getD 0 0) ∧
    (st = ⟨base + xs.getD 0 0, decide (call = 1), if call = 1 then xs.getD 1 0 else 0, 0, w0⟩ ∧ read = [] ∧ writes = 0 ∧ last = w0 ∨
     st = ⟨base + xs.getD 0 0, decide (call = 1), if call = 1 then xs.getD 1 0 else 0, 1, w0⟩ ∧ read = [] ∧ writes = 0 ∧ last = readS (base + xs.getD 0 0) ∨
     ∃ r, In64 r ∧ read = [r] ∧
      (call = 2 ∧ st = ⟨base + xs.getD 0 0, false, 0, 3, endS r 0⟩ ∧ writes = 0 ∧ last = endS r 0 ∨
       call = 1 ∧ st = ⟨base + xs.getD 0 0, true, xs.getD 1 0, 2, endS (wrap64 (r + xs.getD 1 0)) 0⟩ ∧
        (writes = 0 ∧ last = putS (base + xs.getD 0 0) (wrap64 (r + xs.getD 1 0)) ∨ writes = 1 ∧ last = endS (wrap64 (r + xs.getD 1 0)) 0))))

def simBound : Nat := 10

theorem sim_askable {base most call : Int} {xs : List Int} {st : MS} {read : List Int} {writes : Int} {last : WantS} (h : Sim base most call xs st read writes last) : Askable base most call xs := h.1

theorem sim_init {base most call : Int} {xs : List Int} (h : takesB base most (arityI call) xs.length = true) : Sim base most call xs (initM base most call xs) [] 0 w0 := by
  refine ⟨askable_of h, ?_⟩
  by_cases ho : xs.getD 0 0 < 0 ∨ most ≤ xs.getD 0 0
  · exact .inl ⟨ho, by rw [initM, if_pos ho], rfl, rfl, .inl rfl⟩
  · exact .inr ⟨ho, .inl ⟨by rw [initM, if_neg ho], rfl, rfl, rfl⟩⟩

theorem sim_kind {base most call : Int} {xs : List Int} {st : MS} {read : List Int} {writes : Int} {last : WantS} (h : Sim base most call xs st read writes last) :
    (∀ x ∈ read, In64 x) ∧ read.length ≤ simBound ∧ 0 ≤ writes ∧ writes ≤ simBound ∧ (last.kind = 6 ∨ last.kind = 2 ∨ last.kind = 3 ∨ last.kind = 0 ∧ last = w0 ∧ read = [] ∧ writes = 0) := by
  obtain ⟨-, h⟩ := h
  rcases h with ⟨-, -, rfl, rfl, rfl | rfl⟩ | ⟨-, ⟨-, rfl, rfl, rfl⟩ | ⟨-, rfl, rfl, rfl⟩ | ⟨r, hr, rfl, ⟨-, -, rfl, rfl⟩ | ⟨-, -, ⟨rfl, rfl⟩ | ⟨rfl, rfl⟩⟩⟩⟩
  all_goals simp [simBound, w0, endS, readS, putS]
  all_goals assumption

def readOf (last : WantS) (read : List Int) (v : Int) : List Int := if last.kind = 2 then read ++ [v] else read
def writesOf (last : WantS) (writes : Int) : Int := if last.kind = 3 then writes + 1 else writes

theorem wants_ref {base most call : Int} {xs read : List Int} {writes : Int} {last : WantS} (h : last.kind ≠ 6) : wantsS base most call xs read writes last = refS base most call xs read writes := if_neg h

theorem sim_step {base most call : Int} {xs : List Int} {st : MS} {read : List Int} {writes : Int} {last : WantS} {v : Int} (h : Sim base most call xs st read writes last) (hv : In64 v) :
    outM st v = wantsS base most call xs (readOf last read v) (writesOf last writes) last ∧
    Sim base most call xs (stepM st v) (readOf last read v) (writesOf last writes) (wantsS base most call xs (readOf last read v) (writesOf last writes) last) ∧
    ((wantsS base most call xs (readOf last read v) (writesOf last writes) last).kind = 6 ∨ (wantsS base most call xs (readOf last read v) (writesOf last writes) last).kind = 2 ∨ (wantsS base most call xs (readOf last read v) (writesOf last writes) last).kind = 3) := by
  obtain ⟨ha, h⟩ := h
  have hcall : call = 1 ∨ call = 2 := by rcases ha.2.2.2.2 with h | h <;> simp [h.1]
  rcases h with ⟨ho, rfl, rfl, rfl, rfl | rfl⟩ | ⟨ho, ⟨rfl, rfl, rfl, rfl⟩ | ⟨rfl, rfl, rfl, rfl⟩ | ⟨r, hr, rfl, ⟨rfl, rfl, rfl, rfl⟩ | ⟨rfl, rfl, ⟨rfl, rfl⟩ | ⟨rfl, rfl⟩⟩⟩⟩
  · have e : wantsS base most call xs (readOf w0 [] v) (writesOf w0 0) w0 = endS 0 1 := by rw [wants_ref (show (0 : Int) ≠ 6 by decide)]; unfold refS; rw [if_pos ho]
    rw [e]
    refine ⟨rfl, ⟨ha, .inl ⟨ho, rfl, by simp [readOf, w0], by simp [writesOf, w0], .inr rfl⟩⟩, .inl rfl⟩
  · have e : wantsS base most call xs (readOf (endS 0 1) [] v) (writesOf (endS 0 1) 0) (endS 0 1) = endS 0 1 := rfl
    rw [e]
    exact ⟨rfl, ⟨ha, .inl ⟨ho, rfl, rfl, rfl, .inr rfl⟩⟩, .inl rfl⟩
  · have e : wantsS base most call xs (readOf w0 [] v) (writesOf w0 0) w0 = readS (base + xs.getD 0 0) := by rw [wants_ref (show (0 : Int) ≠ 6 by decide)]; unfold refS; rw [if_neg ho]; rfl
    rw [e]
    exact ⟨rfl, ⟨ha, .inr ⟨ho, .inr (.inl ⟨rfl, rfl, rfl, rfl⟩)⟩⟩, .inr (.inl rfl)⟩
  · have er : readOf (readS (base + xs.getD 0 0)) [] v = [v] := rfl
    have ew : writesOf (readS (base + xs.getD 0 0)) 0 = 0 := rfl
    rw [er, ew]
    rcases hcall with rfl | rfl
    · have e : wantsS base most 1 xs [v] 0 (readS (base + xs.getD 0 0)) = putS (base + xs.getD 0 0) (wrap64 (v + xs.getD 1 0)) := by
        rw [wants_ref (show (2 : Int) ≠ 6 by decide)]; unfold refS; rw [if_neg ho]; rfl
      rw [e]
      refine ⟨by simp [outM], ⟨ha, .inr ⟨ho, .inr (.inr ⟨v, hv, rfl, .inr ⟨rfl, by simp [stepM, endS], .inl ⟨rfl, rfl⟩⟩⟩)⟩⟩, .inr (.inr rfl)⟩
    · have e : wantsS base most 2 xs [v] 0 (readS (base + xs.getD 0 0)) = endS v 0 := by
        rw [wants_ref (show (2 : Int) ≠ 6 by decide)]; unfold refS; rw [if_neg ho]; rfl
      rw [e]
      have hw : wrap64 (v + 0) = v := by rw [Int.add_zero]; exact wrap_in hv
      refine ⟨by simp [outM, endS]; simpa using hw, ⟨ha, .inr ⟨ho, .inr (.inr ⟨v, hv, rfl, .inl ⟨rfl, ?_, rfl, rfl⟩⟩)⟩⟩, .inl rfl⟩
      simp [stepM, endS]
      simpa using hw
  · exact ⟨rfl, ⟨ha, .inr ⟨ho, .inr (.inr ⟨r, hr, rfl, .inl ⟨rfl, rfl, rfl, rfl⟩⟩)⟩⟩, .inl rfl⟩
  · have e : wantsS base most 1 xs (readOf (putS (base + xs.getD 0 0) (wrap64 (r + xs.getD 1 0))) [r] v) (writesOf (putS (base + xs.getD 0 0) (wrap64 (r + xs.getD 1 0))) 0) (putS (base + xs.getD 0 0) (wrap64 (r + xs.getD 1 0))) = endS (wrap64 (r + xs.getD 1 0)) 0 := by
      rw [wants_ref (show (3 : Int) ≠ 6 by decide)]; unfold refS; rw [if_neg ho]; rfl
    rw [e]
    exact ⟨rfl, ⟨ha, .inr ⟨ho, .inr (.inr ⟨r, hr, rfl, .inr ⟨rfl, rfl, .inr ⟨rfl, rfl⟩⟩⟩)⟩⟩, .inl rfl⟩
  · exact ⟨rfl, ⟨ha, .inr ⟨ho, .inr (.inr ⟨r, hr, rfl, .inr ⟨rfl, rfl, .inr ⟨rfl, rfl⟩⟩⟩)⟩⟩, .inl rfl⟩

theorem rep_keep {w w' : World} {p : Nat} {st : MS} {F : List Nat} (h : Rep w p st F) (hk : ∀ q ∈ F, w'.heap[q]? = w.heap[q]?) : Rep w' p st F := by
  obtain ⟨rfl, h⟩ := h
  exact ⟨rfl, (hk p (by simp)).trans h⟩
theorem rep_mem {w : World} {p : Nat} {st : MS} {F : List Nat} (h : Rep w p st F) : p ∈ F ∧ ∀ q ∈ F, q < w.heap.size := by
  obtain ⟨rfl, h⟩ := h
  exact ⟨by simp, by simpa using (Array.getElem?_eq_some_iff.1 h).1⟩

end Go.Proofs.Ytojenaghbfidlaa
