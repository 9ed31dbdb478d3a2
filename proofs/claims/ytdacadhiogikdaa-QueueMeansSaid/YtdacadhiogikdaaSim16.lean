/- The queue's machine goes as the chapter says: plain reckoning, no program in sight. -/
import Derived.Test.YtdacadhiogikdaaWants
namespace Go.Proofs.Ytdacadhiogikdaa
open Go.RowKit

def In64 (v : Int) : Prop := -9223372036854775808 ≤ v ∧ v ≤ 9223372036854775807
theorem wrap_in {v : Int} (h : In64 v) : wrap64 v = v := by
  unfold In64 at h
  unfold wrap64
  omega

def simBound : Nat := 10
def readOf (last : WantS) (read : List Int) (v : Int) : List Int := if last.kind = 2 then read ++ [v] else read
def writesOf (last : WantS) (writes : Int) : Int := if last.kind = 3 then writes + 1 else writes

/-- A state of the machine on its way, beside what was read, how many writes were told, and the last want. -/
inductive Way (base most call x0 : Int) : MS → List Int → Int → WantS → Prop
  | a : Way base most call x0 ⟨⟨base, most, call, x0, 0, 0⟩, 0, w0⟩ [] 0 w0
  | b : Way base most call x0 ⟨⟨base, most, call, x0, 0, 0⟩, 1, w0⟩ [] 0 (readS base)
  | c (f : Int) : In64 f → Way base most call x0 ⟨⟨base, most, call, x0, f, 0⟩, 2, w0⟩ [f] 0 (readS (base + 1))
  | p1 (f l : Int) : In64 f → In64 l → call = 3 → u64 l < most → Way base most call x0 ⟨⟨base, most, call, x0, f, l⟩, 3, w0⟩ [f, l] 0 (putS (base + 2 + behindI f (u64 l) most) x0)
  | p2 (f l : Int) : In64 f → In64 l → call = 3 → u64 l < most → Way base most call x0 ⟨⟨base, most, call, x0, f, l⟩, 4, w0⟩ [f, l] 1 (putS (base + 1) (wrap64 (l + 1)))
  | g1 (f l : Int) : In64 f → In64 l → call = 2 → l ≠ 0 → most ≠ 0 → Way base most call x0 ⟨⟨base, most, call, x0, f, l⟩, 5, w0⟩ [f, l] 0 (readS (base + 2 + behindI f 0 most))
  | g2 (f l v : Int) : In64 f → In64 l → In64 v → call = 2 → l ≠ 0 → most ≠ 0 → Way base most call x0 ⟨⟨base, most, call, v, f, l⟩, 6, w0⟩ [f, l, v] 0 (putS base (behindI f 1 most))
  | g3 (f l v : Int) : In64 f → In64 l → In64 v → call = 2 → l ≠ 0 → most ≠ 0 → Way base most call x0 ⟨⟨base, most, call, v, f, l⟩, 7, w0⟩ [f, l, v] 1 (putS (base + 1) (wrap64 (l - 1)))
  | z (st : MS) (read : List Int) (writes : Int) (e k : Int) : 8 ≤ st.ph → st.x = endS e k → (∀ x ∈ read, In64 x) → read.length ≤ simBound → 0 ≤ writes → writes ≤ simBound → Way base most call x0 st read writes (endS e k)

def Sim (base most call : Int) (xs : List Int) (st : MS) (read : List Int) (writes : Int) (last : WantS) : Prop :=
  Askable base most call xs ∧ Way base most call (xs.getD 0 0) st read writes last

theorem sim_askable {base most call : Int} {xs : List Int} {st : MS} {read : List Int} {writes : Int} {last : WantS} (h : Sim base most call xs st read writes last) : Askable base most call xs := h.1

theorem sim_init {base most call : Int} {xs : List Int} (h : takesB base most (arityI call) xs.length = true) : Sim base most call xs (initM base most call xs) [] 0 w0 :=
  ⟨askable_of h, .a⟩

theorem sim_kind {base most call : Int} {xs : List Int} {st : MS} {read : List Int} {writes : Int} {last : WantS} (h : Sim base most call xs st read writes last) :
    (∀ x ∈ read, In64 x) ∧ read.length ≤ simBound ∧ 0 ≤ writes ∧ writes ≤ simBound ∧ (last.kind = 6 ∨ last.kind = 2 ∨ last.kind = 3 ∨ last.kind = 0 ∧ last = w0 ∧ read = [] ∧ writes = 0) := by
  obtain ⟨-, h⟩ := h
  cases h with
  | z _ _ _ e k h1 h2 h3 h4 h5 h6 => exact ⟨h3, h4, h5, h6, .inl rfl⟩
  | a => simp [simBound, w0]
  | b => simp [simBound, readS]
  | c f hf => simp [simBound, readS, hf]
  | p1 f l hf hl => simp [simBound, putS, hf, hl]
  | p2 f l hf hl => simp [simBound, putS, hf, hl]
  | g1 f l hf hl => simp [simBound, readS, hf, hl]
  | g2 f l v hf hl hv => simp [simBound, putS, hf, hl, hv]
  | g3 f l v hf hl hv => simp [simBound, putS, hf, hl, hv]

theorem wants_ref {base most call : Int} {xs read : List Int} {writes : Int} {last : WantS} (h : last.kind ≠ 6) : wantsS base most call xs read writes last = refS base most call xs read writes := if_neg h

theorem go_past {m : MS} {v : Int} (h : 8 ≤ m.ph) : goM m v = (m.x, m) := by
  unfold goM
  rw [if_neg (by omega), if_neg (by omega), if_neg (by omega), if_neg (by omega), if_neg (by omega), if_neg (by omega), if_neg (by omega), if_neg (by omega)]

/-- A step from one state on the way to the next, as data. -/
theorem step_of {base most call : Int} {xs : List Int} {st m' : MS} {read read' : List Int} {writes writes' : Int} {last x : WantS} {v : Int} (ha : Askable base most call xs)
    (hr : readOf last read v = read') (hw : writesOf last writes = writes') (hg : goM st v = (x, m')) (hx : wantsS base most call xs read' writes' last = x)
    (hn : Way base most call (xs.getD 0 0) m' read' writes' x) (hk : x.kind = 6 ∨ x.kind = 2 ∨ x.kind = 3) :
    outM st v = wantsS base most call xs (readOf last read v) (writesOf last writes) last ∧
    Sim base most call xs (stepM st v) (readOf last read v) (writesOf last writes) (wantsS base most call xs (readOf last read v) (writesOf last writes) last) ∧
    ((wantsS base most call xs (readOf last read v) (writesOf last writes) last).kind = 6 ∨ (wantsS base most call xs (readOf last read v) (writesOf last writes) last).kind = 2 ∨ (wantsS base most call xs (readOf last read v) (writesOf last writes) last).kind = 3) := by
  subst hr hw
  rw [hx]
  refine ⟨by rw [outM, hg], ⟨ha, ?_⟩, hk⟩
  rw [stepM, hg]
  exact hn

theorem sim_step {base most call : Int} {xs : List Int} {st : MS} {read : List Int} {writes : Int} {last : WantS} {v : Int} (h : Sim base most call xs st read writes last) (hv : In64 v) :
    outM st v = wantsS base most call xs (readOf last read v) (writesOf last writes) last ∧
    Sim base most call xs (stepM st v) (readOf last read v) (writesOf last writes) (wantsS base most call xs (readOf last read v) (writesOf last writes) last) ∧
    ((wantsS base most call xs (readOf last read v) (writesOf last writes) last).kind = 6 ∨ (wantsS base most call xs (readOf last read v) (writesOf last writes) last).kind = 2 ∨ (wantsS base most call xs (readOf last read v) (writesOf last writes) last).kind = 3) := by
  obtain ⟨ha, h⟩ := h
  have hcall : call = 3 ∨ call = 2 ∨ call = 5 := by rcases ha.2.2.2.2 with h | h | h <;> simp [h.1]
  cases h with
  | z _ _ _ e k h1 h2 h3 h4 h5 h6 =>
    exact step_of ha (read' := read) (writes' := writes) (x := endS e k) rfl rfl (by rw [go_past h1, h2]) rfl (.z _ _ _ e k h1 h2 h3 h4 h5 h6) (.inl rfl)
  | a =>
    exact step_of ha (read' := []) (writes' := 0) rfl rfl rfl (by rw [wants_ref (show (0 : Int) ≠ 6 by decide)]; simp [refS]) .b (.inr (.inl rfl))
  | b =>
    exact step_of ha (read' := [v]) (writes' := 0) rfl rfl rfl (by rw [wants_ref (show (2 : Int) ≠ 6 by decide)]; simp [refS]) (.c v hv) (.inr (.inl rfl))
  | c f hf =>
    have hm0 : 0 ≤ most := ha.2.2.1
    by_cases h5 : call = 5
    · exact step_of ha (read' := [f, v]) (writes' := 0) (x := endS v 0) rfl rfl (by show lenM _ _ = _; simp [lenM, h5, endS]; rfl) (by rw [wants_ref (show (2 : Int) ≠ 6 by decide)]; simp [refS, h5])
        (.z _ _ _ v 0 (Nat.le_refl 8) rfl (by simp [hf, hv]) (by simp [simBound]) (by simp) (by simp [simBound])) (.inl rfl)
    · by_cases h3 : call = 3
      · by_cases hfull : most ≤ u64 v
        · exact step_of ha (read' := [f, v]) (writes' := 0) (x := endS 0 2) rfl rfl (by show lenM _ _ = _; simp [lenM, h3, hfull, endS]; rfl) (by rw [wants_ref (show (2 : Int) ≠ 6 by decide)]; simp [refS, h3, hfull])
            (.z _ _ _ 0 2 (Nat.le_refl 8) rfl (by simp [hf, hv]) (by simp [simBound]) (by simp) (by simp [simBound])) (.inl rfl)
        · exact step_of ha (read' := [f, v]) (writes' := 0) (x := putS (base + 2 + behindI f (u64 v) most) (xs.getD 0 0)) rfl rfl (by show lenM _ _ = _; simp [lenM, h3, hfull, Int.add_assoc]) (by rw [wants_ref (show (2 : Int) ≠ 6 by decide)]; simp [refS, h3, hfull])
            (.p1 f v hf hv h3 (by omega)) (.inr (.inr rfl))
      · have h2 : call = 2 := by omega
        by_cases hz : v = 0 ∨ most = 0
        · exact step_of ha (read' := [f, v]) (writes' := 0) (x := endS 0 1) rfl rfl (by show lenM _ _ = _; simp [lenM, h2, hz, endS]; rfl) (by rw [wants_ref (show (2 : Int) ≠ 6 by decide)]; simp [refS, h2, hz])
            (.z _ _ _ 0 1 (Nat.le_refl 8) rfl (by simp [hf, hv]) (by simp [simBound]) (by simp) (by simp [simBound])) (.inl rfl)
        · exact step_of ha (read' := [f, v]) (writes' := 0) (x := readS (base + 2 + behindI f 0 most)) rfl rfl (by show lenM _ _ = _; simp [lenM, h2, hz, Int.add_assoc]) (by rw [wants_ref (show (2 : Int) ≠ 6 by decide)]; simp [refS, h2, hz])
            (.g1 f v hf hv h2 (fun e => hz (.inl e)) (fun e => hz (.inr e))) (.inr (.inl rfl))
  | p1 f l hf hl h3 hlt =>
    exact step_of ha (read' := [f, l]) (writes' := 1) rfl rfl rfl (by rw [wants_ref (show (3 : Int) ≠ 6 by decide)]; simp [refS, h3, show ¬ most ≤ u64 l by omega]) (.p2 f l hf hl h3 hlt) (.inr (.inr rfl))
  | p2 f l hf hl h3 hlt =>
    exact step_of ha (read' := [f, l]) (writes' := 2) (x := endS 0 0) rfl rfl rfl (by rw [wants_ref (show (3 : Int) ≠ 6 by decide)]; simp [refS, h3, show ¬ most ≤ u64 l by omega])
      (.z _ _ _ 0 0 (Nat.le_refl 8) rfl (by simp [hf, hl]) (by simp [simBound]) (by simp) (by simp [simBound])) (.inl rfl)
  | g1 f l hf hl h2 hl0 hm0 =>
    exact step_of ha (read' := [f, l, v]) (writes' := 0) rfl rfl rfl (by rw [wants_ref (show (2 : Int) ≠ 6 by decide)]; simp [refS, h2, hl0, hm0]) (.g2 f l v hf hl hv h2 hl0 hm0) (.inr (.inr rfl))
  | g2 f l u hf hl hu h2 hl0 hm0 =>
    exact step_of ha (read' := [f, l, u]) (writes' := 1) rfl rfl rfl (by rw [wants_ref (show (3 : Int) ≠ 6 by decide)]; simp [refS, h2, hl0, hm0]) (.g3 f l u hf hl hu h2 hl0 hm0) (.inr (.inr rfl))
  | g3 f l u hf hl hu h2 hl0 hm0 =>
    exact step_of ha (read' := [f, l, u]) (writes' := 2) (x := endS u 0) rfl rfl rfl (by rw [wants_ref (show (3 : Int) ≠ 6 by decide)]; simp [refS, h2, hl0, hm0])
      (.z _ _ _ u 0 (Nat.le_refl 8) rfl (by simp [hf, hl, hu]) (by simp [simBound]) (by simp) (by simp [simBound])) (.inl rfl)

end Go.Proofs.Ytdacadhiogikdaa
