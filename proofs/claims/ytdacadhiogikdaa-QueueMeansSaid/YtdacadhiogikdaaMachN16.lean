/- The queue's machine as data: its phases, what it wants, and the contract of Next. -/
import Derived.Test.YtdacadhiogikdaaMach16
namespace Go.Proofs.Ytdacadhiogikdaa
open Go.RowKit

/-- A state: the cells; the phase (0 to 7; from 8 on: through); what it told last, once it is through. -/
structure MS where
  q : QS
  ph : Nat
  x : WantS

/-- The function that comes next, of the phases 0 to 7. -/
def phaseFn (n : Nat) : Nat :=
  if n = 0 then 29 else if n = 1 then 33 else if n = 2 then 37 else if n = 3 then 40
  else if n = 4 then 43 else if n = 5 then 41 else if n = 6 then 44 else 45

/-- The machine lies in block p; once it is through, its last want in a block of its own. -/
def Rep (w : World) (p : Nat) (m : MS) (F : List Nat) : Prop :=
  m.q.ok ∧ (m.ph = 5 → 1 ≤ m.q.most) ∧
  (m.ph < 8 ∧ F = [p] ∧ QRep w p m.q (fnV (phaseFn m.ph)) ∨
   8 ≤ m.ph ∧ ∃ c, c ≠ p ∧ F = [p, c] ∧ QRep w p m.q (.func (.func 42) #[] #[.pointer (some ⟨c, 0, none⟩)]) ∧
    w.heap[c]? = some (.cells #[.int .i64 m.x.kind, .int .i64 m.x.cell, .int .i64 m.x.value, .int .i64 m.x.code] 44 (0, 0)))

/-- What a step in the phase tookLength does. -/
def lenM (m : MS) (v : Int) : WantS × MS :=
  if m.q.call = 5 then (⟨6, 0, v, 0⟩, ⟨{ m.q with l := v }, 8, ⟨6, 0, v, 0⟩⟩)
  else if m.q.call = 3 then
    (if m.q.most ≤ u64 v then (⟨6, 0, 0, 2⟩, ⟨{ m.q with l := v }, 8, ⟨6, 0, 0, 2⟩⟩)
     else (putS (m.q.base + (2 + behindI m.q.f (u64 v) m.q.most)) m.q.v, ⟨{ m.q with l := v }, 3, m.x⟩))
  else if v = 0 ∨ m.q.most = 0 then (⟨6, 0, 0, 1⟩, ⟨{ m.q with l := v }, 8, ⟨6, 0, 0, 1⟩⟩)
  else (readS (m.q.base + (2 + behindI m.q.f 0 m.q.most)), ⟨{ m.q with l := v }, 5, m.x⟩)

/-- What a step wants, and what comes of the machine. -/
def goM (m : MS) (v : Int) : WantS × MS :=
  if m.ph = 0 then (readS m.q.base, { m with ph := 1 })
  else if m.ph = 1 then (readS (m.q.base + 1), { m with q := { m.q with f := v }, ph := 2 })
  else if m.ph = 2 then lenM m v
  else if m.ph = 3 then (putS (m.q.base + 1) (wrap64 (m.q.l + 1)), { m with ph := 4 })
  else if m.ph = 4 then (⟨6, 0, 0, 0⟩, { m with ph := 8, x := ⟨6, 0, 0, 0⟩ })
  else if m.ph = 5 then (putS m.q.base (behindI m.q.f 1 m.q.most), { m with q := { m.q with v := v }, ph := 6 })
  else if m.ph = 6 then (putS (m.q.base + 1) (wrap64 (m.q.l - 1)), { m with ph := 7 })
  else if m.ph = 7 then (⟨6, 0, m.q.v, 0⟩, { m with ph := 8, x := ⟨6, 0, m.q.v, 0⟩ })
  else (m.x, m)
def outM (m : MS) (v : Int) : WantS := (goM m v).1
def stepM (m : MS) (v : Int) : MS := (goM m v).2

/-- What a Next leaves. -/
def NextPost (p : Nat) (m : MS) (F : List Nat) (v : Int) (w : World) (e : Ending) (w' : World) : Prop :=
  e = .returned (outM m v).val ∧ w.grownBy w' (some p) ∧ ∃ F', Rep w' p (stepM m v) F' ∧ ∀ k ∈ F', k ∈ F ∨ w.heap.size ≤ k

theorem next_of_step {p : Nat} {m m' : MS} {F : List Nat} {v : Int} {x : WantS} {w w' : World} {e : Ending} {n : Nat} (h : StepPost p m'.q (fnV n) x w e w') (hg : goM m v = (x, m')) (hok : m'.q.ok)
    (h5 : m'.ph = 5 → 1 ≤ m'.q.most) (hph : m'.ph < 8) (hn : n = phaseFn m'.ph) (hF : p ∈ F) : NextPost p m F v w e w' := by
  obtain ⟨h1, h2, h3⟩ := h
  subst hn
  refine ⟨by rw [outM, hg]; exact h1, h2, [p], ?_, fun k hk => .inl (by simp at hk; rw [hk]; exact hF)⟩
  rw [stepM, hg]
  exact ⟨hok, h5, .inl ⟨hph, rfl, h3⟩⟩
theorem next_of_done {p : Nat} {m m' : MS} {F : List Nat} {v : Int} {w w' : World} {e : Ending} (hlt : p < w.heap.size) (h : DonePost p m'.q m'.x w e w') (hg : goM m v = (m'.x, m')) (hok : m'.q.ok)
    (hph : m'.ph = 8) (hF : p ∈ F) : NextPost p m F v w e w' := by
  obtain ⟨h1, h2, c, h3, h4, h5⟩ := h
  refine ⟨by rw [outM, hg]; exact h1, h2, [p, c], ?_, fun k hk => ?_⟩
  · rw [stepM, hg]
    show Rep w' p m' _
    exact ⟨hok, fun e => by omega, .inr ⟨by omega, c, by omega, rfl, h4, h5⟩⟩
  · simp at hk
    rcases hk with rfl | rfl
    · exact .inl hF
    · exact .inr h3

/-- The call of the function that comes next. -/
theorem phase_calls (w : World) (p : Nat) (m : MS) (F : List Nat) (v : Int) (h : Rep w p m F) (hph : m.ph < 8) :
    Calls Try.prog (phaseFn m.ph) #[.pointer (some ⟨p, 0, none⟩), .int .i64 v] w (NextPost p m F v w) := by
  obtain ⟨hok, h5, h⟩ := h
  obtain ⟨_, rfl, hq⟩ := h.resolve_right (fun e => by omega)
  clear h
  have hF : p ∈ [p] := by simp
  have hlt : p < w.heap.size := (Array.getElem?_eq_some_iff.1 hq).1
  obtain ⟨q, ph, x⟩ := m
  dsimp only at hok h5 hph hq
  rcases (show ph = 0 ∨ ph = 1 ∨ ph = 2 ∨ ph = 3 ∨ ph = 4 ∨ ph = 5 ∨ ph = 6 ∨ ph = 7 from by omega) with rfl | rfl | rfl | rfl | rfl | rfl | rfl | rfl
  · exact (begin_calls w p q _ v hq hok).mono fun e w' hp => next_of_step (m' := ⟨q, 1, x⟩) hp rfl hok (by simp) (by simp) rfl hF
  · exact (tookFirst_calls w p q _ v hq hok).mono fun e w' hp => next_of_step (m' := ⟨{ q with f := v }, 2, x⟩) hp rfl hok (by simp) (by simp) rfl hF
  · by_cases hc5 : q.call = 5
    · exact (tookLength_len w p q _ v hq hok hc5).mono fun e w' hp => next_of_done (m' := ⟨{ q with l := v }, 8, ⟨6, 0, v, 0⟩⟩) hlt hp (by show lenM _ _ = _; simp [lenM, hc5]) hok rfl hF
    · by_cases hc3 : q.call = 3
      · by_cases hf : q.most ≤ u64 v
        · exact (tookLength_full w p q _ v hq hok hc3 hf).mono fun e w' hp => next_of_done (m' := ⟨{ q with l := v }, 8, ⟨6, 0, 0, 2⟩⟩) hlt hp (by show lenM _ _ = _; simp [lenM, hc3, hf]) hok rfl hF
        · have h1 : 1 ≤ q.most := by have := u64_bounds v; omega
          exact (tookLength_put w p q _ v hq hok hc3 (by omega) h1).mono fun e w' hp => next_of_step (m' := ⟨{ q with l := v }, 3, x⟩) hp (by show lenM _ _ = _; simp [lenM, hc3, hf]) hok (by simp) (by simp) rfl hF
      · by_cases hz : v = 0
        · exact (tookLength_zero w p q _ v hq hok hc5 hc3 hz).mono fun e w' hp => next_of_done (m' := ⟨{ q with l := v }, 8, ⟨6, 0, 0, 1⟩⟩) hlt hp (by show lenM _ _ = _; simp [lenM, hc5, hc3, hz]) hok rfl hF
        · by_cases hn : q.most = 0
          · exact (tookLength_none w p q _ v hq hok hc5 hc3 hz hn).mono fun e w' hp => next_of_done (m' := ⟨{ q with l := v }, 8, ⟨6, 0, 0, 1⟩⟩) hlt hp (by show lenM _ _ = _; simp [lenM, hc5, hc3, hn]) hok rfl hF
          · have h1 : 1 ≤ q.most := by have := hok.2.2.1; omega
            exact (tookLength_get w p q _ v hq hok hc5 hc3 hz h1).mono fun e w' hp => next_of_step (m' := ⟨{ q with l := v }, 5, x⟩) hp (by show lenM _ _ = _; simp [lenM, hc5, hc3, hz, hn]) hok (fun _ => h1) (by simp) rfl hF
  · exact (laid_calls w p q _ v hq hok).mono fun e w' hp => next_of_step (m' := ⟨q, 4, x⟩) hp rfl hok (by simp) (by simp) rfl hF
  · exact (laid1_calls w p q _ v hq).mono fun e w' hp => next_of_done (m' := ⟨q, 8, ⟨6, 0, 0, 0⟩⟩) hlt hp rfl hok rfl hF
  · exact (got_calls w p q _ v hq hok (h5 rfl)).mono fun e w' hp => next_of_step (m' := ⟨{ q with v := v }, 6, x⟩) hp rfl hok (by simp) (by simp) rfl hF
  · exact (moved_calls w p q _ v hq hok).mono fun e w' hp => next_of_step (m' := ⟨q, 7, x⟩) hp rfl hok (by simp) (by simp) rfl hF
  · exact (moved1_calls w p q _ v hq).mono fun e w' hp => next_of_done (m' := ⟨q, 8, ⟨6, 0, q.v, 0⟩⟩) hlt hp rfl hok rfl hF

theorem rep_keep {w w' : World} {p : Nat} {st : MS} {F : List Nat} (h : Rep w p st F) (hk : ∀ q ∈ F, w'.heap[q]? = w.heap[q]?) : Rep w' p st F := by
  obtain ⟨h1, h2, ⟨h3, rfl, h4⟩ | ⟨h3, c, h4, rfl, h5, h6⟩⟩ := h
  · exact ⟨h1, h2, .inl ⟨h3, rfl, (hk p (by simp)).trans h4⟩⟩
  · exact ⟨h1, h2, .inr ⟨h3, c, h4, rfl, (hk p (by simp)).trans h5, (hk c (by simp)).trans h6⟩⟩
theorem rep_mem {w : World} {p : Nat} {st : MS} {F : List Nat} (h : Rep w p st F) : p ∈ F ∧ ∀ q ∈ F, q < w.heap.size := by
  obtain ⟨h1, h2, ⟨h3, rfl, h4⟩ | ⟨h3, c, h4, rfl, h5, h6⟩⟩ := h
  · exact ⟨by simp, by simpa using (Array.getElem?_eq_some_iff.1 h4).1⟩
  · refine ⟨by simp, fun q hq => ?_⟩
    simp at hq
    rcases hq with rfl | rfl
    · exact (Array.getElem?_eq_some_iff.1 h5).1
    · exact (Array.getElem?_eq_some_iff.1 h6).1

/-- Behind the call of what comes next the want is laid into Next's own block. -/
theorem next_close {w w1 : World} {p g : Nat} {m : MS} {F : List Nat} {v : Int} {o : Obj} {a b c d : Value} (hg : g = w.heap.size) {v1 : Value} (h : NextPost p m F v (w.alloc o) (.returned v1) w1) {e : Ending} (he : e = .returned (outM m v).val) (hF : ∀ q ∈ F, q < w.heap.size) :
    NextPost p m F v w e ((((w1.setCell ⟨g, 0, none⟩ a).setCell ⟨g, 1, none⟩ b).setCell ⟨g, 2, none⟩ c).setCell ⟨g, 3, none⟩ d) := by
  obtain ⟨-, h2, F', h3, h4⟩ := h
  have hs : w.heap.size + 1 ≤ w1.heap.size := by have := h2.size; simpa using this
  refine ⟨he, ⟨h2.os, h2.tape, h2.output, by simp; omega, fun k hk hne => ?_⟩, F', rep_keep h3 fun q hq => ?_, fun k hk => ?_⟩
  · have e1 : k ≠ g := by omega
    rw [Below.heap_setCell _ _ _ _ (by simpa using e1), Below.heap_setCell _ _ _ _ (by simpa using e1), Below.heap_setCell _ _ _ _ (by simpa using e1), Below.heap_setCell _ _ _ _ (by simpa using e1), h2.block k (by simp; omega) hne]
    exact Below.heap_alloc _ _ _ hk
  · have e1 : q ≠ g := by
      rcases h4 q hq with h | h
      · have := hF q h; omega
      · simp at h; omega
    rw [Below.heap_setCell _ _ _ _ (by simpa using e1), Below.heap_setCell _ _ _ _ (by simpa using e1), Below.heap_setCell _ _ _ _ (by simpa using e1), Below.heap_setCell _ _ _ _ (by simpa using e1)]
  · rcases h4 k hk with h | h
    · exact .inl h
    · right; simp at h; omega

set_option maxHeartbeats 1000000 in
theorem Next_calls (w : World) (p : Nat) (m : MS) (F : List Nat) (v : Int) (hr : Rep w p m F) :
    Calls Try.prog 21 #[.pointer (some ⟨p, 0, none⟩), .int .i64 v] w (NextPost p m F v w) := by
  have HM := Lib.hid (rep_mem hr)
  have hlt : p < w.heap.size := HM.out.2 p HM.out.1
  have HR : Hid (Rep (w.alloc (.cells #[.int .i64 0, .int .i64 0, .int .i64 0, .int .i64 0] 44)) p m F) := rep_keep hr fun q hq => Below.heap_alloc _ _ _ (HM.out.2 q hq)
  have HR0 := Lib.hid hr
  obtain ⟨hok, h5, ⟨hph, hF, hq⟩ | ⟨h8, c, hne, hF, hq, hc⟩⟩ := hr
  · obtain ⟨⟨c0, c1, c2, c3, c4, c5, c6⟩, ⟨f3, f4, f5, f6⟩, -⟩ := box7 hq
    clear hq hF h5
    have hcase : ∃ fn, phaseFn m.ph = fn ∧ (fn = 29 ∨ fn = 33 ∨ fn = 37 ∨ fn = 40 ∨ fn = 43 ∨ fn = 41 ∨ fn = 44 ∨ fn = 45) := by
      refine ⟨_, rfl, ?_⟩
      generalize m.ph = ph at *
      rcases (show ph = 0 ∨ ph = 1 ∨ ph = 2 ∨ ph = 3 ∨ ph = 4 ∨ ph = 5 ∨ ph = 6 ∨ ph = 7 from by omega) with rfl | rfl | rfl | rfl | rfl | rfl | rfl | rfl <;> simp [phaseFn]
    obtain ⟨fn, hfn, hcase⟩ := hcase
    have HPC : ∀ w, Rep w p m F → Calls Try.prog fn #[.pointer (some ⟨p, 0, none⟩), .int .i64 v] w (NextPost p m F v w) := fun w h => by rw [← hfn]; exact phase_calls w p m F v h hph
    have HPC' := Lib.hid HPC
    unfold fnV at c4
    rw [hfn] at c4
    clear hfn HPC hph
    rcases hcase with rfl | rfl | rfl | rfl | rfl | rfl | rfl | rfl
    all_goals
      go_enter Try.func21, Try.ntmps21
      go_wp2_with fail
      refine (HPC'.out _ HR.out).mono ?_
      rintro e w1 ⟨rfl, post⟩
      have hn : NextPost p m F v (w.alloc (.cells #[.int .i64 0, .int .i64 0, .int .i64 0, .int .i64 0] 44)) (.returned (outM m v).val) w1 := ⟨rfl, post⟩
      have HN : Hid (NextPost p m F v (w.alloc (.cells #[.int .i64 0, .int .i64 0, .int .i64 0, .int .i64 0] 44)) (.returned (outM m v).val) w1) := hn
      have hg1 := box_grown post.1 (heap_new (n := w.heap.size) (by simp)) (by omega)
      obtain ⟨⟨d0, d1, d2, d3⟩, ⟨g0, g1, g2, g3⟩, hz⟩ := box4 hg1
      clear post hn
      simp only [WantS.val]
      go_wp2
      exact bodyPost_ret (results_cell_row rfl _ _ _ _ _ _ _ rfl (heap_set (heap_set (heap_set (heap_set hg1)))) Try.underlying44 rfl infoWant) rfl (next_close rfl HN.out rfl HM.out.2)
  · obtain ⟨⟨c0, c1, c2, c3, c4, c5, c6⟩, ⟨f3, f4, f5, f6⟩, -⟩ := box7 hq
    have HC := Lib.hid hc
    have hgo : goM m v = (m.x, m) := by
      unfold goM
      rw [if_neg (by omega), if_neg (by omega), if_neg (by omega), if_neg (by omega), if_neg (by omega), if_neg (by omega), if_neg (by omega), if_neg (by omega)]
    have HG := Lib.hid hgo
    clear hq hF h5 hc hgo hok
    go_enter Try.func21, Try.ntmps21
    go_wp2_with fail
    refine (done1_calls _ c m.x _ _ (heap_old HC.out)).mono ?_
    rintro e w1 ⟨rfl, hb1⟩
    have hg1 := box_keep hb1 (heap_new (n := w.heap.size) (by simp))
    obtain ⟨⟨d0, d1, d2, d3⟩, ⟨g0, g1, g2, g3⟩, hz⟩ := box4 hg1
    have hn : NextPost p m F v (w.alloc (.cells #[.int .i64 0, .int .i64 0, .int .i64 0, .int .i64 0] 44)) (.returned (outM m v).val) w1 :=
      ⟨rfl, ⟨hb1.os, hb1.tape, hb1.output, hb1.size, fun k hk _ => hb1.block k hk⟩, F, by rw [stepM, HG.out]; exact rep_keep HR.out fun q hq => hb1.block q (by have := HM.out.2 q hq; simp; omega), fun k hk => .inl hk⟩
    have HN : Hid (NextPost p m F v (w.alloc (.cells #[.int .i64 0, .int .i64 0, .int .i64 0, .int .i64 0] 44)) (.returned (outM m v).val) w1) := hn
    clear hn
    simp only [WantS.val]
    go_wp2
    exact bodyPost_ret (results_cell_row rfl _ _ _ _ _ _ _ rfl (heap_set (heap_set (heap_set (heap_set hg1)))) Try.underlying44 rfl infoWant) rfl (next_close rfl HN.out (by rw [outM, HG.out]; rfl) HM.out.2)

end Go.Proofs.Ytdacadhiogikdaa
