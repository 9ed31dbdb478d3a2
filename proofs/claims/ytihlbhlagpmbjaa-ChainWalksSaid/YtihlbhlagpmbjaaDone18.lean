/- A call done over cells: what comes of it as data, and the contract of done. -/
import Derived.Test.YtihlbhlagpmbjaaSim18
import Derived.Test.YtihlbhlagpmbjaaRowM18
import Derived.Deep.LoopGhost
namespace Go.Proofs.Ytihlbhlagpmbjaa
open Go.RowKit

/-- A call done over cells: its answer, its code, whether it came through, and the cells. -/
structure Ran where
  value : Int
  code : Int
  fine : Bool
  cells : List Int
def runM (base : Int) : Nat → MS → Int → List Int → Ran
  | 0, _, _, cs => ⟨0, 0, false, cs⟩
  | f + 1, m, v, cs =>
    if (outM m v).kind = 6 then ⟨(outM m v).value, (outM m v).code, true, cs⟩
    else if (outM m v).cell < base ∨ cs.length ≤ (outM m v).cell then ⟨0, 0, false, cs⟩
    else if (outM m v).kind = 2 then runM base f (stepM m v) (cs.getD (outM m v).cell.toNat 0) cs
    else runM base f (stepM m v) 0 (cs.set (outM m v).cell.toNat (outM m v).value)
theorem run_end {base : Int} {f : Nat} {m : MS} {v : Int} {cs : List Int} {x : WantS} (hx : outM m v = x) (h : x.kind = 6) : runM base (f + 1) m v cs = ⟨x.value, x.code, true, cs⟩ := by
  subst hx; rw [runM, if_pos h]
theorem run_out {base : Int} {f : Nat} {m : MS} {v : Int} {cs : List Int} {x : WantS} (hx : outM m v = x) (h : x.kind ≠ 6) (h2 : x.cell < base ∨ cs.length ≤ x.cell) : runM base (f + 1) m v cs = ⟨0, 0, false, cs⟩ := by
  subst hx; rw [runM, if_neg h, if_pos h2]
theorem run_read {base : Int} {f : Nat} {m : MS} {v : Int} {cs : List Int} {x : WantS} (hx : outM m v = x) (h : x.kind = 2) (h2 : ¬ (x.cell < base ∨ cs.length ≤ x.cell)) : runM base (f + 1) m v cs = runM base f (stepM m v) (cs.getD x.cell.toNat 0) cs := by
  subst hx; rw [runM, if_neg (by omega), if_neg h2, if_pos h]
theorem run_put {base : Int} {f : Nat} {m : MS} {v : Int} {cs : List Int} {x : WantS} (hx : outM m v = x) (h6 : x.kind ≠ 6) (h : x.kind ≠ 2) (h2 : ¬ (x.cell < base ∨ cs.length ≤ x.cell)) : runM base (f + 1) m v cs = runM base f (stepM m v) 0 (cs.set x.cell.toNat x.value) := by
  subst hx; rw [runM, if_neg h6, if_neg h2, if_neg h]

/-- Block g begins with a list of numbers. -/
def Cells (w : World) (g : Nat) (cs : List Int) : Prop := ∃ cur : Array Value, w.heap[g]? = some (.cells cur 2 (0, 0)) ∧ cs.length ≤ cur.size ∧ ∀ i, i < cs.length → cur[i]? = some (.int .i64 (cs.getD i 0))
theorem Cells.lt {w : World} {g : Nat} {cs : List Int} (h : Cells w g cs) : g < w.heap.size := by
  obtain ⟨cur, h1, -⟩ := h
  exact (Array.getElem?_eq_some_iff.1 h1).1
theorem Cells.cell {w : World} {g : Nat} {cs : List Int} (h : Cells w g cs) {i : Nat} (hi : i < cs.length) : w.cell? ⟨g, i, none⟩ = some (.int .i64 (cs.getD i 0)) := by
  obtain ⟨cur, h1, h2, h3⟩ := h
  rw [cell_of_row w g i _ _ _ h1, h3 i hi]
theorem Cells.frozen {w : World} {g : Nat} {cs : List Int} (h : Cells w g cs) (i : Nat) : w.frozen? ⟨g, i, none⟩ = false := by
  obtain ⟨cur, h1, -⟩ := h
  exact frozen_of_row w g i _ _ h1
theorem Cells.keep {w w' : World} {g : Nat} {cs : List Int} (h : Cells w g cs) (hk : w'.heap[g]? = w.heap[g]?) : Cells w' g cs := by
  obtain ⟨cur, h1, h2⟩ := h
  exact ⟨cur, hk.trans h1, h2⟩
theorem Cells.set {w : World} {g : Nat} {cs : List Int} (h : Cells w g cs) {i : Nat} (hi : i < cs.length) (x : Int) : Cells (w.setCell ⟨g, i, none⟩ (.int .i64 x)) g (cs.set i x) := by
  obtain ⟨cur, h1, h2, h3⟩ := h
  refine ⟨_, heap_set h1, by simpa using h2, fun j hj => ?_⟩
  rw [List.length_set] at hj
  rw [Array.getElem?_setIfInBounds]
  by_cases e : i = j
  · subst e
    rw [if_pos rfl, if_pos (by omega)]
    simp [List.getD_eq_getElem?_getD, hi]
  · rw [if_neg e, h3 j hj]
    simp [List.getD_eq_getElem?_getD, e]

def DonePost_ (g : Nat) (R : Ran) (w : World) (e : Ending) (w' : World) : Prop :=
  e = .returned (.tuple #[.int .i64 R.value, .int .i64 R.code, .bool R.fine]) ∧ w.grownBy w' (some g) ∧ Cells w' g R.cells

theorem grown_below {w w' : World} (h : Below w.heap.size w w') (r : Option Nat) : w.grownBy w' r := ⟨h.os, h.tape, h.output, h.size, fun k hk _ => h.block k hk⟩
theorem grown_new {a b c : World} {r : Option Nat} {p : Nat} (h : a.grownBy b r) (hp : a.heap.size ≤ p) (k : b.grownBy c (some p)) : a.grownBy c r :=
  ⟨k.os.trans h.os, k.tape.trans h.tape, k.output.trans h.output, Nat.le_trans h.size k.size, fun q hq hne => (k.block q (Nat.lt_of_lt_of_le hq h.size) (fun e => by injection e with e; omega)).trans (h.block q hq hne)⟩

set_option maxRecDepth 100000 in
set_option maxHeartbeats 8000000 in
theorem doneLaw_calls (w : World) (B g c : Nat) (nm : Nat) (base call : Int) (av : Value) (xs cs : List Int) (ha : Reads w B av xs) (hB : B ≤ w.heap.size) (hc : Cells w g cs) (hl : cs.length ≤ 1000) (hyes : takesB base nm (arityI call) xs.length = true) :
    Calls Try.prog 24 #[.slice (some ⟨g, 0, none⟩) cs.length c, .int .i64 base, .int .i64 (nm : Int), .int .i64 call, av] w (DonePost_ g (runM base (2 * nm + 8) (initM base nm call xs) 0 cs) w) := by
  have HC := Lib.hid hc
  have hglt := hc.lt
  have HNW := Lib.hid (New_yes w B base nm call av xs ha hB hyes)
  generalize hR : runM base (2 * nm + 8) (initM base nm call xs) 0 cs = R
  have HR := Lib.hid hR
  generalize hn : cs.length = n at *
  have HL := Lib.hid hn
  have hn0 : (n : Int) ≤ 1000 := by omega
  have HB0 := Lib.hid (of_decide_eq_true hyes).2.1
  have hnm : (nm : Int) ≤ 16 := (of_decide_eq_true hyes).1.2
  clear hR hc ha hn hyes
  go_enter Try.func24, Try.ntmps24
  go_wp2_with fail
  refine HNW.out.mono ?_
  rintro e w1 ⟨p, hp, rfl, hb1, F, rep1, hF⟩
  have hC1 := HC.out.keep (hb1.block g hglt)
  go_wp2
  go_loopg [15, 16] (2 * nm + 8 + 1) (fun nn v15 v16 wr => ∃ (k : Nat) (m : MS) (v : Int) (cs' : List Int) (F : List Nat), k ≤ 2 * nm + 8 ∧ v15 = .int .i64 v ∧ v16 = .int .i64 k ∧ nn + k = 2 * nm + 8 + 1 ∧ runM base (2 * nm + 8 - k) m v cs' = R ∧ Rep wr p m F ∧ (∀ q ∈ F, w.heap.size ≤ q) ∧
    Cells wr g cs' ∧ cs'.length = n ∧ w.grownBy wr (some g))
  case atStart => exact ⟨0, _, 0, cs, F, Nat.zero_le _, rfl, rfl, rfl, HR.out, rep1, hF, hC1, HL.out, grown_below hb1 _⟩
  case round =>
    clear hC1 rep1 hF hb1 HR HL
    obtain ⟨k, m, v, cs', F, hk, rfl, rfl, hnn, hrun, rep, hF, hC, hlen, hgr⟩ := hrel
    have HN := Lib.hid hnn
    have HF := Lib.hid hF
    have HRN := Lib.hid hrun
    have HLN := Lib.hid hlen
    have HCC := Lib.hid hC
    have HREP := Lib.hid rep
    have hsz := hgr.size
    clear hnn hF hrun hlen hC rep
    by_cases hlt : k < 2 * nm + 8
    · have hki : (k : Int) ≤ 2 * nm + 7 := by omega
      obtain ⟨f, hf⟩ : ∃ f, 2 * nm + 8 - k = f + 1 := ⟨2 * nm + 8 - k - 1, by omega⟩
      have hf2 : 2 * nm + 8 - (k + 1) = f := by omega
      have HFF := Lib.hid hf2
      have hrn2 := HRN.out
      rw [hf] at hrn2
      have HRN2 := Lib.hid hrn2
      clear hf hf2 hrn2 HRN
      go_wp2_with fail
      refine (Next_calls _ _ m F v HREP.out).mono ?_
      rintro e w3 ⟨rfl, hg3, F', rep3, hF'⟩
      have hC3 := HCC.out.keep (hg3.block g HCC.out.lt (fun e => by injection e with e; omega))
      have hgr3 := grown_new hgr hp hg3
      have HF3 : Hid (∀ q ∈ F', w.heap.size ≤ q) := fun q hq => by
        rcases hF' q hq with h | h
        · exact HF.out q h
        · omega
      have hz3 := hgr3.size
      have hg3lt := hC3.lt
      have HREP3 := Lib.hid rep3
      have HC3 := Lib.hid hC3
      generalize hx : outM m v = x at *
      have HX := Lib.hid hx
      obtain ⟨x0, x1, x2, x3⟩ := x
      simp only [WantS.val]
      clear hx rep3 hC3 hF'
      have HGR3 := Lib.hid hgr3
      clear hgr3 hg3 hgr
      by_cases e6 : x0 = 6
      · subst e6
        have HE := Lib.hid (HRN2.out.symm.trans (run_end HX.out rfl))
        go_wp2
        go_quiet (fail)
        go_wp2
        go_ret3
        rw [HE.out]
        exact ⟨rfl, grown_drewN (grown_alloc HGR3.out _) _, HC3.out.keep (Below.heap_alloc _ _ _ HC3.out.lt)⟩
      · have e6' : (x0 == 6) = false := by simpa using e6
        by_cases hout : x1 < base ∨ (cs'.length : Int) ≤ x1
        · have HE := Lib.hid (HRN2.out.symm.trans (run_out HX.out e6 hout))
          have hout2 : x1 < base ∨ (base ≤ x1 ∧ (n : Int) ≤ x1) := by have := HLN.out; omega
          clear hout e6
          rcases hout2 with ho | ⟨ho, ho'⟩
          all_goals
            go_wp2
            go_ret3
            rw [HE.out]
            exact ⟨rfl, grown_alloc HGR3.out _, HC3.out.keep (Below.heap_alloc _ _ _ HC3.out.lt)⟩
        · have ho1 : base ≤ x1 := by omega
          have ho2 : x1 < (n : Int) := by have := HLN.out; omega
          have hb0 : (0 : Int) ≤ x1 := by have := HB0.out; omega
          obtain ⟨i, rfl⟩ := Int.eq_ofNat_of_zero_le hb0
          have hil : i < cs'.length := by have := HLN.out; omega
          by_cases e2 : x0 = 2
          · have HE := Lib.hid ((run_read HX.out e2 hout).symm.trans HRN2.out)
            have hcl := HC3.out.cell hil
            have hne : g ≠ w3.heap.size := by omega
            simp only [Int.toNat_natCast] at HE
            generalize cs'.getD i 0 = u at *
            subst e2
            clear hout e6
            go_wp2
            go_roundg (2 * nm + 8 - k)
            case measure => have := HN.out; omega
            case rel => exact ⟨k + 1, _, _, cs', F', by omega, rfl, by go_num, by omega, by rw [HFF.out]; exact HE.out, rep_keep HREP3.out (fun q hq => Below.heap_alloc _ _ _ ((rep_mem HREP3.out).2 q hq)), HF3.out, HC3.out.keep (Below.heap_alloc _ _ _ HC3.out.lt), HLN.out, grown_alloc HGR3.out _⟩
          · have HE := Lib.hid ((run_put HX.out e6 e2 hout).symm.trans HRN2.out)
            have e2' : (x0 == 2) = false := by simpa using e2
            have hcl := HC3.out.cell hil
            have hfz := HC3.out.frozen i
            have hne : g ≠ w3.heap.size := by omega
            clear hout e6 e2
            simp only [Int.toNat_natCast] at HE
            go_wp2
            go_roundg (2 * nm + 8 - k)
            case measure => have := HN.out; omega
            case rel => exact ⟨k + 1, _, 0, cs'.set i x2, F', by omega, rfl, by go_num, by omega, by rw [HFF.out]; exact HE.out,
              rep_keep HREP3.out (fun q hq => (Below.heap_alloc _ _ _ (by simpa using (rep_mem HREP3.out).2 q hq)).trans (heap_setCell_other w3 ⟨g, i, none⟩ q _ (by have := HF3.out q hq; simp; omega))), HF3.out,
              (HC3.out.set hil x2).keep (Below.heap_alloc _ _ _ (by simpa using HC3.out.lt)), by rw [List.length_set]; exact HLN.out, grown_alloc (grown_set HGR3.out _) _⟩
    · have hk4 : k = 2 * nm + 8 := by omega
      have hrn2 := HRN.out
      rw [hk4, Nat.sub_self] at hrn2
      have HE := Lib.hid (hrn2.symm.trans (show runM base 0 m v cs' = ⟨0, 0, false, cs'⟩ from rfl))
      subst hk4
      clear hrn2
      go_wp2
      go_ret3
      rw [HE.out]
      exact ⟨rfl, hgr, HCC.out⟩

end Go.Proofs.Ytihlbhlagpmbjaa
