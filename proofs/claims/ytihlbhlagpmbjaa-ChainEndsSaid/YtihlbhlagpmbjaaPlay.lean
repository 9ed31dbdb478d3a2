/- The contract of the laws' play: a call that is handed words wants what the chapter says. -/
import Derived.Test.YtihlbhlagpmbjaaSim18
import Derived.Test.YtihlbhlagpmbjaaApp
import Derived.Deep.LoopGhost
namespace Go.Proofs.Ytihlbhlagpmbjaa
open Go.RowKit

theorem box5 {w : World} {g : Nat} {a b c d e : Value} {t : TypeId} (h : w.heap[g]? = some (.cells #[a, b, c, d, e] t (0, 0))) :
    w.cell? ⟨g, 0, none⟩ = some a ∧ w.cell? ⟨g, 1, none⟩ = some b ∧ w.cell? ⟨g, 2, none⟩ = some c ∧ w.cell? ⟨g, 3, none⟩ = some d ∧ w.cell? ⟨g, 4, none⟩ = some e := by
  have hc := fun j => cell_of_row w g j _ _ _ h
  refine ⟨?_, ?_, ?_, ?_, ?_⟩
  · simpa using hc 0
  · simpa using hc 1
  · simpa using hc 2
  · simpa using hc 3
  · simpa using hc 4

theorem addr_add (b off k : Nat) : (⟨b, off, none⟩ : Addr).add k = ⟨b, off + k, none⟩ := by unfold Addr.add; split <;> simp_all

/-- What stands at the head of every round of play. -/
structure PlayInv (w : World) (B0 p : Nat) (base most call : Int) (av wv : Value) (xs : List Int) (wr : World) (v5 : Value) (st : MS) (F : List Nat) (read : List Int) (writes : Int) (last : WantS) : Prop where
  boxA : wr.heap[w.heap.size]? = some (.cells #[.int .i64 base, .int .i64 most, .int .i64 call, av, wv] 36 (0, 0))
  boxL : wr.heap[w.heap.size + 1]? = some (.cells #[.int .i64 last.kind, .int .i64 last.cell, .int .i64 last.value, .int .i64 last.code] 44 (0, 0))
  rep : Rep wr p st F
  foot : ∀ q ∈ F, B0 ≤ q ∧ (q < w.heap.size ∨ w.heap.size + 2 ≤ q)
  own : wr.ownsRow (w.heap.size + 2) 2 1 v5 read.length (read.map (Value.int .i64))
  apart : ∀ q ∈ F, v5.ownBlock ≠ some q
  bel : Below B0 w wr
  sim : Sim base most call xs st read writes last
  plt : p < w.heap.size

def budget (words : Nat) (k : Nat) (read : List Int) (writes : Int) (last : WantS) : Nat :=
  (words + 4 - k) + (2 * (2 * simBound - read.length - writes.toNat) + (if last.kind = 0 then 1 else 0))

theorem budget_less {base most call : Int} {xs : List Int} {st : MS} {read : List Int} {writes : Int} {last : WantS} {v : Int} (words k : Nat) (h : Sim base most call xs st read writes last) (hv : In64 v)
    (hc : k < words + 4 ∨ last.kind ≠ 6) :
    budget words (k + 1) (readOf last read v) (writesOf last writes) (wantsS base most call xs (readOf last read v) (writesOf last writes) last) < budget words k read writes last := by
  obtain ⟨h1, h2, h3⟩ := sim_step h hv
  obtain ⟨-, k1, k2, k3, k4⟩ := sim_kind h
  obtain ⟨-, j1, j2, j3, -⟩ := sim_kind h2
  have hk0 : (wantsS base most call xs (readOf last read v) (writesOf last writes) last).kind ≠ 0 := by omega
  generalize wantsS base most call xs (readOf last read v) (writesOf last writes) last = W at *
  unfold budget
  rw [if_neg hk0]
  rcases k4 with e | e | e | ⟨e, -⟩
  · have er : readOf last read v = read := if_neg (by omega)
    have ew : writesOf last writes = writes := if_neg (by omega)
    have e0 : ¬ last.kind = 0 := by omega
    rw [er, ew, if_neg e0]
    omega
  · have er : readOf last read v = read ++ [v] := if_pos e
    have ew : writesOf last writes = writes := if_neg (by omega)
    have e0 : ¬ last.kind = 0 := by omega
    rw [er] at j1 ⊢
    rw [ew, if_neg e0]
    simp only [List.length_append, List.length_cons, List.length_nil] at j1 ⊢
    omega
  · have er : readOf last read v = read := if_neg (by omega)
    have ew : writesOf last writes = writes + 1 := if_pos e
    have e0 : ¬ last.kind = 0 := by omega
    rw [ew] at j3 ⊢
    rw [er, if_neg e0]
    omega
  · have er : readOf last read v = read := if_neg (by omega)
    have ew : writesOf last writes = writes := if_neg (by omega)
    rw [er, ew, if_pos e]
    omega

theorem grown_of_below {w w' : World} (h : Below w.heap.size w w') (r : Option Nat) : w.grownBy w' r := ⟨h.os, h.tape, h.output, h.size, fun k hk _ => h.block k hk⟩

theorem play_next {w wx w2 w3 : World} {B0 p : Nat} {base most call : Int} {av wv : Value} {xs : List Int} {v5 : Value} {st' : MS} {F F' : List Nat} {R : List Int} {Wr : Int} {W : WantS} {a b c d : Value} {O O2 : Obj}
    (hB : B0 ≤ w.heap.size) (plt : p < w.heap.size)
    (hA3 : w3.heap[w.heap.size]? = some (.cells #[.int .i64 base, .int .i64 most, .int .i64 call, av, wv] 36 (0, 0)))
    (hL3 : w3.heap[w.heap.size + 1]? = some (.cells #[a, b, c, d] 44 (0, 0)))
    (belx : Below B0 w wx) (hb2 : Below wx.heap.size wx w2) (hg3 : (w2.alloc O).grownBy w3 (some p)) (hLx : w.heap.size + 1 < wx.heap.size)
    (ownx : wx.ownsRow (w.heap.size + 2) 2 1 v5 R.length (R.map (Value.int .i64)))
    (apartx : ∀ q ∈ F, v5.ownBlock ≠ some q) (foot : ∀ q ∈ F, B0 ≤ q ∧ (q < w.heap.size ∨ w.heap.size + 2 ≤ q)) (hpF : p ∈ F)
    (rep3 : Rep w3 p st' F') (hF' : ∀ k ∈ F', k ∈ F ∨ (w2.alloc O).heap.size ≤ k)
    (sim : Sim base most call xs st' R Wr W) :
    PlayInv w B0 p base most call av wv xs (((((w3.setCell ⟨w.heap.size + 1, 0, none⟩ (.int .i64 W.kind)).setCell ⟨w.heap.size + 1, 1, none⟩ (.int .i64 W.cell)).setCell ⟨w.heap.size + 1, 2, none⟩ (.int .i64 W.value)).setCell ⟨w.heap.size + 1, 3, none⟩ (.int .i64 W.code)).alloc O2)
      v5 st' F' R Wr W := by
  have hs2 := hb2.size
  have hs3 := hg3.size
  have hs3' : w2.heap.size + 1 ≤ w3.heap.size := by simpa using hs3
  have foot' : ∀ q ∈ F', B0 ≤ q ∧ (q < w.heap.size ∨ w.heap.size + 2 ≤ q) := by
    intro q hq
    rcases hF' q hq with h | h
    · exact foot q h
    · have h' : w2.heap.size + 1 ≤ q := by simpa using h
      omega
  have own3 : w3.ownsRow (w.heap.size + 2) 2 1 v5 R.length (R.map (Value.int .i64)) :=
    (((ownx.kept (grown_of_below hb2 none) (by cases v5.ownBlock <;> simp))).alloc O).kept hg3 (.inr (apartx p hpF))
  have belx3 : Below B0 w w3 := (belx.trans (hb2.mono (Nat.le_trans hB belx.size))).trans
    (((Below.refl B0 w2).alloc (by omega) O).trans ⟨hg3.os, hg3.tape, hg3.output, hg3.size, fun k hk => hg3.block k (by simp; omega) (fun e => by
      injection e with e
      have := (foot p hpF).1
      omega)⟩)
  refine ⟨heap_old (heap_set_other (heap_set_other (heap_set_other (heap_set_other hA3 (by simp)) (by simp)) (by simp)) (by simp)), heap_old (heap_set (heap_set (heap_set (heap_set hL3)))), ?_, foot', ?_, ?_, ?_, sim, plt⟩
  · refine rep_keep rep3 fun q hq => ?_
    have hlt := (rep_mem rep3).2 q hq
    have hne : q ≠ w.heap.size + 1 := by have := (foot' q hq).2; omega
    rw [Below.heap_alloc _ _ _ (by simpa using hlt), Below.heap_setCell _ _ _ _ (by simpa using hne), Below.heap_setCell _ _ _ _ (by simpa using hne), Below.heap_setCell _ _ _ _ (by simpa using hne), Below.heap_setCell _ _ _ _ (by simpa using hne)]
  · exact (ownsRow_setCell_below (ownsRow_setCell_below (ownsRow_setCell_below (ownsRow_setCell_below own3 (by simp) _) (by simp) _) (by simp) _) (by simp) _).alloc _
  · intro q hq he
    rcases hF' q hq with h | h
    · exact apartx q h he
    · have h' : w2.heap.size + 1 ≤ q := by simpa using h
      have := (ownx.lt q he).2
      omega
  · exact ((((belx3.setCell (by simp; omega) _).setCell (by simp; omega) _).setCell (by simp; omega) _).setCell (by simp; omega) _).alloc (by have := belx3.size; simp; omega) _

theorem play_append {w wr wx : World} {B0 p : Nat} {base most call : Int} {av wv : Value} {v5 v' : Value} {st : MS} {F : List Nat} {a b c d : Value} {O : Obj} {n : Nat} {xs : List Value}
    (hB : B0 ≤ w.heap.size)
    (boxA : wr.heap[w.heap.size]? = some (.cells #[.int .i64 base, .int .i64 most, .int .i64 call, av, wv] 36 (0, 0)))
    (boxL : wr.heap[w.heap.size + 1]? = some (.cells #[a, b, c, d] 44 (0, 0)))
    (rep : Rep wr p st F) (own : wr.ownsRow (w.heap.size + 2) 2 1 v5 n xs) (apart : ∀ q ∈ F, v5.ownBlock ≠ some q) (bel : Below B0 w wr)
    (hgrow : (wr.alloc O).grownBy wx v5.ownBlock) (hblk : v'.ownBlock = v5.ownBlock ∨ v'.ownBlock = some (wr.heap.size + 1)) :
    wx.heap[w.heap.size]? = some (.cells #[.int .i64 base, .int .i64 most, .int .i64 call, av, wv] 36 (0, 0)) ∧
    wx.heap[w.heap.size + 1]? = some (.cells #[a, b, c, d] 44 (0, 0)) ∧ Rep wx p st F ∧ (∀ q ∈ F, v'.ownBlock ≠ some q) ∧ Below B0 w wx ∧ w.heap.size + 1 < wx.heap.size := by
  have hrow : ∀ q, v5.ownBlock = some q → w.heap.size + 2 ≤ q := fun q hq => (own.lt q hq).1
  have hkeep : ∀ q o, wr.heap[q]? = some o → v5.ownBlock ≠ some q → wx.heap[q]? = some o := by
    intro q o ho hne
    have hlt : q < wr.heap.size := (Array.getElem?_eq_some_iff.1 ho).1
    rw [hgrow.block q (by simp; omega) (fun e => hne e.symm)]
    exact heap_old ho
  have hsz := hgrow.size
  have hL2 : w.heap.size + 1 < wr.heap.size := (Array.getElem?_eq_some_iff.1 boxL).1
  refine ⟨hkeep _ _ boxA fun e => by have := hrow _ e; omega, hkeep _ _ boxL fun e => by have := hrow _ e; omega, ?_, ?_, ?_, by simp at hsz; omega⟩
  · refine rep_keep rep fun q hq => ?_
    have hlt := (rep_mem rep).2 q hq
    have ho : wr.heap[q]? = some wr.heap[q] := Array.getElem?_eq_getElem hlt
    rw [hkeep q _ ho (apart q hq), ho]
  · intro q hq he
    have hlt := (rep_mem rep).2 q hq
    rcases hblk with h | h
    · exact apart q hq (h ▸ he)
    · rw [h] at he
      injection he with he
      omega
  · exact (bel.alloc (Nat.le_trans hB bel.size) _).grown hgrow (by have := bel.size; simp; omega) (fun q hq => by have := hrow q hq; omega)

set_option maxRecDepth 100000 in
set_option maxHeartbeats 8000000 in
theorem play_calls (w : World) (B0 p : Nat) (base most call : Int) (av wv : Value) (xs ws : List Int) (st : MS) (F : List Nat)
    (ha : Reads w B0 av xs) (hw : Reads w B0 wv ws) (hr : Rep w p st F) (hF : ∀ q ∈ F, B0 ≤ q) (hB : B0 ≤ w.heap.size) (hs : Sim base most call xs st [] 0 w0) :
    Calls Try.prog 21 #[.pointer (some ⟨p, 0, none⟩), .agg #[.int .i64 base, .int .i64 most, .int .i64 call, av, wv]] w
      fun e w' => e = .returned (.bool true) ∧ Below B0 w w' := by
  have hmem := rep_mem hr
  obtain ⟨i0, hi, hz0, hz1, hz2⟩ := info_parts infoI64
  obtain ⟨hwl, hwr, wa, wc, rfl, hwc, hwcell⟩ := hw
  obtain ⟨hal, har, aa, ac, rfl, hac, hacell⟩ := ha
  have HA : Reads w B0 (.slice aa xs.length ac) xs := ⟨hal, har, aa, ac, rfl, hac, hacell⟩
  clear har hacell hac
  have hinv : PlayInv w B0 p base most call (.slice aa xs.length ac) (.slice wa ws.length wc) xs
      ((w.alloc (.cells #[.int .i64 base, .int .i64 most, .int .i64 call, .slice aa xs.length ac, .slice wa ws.length wc] 36)).alloc (.cells #[.int .i64 0, .int .i64 0, .int .i64 0, .int .i64 0] 44)) (.slice none 0 0) st F [] 0 w0 := by
    refine ⟨heap_old (heap_new rfl), heap_new (by simp), rep_keep hr fun q hq => ?_, fun q hq => ⟨hF q hq, .inl (hmem.2 q hq)⟩, World.ownsRow_nil _ _ _ _, fun q hq => by simp [Value.ownBlock], ((Below.refl _ _).alloc hB _).alloc (by simp; omega) _, hs, hmem.2 p hmem.1⟩
    have := hmem.2 q hq
    rw [Below.heap_alloc _ _ _ (by simp; omega), Below.heap_alloc _ _ _ this]
  have HI := Lib.hid hinv
  have HR := Lib.hid hwr
  clear hinv hr hs hwr hmem
  go_enter Try.func21, Try.ntmps21
  go_wp2
  go_loopg [5, 6, 8] (budget ws.length 0 [] 0 w0) (fun n v5 v6 v8 wr => ∃ (k : Nat) (st : MS) (F : List Nat) (read : List Int) (writes : Int) (last : WantS),
    v8 = .int .i64 k ∧ v6 = .int .i64 writes ∧ k + n ≤ ws.length + 4 + 4 * simBound + 1 ∧ PlayInv w B0 p base most call (.slice aa xs.length ac) (.slice wa ws.length wc) xs wr v5 st F read writes last ∧ n = budget ws.length k read writes last)
  case atStart => exact ⟨0, st, F, [], 0, w0, rfl, rfl, by simp [budget, w0]; omega, HI.out, rfl⟩
  case round =>
    clear HI
    obtain ⟨k, st, F, read, writes, last, rfl, rfl, hkn, inv, rfl⟩ := hrel
    have hkb : k ≤ 17592186043904 + 10000 := by unfold simBound at hkn; omega
    obtain ⟨boxA, boxL, rep, foot, own, apart, bel, sim, plt⟩ := inv
    obtain ⟨r1, r2, r3, r4, r5⟩ := sim_kind sim
    have r4n : writes ≤ 1000 := by unfold simBound at r4; omega
    have hok := Lib.hid (sim_askable sim)
    obtain ⟨l0, l1, l2, l3⟩ := last
    simp only at boxL
    obtain ⟨cA0, cA1, cA2, cA3, cA4⟩ := box5 boxA
    obtain ⟨⟨cL0, cL1, cL2, cL3⟩, ⟨fL0, fL1, fL2, fL3⟩, hLlt⟩ := box4 boxL
    have hsz := bel.size
    have hcell : k < ws.length → wr.cell? (wa.getD ⟨0, 0, none⟩ |>.add k) = some (.int .i64 (ws.getD k 0)) := by
      intro hk
      rcases hwcell with h | ⟨b, off, h, hb, hc⟩
      · exact absurd hk (by rw [h]; simp)
      · subst h
        simp only [Option.getD_some]
        have := (bel.cell (p := ⟨b, off + k, none⟩) hb).trans (hc k hk)
        rw [addr_add]
        exact this
    have hv : In64 (ws.getD k 0) := by
      by_cases hk : k < ws.length
      · exact HR.out _ (by simp [List.getD_eq_getElem?_getD, hk])
      · simp [List.getD_eq_getElem?_getD, Nat.not_lt.1 hk, In64]
    by_cases hdone : ¬ k < ws.length + 4 ∧ l0 = 6
    · obtain ⟨h1, rfl⟩ := hdone
      go_wp2
      go_ret
      exact ⟨rfl, bel⟩
    · have hcond : k < ws.length + 4 ∨ l0 ≠ 6 := by omega
      have hless := Lib.hid (budget_less ws.length k sim hv hcond)
      -- up to the call of wants: the word, what was read, how many writes were told
      have hval : k < ws.length → ∃ b off, wa = some ⟨b, off, none⟩ ∧ wr.cell? ⟨b, off + k, none⟩ = some (.int .i64 (ws.getD k 0)) := by
        intro hk
        rcases hwcell with h | ⟨b, off, h, hb, hc⟩
        · exact absurd hk (by rw [h]; simp)
        · exact ⟨b, off, h, (bel.cell (p := ⟨b, off + k, none⟩) hb).trans (hc k hk)⟩
      have HSIM := Lib.hid (sim_step sim hv)
      clear sim hcell
      have hwkz : ¬ k < ws.length → ws.getD k 0 = 0 := fun h => by simp [List.getD_eq_getElem?_getD, Nat.not_lt.1 h]
      generalize hgw : ws.getD k 0 = v at *
      clear hgw HR
      by_cases hk : k < ws.length
      · obtain ⟨b, off, rfl, hcw⟩ := hval hk
        have hkk : k < ws.length + 4 := by omega
        clear hval hwkz hdone hcond hwcell
        by_cases e2 : l0 = 2
        · subst e2
          have er : readOf ⟨2, l1, l2, l3⟩ read v = (read ++ [v]) := rfl
          have ew : writesOf ⟨2, l1, l2, l3⟩ writes = writes := rfl
          rw [er, ew] at HSIM hless
          obtain ⟨W, hWd⟩ : ∃ W, W = wantsS base most call xs (read ++ [v]) writes ⟨2, l1, l2, l3⟩ := ⟨_, rfl⟩
          rw [← hWd] at HSIM hless
          have HW := Lib.hid hWd
          have ⟨rR0, rR, _⟩ := sim_kind HSIM.out.2.1
          clear er ew hWd r1
          have HBA := Lib.hid boxA
          have HBL := Lib.hid boxL
          clear boxA boxL
          go_wp2_with (at_builtin; refine wpList_append_one rfl _ _ 24 rfl (w.heap.size + 2) 2 i0 (.int .i64 0) Try.underlying24 hi hz0 hz1 hz2 rfl _ _ _ rfl own (.int .i64 v) rfl rfl (Nat.le_trans r2 (by decide)) hLlt ?_)
          intro v' wx hown' hgrow hblk
          obtain ⟨hAx, hLx, repx, apartx, belx, hLlx⟩ := play_append hB HBA.out HBL.out rep own apart bel hgrow hblk
          have ownx : wx.ownsRow (w.heap.size + 2) 2 1 v' (read ++ [v]).length ((read ++ [v]).map (Value.int .i64)) := by simpa using hown'
          clear cA0 cA1 cA2 cA3 cA4 cL0 cL1 cL2 cL3 fL0 fL1 fL2 fL3 own rep apart bel hown' hgrow hblk HBA HBL
          obtain ⟨cA0, cA1, cA2, cA3, -⟩ := box5 hAx
          obtain ⟨⟨cL0, cL1, cL2, cL3⟩, -, -⟩ := box4 hLx
          go_wp2_with fail
          refine (wants_calls _ _ base most call _ _ _ xs (read ++ [v]) ⟨2, l1, l2, l3⟩ ((HA.below belx).mono (Nat.le_trans hB belx.size)) (Owns.reads ownx (by unfold simBound at rR; omega) rR0) (Nat.le_refl _) hok.out).mono ?_
          rintro e w2 ⟨rfl, hb2⟩
          have hA2 := box_keep hb2 hAx
          have hL2 := box_keep hb2 hLx
          rw [← HW.out]
          simp only [WantS.val]
          have hp2 : p < w2.heap.size := by have := hb2.size; have := belx.size; omega
          go_wp2_with fail
          have rep2 : Rep (w2.alloc (.cells #[.int .i64 W.kind, .int .i64 W.cell, .int .i64 W.value, .int .i64 W.code] 44)) p st F := rep_keep repx fun q hq => by
            have hlt := (rep_mem repx).2 q hq
            have := hb2.size
            rw [Below.heap_alloc _ _ _ (by omega)]
            exact hb2.block q hlt
          refine (Next_calls _ p st F _ rep2).mono ?_
          rintro e w3 ⟨rfl, hg3, F', rep3, hF'⟩
          rw [HSIM.out.1]
          simp only [WantS.val]
          have hA3 := box_grown hg3 (heap_old hA2) (by omega)
          have hL3 := box_grown hg3 (heap_old hL2) (by omega)
          have hW3 := box_grown hg3 (heap_new (w := w2) rfl) (by omega)
          obtain ⟨⟨cW0, cW1, cW2, cW3⟩, -, hWlt⟩ := box4 hW3
          obtain ⟨⟨cM0, cM1, cM2, cM3⟩, ⟨fM0, fM1, fM2, fM3⟩, hMlt⟩ := box4 hL3
          have HA3 := Lib.hid hA3
          have HL3 := Lib.hid hL3
          clear hA3 hL3 hA2 hL2 hW3 hAx hLx cA0 cA1 cA2 cA3 cL0 cL1 cL2 cL3
          go_wp2
          go_roundg (budget ws.length (k + 1) (read ++ [v]) writes W)
          case measure => exact hless.out
          case rel => exact ⟨k + 1, stepM st v, F', (read ++ [v]), writes, W, by go_num, rfl, by have := hless.out; omega, play_next hB plt HA3.out HL3.out belx hb2 hg3 hLlx ownx apartx foot (rep_mem repx).1 rep3 hF' HSIM.out.2.1, rfl⟩
        · have e2' : (l0 == 2) = false := by simpa using e2
          by_cases e3 : l0 = 3
          · subst e3
            have er : readOf ⟨3, l1, l2, l3⟩ read v = read := rfl
            have ew : writesOf ⟨3, l1, l2, l3⟩ writes = (writes + 1) := rfl
            rw [er, ew] at HSIM hless
            obtain ⟨W, hWd⟩ : ∃ W, W = wantsS base most call xs read (writes + 1) ⟨3, l1, l2, l3⟩ := ⟨_, rfl⟩
            rw [← hWd] at HSIM hless
            have HW := Lib.hid hWd
            have ⟨rR0, rR, _⟩ := sim_kind HSIM.out.2.1
            have hAx := boxA
            have hLx := boxL
            have repx := rep
            have ownx := own
            have apartx := apart
            have belx := bel
            have hLlx := hLlt
            clear er ew hWd own rep apart bel boxA boxL r1
            go_wp2_with fail
            clear cA4 fL0 fL1 fL2 fL3
            refine (wants_calls _ _ base most call _ _ _ xs read ⟨3, l1, l2, l3⟩ ((HA.below belx).mono (Nat.le_trans hB belx.size)) (Owns.reads ownx (by unfold simBound at rR; omega) rR0) (Nat.le_refl _) hok.out).mono ?_
            rintro e w2 ⟨rfl, hb2⟩
            have hA2 := box_keep hb2 hAx
            have hL2 := box_keep hb2 hLx
            rw [← HW.out]
            simp only [WantS.val]
            have hp2 : p < w2.heap.size := by have := hb2.size; have := belx.size; omega
            go_wp2_with fail
            have rep2 : Rep (w2.alloc (.cells #[.int .i64 W.kind, .int .i64 W.cell, .int .i64 W.value, .int .i64 W.code] 44)) p st F := rep_keep repx fun q hq => by
              have hlt := (rep_mem repx).2 q hq
              have := hb2.size
              rw [Below.heap_alloc _ _ _ (by omega)]
              exact hb2.block q hlt
            refine (Next_calls _ p st F _ rep2).mono ?_
            rintro e w3 ⟨rfl, hg3, F', rep3, hF'⟩
            rw [HSIM.out.1]
            simp only [WantS.val]
            have hA3 := box_grown hg3 (heap_old hA2) (by omega)
            have hL3 := box_grown hg3 (heap_old hL2) (by omega)
            have hW3 := box_grown hg3 (heap_new (w := w2) rfl) (by omega)
            obtain ⟨⟨cW0, cW1, cW2, cW3⟩, -, hWlt⟩ := box4 hW3
            obtain ⟨⟨cM0, cM1, cM2, cM3⟩, ⟨fM0, fM1, fM2, fM3⟩, hMlt⟩ := box4 hL3
            have HA3 := Lib.hid hA3
            have HL3 := Lib.hid hL3
            clear hA3 hL3 hA2 hL2 hW3 hAx hLx cA0 cA1 cA2 cA3 cL0 cL1 cL2 cL3
            go_wp2
            go_roundg (budget ws.length (k + 1) read (writes + 1) W)
            case measure => exact hless.out
            case rel => exact ⟨k + 1, stepM st v, F', read, (writes + 1), W, by go_num, rfl, by have := hless.out; omega, play_next hB plt HA3.out HL3.out belx hb2 hg3 hLlx ownx apartx foot (rep_mem repx).1 rep3 hF' HSIM.out.2.1, rfl⟩
          · have e3' : (l0 == 3) = false := by simpa using e3
            have er : readOf ⟨l0, l1, l2, l3⟩ read v = read := if_neg e2
            have ew : writesOf ⟨l0, l1, l2, l3⟩ writes = writes := if_neg e3
            rw [er, ew] at HSIM hless
            obtain ⟨W, hWd⟩ : ∃ W, W = wantsS base most call xs read writes ⟨l0, l1, l2, l3⟩ := ⟨_, rfl⟩
            rw [← hWd] at HSIM hless
            have HW := Lib.hid hWd
            have ⟨rR0, rR, _⟩ := sim_kind HSIM.out.2.1
            have hAx := boxA
            have hLx := boxL
            have repx := rep
            have ownx := own
            have apartx := apart
            have belx := bel
            have hLlx := hLlt
            clear e2 e3 er ew hWd own rep apart bel boxA boxL r1
            go_wp2_with fail
            clear cA4 fL0 fL1 fL2 fL3
            refine (wants_calls _ _ base most call _ _ _ xs read ⟨l0, l1, l2, l3⟩ ((HA.below belx).mono (Nat.le_trans hB belx.size)) (Owns.reads ownx (by unfold simBound at rR; omega) rR0) (Nat.le_refl _) hok.out).mono ?_
            rintro e w2 ⟨rfl, hb2⟩
            have hA2 := box_keep hb2 hAx
            have hL2 := box_keep hb2 hLx
            rw [← HW.out]
            simp only [WantS.val]
            have hp2 : p < w2.heap.size := by have := hb2.size; have := belx.size; omega
            go_wp2_with fail
            have rep2 : Rep (w2.alloc (.cells #[.int .i64 W.kind, .int .i64 W.cell, .int .i64 W.value, .int .i64 W.code] 44)) p st F := rep_keep repx fun q hq => by
              have hlt := (rep_mem repx).2 q hq
              have := hb2.size
              rw [Below.heap_alloc _ _ _ (by omega)]
              exact hb2.block q hlt
            refine (Next_calls _ p st F _ rep2).mono ?_
            rintro e w3 ⟨rfl, hg3, F', rep3, hF'⟩
            rw [HSIM.out.1]
            simp only [WantS.val]
            have hA3 := box_grown hg3 (heap_old hA2) (by omega)
            have hL3 := box_grown hg3 (heap_old hL2) (by omega)
            have hW3 := box_grown hg3 (heap_new (w := w2) rfl) (by omega)
            obtain ⟨⟨cW0, cW1, cW2, cW3⟩, -, hWlt⟩ := box4 hW3
            obtain ⟨⟨cM0, cM1, cM2, cM3⟩, ⟨fM0, fM1, fM2, fM3⟩, hMlt⟩ := box4 hL3
            have HA3 := Lib.hid hA3
            have HL3 := Lib.hid hL3
            clear hA3 hL3 hA2 hL2 hW3 hAx hLx cA0 cA1 cA2 cA3 cL0 cL1 cL2 cL3
            go_wp2
            go_roundg (budget ws.length (k + 1) read writes W)
            case measure => exact hless.out
            case rel => exact ⟨k + 1, stepM st v, F', read, writes, W, by go_num, rfl, by have := hless.out; omega, play_next hB plt HA3.out HL3.out belx hb2 hg3 hLlx ownx apartx foot (rep_mem repx).1 rep3 hF' HSIM.out.2.1, rfl⟩
      · have hz : v = 0 := hwkz hk
        subst hz
        have hkw : ws.length ≤ k := by omega
        clear hval hwkz hwcell hk
        by_cases hkk : k < ws.length + 4
        · clear hdone hcond
          by_cases e2 : l0 = 2
          · subst e2
            have er : readOf ⟨2, l1, l2, l3⟩ read 0 = (read ++ [0]) := rfl
            have ew : writesOf ⟨2, l1, l2, l3⟩ writes = writes := rfl
            rw [er, ew] at HSIM hless
            obtain ⟨W, hWd⟩ : ∃ W, W = wantsS base most call xs (read ++ [0]) writes ⟨2, l1, l2, l3⟩ := ⟨_, rfl⟩
            rw [← hWd] at HSIM hless
            have HW := Lib.hid hWd
            have ⟨rR0, rR, _⟩ := sim_kind HSIM.out.2.1
            clear er ew hWd r1
            have HBA := Lib.hid boxA
            have HBL := Lib.hid boxL
            clear boxA boxL
            go_wp2_with (at_builtin; refine wpList_append_one rfl _ _ 24 rfl (w.heap.size + 2) 2 i0 (.int .i64 0) Try.underlying24 hi hz0 hz1 hz2 rfl _ _ _ rfl own (.int .i64 0) rfl rfl (Nat.le_trans r2 (by decide)) hLlt ?_)
            intro v' wx hown' hgrow hblk
            obtain ⟨hAx, hLx, repx, apartx, belx, hLlx⟩ := play_append hB HBA.out HBL.out rep own apart bel hgrow hblk
            have ownx : wx.ownsRow (w.heap.size + 2) 2 1 v' (read ++ [0]).length ((read ++ [0]).map (Value.int .i64)) := by simpa using hown'
            clear cA0 cA1 cA2 cA3 cA4 cL0 cL1 cL2 cL3 fL0 fL1 fL2 fL3 own rep apart bel hown' hgrow hblk HBA HBL
            obtain ⟨cA0, cA1, cA2, cA3, -⟩ := box5 hAx
            obtain ⟨⟨cL0, cL1, cL2, cL3⟩, -, -⟩ := box4 hLx
            go_wp2_with fail
            refine (wants_calls _ _ base most call _ _ _ xs (read ++ [0]) ⟨2, l1, l2, l3⟩ ((HA.below belx).mono (Nat.le_trans hB belx.size)) (Owns.reads ownx (by unfold simBound at rR; omega) rR0) (Nat.le_refl _) hok.out).mono ?_
            rintro e w2 ⟨rfl, hb2⟩
            have hA2 := box_keep hb2 hAx
            have hL2 := box_keep hb2 hLx
            rw [← HW.out]
            simp only [WantS.val]
            have hp2 : p < w2.heap.size := by have := hb2.size; have := belx.size; omega
            go_wp2_with fail
            have rep2 : Rep (w2.alloc (.cells #[.int .i64 W.kind, .int .i64 W.cell, .int .i64 W.value, .int .i64 W.code] 44)) p st F := rep_keep repx fun q hq => by
              have hlt := (rep_mem repx).2 q hq
              have := hb2.size
              rw [Below.heap_alloc _ _ _ (by omega)]
              exact hb2.block q hlt
            refine (Next_calls _ p st F _ rep2).mono ?_
            rintro e w3 ⟨rfl, hg3, F', rep3, hF'⟩
            rw [HSIM.out.1]
            simp only [WantS.val]
            have hA3 := box_grown hg3 (heap_old hA2) (by omega)
            have hL3 := box_grown hg3 (heap_old hL2) (by omega)
            have hW3 := box_grown hg3 (heap_new (w := w2) rfl) (by omega)
            obtain ⟨⟨cW0, cW1, cW2, cW3⟩, -, hWlt⟩ := box4 hW3
            obtain ⟨⟨cM0, cM1, cM2, cM3⟩, ⟨fM0, fM1, fM2, fM3⟩, hMlt⟩ := box4 hL3
            have HA3 := Lib.hid hA3
            have HL3 := Lib.hid hL3
            clear hA3 hL3 hA2 hL2 hW3 hAx hLx cA0 cA1 cA2 cA3 cL0 cL1 cL2 cL3
            go_wp2
            go_roundg (budget ws.length (k + 1) (read ++ [0]) writes W)
            case measure => exact hless.out
            case rel => exact ⟨k + 1, stepM st 0, F', (read ++ [0]), writes, W, by go_num, rfl, by have := hless.out; omega, play_next hB plt HA3.out HL3.out belx hb2 hg3 hLlx ownx apartx foot (rep_mem repx).1 rep3 hF' HSIM.out.2.1, rfl⟩
          · have e2' : (l0 == 2) = false := by simpa using e2
            by_cases e3 : l0 = 3
            · subst e3
              have er : readOf ⟨3, l1, l2, l3⟩ read 0 = read := rfl
              have ew : writesOf ⟨3, l1, l2, l3⟩ writes = (writes + 1) := rfl
              rw [er, ew] at HSIM hless
              obtain ⟨W, hWd⟩ : ∃ W, W = wantsS base most call xs read (writes + 1) ⟨3, l1, l2, l3⟩ := ⟨_, rfl⟩
              rw [← hWd] at HSIM hless
              have HW := Lib.hid hWd
              have ⟨rR0, rR, _⟩ := sim_kind HSIM.out.2.1
              have hAx := boxA
              have hLx := boxL
              have repx := rep
              have ownx := own
              have apartx := apart
              have belx := bel
              have hLlx := hLlt
              clear er ew hWd own rep apart bel boxA boxL r1
              go_wp2_with fail
              clear cA4 fL0 fL1 fL2 fL3
              refine (wants_calls _ _ base most call _ _ _ xs read ⟨3, l1, l2, l3⟩ ((HA.below belx).mono (Nat.le_trans hB belx.size)) (Owns.reads ownx (by unfold simBound at rR; omega) rR0) (Nat.le_refl _) hok.out).mono ?_
              rintro e w2 ⟨rfl, hb2⟩
              have hA2 := box_keep hb2 hAx
              have hL2 := box_keep hb2 hLx
              rw [← HW.out]
              simp only [WantS.val]
              have hp2 : p < w2.heap.size := by have := hb2.size; have := belx.size; omega
              go_wp2_with fail
              have rep2 : Rep (w2.alloc (.cells #[.int .i64 W.kind, .int .i64 W.cell, .int .i64 W.value, .int .i64 W.code] 44)) p st F := rep_keep repx fun q hq => by
                have hlt := (rep_mem repx).2 q hq
                have := hb2.size
                rw [Below.heap_alloc _ _ _ (by omega)]
                exact hb2.block q hlt
              refine (Next_calls _ p st F _ rep2).mono ?_
              rintro e w3 ⟨rfl, hg3, F', rep3, hF'⟩
              rw [HSIM.out.1]
              simp only [WantS.val]
              have hA3 := box_grown hg3 (heap_old hA2) (by omega)
              have hL3 := box_grown hg3 (heap_old hL2) (by omega)
              have hW3 := box_grown hg3 (heap_new (w := w2) rfl) (by omega)
              obtain ⟨⟨cW0, cW1, cW2, cW3⟩, -, hWlt⟩ := box4 hW3
              obtain ⟨⟨cM0, cM1, cM2, cM3⟩, ⟨fM0, fM1, fM2, fM3⟩, hMlt⟩ := box4 hL3
              have HA3 := Lib.hid hA3
              have HL3 := Lib.hid hL3
              clear hA3 hL3 hA2 hL2 hW3 hAx hLx cA0 cA1 cA2 cA3 cL0 cL1 cL2 cL3
              go_wp2
              go_roundg (budget ws.length (k + 1) read (writes + 1) W)
              case measure => exact hless.out
              case rel => exact ⟨k + 1, stepM st 0, F', read, (writes + 1), W, by go_num, rfl, by have := hless.out; omega, play_next hB plt HA3.out HL3.out belx hb2 hg3 hLlx ownx apartx foot (rep_mem repx).1 rep3 hF' HSIM.out.2.1, rfl⟩
            · have e3' : (l0 == 3) = false := by simpa using e3
              have er : readOf ⟨l0, l1, l2, l3⟩ read 0 = read := if_neg e2
              have ew : writesOf ⟨l0, l1, l2, l3⟩ writes = writes := if_neg e3
              rw [er, ew] at HSIM hless
              obtain ⟨W, hWd⟩ : ∃ W, W = wantsS base most call xs read writes ⟨l0, l1, l2, l3⟩ := ⟨_, rfl⟩
              rw [← hWd] at HSIM hless
              have HW := Lib.hid hWd
              have ⟨rR0, rR, _⟩ := sim_kind HSIM.out.2.1
              have hAx := boxA
              have hLx := boxL
              have repx := rep
              have ownx := own
              have apartx := apart
              have belx := bel
              have hLlx := hLlt
              clear e2 e3 er ew hWd own rep apart bel boxA boxL r1
              go_wp2_with fail
              clear cA4 fL0 fL1 fL2 fL3
              refine (wants_calls _ _ base most call _ _ _ xs read ⟨l0, l1, l2, l3⟩ ((HA.below belx).mono (Nat.le_trans hB belx.size)) (Owns.reads ownx (by unfold simBound at rR; omega) rR0) (Nat.le_refl _) hok.out).mono ?_
              rintro e w2 ⟨rfl, hb2⟩
              have hA2 := box_keep hb2 hAx
              have hL2 := box_keep hb2 hLx
              rw [← HW.out]
              simp only [WantS.val]
              have hp2 : p < w2.heap.size := by have := hb2.size; have := belx.size; omega
              go_wp2_with fail
              have rep2 : Rep (w2.alloc (.cells #[.int .i64 W.kind, .int .i64 W.cell, .int .i64 W.value, .int .i64 W.code] 44)) p st F := rep_keep repx fun q hq => by
                have hlt := (rep_mem repx).2 q hq
                have := hb2.size
                rw [Below.heap_alloc _ _ _ (by omega)]
                exact hb2.block q hlt
              refine (Next_calls _ p st F _ rep2).mono ?_
              rintro e w3 ⟨rfl, hg3, F', rep3, hF'⟩
              rw [HSIM.out.1]
              simp only [WantS.val]
              have hA3 := box_grown hg3 (heap_old hA2) (by omega)
              have hL3 := box_grown hg3 (heap_old hL2) (by omega)
              have hW3 := box_grown hg3 (heap_new (w := w2) rfl) (by omega)
              obtain ⟨⟨cW0, cW1, cW2, cW3⟩, -, hWlt⟩ := box4 hW3
              obtain ⟨⟨cM0, cM1, cM2, cM3⟩, ⟨fM0, fM1, fM2, fM3⟩, hMlt⟩ := box4 hL3
              have HA3 := Lib.hid hA3
              have HL3 := Lib.hid hL3
              clear hA3 hL3 hA2 hL2 hW3 hAx hLx cA0 cA1 cA2 cA3 cL0 cL1 cL2 cL3
              go_wp2
              go_roundg (budget ws.length (k + 1) read writes W)
              case measure => exact hless.out
              case rel => exact ⟨k + 1, stepM st 0, F', read, writes, W, by go_num, rfl, by have := hless.out; omega, play_next hB plt HA3.out HL3.out belx hb2 hg3 hLlx ownx apartx foot (rep_mem repx).1 rep3 hF' HSIM.out.2.1, rfl⟩
        · have h6 : l0 ≠ 6 := fun h => hdone ⟨hkk, h⟩
          have h6' : (l0 != 6) = true := by simpa using h6
          have hkk' : ws.length + 4 ≤ k := by omega
          clear hdone hcond h6 hkk
          by_cases e2 : l0 = 2
          · subst e2
            have er : readOf ⟨2, l1, l2, l3⟩ read 0 = (read ++ [0]) := rfl
            have ew : writesOf ⟨2, l1, l2, l3⟩ writes = writes := rfl
            rw [er, ew] at HSIM hless
            obtain ⟨W, hWd⟩ : ∃ W, W = wantsS base most call xs (read ++ [0]) writes ⟨2, l1, l2, l3⟩ := ⟨_, rfl⟩
            rw [← hWd] at HSIM hless
            have HW := Lib.hid hWd
            have ⟨rR0, rR, _⟩ := sim_kind HSIM.out.2.1
            clear er ew hWd r1
            have HBA := Lib.hid boxA
            have HBL := Lib.hid boxL
            clear boxA boxL
            go_wp2_with (at_builtin; refine wpList_append_one rfl _ _ 24 rfl (w.heap.size + 2) 2 i0 (.int .i64 0) Try.underlying24 hi hz0 hz1 hz2 rfl _ _ _ rfl own (.int .i64 0) rfl rfl (Nat.le_trans r2 (by decide)) hLlt ?_)
            intro v' wx hown' hgrow hblk
            obtain ⟨hAx, hLx, repx, apartx, belx, hLlx⟩ := play_append hB HBA.out HBL.out rep own apart bel hgrow hblk
            have ownx : wx.ownsRow (w.heap.size + 2) 2 1 v' (read ++ [0]).length ((read ++ [0]).map (Value.int .i64)) := by simpa using hown'
            clear cA0 cA1 cA2 cA3 cA4 cL0 cL1 cL2 cL3 fL0 fL1 fL2 fL3 own rep apart bel hown' hgrow hblk HBA HBL
            obtain ⟨cA0, cA1, cA2, cA3, -⟩ := box5 hAx
            obtain ⟨⟨cL0, cL1, cL2, cL3⟩, -, -⟩ := box4 hLx
            go_wp2_with fail
            refine (wants_calls _ _ base most call _ _ _ xs (read ++ [0]) ⟨2, l1, l2, l3⟩ ((HA.below belx).mono (Nat.le_trans hB belx.size)) (Owns.reads ownx (by unfold simBound at rR; omega) rR0) (Nat.le_refl _) hok.out).mono ?_
            rintro e w2 ⟨rfl, hb2⟩
            have hA2 := box_keep hb2 hAx
            have hL2 := box_keep hb2 hLx
            rw [← HW.out]
            simp only [WantS.val]
            have hp2 : p < w2.heap.size := by have := hb2.size; have := belx.size; omega
            go_wp2_with fail
            have rep2 : Rep (w2.alloc (.cells #[.int .i64 W.kind, .int .i64 W.cell, .int .i64 W.value, .int .i64 W.code] 44)) p st F := rep_keep repx fun q hq => by
              have hlt := (rep_mem repx).2 q hq
              have := hb2.size
              rw [Below.heap_alloc _ _ _ (by omega)]
              exact hb2.block q hlt
            refine (Next_calls _ p st F _ rep2).mono ?_
            rintro e w3 ⟨rfl, hg3, F', rep3, hF'⟩
            rw [HSIM.out.1]
            simp only [WantS.val]
            have hA3 := box_grown hg3 (heap_old hA2) (by omega)
            have hL3 := box_grown hg3 (heap_old hL2) (by omega)
            have hW3 := box_grown hg3 (heap_new (w := w2) rfl) (by omega)
            obtain ⟨⟨cW0, cW1, cW2, cW3⟩, -, hWlt⟩ := box4 hW3
            obtain ⟨⟨cM0, cM1, cM2, cM3⟩, ⟨fM0, fM1, fM2, fM3⟩, hMlt⟩ := box4 hL3
            have HA3 := Lib.hid hA3
            have HL3 := Lib.hid hL3
            clear hA3 hL3 hA2 hL2 hW3 hAx hLx cA0 cA1 cA2 cA3 cL0 cL1 cL2 cL3
            go_wp2
            go_roundg (budget ws.length (k + 1) (read ++ [0]) writes W)
            case measure => exact hless.out
            case rel => exact ⟨k + 1, stepM st 0, F', (read ++ [0]), writes, W, by go_num, rfl, by have := hless.out; omega, play_next hB plt HA3.out HL3.out belx hb2 hg3 hLlx ownx apartx foot (rep_mem repx).1 rep3 hF' HSIM.out.2.1, rfl⟩
          · have e2' : (l0 == 2) = false := by simpa using e2
            by_cases e3 : l0 = 3
            · subst e3
              have er : readOf ⟨3, l1, l2, l3⟩ read 0 = read := rfl
              have ew : writesOf ⟨3, l1, l2, l3⟩ writes = (writes + 1) := rfl
              rw [er, ew] at HSIM hless
              obtain ⟨W, hWd⟩ : ∃ W, W = wantsS base most call xs read (writes + 1) ⟨3, l1, l2, l3⟩ := ⟨_, rfl⟩
              rw [← hWd] at HSIM hless
              have HW := Lib.hid hWd
              have ⟨rR0, rR, _⟩ := sim_kind HSIM.out.2.1
              have hAx := boxA
              have hLx := boxL
              have repx := rep
              have ownx := own
              have apartx := apart
              have belx := bel
              have hLlx := hLlt
              clear er ew hWd own rep apart bel boxA boxL r1
              go_wp2_with fail
              clear cA4 fL0 fL1 fL2 fL3
              refine (wants_calls _ _ base most call _ _ _ xs read ⟨3, l1, l2, l3⟩ ((HA.below belx).mono (Nat.le_trans hB belx.size)) (Owns.reads ownx (by unfold simBound at rR; omega) rR0) (Nat.le_refl _) hok.out).mono ?_
              rintro e w2 ⟨rfl, hb2⟩
              have hA2 := box_keep hb2 hAx
              have hL2 := box_keep hb2 hLx
              rw [← HW.out]
              simp only [WantS.val]
              have hp2 : p < w2.heap.size := by have := hb2.size; have := belx.size; omega
              go_wp2_with fail
              have rep2 : Rep (w2.alloc (.cells #[.int .i64 W.kind, .int .i64 W.cell, .int .i64 W.value, .int .i64 W.code] 44)) p st F := rep_keep repx fun q hq => by
                have hlt := (rep_mem repx).2 q hq
                have := hb2.size
                rw [Below.heap_alloc _ _ _ (by omega)]
                exact hb2.block q hlt
              refine (Next_calls _ p st F _ rep2).mono ?_
              rintro e w3 ⟨rfl, hg3, F', rep3, hF'⟩
              rw [HSIM.out.1]
              simp only [WantS.val]
              have hA3 := box_grown hg3 (heap_old hA2) (by omega)
              have hL3 := box_grown hg3 (heap_old hL2) (by omega)
              have hW3 := box_grown hg3 (heap_new (w := w2) rfl) (by omega)
              obtain ⟨⟨cW0, cW1, cW2, cW3⟩, -, hWlt⟩ := box4 hW3
              obtain ⟨⟨cM0, cM1, cM2, cM3⟩, ⟨fM0, fM1, fM2, fM3⟩, hMlt⟩ := box4 hL3
              have HA3 := Lib.hid hA3
              have HL3 := Lib.hid hL3
              clear hA3 hL3 hA2 hL2 hW3 hAx hLx cA0 cA1 cA2 cA3 cL0 cL1 cL2 cL3
              go_wp2
              go_roundg (budget ws.length (k + 1) read (writes + 1) W)
              case measure => exact hless.out
              case rel => exact ⟨k + 1, stepM st 0, F', read, (writes + 1), W, by go_num, rfl, by have := hless.out; omega, play_next hB plt HA3.out HL3.out belx hb2 hg3 hLlx ownx apartx foot (rep_mem repx).1 rep3 hF' HSIM.out.2.1, rfl⟩
            · have e3' : (l0 == 3) = false := by simpa using e3
              have er : readOf ⟨l0, l1, l2, l3⟩ read 0 = read := if_neg e2
              have ew : writesOf ⟨l0, l1, l2, l3⟩ writes = writes := if_neg e3
              rw [er, ew] at HSIM hless
              obtain ⟨W, hWd⟩ : ∃ W, W = wantsS base most call xs read writes ⟨l0, l1, l2, l3⟩ := ⟨_, rfl⟩
              rw [← hWd] at HSIM hless
              have HW := Lib.hid hWd
              have ⟨rR0, rR, _⟩ := sim_kind HSIM.out.2.1
              have hAx := boxA
              have hLx := boxL
              have repx := rep
              have ownx := own
              have apartx := apart
              have belx := bel
              have hLlx := hLlt
              clear e2 e3 er ew hWd own rep apart bel boxA boxL r1
              go_wp2_with fail
              clear cA4 fL0 fL1 fL2 fL3
              refine (wants_calls _ _ base most call _ _ _ xs read ⟨l0, l1, l2, l3⟩ ((HA.below belx).mono (Nat.le_trans hB belx.size)) (Owns.reads ownx (by unfold simBound at rR; omega) rR0) (Nat.le_refl _) hok.out).mono ?_
              rintro e w2 ⟨rfl, hb2⟩
              have hA2 := box_keep hb2 hAx
              have hL2 := box_keep hb2 hLx
              rw [← HW.out]
              simp only [WantS.val]
              have hp2 : p < w2.heap.size := by have := hb2.size; have := belx.size; omega
              go_wp2_with fail
              have rep2 : Rep (w2.alloc (.cells #[.int .i64 W.kind, .int .i64 W.cell, .int .i64 W.value, .int .i64 W.code] 44)) p st F := rep_keep repx fun q hq => by
                have hlt := (rep_mem repx).2 q hq
                have := hb2.size
                rw [Below.heap_alloc _ _ _ (by omega)]
                exact hb2.block q hlt
              refine (Next_calls _ p st F _ rep2).mono ?_
              rintro e w3 ⟨rfl, hg3, F', rep3, hF'⟩
              rw [HSIM.out.1]
              simp only [WantS.val]
              have hA3 := box_grown hg3 (heap_old hA2) (by omega)
              have hL3 := box_grown hg3 (heap_old hL2) (by omega)
              have hW3 := box_grown hg3 (heap_new (w := w2) rfl) (by omega)
              obtain ⟨⟨cW0, cW1, cW2, cW3⟩, -, hWlt⟩ := box4 hW3
              obtain ⟨⟨cM0, cM1, cM2, cM3⟩, ⟨fM0, fM1, fM2, fM3⟩, hMlt⟩ := box4 hL3
              have HA3 := Lib.hid hA3
              have HL3 := Lib.hid hL3
              clear hA3 hL3 hA2 hL2 hW3 hAx hLx cA0 cA1 cA2 cA3 cL0 cL1 cL2 cL3
              go_wp2
              go_roundg (budget ws.length (k + 1) read writes W)
              case measure => exact hless.out
              case rel => exact ⟨k + 1, stepM st 0, F', read, writes, W, by go_num, rfl, by have := hless.out; omega, play_next hB plt HA3.out HL3.out belx hb2 hg3 hLlx ownx apartx foot (rep_mem repx).1 rep3 hF' HSIM.out.2.1, rfl⟩

end Go.Proofs.Ytihlbhlagpmbjaa
