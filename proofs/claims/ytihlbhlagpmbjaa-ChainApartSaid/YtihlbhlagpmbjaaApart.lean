/- The walk of the law Apart: two calls under way know nothing of one another. -/
import Derived.Test.YtihlbhlagpmbjaaLaws
namespace Go.Proofs.Ytihlbhlagpmbjaa
open Go.RowKit

/-- The blocks of the law's own variables: b, w, u, want, other. -/
structure Five where
  nb : Nat
  nw : Nat
  nu : Nat
  nx : Nat
  no : Nat

/-- What stands at the head of every round. -/
structure ApartInv (w : World) (f : Five) (p : Nat) (base most call : Int) (av wv : Value) (xs : List Int) (Wa : WantS) (wr : World) (v5 : Value) (st : MS) (F : List Nat) (read : List Int) (writes : Int) (last : WantS) : Prop where
  boxB : wr.heap[f.nb]? = some (.cells #[.int .i64 base, .int .i64 most, .int .i64 call, av, wv] 36 (0, 0))
  boxW : wr.heap[f.nw]? = some (.cells #[.int .i64 Wa.kind, .int .i64 Wa.cell, .int .i64 Wa.value, .int .i64 Wa.code] 44 (0, 0))
  boxU : wr.heap[f.nu]? = some (.cells #[.int .i64 last.kind, .int .i64 last.cell, .int .i64 last.value, .int .i64 last.code] 44 (0, 0))
  boxX : wr.heap[f.nx]? = some (.cells #[.int .i64 Wa.kind, .int .i64 Wa.cell, .int .i64 Wa.value, .int .i64 Wa.code] 44 (0, 0))
  boxO : wr.heap[f.no]? = some (.cells #[.int .i64 last.kind, .int .i64 last.cell, .int .i64 last.value, .int .i64 last.code] 44 (0, 0))
  rep : Rep wr p st F
  foot : ∀ q ∈ F, w.heap.size ≤ q ∧ q ≠ f.nb ∧ q ≠ f.nw ∧ q ≠ f.nu ∧ q ≠ f.nx ∧ q ≠ f.no
  own : wr.ownsRow (f.no + 1) 2 1 v5 read.length (read.map (Value.int .i64))
  apart : ∀ q ∈ F, v5.ownBlock ≠ some q
  bel : Below w.heap.size w wr
  sim : Sim base most call xs st read writes last
  kinds : last.kind = 6 ∨ last.kind = 2 ∨ last.kind = 3

theorem set4_other {w : World} {g q : Nat} {a b c d : Value} {o : Obj} (h : w.heap[q]? = some o) (hne : q ≠ g) :
    ((((w.setCell ⟨g, 0, none⟩ a).setCell ⟨g, 1, none⟩ b).setCell ⟨g, 2, none⟩ c).setCell ⟨g, 3, none⟩ d).heap[q]? = some o :=
  heap_set_other (heap_set_other (heap_set_other (heap_set_other h hne) hne) hne) hne
theorem set4_heap {w : World} {g q : Nat} {a b c d : Value} (hne : q ≠ g) :
    ((((w.setCell ⟨g, 0, none⟩ a).setCell ⟨g, 1, none⟩ b).setCell ⟨g, 2, none⟩ c).setCell ⟨g, 3, none⟩ d).heap[q]? = w.heap[q]? := by
  rw [Below.heap_setCell _ _ _ _ (by simpa using hne), Below.heap_setCell _ _ _ _ (by simpa using hne), Below.heap_setCell _ _ _ _ (by simpa using hne), Below.heap_setCell _ _ _ _ (by simpa using hne)]
theorem set4_self {w : World} {g : Nat} {x0 x1 x2 x3 a b c d : Value} {t : TypeId} (h : w.heap[g]? = some (.cells #[x0, x1, x2, x3] t (0, 0))) :
    ((((w.setCell ⟨g, 0, none⟩ a).setCell ⟨g, 1, none⟩ b).setCell ⟨g, 2, none⟩ c).setCell ⟨g, 3, none⟩ d).heap[g]? = some (.cells #[a, b, c, d] t (0, 0)) :=
  heap_set (heap_set (heap_set (heap_set h)))
theorem set4_below {w0 w : World} {B g : Nat} {a b c d : Value} (h : Below B w0 w) (hB : B ≤ g) :
    Below B w0 ((((w.setCell ⟨g, 0, none⟩ a).setCell ⟨g, 1, none⟩ b).setCell ⟨g, 2, none⟩ c).setCell ⟨g, 3, none⟩ d) :=
  (((h.setCell hB _).setCell hB _).setCell hB _).setCell hB _
theorem set4_own {w : World} {base g n : Nat} {e : TypeId} {v : Value} {xs : List Value} {a b c d : Value} (h : w.ownsRow base e 1 v n xs) (hg : g < base) :
    ((((w.setCell ⟨g, 0, none⟩ a).setCell ⟨g, 1, none⟩ b).setCell ⟨g, 2, none⟩ c).setCell ⟨g, 3, none⟩ d).ownsRow base e 1 v n xs :=
  ownsRow_setCell_below (ownsRow_setCell_below (ownsRow_setCell_below (ownsRow_setCell_below h hg _) hg _) hg _) hg _
theorem set4_size {w : World} {g : Nat} {a b c d : Value} :
    ((((w.setCell ⟨g, 0, none⟩ a).setCell ⟨g, 1, none⟩ b).setCell ⟨g, 2, none⟩ c).setCell ⟨g, 3, none⟩ d).heap.size = w.heap.size := by simp

/-- An append leaves every block but the row's as it was. -/
theorem append_keeps {wr wx : World} {v5 : Value} {O o : Obj} {base n q : Nat} {xs : List Value} {e : TypeId}
    (_own : wr.ownsRow base e 1 v5 n xs) (hgrow : (wr.alloc O).grownBy wx v5.ownBlock) (ho : wr.heap[q]? = some o) (hne : v5.ownBlock ≠ some q) : wx.heap[q]? = some o := by
  have hlt : q < wr.heap.size := (Array.getElem?_eq_some_iff.1 ho).1
  rw [hgrow.block q (by simp; omega) (fun e => hne e.symm)]
  exact heap_old ho

theorem apart_append {w wr wx : World} {f : Five} {p : Nat} {base most call : Int} {av wv : Value} {xs : List Int} {Wa : WantS} {v5 v' : Value} {st : MS} {F : List Nat} {read : List Int} {writes : Int} {last : WantS} {O : Obj}
    (inv : ApartInv w f p base most call av wv xs Wa wr v5 st F read writes last) (hf : f.nb < f.nw ∧ f.nw < f.nu ∧ f.nu < f.nx ∧ f.nx < f.no) 
    (hgrow : (wr.alloc O).grownBy wx v5.ownBlock) (hblk : v'.ownBlock = v5.ownBlock ∨ v'.ownBlock = some (wr.heap.size + 1)) (hw : w.heap.size ≤ f.no) :
    wx.heap[f.nb]? = some (.cells #[.int .i64 base, .int .i64 most, .int .i64 call, av, wv] 36 (0, 0)) ∧
    wx.heap[f.nw]? = some (.cells #[.int .i64 Wa.kind, .int .i64 Wa.cell, .int .i64 Wa.value, .int .i64 Wa.code] 44 (0, 0)) ∧
    wx.heap[f.nu]? = some (.cells #[.int .i64 last.kind, .int .i64 last.cell, .int .i64 last.value, .int .i64 last.code] 44 (0, 0)) ∧
    wx.heap[f.nx]? = some (.cells #[.int .i64 Wa.kind, .int .i64 Wa.cell, .int .i64 Wa.value, .int .i64 Wa.code] 44 (0, 0)) ∧
    wx.heap[f.no]? = some (.cells #[.int .i64 last.kind, .int .i64 last.cell, .int .i64 last.value, .int .i64 last.code] 44 (0, 0)) ∧
    Rep wx p st F ∧ (∀ q ∈ F, v'.ownBlock ≠ some q) ∧ Below w.heap.size w wx := by
  have hrow : ∀ q, v5.ownBlock = some q → f.no + 1 ≤ q := fun q hq => (inv.own.lt q hq).1
  have hne : ∀ q, q ≤ f.no → v5.ownBlock ≠ some q := fun q hq e => by have := hrow q e; omega
  refine ⟨append_keeps inv.own hgrow inv.boxB (hne _ (by omega)), append_keeps inv.own hgrow inv.boxW (hne _ (by omega)), append_keeps inv.own hgrow inv.boxU (hne _ (by omega)), append_keeps inv.own hgrow inv.boxX (hne _ (by omega)), append_keeps inv.own hgrow inv.boxO (hne _ (by omega)), ?_, ?_, ?_⟩
  · refine rep_keep inv.rep fun q hq => ?_
    have hlt := (rep_mem inv.rep).2 q hq
    have ho : wr.heap[q]? = some wr.heap[q] := Array.getElem?_eq_getElem hlt
    rw [append_keeps inv.own hgrow ho (inv.apart q hq), ho]
  · intro q hq he
    have hlt := (rep_mem inv.rep).2 q hq
    rcases hblk with h | h
    · exact inv.apart q hq (h ▸ he)
    · rw [h] at he
      injection he with he
      omega
  · exact (inv.bel.alloc inv.bel.size _).grown hgrow (by have := inv.bel.size; simp; omega) (fun q hq => by have := hrow q hq; omega)

theorem apart_next {w wx w3 w4 : World} {f : Five} {p : Nat} {base most call : Int} {av wv : Value} {xs : List Int} {Wa : WantS} {v5 : Value} {st' : MS} {F F' : List Nat} {R : List Int} {Wr : Int} {W : WantS} {last : WantS}
    (hord : f.nb < f.nw ∧ f.nw < f.nu ∧ f.nu < f.nx ∧ f.nx < f.no ∧ w.heap.size < f.nb) (hpb : p ≠ f.nb ∧ p ≠ f.nw ∧ p ≠ f.nu ∧ p ≠ f.nx ∧ p ≠ f.no)
    (hB : wx.heap[f.nb]? = some (.cells #[.int .i64 base, .int .i64 most, .int .i64 call, av, wv] 36 (0, 0)))
    (hW : wx.heap[f.nw]? = some (.cells #[.int .i64 Wa.kind, .int .i64 Wa.cell, .int .i64 Wa.value, .int .i64 Wa.code] 44 (0, 0)))
    (hU : wx.heap[f.nu]? = some (.cells #[.int .i64 last.kind, .int .i64 last.cell, .int .i64 last.value, .int .i64 last.code] 44 (0, 0)))
    (hX : wx.heap[f.nx]? = some (.cells #[.int .i64 Wa.kind, .int .i64 Wa.cell, .int .i64 Wa.value, .int .i64 Wa.code] 44 (0, 0)))
    (hO : wx.heap[f.no]? = some (.cells #[.int .i64 last.kind, .int .i64 last.cell, .int .i64 last.value, .int .i64 last.code] 44 (0, 0)))
    (hpF : p ∈ F) (ownx : wx.ownsRow (f.no + 1) 2 1 v5 R.length (R.map (Value.int .i64))) (apartx : ∀ q ∈ F, v5.ownBlock ≠ some q)
    (foot : ∀ q ∈ F, w.heap.size ≤ q ∧ q ≠ f.nb ∧ q ≠ f.nw ∧ q ≠ f.nu ∧ q ≠ f.nx ∧ q ≠ f.no) (belx : Below w.heap.size w wx)
    (hg3 : wx.grownBy w3 (some p)) (rep3 : Rep w3 p st' F') (hF' : ∀ k ∈ F', k ∈ F ∨ wx.heap.size ≤ k)
    (hb4 : Below ((((w3.setCell ⟨f.nu, 0, none⟩ (.int .i64 W.kind)).setCell ⟨f.nu, 1, none⟩ (.int .i64 W.cell)).setCell ⟨f.nu, 2, none⟩ (.int .i64 W.value)).setCell ⟨f.nu, 3, none⟩ (.int .i64 W.code)).heap.size
      ((((w3.setCell ⟨f.nu, 0, none⟩ (.int .i64 W.kind)).setCell ⟨f.nu, 1, none⟩ (.int .i64 W.cell)).setCell ⟨f.nu, 2, none⟩ (.int .i64 W.value)).setCell ⟨f.nu, 3, none⟩ (.int .i64 W.code)) w4)
    (sim : Sim base most call xs st' R Wr W) (kinds : W.kind = 6 ∨ W.kind = 2 ∨ W.kind = 3) :
    ApartInv w f p base most call av wv xs Wa ((((w4.setCell ⟨f.no, 0, none⟩ (.int .i64 W.kind)).setCell ⟨f.no, 1, none⟩ (.int .i64 W.cell)).setCell ⟨f.no, 2, none⟩ (.int .i64 W.value)).setCell ⟨f.no, 3, none⟩ (.int .i64 W.code)) v5 st' F' R Wr W := by
  have hs3 := hg3.size
  have hOlt : f.no < wx.heap.size := (Array.getElem?_eq_some_iff.1 hO).1
  have hs4 := hb4.size
  rw [set4_size] at hs4
  have foot' : ∀ q ∈ F', w.heap.size ≤ q ∧ q ≠ f.nb ∧ q ≠ f.nw ∧ q ≠ f.nu ∧ q ≠ f.nx ∧ q ≠ f.no := by
    intro q hq
    rcases hF' q hq with h | h
    · exact foot q h
    · omega
  have hk : ∀ {q : Nat} {o : Obj}, wx.heap[q]? = some o → q ≠ p → q ≠ f.nu → q ≠ f.no → ((((w4.setCell ⟨f.no, 0, none⟩ (.int .i64 W.kind)).setCell ⟨f.no, 1, none⟩ (.int .i64 W.cell)).setCell ⟨f.no, 2, none⟩ (.int .i64 W.value)).setCell ⟨f.no, 3, none⟩ (.int .i64 W.code)).heap[q]? = some o :=
    fun h h1 h2 h3 => set4_other (box_keep hb4 (set4_other (box_grown hg3 h h1) h2)) h3
  have own3 : w3.ownsRow (f.no + 1) 2 1 v5 R.length (R.map (Value.int .i64)) := ownx.kept hg3 (.inr (apartx p hpF))
  refine ⟨hk hB (by omega) (by omega) (by omega), hk hW (by omega) (by omega) (by omega), set4_other (box_keep hb4 (set4_self (box_grown hg3 hU (by omega)))) (by omega), hk hX (by omega) (by omega) (by omega),
    set4_self (box_keep hb4 (set4_other (box_grown hg3 hO (by omega)) (by omega))), ?_, foot', ?_, ?_, ?_, sim, kinds⟩
  · refine rep_keep rep3 fun q hq => ?_
    have hlt := (rep_mem rep3).2 q hq
    obtain ⟨-, -, -, h3, -, h5⟩ := foot' q hq
    rw [set4_heap h5, hb4.block q (by rw [set4_size]; exact hlt), set4_heap h3]
  · exact set4_own ((set4_own own3 (by omega)).kept (grown_of_below hb4 none) (by cases v5.ownBlock <;> simp)) (by omega)
  · intro q hq he
    rcases hF' q hq with h | h
    · exact apartx q h he
    · have := (ownx.lt q he).2
      omega
  · refine set4_below ((set4_below (belx.trans ⟨hg3.os, hg3.tape, hg3.output, hg3.size, fun q hq => hg3.block q (by omega) (fun e => by injection e with e; have := (foot p hpF).1; omega)⟩) (by omega)).trans (hb4.mono ?_)) (by omega)
    rw [set4_size]
    have := belx.size
    omega

set_option maxRecDepth 100000 in
set_option maxHeartbeats 8000000 in
theorem Apart_walk (w : World) (base most call : Int) (av wv : Value) (xs ws : List Int) (base2 most2 call2 : Int) (av2 wv2 : Value) (xs2 ws2 : List Int)
    (ha : Reads w w.heap.size av xs) (_hw : Reads w w.heap.size wv ws) (ha2 : Reads w w.heap.size av2 xs2) (hw2 : Reads w w.heap.size wv2 ws2) :
    Calls Try.prog 7 #[asked base most call av wv, asked base2 most2 call2 av2 wv2] w (True_ w) := by
  unfold asked
  have ba := below_alloc_of (below_alloc w (.cells #[.int .i64 base, .int .i64 most, .int .i64 call, av, wv] 36)) (.cells #[.int .i64 base2, .int .i64 most2, .int .i64 call2, av2, wv2] 36)
  have HA := Lib.hid ((ha.below ba).mono (show w.heap.size ≤ w.heap.size + 2 by omega))
  have HA2 := Lib.hid ((ha2.below ba).mono (show w.heap.size ≤ w.heap.size + 2 by omega))
  obtain ⟨hwl, hwr, wa, wc, rfl, hwc, hwcell⟩ := hw2
  have HWR := Lib.hid hwr
  have HWC := Lib.hid hwcell
  obtain ⟨i0, hi, hz0, hz1, hz2⟩ := info_parts infoI64
  have HA0 := Lib.hid ha
  have HA20 := Lib.hid ha2
  clear ha ha2 hwr hwcell
  by_cases hok : takesB base most (arityI call) xs.length = true ∧ takesB base2 most2 (arityI call2) xs2.length = true
  · obtain ⟨hok, hok2⟩ := hok
    have HS := Lib.hid (sim_init hok)
    have HS2 := Lib.hid (sim_init hok2)
    go_enter Try.func7, Try.ntmps7
    go_wp2_with fail
    refine (right_calls _ _ base most call _ xs HA.out).mono ?_
    rintro e w1 ⟨rfl, rfl⟩
    rw [hok]
    go_wp2_with fail
    refine (right_calls _ _ base2 most2 call2 _ xs2 HA2.out).mono ?_
    rintro e w1 ⟨rfl, rfl⟩
    rw [hok2]
    go_wp2_with fail
    refine (New_yes _ _ base most call _ xs HA.out (by simp) hok).mono ?_
    rintro e w1 ⟨p1, hp1a, rfl, hb1, F1, rep1, hF1⟩
    simp only [World.size_alloc] at hp1a hF1 hb1
    have hs1 : w.heap.size + 2 ≤ w1.heap.size := by have := hb1.size; simpa using this
    have hA1 : w1.heap[w.heap.size]? = some _ := (hb1.block _ (by omega)).trans (heap_old (heap_new (w := w) rfl))
    have hB1 : w1.heap[w.heap.size + 1]? = some _ := (hb1.block _ (by omega)).trans (heap_new (w := w.alloc _) (n := w.heap.size + 1) (by simp))
    obtain ⟨cA0, cA1, cA2, cA3, cA4⟩ := box5 hA1
    obtain ⟨cB0, cB1, cB2, cB3, cB4⟩ := box5 hB1
    have HA1 := Lib.hid hA1
    have HB1 := Lib.hid hB1
    clear hA1 hB1
    go_wp2_with fail
    refine (New_yes _ _ base2 most2 call2 _ xs2 (HA2.out.below hb1) hs1 hok2).mono ?_
    rintro e w2 ⟨p2, hp2a, rfl, hb2, F2, rep2, hF2⟩
    have hs2 := hb2.size
    have repx : Rep w2 p1 (initM base most call xs) F1 := rep_keep rep1 fun q hq => hb2.block q ((rep_mem rep1).2 q hq)
    have hF1' := (rep_mem rep1).2
    have HA2' := Lib.hid (box_keep hb2 HA1.out)
    have HB2' := Lib.hid (box_keep hb2 HB1.out)
    clear cA0 cA1 cA2 cA3 cA4 cB0 cB1 cB2 cB3 cB4 rep1
    go_wp2_with fail
    have hp1 : p1 < w1.heap.size := hF1' _ (rep_mem repx).1
    refine (Next_calls _ _ _ F1 0 repx).mono ?_
    rintro e w3 ⟨rfl, hg3, F1', rep3, hF3⟩
    obtain ⟨sa1, -, -⟩ := sim_step HS.out (show In64 0 by unfold In64; omega)
    have ear : readOf w0 [] 0 = [] := rfl
    have eaw : writesOf w0 0 = 0 := rfl
    rw [ear, eaw] at sa1
    obtain ⟨Wa, hWa⟩ : ∃ W, W = wantsS base most call xs [] 0 w0 := ⟨_, rfl⟩
    rw [← hWa] at sa1
    have HWa := Lib.hid hWa
    rw [sa1]
    simp only [WantS.val]
    have hs3 := hg3.size
    have rep2' : Rep w3 p2 (initM base2 most2 call2 xs2) F2 := rep_keep rep2 fun q hq => hg3.block q ((rep_mem rep2).2 q hq) (fun e => by injection e with e; have := hF2 q hq; omega)
    have HA3 := Lib.hid (box_grown hg3 HA2'.out (by omega))
    have HB3 := Lib.hid (box_grown hg3 HB2'.out (by omega))
    have hF2' := (rep_mem rep2).2
    have hp2lt := hF2' _ (rep_mem rep2).1
    clear hWa sa1 rep2 repx rep3 hF3
    go_wp2_with fail
    have rep2a := rep_keep (w' := w3.alloc (.cells #[.int .i64 Wa.kind, .int .i64 Wa.cell, .int .i64 Wa.value, .int .i64 Wa.code] 44)) rep2' fun q hq => Below.heap_alloc _ _ _ ((rep_mem rep2').2 q hq)
    refine (Next_calls _ _ _ F2 0 rep2a).mono ?_
    rintro e w4 ⟨rfl, hg4, F, rep4, hF4⟩
    obtain ⟨sb1, sb2, sb3⟩ := sim_step HS2.out (show In64 0 by unfold In64; omega)
    rw [ear, eaw] at sb1 sb2 sb3
    obtain ⟨Wb, hWb⟩ : ∃ W, W = wantsS base2 most2 call2 xs2 [] 0 w0 := ⟨_, rfl⟩
    rw [← hWb] at sb1 sb2 sb3
    have HWb := Lib.hid hWb
    rw [sb1]
    simp only [WantS.val]
    have hs4 : w3.heap.size + 1 ≤ w4.heap.size := by have := hg4.size; simpa using this
    have HA4 := Lib.hid (box_grown hg4 (heap_old HA3.out) (by omega))
    have HB4 := Lib.hid (box_grown hg4 (heap_old HB3.out) (by omega))
    have HW4 := Lib.hid (box_grown hg4 (heap_new (w := w3) rfl) (by have := hF2' _ (rep_mem rep2').1; omega))
    have hF4' : ∀ q ∈ F, q < w3.heap.size ∨ (w3.heap.size + 1 ≤ q ∧ q < w4.heap.size) := by
      intro q hq
      have h2 := (rep_mem rep4).2 q hq
      rcases hF4 q hq with h | h
      · have := hF2' q h; omega
      · simp at h; omega
    have hF4b : ∀ q ∈ F, w1.heap.size ≤ q := by
      intro q hq
      rcases hF4 q hq with h | h
      · exact hF2 q h
      · simp at h; omega
    obtain ⟨cA0, cA1, cA2, cA3, cA4⟩ := box5 HA4.out
    have hlA4 : w.heap.size < w4.heap.size := by omega
    have SB := Lib.hid (⟨sb2, sb3⟩ : _ ∧ _)
    have bel4 : Below w.heap.size w w4 := by
      refine (((ba.trans (hb1.mono (by omega))).trans (hb2.mono (by omega))).trans ⟨hg3.os, hg3.tape, hg3.output, hg3.size, fun q hq => hg3.block q (by omega) (fun e => by injection e with e; omega)⟩).trans ?_
      exact ((Below.refl _ _).alloc (by omega) _).trans ⟨hg4.os, hg4.tape, hg4.output, hg4.size, fun q hq => hg4.block q (by simp; omega) (fun e => by injection e with e; omega)⟩
    have HBEL4 := Lib.hid bel4
    clear hWb sb1 sb2 sb3 rep2' rep2a hF4 ear eaw
    go_wp2_with fail
    refine (wants_calls _ _ base most call _ _ _ xs [] w0 ((HA0.out.below (HBEL4.out.alloc (by omega) _)).mono (by simp; omega)) (reads_nil _ _) (Nat.le_refl _) (sim_askable HS.out)).mono ?_
    rintro e w5 ⟨rfl, hb5⟩
    rw [← HWa.out]
    simp only [WantS.val]
    have hs5 : w4.heap.size + 1 ≤ w5.heap.size := by have := hb5.size; simpa using this
    have HB5 := Lib.hid (box_keep hb5 (heap_old HB4.out))
    have HW5 := Lib.hid (box_keep hb5 (heap_old HW4.out))
    have HU5 := Lib.hid (box_keep hb5 (heap_new (w := w4) rfl))
    have rep5 : Rep w5 p2 (stepM (initM base2 most2 call2 xs2) 0) F := rep_keep rep4 fun q hq => by
      have := (rep_mem rep4).2 q hq
      rw [hb5.block q (by simp; omega), Below.heap_alloc _ _ _ this]
    have HBEL5 := Lib.hid (HBEL4.out.trans (((Below.refl w4.heap.size w4).alloc (Nat.le_refl _) _).trans (hb5.mono (by simp)) |>.mono (by omega)))
    clear cA0 cA1 cA2 cA3 cA4 bel4
    obtain ⟨cB0, cB1, cB2, cB3, cB4⟩ := box5 HB5.out
    have hlB5 : w.heap.size + 1 < w5.heap.size := by omega
    go_wp2_with fail
    refine (wants_calls _ _ base2 most2 call2 _ _ _ xs2 [] w0 ((HA20.out.below (HBEL5.out.alloc (by omega) _)).mono (by simp; omega)) (reads_nil _ _) (Nat.le_refl _) (sim_askable HS2.out)).mono ?_
    rintro e w6 ⟨rfl, hb6⟩
    rw [← HWb.out]
    simp only [WantS.val]
    have hs6 : w5.heap.size + 1 ≤ w6.heap.size := by have := hb6.size; simpa using this
    have HB6 := Lib.hid (box_keep hb6 (heap_old HB5.out))
    have HW6 := Lib.hid (box_keep hb6 (heap_old HW5.out))
    have HU6 := Lib.hid (box_keep hb6 (heap_old HU5.out))
    have HX6 := Lib.hid (box_keep hb6 (heap_new (w := w5) rfl))
    have rep6 : Rep w6 p2 (stepM (initM base2 most2 call2 xs2) 0) F := rep_keep rep5 fun q hq => by
      have := (rep_mem rep5).2 q hq
      rw [hb6.block q (by simp; omega), Below.heap_alloc _ _ _ this]
    have HBEL6 := Lib.hid (HBEL5.out.trans (((Below.refl w5.heap.size w5).alloc (Nat.le_refl _) _).trans (hb6.mono (by simp)) |>.mono (by omega)))
    clear cB0 cB1 cB2 cB3 cB4 hlA4
    go_wp2_with fail
    have inv0 : ApartInv w ⟨w.heap.size + 1, w3.heap.size, w4.heap.size, w5.heap.size, w6.heap.size⟩ p2 base2 most2 call2 av2 (.slice wa ws2.length wc) xs2 Wa
        (w6.alloc (.cells #[.int .i64 Wb.kind, .int .i64 Wb.cell, .int .i64 Wb.value, .int .i64 Wb.code] 44)) (.slice none 0 0) (stepM (initM base2 most2 call2 xs2) 0) F [] 0 Wb := by
      refine ⟨heap_old HB6.out, heap_old HW6.out, heap_old HU6.out, heap_old HX6.out, heap_new rfl, rep_keep rep6 fun q hq => Below.heap_alloc _ _ _ ((rep_mem rep6).2 q hq), fun q hq => ?_, World.ownsRow_nil _ _ _ _, fun q _ => by simp [Value.ownBlock], HBEL6.out.alloc (by omega) _, SB.out.1, SB.out.2⟩
      have h1 := hF4b q hq
      have h2 := hF4' q hq
      dsimp only
      omega
    obtain ⟨f, hf⟩ : ∃ f : Five, f = ⟨w.heap.size + 1, w3.heap.size, w4.heap.size, w5.heap.size, w6.heap.size⟩ := ⟨_, rfl⟩
    have hord : f.nb < f.nw ∧ f.nw < f.nu ∧ f.nu < f.nx ∧ f.nx < f.no ∧ w.heap.size < f.nb := by rw [hf]; dsimp only; omega
    have hpb : p2 ≠ f.nb ∧ p2 ≠ f.nw ∧ p2 ≠ f.nu ∧ p2 ≠ f.nx ∧ p2 ≠ f.no := by rw [hf]; dsimp only; omega
    have e1 : w.heap.size + 1 = f.nb := by rw [hf]
    have e2 : w3.heap.size = f.nw := by rw [hf]
    have e3 : w4.heap.size = f.nu := by rw [hf]
    have e4 : w5.heap.size = f.nx := by rw [hf]
    have e5 : w6.heap.size = f.no := by rw [hf]
    rw [← hf] at inv0
    have INV := Lib.hid inv0
    have HO2 := Lib.hid (sim_askable HS2.out)
    clear inv0 rep4 rep5 rep6 hF4' hF4b hF2' hF1' hF1 hF2
    rw [e1, e2, e3, e4, e5]
    generalize p2 = p at *
    clear e1 e2 e3 e4 e5 hf hp2lt hb1 hs1 HA1 HB1 hb2 hs2 HA2' HB2' hp1 hg3 hs3 HA3 HB3 hg4 hs4 HA4 HB4 HW4 HBEL4 hb5 hs5 HB5 HW5 HU5 HBEL5 hlB5 HB6 HW6 HU6 HX6 HBEL6 SB HWa HWb HA HA2 HS HS2 ba
    go_loopg [15, 16, 17] (ws2.length + 1) (fun n v15 v16 v17 wr => ∃ (k : Nat) (st : MS) (F : List Nat) (read : List Int) (writes : Int) (last : WantS),
      v17 = .int .i64 k ∧ v16 = .int .i64 writes ∧ k ≤ ws2.length ∧ n + k = ws2.length + 1 ∧ ApartInv w f p base2 most2 call2 av2 (.slice wa ws2.length wc) xs2 Wa wr v15 st F read writes last)
    case atStart => exact ⟨0, _, F, [], 0, Wb, rfl, rfl, Nat.zero_le _, rfl, INV.out⟩
    case round =>
      clear INV
      obtain ⟨k, st, F, read, writes, last, rfl, rfl, hk, hnk, inv⟩ := hrel
      obtain ⟨l0, l1, l2, l3⟩ := last
      obtain ⟨r1, r2, r3, r4, -⟩ := sim_kind inv.sim
      have hkinds := inv.kinds
      have r4n : writes ≤ 1000 := by unfold simBound at r4; omega
      obtain ⟨cB0, cB1, cB2, cB3, cB4⟩ := box5 inv.boxB
      obtain ⟨⟨cW0, cW1, cW2, cW3⟩, -, hWl⟩ := box4 inv.boxW
      obtain ⟨⟨cU0, cU1, cU2, cU3⟩, -, hUl⟩ := box4 inv.boxU
      obtain ⟨⟨cX0, cX1, cX2, cX3⟩, -, hXl⟩ := box4 inv.boxX
      obtain ⟨⟨cO0, cO1, cO2, cO3⟩, -, hOl⟩ := box4 inv.boxO
      have HN := Lib.hid hnk
      have HINV := Lib.hid inv
      have hsz := inv.bel.size
      by_cases hlt : k < ws2.length
      · have hval : ∃ b off, wa = some ⟨b, off, none⟩ ∧ b < w.heap.size ∧ w.cell? ⟨b, off + k, none⟩ = some (.int .i64 (ws2.getD k 0)) := by
          rcases HWC.out with h | ⟨b, off, h, hb, hc⟩
          · exact absurd hlt (by rw [h]; simp)
          · exact ⟨b, off, h, hb, hc k hlt⟩
        have hv : In64 (ws2.getD k 0) := HWR.out _ (by simp [List.getD_eq_getElem?_getD, hlt])
        have HSIM := Lib.hid (sim_step inv.sim hv)
        generalize hgw : ws2.getD k 0 = v at *
        clear hgw HWR HWC hnk inv
        obtain ⟨b, off, rfl, hbw, hcw0⟩ := hval
        have HCW := Lib.hid hcw0
        have hcw := (HINV.out.bel.cell (p := ⟨b, off + k, none⟩) hbw).trans hcw0
        have hlt' : (k : Int) < (ws2.length : Int) := by omega
        clear hcw0
        rcases hkinds with e | e | e
        all_goals
          simp only at e
          subst e
        · have er : readOf ⟨6, l1, l2, l3⟩ read v = read := rfl
          have ew : writesOf ⟨6, l1, l2, l3⟩ writes = writes := rfl
          rw [er, ew] at HSIM
          obtain ⟨W, hWd⟩ : ∃ W, W = wantsS base2 most2 call2 xs2 read writes ⟨6, l1, l2, l3⟩ := ⟨_, rfl⟩
          rw [← hWd] at HSIM
          have HW := Lib.hid hWd
          have ⟨rR0, rR, _⟩ := sim_kind HSIM.out.2.1
          clear er ew hWd r1
          have hB := HINV.out.boxB
          have hWx := HINV.out.boxW
          have hU := HINV.out.boxU
          have hX := HINV.out.boxX
          have hO := HINV.out.boxO
          have repx := HINV.out.rep
          have ownx := HINV.out.own
          have apartx := HINV.out.apart
          have belx := HINV.out.bel
          have HH := Lib.hid (⟨hB, hWx, hU, hX, hO⟩ : _ ∧ _ ∧ _ ∧ _ ∧ _)
          clear hB hWx hU hX hO
          go_wp2_with fail
          obtain ⟨hB, hWx, hU, hX, hO⟩ := HH.out
          clear cW0 cW1 cW2 cW3 cU0 cU1 cU2 cU3 cX0 cX1 cX2 cX3 cO0 cO1 cO2 cO3 hWl hUl hXl hOl
          refine (Next_calls _ p st F _ repx).mono ?_
          rintro e w3 ⟨rfl, hg3, F', rep3, hF'⟩
          rw [HSIM.out.1]
          simp only [WantS.val]
          obtain ⟨n1, n2, n3, n4, n5⟩ := hpb
          obtain ⟨o1, o2, o3, o4, o5⟩ := hord
          have hB3 := box_grown hg3 hB (by omega)
          have hU3 := box_grown hg3 hU (by omega)
          have hO3 := box_grown hg3 hO (by omega)
          clear cB0 cB1 cB2 cB3 cB4
          obtain ⟨cB0, cB1, cB2, cB3, cB4⟩ := box5 hB3
          obtain ⟨⟨cU0, cU1, cU2, cU3⟩, ⟨fU0, fU1, fU2, fU3⟩, hUl⟩ := box4 hU3
          obtain ⟨⟨cO0, cO1, cO2, cO3⟩, ⟨fO0, fO1, fO2, fO3⟩, hOl⟩ := box4 hO3
          have d1 : f.nu ≠ f.nb := by omega
          have d2 : f.nu ≠ f.no := by omega
          have HALL := Lib.hid (⟨hB, hWx, hU, hX, hO, hO3⟩ : _ ∧ _ ∧ _ ∧ _ ∧ _ ∧ _)
          have own3 : w3.ownsRow (f.no + 1) 2 1 _ read.length (read.map (Value.int .i64)) := ownx.kept hg3 (.inr (apartx p (rep_mem repx).1))
          have bel3 : Below w.heap.size w w3 := belx.trans ⟨hg3.os, hg3.tape, hg3.output, hg3.size, fun q hq => hg3.block q (by have := belx.size; omega) (fun e => by injection e with e; have := (HINV.out.foot p (rep_mem repx).1).1; omega)⟩
          clear hB hWx hU hX hO hB3 hU3 hO3
          go_wp2_with fail
          refine (wants_calls _ _ base2 most2 call2 _ _ _ xs2 read ⟨6, l1, l2, l3⟩ ((HA20.out.below (set4_below bel3 (by omega))).mono (by rw [set4_size]; exact bel3.size)) (Owns.reads (set4_own own3 (by omega)) (by unfold simBound at rR; omega) rR0) (Nat.le_refl _) HO2.out).mono ?_
          rintro e w4 ⟨rfl, hb4⟩
          rw [← HW.out]
          simp only [WantS.val]
          have hO4 := box_keep hb4 (set4_other HALL.out.2.2.2.2.2 (by omega))
          clear cB0 cB1 cB2 cB3 cB4 cU0 cU1 cU2 cU3 cO0 cO1 cO2 cO3 fU0 fU1 fU2 fU3 fO0 fO1 fO2 fO3 hUl hOl
          obtain ⟨⟨cO0, cO1, cO2, cO3⟩, ⟨fO0, fO1, fO2, fO3⟩, hOl⟩ := box4 hO4
          clear hO4
          go_wp2
          go_roundg (ws2.length - k)
          case measure => have := HN.out; omega
          case rel => exact ⟨k + 1, stepM st v, F', read, writes, W, by go_num, rfl, by omega, by omega, apart_next (last := ⟨6, l1, l2, l3⟩) ⟨o1, o2, o3, o4, o5⟩ ⟨n1, n2, n3, n4, n5⟩ HALL.out.1 HALL.out.2.1 HALL.out.2.2.1 HALL.out.2.2.2.1 HALL.out.2.2.2.2.1 (rep_mem repx).1 ownx apartx HINV.out.foot belx hg3 rep3 hF' hb4 HSIM.out.2.1 HSIM.out.2.2⟩
        · have er : readOf ⟨2, l1, l2, l3⟩ read v = (read ++ [v]) := rfl
          have ew : writesOf ⟨2, l1, l2, l3⟩ writes = writes := rfl
          rw [er, ew] at HSIM
          obtain ⟨W, hWd⟩ : ∃ W, W = wantsS base2 most2 call2 xs2 (read ++ [v]) writes ⟨2, l1, l2, l3⟩ := ⟨_, rfl⟩
          rw [← hWd] at HSIM
          have HW := Lib.hid hWd
          have ⟨rR0, rR, _⟩ := sim_kind HSIM.out.2.1
          clear er ew hWd r1
          go_wp2_with (at_builtin; refine wpList_append_one rfl _ _ 24 rfl (f.no + 1) 2 i0 (.int .i64 0) Try.underlying24 hi hz0 hz1 hz2 rfl _ _ _ rfl HINV.out.own (.int .i64 v) rfl rfl (Nat.le_trans r2 (by decide)) hOl ?_)
          intro v' wx hown' hgrow hblk
          obtain ⟨hB, hWx, hU, hX, hO, repx, apartx, belx⟩ := apart_append HINV.out ⟨hord.1, hord.2.1, hord.2.2.1, hord.2.2.2.1⟩ hgrow hblk (by omega)
          have ownx : wx.ownsRow (f.no + 1) 2 1 v' (read ++ [v]).length ((read ++ [v]).map (Value.int .i64)) := by simpa using hown'
          clear hown' hgrow hblk cB0 cB1 cB2 cB3 cB4 cW0 cW1 cW2 cW3 cU0 cU1 cU2 cU3 cX0 cX1 cX2 cX3 cO0 cO1 cO2 cO3 hcw hWl hUl hXl hOl
          obtain ⟨cB0, cB1, cB2, cB3, cB4⟩ := box5 hB
          have hcw := (belx.cell (p := ⟨b, off + k, none⟩) hbw).trans HCW.out
          go_wp2_with fail
          refine (Next_calls _ p st F _ repx).mono ?_
          rintro e w3 ⟨rfl, hg3, F', rep3, hF'⟩
          rw [HSIM.out.1]
          simp only [WantS.val]
          obtain ⟨n1, n2, n3, n4, n5⟩ := hpb
          obtain ⟨o1, o2, o3, o4, o5⟩ := hord
          have hB3 := box_grown hg3 hB (by omega)
          have hU3 := box_grown hg3 hU (by omega)
          have hO3 := box_grown hg3 hO (by omega)
          clear cB0 cB1 cB2 cB3 cB4
          obtain ⟨cB0, cB1, cB2, cB3, cB4⟩ := box5 hB3
          obtain ⟨⟨cU0, cU1, cU2, cU3⟩, ⟨fU0, fU1, fU2, fU3⟩, hUl⟩ := box4 hU3
          obtain ⟨⟨cO0, cO1, cO2, cO3⟩, ⟨fO0, fO1, fO2, fO3⟩, hOl⟩ := box4 hO3
          have d1 : f.nu ≠ f.nb := by omega
          have d2 : f.nu ≠ f.no := by omega
          have HALL := Lib.hid (⟨hB, hWx, hU, hX, hO, hO3⟩ : _ ∧ _ ∧ _ ∧ _ ∧ _ ∧ _)
          have own3 : w3.ownsRow (f.no + 1) 2 1 _ (read ++ [v]).length ((read ++ [v]).map (Value.int .i64)) := ownx.kept hg3 (.inr (apartx p (rep_mem repx).1))
          have bel3 : Below w.heap.size w w3 := belx.trans ⟨hg3.os, hg3.tape, hg3.output, hg3.size, fun q hq => hg3.block q (by have := belx.size; omega) (fun e => by injection e with e; have := (HINV.out.foot p (rep_mem repx).1).1; omega)⟩
          clear hB hWx hU hX hO hB3 hU3 hO3
          go_wp2_with fail
          refine (wants_calls _ _ base2 most2 call2 _ _ _ xs2 (read ++ [v]) ⟨2, l1, l2, l3⟩ ((HA20.out.below (set4_below bel3 (by omega))).mono (by rw [set4_size]; exact bel3.size)) (Owns.reads (set4_own own3 (by omega)) (by unfold simBound at rR; omega) rR0) (Nat.le_refl _) HO2.out).mono ?_
          rintro e w4 ⟨rfl, hb4⟩
          rw [← HW.out]
          simp only [WantS.val]
          have hO4 := box_keep hb4 (set4_other HALL.out.2.2.2.2.2 (by omega))
          clear cB0 cB1 cB2 cB3 cB4 cU0 cU1 cU2 cU3 cO0 cO1 cO2 cO3 fU0 fU1 fU2 fU3 fO0 fO1 fO2 fO3 hUl hOl
          obtain ⟨⟨cO0, cO1, cO2, cO3⟩, ⟨fO0, fO1, fO2, fO3⟩, hOl⟩ := box4 hO4
          clear hO4
          go_wp2
          go_roundg (ws2.length - k)
          case measure => have := HN.out; omega
          case rel => exact ⟨k + 1, stepM st v, F', (read ++ [v]), writes, W, by go_num, rfl, by omega, by omega, apart_next (last := ⟨2, l1, l2, l3⟩) ⟨o1, o2, o3, o4, o5⟩ ⟨n1, n2, n3, n4, n5⟩ HALL.out.1 HALL.out.2.1 HALL.out.2.2.1 HALL.out.2.2.2.1 HALL.out.2.2.2.2.1 (rep_mem repx).1 ownx apartx HINV.out.foot belx hg3 rep3 hF' hb4 HSIM.out.2.1 HSIM.out.2.2⟩
        · have er : readOf ⟨3, l1, l2, l3⟩ read v = read := rfl
          have ew : writesOf ⟨3, l1, l2, l3⟩ writes = (writes + 1) := rfl
          rw [er, ew] at HSIM
          obtain ⟨W, hWd⟩ : ∃ W, W = wantsS base2 most2 call2 xs2 read (writes + 1) ⟨3, l1, l2, l3⟩ := ⟨_, rfl⟩
          rw [← hWd] at HSIM
          have HW := Lib.hid hWd
          have ⟨rR0, rR, _⟩ := sim_kind HSIM.out.2.1
          clear er ew hWd r1
          have hB := HINV.out.boxB
          have hWx := HINV.out.boxW
          have hU := HINV.out.boxU
          have hX := HINV.out.boxX
          have hO := HINV.out.boxO
          have repx := HINV.out.rep
          have ownx := HINV.out.own
          have apartx := HINV.out.apart
          have belx := HINV.out.bel
          have HH := Lib.hid (⟨hB, hWx, hU, hX, hO⟩ : _ ∧ _ ∧ _ ∧ _ ∧ _)
          clear hB hWx hU hX hO
          go_wp2_with fail
          obtain ⟨hB, hWx, hU, hX, hO⟩ := HH.out
          clear cW0 cW1 cW2 cW3 cU0 cU1 cU2 cU3 cX0 cX1 cX2 cX3 cO0 cO1 cO2 cO3 hWl hUl hXl hOl
          refine (Next_calls _ p st F _ repx).mono ?_
          rintro e w3 ⟨rfl, hg3, F', rep3, hF'⟩
          rw [HSIM.out.1]
          simp only [WantS.val]
          obtain ⟨n1, n2, n3, n4, n5⟩ := hpb
          obtain ⟨o1, o2, o3, o4, o5⟩ := hord
          have hB3 := box_grown hg3 hB (by omega)
          have hU3 := box_grown hg3 hU (by omega)
          have hO3 := box_grown hg3 hO (by omega)
          clear cB0 cB1 cB2 cB3 cB4
          obtain ⟨cB0, cB1, cB2, cB3, cB4⟩ := box5 hB3
          obtain ⟨⟨cU0, cU1, cU2, cU3⟩, ⟨fU0, fU1, fU2, fU3⟩, hUl⟩ := box4 hU3
          obtain ⟨⟨cO0, cO1, cO2, cO3⟩, ⟨fO0, fO1, fO2, fO3⟩, hOl⟩ := box4 hO3
          have d1 : f.nu ≠ f.nb := by omega
          have d2 : f.nu ≠ f.no := by omega
          have HALL := Lib.hid (⟨hB, hWx, hU, hX, hO, hO3⟩ : _ ∧ _ ∧ _ ∧ _ ∧ _ ∧ _)
          have own3 : w3.ownsRow (f.no + 1) 2 1 _ read.length (read.map (Value.int .i64)) := ownx.kept hg3 (.inr (apartx p (rep_mem repx).1))
          have bel3 : Below w.heap.size w w3 := belx.trans ⟨hg3.os, hg3.tape, hg3.output, hg3.size, fun q hq => hg3.block q (by have := belx.size; omega) (fun e => by injection e with e; have := (HINV.out.foot p (rep_mem repx).1).1; omega)⟩
          clear hB hWx hU hX hO hB3 hU3 hO3
          go_wp2_with fail
          refine (wants_calls _ _ base2 most2 call2 _ _ _ xs2 read ⟨3, l1, l2, l3⟩ ((HA20.out.below (set4_below bel3 (by omega))).mono (by rw [set4_size]; exact bel3.size)) (Owns.reads (set4_own own3 (by omega)) (by unfold simBound at rR; omega) rR0) (Nat.le_refl _) HO2.out).mono ?_
          rintro e w4 ⟨rfl, hb4⟩
          rw [← HW.out]
          simp only [WantS.val]
          have hO4 := box_keep hb4 (set4_other HALL.out.2.2.2.2.2 (by omega))
          clear cB0 cB1 cB2 cB3 cB4 cU0 cU1 cU2 cU3 cO0 cO1 cO2 cO3 fU0 fU1 fU2 fU3 fO0 fO1 fO2 fO3 hUl hOl
          obtain ⟨⟨cO0, cO1, cO2, cO3⟩, ⟨fO0, fO1, fO2, fO3⟩, hOl⟩ := box4 hO4
          clear hO4
          go_wp2
          go_roundg (ws2.length - k)
          case measure => have := HN.out; omega
          case rel => exact ⟨k + 1, stepM st v, F', read, (writes + 1), W, by go_num, rfl, by omega, by omega, apart_next (last := ⟨3, l1, l2, l3⟩) ⟨o1, o2, o3, o4, o5⟩ ⟨n1, n2, n3, n4, n5⟩ HALL.out.1 HALL.out.2.1 HALL.out.2.2.1 HALL.out.2.2.2.1 HALL.out.2.2.2.2.1 (rep_mem repx).1 ownx apartx HINV.out.foot belx hg3 rep3 hF' hb4 HSIM.out.2.1 HSIM.out.2.2⟩
      · clear hnk inv hkinds r1
        go_wp2
        go_ret
        exact ⟨rfl, HINV.out.bel⟩
  · have hno : ¬ takesB base most (arityI call) xs.length = true ∨ takesB base most (arityI call) xs.length = true ∧ takesB base2 most2 (arityI call2) xs2.length = false := by
      by_cases h1 : takesB base most (arityI call) xs.length = true
      · right
        refine ⟨h1, ?_⟩
        by_cases h2 : takesB base2 most2 (arityI call2) xs2.length = true
        · exact absurd ⟨h1, h2⟩ hok
        · simpa using h2
      · exact .inl h1
    clear hok
    rcases hno with h1 | ⟨h1, h2⟩
    · have h1' : takesB base most (arityI call) xs.length = false := by simpa using h1
      clear h1
      go_enter Try.func7, Try.ntmps7
      go_wp2_with fail
      refine (right_calls _ _ base most call _ xs HA.out).mono ?_
      rintro e w1 ⟨rfl, rfl⟩
      rw [h1']
      go_wp2_with fail
      refine (right_calls _ _ base2 most2 call2 _ xs2 HA2.out).mono ?_
      rintro e w1 ⟨rfl, rfl⟩
      go_wp2
      go_ret
      exact ⟨rfl, ba⟩
    · go_enter Try.func7, Try.ntmps7
      go_wp2_with fail
      refine (right_calls _ _ base most call _ xs HA.out).mono ?_
      rintro e w1 ⟨rfl, rfl⟩
      rw [h1]
      go_wp2_with fail
      refine (right_calls _ _ base2 most2 call2 _ xs2 HA2.out).mono ?_
      rintro e w1 ⟨rfl, rfl⟩
      rw [h2]
      go_wp2
      go_ret
      exact ⟨rfl, ba⟩

end Go.Proofs.Ytihlbhlagpmbjaa
