/- The walk of the law PlaceOwns. -/
import Derived.Test.YtkefkepbjbfcpaaPLaws
namespace Go.Proofs.Ytkefkepbjbfcpaa
open Go.RowKit

/-- The cells of a row of regions. -/
def flatV (rs : List (Int × Int)) : List Value := rs.flatMap fun r => [.int .i64 r.1, .int .i64 r.2]
theorem flat_len (rs : List (Int × Int)) : (flatV rs).length = rs.length * 2 := by
  induction rs with
  | nil => rfl
  | cons r rs ih => simp [flatV] at *; omega
theorem flat_get : ∀ (rs : List (Int × Int)) (i : Nat), i < rs.length → (flatV rs)[i * 2]? = some (.int .i64 (rs.getD i (0, 0)).1) ∧ (flatV rs)[i * 2 + 1]? = some (.int .i64 (rs.getD i (0, 0)).2)
  | [], i, h => by simp at h
  | r :: rs, 0, _ => by simp [flatV]
  | r :: rs, i + 1, h => by
    have ih := flat_get rs i (by simpa using h)
    have e : flatV (r :: rs) = [.int .i64 r.1, .int .i64 r.2] ++ flatV rs := by simp [flatV]
    have e1 : (i + 1) * 2 = i * 2 + 2 := by omega
    have e2 : i * 2 + 2 + 1 = i * 2 + 1 + 2 := by omega
    rw [e, e1, e2]
    simpa using ih
theorem flat_snoc (rs : List (Int × Int)) (k : Nat) (h : k < rs.length) : flatV (rs.take k) ++ [.int .i64 (rs.getD k (0, 0)).1, .int .i64 (rs.getD k (0, 0)).2] = flatV (rs.take (k + 1)) := by
  rw [List.take_succ_eq_append_getElem h]
  unfold flatV
  rw [List.flatMap_append]
  simp [ List.getD_eq_getElem?_getD, h]

theorem infoReg : (Try.prog.info? 23).map (fun i => (i.zero, i.size, i.bytes)) = some (some (.agg #[.int .i64 0, .int .i64 0]), 2, 16) := by kernel_rfl

theorem own_slice {w : World} {base n size : Nat} {e : TypeId} {v : Value} {xs : List Value} (h : w.ownsRow base e size v n xs) : ∃ A c, v = .slice A n c := by
  rcases h.2 with ⟨rfl, rfl⟩ | ⟨g, cap, cur, rfl, _⟩
  · exact ⟨_, _, rfl⟩
  · exact ⟨_, _, rfl⟩

theorem own_at {w : World} {base n size c : Nat} {e : TypeId} {A : Option Addr} {xs : List Value} (h : w.ownsRow base e size (.slice A n c) n xs) (hn : 0 < n) :
    ∃ g, A = some ⟨g, 0, none⟩ ∧ g < w.heap.size ∧ ∀ j u, xs[j]? = some u → w.cell? ⟨g, j, none⟩ = some u := by
  have h2 := h.2
  rcases h2 with ⟨h3, h4⟩ | ⟨g, cap, cur, hv, hb, hg, _⟩
  · omega
  · have hA : A = some ⟨g, 0, none⟩ := by injection hv
    subst hA
    refine ⟨g, rfl, (Array.getElem?_eq_some_iff.1 hg).1, fun j u hu => ?_⟩
    have := h.cells (g := g) rfl j u hu
    have hadd : (⟨g, 0, none⟩ : Addr).add j = ⟨g, j, none⟩ := by unfold Addr.add; split <;> simp_all
    rwa [hadd] at this

theorem own_below {w w' : World} {base n size : Nat} {e : TypeId} {v : Value} {xs : List Value} (h : w.ownsRow base e size v n xs) (hb : Below w.heap.size w w') : w'.ownsRow base e size v n xs :=
  h.kept ⟨hb.os, hb.tape, hb.output, hb.size, fun k hk _ => hb.block k hk⟩ (row := none) (by cases v.ownBlock <;> simp)

set_option maxRecDepth 100000 in
set_option maxHeartbeats 4000000 in
theorem Owns_walk (w : World) (c : Cfg) (v : Value) (rs : List (Int × Int)) (r : Int) (hr : ReadsR w w.heap.size v rs) : Calls Try.prog 8 #[c.val v, .int .i64 r] w (True_ w) := by
  have HR := Lib.hid hr
  have H1 := Lib.hid (fun w B h1 h2 => Check_calls w B c v rs h1 h2)
  have HB := Lib.hid (fun w B h1 h2 => Base_calls w B c v rs r h1 h2)
  have HRB := Lib.hid (fun w B h1 h2 => RefBase_calls w B c v rs r h1 h2)
  have HC := Lib.hid (fun w B h1 h2 => Cells_calls w B c v rs h1 h2)
  obtain ⟨bn, be, hbv⟩ := baseV_form c rs r
  rw [hbv] at HB HRB
  obtain ⟨cn, hcn⟩ : ∃ cn, cellsV c rs = .tuple #[.int .i64 cn, .int .i64 (checkE c rs)] := ⟨_, rfl⟩
  rw [hcn] at HC
  have hEE : baseV c rs r = .tuple #[.int .i64 bn, .int .i64 be] := hbv
  clear hbv hcn hEE
  generalize checkE c rs = E at *
  obtain ⟨raw, ring, writes, stamps, multi, tries⟩ := c
  unfold Cfg.val Cfg.cells at *
  dsimp only at *
  obtain ⟨hl, a, cp, rfl, hcp, hcm, hr3⟩ := hr
  have HR3 := Lib.hid hr3
  obtain ⟨i0, hi, hz0, hz1, hz2⟩ := info_parts infoReg
  clear hr3
  go_enter Try.func8, Try.ntmps8
  go_wp2
  go_loopg [5, 6] (rs.length + 1) (fun n vh vk wr => ∃ (k : Nat), k ≤ rs.length ∧ vk = .int .i64 k ∧ n + k = rs.length + 1 ∧ wr.ownsRow (w.heap.size + 1) 23 2 vh k (flatV (rs.take k)) ∧
    wr.heap[w.heap.size]? = some (.cells #[.int .i64 raw, .int .i64 ring, .int .i64 writes, .int .i64 stamps, .bool multi, .int .i64 tries, .slice a rs.length cp] 30 (0, 0)) ∧ Below w.heap.size w wr)
  case atStart => exact ⟨0, Nat.zero_le _, rfl, rfl, World.ownsRow_nil _ _ _ _, heap_new rfl, below_alloc _ _⟩
  case round =>
    obtain ⟨k, hk, rfl, hn', own, hC, bel⟩ := hrel
    have HN := Lib.hid hn'
    have HCF := Lib.hid hC
    obtain ⟨q0, q1, q2, q3, q4, q5, q6⟩ := box7 hC
    have hwsz := (Array.getElem?_eq_some_iff.1 hC).1
    clear hn' hC
    by_cases hlt : k < rs.length
    · rcases HR3.out with h | ⟨b, off, rfl, hbB, hcell⟩
      · exact absurd hlt (by rw [h]; simp)
      have hc0 := (bel.cell (p := ⟨b, off + k * 2, none⟩) (by simp; omega)).trans (hcell k hlt).1
      have hc1 := (bel.cell (p := ⟨b, off + k * 2 + 1, none⟩) (by simp; omega)).trans (hcell k hlt).2
      have hfs := flat_snoc rs k hlt
      have HFS := Lib.hid hfs
      generalize (rs.getD k (0, 0)).1 = kind at *
      generalize (rs.getD k (0, 0)).2 = cap at *
      have hbs : b < wr.heap.size := by have := bel.size; omega
      have hlt' : (k : Int) < (rs.length : Int) := by omega
      have hsz := bel.size
      clear hcell hfs
      go_wp2_with (at_builtin; refine wpList_append_own _ rfl _ _ 28 rfl (w.heap.size + 1) 23 i0 (.agg #[.int .i64 0, .int .i64 0]) 2 16 Try.underlying28 hi hz0 hz1 hz2 rfl (by decide) _ _ _ rfl (own.alloc _) ⟨wr.heap.size, 0, none⟩ 1 1 [.int .i64 kind, .int .i64 cap] rfl rfl ?c1 ?c2 ?c3 ?c4 ?c5 ?_)
      case c1 =>
        intro j u hj
        match j, hj with
        | 0, hj => simp at hj; subst hj; simp [Addr.add]
        | 1, hj => simp at hj; subst hj; simp [Addr.add]
      case c2 => intro u hu; simp at hu; rcases hu with rfl | rfl <;> rfl
      case c3 => unfold maxLen; omega
      case c4 => omega
      case c5 => simp; omega
      intro v' w1 hown' hgrow _
      have hb1 : Below w.heap.size w w1 := (bel.alloc (by omega) _).grown hgrow (by simp; omega) (fun r hr => by have := (own.lt r hr).1; omega)
      have hC1 : w1.heap[w.heap.size]? = _ := (hgrow.block w.heap.size (by simp; omega) (fun e => by have := (own.lt _ e.symm).1; omega)).trans (heap_old HCF.out)
      have HC1 := Lib.hid hC1
      rw [HFS.out] at hown'
      clear hgrow own hC1
      go_wp2
      go_roundg (rs.length - k)
      case measure => have := HN.out; omega
      case rel => exact ⟨k + 1, by omega, by go_num, by omega, hown', HC1.out, hb1⟩
    · have hk' : k = rs.length := by omega
      subst hk'
      rw [List.take_length] at own
      have OWN := Lib.hid own
      clear own
      obtain ⟨A, cH, rfl⟩ := own_slice OWN.out
      go_wp2_with fail
      refine (HB.out _ w.heap.size (HR.out.below bel) bel.size).mono ?_
      rintro e w1 ⟨rfl, hb1⟩
      have bel1 := bel.trans (hb1.mono bel.size)
      have hc := box_keep hb1 HCF.out
      have OWN1 := Lib.hid (own_below OWN.out hb1)
      clear q0 q1 q2 q3 q4 q5 q6
      obtain ⟨q0, q1, q2, q3, q4, q5, q6⟩ := box7 hc
      have HCF1 := Lib.hid hc
      clear hc
      go_wp2_with fail
      refine (HC.out _ w.heap.size (HR.out.below bel1) bel1.size).mono ?_
      rintro e w2 ⟨rfl, hb2⟩
      have bel2 := bel1.trans (hb2.mono bel1.size)
      have hc := box_keep hb2 HCF1.out
      have OWN2 := Lib.hid (own_below OWN1.out hb2)
      clear q0 q1 q2 q3 q4 q5 q6
      obtain ⟨q0, q1, q2, q3, q4, q5, q6⟩ := box7 hc
      have HCF2 := Lib.hid hc
      clear hc
      go_wp2_with fail
      refine (H1.out _ w.heap.size (HR.out.below bel2) bel2.size).mono ?_
      rintro e w3 ⟨rfl, hb3⟩
      have bel3 := bel2.trans (hb3.mono bel2.size)
      have hc := box_keep hb3 HCF2.out
      have OWN3 := Lib.hid (own_below OWN2.out hb3)
      have HCF3 := Lib.hid hc
      clear q0 q1 q2 q3 q4 q5 q6 hc
      have OB3 := Lib.hid bel3
      have hlen0 : (0 : Int) ≤ rs.length := by omega
      clear bel bel1 bel2 bel3 hb1 hb2 hb3
      go_wp2
      go_loopg [12] (rs.length + 1) (fun n vk wr => ∃ (k q : Nat), k ≤ rs.length ∧ vk = .int .i64 k ∧ n + k = rs.length + 1 ∧ wr = w3.drewN q)
      case atStart => exact ⟨0, 0, Nat.zero_le _, rfl, rfl, rfl⟩
      case round =>
        obtain ⟨k, q, hk, rfl, hn', rfl⟩ := hrel
        have HN := Lib.hid hn'
        obtain ⟨q0, q1, q2, q3, q4, q5, q6⟩ := box7 HCF3.out
        clear hn'
        by_cases hlt : k < rs.length
        · rcases HR3.out with h | ⟨b, off, rfl, hbB, hcell⟩
          · exact absurd hlt (by rw [h]; simp)
          obtain ⟨g, rfl, hglt, hoc⟩ := own_at OWN3.out (by omega)
          have hfg := flat_get rs k hlt
          have ho0 := hoc (k * 2) _ hfg.1
          have ho1 := hoc (k * 2 + 1) _ hfg.2
          have hc0 := (OB3.out.cell (p := ⟨b, off + k * 2, none⟩) (by simp; omega)).trans (hcell k hlt).1
          have hc1 := (OB3.out.cell (p := ⟨b, off + k * 2 + 1, none⟩) (by simp; omega)).trans (hcell k hlt).2
          have hbs : b < w3.heap.size := by have := OB3.out.size; omega
          have hlt' : (k : Int) < (rs.length : Int) := by omega
          clear hcell hoc hfg
          generalize (rs.getD k (0, 0)).1 = kind at *
          generalize (rs.getD k (0, 0)).2 = cap at *
          go_wp2
          go_quiet (fail)
          go_wp2
          go_roundg (rs.length - k)
          case measure => have := HN.out; omega
          case rel => exact ⟨k + 1, _, by omega, by go_num, by omega, rfl⟩
        · have hk' : k = rs.length := by omega
          have OB4 := Lib.hid (OB3.out.trans (show Below w.heap.size w3 (w3.drewN q) from ⟨rfl, rfl, rfl, Nat.le_refl _, fun _ _ => rfl⟩))
          have HCF4 : Hid ((w3.drewN q).heap[w.heap.size]? = _) := HCF3.out
          subst hk'
          generalize w3.drewN q = w4 at *
          clear q0 q1 q2 q3 q4 q5 q6
          obtain ⟨q0, q1, q2, q3, q4, q5, q6⟩ := box7 HCF4.out
          go_wp2_with fail
          refine (HB.out _ w.heap.size (HR.out.below OB4.out) OB4.out.size).mono ?_
          rintro e w5 ⟨rfl, hb5⟩
          have OB5 := Lib.hid (OB4.out.trans (hb5.mono OB4.out.size))
          have HCF5 := Lib.hid (box_keep hb5 HCF4.out)
          clear q0 q1 q2 q3 q4 q5 q6
          obtain ⟨q0, q1, q2, q3, q4, q5, q6⟩ := box7 HCF5.out
          go_wp2_with fail
          refine (HC.out _ w.heap.size (HR.out.below OB5.out) OB5.out.size).mono ?_
          rintro e w6 ⟨rfl, hb6⟩
          have OB6 := Lib.hid (OB5.out.trans (hb6.mono OB5.out.size))
          have HCF6 := Lib.hid (box_keep hb6 HCF5.out)
          clear q0 q1 q2 q3 q4 q5 q6
          obtain ⟨q0, q1, q2, q3, q4, q5, q6⟩ := box7 HCF6.out
          go_wp2_with fail
          refine (HRB.out _ w.heap.size (HR.out.below OB6.out) OB6.out.size).mono ?_
          rintro e w7 ⟨rfl, hb7⟩
          go_wp2
          go_ret
          exact ⟨rfl, OB6.out.trans (hb7.mono OB6.out.size)⟩

end Go.Proofs.Ytkefkepbjbfcpaa
