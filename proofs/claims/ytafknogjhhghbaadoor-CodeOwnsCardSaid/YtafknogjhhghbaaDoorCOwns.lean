/- The walk of the law CodeOwns: arguments and answers. -/
import Derived.Test.YtafknogjhhghbaaDoorCBack
namespace Go.Proofs.YtafknogjhhghbaaDoor
open Go.RowKit

/-- But for block g all is as it was. -/
def ButG (g : Nat) (w w' : World) : Prop := w'.os = w.os ∧ w'.tape = w.tape ∧ w'.output = w.output ∧ w'.heap.size = w.heap.size ∧ ∀ q, q ≠ g → w'.heap[q]? = w.heap[q]?
theorem butG_refl (g : Nat) (w : World) : ButG g w w := ⟨rfl, rfl, rfl, rfl, fun _ _ => rfl⟩
theorem butG_set {g : Nat} {w w' : World} (h : ButG g w w') (i : Nat) (v : Value) : ButG g w (w'.setCell ⟨g, i, none⟩ v) :=
  ⟨h.1, h.2.1, h.2.2.1, by simpa using h.2.2.2.1, fun q hq => (Below.heap_setCell _ _ _ _ (by simpa using hq)).trans (h.2.2.2.2 q hq)⟩
theorem butG_below {g B : Nat} {w w' : World} (h : ButG g w w') (hg : B ≤ g) : Below B w w' := ⟨h.1, h.2.1, h.2.2.1, Nat.le_of_eq h.2.2.2.1.symm, fun k hk => h.2.2.2.2 k (by omega)⟩
theorem butG_own {g base size n : Nat} {w w' : World} {e : TypeId} {v : Value} {xs : List Value} (h : ButG g w w') (hn : v.ownBlock ≠ some g) (ho : w.ownsRow base e size v n xs) : w'.ownsRow base e size v n xs := by
  refine ⟨ho.1, ?_⟩
  rcases ho.2 with hl | ⟨g', cap, cur, rfl, hb, hg, hr⟩
  · exact .inl hl
  · exact .inr ⟨g', cap, cur, rfl, hb, (h.2.2.2.2 g' (fun e => hn (by rw [← e]; rfl))).trans hg, hr⟩

set_option maxRecDepth 100000 in
set_option maxHeartbeats 4000000 in
theorem Owns_walk (w : World) (v : Value) (rs : List (Int × Int)) (s : ByteArray) (hr : ReadsR w w.heap.size v rs) (hq : ∀ r ∈ rs, (-9223372036854775808 ≤ r.1 ∧ r.1 ≤ 9223372036854775807) ∧ (-9223372036854775808 ≤ r.2 ∧ r.2 ≤ 9223372036854775807)) (hs : s.size ≤ 140737488351232) (ht : Tabled w) :
    Calls Tryd.prog 10 #[v, .string s] w (True_ w) := by
  have H1 := Lib.hid (fun w' v h hB ht => Encode_calls w' w'.heap.size v rs h hB hq ht)
  have HD := Lib.hid (fun w ht => Decode_calls w s (by omega) ht)
  have HRD := Lib.hid (fun w ht => RefDecode_calls w s (by omega) ht)
  have HRR := Lib.hid hr
  have HT := Lib.hid ht
  have h0 := ht.1
  have hrl := hr.1
  have hln := decS_len s.data.toList
  generalize decS s.data.toList = D at *
  obtain ⟨ops, derr, dat⟩ := D
  generalize encS rs = X at *
  obtain ⟨bs, err, at_⟩ := X
  dsimp only at hln
  obtain ⟨hl, a, cp, rfl, hcp, hcm, hr3⟩ := hr
  have HR3 := Lib.hid hr3
  obtain ⟨i0, hi, hz0, hz1, hz2⟩ := info_parts infoOps
  clear hr3 ht hq
  go_enter Tryd.func10, Tryd.ntmps10
  go_wp2
  go_loopg [5, 6] (rs.length + 1) (fun n vh vk wr => ∃ (k : Nat), k ≤ rs.length ∧ vk = .int .i64 k ∧ n + k = rs.length + 1 ∧ wr.ownsRow w.heap.size 28 2 vh k (flatV (rs.take k)) ∧ Below w.heap.size w wr)
  case atStart => exact ⟨0, Nat.zero_le _, rfl, rfl, World.ownsRow_nil _ _ _ _, Below.refl _ _⟩
  case round =>
    obtain ⟨k, hk, rfl, hn', own, bel⟩ := hrel
    have HN := Lib.hid hn'
    clear hn'
    by_cases hlt : k < rs.length
    · rcases HR3.out with h | ⟨b, off, rfl, hbB, hcell⟩
      · exact absurd hlt (by rw [h]; simp)
      have hc0 := (bel.cell (p := ⟨b, off + k * 2, none⟩) (by simp; omega)).trans (hcell k hlt).1
      have hc1 := (bel.cell (p := ⟨b, off + k * 2 + 1, none⟩) (by simp; omega)).trans (hcell k hlt).2
      have hfs := flat_snoc rs k hlt
      have HFS := Lib.hid hfs
      generalize (rs.getD k (0, 0)).1 = kind at *
      generalize (rs.getD k (0, 0)).2 = cap at *
      have hbs : b < wr.heap.size := by have := bel.size; omega
      have hlt' : (k : Int) < (rs.length : Int) := by omega
      have hsz := bel.size
      clear hcell hfs
      go_wp2_with (at_builtin; refine wpList_append_own _ rfl _ _ 22 rfl w.heap.size 28 i0 (.agg #[.int .i64 0, .int .i64 0]) 2 16 Tryd.underlying22 hi hz0 hz1 hz2 rfl (by decide) _ _ _ rfl (own.alloc _) ⟨wr.heap.size, 0, none⟩ 1 1 [.int .i64 kind, .int .i64 cap] rfl rfl ?c1 ?c2 ?c3 ?c4 ?c5 ?_)
      case c1 =>
        intro j u hj
        match j, hj with
        | 0, hj => simp at hj; subst hj; simp [Addr.add]
        | 1, hj => simp at hj; subst hj; simp [Addr.add]
      case c2 => intro u hu; simp at hu; rcases hu with rfl | rfl <;> rfl
      case c3 => unfold maxLen; omega
      case c4 => omega
      case c5 => simp; omega
      intro v' w1 hown' hgrow _
      have hb1 : Below w.heap.size w w1 := (bel.alloc (by omega) _).grown hgrow (by simp; omega) (fun r hr => by have := (own.lt r hr).1; omega)
      rw [HFS.out] at hown'
      clear hgrow own
      go_wp2
      go_roundg (rs.length - k)
      case measure => have := HN.out; omega
      case rel => exact ⟨k + 1, by omega, by go_num, by omega, hown', hb1⟩
    · have hk' : k = rs.length := by omega
      subst hk'
      rw [List.take_length] at own
      have OWN := Lib.hid own
      obtain ⟨A, cH, hv⟩ := own_slice own
      subst hv
      clear own
      go_wp2_with fail
      refine (H1.out _ _ ((HRR.out.below bel).mono bel.size) (Nat.le_refl _) (HT.out.below h0 bel)).mono ?_
      rintro e1 w1 ⟨rfl, hb1⟩
      have bel1 := bel.trans (hb1.mono bel.size)
      have OWN1 := Lib.hid (own_below OWN.out hb1)
      go_wp2_with fail
      refine (Same_calls _ _ _ _ rs rs ((HRR.out.below bel1).mono bel1.size) (own_reads OWN1.out hrl)).mono ?_
      rintro e2 w2 ⟨rfl, hb2⟩
      rw [decide_eq_true rfl]
      have bel2 := bel1.trans (hb2.mono bel1.size)
      have OWN2 := Lib.hid (own_below OWN1.out hb2)
      go_wp2_with fail
      refine (HD.out _ (HT.out.below h0 bel2)).mono ?_
      rintro e3 w3 ⟨ax, nx, cx, rfl, ownx, hb3⟩
      have bel3 := bel2.trans (hb3.mono bel2.size)
      have OWN3 := Lib.hid (own_below OWN2.out hb3)
      have OX3 := Lib.hid ownx
      clear ownx
      go_wp2_with fail
      refine (HD.out _ (HT.out.below h0 bel3)).mono ?_
      rintro e4 w4 ⟨ay, ny, cy, rfl, owny, hb4⟩
      have bel4 := bel3.trans (hb4.mono bel3.size)
      have OWN4 := Lib.hid (own_below OWN3.out hb4)
      have OX4 := Lib.hid (own_below OX3.out hb4)
      have OY4 := Lib.hid owny
      clear owny
      go_wp2_with fail
      refine (Same_calls _ _ _ _ ops ops (own_reads OX4.out (by omega)) (own_reads OY4.out (by omega))).mono ?_
      rintro e5 w5 ⟨rfl, hb5⟩
      rw [decide_eq_true rfl]
      have bel5 := bel4.trans (hb5.mono bel4.size)
      have OWN5 := Lib.hid (own_below OWN4.out hb5)
      have OX5 := Lib.hid (own_below OX4.out hb5)
      have OY5 := Lib.hid (own_below OY4.out hb5)
      obtain ⟨Ax, cx', hvx⟩ := own_slice OX5.out
      obtain ⟨Ay, cy', hvy⟩ := own_slice OY5.out
      injection hvx with ex1 ex2 ex3
      injection hvy with ey1 ey2 ey3
      subst ex1 ex2 ex3 ey1 ey2 ey3
      have hA2 : ∀ q, (Value.slice A rs.length cH).ownBlock = some q → q < w2.heap.size := fun q hq => (OWN2.out.lt q hq).2
      have hX3 : ∀ q, (Value.slice ax ops.length cx).ownBlock = some q → w2.heap.size ≤ q ∧ q < w3.heap.size := fun q hq => OX3.out.lt q hq
      have hY4 : ∀ q, (Value.slice ay ops.length cy).ownBlock = some q → w3.heap.size ≤ q ∧ q < w5.heap.size := fun q hq => ⟨(OY5.out.lt q hq).1, (OY5.out.lt q hq).2⟩
      have hz23 := hb3.size
      have hz34 := hb4.size
      have hz45 := hb5.size
      have hz02 := bel2.size
      obtain ⟨g, hg0, hgx, hgy, hgA⟩ : ∃ g, w.heap.size ≤ g ∧ (0 < ops.length → ax = some ⟨g, 0, none⟩ ∧ ∃ cur : Array Value, w5.heap[g]? = some (.cells cur 28 (0, 0)) ∧ ops.length * 2 ≤ cur.size) ∧
          (Value.slice ay ops.length cy).ownBlock ≠ some g ∧ (Value.slice A rs.length cH).ownBlock ≠ some g := by
        rcases Nat.eq_zero_or_pos ops.length with hz | hz
        · exact ⟨w5.heap.size + 1, by omega, fun h => by omega, fun e => by have := hY4 _ e; omega, fun e => by have := hA2 _ e; omega⟩
        · rcases OX5.out.2 with ⟨_, hn⟩ | ⟨g, cap, cur, hvv, hbb, hgg, hnc, _, hcs, _⟩
          · omega
          · injection hvv with e1 _ _
            have hlt3 := hX3 g (by rw [e1]; rfl)
            exact ⟨g, by omega, fun _ => ⟨e1, cur, hgg, by rw [hcs]; exact Nat.mul_le_mul_right _ hnc⟩, fun e => by have := hY4 _ e; omega, fun e => by have := hA2 _ e; omega⟩
      have HGX := Lib.hid hgx
      have B5 := Lib.hid bel5
      clear hA2 hX3 hY4 hgx bel bel1 bel2 bel3 bel4 bel5
      go_wp2
      go_loopg [18] (ops.length + 1) (fun n vk wr => ∃ (k : Nat), k ≤ ops.length ∧ vk = .int .i64 k ∧ n + k = ops.length + 1 ∧ ButG g w5 wr ∧ (0 < ops.length → ∃ cur : Array Value, wr.heap[g]? = some (.cells cur 28 (0, 0)) ∧ ops.length * 2 ≤ cur.size))
      case atStart => exact ⟨0, Nat.zero_le _, rfl, rfl, butG_refl _ _, fun h => (HGX.out h).2⟩
      case round =>
        obtain ⟨k, hk, rfl, hn', hbut, hcur⟩ := hrel
        have HN := Lib.hid hn'
        clear hn'
        by_cases hlt : k < ops.length
        · obtain ⟨rfl, -⟩ := HGX.out (by omega)
          obtain ⟨cur, hc1, hc2⟩ := hcur (by omega)
          have hlt' : (k : Int) < (ops.length : Int) := by omega
          have hcell := cell_of_row wr g (k * 2) _ _ _ hc1
          rw [Array.getElem?_eq_getElem (by omega)] at hcell
          have hfr := frozen_of_row wr g (k * 2) _ _ hc1
          have HC := Lib.hid hc1
          have HBT := Lib.hid hbut
          have HSZ := Lib.hid hc2
          generalize cur[k * 2]'(by omega) = cv at *
          clear hc1 hbut hcur hc2
          go_wp2
          go_roundg (ops.length - k)
          case measure => have := HN.out; omega
          case rel => exact ⟨k + 1, by omega, by go_num, by omega, butG_set HBT.out _ _, fun _ => ⟨_, heap_set HC.out, by simpa using HSZ.out⟩⟩
        · have hkk : k = ops.length := by omega
          subst hkk
          have bel6 : Below w.heap.size w wr := B5.out.trans (butG_below hbut hg0)
          have OY6 := Lib.hid (butG_own hbut hgy OY5.out)
          have OWN6 := Lib.hid (butG_own hbut hgA OWN5.out)
          clear hcur hbut
          go_wp2_with fail
          refine (HRD.out _ (HT.out.below h0 bel6)).mono ?_
          rintro e7 w7 ⟨az, nz, cz, rfl, ownz, hb7⟩
          have bel7 := bel6.trans (hb7.mono bel6.size)
          have OY7 := Lib.hid (own_below OY6.out hb7)
          have OWN7 := Lib.hid (own_below OWN6.out hb7)
          have OZ7 := Lib.hid ownz
          clear ownz
          go_wp2_with fail
          refine (Same_calls _ _ _ _ ops ops (own_reads OY7.out (by omega)) (own_reads OZ7.out (by omega))).mono ?_
          rintro e8 w8 ⟨rfl, hb8⟩
          rw [decide_eq_true rfl]
          have bel8 := bel7.trans (hb8.mono bel7.size)
          have OWN8 := Lib.hid (own_below OWN7.out hb8)
          go_wp2_with fail
          refine (H1.out _ _ (own_reads OWN8.out hrl) (Nat.le_refl _) (HT.out.below h0 bel8)).mono ?_
          rintro e9 w9 ⟨rfl, hb9⟩
          go_wp2
          go_ret
          exact ⟨rfl, bel8.trans (hb9.mono bel8.size)⟩

end Go.Proofs.YtafknogjhhghbaaDoor
