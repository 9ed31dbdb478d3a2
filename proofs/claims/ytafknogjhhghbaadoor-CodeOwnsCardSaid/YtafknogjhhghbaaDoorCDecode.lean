/- Bytes as instructions: the contracts of Decode and of the reference's Decode. -/
import Derived.Test.YtafknogjhhghbaaDoorCFrame
import Derived.Test.YtafknogjhhghbaaDoorCLocal
namespace Go.Proofs.YtafknogjhhghbaaDoor
open Go.RowKit

/-- The cells of a row of instructions. -/
def flatV (rs : List (Int × Int)) : List Value := rs.flatMap fun r => [.int .i64 r.1, .int .i64 r.2]
theorem flat_len (rs : List (Int × Int)) : (flatV rs).length = rs.length * 2 := by
  induction rs with
  | nil => rfl
  | cons r rs ih => simp [flatV] at *; omega
theorem flat_get : ∀ (rs : List (Int × Int)) (i : Nat), i < rs.length → (flatV rs)[i * 2]? = some (.int .i64 (rs.getD i (0, 0)).1) ∧ (flatV rs)[i * 2 + 1]? = some (.int .i64 (rs.getD i (0, 0)).2)
  | [], i, h => by simp at h
  | r :: rs, 0, _ => by simp [flatV]
  | r :: rs, i + 1, h => by
    have ih := flat_get rs i (by simpa using h)
    have e : flatV (r :: rs) = [.int .i64 r.1, .int .i64 r.2] ++ flatV rs := by simp [flatV]
    have e1 : (i + 1) * 2 = i * 2 + 2 := by omega
    have e2 : i * 2 + 2 + 1 = i * 2 + 1 + 2 := by omega
    rw [e, e1, e2]
    simpa using ih
theorem flat_snoc (rs : List (Int × Int)) (k : Nat) (h : k < rs.length) : flatV (rs.take k) ++ [.int .i64 (rs.getD k (0, 0)).1, .int .i64 (rs.getD k (0, 0)).2] = flatV (rs.take (k + 1)) := by
  rw [List.take_succ_eq_append_getElem h]
  unfold flatV
  rw [List.flatMap_append]
  simp [ List.getD_eq_getElem?_getD, h]

theorem own_slice {w : World} {base n size : Nat} {e : TypeId} {v : Value} {xs : List Value} (h : w.ownsRow base e size v n xs) : ∃ A c, v = .slice A n c := by
  rcases h.2 with ⟨rfl, rfl⟩ | ⟨g, cap, cur, rfl, _⟩
  · exact ⟨_, _, rfl⟩
  · exact ⟨_, _, rfl⟩

theorem own_at {w : World} {base n size c : Nat} {e : TypeId} {A : Option Addr} {xs : List Value} (h : w.ownsRow base e size (.slice A n c) n xs) (hn : 0 < n) :
    ∃ g, A = some ⟨g, 0, none⟩ ∧ g < w.heap.size ∧ ∀ j u, xs[j]? = some u → w.cell? ⟨g, j, none⟩ = some u := by
  have h2 := h.2
  rcases h2 with ⟨h3, h4⟩ | ⟨g, cap, cur, hv, hb, hg, _⟩
  · omega
  · have hA : A = some ⟨g, 0, none⟩ := by injection hv
    subst hA
    refine ⟨g, rfl, (Array.getElem?_eq_some_iff.1 hg).1, fun j u hu => ?_⟩
    have := h.cells (g := g) rfl j u hu
    have hadd : (⟨g, 0, none⟩ : Addr).add j = ⟨g, j, none⟩ := by unfold Addr.add; split <;> simp_all
    rwa [hadd] at this

theorem own_below {w w' : World} {base n size : Nat} {e : TypeId} {v : Value} {xs : List Value} (h : w.ownsRow base e size v n xs) (hb : Below w.heap.size w w') : w'.ownsRow base e size v n xs :=
  h.kept ⟨hb.os, hb.tape, hb.output, hb.size, fun k hk _ => hb.block k hk⟩ (row := none) (by cases v.ownBlock <;> simp)

theorem infoOps : (Tryd.prog.info? 28).map (fun i => (i.zero, i.size, i.bytes)) = some (some (.agg #[.int .i64 0, .int .i64 0]), 2, 16) := by kernel_rfl

/-- What comes of bytes: the instructions, what is wrong, and where. -/
structure Dec where
  ops : List (Int × Int)
  err : Int
  at_ : Int
def decGo (l : List UInt8) : Nat → Nat → List (Int × Int) → Dec
  | 0, _, acc => ⟨acc, 0, 0⟩
  | f + 1, a, acc =>
    if l.length ≤ a then ⟨acc, 0, 0⟩
    else if (atS l a).err ≠ 0 then ⟨[], (atS l a).err, a⟩
    else decGo l f (a + (atS l a).n.toNat) (acc ++ [((atS l a).code, (atS l a).operand)])
def decS (l : List UInt8) : Dec := if 512 < l.length then ⟨[], 2, 0⟩ else decGo l (l.length + 1) 0 []

theorem at_n {l : List UInt8} {a : Int} (h : (atS l a).err = 0) : ∃ n : Nat, (atS l a).n = n ∧ 1 ≤ n ∧ n ≤ 9 ∧ a + n ≤ l.length := by
  obtain ⟨a', rfl, h1, h2, h3, h4⟩ := at_in h
  have := width_le (shapeN (byteN l a'))
  exact ⟨1 + widthN (shapeN (byteN l a')), by rw [h4]; omega, by omega, by omega, by omega⟩

theorem dec_fuel (l : List UInt8) : ∀ (f f' a : Nat) (acc : List (Int × Int)), l.length < a + f → l.length < a + f' → decGo l f a acc = decGo l f' a acc
  | 0, f', a, acc, h, h' => by
    cases f' with
    | zero => rfl
    | succ f' => rw [decGo, decGo, if_pos (by omega)]
  | f + 1, f', a, acc, h, h' => by
    cases f' with
    | zero => rw [decGo, decGo, if_pos (by omega)]
    | succ f' =>
      rw [decGo, decGo]
      by_cases h1 : l.length ≤ a
      · rw [if_pos h1, if_pos h1]
      · rw [if_neg h1, if_neg h1]
        by_cases h2 : (atS l a).err ≠ 0
        · rw [if_pos h2, if_pos h2]
        · rw [if_neg h2, if_neg h2]
          obtain ⟨n, e, h3, h4, h5⟩ := at_n (by simpa using h2 : (atS l a).err = 0)
          rw [e]
          exact dec_fuel l f f' _ _ (by simp; omega) (by simp; omega)

/-- What is left of Decode, at a place, behind some instructions. -/
def decAt (l : List UInt8) (a : Nat) (acc : List (Int × Int)) : Dec := decGo l (l.length + 1 - a) a acc
theorem dec_end {l : List UInt8} {a : Nat} {acc : List (Int × Int)} (h : l.length ≤ a) : decAt l a acc = ⟨acc, 0, 0⟩ := by
  unfold decAt
  cases l.length + 1 - a with
  | zero => rfl
  | succ f => rw [decGo, if_pos h]
theorem dec_bad {l : List UInt8} {a : Nat} {acc : List (Int × Int)} (h : a < l.length) (h2 : (atS l a).err ≠ 0) : decAt l a acc = ⟨[], (atS l a).err, a⟩ := by
  unfold decAt
  rw [show l.length + 1 - a = (l.length - a) + 1 by omega, decGo, if_neg (by omega), if_pos h2]
theorem dec_step {l : List UInt8} {a n : Nat} {acc : List (Int × Int)} (h : a < l.length) (h2 : (atS l a).err = 0) (hn : (atS l a).n = n) (h1 : 1 ≤ n) :
    decAt l a acc = decAt l (a + n) (acc ++ [((atS l a).code, (atS l a).operand)]) := by
  unfold decAt
  rw [show l.length + 1 - a = (l.length - a) + 1 by omega, decGo, if_neg (by omega), if_neg (by simp [h2]), hn]
  simp only [Int.toNat_natCast]
  exact dec_fuel l _ _ _ _ (by omega) (by omega)

def DecPost (x : Dec) (w : World) (e : Ending) (w' : World) : Prop :=
  ∃ a n c, e = .returned (.tuple #[.slice a n c, .int .i64 x.err, .int .i64 x.at_]) ∧ w'.ownsRow w.heap.size 28 2 (.slice a n c) x.ops.length (flatV x.ops) ∧ Below w.heap.size w w'

theorem flat_add (xs : List (Int × Int)) (r : Int × Int) : flatV xs ++ [.int .i64 r.1, .int .i64 r.2] = flatV (xs ++ [r]) := by
  unfold flatV
  rw [List.flatMap_append]
  simp

set_option maxRecDepth 100000 in
set_option maxHeartbeats 2000000 in
theorem Decode_calls (w : World) (s : ByteArray) (hs : s.size ≤ 281474976710656) (ht : Tabled w) : Calls Tryd.prog 15 #[.string s] w (DecPost (decS s.data.toList) w) := by
  have hl : s.data.toList.length = s.size := by simp
  by_cases hbig : 512 < s.size
  · have e : decS s.data.toList = ⟨[], 2, 0⟩ := by unfold decS; rw [if_pos (by omega)]
    have hb' : (512 : Int) < (s.size : Int) := by omega
    rw [e]
    clear e hl hbig ht
    go_enter Tryd.func15, Tryd.ntmps15
    go_wp2
    go_ret3
    exact ⟨none, 0, 0, rfl, World.ownsRow_nil _ _ _ _, Below.refl _ _⟩
  · have e : decS s.data.toList = decAt s.data.toList 0 [] := by unfold decS decAt; rw [if_neg (by omega)]; rfl
    rw [e]
    have hb' : (s.size : Int) ≤ 512 := by omega
    obtain ⟨i0, hi, hz0, hz1, hz2⟩ := info_parts infoOps
    have HT := Lib.hid ht
    have h0 := ht.1
    have HL := Lib.hid hl
    have HAT := Lib.hid (fun w a ht => CodeAt_calls w s a hs ht)
    generalize hX : decAt s.data.toList 0 [] = X
    have HX := Lib.hid hX
    clear hX e hl hbig ht
    go_enter Tryd.func15, Tryd.ntmps15
    go_wp2
    go_loopg [5, 6] (s.size + 1) (fun n v5 v6 wr => ∃ (a : Nat) (A : Option Addr) (c : Nat) (acc : List (Int × Int)), a ≤ s.size ∧ v6 = .int .i64 a ∧ n + a = s.size + 1 ∧ acc.length ≤ a ∧ v5 = .slice A acc.length c ∧ decAt s.data.toList a acc = X ∧
      wr.ownsRow w.heap.size 28 2 (.slice A acc.length c) acc.length (flatV acc) ∧ Below w.heap.size w wr)
    case atStart => exact ⟨0, none, 0, [], Nat.zero_le _, rfl, rfl, Nat.le_refl _, rfl, HX.out, World.ownsRow_nil _ _ _ _, Below.refl _ _⟩
    case round =>
      obtain ⟨a, A, c, acc, hk, rfl, hn, hacc, rfl, hd, own, bel⟩ := hrel
      have HN := Lib.hid hn
      have HD := Lib.hid hd
      clear hn hd
      by_cases hlt : a < s.size
      · have hlt' : (a : Int) < (s.size : Int) := by omega
        have hll : a < s.data.toList.length := by have := HL.out; omega
        by_cases he : (atS s.data.toList a).err = 0
        · obtain ⟨n, hn1, hn2, hn3, hn4⟩ := at_n he
          have hds := dec_step (acc := acc) hll he hn1 hn2
          have hn5 : (a : Int) + (n : Int) ≤ s.size := by have := HL.out; omega
          have HAT2 := Lib.hid (fun w ht => HAT.out w (a : Int) ht)
          unfold Spot4.val at HAT2
          generalize atS s.data.toList (a : Int) = z at *
          obtain ⟨zc, zo, zn, ze⟩ := z
          dsimp only at he hn1 hds HAT2
          subst he hn1
          have HDS := Lib.hid (hds.symm.trans HD.out)
          clear hds hll hn4
          go_wp2_with fail
          refine (HAT2.out _ (HT.out.below h0 (bel.mono (by omega)))).mono ?_
          rintro e1 w1 ⟨rfl, hb1⟩
          have bel1 := bel.trans (hb1.mono bel.size)
          have own1 := own_below own hb1
          have hz := hb1.size
          have hz0' := bel.size
          go_wp2_with (at_builtin; refine wpList_append_own _ rfl _ _ 22 rfl w.heap.size 28 i0 (.agg #[.int .i64 0, .int .i64 0]) 2 16 Tryd.underlying22 hi hz0 hz1 hz2 rfl (by decide) _ _ _ rfl ((own1.alloc _).alloc _) ⟨w1.heap.size + 1, 0, none⟩ 1 1 [.int .i64 zc, .int .i64 zo] rfl rfl ?c1 ?c2 ?c3 ?c4 ?c5 ?_)
          case c1 =>
            intro j u hj
            match j, hj with
            | 0, hj => simp at hj; subst hj; simp [Addr.add]
            | 1, hj => simp at hj; subst hj; simp [Addr.add]
          case c2 => intro u hu; simp at hu; rcases hu with rfl | rfl <;> rfl
          case c3 => unfold maxLen; omega
          case c4 => omega
          case c5 => simp; omega
          intro v' w2 hown' hgrow _
          obtain ⟨A', c', hv'⟩ := own_slice hown'
          subst hv'
          have hb2 : Below w.heap.size w w2 := ((bel1.alloc (by omega) _).alloc (by simp; omega) _).grown hgrow (by simp; omega) (fun r hr => by have := (own1.lt r hr).1; omega)
          have hown2 : w2.ownsRow w.heap.size 28 2 (.slice A' (acc ++ [(zc, zo)]).length c') (acc ++ [(zc, zo)]).length (flatV (acc ++ [(zc, zo)])) := by
            rw [List.length_append, ← flat_add]
            exact hown'
          clear hgrow own own1 hown'
          go_wp2
          go_roundg (s.size + 1 - (a + n))
          case measure => have := HN.out; omega
          case rel => exact ⟨a + n, A', c', acc ++ [(zc, zo)], by omega, by go_num, by omega, by simp; omega, by simp, HDS.out, hown2, hb2⟩
        · have hdb := dec_bad (acc := acc) hll he
          have HAT2 := Lib.hid (fun w ht => HAT.out w (a : Int) ht)
          unfold Spot4.val at HAT2
          generalize atS s.data.toList (a : Int) = z at *
          obtain ⟨zc, zo, zn, ze⟩ := z
          dsimp only at he hdb HAT2
          have he' : (ze != 0) = true := by simpa using he
          have HDB := Lib.hid (HD.out.symm.trans hdb)
          clear hdb hll he
          go_wp2_with fail
          refine (HAT2.out _ (HT.out.below h0 (bel.mono (by omega)))).mono ?_
          rintro e1 w1 ⟨rfl, hb1⟩
          have bel1 := bel.trans (hb1.mono bel.size)
          go_wp2
          go_ret3
          rw [HDB.out]
          exact ⟨none, 0, 0, rfl, World.ownsRow_nil _ _ _ _, bel1.alloc bel1.size _⟩
      · have hka : a = s.size := by omega
        have HDE := Lib.hid (HD.out.symm.trans (dec_end (by have := HL.out; omega)))
        subst hka
        go_wp2
        go_ret3
        rw [HDE.out]
        exact ⟨A, acc.length, c, rfl, own, bel⟩

set_option maxRecDepth 100000 in
set_option maxHeartbeats 2000000 in
theorem RefDecode_calls (w : World) (s : ByteArray) (hs : s.size ≤ 281474976710656) (ht : Tabled w) : Calls Tryd.prog 16 #[.string s] w (DecPost (decS s.data.toList) w) := by
  have hl : s.data.toList.length = s.size := by simp
  by_cases hbig : 512 < s.size
  · have e : decS s.data.toList = ⟨[], 2, 0⟩ := by unfold decS; rw [if_pos (by omega)]
    have hb' : (512 : Int) < (s.size : Int) := by omega
    rw [e]
    clear e hl hbig ht
    go_enter Tryd.func16, Tryd.ntmps16
    go_wp2
    go_ret3
    exact ⟨none, 0, 0, rfl, World.ownsRow_nil _ _ _ _, Below.refl _ _⟩
  · have e : decS s.data.toList = decAt s.data.toList 0 [] := by unfold decS decAt; rw [if_neg (by omega)]; rfl
    rw [e]
    have hb' : (s.size : Int) ≤ 512 := by omega
    obtain ⟨i0, hi, hz0, hz1, hz2⟩ := info_parts infoOps
    have HT := Lib.hid ht
    have h0 := ht.1
    have HL := Lib.hid hl
    have HAT := Lib.hid (fun w a ht => (fun (_ : Tabled w) => RefAt_calls w s a (by omega)) ht)
    generalize hX : decAt s.data.toList 0 [] = X
    have HX := Lib.hid hX
    clear hX e hl hbig ht
    go_enter Tryd.func16, Tryd.ntmps16
    go_wp2
    go_loopg [5, 6] (s.size + 1) (fun n v5 v6 wr => ∃ (a : Nat) (A : Option Addr) (c : Nat) (acc : List (Int × Int)), a ≤ s.size ∧ v6 = .int .i64 a ∧ n + a = s.size + 1 ∧ acc.length ≤ a ∧ v5 = .slice A acc.length c ∧ decAt s.data.toList a acc = X ∧
      wr.ownsRow w.heap.size 28 2 (.slice A acc.length c) acc.length (flatV acc) ∧ Below w.heap.size w wr)
    case atStart => exact ⟨0, none, 0, [], Nat.zero_le _, rfl, rfl, Nat.le_refl _, rfl, HX.out, World.ownsRow_nil _ _ _ _, Below.refl _ _⟩
    case round =>
      obtain ⟨a, A, c, acc, hk, rfl, hn, hacc, rfl, hd, own, bel⟩ := hrel
      have HN := Lib.hid hn
      have HD := Lib.hid hd
      clear hn hd
      by_cases hlt : a < s.size
      · have hlt' : (a : Int) < (s.size : Int) := by omega
        have hll : a < s.data.toList.length := by have := HL.out; omega
        by_cases he : (atS s.data.toList a).err = 0
        · obtain ⟨n, hn1, hn2, hn3, hn4⟩ := at_n he
          have hds := dec_step (acc := acc) hll he hn1 hn2
          have hn5 : (a : Int) + (n : Int) ≤ s.size := by have := HL.out; omega
          have HAT2 := Lib.hid (fun w ht => HAT.out w (a : Int) ht)
          unfold Spot4.val at HAT2
          generalize atS s.data.toList (a : Int) = z at *
          obtain ⟨zc, zo, zn, ze⟩ := z
          dsimp only at he hn1 hds HAT2
          subst he hn1
          have HDS := Lib.hid (hds.symm.trans HD.out)
          clear hds hll hn4
          go_wp2_with fail
          refine (HAT2.out _ (HT.out.below h0 (bel.mono (by omega)))).mono ?_
          rintro e1 w1 ⟨rfl, hb1⟩
          have bel1 := bel.trans (hb1.mono bel.size)
          have own1 := own_below own hb1
          have hz := hb1.size
          have hz0' := bel.size
          go_wp2_with (at_builtin; refine wpList_append_own _ rfl _ _ 22 rfl w.heap.size 28 i0 (.agg #[.int .i64 0, .int .i64 0]) 2 16 Tryd.underlying22 hi hz0 hz1 hz2 rfl (by decide) _ _ _ rfl ((own1.alloc _).alloc _) ⟨w1.heap.size + 1, 0, none⟩ 1 1 [.int .i64 zc, .int .i64 zo] rfl rfl ?c1 ?c2 ?c3 ?c4 ?c5 ?_)
          case c1 =>
            intro j u hj
            match j, hj with
            | 0, hj => simp at hj; subst hj; simp [Addr.add]
            | 1, hj => simp at hj; subst hj; simp [Addr.add]
          case c2 => intro u hu; simp at hu; rcases hu with rfl | rfl <;> rfl
          case c3 => unfold maxLen; omega
          case c4 => omega
          case c5 => simp; omega
          intro v' w2 hown' hgrow _
          obtain ⟨A', c', hv'⟩ := own_slice hown'
          subst hv'
          have hb2 : Below w.heap.size w w2 := ((bel1.alloc (by omega) _).alloc (by simp; omega) _).grown hgrow (by simp; omega) (fun r hr => by have := (own1.lt r hr).1; omega)
          have hown2 : w2.ownsRow w.heap.size 28 2 (.slice A' (acc ++ [(zc, zo)]).length c') (acc ++ [(zc, zo)]).length (flatV (acc ++ [(zc, zo)])) := by
            rw [List.length_append, ← flat_add]
            exact hown'
          clear hgrow own own1 hown'
          go_wp2
          go_roundg (s.size + 1 - (a + n))
          case measure => have := HN.out; omega
          case rel => exact ⟨a + n, A', c', acc ++ [(zc, zo)], by omega, by go_num, by omega, by simp; omega, by simp, HDS.out, hown2, hb2⟩
        · have hdb := dec_bad (acc := acc) hll he
          have HAT2 := Lib.hid (fun w ht => HAT.out w (a : Int) ht)
          unfold Spot4.val at HAT2
          generalize atS s.data.toList (a : Int) = z at *
          obtain ⟨zc, zo, zn, ze⟩ := z
          dsimp only at he hdb HAT2
          have he' : (ze != 0) = true := by simpa using he
          have HDB := Lib.hid (HD.out.symm.trans hdb)
          clear hdb hll he
          go_wp2_with fail
          refine (HAT2.out _ (HT.out.below h0 (bel.mono (by omega)))).mono ?_
          rintro e1 w1 ⟨rfl, hb1⟩
          have bel1 := bel.trans (hb1.mono bel.size)
          go_wp2
          go_ret3
          rw [HDB.out]
          exact ⟨none, 0, 0, rfl, World.ownsRow_nil _ _ _ _, bel1.alloc bel1.size _⟩
      · have hka : a = s.size := by omega
        have HDE := Lib.hid (HD.out.symm.trans (dec_end (by have := HL.out; omega)))
        subst hka
        go_wp2
        go_ret3
        rw [HDE.out]
        exact ⟨A, acc.length, c, rfl, own, bel⟩

end Go.Proofs.YtafknogjhhghbaaDoor
