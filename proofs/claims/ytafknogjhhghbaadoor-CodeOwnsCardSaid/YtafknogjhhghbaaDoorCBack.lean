/- What Encode gives Decode takes: the plain law; the walks of the laws CodeEncodes and CodeBack. -/
import Derived.Test.YtafknogjhhghbaaDoorCRefEnc
namespace Go.Proofs.YtafknogjhhghbaaDoor
open Go.RowKit

theorem le_leBytes : ∀ (k n : Nat) (pre rest : List UInt8), leF (pre ++ (leBytes n k ++ rest)) pre.length k = n % 256 ^ k
  | 0, n, _, _ => by simp [leF]; omega
  | k + 1, n, pre, rest => by
    have ih := le_leBytes k (n / 256) (pre ++ [UInt8.ofNat (n % 256)]) rest
    have e : pre ++ (leBytes n (k + 1) ++ rest) = (pre ++ [UInt8.ofNat (n % 256)]) ++ (leBytes (n / 256) k ++ rest) := by simp [leBytes]
    have hl : (pre ++ [UInt8.ofNat (n % 256)]).length = pre.length + 1 := by simp
    rw [hl] at ih
    have hb : byteN (pre ++ (leBytes n (k + 1) ++ rest)) pre.length = n % 256 := by
      unfold byteN
      rw [List.getD_eq_getElem?_getD, List.getElem?_append_right (Nat.le_refl _)]
      simp [leBytes, u8_val (n % 256) (by omega)]
    rw [leF, hb, e, ih, Nat.pow_succ, Nat.mul_comm (256 ^ k) 256, Nat.mod_mul]

theorem val_word {sh : Nat} {o : Int} (h : sh ≤ 6) (hf : fitsB sh o = true) : valueI sh (wordN o % 256 ^ widthN sh) = o := by
  obtain ⟨f1, f2⟩ := of_decide_eq_true hf
  rcases seven h with rfl | rfl | rfl | rfl | rfl | rfl | rfl
  · have f1' : (0 : Int) ≤ o := f1
    have f2' : o ≤ 0 := f2
    show valueI 0 (wordN o % 1) = o
    rw [← value_else (by omega) (by omega)]
    unfold wrap64
    omega
  · have f1' : (-128 : Int) ≤ o := f1
    have f2' : o ≤ 127 := f2
    show valueI 1 (wordN o % 256) = o
    unfold valueI wordN
    rw [if_pos rfl]
    split <;> omega
  · have f1' : (-32768 : Int) ≤ o := f1
    have f2' : o ≤ 32767 := f2
    show valueI 2 (wordN o % 65536) = o
    unfold valueI wordN
    rw [if_neg (show ¬ (2 : Nat) = 1 by omega), if_pos rfl]
    split <;> omega
  · have f1' : (-9223372036854775808 : Int) ≤ o := f1
    have f2' : o ≤ 9223372036854775807 := f2
    show valueI 3 (wordN o % 18446744073709551616) = o
    rw [← value_else (by omega) (by omega)]
    unfold wrap64 wordN
    omega
  · have f1' : (0 : Int) ≤ o := f1
    have f2' : o ≤ 5 := f2
    show valueI 4 (wordN o % 256) = o
    rw [← value_else (by omega) (by omega)]
    unfold wrap64 wordN
    omega
  · have f1' : (0 : Int) ≤ o := f1
    have f2' : o ≤ 255 := f2
    show valueI 5 (wordN o % 256) = o
    rw [← value_else (by omega) (by omega)]
    unfold wrap64 wordN
    omega
  · have f1' : (0 : Int) ≤ o := f1
    have f2' : o ≤ 65535 := f2
    show valueI 6 (wordN o % 65536) = o
    rw [← value_else (by omega) (by omega)]
    unfold wrap64 wordN
    omega

theorem op_len (r : Int × Int) : (opBytes r).length = 1 + widthN (shapeN r.1.toNat) := by
  unfold opBytes
  simp [leBytes_len]
  omega

/-- An instruction's bytes are read back. -/
theorem at_enc {l acc rest : List UInt8} {r : Int × Int} (hl : l = acc ++ opBytes r ++ rest) (h0 : 0 ≤ r.1) (h1 : r.1 < 41) (h2 : fitsB (shapeN r.1.toNat) r.2 = true) :
    atS l acc.length = ⟨r.1, r.2, 1 + widthN (shapeN r.1.toNat), 0⟩ := by
  have hol := op_len r
  have hlen : l.length = acc.length + (1 + widthN (shapeN r.1.toNat)) + rest.length := by rw [hl]; simp; omega
  have hb : byteN l acc.length = r.1.toNat := by
    rw [hl]
    unfold byteN opBytes
    rw [List.getD_eq_getElem?_getD, List.append_assoc, List.getElem?_append_right (Nat.le_refl _)]
    simp [u8_val r.1.toNat (by omega)]
  have hle : leF l (acc.length + 1) (widthN (shapeN r.1.toNat)) = wordN r.2 % 256 ^ widthN (shapeN r.1.toNat) := by
    have := le_leBytes (widthN (shapeN r.1.toNat)) (wordN r.2) (acc ++ [UInt8.ofNat r.1.toNat]) rest
    rw [show (acc ++ [UInt8.ofNat r.1.toNat]).length = acc.length + 1 by simp] at this
    rw [← this, hl]
    congr 1
    unfold opBytes
    simp
  have hv := val_word (shape_le r.1.toNat) h2
  rw [atS_ok (by omega) (by rw [hb]; omega) (by rw [hb]; omega), hb, hle, hv, if_pos h2, Int.toNat_of_nonneg h0]

theorem enc_pre : ∀ (rs : List (Int × Int)) (i : Nat) (acc : List UInt8), (encGo rs i acc).err = 0 → ∃ rest, (encGo rs i acc).bytes = acc ++ rest
  | [], _, acc, _ => ⟨[], by simp [encGo]⟩
  | r :: rs, i, acc, h => by
    rw [encGo] at h ⊢
    split at h
    · simp at h
    · rename_i h1
      rw [if_neg h1]
      split at h
      · simp at h
      · rename_i h2
        rw [if_neg h2]
        split at h
        · simp at h
        · rename_i h3
          rw [if_neg h3]
          obtain ⟨rest, hr⟩ := enc_pre rs (i + 1) _ h
          exact ⟨opBytes r ++ rest, by rw [hr, List.append_assoc]⟩
theorem enc_small : ∀ (rs : List (Int × Int)) (i : Nat) (acc : List UInt8), acc.length ≤ 512 → (encGo rs i acc).bytes.length ≤ 512
  | [], _, acc, h => by simpa [encGo] using h
  | r :: rs, i, acc, h => by
    rw [encGo]
    split
    · simp
    · split
      · simp
      · split
        · simp
        · exact enc_small rs (i + 1) _ (by omega)

theorem back_go (l : List UInt8) : ∀ (rs : List (Int × Int)) (i : Nat) (acc : List UInt8) (ops : List (Int × Int)) (f : Nat), (encGo rs i acc).err = 0 → (encGo rs i acc).bytes = l → l.length < acc.length + f → decGo l f acc.length ops = ⟨ops ++ rs, 0, 0⟩
  | [], i, acc, ops, f, h, hl, hf => by
    have hl' : acc = l := by simpa [encGo] using hl
    subst hl'
    cases f with
    | zero => omega
    | succ f => rw [decGo, if_pos (Nat.le_refl _)]; simp
  | r :: rs, i, acc, ops, f, h, hl, hf => by
    have h0 := h
    rw [encGo] at h
    split at h
    · simp at h
    · rename_i h1
      split at h
      · simp at h
      · rename_i h2
        split at h
        · simp at h
        · rename_i h3
          have hfit : fitsB (shapeN r.1.toNat) r.2 = true := by simpa using h2
          have hcons := enc_cons (rs := rs) (i := i) (show 0 ≤ r.1 by omega) (show r.1 < 41 by omega) hfit (show (acc ++ opBytes r).length ≤ 512 by omega)
          rw [hcons] at hl
          obtain ⟨rest, hr⟩ := enc_pre rs (i + 1) _ h
          have hll : l = acc ++ opBytes r ++ rest := by rw [← hl, hr]
          have hat := at_enc hll (by omega) (by omega) hfit
          have hlen : l.length = acc.length + (1 + widthN (shapeN r.1.toNat)) + rest.length := by rw [hll]; simp [op_len]; omega
          cases f with
          | zero => omega
          | succ f =>
            rw [decGo, if_neg (by omega), hat, if_neg (by simp)]
            have hn : ((1 : Int) + (widthN (shapeN r.1.toNat) : Int)).toNat = 1 + widthN (shapeN r.1.toNat) := by omega
            have e : acc.length + (1 + widthN (shapeN r.1.toNat)) = (acc ++ opBytes r).length := by rw [List.length_append, op_len]
            dsimp only
            rw [hn, e, back_go l rs (i + 1) (acc ++ opBytes r) (ops ++ [(r.1, r.2)]) f h hl (by rw [← e]; omega)]
            simp

theorem back {rs : List (Int × Int)} (h : (encS rs).err = 0) : decS (encS rs).bytes = ⟨rs, 0, 0⟩ := by
  have hs := enc_small rs 0 [] (by simp)
  unfold encS encAt at *
  simp only [List.drop_zero] at *
  unfold decS
  rw [if_neg (by omega)]
  have := back_go _ rs 0 [] [] ((encGo rs 0 []).bytes.length + 1) h rfl (by simp)
  simpa using this

set_option maxRecDepth 100000 in
set_option maxHeartbeats 1000000 in
theorem Encodes_walk (w : World) (v : Value) (rs : List (Int × Int)) (hr : ReadsR w w.heap.size v rs) (hq : ∀ r ∈ rs, (-9223372036854775808 ≤ r.1 ∧ r.1 ≤ 9223372036854775807) ∧ (-9223372036854775808 ≤ r.2 ∧ r.2 ≤ 9223372036854775807)) (ht : Tabled w) :
    Calls Tryd.prog 3 #[v] w (True_ w) := by
  have H1 := Lib.hid (Encode_calls w _ v rs hr (Nat.le_refl _) hq ht)
  have H2 := Lib.hid (fun w' h => RefEncode_calls w' w.heap.size v rs h)
  have HR := Lib.hid hr
  have HQ := Lib.hid hq
  generalize encS rs = X at *
  obtain ⟨bs, err, at_⟩ := X
  clear hr hq ht
  go_enter Tryd.func3, Tryd.ntmps3
  go_wp2_with fail
  refine H1.out.mono ?_
  rintro e1 w1 ⟨rfl, hb1⟩
  go_wp2_with fail
  refine (H2.out _ (HR.out.below hb1) hb1.size HQ.out).mono ?_
  rintro e2 w2 ⟨rfl, hb2⟩
  go_wp2
  go_ret
  exact ⟨rfl, hb1.trans (hb2.mono hb1.size)⟩

set_option maxRecDepth 100000 in
set_option maxHeartbeats 1000000 in
theorem Back_walk (w : World) (v : Value) (rs : List (Int × Int)) (hr : ReadsR w w.heap.size v rs) (hq : ∀ r ∈ rs, (-9223372036854775808 ≤ r.1 ∧ r.1 ≤ 9223372036854775807) ∧ (-9223372036854775808 ≤ r.2 ∧ r.2 ≤ 9223372036854775807)) (ht : Tabled w) :
    Calls Tryd.prog 8 #[v] w (True_ w) := by
  have H1 := Lib.hid (Encode_calls w _ v rs hr (Nat.le_refl _) hq ht)
  have H2 := Lib.hid (fun w' h => RefEncode_calls w' w.heap.size v rs h)
  have HR := Lib.hid hr
  have HQ := Lib.hid hq
  have HT := Lib.hid ht
  have h0 := ht.1
  have hrl := hr.1
  have HBK := Lib.hid (fun h => back (rs := rs) h)
  have hsm := enc_small rs 0 [] (by simp)
  have hsm2 : (encS rs).bytes.length ≤ 512 := by unfold encS encAt; simpa using hsm
  generalize encS rs = X at *
  obtain ⟨bs, err, at_⟩ := X
  dsimp only at hsm2
  clear hr hq ht hsm
  by_cases he : err = 0
  · have hbk := HBK.out he
    have HBK2 := Lib.hid hbk
    have HD := Lib.hid (fun w ht => Decode_calls w ⟨bs.toArray⟩ (by simp [ByteArray.size]; omega) ht)
    dsimp only at hbk
    subst he
    clear hbk
    go_enter Tryd.func8, Tryd.ntmps8
    go_wp2_with fail
    refine H1.out.mono ?_
    rintro e1 w1 ⟨rfl, hb1⟩
    go_wp2_with fail
    refine (HD.out _ (HT.out.below h0 hb1)).mono ?_
    rintro e2 w2 ⟨a2, n2, c2, rfl, own2, hb2⟩
    have hdd : decS (⟨bs.toArray⟩ : ByteArray).data.toList = ⟨rs, 0, 0⟩ := HBK2.out
    rw [hdd] at own2 ⊢
    have OW2 := Lib.hid own2
    have hb02 := hb1.trans (hb2.mono hb1.size)
    clear own2 hdd
    dsimp only
    go_wp2_with fail
    refine (Same_calls _ _ _ _ rs rs (own_reads OW2.out hrl) ((HR.out.below hb02).mono hb02.size)).mono ?_
    rintro e3 w3 ⟨rfl, hb3⟩
    rw [decide_eq_true rfl]
    go_wp2
    go_ret
    exact ⟨rfl, hb02.trans (hb3.mono hb02.size)⟩
  · have he' : (err != 0) = true := by simpa using he
    clear he
    go_enter Tryd.func8, Tryd.ntmps8
    go_wp2_with fail
    refine H1.out.mono ?_
    rintro e1 w1 ⟨rfl, hb1⟩
    go_wp2_with fail
    refine (H2.out _ (HR.out.below hb1) hb1.size HQ.out).mono ?_
    rintro e2 w2 ⟨rfl, hb2⟩
    go_wp2
    go_ret
    exact ⟨rfl, hb1.trans (hb2.mono hb1.size)⟩

end Go.Proofs.YtafknogjhhghbaaDoor
