/- Instructions as bytes: the contract of Encode. -/
import Derived.Test.YtafknogjhhghbaaDoorCEnc
namespace Go.Proofs.YtafknogjhhghbaaDoor
open Go.RowKit

theorem word_val (o : Int) : IntKind.u64.wrap o = ((wordN o : Nat) : Int) := by
  have h : IntKind.u64.wrap o = o % 18446744073709551616 := by simp [IntKind.wrap, IntKind.bits, IntKind.signed]
  rw [h]
  unfold wordN
  exact (Int.toNat_of_nonneg (Int.emod_nonneg _ (by omega))).symm
theorem u8_val (n : Nat) (h : n < 256) : (UInt8.ofNat n).toNat = n := by
  rw [UInt8.toNat_ofNat']
  omega
theorem byte_val (o : Int) (j : Nat) : IntKind.u64.wrap o / 2 ^ (8 * j) % 256 = ((UInt8.ofNat (wordN o / 256 ^ j % 256)).toNat : Int) := by
  have e2 : (2 : Int) ^ (8 * j) = ((256 ^ j : Nat) : Int) := by rw [← pow8, Int.natCast_pow]; rfl
  rw [word_val, e2, u8_val _ (by omega)]
  generalize 256 ^ j = m
  generalize wordN o = n
  rfl
theorem own_ne {w : World} {base n size g : Nat} {e t : TypeId} {v : Value} {xs : List Value} {cs : Array Value} (h : w.ownsRow base e size v n xs) (hg : w.heap[g]? = some (.cells cs t (0, 0))) (hne : e ≠ t) : v.ownBlock ≠ some g := by
  rcases h.2 with ⟨rfl, _⟩ | ⟨g', cap, cur, rfl, _, hh, _⟩
  · simp [Value.ownBlock]
  · intro he
    have : g' = g := by simpa [Value.ownBlock] using he
    subst this
    have h2 := hh.symm.trans hg
    injection h2 with h3
    injection h3 with _ h4
    exact hne h4

set_option maxRecDepth 100000 in
set_option maxHeartbeats 4000000 in
theorem Encode_calls (w : World) (B : Nat) (v : Value) (rs : List (Int × Int)) (hr : ReadsR w B v rs) (hB : B ≤ w.heap.size) (hq : ∀ r ∈ rs, (-9223372036854775808 ≤ r.1 ∧ r.1 ≤ 9223372036854775807) ∧ (-9223372036854775808 ≤ r.2 ∧ r.2 ≤ 9223372036854775807)) (ht : Tabled w) :
    Calls Tryd.prog 11 #[v] w (EncPost (encS rs) w) := by
  obtain ⟨hl, a, cp, rfl, hcp, hcm, hr⟩ := hr
  obtain ⟨i0, hi, hz0, hz1, hz2⟩ := info_parts infoU8
  have HR := Lib.hid hr
  have HQ := Lib.hid hq
  have HT := Lib.hid ht
  have h0 := ht.1
  unfold encS
  generalize hX : encAt rs 0 [] = X
  have HX := Lib.hid hX
  clear hr hq ht hX
  go_enter Tryd.func11, Tryd.ntmps11
  go_wp2
  go_loopg [5, 12] (rs.length + 1) (fun n v5 vk wr => ∃ (k : Nat) (A : Option Addr) (c : Nat) (acc : List UInt8), k ≤ rs.length ∧ vk = .int .i64 k ∧ n + k = rs.length + 1 ∧ v5 = .slice A acc.length c ∧ acc.length ≤ 512 ∧ encAt rs k acc = X ∧
    OwnB wr w.heap.size (.slice A acc.length c) acc ∧ Below w.heap.size w wr)
  case atStart => exact ⟨0, none, 0, [], Nat.zero_le _, rfl, rfl, rfl, by simp, HX.out, World.ownsRow_nil _ _ _ _, Below.refl _ _⟩
  case round =>
    obtain ⟨k, A, c, acc, hk, rfl, hn, rfl, hacc, hd, own, bel⟩ := hrel
    have HN := Lib.hid hn
    have HD := Lib.hid hd
    clear hn hd
    by_cases hlt : k < rs.length
    · rcases HR.out with h | ⟨b, off, rfl, hbB, hcell⟩
      · exact absurd hlt (by rw [h]; simp)
      have hc0 := (bel.cell (p := ⟨b, off + k * 2, none⟩) (by simp; omega)).trans (hcell k hlt).1
      have hc1 := (bel.cell (p := ⟨b, off + k * 2 + 1, none⟩) (by simp; omega)).trans (hcell k hlt).2
      have hqk := HQ.out (rs.getD k (0, 0)) (by simp [List.getD_eq_getElem?_getD, hlt])
      have HEA := Lib.hid (HD.out.symm.trans (enc_at acc hlt))
      generalize rs.getD k (0, 0) = r at *
      obtain ⟨code, opd⟩ := r
      dsimp only at hc0 hc1 hqk
      obtain ⟨⟨q0, q1⟩, q2, q3⟩ := hqk
      have hbs : b < wr.heap.size := by have := bel.size; omega
      have hlt' : (k : Int) < (rs.length : Int) := by omega
      clear hcell
      by_cases hbad : code < 0 ∨ 41 ≤ code
      · have hE := HEA.out
        rw [if_pos hbad] at hE
        have HE := Lib.hid hE
        clear hE
        rcases (show code < 0 ∨ (0 ≤ code ∧ 41 ≤ code) from by omega) with hb | ⟨hb, hb'⟩
        all_goals
          clear hbad
          go_wp2
          go_ret3
          rw [HE.out]
          exact ⟨rfl, bel.alloc bel.size _⟩
      · have hE := HEA.out
        rw [if_neg hbad] at hE
        obtain ⟨cN, rfl⟩ := Int.eq_ofNat_of_zero_le (show 0 ≤ code by omega)
        rw [Int.toNat_natCast] at hE
        have hc41 : cN < 41 := by omega
        have hsh := shape_le cN
        have htab := (HT.out.below h0 (bel.mono (by omega))).2 cN hc41
        have h0' := (HT.out.below h0 (bel.mono (by omega))).1
        have HF := Lib.hid (fun w => fits_calls _ hsh opd q2 q3 w)
        have HW := Lib.hid (fun w => width_calls _ hsh w)
        have hwl := width_le (shapeN cN)
        have HE := Lib.hid hE
        have hob : (opBytes ((cN : Int), opd)) = UInt8.ofNat cN :: leBytes (wordN opd) (widthN (shapeN cN)) := by unfold opBytes; simp
        have HOB := Lib.hid hob
        clear hE hbad hob q0 q1
        have hcN : (cN : Int) < 41 := by omega
        by_cases hf : fitsB (shapeN cN) opd = true
        · generalize hWd : widthN (shapeN cN) = W at *
          have HWD := Lib.hid hWd
          clear hWd
          have hz := bel.size
          have own' : wr.ownsRow w.heap.size 5 1 (.slice A acc.length c) acc.length (acc.map fun b => Value.int .u8 (b.toNat : Int)) := own
          go_wp2_with (first | (go_at_call 18; refine (HF.out _).mono ?_; rintro e w' ⟨rfl, rfl⟩) | (at_builtin; refine wpList_append_own _ rfl _ _ 40 rfl w.heap.size 5 i0 (.int .u8 0) 1 1 Tryd.underlying40 hi hz0 hz1 hz2 rfl (by decide) _ _ _ rfl ((own'.alloc _).alloc _) ⟨wr.heap.size + 1, 0, none⟩ 1 1 [.int .u8 (cN : Int)] rfl rfl ?c1 ?c2 ?c3 ?c4 ?c5 ?_))
          case c1 =>
            intro j u hj
            match j, hj with
            | 0, hj => simp at hj; subst hj; simp [Addr.add]
          case c2 => intro u hu; simp at hu; subst hu; rfl
          case c3 => unfold maxLen; omega
          case c4 => omega
          case c5 => simp; omega
          intro v1 w1 hown1 hgrow1 _
          have hbc : (UInt8.ofNat cN).toNat = cN := by simp; omega
          have hown1' : OwnB w1 w.heap.size v1 (acc ++ [UInt8.ofNat cN]) := ownB_snoc (by rw [hbc]; exact hown1)
          have hb1 : Below w.heap.size w w1 := ((bel.alloc (by omega) _).alloc (by simp; omega) _).grown hgrow1 (by simp; omega) (fun r hr => by have := (own'.lt r hr).1; omega)
          have hg1 : w1.heap[wr.heap.size]? = some (.cells #[.int .i64 (cN : Int), .int .i64 opd] 28 (0, 0)) := (hgrow1.block wr.heap.size (by simp <;> omega) (fun e => by have := (own'.lt _ e.symm).2; omega)).trans (heap_old (heap_new rfl))
          obtain ⟨⟨p0, p1⟩, -, hgz⟩ := box2 hg1
          have HG1 := Lib.hid hg1
          obtain ⟨A1, c1', hv1⟩ := ownB_slice hown1'
          subst hv1
          clear hgrow1 hown1 own own' hg1 hc0 hc1
          go_wp2_with (go_at_call 19; refine (HW.out _).mono ?_; rintro e w' ⟨rfl, rfl⟩)
          have hsz1 := hb1.size
          obtain ⟨wo, rfl⟩ : ∃ wo : World, wo = wr := ⟨_, rfl⟩
          go_loopg [5, 44] (W + 1) (fun n v5 vj wr => ∃ (j : Nat) (A : Option Addr) (c : Nat), j ≤ W ∧ vj = .int .i64 j ∧ n + j = W + 1 ∧ v5 = .slice A (acc.length + 1 + j) c ∧ OwnB wr w.heap.size (.slice A (acc.length + 1 + j) c) (acc ++ UInt8.ofNat cN :: leBytes (wordN opd) j) ∧
            wr.heap[wo.heap.size]? = some (.cells #[.int .i64 (cN : Int), .int .i64 opd] 28 (0, 0)) ∧ Below w.heap.size w wr)
          case atStart => exact ⟨0, A1, c1', Nat.zero_le _, rfl, rfl, by simp, by simpa [leBytes] using hown1', HG1.out, hb1⟩
          case round =>
            obtain ⟨j, A2, c2, hj, rfl, hnj, rfl, ownj, hgj, belj⟩ := hrel
            have HNJ := Lib.hid hnj
            have HGJ := Lib.hid hgj
            obtain ⟨⟨p0, p1⟩, -, hgz⟩ := box2 hgj
            have hszj := belj.size
            clear hnj hgj hown1' 
            by_cases hjW : j < W
            · have hjW' : (j : Int) < (W : Int) := by omega
              have hsn := leBytes_snoc j (wordN opd)
              have hbv := byte_val opd j
              have HSN := Lib.hid hsn
              have HBV := Lib.hid hbv
              have HPOS : Hid (acc ++ UInt8.ofNat cN :: leBytes (wordN opd) (j + 1) = (acc ++ UInt8.ofNat cN :: leBytes (wordN opd) j) ++ [UInt8.ofNat (wordN opd / 256 ^ j % 256)]) := by show _ = _; rw [hsn]; simp
              have hlen : (acc ++ UInt8.ofNat cN :: leBytes (wordN opd) j).length = acc.length + 1 + j := by simp [leBytes_len]; omega
              generalize hLL : acc ++ UInt8.ofNat cN :: leBytes (wordN opd) j = L at *
              have ownj' : wr.ownsRow w.heap.size 5 1 (.slice A2 (acc.length + 1 + j) c2) (acc.length + 1 + j) (L.map fun b => Value.int .u8 (b.toNat : Int)) := by have h := ownj; unfold OwnB at h; rw [hlen] at h; exact h
              have HLEN := Lib.hid hlen
              clear hsn hbv hLL hlen
              generalize UInt8.ofNat (wordN opd / 256 ^ j % 256) = bb at *
              go_wp2_with (at_builtin; refine wpList_append_own _ rfl _ _ 40 rfl w.heap.size 5 i0 (.int .u8 0) 1 1 Tryd.underlying40 hi hz0 hz1 hz2 rfl (by decide) _ _ _ rfl (ownj'.alloc _) ⟨wr.heap.size, 0, none⟩ 1 1 [.int .u8 (IntKind.u64.wrap opd / 2 ^ (8 * j) % 256)] rfl rfl ?d1 ?d2 ?d3 ?d4 ?d5 ?_)
              case d1 =>
                intro q u hq
                match q, hq with
                | 0, hq => simp at hq; subst hq; simp [Addr.add]
              case d2 => intro u hu; simp at hu; subst hu; rfl
              case d3 => unfold maxLen; omega
              case d4 => omega
              case d5 => simp; omega
              intro v3 w3 hown3 hgrow3 _
              rw [HBV.out] at hown3
              have hown3' : OwnB w3 w.heap.size v3 (L ++ [bb]) := ownB_snoc (by rw [HLEN.out]; exact hown3)
              have hb3 : Below w.heap.size w w3 := (belj.alloc (by omega) _).grown hgrow3 (by simp; omega) (fun r hr => by have := (ownj'.lt r hr).1; omega)
              have hg3 : w3.heap[wo.heap.size]? = some (.cells #[.int .i64 (cN : Int), .int .i64 opd] 28 (0, 0)) := (hgrow3.block wo.heap.size (by simp; omega) (fun e => own_ne ownj' HGJ.out (by decide) e.symm)).trans (heap_old HGJ.out)
              obtain ⟨A3, c3, hv3⟩ := ownB_slice hown3'
              have hl3 : (L ++ [bb]).length = acc.length + 1 + (j + 1) := by rw [List.length_append, HLEN.out]; rfl
              rw [hl3] at hv3
              subst hv3
              have HG3 := Lib.hid hg3
              clear hgrow3 hown3 ownj ownj' hg3
              go_wp2
              go_roundg (W - j)
              case measure => have := HNJ.out; omega
              case rel => exact ⟨j + 1, A3, c3, by omega, by go_num, by omega, rfl, by rw [HPOS.out]; exact hown3', HG3.out, hb3⟩
            · have hjW' : j = W := by omega
              have HOB2 := HOB.out
              rw [← hjW'] at HOB2
              have hE2 := HE.out
              rw [if_neg (by rw [hf]; decide), HOB2] at hE2
              have hlen : (acc ++ UInt8.ofNat cN :: leBytes (wordN opd) j).length = acc.length + 1 + j := by simp [leBytes_len]; omega
              generalize acc ++ UInt8.ofNat cN :: leBytes (wordN opd) j = L at *
              have HLEN := Lib.hid hlen
              subst hjW'
              rw [hlen] at hE2
              clear HOB2 hlen
              by_cases hbig : 512 < acc.length + 1 + j
              · rw [if_pos hbig] at hE2
                have HE2 := Lib.hid hE2
                have hbig' : (512 : Int) < (acc.length : Int) + 1 + j := by omega
                clear hE2
                go_wp2
                go_ret3
                rw [HE2.out]
                exact ⟨rfl, belj⟩
              · rw [if_neg hbig] at hE2
                have HE2 := Lib.hid hE2
                clear hE2
                go_wp2
                go_roundg (rs.length - k)
                case measure => have := HN.out; omega
                case rel => exact ⟨k + 1, A2, c2, L, by omega, by go_num, by omega, by rw [HLEN.out], by rw [HLEN.out]; omega, HE2.out.symm, by rw [HLEN.out]; exact ownj, belj⟩
        · have hE2 := HE.out
          have hf' : fitsB (shapeN cN) opd = false := by simpa using hf
          rw [if_pos hf'] at hE2
          have HE2 := Lib.hid hE2
          clear hE2 hf
          go_wp2_with (go_at_call 18; refine (HF.out _).mono ?_; rintro e w' ⟨rfl, rfl⟩)
          go_ret3
          rw [HE2.out]
          exact ⟨rfl, bel.alloc bel.size _⟩
    · have hka : k = rs.length := by omega
      have HDE := Lib.hid (HD.out.symm.trans (enc_end (by omega)))
      have hcv := conv_own own rfl
      subst hka
      go_wp2
      go_ret3
      rw [HDE.out]
      exact ⟨rfl, bel⟩

end Go.Proofs.YtafknogjhhghbaaDoor
