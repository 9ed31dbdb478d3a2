/- What stands at a place: the contract of the reference's At. -/
import Derived.Test.YtafknogjhhghbaaDoorCOperand
namespace Go.Proofs.YtafknogjhhghbaaDoor
open Go.RowKit

theorem sub_byte (s : ByteArray) (a b i : Nat) (h : i < b - a) (hb : b ≤ s.size) : byteN (s.extract a b).data.toList i = byteN s.data.toList (a + i) := by
  have h1 : i < (s.extract a b).size := by rw [ByteArray.size_extract]; omega
  rw [byte_at _ i h1, byte_at s (a + i) (by omega)]
  congr 1
  exact ByteArray.getElem_extract ..
theorem leF_sub (s : ByteArray) (a w : Nat) (h : a + w ≤ s.size) : leF (s.extract a (a + w)).data.toList 0 w = leF s.data.toList a w :=
  leF_congr _ _ w 0 a (fun j hj => by rw [Nat.zero_add]; exact sub_byte s a (a + w) j (by omega) h)

theorem hi_fits {sh n : Nat} (_h : sh ≤ 6) (hn : n < 256 ^ widthN sh) : fitsB sh (valueI sh n) = decide (valueI sh n ≤ hiI sh) := by
  have : loI sh ≤ valueI sh n := by
    rcases seven _h with rfl | rfl | rfl | rfl | rfl | rfl | rfl
    · have : n = 0 := by simpa [widthN] using hn
      subst this
      show 0 ≤ valueI 0 0
      rw [← value_else (by omega) (by omega)]
      unfold wrap64
      omega
    · show -128 ≤ valueI 1 n
      unfold valueI
      rw [if_pos rfl]
      split <;> omega
    · show -32768 ≤ valueI 2 n
      unfold valueI
      rw [if_neg (show ¬ (2 : Nat) = 1 by omega), if_pos rfl]
      split <;> omega
    · exact (value_range 3 n).1
    all_goals
      have hn' : n < 65536 := Nat.lt_of_lt_of_le hn (by decide)
      show 0 ≤ valueI _ n
      rw [← value_else (by omega) (by omega)]
      unfold wrap64
      omega
  unfold fitsB
  by_cases h2 : valueI sh n ≤ hiI sh
  · rw [decide_eq_true ⟨this, h2⟩, decide_eq_true h2]
  · rw [decide_eq_false (fun h => h2 h.2), decide_eq_false h2]

theorem zero_fits {sh : Nat} (h : sh ≤ 6) (hw : widthN sh = 0) : sh = 0 := by
  rcases seven h with rfl | rfl | rfl | rfl | rfl | rfl | rfl
  · rfl
  all_goals simp [widthN] at hw

set_option maxRecDepth 100000 in
set_option maxHeartbeats 1000000 in
theorem RefAt_in (w : World) (s : ByteArray) (a : Nat) (hs : s.size ≤ 140737488351232) (ha : a < s.size) (hc : byteN s.data.toList a < 41) (hw : a + 1 + widthN (shapeN (byteN s.data.toList a)) ≤ s.size) :
    Calls Tryd.prog 14 #[.string s, .int .i64 (a : Int)] w (Gives (atS s.data.toList a).val w) := by
  have hb := byte_at s a ha
  have hatS : atS s.data.toList (a : Int) = if fitsB (shapeN (byteN s.data.toList a)) (valueI (shapeN (byteN s.data.toList a)) (leF s.data.toList (a + 1) (widthN (shapeN (byteN s.data.toList a))))) = true then
      ⟨byteN s.data.toList a, valueI (shapeN (byteN s.data.toList a)) (leF s.data.toList (a + 1) (widthN (shapeN (byteN s.data.toList a)))), 1 + widthN (shapeN (byteN s.data.toList a)), 0⟩ else noSpot := by
    have hl : s.data.toList.length = s.size := by simp
    unfold atS
    rw [if_neg (by omega), Int.toNat_natCast, if_neg (by omega), if_neg (by omega)]
  have hf := hi_fits (shape_le (byteN s.data.toList a)) (leF_lt s.data.toList (widthN (shapeN (byteN s.data.toList a))) (a + 1))
  have hsub := leF_sub s (a + 1) (widthN (shapeN (byteN s.data.toList a))) hw
  rw [hb] at hc hw hatS hf hsub
  have hsh := shape_le (s[a]'ha).toNat
  have HW := Lib.hid (fun w => Width_calls _ hc w)
  have HR := Lib.hid (fun w => Range_calls _ hc w)
  have ha' : (a : Int) < (s.size : Int) := by omega
  have HOP := Lib.hid (fun w h0 => operand_calls w (s.extract (a + 1) (a + 1 + widthN (shapeN (s[a]'ha).toNat))) _ hc (by rw [ByteArray.size_extract]; omega) h0)
  rw [hsub] at HOP
  rw [hf] at hatS
  have HAT := Lib.hid hatS
  have hat0 : widthN (shapeN (s[a]'ha).toNat) = 0 → atS s.data.toList (a : Int) = ⟨(s[a]'ha).toNat, 0, 1, 0⟩ := by
    intro h
    have hz := zero_fits hsh h
    have hv0 : valueI 0 0 = 0 := by rw [← value_else (by omega) (by omega)]; unfold wrap64; omega
    rw [hatS, h, hz, show leF s.data.toList (a + 1) 0 = 0 from rfl, hv0]
    rfl
  have HAT0 := Lib.hid hat0
  have hvr := value_range (shapeN (s[a]'ha).toNat) (leF s.data.toList (a + 1) (widthN (shapeN (s[a]'ha).toNat)))
  clear hb hatS hf hsub hat0
  generalize valueI (shapeN (s[a]'ha).toNat) (leF s.data.toList (a + 1) (widthN (shapeN (s[a]'ha).toNat))) = V at *
  generalize hWd : widthN (shapeN (s[a]'ha).toNat) = W at *
  by_cases hW0 : W = 0
  · have HAT1 := Lib.hid (HAT0.out hW0)
    clear HAT0 HAT HOP hWd
    subst hW0
    have hd1 : decide ((s.size : Int) - a - 1 < 0) = false := by simp; omega
    go_enter Tryd.func14, Tryd.ntmps14
    go_wp2_with (go_at_call 20; refine (HW.out _).mono ?_; rintro e w' ⟨rfl, rfl⟩)
    rw [HAT1.out]
    exact bodyPost_ret (results_op (p := 4) (u := 5) (v := 6) rfl _ _ _ _ _ _ _ rfl (heap_new rfl) Tryd.underlying28 rfl infoOp) rfl ⟨rfl, below_alloc _ _⟩
  · have hW0' : ((W : Int) == 0) = false := by simpa using hW0
    have HOP2 := Lib.hid (fun w => HOP.out w hW0)
    have hd1 : decide ((s.size : Int) - a - 1 < (W : Int)) = false := by simp; omega
    clear hW0 HOP hWd
    by_cases hV : V ≤ hiI (shapeN (s[a]'ha).toNat)
    · rw [decide_eq_true hV, if_pos rfl] at HAT
      have hV' : ¬ hiI (shapeN (s[a]'ha).toNat) < V := by omega
      go_enter Tryd.func14, Tryd.ntmps14
      go_wp2_with (first | (go_at_call 20; refine (HW.out _).mono ?_; rintro e w' ⟨rfl, rfl⟩) | (go_at_call 21; refine (HR.out _).mono ?_; rintro e w' ⟨rfl, rfl⟩) | (go_at_call 24; refine (HOP2.out _).mono ?_; rintro e w' ⟨rfl, rfl⟩))
      rw [HAT.out]
      exact bodyPost_ret (results_op (p := 4) (u := 5) (v := 6) rfl _ _ _ _ _ _ _ rfl (heap_new rfl) Tryd.underlying28 rfl infoOp) rfl ⟨rfl, below_alloc _ _⟩
    · rw [decide_eq_false hV, if_neg (by decide)] at HAT
      have hV' : hiI (shapeN (s[a]'ha).toNat) < V := by omega
      go_enter Tryd.func14, Tryd.ntmps14
      go_wp2_with (first | (go_at_call 20; refine (HW.out _).mono ?_; rintro e w' ⟨rfl, rfl⟩) | (go_at_call 21; refine (HR.out _).mono ?_; rintro e w' ⟨rfl, rfl⟩) | (go_at_call 24; refine (HOP2.out _).mono ?_; rintro e w' ⟨rfl, rfl⟩))
      rw [HAT.out]
      exact bodyPost_ret (results_op (p := 4) (u := 5) (v := 6) rfl _ _ _ _ _ _ _ rfl (heap_new rfl) Tryd.underlying28 rfl infoOp) rfl ⟨rfl, below_alloc _ _⟩

set_option maxRecDepth 100000 in
set_option maxHeartbeats 1000000 in
theorem RefAt_short (w : World) (s : ByteArray) (a : Nat) (_hs : s.size ≤ 140737488351232) (ha : a < s.size) (hc : byteN s.data.toList a < 41) (hw : s.size < a + 1 + widthN (shapeN (byteN s.data.toList a))) :
    Calls Tryd.prog 14 #[.string s, .int .i64 (a : Int)] w (Gives noSpot.val w) := by
  have hb := byte_at s a ha
  rw [hb] at hc hw
  have HW := Lib.hid (fun w => Width_calls _ hc w)
  have hwl := width_le (shapeN (s[a]'ha).toNat)
  have ha' : (a : Int) < (s.size : Int) := by omega
  have hd1 : decide ((s.size : Int) - a - 1 < (widthN (shapeN (s[a]'ha).toNat) : Int)) = true := by simp; omega
  clear hb
  go_enter Tryd.func14, Tryd.ntmps14
  go_wp2_with (go_at_call 20; refine (HW.out _).mono ?_; rintro e w' ⟨rfl, rfl⟩)
  exact bodyPost_ret (results_op (p := 4) (u := 5) (v := 6) rfl _ _ _ _ _ _ _ rfl (heap_new rfl) Tryd.underlying28 rfl infoOp) rfl ⟨rfl, below_alloc _ _⟩

theorem RefAt_out (w : World) (s : ByteArray) (a : Int) (_hs : s.size ≤ 140737488351232) (ha : a < 0 ∨ s.size ≤ a) :
    Calls Tryd.prog 14 #[.string s, .int .i64 a] w (Gives noSpot.val w) := by
  rcases (show a < 0 ∨ (0 ≤ a ∧ s.size ≤ a) from by omega) with h | ⟨h, h'⟩
  all_goals
    clear ha
    go_enter Tryd.func14, Tryd.ntmps14
    go_wp2
    exact bodyPost_ret (results_op (p := 4) (u := 5) (v := 6) rfl _ _ _ _ _ _ _ rfl (heap_new rfl) Tryd.underlying28 rfl infoOp) rfl ⟨rfl, below_alloc _ _⟩

set_option maxRecDepth 100000 in
set_option maxHeartbeats 1000000 in
theorem RefAt_bad (w : World) (s : ByteArray) (a : Nat) (_hs : s.size ≤ 140737488351232) (ha : a < s.size) (hc : 41 ≤ byteN s.data.toList a) :
    Calls Tryd.prog 14 #[.string s, .int .i64 (a : Int)] w (Gives noSpot.val w) := by
  have hb := byte_at s a ha
  rw [hb] at hc
  have HW := Lib.hid (fun w => Width_no _ (.inr (show (40 : Int) < ((s[a]'ha).toNat : Int) by omega)) w)
  have ha' : (a : Int) < (s.size : Int) := by omega
  have h256 : (s[a]'ha).toNat < 256 := (s[a]'ha).toNat_lt
  clear hb
  go_enter Tryd.func14, Tryd.ntmps14
  go_wp2_with (go_at_call 20; refine (HW.out _).mono ?_; rintro e w' ⟨rfl, rfl⟩)
  exact bodyPost_ret (results_op (p := 4) (u := 5) (v := 6) rfl _ _ _ _ _ _ _ rfl (heap_new rfl) Tryd.underlying28 rfl infoOp) rfl ⟨rfl, below_alloc _ _⟩

theorem RefAt_calls (w : World) (s : ByteArray) (a : Int) (hs : s.size ≤ 140737488351232) :
    Calls Tryd.prog 14 #[.string s, .int .i64 a] w (Gives (atS s.data.toList a).val w) := by
  have hl : s.data.toList.length = s.size := by simp
  by_cases h1 : a < 0 ∨ s.size ≤ a
  · have e : atS s.data.toList a = noSpot := by unfold atS; rw [if_pos (by omega)]
    rw [e]
    exact RefAt_out w s a hs h1
  · obtain ⟨a, rfl⟩ := Int.eq_ofNat_of_zero_le (show 0 ≤ a by omega)
    by_cases h2 : 41 ≤ byteN s.data.toList a
    · have e : atS s.data.toList a = noSpot := by unfold atS; rw [if_neg (by omega), Int.toNat_natCast, if_pos h2]
      rw [e]
      exact RefAt_bad w s a hs (by omega) h2
    · by_cases h3 : s.size < a + 1 + widthN (shapeN (byteN s.data.toList a))
      · have e : atS s.data.toList a = noSpot := by unfold atS; rw [if_neg (by omega), Int.toNat_natCast, if_neg h2, if_pos (by omega)]
        rw [e]
        exact RefAt_short w s a hs (by omega) (by omega) h3
      · exact RefAt_in w s a hs (by omega) (by omega) (by omega)

end Go.Proofs.YtafknogjhhghbaaDoor
