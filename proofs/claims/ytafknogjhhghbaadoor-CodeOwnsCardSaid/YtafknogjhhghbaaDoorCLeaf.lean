/- Contracts of the leaf functions of layer 13: width, fits, value; the reference's Width and Range. -/
import Derived.Test.YtafknogjhhghbaaDoorCBase
import Derived.Test.YtafknogjhhghbaaDoorBase
import Derived.Test.YtafknogjhhghbaaDoorProg
import Derived.KernelRfl
import Derived.BigQuiet
import Derived.Deep.QuietTactic
import Derived.Outline
namespace Go.Proofs.YtafknogjhhghbaaDoor
open Go.RowKit

theorem seven {sh : Nat} (h : sh ≤ 6) : sh = 0 ∨ sh = 1 ∨ sh = 2 ∨ sh = 3 ∨ sh = 4 ∨ sh = 5 ∨ sh = 6 := by omega

theorem width_calls (sh : Nat) (h : sh ≤ 6) (w : World) : Calls Tryd.prog 19 #[.int .u8 (sh : Int)] w (Just (.int .i64 (widthN sh : Int)) w) := by
  rcases seven h with rfl | rfl | rfl | rfl | rfl | rfl | rfl
  all_goals
    clear h
    go_enter Tryd.func19, Tryd.ntmps19
    go_wp2
    go_ret
    exact ⟨rfl, rfl⟩

theorem ret_bool {a b : Bool} (h : a = b) : Ending.returned (.bool a) = .returned (.bool b) := by rw [h]
theorem ret_int {k : IntKind} {a b : Int} (h : a = b) : Ending.returned (.int k a) = .returned (.int k b) := by rw [h]

set_option maxHeartbeats 400000 in
theorem fits_calls (sh : Nat) (h : sh ≤ 6) (n : Int) (h1 : -9223372036854775808 ≤ n) (h2 : n ≤ 9223372036854775807) (w : World) :
    Calls Tryd.prog 18 #[.int .u8 (sh : Int), .int .i64 n] w (Just (.bool (fitsB sh n)) w) := by
  rcases seven h with rfl | rfl | rfl | rfl | rfl | rfl | rfl
  · have e : fitsB 0 n = (n == 0) := by
      unfold fitsB
      by_cases hz : n = 0
      · subst hz; rfl
      · rw [decide_eq_false (by show ¬ ((0 : Int) ≤ n ∧ n ≤ 0); omega)]; simp [hz]
    rw [e]
    clear h e h1 h2
    go_enter Tryd.func18, Tryd.ntmps18
    go_wp2
    go_ret
    exact ⟨rfl, rfl⟩
  · clear h h1 h2
    rcases (show n < (-128) ∨ ((-128) ≤ n ∧ 127 < n) ∨ ((-128) ≤ n ∧ n ≤ 127) from by omega) with hh | ⟨hh, h1⟩ | ⟨hh, h1⟩
    · have e : fitsB 1 n = false := decide_eq_false (by show ¬ ((-128) ≤ n ∧ n ≤ 127); omega)
      rw [e]
      have g : decide ((-128) ≤ n) = false := by simp; omega
      clear e hh
      go_enter Tryd.func18, Tryd.ntmps18
      go_wp2
      go_ret
      exact ⟨rfl, rfl⟩
    · have e : fitsB 1 n = false := decide_eq_false (by show ¬ ((-128) ≤ n ∧ n ≤ 127); omega)
      rw [e]
      have g : decide (n ≤ 127) = false := by simp; omega
      clear e h1
      go_enter Tryd.func18, Tryd.ntmps18
      go_wp2
      go_ret
      exact ⟨rfl, rfl⟩
    · have e : fitsB 1 n = true := decide_eq_true (by show (-128) ≤ n ∧ n ≤ 127; omega)
      rw [e]
      clear e
      go_enter Tryd.func18, Tryd.ntmps18
      go_wp2
      go_ret
      exact ⟨rfl, rfl⟩
  · clear h h1 h2
    rcases (show n < (-32768) ∨ ((-32768) ≤ n ∧ 32767 < n) ∨ ((-32768) ≤ n ∧ n ≤ 32767) from by omega) with hh | ⟨hh, h1⟩ | ⟨hh, h1⟩
    · have e : fitsB 2 n = false := decide_eq_false (by show ¬ ((-32768) ≤ n ∧ n ≤ 32767); omega)
      rw [e]
      have g : decide ((-32768) ≤ n) = false := by simp; omega
      clear e hh
      go_enter Tryd.func18, Tryd.ntmps18
      go_wp2
      go_ret
      exact ⟨rfl, rfl⟩
    · have e : fitsB 2 n = false := decide_eq_false (by show ¬ ((-32768) ≤ n ∧ n ≤ 32767); omega)
      rw [e]
      have g : decide (n ≤ 32767) = false := by simp; omega
      clear e h1
      go_enter Tryd.func18, Tryd.ntmps18
      go_wp2
      go_ret
      exact ⟨rfl, rfl⟩
    · have e : fitsB 2 n = true := decide_eq_true (by show (-32768) ≤ n ∧ n ≤ 32767; omega)
      rw [e]
      clear e
      go_enter Tryd.func18, Tryd.ntmps18
      go_wp2
      go_ret
      exact ⟨rfl, rfl⟩
  · have e : fitsB 3 n = true := decide_eq_true ⟨h1, h2⟩
    rw [e]
    clear h e h1 h2
    go_enter Tryd.func18, Tryd.ntmps18
    go_wp2
    go_ret
    exact ⟨rfl, rfl⟩
  · clear h h1 h2
    rcases (show n < 0 ∨ (0 ≤ n ∧ 6 ≤ n) ∨ (0 ≤ n ∧ n < 6) from by omega) with hh | ⟨hh, h1⟩ | ⟨hh, h1⟩
    · have e : fitsB 4 n = false := decide_eq_false (by show ¬ (0 ≤ n ∧ n ≤ 5); omega)
      rw [e]
      have g : decide (0 ≤ n) = false := by simp; omega
      clear e hh
      go_enter Tryd.func18, Tryd.ntmps18
      go_wp2
      go_ret
      exact ⟨rfl, rfl⟩
    · have e : fitsB 4 n = false := decide_eq_false (by show ¬ (0 ≤ n ∧ n ≤ 5); omega)
      rw [e]
      have g : decide (n < 6) = false := by simp; omega
      clear e h1
      go_enter Tryd.func18, Tryd.ntmps18
      go_wp2
      go_ret
      exact ⟨rfl, rfl⟩
    · have e : fitsB 4 n = true := decide_eq_true (by show 0 ≤ n ∧ n ≤ 5; omega)
      rw [e]
      clear e
      go_enter Tryd.func18, Tryd.ntmps18
      go_wp2
      go_ret
      exact ⟨rfl, rfl⟩
  · clear h h1 h2
    rcases (show n < 0 ∨ (0 ≤ n ∧ 255 < n) ∨ (0 ≤ n ∧ n ≤ 255) from by omega) with hh | ⟨hh, h1⟩ | ⟨hh, h1⟩
    · have e : fitsB 5 n = false := decide_eq_false (by show ¬ (0 ≤ n ∧ n ≤ 255); omega)
      rw [e]
      have g : decide (0 ≤ n) = false := by simp; omega
      clear e hh
      go_enter Tryd.func18, Tryd.ntmps18
      go_wp2
      go_ret
      exact ⟨rfl, rfl⟩
    · have e : fitsB 5 n = false := decide_eq_false (by show ¬ (0 ≤ n ∧ n ≤ 255); omega)
      rw [e]
      have g : decide (n ≤ 255) = false := by simp; omega
      clear e h1
      go_enter Tryd.func18, Tryd.ntmps18
      go_wp2
      go_ret
      exact ⟨rfl, rfl⟩
    · have e : fitsB 5 n = true := decide_eq_true (by show 0 ≤ n ∧ n ≤ 255; omega)
      rw [e]
      clear e
      go_enter Tryd.func18, Tryd.ntmps18
      go_wp2
      go_ret
      exact ⟨rfl, rfl⟩
  · clear h h1 h2
    rcases (show n < 0 ∨ (0 ≤ n ∧ 65535 < n) ∨ (0 ≤ n ∧ n ≤ 65535) from by omega) with hh | ⟨hh, h1⟩ | ⟨hh, h1⟩
    · have e : fitsB 6 n = false := decide_eq_false (by show ¬ (0 ≤ n ∧ n ≤ 65535); omega)
      rw [e]
      have g : decide (0 ≤ n) = false := by simp; omega
      clear e hh
      go_enter Tryd.func18, Tryd.ntmps18
      go_wp2
      go_ret
      exact ⟨rfl, rfl⟩
    · have e : fitsB 6 n = false := decide_eq_false (by show ¬ (0 ≤ n ∧ n ≤ 65535); omega)
      rw [e]
      have g : decide (n ≤ 65535) = false := by simp; omega
      clear e h1
      go_enter Tryd.func18, Tryd.ntmps18
      go_wp2
      go_ret
      exact ⟨rfl, rfl⟩
    · have e : fitsB 6 n = true := decide_eq_true (by show 0 ≤ n ∧ n ≤ 65535; omega)
      rw [e]
      clear e
      go_enter Tryd.func18, Tryd.ntmps18
      go_wp2
      go_ret
      exact ⟨rfl, rfl⟩

theorem value_i8 (n : Nat) : wrap64 (IntKind.i8.wrap (n : Int)) = valueI 1 n := by
  have e : IntKind.i8.wrap (n : Int) = if n % 256 < 128 then ((n % 256 : Nat) : Int) else ((n % 256 : Nat) : Int) - 256 := by
    simp [IntKind.wrap, IntKind.bits, IntKind.signed]
    split <;> split <;> omega
  rw [e]
  unfold valueI wrap64
  rw [if_pos rfl]
  split <;> omega
theorem value_i16 (n : Nat) : wrap64 (IntKind.i16.wrap (n : Int)) = valueI 2 n := by
  have e : IntKind.i16.wrap (n : Int) = if n % 65536 < 32768 then ((n % 65536 : Nat) : Int) else ((n % 65536 : Nat) : Int) - 65536 := by
    simp [IntKind.wrap, IntKind.bits, IntKind.signed]
    split <;> split <;> omega
  rw [e]
  unfold valueI wrap64
  rw [if_neg (show ¬ (2 : Nat) = 1 by omega), if_pos rfl]
  split <;> omega

theorem value_else {sh n : Nat} (h1 : sh ≠ 1) (h2 : sh ≠ 2) : wrap64 (n : Int) = valueI sh n := by unfold valueI; rw [if_neg h1, if_neg h2]

theorem value_calls (sh : Nat) (h : sh ≤ 6) (n : Nat) (_hn : n < 18446744073709551616) (w : World) : Calls Tryd.prog 23 #[.int .u8 (sh : Int), .int .u64 (n : Int)] w (Just (.int .i64 (valueI sh n)) w) := by
  rcases seven h with rfl | rfl | rfl | rfl | rfl | rfl | rfl
  all_goals
    clear h
    go_enter Tryd.func23, Tryd.ntmps23
    go_wp2
    go_ret
    refine ⟨ret_int ?_, rfl⟩
    first | exact value_i8 n | exact value_i16 n | exact value_else (by omega) (by omega)

end Go.Proofs.YtafknogjhhghbaaDoor
