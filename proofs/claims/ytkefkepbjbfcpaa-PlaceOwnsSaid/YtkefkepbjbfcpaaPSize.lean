/- Sizes of regions: the contracts of within, of the layers' Sizes, of place.Size and of the reference's Size. -/
import Derived.Test.YtkefkepbjbfcpaaProg
import Derived.Test.YtkefkepbjbfcpaaBase
import Derived.KernelRfl
import Derived.BigQuiet
import Derived.Deep.QuietTactic
import Derived.Lib.Hide
import Derived.Outline
namespace Go.Proofs.Ytkefkepbjbfcpaa
open Go.RowKit

theorem just_quiet {f : FuncId} {args : Array Value} {w : World} {n : Nat} {v : Value} (h : ∀ W, Calls Try.prog f args W (Just v W)) :
    Calls Try.prog f args (w.drewN n) fun e w'' => e = .returned v ∧ ∃ m, w'' = w.drewN m := (h _).mono fun _ _ ⟨h1, h2⟩ => ⟨h1, n, h2.symm⟩

def withinB (n a b : Int) : Bool := decide (a ≤ n ∧ n ≤ b)
theorem within_t {n a b : Int} (h1 : a ≤ n) (h2 : n ≤ b) : withinB n a b = true := decide_eq_true ⟨h1, h2⟩
theorem within_f {n a b : Int} (h : n < a ∨ b < n) : withinB n a b = false := decide_eq_false (by omega)
theorem within_calls (n a b : Int) (w : World) : Calls Try.prog 21 #[.int .i64 n, .int .i64 a, .int .i64 b] w (Just (.bool (withinB n a b)) w) := by
  rcases (show n < a ∨ (a ≤ n ∧ b < n) ∨ (a ≤ n ∧ n ≤ b) from by omega) with h | ⟨h, h1⟩ | ⟨h, h1⟩
  · rw [within_f (.inl h)]
    have h' : decide (a ≤ n) = false := by simp; omega
    clear h
    go_enter Try.func21, Try.ntmps21
    go_wp2
    go_ret
    exact ⟨rfl, rfl⟩
  · rw [within_f (.inr h1)]
    have h' : decide (n ≤ b) = false := by simp; omega
    clear h1
    go_enter Try.func21, Try.ntmps21
    go_wp2
    go_ret
    exact ⟨rfl, rfl⟩
  · rw [within_t h h1]
    go_enter Try.func21, Try.ntmps21
    go_wp2
    go_ret
    exact ⟨rfl, rfl⟩
theorem within64_calls (n a b : Int) (w : World) : Calls Try.prog 27 #[.int .i64 n, .int .i64 a, .int .i64 b] w (Just (.bool (withinB n a b)) w) := by
  rcases (show n < a ∨ (a ≤ n ∧ b < n) ∨ (a ≤ n ∧ n ≤ b) from by omega) with h | ⟨h, h1⟩ | ⟨h, h1⟩
  · rw [within_f (.inl h)]
    have h' : decide (a ≤ n) = false := by simp; omega
    clear h
    go_enter Try.func27, Try.ntmps27
    go_wp2
    go_ret
    exact ⟨rfl, rfl⟩
  · rw [within_f (.inr h1)]
    have h' : decide (n ≤ b) = false := by simp; omega
    clear h1
    go_enter Try.func27, Try.ntmps27
    go_wp2
    go_ret
    exact ⟨rfl, rfl⟩
  · rw [within_t h h1]
    go_enter Try.func27, Try.ntmps27
    go_wp2
    go_ret
    exact ⟨rfl, rfl⟩

def rightB (a : Int) : Bool := decide (0 ≤ a ∧ a ≤ 16)
theorem rightB_t {a : Int} (h1 : 0 ≤ a) (h2 : a ≤ 16) : rightB a = true := decide_eq_true ⟨h1, h2⟩
theorem rightB_f {a : Int} (h : a < 0 ∨ 16 < a) : rightB a = false := decide_eq_false (by omega)
theorem Right_calls (a : Int) (w : World) : Calls Try.prog 22 #[.int .i64 a] w (Just (.bool (rightB a)) w) := by
  rcases (show a < 0 ∨ (0 ≤ a ∧ 16 < a) ∨ (0 ≤ a ∧ a ≤ 16) from by omega) with h | ⟨h, h1⟩ | ⟨h, h1⟩
  · rw [rightB_f (.inl h)]
    have h2 : decide (0 ≤ a) = false := by simp; omega
    clear h
    go_enter Try.func22, Try.ntmps22
    go_wp2
    go_ret
    exact ⟨rfl, rfl⟩
  · rw [rightB_f (.inr h1)]
    have h2 : decide (a ≤ 16) = false := by simp; omega
    clear h1
    go_enter Try.func22, Try.ntmps22
    go_wp2
    go_ret
    exact ⟨rfl, rfl⟩
  · rw [rightB_t h h1]
    go_enter Try.func22, Try.ntmps22
    go_wp2
    go_ret
    exact ⟨rfl, rfl⟩

/-- The size of a region, by its kind. -/
def szI (kind cap : Int) : Int := if kind = 1 then cap else if kind = 2 then cap + 2 else if kind = 3 then 3 * cap + 1 else 2 * cap + 3
def regB (kind cap : Int) : Bool := decide (1 ≤ kind ∧ kind ≤ 4 ∧ 0 ≤ cap ∧ cap ≤ 16)
def sizeN (kind cap : Int) : Int := if regB kind cap = true then szI kind cap else 0
def sizeE (kind cap : Int) : Int := if regB kind cap = true then 0 else 13
theorem size_no {kind cap : Int} (h : kind < 1 ∨ 4 < kind ∨ cap < 0 ∨ 16 < cap) : sizeN kind cap = 0 ∧ sizeE kind cap = 13 := by
  have e : regB kind cap = false := decide_eq_false (by omega)
  simp [sizeN, sizeE, e]
theorem size_yes {kind cap : Int} (h1 : 1 ≤ kind) (h2 : kind ≤ 4) (h3 : 0 ≤ cap) (h4 : cap ≤ 16) : sizeN kind cap = szI kind cap ∧ sizeE kind cap = 0 := by
  have e : regB kind cap = true := decide_eq_true ⟨h1, h2, h3, h4⟩
  simp [sizeN, sizeE, e]
theorem size_bd (kind cap : Int) : 0 ≤ sizeN kind cap ∧ sizeN kind cap ≤ 49 := by
  unfold sizeN
  split
  · rename_i h
    have := of_decide_eq_true h
    unfold szI
    split
    · omega
    · split
      · omega
      · split <;> omega
  · omega

section
variable (a : Int) (w : World) (h : 0 ≤ a) (h1 : a ≤ 16)
include h h1
theorem Size1_calls : Calls Try.prog 17 #[.int .i64 a] w (Just (.int .i64 (szI 1 a)) w) := by
  have e : szI 1 a = a := rfl
  rw [e]
  go_enter Try.func17, Try.ntmps17
  go_wp2
  go_ret
  exact ⟨rfl, rfl⟩
theorem Size2_calls : Calls Try.prog 18 #[.int .i64 a] w (Just (.int .i64 (szI 2 a)) w) := by
  have e : szI 2 a = a + 2 := rfl
  rw [e]
  go_enter Try.func18, Try.ntmps18
  go_wp2
  go_ret
  exact ⟨rfl, rfl⟩
theorem Size3_calls : Calls Try.prog 19 #[.int .i64 a] w (Just (.int .i64 (szI 3 a)) w) := by
  have e : szI 3 a = 3 * a + 1 := rfl
  rw [e]
  go_enter Try.func19, Try.ntmps19
  go_wp2
  go_ret
  exact ⟨rfl, rfl⟩
theorem Size4_calls : Calls Try.prog 20 #[.int .i64 a] w (Just (.int .i64 (szI 4 a)) w) := by
  have e : szI 4 a = 2 * a + 3 := rfl
  rw [e]
  go_enter Try.func20, Try.ntmps20
  go_wp2
  go_ret
  exact ⟨rfl, rfl⟩
theorem RSize1_calls : Calls Try.prog 23 #[.int .i64 a] w (Just (.int .i64 (szI 1 a)) w) := by
  have e : szI 1 a = a := rfl
  rw [e]
  have hr := rightB_t h h1
  go_enter Try.func23, Try.ntmps23
  go_wp2_with (go_at_call 22; refine (Right_calls _ _).mono ?_; rintro e w' ⟨rfl, rfl⟩)
  go_ret
  exact ⟨rfl, rfl⟩
theorem RSize2_calls : Calls Try.prog 24 #[.int .i64 a] w (Just (.int .i64 (szI 2 a)) w) := by
  have e : szI 2 a = a + 2 := rfl
  rw [e]
  have hr := rightB_t h h1
  go_enter Try.func24, Try.ntmps24
  go_wp2_with (go_at_call 22; refine (Right_calls _ _).mono ?_; rintro e w' ⟨rfl, rfl⟩)
  go_ret
  exact ⟨rfl, rfl⟩
theorem RSize3_calls : Calls Try.prog 25 #[.int .i64 a] w (Just (.int .i64 (szI 3 a)) w) := by
  have e : szI 3 a = 3 * a + 1 := rfl
  rw [e]
  have hr := rightB_t h h1
  go_enter Try.func25, Try.ntmps25
  go_wp2_with (go_at_call 22; refine (Right_calls _ _).mono ?_; rintro e w' ⟨rfl, rfl⟩)
  go_ret
  exact ⟨rfl, rfl⟩
theorem RSize4_calls : Calls Try.prog 26 #[.int .i64 a] w (Just (.int .i64 (szI 4 a)) w) := by
  have e : szI 4 a = 2 * a + 3 := rfl
  rw [e]
  have hr := rightB_t h h1
  go_enter Try.func26, Try.ntmps26
  go_wp2_with (go_at_call 22; refine (Right_calls _ _).mono ?_; rintro e w' ⟨rfl, rfl⟩)
  go_ret
  exact ⟨rfl, rfl⟩
end

def regV (kind cap : Int) : Value := .agg #[.int .i64 kind, .int .i64 cap]
def sizeV (kind cap : Int) : Value := .tuple #[.int .i64 (sizeN kind cap), .int .i64 (sizeE kind cap)]

set_option maxHeartbeats 1000000 in
theorem RSize_calls (kind cap : Int) (w : World) : Calls Try.prog 10 #[regV kind cap] w (Gives (sizeV kind cap) w) := by
  unfold sizeV regV
  rcases (show (cap < 0 ∨ 16 < cap) ∨ (0 ≤ cap ∧ cap ≤ 16) from by omega) with h | ⟨h, h1⟩
  · obtain ⟨e1, e2⟩ := size_no (kind := kind) (cap := cap) (by omega)
    rw [e1, e2]
    have hr := rightB_f h
    clear e1 e2 h
    go_enter Try.func10, Try.ntmps10
    go_wp2_with (go_at_call 22; refine (Right_calls _ _).mono ?_; rintro e w' ⟨rfl, rfl⟩)
    go_ret2
    exact ⟨rfl, below_alloc _ _⟩
  · have hr := rightB_t h h1
    rcases (show kind = 1 ∨ kind = 2 ∨ kind = 3 ∨ kind = 4 ∨ (kind ≠ 1 ∧ kind ≠ 2 ∧ kind ≠ 3 ∧ kind ≠ 4) from by omega) with rfl | rfl | rfl | rfl | ⟨k1, k2, k3, k4⟩
    case inr.inr.inr.inr =>
      obtain ⟨e1, e2⟩ := size_no (kind := kind) (cap := cap) (by omega)
      rw [e1, e2]
      have g1 : (kind == 1) = false := by simpa using k1
      have g2 : (kind == 2) = false := by simpa using k2
      have g3 : (kind == 3) = false := by simpa using k3
      have g4 : (kind == 4) = false := by simpa using k4
      clear e1 e2 k1 k2 k3 k4
      go_enter Try.func10, Try.ntmps10
      go_wp2_with (go_at_call 22; refine (Right_calls _ _).mono ?_; rintro e w' ⟨rfl, rfl⟩)
      go_ret2
      exact ⟨rfl, below_alloc _ _⟩
    all_goals
      rw [(size_yes (by omega) (by omega) h h1).1, (size_yes (by omega) (by omega) h h1).2]
      go_enter Try.func10, Try.ntmps10
      go_wp2_with (first | (go_at_call 22; refine (Right_calls _ _).mono ?_; rintro e w' ⟨rfl, rfl⟩) | (go_at_call 23; refine (RSize1_calls _ _ h h1).mono ?_; rintro e w' ⟨rfl, rfl⟩) | (go_at_call 24; refine (RSize2_calls _ _ h h1).mono ?_; rintro e w' ⟨rfl, rfl⟩) | (go_at_call 25; refine (RSize3_calls _ _ h h1).mono ?_; rintro e w' ⟨rfl, rfl⟩) | (go_at_call 26; refine (RSize4_calls _ _ h h1).mono ?_; rintro e w' ⟨rfl, rfl⟩))
      go_ret2
      exact ⟨rfl, below_alloc _ _⟩

set_option maxHeartbeats 1000000 in
theorem Size_calls (kind cap : Int) (w : World) : Calls Try.prog 9 #[regV kind cap] w (Gives (sizeV kind cap) w) := by
  unfold sizeV regV
  rcases (show (kind < 1 ∨ 4 < kind) ∨ (1 ≤ kind ∧ kind ≤ 4) from by omega) with h | ⟨hk, hk1⟩
  · obtain ⟨e1, e2⟩ := size_no (kind := kind) (cap := cap) (by omega)
    rw [e1, e2]
    have hw := within_f h
    clear e1 e2 h
    go_enter Try.func9, Try.ntmps9
    go_wp2_with (go_at_call 21; refine (within_calls _ _ _ _).mono ?_; rintro e w' ⟨rfl, rfl⟩)
    go_ret2
    exact ⟨rfl, below_alloc_of (below_alloc _ _) _⟩
  · have hw := within_t hk hk1
    rcases (show (cap < 0 ∨ 16 < cap) ∨ (0 ≤ cap ∧ cap ≤ 16) from by omega) with h | ⟨h, h1⟩
    · obtain ⟨e1, e2⟩ := size_no (kind := kind) (cap := cap) (by omega)
      rw [e1, e2]
      have hw2 := within_f h
      clear e1 e2 h hk hk1
      go_enter Try.func9, Try.ntmps9
      go_wp2_with (go_at_call 21; refine (within_calls _ _ _ _).mono ?_; rintro e w' ⟨rfl, rfl⟩)
      go_ret2
      exact ⟨rfl, below_alloc_of (below_alloc _ _) _⟩
    · have hw2 := within_t h h1
      rcases (show kind = 1 ∨ kind = 2 ∨ kind = 3 ∨ kind = 4 from by omega) with rfl | rfl | rfl | rfl
      all_goals
        rw [(size_yes (by omega) (by omega) h h1).1, (size_yes (by omega) (by omega) h h1).2]
        go_enter Try.func9, Try.ntmps9
        go_wp2_with (go_at_call 21; refine (within_calls _ _ _ _).mono ?_; rintro e w' ⟨rfl, rfl⟩)
        go_quiet ((first | (go_at_call 17; exact just_quiet (fun W => Size1_calls _ W h h1)) | (go_at_call 18; exact just_quiet (fun W => Size2_calls _ W h h1)) | (go_at_call 19; exact just_quiet (fun W => Size3_calls _ W h h1)) | (go_at_call 20; exact just_quiet (fun W => Size4_calls _ W h h1))))
        go_wp2
        go_ret2
        exact ⟨rfl, (below_alloc_of (below_alloc _ _) _).trans ⟨rfl, rfl, rfl, Nat.le_refl _, fun _ _ => rfl⟩⟩

end Go.Proofs.Ytkefkepbjbfcpaa
