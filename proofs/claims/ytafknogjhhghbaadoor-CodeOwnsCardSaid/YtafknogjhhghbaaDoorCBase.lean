/- Instructions as plain data: shapes of operands, widths, values, what stands at a place; no program in sight. -/
import Derived.WalkKit
import Derived.Lib.Hide
import Derived.Laws.BitsAllLaws
import Derived.Laws.BitsLemmas
namespace Go.Proofs.YtafknogjhhghbaaDoor
open Go.RowKit

def shapeT : List Nat := [0, 1, 2, 3, 0, 0, 0, 0, 0, 0, 0, 0, 0, 0, 0, 0, 0, 0, 0, 0, 0, 0, 0, 4, 2, 2, 6, 0, 5, 0, 0, 0, 0, 5, 5, 5, 5, 5, 5, 5, 5]
def shapeN (c : Nat) : Nat := shapeT.getD c 0
def widthN (sh : Nat) : Nat := if sh = 1 ∨ sh = 4 ∨ sh = 5 then 1 else if sh = 2 ∨ sh = 6 then 2 else if sh = 3 then 8 else 0
/-- The least and the greatest operand of a shape. -/
def loI (sh : Nat) : Int := if sh = 1 then -128 else if sh = 2 then -32768 else if sh = 3 then -9223372036854775808 else 0
def hiI (sh : Nat) : Int := if sh = 1 then 127 else if sh = 2 then 32767 else if sh = 3 then 9223372036854775807 else if sh = 4 then 5 else if sh = 5 then 255 else if sh = 6 then 65535 else 0
def fitsB (sh : Nat) (n : Int) : Bool := decide (loI sh ≤ n ∧ n ≤ hiI sh)
/-- The number that bits of a shape are. -/
def valueI (sh : Nat) (n : Nat) : Int :=
  if sh = 1 then (if n % 256 < 128 then (n % 256 : Nat) else (n % 256 : Nat) - 256) else if sh = 2 then (if n % 65536 < 32768 then (n % 65536 : Nat) else (n % 65536 : Nat) - 65536) else wrap64 n

theorem shape_le (c : Nat) : shapeN c ≤ 6 := by
  by_cases h : c < 41
  · have : ∀ c, c < 41 → shapeN c ≤ 6 := by decide
    exact this c h
  · unfold shapeN
    rw [List.getD_eq_getElem?_getD, List.getElem?_eq_none (by simp [shapeT]; omega)]
    simp
theorem width_le (sh : Nat) : widthN sh ≤ 8 := by
  unfold widthN
  split
  · omega
  · split
    · omega
    · split <;> omega

def byteN (l : List UInt8) (i : Nat) : Nat := (l.getD i 0).toNat
theorem byte_lt (l : List UInt8) (i : Nat) : byteN l i < 256 := (l.getD i 0).toNat_lt
/-- The bytes from a place on as a number, the lowest first. -/
def leF (l : List UInt8) (a : Nat) : Nat → Nat
  | 0 => 0
  | k + 1 => byteN l a + 256 * leF l (a + 1) k
theorem leF_snoc (l : List UInt8) : ∀ (k a : Nat), leF l a (k + 1) = leF l a k + byteN l (a + k) * 256 ^ k
  | 0, a => by simp [leF]
  | k + 1, a => by
    have ih := leF_snoc l k (a + 1)
    rw [leF, ih, leF, Nat.pow_succ]
    have e : a + 1 + k = a + (k + 1) := by omega
    rw [e, Nat.mul_add]
    have : 256 * (byteN l (a + (k + 1)) * 256 ^ k) = byteN l (a + (k + 1)) * (256 ^ k * 256) := by
      rw [Nat.mul_comm 256, Nat.mul_assoc]
    omega
theorem leF_lt (l : List UInt8) : ∀ (k a : Nat), leF l a k < 256 ^ k
  | 0, a => by simp [leF]
  | k + 1, a => by
    have ih := leF_lt l k (a + 1)
    have hb := byte_lt l a
    rw [leF, Nat.pow_succ]
    omega
theorem pow_le8 {k : Nat} (h : k ≤ 8) : 256 ^ k ≤ 18446744073709551616 := Nat.le_trans (Nat.pow_le_pow_right (by omega) h) (by decide)
theorem leF_lt8 (l : List UInt8) (k a : Nat) (h : k ≤ 8) : leF l a k < 18446744073709551616 := Nat.lt_of_lt_of_le (leF_lt l k a) (pow_le8 h)

/-- What stands at a place: the code, the operand, how many bytes, what is wrong. -/
structure Spot4 where
  code : Int
  operand : Int
  n : Int
  err : Int
def noSpot : Spot4 := ⟨0, 0, 0, 10⟩
def atS (l : List UInt8) (at_ : Int) : Spot4 :=
  if at_ < 0 ∨ l.length ≤ at_ then noSpot
  else if 41 ≤ byteN l at_.toNat then noSpot
  else if l.length < at_.toNat + 1 + widthN (shapeN (byteN l at_.toNat)) then noSpot
  else if fitsB (shapeN (byteN l at_.toNat)) (valueI (shapeN (byteN l at_.toNat)) (leF l (at_.toNat + 1) (widthN (shapeN (byteN l at_.toNat))))) = true then
    ⟨byteN l at_.toNat, valueI (shapeN (byteN l at_.toNat)) (leF l (at_.toNat + 1) (widthN (shapeN (byteN l at_.toNat)))), 1 + widthN (shapeN (byteN l at_.toNat)), 0⟩
  else noSpot

theorem wrap_small {n : Nat} (h : n < 9223372036854775808) : wrap64 (n : Int) = n := by
  unfold wrap64
  omega
theorem value_range (sh n : Nat) : -9223372036854775808 ≤ valueI sh n ∧ valueI sh n ≤ 9223372036854775807 := by
  unfold valueI
  split
  · split <;> omega
  · split
    · split <;> omega
    · unfold wrap64
      omega

theorem pow8 (k : Nat) : 2 ^ (8 * k) = 256 ^ k := by rw [Nat.pow_mul]
theorem or_step (n b k : Nat) (hn : n < 256 ^ k) (hb : b < 256) (hk : k < 8) : bits .or .u64 (n : Int) (IntKind.u64.wrap (IntKind.u64.wrap (b : Int) * 2 ^ (8 * k))) = ((n + b * 256 ^ k : Nat) : Int) := by
  have h1 : 256 ^ k * 256 ≤ 18446744073709551616 := by
    have := Nat.pow_le_pow_right (show 0 < 256 by omega) (show k + 1 ≤ 8 by omega)
    rw [Nat.pow_succ] at this
    exact Nat.le_trans this (by decide)
  have e1 : IntKind.u64.wrap (b : Int) = b := by simp [IntKind.wrap, IntKind.bits, IntKind.signed]; omega
  have h2 : b * 256 ^ k < 18446744073709551616 := by
    have : b * 256 ^ k ≤ 255 * 256 ^ k := Nat.mul_le_mul_right _ (by omega)
    omega
  have e2 : IntKind.u64.wrap ((b : Int) * 2 ^ (8 * k)) = ((b * 256 ^ k : Nat) : Int) := by
    have e : (b : Int) * 2 ^ (8 * k) = ((b * 256 ^ k : Nat) : Int) := by rw [← pow8]; push_cast; rfl
    rw [e]
    simp only [IntKind.wrap, IntKind.bits, IntKind.signed]
    generalize b * 256 ^ k = m at *
    simp
    omega
  have hn2 : n < 18446744073709551616 := by omega
  rw [e1, e2, u64_or_nat _ _ hn2 h2]
  congr 1
  have h3 := Nat.two_pow_add_eq_or_of_lt (i := 8 * k) (b := n) (by rw [pow8]; exact hn) b
  rw [pow8, Nat.mul_comm (256 ^ k) b] at h3
  rw [Nat.or_comm, ← h3, Nat.add_comm]

end Go.Proofs.YtafknogjhhghbaaDoor
