/- Instructions as bytes: plain data, and the contract of Encode. -/
import Derived.Test.YtafknogjhhghbaaDoorCWalks
import Derived.Laws.BytesArg
namespace Go.Proofs.YtafknogjhhghbaaDoor
open Go.RowKit

/-- The low bytes of a number, the lowest first. -/
def leBytes (n : Nat) : Nat → List UInt8
  | 0 => []
  | k + 1 => UInt8.ofNat (n % 256) :: leBytes (n / 256) k
theorem leBytes_snoc : ∀ (k n : Nat), leBytes n (k + 1) = leBytes n k ++ [UInt8.ofNat (n / 256 ^ k % 256)]
  | 0, n => by simp [leBytes]
  | k + 1, n => by
    have ih := leBytes_snoc k (n / 256)
    rw [leBytes, ih, leBytes, Nat.div_div_eq_div_mul, ← Nat.pow_succ']
    rfl
theorem leBytes_len : ∀ (k n : Nat), (leBytes n k).length = k
  | 0, _ => rfl
  | k + 1, n => by rw [leBytes, List.length_cons, leBytes_len k]
def wordN (o : Int) : Nat := (o % 18446744073709551616).toNat
def opBytes (r : Int × Int) : List UInt8 := UInt8.ofNat r.1.toNat :: leBytes (wordN r.2) (widthN (shapeN r.1.toNat))

structure Enc where
  bytes : List UInt8
  err : Int
  at_ : Int
def encGo : List (Int × Int) → Nat → List UInt8 → Enc
  | [], _, acc => ⟨acc, 0, 0⟩
  | r :: rs, i, acc =>
    if r.1 < 0 ∨ 41 ≤ r.1 then ⟨[], 10, i⟩
    else if fitsB (shapeN r.1.toNat) r.2 = false then ⟨[], 12, i⟩
    else if 512 < (acc ++ opBytes r).length then ⟨[], 2, i⟩
    else encGo rs (i + 1) (acc ++ opBytes r)
def encAt (rs : List (Int × Int)) (k : Nat) (acc : List UInt8) : Enc := encGo (rs.drop k) k acc
def encS (rs : List (Int × Int)) : Enc := encAt rs 0 []
theorem enc_end {rs : List (Int × Int)} {k : Nat} {acc : List UInt8} (h : rs.length ≤ k) : encAt rs k acc = ⟨acc, 0, 0⟩ := by
  unfold encAt
  rw [List.drop_eq_nil_of_le h]
  rfl
theorem enc_at {rs : List (Int × Int)} {k : Nat} (acc : List UInt8) (h : k < rs.length) : encAt rs k acc =
    if (rs.getD k (0, 0)).1 < 0 ∨ 41 ≤ (rs.getD k (0, 0)).1 then ⟨[], 10, k⟩
    else if fitsB (shapeN (rs.getD k (0, 0)).1.toNat) (rs.getD k (0, 0)).2 = false then ⟨[], 12, k⟩
    else if 512 < (acc ++ opBytes (rs.getD k (0, 0))).length then ⟨[], 2, k⟩
    else encAt rs (k + 1) (acc ++ opBytes (rs.getD k (0, 0))) := by
  have e : rs.getD k (0, 0) = rs[k] := by simp [List.getD_eq_getElem?_getD, h]
  unfold encAt
  rw [List.drop_eq_getElem_cons h, encGo, e]

/-- A row of bytes of the call's own. -/
def OwnB (w : World) (base : Nat) (v : Value) (l : List UInt8) : Prop := w.ownsRow base 5 1 v l.length (l.map fun b => Value.int .u8 (b.toNat : Int))
theorem ownB_slice {w : World} {base : Nat} {v : Value} {l : List UInt8} (h : OwnB w base v l) : ∃ A c, v = .slice A l.length c := own_slice h
theorem ownB_below {w w' : World} {base : Nat} {v : Value} {l : List UInt8} (h : OwnB w base v l) (hb : Below w.heap.size w w') : OwnB w' base v l := own_below h hb
theorem ownB_snoc {w : World} {base : Nat} {v : Value} {l : List UInt8} {b : UInt8} (h : w.ownsRow base 5 1 v (l.length + 1) ((l.map fun b => Value.int .u8 (b.toNat : Int)) ++ [Value.int .u8 (b.toNat : Int)])) : OwnB w base v (l ++ [b]) := by
  unfold OwnB
  rw [List.length_append, List.map_append]
  exact h
theorem infoU8 : (Tryd.prog.info? 5).map (fun i => (i.zero, i.size, i.bytes)) = some (some (.int .u8 0), 1, 1) := by kernel_rfl

/-- The bytes of a row as a string. -/
theorem conv_own {w : World} {base n c : Nat} {A : Option Addr} {l : List UInt8} (h : OwnB w base (.slice A n c) l) (hn : n = l.length) : (convert 40 9 (.slice A n c)).run Tryd.prog w = .ok (.string ⟨l.toArray⟩) w := by
  subst hn
  rcases Nat.eq_zero_or_pos l.length with h0 | h0
  · have hl : l = [] := List.eq_nil_of_length_eq_zero h0
    subst hl
    have h2 := h.2
    rcases h2 with ⟨h3, _⟩ | ⟨g, cap, cur, hv, _⟩
    · injection h3 with e1 e2 e3
      subst e1
      exact run_convert_bytes_nil (P := Tryd.prog) (w := w) 40 5 Tryd.underlying40 Tryd.underlying5 _ _ 9 Tryd.underlying9
    · injection hv with e1 e2 e3
      subst e1
      exact run_convert_bytes_arg (P := Tryd.prog) (w := w) 40 5 Tryd.underlying40 Tryd.underlying5 g 0 0 c [] rfl (fun i hi => by omega) 9 Tryd.underlying9
  · obtain ⟨g, rfl, hg, hc⟩ := own_at h h0
    have hr := run_convert_bytes_arg (P := Tryd.prog) (w := w) 40 5 Tryd.underlying40 Tryd.underlying5 g 0 l.length c (l.map fun b => (b.toNat : Int)) (by simp) (fun i hi => by
      rw [Nat.zero_add, hc i (.int .u8 (l[i]'hi).toNat) (by simp [hi])]
      simp [List.getD_eq_getElem?_getD, hi]) 9 Tryd.underlying9
    rw [hr]
    congr 2
    unfold strOfNums
    congr 2
    rw [List.map_map]
    exact (List.map_congr_left (fun b _ => by simp)).trans (List.map_id l)

def EncPost (x : Enc) (w : World) (e : Ending) (w' : World) : Prop := e = .returned (.tuple #[.string ⟨x.bytes.toArray⟩, .int .i64 x.err, .int .i64 x.at_]) ∧ Below w.heap.size w w'

end Go.Proofs.YtafknogjhhghbaaDoor
