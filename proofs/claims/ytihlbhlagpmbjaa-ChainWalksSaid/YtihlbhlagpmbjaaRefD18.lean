/- What the chapter wants of the chain, as data; and the contracts of the small functions of the reference. -/
import Derived.Test.YtihlbhlagpmbjaaNew18
import Derived.Deep.LoopGhost
namespace Go.Proofs.Ytihlbhlagpmbjaa
open Go.RowKit

structure WayR where
  link : Int
  p : Int
  node : Int
  at_ : Bool
  key : Int
  reads : Nat
  over : Bool
  cell : Int
def WayR.cells (x : WayR) : Array Value := #[.int .i64 x.link, .int .i64 x.p, .int .i64 x.node, .bool x.at_, .int .i64 x.key, .int .i64 x.reads, .bool x.over, .int .i64 x.cell]

/-- The way to a key, from a link that was read on: so many nodes may still be come to. -/
def goLoop (key most : Int) : Nat → Int → Int → Nat → List Int → WayR
  | 0, link, p, cnt, _ => ⟨link, p, 0, false, 0, cnt, true, 0⟩
  | f + 1, link, p, cnt, rest =>
    if leadsP most p then
      match rest with
      | [] => ⟨link, p, 0, false, 0, cnt, false, keyI p⟩
      | [v] => if key ≤ v then ⟨link, p, p, v == key, v, cnt + 1, true, 0⟩ else ⟨linkI p, p, 0, false, 0, cnt + 1, false, linkI p⟩
      | v :: q :: rest => if key ≤ v then ⟨link, p, p, v == key, v, cnt + 1, true, 0⟩ else goLoop key most f (linkI p) q (cnt + 2) rest
    else ⟨link, p, 0, false, 0, cnt, true, 0⟩
def goS (key most : Int) : List Int → WayR
  | [] => ⟨0, 0, 0, false, 0, 0, false, 0⟩
  | p :: rest => goLoop key most most.toNat 0 p 1 rest

def leastS (base most : Int) : List Int → WantS
  | [] => readS base
  | [p] => if leadsP most p then readS (base + keyI p) else endS 0 1
  | p :: v :: _ => if leadsP most p then endS v 0 else endS 0 1
def lenLoop (base most : Int) : List Int → Int → Int → WantS
  | [], _, cell => readS (base + cell)
  | p :: rest, k, _ => if leadsP most p ∧ k ≠ most then lenLoop base most rest (k + 1) (linkI p) else endS k 0
def aboveS (base most node : Int) : List Int → WantS
  | [] => readS (base + linkI node)
  | [q] => if leadsP most q then readS (base + keyI q) else endS 0 1
  | q :: v :: _ => if leadsP most q then endS v 0 else endS 0 1
def nextS (base most : Int) (x : WayR) (left : List Int) : WantS :=
  if x.node = 0 then endS 0 1 else if x.at_ = false then endS x.key 0 else aboveS base most x.node left
def addsW (base key : Int) (x : WayR) (node : Int) (first : WantS) (writes : Int) : WantS :=
  if writes = 0 then first else if writes = 1 then putS (base + keyI node) key else if writes = 2 then putS (base + linkI node) x.p else if writes = 3 then putS (base + x.link) node else endS 0 0
def addsL (base most key : Int) (x : WayR) : List Int → Int → WantS
  | [], _ => readS (base + 1)
  | [f], _ => if leadsP most f then readS (base + linkI f) else readS (base + 2)
  | f :: q :: _, writes => if leadsP most f then addsW base key x f (putS (base + 1) q) writes
    else if q < 0 ∨ most ≤ q then endS 0 2 else addsW base key x (q + 1) (putS (base + 2) (q + 1)) writes
def addsS (base most key : Int) (x : WayR) (left : List Int) (writes : Int) : WantS := if x.at_ = true then endS 0 3 else addsL base most key x left writes
def delsL (base : Int) (x : WayR) : List Int → Int → WantS
  | [], _ => readS (base + linkI x.node)
  | [q], writes => if writes = 0 then putS (base + x.link) q else readS (base + 1)
  | q :: f :: _, writes => if writes = 0 then putS (base + x.link) q else if writes = 1 then putS (base + linkI x.node) f else if writes = 2 then putS (base + 1) x.node else endS 0 0
def delsS (base : Int) (x : WayR) (left : List Int) (writes : Int) : WantS := if x.at_ = false then endS 0 1 else delsL base x left writes
theorem addsL_two (base most key : Int) (x : WayR) (f q : Int) (tl : List Int) (writes : Int) : addsL base most key x (f :: q :: tl) writes =
    if leadsP most f then addsW base key x f (putS (base + 1) q) writes else if q < 0 ∨ most ≤ q then endS 0 2 else addsW base key x (q + 1) (putS (base + 2) (q + 1)) writes := rfl
theorem delsL_two (base : Int) (x : WayR) (q f : Int) (tl : List Int) (writes : Int) : delsL base x (q :: f :: tl) writes =
    if writes = 0 then putS (base + x.link) q else if writes = 1 then putS (base + linkI x.node) f else if writes = 2 then putS (base + 1) x.node else endS 0 0 := rfl
/-- What the chapter wants next. -/
def refS (base most call : Int) (xs read : List Int) (writes : Int) : WantS :=
  if call = 7 then leastS base most read
  else if call = 5 then lenLoop base most read 0 0
  else if (goS (xs.getD 0 0) most read).over = false then readS (base + (goS (xs.getD 0 0) most read).cell)
  else if call = 1 then addsS base most (xs.getD 0 0) (goS (xs.getD 0 0) most read) (read.drop (goS (xs.getD 0 0) most read).reads) writes
  else if call = 4 then delsS base (goS (xs.getD 0 0) most read) (read.drop (goS (xs.getD 0 0) most read).reads) writes
  else if call = 8 then nextS base most (goS (xs.getD 0 0) most read) (read.drop (goS (xs.getD 0 0) most read).reads)
  else if (goS (xs.getD 0 0) most read).at_ = true then endS 1 0 else endS 0 0

/-- May the reference's Next be asked so? -/
def Askable (base most call : Int) (xs : List Int) : Prop := inB base most ∧ ((call = 1 ∨ call = 4 ∨ call = 6 ∨ call = 8) ∧ xs.length = 1 ∨ (call = 7 ∨ call = 5) ∧ xs.length = 0)
theorem askable_of {base most call : Int} {xs : List Int} (h : takesB base most (arityI call) xs.length = true) : Askable base most call xs := by
  obtain ⟨⟨hm0, hm16⟩, hb0, hb1, har⟩ := of_decide_eq_true h
  exact ⟨⟨hb0, hb1, hm0, hm16⟩, arity_cases har⟩

/-- Within which numbers a way is. -/
def OkR (most : Int) (x : WayR) (n : Nat) : Prop := cellOk x.link ∧ cellOk x.cell ∧ (x.node = 0 ∨ leadsP most x.node) ∧ (x.at_ = true → leadsP most x.node) ∧ x.reads ≤ n
theorem keyC {most v : Int} (hl : leadsP most v) (hm : most ≤ 16) : cellOk (keyI v) := by unfold leadsP at hl; unfold keyI cellOk; omega
theorem goLoop_ok {key most : Int} (hm : most ≤ 16) : ∀ (f : Nat) (link p : Int) (cnt : Nat) (rest : List Int), cellOk link → OkR most (goLoop key most f link p cnt rest) (cnt + rest.length)
  | 0, link, p, cnt, rest, h => ⟨h, by unfold goLoop cellOk; simp, .inl rfl, (fun e => by cases e), by unfold goLoop; simp⟩
  | f + 1, link, p, cnt, rest, h => by
    unfold goLoop
    by_cases hl : leadsP most p
    · rw [if_pos hl]
      match rest with
      | [] => exact ⟨h, keyC hl hm, .inl rfl, (fun e => by cases e), by simp⟩
      | [v] =>
        simp only
        split
        · exact ⟨h, by unfold cellOk; simp, .inr hl, (fun _ => hl), by simp⟩
        · exact ⟨linkC hl hm, linkC hl hm, .inl rfl, (fun e => by cases e), by simp⟩
      | v :: q :: rest =>
        simp only
        split
        · exact ⟨h, by unfold cellOk; simp, .inr hl, (fun _ => hl), by simp⟩
        · have := goLoop_ok (key := key) hm f (linkI p) q (cnt + 2) rest (linkC hl hm)
          obtain ⟨h1, h2, h3, h4, h5⟩ := this
          exact ⟨h1, h2, h3, h4, by simp only [List.length_cons]; omega⟩
    · rw [if_neg hl]
      exact ⟨h, by unfold cellOk; simp, .inl rfl, (fun e => by cases e), by simp⟩
theorem goS_ok {key most : Int} (hm : most ≤ 16) (read : List Int) : OkR most (goS key most read) read.length := by
  match read with
  | [] => exact ⟨by unfold goS cellOk; simp, by unfold goS cellOk; simp, .inl rfl, (fun e => by cases e), by unfold goS; simp⟩
  | p :: rest =>
    have := goLoop_ok (key := key) hm most.toNat 0 p 1 rest (by unfold cellOk; omega)
    obtain ⟨h1, h2, h3, h4, h5⟩ := this
    exact ⟨h1, h2, h3, h4, by simp only [List.length_cons]; show (goLoop key most most.toNat 0 p 1 rest).reads ≤ rest.length + 1; omega⟩

/-- The reference's small functions. -/
theorem rleads_t {w : World} {most v : Int} (hl : leadsP most v) : Calls Try.prog 48 #[.int .i64 v, .int .i64 most] w (Just (.int .i64 v) w) := by
  obtain ⟨h0, h1⟩ := hl
  have h2 : (v < 1) = False := by simp; omega
  have h3 : (most < v) = False := by simp; omega
  go_enter Try.func48, Try.ntmps48
  go_wp2
  go_ret
  exact ⟨rfl, rfl⟩
theorem rleads_f {w : World} {most v : Int} (hl : ¬ leadsP most v) : Calls Try.prog 48 #[.int .i64 v, .int .i64 most] w (Just (.int .i64 0) w) := by
  unfold leadsP at hl
  rcases (show v < 1 ∨ (1 ≤ v ∧ most < v) from by omega) with h | ⟨h, h1⟩
  all_goals
    clear hl
    go_enter Try.func48, Try.ntmps48
    go_wp2
    go_ret
    exact ⟨rfl, rfl⟩
theorem rkey_calls (w : World) (n : Int) (h : 0 ≤ n) (h1 : n ≤ 100) : Calls Try.prog 31 #[.int .i64 n] w (Just (.int .i64 (keyI n)) w) := by
  have e : wrap64 (1 + wrap64 (2 * n)) = keyI n := by unfold wrap64 keyI; omega
  have HE := Lib.hid e
  clear e
  go_enter Try.func31, Try.ntmps31
  go_wp2
  go_ret
  exact ⟨by first | rfl | rw [← HE.out]; rfl, rfl⟩
theorem rlink_calls (w : World) (n : Int) (h : 0 ≤ n) (h1 : n ≤ 100) : Calls Try.prog 49 #[.int .i64 n] w (Just (.int .i64 (linkI n)) w) := by
  have e : wrap64 (2 + wrap64 (2 * n)) = linkI n := by unfold wrap64 linkI; omega
  have HE := Lib.hid e
  clear e
  go_enter Try.func49, Try.ntmps49
  go_wp2
  go_ret
  exact ⟨by first | rfl | rw [← HE.out]; rfl, rfl⟩

theorem below_drewN_of {n : Nat} {w w' : World} (h : Below n w w') (q : Nat) : Below n w (w'.drewN q) := h.trans ⟨rfl, rfl, rfl, Nat.le_refl _, fun _ _ => rfl⟩
theorem below_drew_of {n : Nat} {w w' : World} (h : Below n w w') : Below n w w'.drew := h.trans ⟨rfl, rfl, rfl, Nat.le_refl _, fun _ _ => rfl⟩
theorem close_ref {w w0 w1 : World} {g : Nat} {a b c d : Value} (h0 : Below w.heap.size w w0) (hg : w.heap.size ≤ g) (h1 : Below w0.heap.size w0 w1) :
    Below w.heap.size w ((((w1.setCell ⟨g, 0, none⟩ a).setCell ⟨g, 1, none⟩ b).setCell ⟨g, 2, none⟩ c).setCell ⟨g, 3, none⟩ d) :=
  ((((h0.trans (h1.mono h0.size)).setCell (by simpa using hg) _).setCell (by simpa using hg) _).setCell (by simpa using hg) _).setCell (by simpa using hg) _

end Go.Proofs.Ytihlbhlagpmbjaa
