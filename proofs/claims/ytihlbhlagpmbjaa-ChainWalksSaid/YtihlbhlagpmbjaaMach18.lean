/- The machine of the chain: what comes next as data (its closures, without their memory), what it does, and how it lies in memory. -/
import Derived.Test.YtihlbhlagpmbjaaLeaf
import Derived.Test.YtihlbhlagpmbjaaNums
import Derived.Laws.EntriesVeiled
import Derived.Deep.RegionWith
import Derived.StillTailTactics
namespace Go.Proofs.Ytihlbhlagpmbjaa
open Go.RowKit

/-- Where one came to. -/
structure WayD where
  cell : Int
  p : Int
  stopped : Bool
  key : Int
  at_ : Bool
def WayD.cells (d : WayD) : Array Value := #[.int .i64 d.cell, .int .i64 d.p, .bool d.stopped, .int .i64 d.key, .bool d.at_]

/-- What comes behind a write. -/
inductive T
  | lays1 (k : Int) (d : WayD) (f : Int)
  | lays2 (k : Int) (d : WayD) (u : Int)
  | key (k : Int) (d : WayD) (node : Int)
  | link (k : Int) (d : WayD) (node : Int)
  | fin
  | delW (d : WayD)
  | delL (d : WayD)
  | delFin

/-- What comes next. -/
inductive K
  | least
  | len
  | start (call k : Int)
  | keyOf
  | keyOf1
  | counts (n : Int)
  | goes (call k cell n : Int)
  | goes1 (call k cell n p : Int)
  | addF (k : Int) (d : WayD)
  | addQ (k : Int) (d : WayD) (f : Int)
  | addU (k : Int) (d : WayD)
  | delQ (d : WayD)
  | delF (d : WayD)
  | put (t : T)
  | done (x : WantS)

def keyI (n : Int) : Int := 1 + 2 * n
def linkI (n : Int) : Int := 2 + 2 * n
def endK (v c : Int) : WantS × K := (⟨6, 0, v, c⟩, .done ⟨6, 0, v, c⟩)
def addsK (base k : Int) (d : WayD) : WantS × K := if d.at_ = true then endK 0 3 else (readS (base + 1), .addF k d)
def delsK (base : Int) (d : WayD) : WantS × K := if d.at_ = true then (readS (base + linkI d.p), .delQ d) else endK 0 1
def aboveK (base : Int) (d : WayD) : WantS × K := if d.at_ = true then (readS (base + linkI d.p), .keyOf) else if d.stopped = true then endK d.key 0 else endK 0 1
def hasK (d : WayD) : WantS × K := if d.at_ = true then endK 1 0 else endK 0 0
/-- What is done at the end of a way. -/
def thenK (base call k : Int) (d : WayD) : WantS × K :=
  if call = 1 then addsK base k d else if call = 4 then delsK base d else if call = 6 then hasK d else aboveK base d
def laysK (base k : Int) (d : WayD) (node : Int) : WantS × K := (putS (base + keyI node) k, .put (.key k d node))
def putK (base : Int) : T → WantS × K
  | .lays1 k d f => laysK base k d f
  | .lays2 k d u => laysK base k d (u + 1)
  | .key k d node => (putS (base + linkI node) d.p, .put (.link k d node))
  | .link _ d node => (putS (base + d.cell) node, .put .fin)
  | .fin => endK 0 0
  | .delW d => (readS (base + 1), .delF d)
  | .delL d => (putS (base + 1) d.p, .put .delFin)
  | .delFin => endK 0 0
def leadsP (most p : Int) : Prop := 1 ≤ p ∧ p ≤ most
instance (most p : Int) : Decidable (leadsP most p) := by unfold leadsP; infer_instance
/-- What a step wants, and what comes next. -/
def goK (base most : Int) : K → Int → WantS × K
  | .least, _ => (readS (base + 0), .keyOf)
  | .len, _ => (readS (base + 0), .counts 0)
  | .start call k, _ => (readS (base + 0), .goes call k 0 0)
  | .keyOf, p => if leadsP most p then (readS (base + keyI p), .keyOf1) else endK 0 1
  | .keyOf1, v => endK v 0
  | .counts n, p => if leadsP most p ∧ n ≠ most then (readS (base + linkI p), .counts (n + 1)) else endK n 0
  | .goes call k cell n, p => if leadsP most p ∧ n ≠ most then (readS (base + keyI p), .goes1 call k cell n p) else thenK base call k ⟨cell, p, false, 0, false⟩
  | .goes1 call k cell n p, v => if k ≤ v then thenK base call k ⟨cell, p, true, v, decide (v = k)⟩ else (readS (base + linkI p), .goes call k (linkI p) (n + 1))
  | .addF k d, f => if leadsP most f then (readS (base + linkI f), .addQ k d f) else (readS (base + 2), .addU k d)
  | .addQ k d f, q => (putS (base + 1) q, .put (.lays1 k d f))
  | .addU k d, u => if u < 0 ∨ most ≤ u then endK 0 2 else (putS (base + 2) (u + 1), .put (.lays2 k d u))
  | .delQ d, q => (putS (base + d.cell) q, .put (.delW d))
  | .delF d, f => (putS (base + linkI d.p) f, .put (.delL d))
  | .put t, _ => putK base t
  | .done x, _ => (x, .done x)

/-- Numbers within which no sum wraps. -/
def cellOk (c : Int) : Prop := 0 ≤ c ∧ c ≤ 40
def OkD (most : Int) (d : WayD) : Prop := cellOk d.cell ∧ (d.at_ = true → leadsP most d.p)
def OkT (most : Int) : T → Prop
  | .lays1 _ d f => OkD most d ∧ leadsP most f
  | .lays2 _ d u => OkD most d ∧ 0 ≤ u ∧ u < most
  | .key _ d node => OkD most d ∧ leadsP most node
  | .link _ d node => OkD most d ∧ leadsP most node
  | .fin => True
  | .delW d => OkD most d ∧ leadsP most d.p
  | .delL d => OkD most d ∧ leadsP most d.p
  | .delFin => True
def OkK (most : Int) : K → Prop
  | .counts n => 0 ≤ n ∧ n ≤ most
  | .goes _ _ cell n => cellOk cell ∧ 0 ≤ n ∧ n ≤ most
  | .goes1 _ _ cell n p => cellOk cell ∧ 0 ≤ n ∧ n < most ∧ leadsP most p
  | .addF _ d => OkD most d
  | .addQ _ d f => OkD most d ∧ leadsP most f
  | .addU _ d => OkD most d
  | .delQ d => OkD most d ∧ leadsP most d.p
  | .delF d => OkD most d ∧ leadsP most d.p
  | .put t => OkT most t
  | _ => True

/-- A block of a closure's memory. -/
structure Ent where
  b : Nat
  cs : Array Value
  t : TypeId
def Store (w : World) (p : Nat) (B : List Ent) : Prop := ∀ e ∈ B, e.b ≠ p ∧ w.heap[e.b]? = some (.cells e.cs e.t (0, 0))
def Lies (w : World) (p : Nat) (base most : Int) (nx : Value) : Prop := w.heap[p]? = some (.cells #[.int .i64 base, .int .i64 most, nx] 69 (0, 0))
def ptr (b : Nat) : Value := .pointer (some ⟨b, 0, none⟩)
/-- The boxes of captured variables. -/
def XB (B : List Ent) (p b : Nat) : Prop := ⟨b, #[.pointer (some ⟨p, 0, none⟩)], 37⟩ ∈ B
def IB (B : List Ent) (v : Int) (b : Nat) : Prop := ⟨b, #[.int .i64 v], 3⟩ ∈ B
def VB (B : List Ent) (v : Int) (b : Nat) : Prop := ⟨b, #[.int .i64 v], 2⟩ ∈ B
def WB (B : List Ent) (d : WayD) (b : Nat) : Prop := ⟨b, d.cells, 74⟩ ∈ B

/-- The closure that is done at the end of a way. -/
def ThenV (B : List Ent) (p : Nat) (call k : Int) (v : Value) : Prop :=
  ∃ bc bx bk, IB B call bc ∧ XB B p bx ∧ VB B k bk ∧ v = .func (.func 40) #[] #[ptr bc, ptr bx, ptr bk]
def LaysV (B : List Ent) (p : Nat) (k : Int) (d : WayD) (v : Value) : Prop :=
  ∃ bx bk bw, XB B p bx ∧ VB B k bk ∧ WB B d bw ∧ v = .func (.func 55) #[] #[ptr bx, ptr bk, ptr bw]
def LaysB (B : List Ent) (p : Nat) (k : Int) (d : WayD) (b : Nat) : Prop := ∃ lv, LaysV B p k d lv ∧ ⟨b, #[lv], 45⟩ ∈ B
def TV (B : List Ent) (p : Nat) : T → Value → Prop
  | .lays1 k d f, v => ∃ bl bf, LaysB B p k d bl ∧ VB B f bf ∧ v = .func (.func 62) #[] #[ptr bl, ptr bf]
  | .lays2 k d u, v => ∃ bl bu, LaysB B p k d bl ∧ VB B u bu ∧ v = .func (.func 64) #[] #[ptr bl, ptr bu]
  | .key _ d node, v => ∃ bx bn bw, XB B p bx ∧ VB B node bn ∧ WB B d bw ∧ v = .func (.func 57) #[] #[ptr bx, ptr bn, ptr bw]
  | .link _ d node, v => ∃ bx bw bn, XB B p bx ∧ WB B d bw ∧ VB B node bn ∧ v = .func (.func 58) #[] #[ptr bx, ptr bw, ptr bn]
  | .fin, v => ∃ bx, XB B p bx ∧ v = .func (.func 59) #[] #[ptr bx]
  | .delW d, v => ∃ bx bw, XB B p bx ∧ WB B d bw ∧ v = .func (.func 66) #[] #[ptr bx, ptr bw]
  | .delL d, v => ∃ bx bw, XB B p bx ∧ WB B d bw ∧ v = .func (.func 68) #[] #[ptr bx, ptr bw]
  | .delFin, v => ∃ bx, XB B p bx ∧ v = .func (.func 69) #[] #[ptr bx]
/-- The function value that comes next. -/
def FV (B : List Ent) (p : Nat) : K → Value → Prop
  | .least, v => ∃ bx, XB B p bx ∧ v = .func (.func 33) #[] #[ptr bx]
  | .len, v => ∃ bx, XB B p bx ∧ v = .func (.func 36) #[] #[ptr bx]
  | .start call k, v => ∃ bx bk bc, XB B p bx ∧ VB B k bk ∧ IB B call bc ∧ v = .func (.func 38) #[] #[ptr bx, ptr bk, ptr bc]
  | .keyOf, v => v = .func (.func 35) #[ptr p] #[]
  | .keyOf1, v => ∃ bx, XB B p bx ∧ v = .func (.func 51) #[] #[ptr bx]
  | .counts n, v => ∃ bx bn, XB B p bx ∧ VB B n bn ∧ v = .func (.func 52) #[] #[ptr bx, ptr bn]
  | .goes call k cell n, v => ∃ bx bn bt bc bk tv, XB B p bx ∧ VB B n bn ∧ ThenV B p call k tv ∧ ⟨bt, #[tv], 76⟩ ∈ B ∧ IB B cell bc ∧ VB B k bk ∧
      v = .func (.func 53) #[] #[ptr bx, ptr bn, ptr bt, ptr bc, ptr bk]
  | .goes1 call k cell n q, v => ∃ bk bt bc bp bx bn tv, VB B k bk ∧ ThenV B p call k tv ∧ ⟨bt, #[tv], 76⟩ ∈ B ∧ IB B cell bc ∧ VB B q bp ∧ XB B p bx ∧ VB B n bn ∧
      v = .func (.func 54) #[] #[ptr bk, ptr bt, ptr bc, ptr bp, ptr bx, ptr bn]
  | .addF k d, v => ∃ bx bl, XB B p bx ∧ LaysB B p k d bl ∧ v = .func (.func 60) #[] #[ptr bx, ptr bl]
  | .addQ k d f, v => ∃ bx bl bf, XB B p bx ∧ LaysB B p k d bl ∧ VB B f bf ∧ v = .func (.func 61) #[] #[ptr bx, ptr bl, ptr bf]
  | .addU k d, v => ∃ bx bl, XB B p bx ∧ LaysB B p k d bl ∧ v = .func (.func 63) #[] #[ptr bx, ptr bl]
  | .delQ d, v => ∃ bx bw, XB B p bx ∧ WB B d bw ∧ v = .func (.func 65) #[] #[ptr bx, ptr bw]
  | .delF d, v => ∃ bx bw, XB B p bx ∧ WB B d bw ∧ v = .func (.func 67) #[] #[ptr bx, ptr bw]
  | .put t, v => ∃ bt tv, TV B p t tv ∧ ⟨bt, #[tv], 83⟩ ∈ B ∧ v = .func (.func 79) #[] #[ptr bt]
  | .done x, v => ∃ bw, ⟨bw, #[.int .i64 x.kind, .int .i64 x.cell, .int .i64 x.value, .int .i64 x.code], 44⟩ ∈ B ∧ v = .func (.func 70) #[] #[ptr bw]

/-- What a step leaves: its want; the machine's block, with what comes next; the new blocks. -/
def StepPost (p : Nat) (base most : Int) (B : List Ent) (r : WantS × K) (w : World) (e : Ending) (w' : World) : Prop :=
  e = .returned r.1.val ∧ w.grownBy w' (some p) ∧ ∃ nx N, Lies w' p base most nx ∧ (∀ x ∈ N, w.heap.size ≤ x.b ∧ w'.heap[x.b]? = some (.cells x.cs x.t (0, 0))) ∧ FV (N ++ B) p r.2 nx

theorem grown_trans {a b c : World} {r : Option Nat} (h : a.grownBy b r) (k : b.grownBy c r) : a.grownBy c r :=
  ⟨k.os.trans h.os, k.tape.trans h.tape, k.output.trans h.output, Nat.le_trans h.size k.size, fun q hq hne => (k.block q (Nat.lt_of_lt_of_le hq h.size) hne).trans (h.block q hq hne)⟩

/-- The world outside of what a step wrote last: its result's block. -/
theorem close_step {w w0 w1 : World} {p g : Nat} {base most : Int} {B M : List Ent} {r : WantS × K} {a b c d : Value} (h0 : w.grownBy w0 (some p)) (hp : p < w.heap.size) (hg : w.heap.size ≤ g) (hg0 : g < w0.heap.size)
    (hM : ∀ x ∈ M, w.heap.size ≤ x.b ∧ x.b ≠ g ∧ w0.heap[x.b]? = some (.cells x.cs x.t (0, 0))) {v1 : Value} (h1 : StepPost p base most (M ++ B) r w0 (.returned v1) w1) {e : Ending} (he : e = .returned r.1.val) :
    StepPost p base most B r w e ((((w1.setCell ⟨g, 0, none⟩ a).setCell ⟨g, 1, none⟩ b).setCell ⟨g, 2, none⟩ c).setCell ⟨g, 3, none⟩ d) := by
  obtain ⟨-, hgr, nx, N, hL, hN, hF⟩ := h1
  have hz0 := h0.size
  have hz1 := hgr.size
  have hset : ∀ q, q ≠ g → ∀ o, w1.heap[q]? = some o → ((((w1.setCell ⟨g, 0, none⟩ a).setCell ⟨g, 1, none⟩ b).setCell ⟨g, 2, none⟩ c).setCell ⟨g, 3, none⟩ d).heap[q]? = some o := fun q hq o ho =>
    heap_set_other (heap_set_other (heap_set_other (heap_set_other ho hq) hq) hq) hq
  refine ⟨he, ⟨hgr.os.trans h0.os, hgr.tape.trans h0.tape, hgr.output.trans h0.output, by simp; omega, fun k hk hne => ?_⟩, nx, N ++ M, hset p (by omega) _ hL, ?_, by rw [List.append_assoc]; exact hF⟩
  · have e : k ≠ g := by omega
    rw [Below.heap_setCell _ _ _ _ (by simpa using e), Below.heap_setCell _ _ _ _ (by simpa using e), Below.heap_setCell _ _ _ _ (by simpa using e), Below.heap_setCell _ _ _ _ (by simpa using e), hgr.block k (by omega) hne]
    exact h0.block k hk hne
  · intro x hx
    rcases List.mem_append.1 hx with h | h
    · obtain ⟨h1, h2⟩ := hN x h
      exact ⟨by omega, hset _ (by omega) _ h2⟩
    · obtain ⟨h1, h2, h3⟩ := hM x h
      exact ⟨h1, hset _ h2 _ ((hgr.block x.b (Array.getElem?_eq_some_iff.1 h3).1 (fun e => by injection e with e; omega)).trans h3)⟩

theorem Store.app {w : World} {p : Nat} {M B : List Ent} (h1 : Store w p M) (h2 : Store w p B) : Store w p (M ++ B) := fun e he => (List.mem_append.1 he).elim (h1 e) (h2 e)
theorem Store.keep {w w' : World} {p : Nat} {B : List Ent} (h : Store w p B) (hg : w.grownBy w' (some p)) : Store w' p B := fun e he => by
  obtain ⟨h1, h2⟩ := h e he
  exact ⟨h1, (hg.block e.b (Array.getElem?_eq_some_iff.1 h2).1 (fun e => by injection e with e; omega)).trans h2⟩

theorem ThenV.mono {B B' : List Ent} (hs : ∀ e ∈ B, e ∈ B') {p : Nat} {call k : Int} {v : Value} (h : ThenV B p call k v) : ThenV B' p call k v := by
  obtain ⟨a, b, c, h1, h2, h3, h4⟩ := h
  exact ⟨a, b, c, hs _ h1, hs _ h2, hs _ h3, h4⟩
theorem LaysB.mono {B B' : List Ent} (hs : ∀ e ∈ B, e ∈ B') {p : Nat} {k : Int} {d : WayD} {b : Nat} (h : LaysB B p k d b) : LaysB B' p k d b := by
  obtain ⟨lv, ⟨x, y, z, h1, h2, h3, h4⟩, h5⟩ := h
  exact ⟨lv, ⟨x, y, z, hs _ h1, hs _ h2, hs _ h3, h4⟩, hs _ h5⟩
theorem TV.mono {B B' : List Ent} (hs : ∀ e ∈ B, e ∈ B') {p : Nat} {t : T} {v : Value} (h : TV B p t v) : TV B' p t v := by
  cases t with
  | lays1 => obtain ⟨a, b, h1, h2, h3⟩ := h; exact ⟨a, b, h1.mono hs, hs _ h2, h3⟩
  | lays2 => obtain ⟨a, b, h1, h2, h3⟩ := h; exact ⟨a, b, h1.mono hs, hs _ h2, h3⟩
  | key => obtain ⟨a, b, c, h1, h2, h3, h4⟩ := h; exact ⟨a, b, c, hs _ h1, hs _ h2, hs _ h3, h4⟩
  | link => obtain ⟨a, b, c, h1, h2, h3, h4⟩ := h; exact ⟨a, b, c, hs _ h1, hs _ h2, hs _ h3, h4⟩
  | fin => obtain ⟨a, h1, h2⟩ := h; exact ⟨a, hs _ h1, h2⟩
  | delW => obtain ⟨a, b, h1, h2, h3⟩ := h; exact ⟨a, b, hs _ h1, hs _ h2, h3⟩
  | delL => obtain ⟨a, b, h1, h2, h3⟩ := h; exact ⟨a, b, hs _ h1, hs _ h2, h3⟩
  | delFin => obtain ⟨a, h1, h2⟩ := h; exact ⟨a, hs _ h1, h2⟩

end Go.Proofs.Ytihlbhlagpmbjaa
