/- The chain's machine as data, and the contract of Next. -/
import Derived.Test.YtihlbhlagpmbjaaMachC18f
namespace Go.Proofs.Ytihlbhlagpmbjaa
open Go.RowKit

structure MS where
  base : Int
  most : Int
  k : K

/-- The machine lies in block p; what comes next, in blocks of its own. -/
def Rep (w : World) (p : Nat) (m : MS) (F : List Nat) : Prop :=
  inB m.base m.most ∧ OkK m.most m.k ∧ ∃ B nx, F = p :: B.map Ent.b ∧ Lies w p m.base m.most nx ∧ Store w p B ∧ FV B p m.k nx
def outM (m : MS) (v : Int) : WantS := (goK m.base m.most m.k v).1
def stepM (m : MS) (v : Int) : MS := ⟨m.base, m.most, (goK m.base m.most m.k v).2⟩

theorem ok_then {base most call k : Int} {d : WayD} (h : OkD most d) : OkK most (thenK base call k d).2 := by
  obtain ⟨c, q, st, ky, a⟩ := d
  unfold thenK
  split
  · cases a
    · exact h
    · exact trivial
  · split
    · cases a
      · exact trivial
      · exact ⟨h, h.2 rfl⟩
    · split
      · cases a <;> exact trivial
      · cases a
        · cases st <;> exact trivial
        · exact trivial
theorem linkOk {most p : Int} (hm : most ≤ 16) (h : leadsP most p) : cellOk (linkI p) := linkC h hm
theorem ok_step {base most : Int} {k : K} (hb : inB base most) (h : OkK most k) (v : Int) : OkK most (goK base most k v).2 := by
  obtain ⟨b0, b1, m0, m1⟩ := hb
  cases k with
  | least => exact trivial
  | len => exact ⟨Int.le_refl _, m0⟩
  | start call k => exact ⟨by unfold cellOk; omega, Int.le_refl _, m0⟩
  | keyOf => simp only [goK]; split <;> exact trivial
  | keyOf1 => exact trivial
  | counts n =>
    simp only [goK]
    split
    · rename_i hc
      obtain ⟨h1, h2⟩ := h
      have := hc.2
      exact ⟨by omega, by omega⟩
    · exact trivial
  | goes call k cell n =>
    obtain ⟨h1, h2, h3⟩ := h
    simp only [goK]
    split
    · rename_i hc
      have := hc.2
      exact ⟨h1, h2, by omega, hc.1⟩
    · exact ok_then ⟨h1, fun e => by cases e⟩
  | goes1 call k cell n p =>
    obtain ⟨h1, h2, h3, h4⟩ := h
    simp only [goK]
    split
    · exact ok_then ⟨h1, fun _ => h4⟩
    · exact ⟨linkOk m1 h4, by omega, by omega⟩
  | addF k d =>
    simp only [goK]
    split
    · exact ⟨h, by assumption⟩
    · exact h
  | addQ k d f => exact h
  | addU k d =>
    simp only [goK]
    split
    · exact trivial
    · exact ⟨h, by omega, by omega⟩
  | delQ d => exact h
  | delF d => exact h
  | put t =>
    cases t with
    | lays1 k d f => exact h
    | lays2 k d u => exact ⟨h.1, by unfold leadsP; have := h.2; omega⟩
    | key k d node => exact h
    | link k d node => exact trivial
    | fin => exact trivial
    | delW d => exact h
    | delL d => exact trivial
    | delFin => exact trivial
  | done x => exact trivial

/-- What a Next leaves. -/
def NextPost (p : Nat) (m : MS) (F : List Nat) (v : Int) (w : World) (e : Ending) (w' : World) : Prop :=
  e = .returned (outM m v).val ∧ w.grownBy w' (some p) ∧ ∃ F', Rep w' p (stepM m v) F' ∧ ∀ k ∈ F', k ∈ F ∨ w.heap.size ≤ k

theorem next_step (w : World) (p : Nat) (base most : Int) (B : List Ent) (k : K) (nx : Value) (v : Int) (h : Lies w p base most nx) (hs : Store w p B) (hb : inB base most) (hok : OkK most k) (hF : FV B p k nx) :
    Calls Try.prog 22 #[.pointer (some ⟨p, 0, none⟩), .int .i64 v] w (StepPost p base most B (goK base most k v) w) := by
  cases k with
  | least => obtain ⟨bx, h1, rfl⟩ := hF; exact next_least w p base most B v bx h hs hb h1
  | len => obtain ⟨bx, h1, rfl⟩ := hF; exact next_len w p base most B v bx h hs hb h1
  | start call k => obtain ⟨bx, bk, bc, h1, h2, h3, rfl⟩ := hF; exact next_start w p base most B v call k bx bk bc h hs hb h1 h2 h3
  | keyOf => cases hF; exact next_keyOf w p base most B v h hs hb
  | keyOf1 => obtain ⟨bx, h1, rfl⟩ := hF; exact next_keyOf1 w p base most B v bx h hs hb h1
  | counts n => obtain ⟨bx, bn, h1, h2, rfl⟩ := hF; exact next_counts w p base most B v n bx bn h hs hb h1 h2 hok
  | goes call k cell n =>
    obtain ⟨bx, bn, bt, bc, bk, tv, h1, h2, ⟨t1, t2, t3, g1, g2, g3, rfl⟩, h3, h4, h5, rfl⟩ := hF
    exact next_goes w p base most B v call k cell n bx bn bt t1 t2 t3 bc bk h hs hb h1 h2 h3 g1 g2 g3 h4 h5 hok.2
  | goes1 call k cell n q =>
    obtain ⟨bk, bt, bc, bp, bx, bn, tv, h1, ⟨t1, t2, t3, g1, g2, g3, rfl⟩, h2, h3, h4, h5, h6, rfl⟩ := hF
    exact next_goes1 w p base most B v call k cell n q bk bt t1 t2 t3 bc bp bx bn h hs hb h1 h2 g1 g2 g3 h3 h4 h5 h6 ⟨hok.2.1, hok.2.2.1⟩ hok.2.2.2
  | addF k d => obtain ⟨bx, bl, h1, h2, rfl⟩ := hF; exact next_addF w p base most B v k d bx bl h hs hb h1 h2
  | addQ k d f => obtain ⟨bx, bl, bf, h1, h2, h3, rfl⟩ := hF; exact next_addQ w p base most B v k f d bx bl bf h hs hb h1 h2 h3
  | addU k d => obtain ⟨bx, bl, h1, h2, rfl⟩ := hF; exact next_addU w p base most B v k d bx bl h hs hb h1 h2
  | delQ d => obtain ⟨bx, bw, h1, h2, rfl⟩ := hF; exact next_delQ w p base most B v d bx bw h hs hb h1 h2 hok.1.1
  | delF d => obtain ⟨bx, bw, h1, h2, rfl⟩ := hF; exact next_delF w p base most B v d bx bw h hs hb h1 h2 hok.2
  | done x => obtain ⟨bw, h1, rfl⟩ := hF; exact next_done w p base most B v x bw h hs hb h1
  | put t =>
    cases t with
    | lays1 k d f =>
      obtain ⟨bt, tv, ⟨bl, bf, ⟨lv, ⟨s1, s2, s3, l1, l2, l3, rfl⟩, h1⟩, h2, rfl⟩, h3, rfl⟩ := hF
      exact next_put_lays1 w p base most B v k f d s3 bl s1 s2 bf bt h hs hb h1 l1 l2 h2 h3 l3 hok.2
    | lays2 k d u =>
      obtain ⟨bt, tv, ⟨bl, bf, ⟨lv, ⟨s1, s2, s3, l1, l2, l3, rfl⟩, h1⟩, h2, rfl⟩, h3, rfl⟩ := hF
      exact next_put_lays2 w p base most B v k u d s3 bl s1 s2 bf bt h hs hb h1 l1 l2 h2 h3 l3 hok.2
    | key k d node => obtain ⟨bt, tv, ⟨bx, bn, bw, h1, h2, h3, rfl⟩, h4, rfl⟩ := hF; exact next_put_key w p base most B v k node d bx bn bw bt h hs hb h1 h2 h3 h4 hok.2
    | link k d node => obtain ⟨bt, tv, ⟨bx, bw, bn, h1, h2, h3, rfl⟩, h4, rfl⟩ := hF; exact next_put_link w p base most B v k node d bx bw bn bt h hs hb h1 h2 h3 h4 hok.1.1
    | fin => obtain ⟨bt, tv, ⟨bx, h1, rfl⟩, h4, rfl⟩ := hF; exact next_put_fin w p base most B v bx bt h hs hb h1 h4
    | delW d => obtain ⟨bt, tv, ⟨bx, bw, h1, h2, rfl⟩, h4, rfl⟩ := hF; exact next_put_delW w p base most B v d bx bw bt h hs hb h1 h2 h4
    | delL d => obtain ⟨bt, tv, ⟨bx, bw, h1, h2, rfl⟩, h4, rfl⟩ := hF; exact next_put_delL w p base most B v d bx bw bt h hs hb h1 h2 h4
    | delFin => obtain ⟨bt, tv, ⟨bx, h1, rfl⟩, h4, rfl⟩ := hF; exact next_put_delFin w p base most B v bx bt h hs hb h1 h4

theorem Next_calls (w : World) (p : Nat) (m : MS) (F : List Nat) (v : Int) (hr : Rep w p m F) :
    Calls Try.prog 22 #[.pointer (some ⟨p, 0, none⟩), .int .i64 v] w (NextPost p m F v w) := by
  obtain ⟨hb, hok, B, nx, rfl, hL, hS, hF⟩ := hr
  have hlt : p < w.heap.size := (Array.getElem?_eq_some_iff.1 hL).1
  refine (next_step w p m.base m.most B m.k nx v hL hS hb hok hF).mono ?_
  rintro e w' ⟨he, hg, nx', N, hL', hN, hF'⟩
  refine ⟨he, hg, p :: (N ++ B).map Ent.b, ⟨hb, ok_step hb hok v, N ++ B, nx', rfl, hL', Store.app (fun x hx => ?_) (hS.keep hg), hF'⟩, fun k hk => ?_⟩
  · obtain ⟨h1, h2⟩ := hN x hx
    exact ⟨by omega, h2⟩
  · rcases List.mem_cons.1 hk with rfl | hk
    · exact .inl List.mem_cons_self
    · obtain ⟨x, hx, rfl⟩ := List.mem_map.1 hk
      rcases List.mem_append.1 hx with hx | hx
      · exact .inr (hN x hx).1
      · exact .inl (List.mem_cons_of_mem _ (List.mem_map_of_mem hx))

theorem rep_keep {w w' : World} {p : Nat} {st : MS} {F : List Nat} (h : Rep w p st F) (hk : ∀ q ∈ F, w'.heap[q]? = w.heap[q]?) : Rep w' p st F := by
  obtain ⟨h1, h2, B, nx, rfl, hL, hS, hF⟩ := h
  exact ⟨h1, h2, B, nx, rfl, (hk p List.mem_cons_self).trans hL, fun e he => ⟨(hS e he).1, (hk e.b (List.mem_cons_of_mem _ (List.mem_map_of_mem he))).trans (hS e he).2⟩, hF⟩
theorem rep_mem {w : World} {p : Nat} {st : MS} {F : List Nat} (h : Rep w p st F) : p ∈ F ∧ ∀ q ∈ F, q < w.heap.size := by
  obtain ⟨h1, h2, B, nx, rfl, hL, hS, hF⟩ := h
  refine ⟨List.mem_cons_self, fun q hq => ?_⟩
  rcases List.mem_cons.1 hq with rfl | hq
  · exact (Array.getElem?_eq_some_iff.1 hL).1
  · obtain ⟨x, hx, rfl⟩ := List.mem_map.1 hq
    exact (Array.getElem?_eq_some_iff.1 (hS x hx).2).1

end Go.Proofs.Ytihlbhlagpmbjaa
