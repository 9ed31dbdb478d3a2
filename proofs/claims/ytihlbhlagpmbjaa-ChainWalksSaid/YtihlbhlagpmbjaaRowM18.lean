/- The nodes from a link on, as data; and the contract of the program's row. -/
import Derived.Test.YtihlbhlagpmbjaaSeen18
import Derived.Test.YtihlbhlagpmbjaaMachP18
import Derived.Test.YtihlbhlagpmbjaaShapeB
import Derived.Deep.LoopGhost
import Derived.OwnWalk
namespace Go.Proofs.Ytihlbhlagpmbjaa
open Go.RowKit

/-- The nodes from a link on: whether they may be, the nodes, what is marked behind it. -/
def rowF (cs : List Int) (u : Int) : Nat → Int → List Int → List Int → Bool × List Int × List Int
  | 0, p, S, l => if p = 0 then (true, l, S) else (false, [], S)
  | f + 1, p, S, l => if p = 0 then (true, l, S) else if leadsP u p ∧ p ∉ S then rowF cs u f (cs.getD (linkI p).toNat 0) (p :: S) (l ++ [p]) else (false, [], S)

/-- Marks: each a node, none twice. -/
def Marks (u : Int) (S : List Int) : Prop := S.Nodup ∧ ∀ p ∈ S, leadsP u p
theorem marks_nil (u : Int) : Marks u [] := ⟨List.nodup_nil, fun _ hp => nomatch hp⟩
theorem Marks.cons {u p : Int} {S : List Int} (h : Marks u S) (hl : leadsP u p) (hn : p ∉ S) : Marks u (p :: S) :=
  ⟨List.nodup_cons.2 ⟨hn, h.1⟩, fun q hq => by
    rcases List.mem_cons.1 hq with rfl | hq
    · exact hl
    · exact h.2 q hq⟩
theorem marks_len : ∀ (u : Nat) (S : List Int), Marks (u : Int) S → S.length ≤ u
  | 0, S, h => by
    match S with
    | [] => simp
    | p :: l =>
      have := h.2 p List.mem_cons_self
      unfold leadsP at this
      omega
  | u + 1, S, h => by
    have hf : Marks (u : Int) (S.filter (fun x => decide (x ≠ ((u + 1 : Nat) : Int)))) := by
      refine ⟨h.1.filter _, fun p hp => ?_⟩
      obtain ⟨h1, h2⟩ := List.mem_filter.1 hp
      have h3 := h.2 p h1
      have h4 := of_decide_eq_true h2
      unfold leadsP at *
      omega
    have h5 := marks_len u _ hf
    have h6 : S.length ≤ (S.filter (fun x => decide (x ≠ ((u + 1 : Nat) : Int)))).length + 1 := by
      have := h.1
      clear h hf h5
      induction S with
      | nil => simp
      | cons a l ih =>
        have hn := List.nodup_cons.1 this
        by_cases e : a = ((u + 1 : Nat) : Int)
        · have hall : l.filter (fun x => decide (x ≠ ((u + 1 : Nat) : Int))) = l := List.filter_eq_self.2 fun x hx => decide_eq_true fun e2 => hn.1 (by rw [e, ← e2]; exact hx)
          rw [List.filter_cons_of_neg (by simp [e]), hall]
          simp
        · rw [List.filter_cons_of_pos (by simpa using e)]
          have := ih hn.2
          simp only [List.length_cons]
          omega
    omega

theorem rowF_zero {cs : List Int} {u : Int} {f : Nat} {S l : List Int} : rowF cs u f 0 S l = (true, l, S) := by cases f <;> rfl
theorem rowF_bad {cs : List Int} {u p : Int} {f : Nat} {S l : List Int} (h0 : p ≠ 0) (h : ¬ (leadsP u p ∧ p ∉ S)) : rowF cs u f p S l = (false, [], S) := by
  cases f with
  | zero => exact if_neg h0
  | succ f => rw [rowF, if_neg h0, if_neg h]
theorem rowF_on {cs : List Int} {u p : Int} {f : Nat} {S l : List Int} (h0 : p ≠ 0) (h : leadsP u p) (hn : p ∉ S) : rowF cs u (f + 1) p S l = rowF cs u f (cs.getD (linkI p).toNat 0) (p :: S) (l ++ [p]) := by
  rw [rowF, if_neg h0, if_pos ⟨h, hn⟩]

theorem grown_tr {a b c : World} {r : Option Nat} (h : a.grownBy b r) (k : b.grownBy c r) : a.grownBy c r :=
  ⟨k.os.trans h.os, k.tape.trans h.tape, k.output.trans h.output, Nat.le_trans h.size k.size, fun q hq hne => (k.block q (Nat.lt_of_lt_of_le hq h.size) hne).trans (h.block q hq hne)⟩
theorem grown_own {a b c : World} {r ob : Option Nat} {O : Obj} (h : a.grownBy b r) (k : (b.alloc O).grownBy c ob) (hob : ∀ q, ob = some q → a.heap.size ≤ q) : a.grownBy c r := by
  have hz := k.size
  have hz0 := h.size
  simp at hz
  refine ⟨k.os.trans h.os, k.tape.trans h.tape, k.output.trans h.output, by omega, fun q hq hne => ?_⟩
  rw [k.block q (by simp; omega) (fun e => by have := hob q e.symm; omega), Below.heap_alloc _ _ _ (by omega)]
  exact h.block q hq hne
/-- What the program's row leaves. -/
def RowPost (b : Nat) (u : Int) (R : Bool × List Int × List Int) (w : World) (e : Ending) (w' : World) : Prop :=
  ∃ v, e = .returned (.tuple #[v, .bool R.1]) ∧ Owns w' w.heap.size v R.2.1 ∧ Seen w' b R.2.2 ∧ Marks u R.2.2 ∧ w.grownBy w' (some b)

set_option maxRecDepth 100000 in
set_option maxHeartbeats 4000000 in
theorem row_calls (w : World) (B b : Nat) (most u p : Int) (a : Value) (cs S : List Int) (f : Nat) (ha : Reads w B a cs) (hB : B ≤ b) (hs : Seen w b S) (hmk : Marks u S) (hlen : (cs.length : Int) = 2 * most + 3) (hu : 0 ≤ u ∧ u ≤ most ∧ most ≤ 16)
    (hc2 : cs.getD 2 0 = u) (hp : -9223372036854775808 ≤ p ∧ p ≤ 9223372036854775807) (hf : S.length + f = 17) :
    Calls Try.prog 28 #[a, .int .i64 p, .map (some b)] w (RowPost b u (rowF cs u f p S []) w) := by
  obtain ⟨hxl, hxr, a, ca, rfl, hca, hcs⟩ := ha
  obtain ⟨hu0, hu1, hm16⟩ := hu
  rcases hcs with h | ⟨ba, oa, rfl, hba, hcell⟩
  · rw [h] at hlen; simp at hlen; omega
  have hbl := hs.lt
  have HC := Lib.hid hcell
  have HXR := Lib.hid hxr
  have HS := Lib.hid hs
  have HM := Lib.hid hmk
  obtain ⟨i0, yi, yz0, yz1, yz2⟩ := info_parts infoI64
  generalize hR : rowF cs u f p S [] = R
  have HR := Lib.hid hR
  obtain ⟨R0, R1, R2⟩ := R
  have hl2 : (2 : Int) < (cs.length : Int) := by omega
  have HU := Lib.hid hc2
  have hne : ba ≠ b := by omega
  clear hcell hxr hs hmk hR hc2
  go_enter Try.func28, Try.ntmps28
  go_wp2
  go_loopg [1, 8] (f + 1) (fun nn v1 v8 wr => ∃ (g : Nat) (q : Int) (S' l : List Int), v1 = .int .i64 q ∧ nn = g + 1 ∧ S'.length + g = 17 ∧ l.length + g ≤ 17 ∧ rowF cs u g q S' l = (R0, R1, R2) ∧ Seen wr b S' ∧ Marks u S' ∧ Owns wr w.heap.size v8 l ∧
    (-9223372036854775808 ≤ q ∧ q ≤ 9223372036854775807) ∧ w.grownBy wr (some b))
  case atStart => exact ⟨f, p, S, [], rfl, rfl, hf, by simp; omega, HR.out, HS.out, HM.out, owns_nil _ _, hp, grown_refl _ _⟩
  case round =>
    clear HR HS HM hp hf
    obtain ⟨g, q, S', l, rfl, hnn, hg, hlg, hrow, hs, hmk, how, hq, hgr⟩ := hrel
    have HN := Lib.hid hnn
    have HRW := Lib.hid hrow
    have HS := Lib.hid hs
    have HM := Lib.hid hmk
    obtain ⟨av, an, ac, rfl⟩ := how.form
    have HO := Lib.hid how
    have HG := Lib.hid hgr
    have hz := hgr.size
    have hlook := hs.look hq
    have c2 : wr.cell? ⟨ba, oa + 2, none⟩ = some (.int .i64 u) := by
      have h := HC.out 2 (by omega)
      rw [HU.out] at h
      exact (hgr.cell_far ⟨ba, oa + 2, none⟩ (by simp; omega) (by simpa using hne)).trans h
    clear hnn hrow hs hmk hgr
    by_cases h0 : q = 0
    · subst h0
      have HE := Lib.hid (HRW.out.symm.trans rowF_zero)
      clear hlook
      go_wp2
      go_ret2
      have h := HE.out
      injection h with e1 h
      injection h with e2 e3
      subst e1 e2 e3
      exact ⟨_, rfl, HO.out, HS.out, HM.out, HG.out⟩
    · have h0' : (q != 0) = true := by simpa using h0
      by_cases hl : leadsP u q
      · obtain ⟨l0, l1⟩ := hl
        by_cases hin : q ∈ S'
        · rw [decide_eq_true hin] at hlook
          have HE := Lib.hid (HRW.out.symm.trans (rowF_bad h0 (fun h => h.2 hin)))
          clear hin h0
          go_wp2
          go_ret2
          have h := HE.out
          injection h with e1 h
          injection h with e2 e3
          subst e1 e2 e3
          exact ⟨_, rfl, owns_nil _ _, HS.out, HM.out, HG.out⟩
        · rw [decide_eq_false hin] at hlook
          obtain ⟨nu, hnu⟩ := Int.eq_ofNat_of_zero_le hu0
          have hml := marks_len nu S' (by rw [← hnu]; exact HM.out)
          obtain ⟨g', rfl⟩ : ∃ g', g = g' + 1 := ⟨g - 1, by omega⟩
          obtain ⟨w1, hrun, hs1, hg1⟩ := HS.out.mark (by omega) hq hin
          have HE := Lib.hid ((rowF_on h0 ⟨l0, l1⟩ hin).symm.trans HRW.out)
          have HM1 := Lib.hid (HM.out.cons ⟨l0, l1⟩ hin)
          have HS1 := Lib.hid hs1
          have HG1 := Lib.hid (grown_tr HG.out hg1)
          have hown : w1.ownsRow w.heap.size 2 1 (.slice av an ac) l.length (l.map (Value.int .i64)) := HO.out.kept hg1 (.inr fun e => by
            have := (HO.out.lt b e).1
            omega)
          have hz1 := hg1.size
          obtain ⟨j, hj⟩ : ∃ j : Nat, linkI q = j := Int.eq_ofNat_of_zero_le (by unfold linkI; omega)
          have hjl : j < cs.length := by unfold linkI at hj; omega
          have hjl' : (j : Int) < (cs.length : Int) := by omega
          have hlc := fun W => link_calls W q (by omega) (by omega)
          rw [hj] at hlc
          have HLC := Lib.hid hlc
          rw [hj, Int.toNat_natCast] at HE
          have hrun' := hrun
          have hlo := hown.lt
          clear hin h0 hrun hlc hj hnu
          go_wp2_with (at_builtin; refine wpList_append_own _ rfl _ _ 24 rfl w.heap.size 2 i0 (.int .i64 0) 1 8 Try.underlying24 yi yz0 yz1 yz2 rfl (by decide) _ _ _ rfl (hown.alloc _) ⟨w1.heap.size, 0, none⟩ 1 1 [.int .i64 q] rfl rfl ?c1 ?c2 ?c3 ?c4 ?c5 ?_)
          case c1 =>
            intro k u' hk
            match k, hk with
            | 0, hk => simp at hk; subst hk; simp [Addr.add]
          case c2 => intro u' hu'; simp at hu'; subst hu'; rfl
          case c3 => unfold maxLen; omega
          case c4 => omega
          case c5 => simp; omega
          intro v' w5 hown' hgrow _
          have hg5 : w.grownBy w5 (some b) := grown_own HG1.out hgrow (fun r hr => (hlo r hr).1)
          have HS5 : Hid (Seen w5 b (q :: S')) := (HS1.out.kept (World.grownBy_alloc _ _ none) (by simp)).kept hgrow (fun e => by have := (hlo b e.symm).1; omega)
          have HO5 : Hid (Owns w5 w.heap.size v' (l ++ [q])) := by
            unfold Hid Owns
            rw [List.map_append, List.length_append]
            exact hown'
          have cj : w5.cell? ⟨ba, oa + j, none⟩ = some (.int .i64 (cs.getD j 0)) := (hg5.cell_far ⟨ba, oa + j, none⟩ (by simp; omega) (by simpa using hne)).trans (HC.out j hjl)
          have hjr : -9223372036854775808 ≤ cs.getD j 0 ∧ cs.getD j 0 ≤ 9223372036854775807 := HXR.out _ (by simp [List.getD_eq_getElem?_getD, hjl])
          generalize cs.getD j 0 = q2 at *
          have hz5 := hg5.size
          have HG5 := Lib.hid hg5
          clear hgrow hown hown' hg5 hlo
          go_wp2_with fail
          refine (HLC.out _).mono ?_
          rintro e w6 ⟨rfl, rfl⟩
          go_wp2
          go_roundg (g' + 1)
          case measure => have := HN.out; omega
          case rel => exact ⟨g', q2, q :: S', l ++ [q], rfl, rfl, by simp; omega, by simp; omega, HE.out, HS5.out, HM1.out, HO5.out, hjr, HG5.out⟩
      · have HE := Lib.hid (HRW.out.symm.trans (rowF_bad h0 (fun h => hl h.1)))
        unfold leadsP at hl
        rcases (show q < 1 ∨ (1 ≤ q ∧ u < q) from by omega) with h | ⟨h, h1⟩
        all_goals
          clear hl h0
          go_wp2
          go_ret2
          have h := HE.out
          injection h with e1 h
          injection h with e2 e3
          subst e1 e2 e3
          exact ⟨_, rfl, owns_nil _ _, HS.out, HM.out, HG.out⟩

end Go.Proofs.Ytihlbhlagpmbjaa
