/- The chain over cells as rising keys: what the calls done over cells come to, no program in sight. -/
import Derived.Test.YtihlbhlagpmbjaaDone18
import Derived.Test.YtihlbhlagpmbjaaMeanD18
import Derived.Test.YtihlbhlagpmbjaaShapeD18
namespace Go.Proofs.Ytihlbhlagpmbjaa
open Go.RowKit

/-- From a link's value on, link by link, one comes to these nodes, and then to 0. -/
def PathV (cs : List Int) : Int → List Nat → Prop
  | v, [] => v = 0
  | v, p :: L => v = (p : Int) ∧ PathV cs (cs.getD (2 + 2 * p) 0) L
def keysN (cs : List Int) (L : List Nat) : List Int := L.map fun p => cs.getD (1 + 2 * p) 0
/-- Cells that say a chain: its nodes A, the nodes Fr that are free. -/
structure COk (n u : Nat) (A Fr : List Nat) (cs : List Int) : Prop where
  most : n ≤ 16
  len : cs.length = 2 * n + 3
  used : cs.getD 2 0 = (u : Int)
  fit : u ≤ n
  head : PathV cs (cs.getD 0 0) A
  free : PathV cs (cs.getD 1 0) Fr
  nodes : ∀ p ∈ A ++ Fr, 1 ≤ p ∧ p ≤ u
  nodup : (A ++ Fr).Nodup
  size : (A ++ Fr).length = u
  rise : (keysN cs A).Pairwise (· < ·)
  num : ∀ x ∈ cs, In64 x

theorem getD_mem64 {cs : List Int} (h : ∀ x ∈ cs, In64 x) (i : Nat) : In64 (cs.getD i 0) := by
  rw [List.getD_eq_getElem?_getD]
  rcases Nat.lt_or_ge i cs.length with hi | hi
  · rw [List.getElem?_eq_getElem hi]; exact h _ (List.getElem_mem hi)
  · rw [List.getElem?_eq_none hi]; simp [In64]
theorem set_mem64 {cs : List Int} (h : ∀ x ∈ cs, In64 x) (i : Nat) {v : Int} (hv : In64 v) : ∀ x ∈ cs.set i v, In64 x := fun x hx => by
  rcases List.mem_or_eq_of_mem_set hx with h' | h'
  · exact h x h'
  · rw [h']; exact hv
theorem getD_set_ne {cs : List Int} {i j : Nat} (h : i ≠ j) (v : Int) : (cs.set i v).getD j 0 = cs.getD j 0 := by
  simp [List.getD_eq_getElem?_getD, h]
theorem getD_set_eq {cs : List Int} {i : Nat} (h : i < cs.length) (v : Int) : (cs.set i v).getD i 0 = v := by
  simp [List.getD_eq_getElem?_getD, h]

theorem keysN_len (cs : List Int) (L : List Nat) : (keysN cs L).length = L.length := by simp [keysN]
theorem keysN_app (cs : List Int) (P R : List Nat) : keysN cs (P ++ R) = keysN cs P ++ keysN cs R := by simp [keysN]
theorem keysN_in {cs : List Int} (h : ∀ x ∈ cs, In64 x) (L : List Nat) : ∀ x ∈ keysN cs L, In64 x := fun x hx => by
  unfold keysN at hx
  obtain ⟨i, _, rfl⟩ := List.mem_map.1 hx
  exact getD_mem64 h _
theorem keysN_congr {cs cs' : List Int} {L : List Nat} (h : ∀ p ∈ L, cs'.getD (1 + 2 * p) 0 = cs.getD (1 + 2 * p) 0) : keysN cs' L = keysN cs L := List.map_congr_left h
theorem path_congr {cs cs' : List Int} : ∀ {L : List Nat} {v : Int}, (∀ p ∈ L, cs'.getD (2 + 2 * p) 0 = cs.getD (2 + 2 * p) 0) → PathV cs v L → PathV cs' v L
  | [], _, _, h => h
  | p :: L, v, hc, h => ⟨h.1, by
    rw [hc p List.mem_cons_self]
    exact path_congr (fun q hq => hc q (List.mem_cons_of_mem _ hq)) h.2⟩

/-- The cell of the link behind some nodes. -/
def lastC : Nat → List Nat → Nat
  | c, [] => c
  | _, p :: P => lastC (2 + 2 * p) P
theorem lastC_mem : ∀ (P : List Nat) (c : Nat), lastC c P = c ∨ ∃ p ∈ P, lastC c P = 2 + 2 * p
  | [], c => .inl rfl
  | p :: P, c => by
    rcases lastC_mem P (2 + 2 * p) with h | ⟨q, hq, h⟩
    · exact .inr ⟨p, List.mem_cons_self, h⟩
    · exact .inr ⟨q, List.mem_cons_of_mem _ hq, h⟩
theorem path_tail {cs : List Int} : ∀ {P R : List Nat} {c : Nat}, PathV cs (cs.getD c 0) (P ++ R) → PathV cs (cs.getD (lastC c P) 0) R
  | [], _, _, h => h
  | p :: P, _, _, h => path_tail (P := P) (c := 2 + 2 * p) h.2
/-- A link in the chain is turned to another rest. -/
theorem path_turn {cs cs' : List Int} {R R' : List Nat} : ∀ {P : List Nat} {c : Nat}, PathV cs (cs.getD c 0) (P ++ R) → (∀ q, (q = c ∨ ∃ p ∈ P, q = 2 + 2 * p) → q ≠ lastC c P → cs'.getD q 0 = cs.getD q 0) → (c :: P.map (fun p => 2 + 2 * p)).Nodup →
    PathV cs' (cs'.getD (lastC c P) 0) R' → PathV cs' (cs'.getD c 0) (P ++ R')
  | [], _, _, _, _, h => h
  | p :: P, c, h, hc, hn, h' => by
    have hn1 := List.nodup_cons.1 hn
    have hne : c ≠ lastC (2 + 2 * p) P := by
      intro e
      rcases lastC_mem P (2 + 2 * p) with h3 | ⟨q, hq, h3⟩
      · exact hn1.1 (by rw [e, h3]; simp)
      · exact hn1.1 (by rw [e, h3]; exact List.mem_cons_of_mem _ (List.mem_map_of_mem hq))
    refine ⟨?_, path_turn (P := P) (c := 2 + 2 * p) h.2 (fun q hq hq2 => hc q ?_ hq2) (by simpa using hn1.2) h'⟩
    · rw [hc c (.inl rfl) hne]; exact h.1
    · rcases hq with rfl | ⟨x, hx, rfl⟩
      · exact .inr ⟨p, List.mem_cons_self, rfl⟩
      · exact .inr ⟨x, List.mem_cons_of_mem _ hx, rfl⟩

/-- What a want and what comes behind it come to. -/
def runT (n : Int) : Nat → WantS × K → List Int → Ran
  | 0, _, cs => ⟨0, 0, false, cs⟩
  | f + 1, r, cs =>
    if r.1.kind = 6 then ⟨r.1.value, r.1.code, true, cs⟩
    else if r.1.cell < 0 ∨ cs.length ≤ r.1.cell then ⟨0, 0, false, cs⟩
    else if r.1.kind = 2 then runM 0 f ⟨0, n, r.2⟩ (cs.getD r.1.cell.toNat 0) cs
    else runM 0 f ⟨0, n, r.2⟩ 0 (cs.set r.1.cell.toNat r.1.value)
theorem runM_eq (n : Int) (f : Nat) (k : K) (v : Int) (cs : List Int) : runM 0 f ⟨0, n, k⟩ v cs = runT n f (goK 0 n k v) cs := by cases f <;> rfl
theorem runT_read {n : Int} {f c : Nat} {x : Int} {k : K} {cs : List Int} (hx : x = (c : Int)) (hc : c < cs.length) : runT n (f + 1) (readS x, k) cs = runT n f (goK 0 n k (cs.getD c 0)) cs := by
  subst hx
  rw [runT, if_neg (by simp [readS]), if_neg (by simp only [readS]; omega), if_pos (by rfl), runM_eq]
  rfl
theorem runT_put {n : Int} {f c : Nat} {x v : Int} {k : K} {cs : List Int} (hx : x = (c : Int)) (hc : c < cs.length) : runT n (f + 1) (putS x v, k) cs = runT n f (goK 0 n k 0) (cs.set c v) := by
  subst hx
  rw [runT, if_neg (by simp [putS]), if_neg (by simp only [putS]; omega), if_neg (by simp [putS]), runM_eq]
  rfl
theorem runT_end {n : Int} {f : Nat} {v c : Int} {cs : List Int} : runT n (f + 1) (endK v c) cs = ⟨v, c, true, cs⟩ := rfl

/-- Where one comes to. -/
def wayS (cs : List Int) (k : Int) : Nat → List Nat → WayD
  | c, [] => ⟨c, 0, false, 0, false⟩
  | c, p :: L => if k ≤ cs.getD (1 + 2 * p) 0 then ⟨c, p, true, cs.getD (1 + 2 * p) 0, decide (cs.getD (1 + 2 * p) 0 = k)⟩ else wayS cs k (2 + 2 * p) L
def wayN (cs : List Int) (k : Int) : List Nat → Nat
  | [] => 0
  | p :: L => if k ≤ cs.getD (1 + 2 * p) 0 then 1 else wayN cs k L + 2
theorem wayN_le (cs : List Int) (k : Int) : ∀ L : List Nat, wayN cs k L ≤ 2 * L.length
  | [] => by simp [wayN]
  | p :: L => by
    have := wayN_le cs k L
    unfold wayN
    split <;> simp <;> omega
theorem run_way {cs : List Int} {n : Nat} {call k : Int} (hn : cs.length = 2 * n + 3) : ∀ (R : List Nat) (c cnt f : Nat), PathV cs (cs.getD c 0) R → (∀ p ∈ R, 1 ≤ p ∧ p ≤ n) → cnt + R.length ≤ n →
    runT n (wayN cs k R + f) (goK 0 n (.goes call k c cnt) (cs.getD c 0)) cs = runT n f (thenK 0 call k (wayS cs k c R)) cs
  | [], c, cnt, f, h, _, _ => by
    have h0 : cs.getD c 0 = 0 := h
    simp only [wayN, wayS, Nat.zero_add, goK, h0]
    rw [if_neg (by unfold leadsP; omega)]
  | p :: R, c, cnt, f, h, hnd, hlen => by
    obtain ⟨h0, h1⟩ := h
    obtain ⟨p0, p1⟩ := hnd p List.mem_cons_self
    simp only [List.length_cons] at hlen
    have hl : leadsP (n : Int) (cs.getD c 0) ∧ ((cnt : Int) ≠ n) := ⟨by rw [h0]; unfold leadsP; omega, by omega⟩
    have e1 : (0 : Int) + keyI (p : Int) = ((1 + 2 * p : Nat) : Int) := by unfold keyI; omega
    have e2 : (0 : Int) + linkI (p : Int) = ((2 + 2 * p : Nat) : Int) := by unfold linkI; omega
    have e3 : linkI (p : Int) = ((2 + 2 * p : Nat) : Int) := by unfold linkI; omega
    unfold wayN wayS
    simp only [goK]
    rw [if_pos hl, h0]
    by_cases hk : k ≤ cs.getD (1 + 2 * p) 0
    · rw [if_pos hk, if_pos hk, Nat.add_comm 1 f, runT_read e1 (by omega)]
      simp only [goK]
      rw [if_pos hk]
    · rw [if_neg hk, if_neg hk, show wayN cs k R + 2 + f = (wayN cs k R + f) + 1 + 1 by omega, runT_read e1 (by omega)]
      simp only [goK]
      rw [if_neg hk, runT_read e2 (by omega), e3]
      have := run_way (call := call) (k := k) hn R (2 + 2 * p) (cnt + 1) f h1 (fun q hq => hnd q (List.mem_cons_of_mem _ hq)) (by omega)
      rw [Int.natCast_add] at this
      exact this
theorem run_counts {cs : List Int} {n : Nat} (hn : cs.length = 2 * n + 3) : ∀ (R : List Nat) (c cnt f : Nat), PathV cs (cs.getD c 0) R → (∀ p ∈ R, 1 ≤ p ∧ p ≤ n) → cnt + R.length ≤ n →
    runT n (R.length + (f + 1)) (goK 0 n (.counts cnt) (cs.getD c 0)) cs = ⟨((cnt + R.length : Nat) : Int), 0, true, cs⟩
  | [], c, cnt, f, h, _, _ => by
    have h0 : cs.getD c 0 = 0 := h
    simp only [List.length_nil, Nat.zero_add, goK, h0, Nat.add_zero]
    rw [if_neg (by unfold leadsP; omega), runT_end]
  | p :: R, c, cnt, f, h, hnd, hlen => by
    obtain ⟨h0, h1⟩ := h
    obtain ⟨p0, p1⟩ := hnd p List.mem_cons_self
    simp only [List.length_cons] at hlen
    have hl : leadsP (n : Int) (cs.getD c 0) ∧ ((cnt : Int) ≠ n) := ⟨by rw [h0]; unfold leadsP; omega, by omega⟩
    have e2 : (0 : Int) + linkI (p : Int) = ((2 + 2 * p : Nat) : Int) := by unfold linkI; omega
    simp only [goK, List.length_cons]
    rw [if_pos hl, h0, show R.length + 1 + (f + 1) = (R.length + (f + 1)) + 1 by omega, runT_read e2 (by omega)]
    have := run_counts hn R (2 + 2 * p) (cnt + 1) f h1 (fun q hq => hnd q (List.mem_cons_of_mem _ hq)) (by omega)
    rw [Int.natCast_add] at this
    rw [show cnt + (R.length + 1) = cnt + 1 + R.length by omega]
    exact this

theorem split_at (cs : List Int) (x : Int) : ∀ A : List Nat, ∃ P R, A = P ++ R ∧ idxS x (keysN cs A) = P.length ∧ (∀ p ∈ P, cs.getD (1 + 2 * p) 0 < x) ∧ (∀ c, wayS cs x c A = wayS cs x (lastC c P) R) ∧ wayN cs x A = 2 * P.length + wayN cs x R ∧ (R = [] ∨ ∃ q R', R = q :: R' ∧ x ≤ cs.getD (1 + 2 * q) 0)
  | [] => ⟨[], [], rfl, rfl, by simp, fun _ => rfl, rfl, .inl rfl⟩
  | p :: A => by
    by_cases h : cs.getD (1 + 2 * p) 0 < x
    · obtain ⟨P, R, h1, h2, h3, h4, h5, h6⟩ := split_at cs x A
      refine ⟨p :: P, R, by rw [h1]; rfl, ?_, ?_, fun c => ?_, ?_, h6⟩
      · show idxS x (cs.getD (1 + 2 * p) 0 :: keysN cs A) = _
        rw [idxS, if_pos h, h2]; rfl
      · intro q hq
        rcases List.mem_cons.1 hq with rfl | hq
        · exact h
        · exact h3 q hq
      · rw [wayS, if_neg (by omega), h4]; rfl
      · rw [wayN, if_neg (by omega), h5]; simp; omega
    · refine ⟨[], p :: A, rfl, ?_, by simp, fun _ => rfl, by simp, .inr ⟨p, A, rfl, by omega⟩⟩
      show idxS x (cs.getD (1 + 2 * p) 0 :: keysN cs A) = _
      rw [idxS, if_neg h]; rfl
/-- Cells in which one node stands in neither row. -/
structure Loose (n u : Nat) (A Fr : List Nat) (g : Nat) (cs : List Int) : Prop where
  most : n ≤ 16
  len : cs.length = 2 * n + 3
  used : cs.getD 2 0 = (u : Int)
  fit : u ≤ n
  head : PathV cs (cs.getD 0 0) A
  free : PathV cs (cs.getD 1 0) Fr
  nodes : ∀ p ∈ g :: (A ++ Fr), 1 ≤ p ∧ p ≤ u
  nodup : (g :: (A ++ Fr)).Nodup
  size : (A ++ Fr).length + 1 = u
  rise : (keysN cs A).Pairwise (· < ·)
  num : ∀ x ∈ cs, In64 x

theorem links_nodup {P : List Nat} (h : P.Nodup) (h1 : ∀ p ∈ P, 1 ≤ p) (c : Nat) (hc : c < 4) : (c :: P.map (fun p => 2 + 2 * p)).Nodup := by
  refine List.nodup_cons.2 ⟨fun hm => ?_, ?_⟩
  · obtain ⟨p, hp, e⟩ := List.mem_map.1 hm
    have := h1 p hp
    omega
  · unfold List.Nodup at *
    rw [List.pairwise_map]
    exact h.imp (fun hab => by omega)

theorem take_free {n u g : Nat} {A Fr : List Nat} {cs : List Int} (h : COk n u A (g :: Fr) cs) : Loose n u A Fr g (cs.set 1 (cs.getD (2 + 2 * g) 0)) ∧ keysN (cs.set 1 (cs.getD (2 + 2 * g) 0)) A = keysN cs A := by
  have hl := h.len
  have hk : keysN (cs.set 1 (cs.getD (2 + 2 * g) 0)) A = keysN cs A := keysN_congr fun p hp => getD_set_ne (by have := h.nodes p (by simp [hp]); omega) _
  refine ⟨⟨h.most, by simp [hl], by rw [getD_set_ne (by omega)]; exact h.used, h.fit, ?_, ?_, ?_, ?_, ?_, by rw [hk]; exact h.rise, set_mem64 h.num _ (getD_mem64 h.num _)⟩, hk⟩
  · rw [getD_set_ne (by omega)]
    exact path_congr (fun p _ => getD_set_ne (by omega) _) h.head
  · rw [getD_set_eq (by omega)]
    exact path_congr (fun p _ => getD_set_ne (by omega) _) h.free.2
  · intro p hp
    refine h.nodes p ?_
    simp at hp ⊢
    rcases hp with h | h | h <;> simp [h]
  · exact (List.perm_middle.nodup_iff).1 h.nodup
  · have := h.size
    simp at this ⊢
    omega
theorem take_new {n u : Nat} {A : List Nat} {cs : List Int} (h : COk n u A [] cs) (hu : u < n) : Loose n (u + 1) A [] (u + 1) (cs.set 2 (u + 1)) ∧ keysN (cs.set 2 (u + 1)) A = keysN cs A := by
  have hl := h.len
  have hm := h.most
  have hk : keysN (cs.set 2 ((u : Int) + 1)) A = keysN cs A := keysN_congr fun p hp => getD_set_ne (by omega) _
  refine ⟨⟨h.most, by simp [hl], by rw [getD_set_eq (by omega)]; simp, hu, ?_, ?_, ?_, ?_, ?_, by rw [hk]; exact h.rise, set_mem64 h.num _ (by unfold In64; omega)⟩, hk⟩
  · rw [getD_set_ne (by omega)]
    exact path_congr (fun p hp => getD_set_ne (by have := h.nodes p (by simp [hp]); omega) _) h.head
  · rw [getD_set_ne (by omega)]
    exact h.free
  · intro p hp
    rcases List.mem_cons.1 hp with rfl | hp
    · omega
    · have := h.nodes p hp
      omega
  · refine List.nodup_cons.2 ⟨fun hp => ?_, h.nodup⟩
    have := h.nodes _ hp
    omega
  · have := h.size
    omega
theorem put_in {n u g : Nat} {P R Fr : List Nat} {cs : List Int} {x : Int} (h : Loose n u (P ++ R) Fr g cs) (hx : In64 x) (h1 : ∀ p ∈ P, cs.getD (1 + 2 * p) 0 < x) (h2 : ∀ p ∈ R, x < cs.getD (1 + 2 * p) 0) :
    COk n u (P ++ g :: R) Fr (((cs.set (1 + 2 * g) x).set (2 + 2 * g) (cs.getD (lastC 0 P) 0)).set (lastC 0 P) g) ∧
    keysN (((cs.set (1 + 2 * g) x).set (2 + 2 * g) (cs.getD (lastC 0 P) 0)).set (lastC 0 P) g) (P ++ g :: R) = keysN cs P ++ x :: keysN cs R := by
  have hl := h.len
  have hm := h.most
  have hf := h.fit
  have hg := h.nodes g List.mem_cons_self
  have hgA := List.nodup_cons.1 h.nodup
  have hPn : ∀ p ∈ P, 1 ≤ p ∧ p ≤ u ∧ p ≠ g := fun p hp => ⟨(h.nodes p (by simp [hp])).1, (h.nodes p (by simp [hp])).2, fun e => hgA.1 (by subst e; simp [hp])⟩
  have hRn : ∀ p ∈ R, 1 ≤ p ∧ p ≤ u ∧ p ≠ g := fun p hp => ⟨(h.nodes p (by simp [hp])).1, (h.nodes p (by simp [hp])).2, fun e => hgA.1 (by subst e; simp [hp])⟩
  have hFn : ∀ p ∈ Fr, 1 ≤ p ∧ p ≤ u ∧ p ≠ g := fun p hp => ⟨(h.nodes p (by simp [hp])).1, (h.nodes p (by simp [hp])).2, fun e => hgA.1 (by subst e; simp [hp])⟩
  have hnd := List.nodup_append.1 hgA.2
  have hPR := List.nodup_append.1 hnd.1
  have hc : lastC 0 P = 0 ∨ ∃ p ∈ P, lastC 0 P = 2 + 2 * p := lastC_mem P 0
  have hpt := path_tail (P := P) (R := R) (c := 0) h.head
  have hcl : lastC 0 P < cs.length ∧ lastC 0 P ≠ 2 + 2 * g ∧ lastC 0 P % 2 = 0 ∧ lastC 0 P ≠ 2 := by
    rcases hc with h | ⟨p, hp, h⟩
    · omega
    · have := hPn p hp
      omega
  have hcR : ∀ p ∈ R, lastC 0 P ≠ 2 + 2 * p := fun p hp e => by
    rcases hc with h | ⟨q, hq, h⟩
    · omega
    · exact hPR.2.2 q hq p hp (by omega)
  have hcF : ∀ p ∈ Fr, lastC 0 P ≠ 2 + 2 * p := fun p hp e => by
    rcases hc with h | ⟨q, hq, h⟩
    · omega
    · exact hnd.2.2 q (by simp [hq]) p hp (by omega)
  have hd : In64 (cs.getD (lastC 0 P) 0) := getD_mem64 h.num _
  generalize hv : cs.getD (lastC 0 P) 0 = v at *
  have hk : keysN (((cs.set (1 + 2 * g) x).set (2 + 2 * g) v).set (lastC 0 P) g) (P ++ g :: R) = keysN cs P ++ x :: keysN cs R := by
    rw [keysN_app]
    congr 1
    · exact keysN_congr fun p hp => by have := hPn p hp; rw [getD_set_ne (by omega), getD_set_ne (by omega), getD_set_ne (by omega)]
    · show (_ : Int) :: keysN _ R = _
      congr 1
      · show (((cs.set (1 + 2 * g) x).set (2 + 2 * g) v).set (lastC 0 P) g).getD (1 + 2 * g) 0 = x
        rw [getD_set_ne (by omega), getD_set_ne (by omega), getD_set_eq (by omega)]
      · exact keysN_congr fun p hp => by have := hRn p hp; rw [getD_set_ne (by omega), getD_set_ne (by omega), getD_set_ne (by omega)]
  refine ⟨⟨hm, by simp [hl], ?_, hf, ?_, ?_, ?_, ?_, ?_, ?_, ?_⟩, hk⟩
  · rw [getD_set_ne (by omega), getD_set_ne (by omega), getD_set_ne (by omega)]
    exact h.used
  · refine path_turn (c := 0) (P := P) h.head (fun q hq hne => ?_) (links_nodup hPR.1 (fun p hp => (hPn p hp).1) 0 (by omega)) ?_
    · have hqg : q ≠ 2 + 2 * g ∧ q ≠ 1 + 2 * g := by
        rcases hq with rfl | ⟨p, hp, rfl⟩
        · omega
        · have := hPn p hp
          omega
      rw [getD_set_ne (fun e => hne e.symm), getD_set_ne (by omega), getD_set_ne (by omega)]
    · rw [getD_set_eq (by simp; omega)]
      refine ⟨rfl, ?_⟩
      rw [getD_set_ne (by omega), getD_set_eq (by simp; omega)]
      exact path_congr (fun p hp => by have := hRn p hp; have := hcR p hp; rw [getD_set_ne (by omega), getD_set_ne (by omega), getD_set_ne (by omega)]) hpt
  · rw [getD_set_ne (by omega), getD_set_ne (by omega), getD_set_ne (by omega)]
    exact path_congr (fun p hp => by have := hFn p hp; have := hcF p hp; rw [getD_set_ne (by omega), getD_set_ne (by omega), getD_set_ne (by omega)]) h.free
  · intro p hp
    refine h.nodes p ?_
    simp at hp ⊢
    rcases hp with h | h | h | h <;> simp [h]
  · rw [show P ++ g :: R ++ Fr = P ++ g :: (R ++ Fr) by simp]
    refine (List.perm_middle.nodup_iff).2 ?_
    rw [← List.append_assoc]
    exact h.nodup
  · have := h.size
    simp at this ⊢
    omega
  · rw [hk]
    have hr := h.rise
    rw [keysN_app] at hr
    obtain ⟨r1, r2, r3⟩ := List.pairwise_append.1 hr
    refine List.pairwise_append.2 ⟨r1, List.pairwise_cons.2 ⟨fun y hy => ?_, r2⟩, fun a ha b hb => ?_⟩
    · obtain ⟨p, hp, rfl⟩ := List.mem_map.1 hy
      exact h2 p hp
    · rcases List.mem_cons.1 hb with rfl | hb
      · obtain ⟨p, hp, rfl⟩ := List.mem_map.1 ha
        exact h1 p hp
      · exact r3 a ha b hb
  · exact set_mem64 (set_mem64 (set_mem64 h.num _ hx) _ hd) _ (by unfold In64; omega)
theorem take_out {n u q : Nat} {P R Fr : List Nat} {cs : List Int} (h : COk n u (P ++ q :: R) Fr cs) :
    Loose n u (P ++ R) Fr q (cs.set (lastC 0 P) (cs.getD (2 + 2 * q) 0)) ∧ keysN (cs.set (lastC 0 P) (cs.getD (2 + 2 * q) 0)) (P ++ R) = keysN cs P ++ keysN cs R := by
  have hl := h.len
  have hm := h.most
  have hf := h.fit
  have hg := h.nodes q (by simp)
  have hn0 : (q :: ((P ++ R) ++ Fr)).Nodup := by
    have := h.nodup
    rw [show P ++ q :: R ++ Fr = P ++ q :: (R ++ Fr) by simp] at this
    have := (List.perm_middle.nodup_iff).1 this
    rwa [← List.append_assoc] at this
  have hgA := List.nodup_cons.1 hn0
  have hPn : ∀ p ∈ P, 1 ≤ p ∧ p ≤ u ∧ p ≠ q := fun p hp => ⟨(h.nodes p (by simp [hp])).1, (h.nodes p (by simp [hp])).2, fun e => hgA.1 (by subst e; simp [hp])⟩
  have hRn : ∀ p ∈ R, 1 ≤ p ∧ p ≤ u ∧ p ≠ q := fun p hp => ⟨(h.nodes p (by simp [hp])).1, (h.nodes p (by simp [hp])).2, fun e => hgA.1 (by subst e; simp [hp])⟩
  have hnd := List.nodup_append.1 hgA.2
  have hPR := List.nodup_append.1 hnd.1
  have hc : lastC 0 P = 0 ∨ ∃ p ∈ P, lastC 0 P = 2 + 2 * p := lastC_mem P 0
  have hpt := path_tail (P := P) (R := q :: R) (c := 0) h.head
  have hcl : lastC 0 P < cs.length ∧ lastC 0 P ≠ 2 + 2 * q ∧ lastC 0 P % 2 = 0 ∧ lastC 0 P ≠ 2 := by
    rcases hc with h | ⟨p, hp, h⟩
    · omega
    · have := hPn p hp
      omega
  have hcR : ∀ p ∈ R, lastC 0 P ≠ 2 + 2 * p := fun p hp e => by
    rcases hc with h | ⟨r, hr, h⟩
    · omega
    · exact hPR.2.2 r hr p hp (by omega)
  have hcF : ∀ p ∈ Fr, lastC 0 P ≠ 2 + 2 * p := fun p hp e => by
    rcases hc with h | ⟨r, hr, h⟩
    · omega
    · exact hnd.2.2 r (by simp [hr]) p hp (by omega)
  have hk : keysN (cs.set (lastC 0 P) (cs.getD (2 + 2 * q) 0)) (P ++ R) = keysN cs P ++ keysN cs R := by
    rw [← keysN_app]
    exact keysN_congr fun p hp => getD_set_ne (by omega) _
  refine ⟨⟨hm, by simp [hl], by rw [getD_set_ne (by omega)]; exact h.used, hf, ?_, ?_, ?_, hn0, ?_, ?_, set_mem64 h.num _ (getD_mem64 h.num _)⟩, hk⟩
  · refine path_turn (c := 0) (P := P) h.head (fun r hr hne => getD_set_ne (fun e => hne e.symm) _) (links_nodup hPR.1 (fun p hp => (hPn p hp).1) 0 (by omega)) ?_
    rw [getD_set_eq (by omega)]
    exact path_congr (fun p hp => getD_set_ne (hcR p hp) _) hpt.2
  · rw [getD_set_ne (by omega)]
    exact path_congr (fun p hp => getD_set_ne (hcF p hp) _) h.free
  · intro p hp
    refine h.nodes p ?_
    simp at hp ⊢
    rcases hp with h | h | h | h <;> simp [h]
  · have := h.size
    simp at this ⊢
    omega
  · rw [hk]
    have hr := h.rise
    rw [keysN_app] at hr
    obtain ⟨r1, r2, r3⟩ := List.pairwise_append.1 hr
    exact List.pairwise_append.2 ⟨r1, (List.pairwise_cons.1 r2).2, fun a ha b hb => r3 a ha b (List.mem_cons_of_mem _ hb)⟩
theorem put_free {n u q : Nat} {A Fr : List Nat} {cs : List Int} (h : Loose n u A Fr q cs) :
    COk n u A (q :: Fr) ((cs.set (2 + 2 * q) (cs.getD 1 0)).set 1 q) ∧ keysN ((cs.set (2 + 2 * q) (cs.getD 1 0)).set 1 q) A = keysN cs A := by
  have hl := h.len
  have hm := h.most
  have hf := h.fit
  have hg := h.nodes q List.mem_cons_self
  have hgA := List.nodup_cons.1 h.nodup
  have hAn : ∀ p ∈ A, 1 ≤ p ∧ p ≤ u ∧ p ≠ q := fun p hp => ⟨(h.nodes p (by simp [hp])).1, (h.nodes p (by simp [hp])).2, fun e => hgA.1 (by subst e; simp [hp])⟩
  have hFn : ∀ p ∈ Fr, 1 ≤ p ∧ p ≤ u ∧ p ≠ q := fun p hp => ⟨(h.nodes p (by simp [hp])).1, (h.nodes p (by simp [hp])).2, fun e => hgA.1 (by subst e; simp [hp])⟩
  have hk : keysN ((cs.set (2 + 2 * q) (cs.getD 1 0)).set 1 q) A = keysN cs A := keysN_congr fun p hp => by have := hAn p hp; rw [getD_set_ne (by omega), getD_set_ne (by omega)]
  refine ⟨⟨hm, by simp [hl], by rw [getD_set_ne (by omega), getD_set_ne (by omega)]; exact h.used, hf, ?_, ?_, ?_, ?_, ?_, by rw [hk]; exact h.rise, set_mem64 (set_mem64 h.num _ (getD_mem64 h.num _)) _ (by unfold In64; omega)⟩, hk⟩
  · rw [getD_set_ne (by omega), getD_set_ne (by omega)]
    exact path_congr (fun p hp => by have := hAn p hp; rw [getD_set_ne (by omega), getD_set_ne (by omega)]) h.head
  · rw [getD_set_eq (by simp; omega)]
    refine ⟨rfl, ?_⟩
    rw [getD_set_ne (by omega), getD_set_eq (by omega)]
    exact path_congr (fun p hp => by have := hFn p hp; rw [getD_set_ne (by omega), getD_set_ne (by omega)]) h.free
  · intro p hp
    refine h.nodes p ?_
    simp at hp ⊢
    rcases hp with h | h | h <;> simp [h]
  · exact (List.perm_middle.nodup_iff).2 h.nodup
  · have := h.size
    simp at this ⊢
    omega
theorem way_at {n u : Nat} {A Fr : List Nat} {cs : List Int} (h : COk n u A Fr cs) {call x : Int} (h5 : call ≠ 5) (h7 : call ≠ 7) :
    ∃ P R, A = P ++ R ∧ idxS x (keysN cs A) = P.length ∧ (∀ p ∈ P, cs.getD (1 + 2 * p) 0 < x) ∧
      ((R = [] ∧ thereS x (keysN cs A) = false ∧ ∃ f, ∀ xs : List Int, xs.getD 0 0 = x → runM 0 (2 * n + 8) (initM 0 n call xs) 0 cs = runT n (f + 7) (thenK 0 call x ⟨lastC 0 P, 0, false, 0, false⟩) cs) ∨
      ∃ q R', R = q :: R' ∧ x ≤ cs.getD (1 + 2 * q) 0 ∧ thereS x (keysN cs A) = decide (cs.getD (1 + 2 * q) 0 = x) ∧
        ∃ f, ∀ xs : List Int, xs.getD 0 0 = x → runM 0 (2 * n + 8) (initM 0 n call xs) 0 cs = runT n (f + 7) (thenK 0 call x ⟨lastC 0 P, q, true, cs.getD (1 + 2 * q) 0, decide (cs.getD (1 + 2 * q) 0 = x)⟩) cs) := by
  obtain ⟨P, R, h1, h2, h3, h4, h5', h6⟩ := split_at cs x A
  have hl := h.len
  have hf := h.fit
  have hsz := h.size
  have hAu : A.length ≤ n := by simp at hsz; omega
  have hw := wayN_le cs x A
  have hrun : ∀ f, 2 * n + 7 = wayN cs x A + f → ∀ xs : List Int, xs.getD 0 0 = x → runM 0 (2 * n + 8) (initM 0 n call xs) 0 cs = runT n f (thenK 0 call x (wayS cs x (lastC 0 P) R)) cs := by
    intro f hfu xs hxs
    unfold initM
    rw [if_neg h7, if_neg h5, hxs, runM_eq]
    simp only [goK]
    rw [show 2 * n + 8 = (2 * n + 7) + 1 by omega, runT_read (c := 0) (by rfl) (by omega), hfu]
    have := run_way (call := call) (k := x) hl A 0 0 f h.head (fun p hp => ⟨(h.nodes p (by simp [hp])).1, Nat.le_trans (h.nodes p (by simp [hp])).2 hf⟩) (by omega)
    rw [h4] at this
    exact this
  refine ⟨P, R, h1, h2, h3, ?_⟩
  rcases h6 with rfl | ⟨q, R', rfl, hq⟩
  · refine .inl ⟨rfl, ?_, 2 * n - wayN cs x A, ?_⟩
    · unfold thereS
      rw [h2, keysN_len, h1]
      simp
    · exact hrun _ (by omega)
  · refine .inr ⟨q, R', rfl, hq, ?_, 2 * n - wayN cs x A, ?_⟩
    · unfold thereS
      rw [h2, h1, keysN_app]
      have e1 : P.length < (keysN cs P ++ keysN cs (q :: R')).length := by simp [keysN_len]
      have e2 : (keysN cs P ++ keysN cs (q :: R')).getD P.length 0 = cs.getD (1 + 2 * q) 0 := by
        rw [List.getD_eq_getElem?_getD, List.getElem?_append_right (by simp [keysN_len]), keysN_len]
        simp [keysN]
      rw [e2]
      simp only [e1, true_and]
    · have := hrun (2 * n - wayN cs x A + 7) (by omega)
      unfold wayS at this
      rw [if_pos hq] at this
      exact this

theorem keys_take (cs : List Int) (P R : List Nat) : (keysN cs (P ++ R)).take P.length = keysN cs P := by
  rw [keysN_app, List.take_append_of_le_length (by simp [keysN_len]), List.take_of_length_le (by simp [keysN_len])]
theorem keys_drop (cs : List Int) (P R : List Nat) : (keysN cs (P ++ R)).drop P.length = keysN cs R := by
  rw [keysN_app, ← keysN_len cs P, List.drop_left]

/-- What a call done over cells that say a chain comes to. -/
theorem run_means {n u : Nat} {A Fr : List Nat} {cs : List Int} (h : COk n u A Fr cs) {call : Int} {xs : List Int} (hc : call = 1 ∨ call = 4 ∨ call = 6 ∨ call = 8 ∨ call = 7 ∨ call = 5) (hx : In64 (xs.getD 0 0)) :
    ∃ u' A' Fr' cs', COk n u' A' Fr' cs' ∧ runM 0 (2 * n + 8) (initM 0 n call xs) 0 cs = ⟨(meansS (keysN cs A) n call (xs.getD 0 0)).2.1, (meansS (keysN cs A) n call (xs.getD 0 0)).2.2, true, cs'⟩ ∧
      keysN cs' A' = (meansS (keysN cs A) n call (xs.getD 0 0)).1 := by
  have hl := h.len
  have hf := h.fit
  have hm := h.most
  have hsz := h.size
  have hAu : A.length ≤ n := by simp at hsz; omega
  rcases hc with rfl | rfl | rfl | rfl | rfl | rfl
  · -- add
    obtain ⟨P, R, rfl, hi, hP, hw⟩ := way_at h (call := 1) (x := xs.getD 0 0) (by decide) (by decide)
    generalize hxe : xs.getD 0 0 = x at *
    have hrun : ∃ f d, (d = thereS x (keysN cs (P ++ R))) ∧ (d = false → ∀ p ∈ R, x < cs.getD (1 + 2 * p) 0) ∧
        ∃ q st ky, (d = false → q = cs.getD (lastC 0 P) 0) ∧ runM 0 (2 * n + 8) (initM 0 n 1 xs) 0 cs = runT n (f + 7) (thenK 0 1 x ⟨lastC 0 P, q, st, ky, d⟩) cs := by
      have hpt := path_tail (P := P) (c := 0) h.head
      rcases hw with ⟨rfl, h1, f, h2⟩ | ⟨q, R', rfl, h0, h1, f, h2⟩
      · exact ⟨f, false, h1.symm, fun _ p hp => (nomatch hp), 0, false, 0, fun _ => hpt.symm, h2 xs hxe⟩
      · refine ⟨f, _, h1.symm, fun hd p hp => ?_, q, true, _, fun _ => hpt.1.symm, h2 xs hxe⟩
        have hne := of_decide_eq_false hd
        rcases List.mem_cons.1 hp with rfl | hp
        · omega
        · have hr := h.rise
          rw [keysN_app] at hr
          have hr2 := (List.pairwise_append.1 hr).2.1
          have := (List.pairwise_cons.1 (show (cs.getD (1 + 2 * q) 0 :: keysN cs R').Pairwise (· < ·) from hr2)).1 _ (List.mem_map_of_mem hp)
          omega
    obtain ⟨f, d, hd, hR, q, st, ky, hq, hr⟩ := hrun
    rw [hr]
    cases d with
    | true =>
      refine ⟨u, P ++ R, Fr, cs, h, ?_, ?_⟩ <;> simp [meansS, ← hd, thenK, addsK, runT_end]
    | false =>
      obtain rfl := hq rfl
      have hR := hR rfl
      simp only [thenK, if_true, addsK, Bool.false_eq_true, if_false]
      rw [show f + 7 = (f + 6) + 1 by omega, runT_read (c := 1) (by rfl) (by omega)]
      simp only [goK]
      rw [show f + 6 = (f + 5) + 1 by omega]
      have hlays : ∀ (u' g : Nat) (Fr' : List Nat) (cs1 : List Int), Loose n u' (P ++ R) Fr' g cs1 → keysN cs1 (P ++ R) = keysN cs (P ++ R) → cs1.getD (lastC 0 P) 0 = cs.getD (lastC 0 P) 0 →
          ∃ cs', COk n u' (P ++ g :: R) Fr' cs' ∧ runT n (f + 4) (laysK 0 x ⟨lastC 0 P, cs.getD (lastC 0 P) 0, st, ky, false⟩ g) cs1 = ⟨0, 0, true, cs'⟩ ∧ keysN cs' (P ++ g :: R) = keysN cs P ++ x :: keysN cs R := by
        intro u' g Fr' cs1 hL hk1 hd1
        have hg := hL.nodes g List.mem_cons_self
        have hl1 := hL.len
        have hf1 := hL.fit
        have hks : ∀ p, p ∈ P ++ R → cs1.getD (1 + 2 * p) 0 = cs.getD (1 + 2 * p) 0 := List.map_inj_left.1 hk1
        have hkP : keysN cs1 P = keysN cs P := keysN_congr fun p hp => hks p (by simp [hp])
        have hkR : keysN cs1 R = keysN cs R := keysN_congr fun p hp => hks p (by simp [hp])
        obtain ⟨hc1, hc2⟩ := put_in hL hx (fun p hp => by rw [hks p (by simp [hp])]; exact hP p hp) (fun p hp => by rw [hks p (by simp [hp])]; exact hR p hp)
        rw [hd1] at hc1 hc2
        refine ⟨_, hc1, ?_, by rw [hc2, hkP, hkR]⟩
        have hcl : lastC 0 P < 2 * n + 3 := by
          rcases lastC_mem P 0 with e | ⟨p, hp, e⟩
          · omega
          · have := h.nodes p (by simp [hp])
            omega
        unfold laysK
        rw [show f + 4 = (f + 3) + 1 by omega, runT_put (c := 1 + 2 * g) (by unfold keyI; omega) (by omega)]
        simp only [goK, putK]
        rw [show f + 3 = (f + 2) + 1 by omega, runT_put (c := 2 + 2 * g) (by unfold linkI; omega) (by simp; omega)]
        simp only [goK, putK]
        rw [show f + 2 = (f + 1) + 1 by omega, runT_put (c := lastC 0 P) (by simp) (by simp; omega)]
        simp only [goK, putK]
        rw [runT_end]
      have hmean : ¬ n ≤ (P ++ R).length → meansS (keysN cs (P ++ R)) n 1 x = (keysN cs P ++ x :: keysN cs R, 0, 0) := by
        intro hnl
        unfold meansS
        rw [if_neg (by decide), if_neg (by decide), if_pos rfl, if_neg (by rw [← hd]; decide), if_neg (by rw [keysN_len]; omega), hi, keys_take, keys_drop]
      cases Fr with
      | nil =>
        have h0 : cs.getD 1 0 = 0 := h.free
        rw [h0, if_neg (by unfold leadsP; omega), runT_read (c := 2) (by rfl) (by omega), h.used]
        simp only [goK]
        simp only [List.append_nil] at hsz
        by_cases hfull : n ≤ u
        · rw [if_pos (by omega), show f + 5 = (f + 4) + 1 by omega, runT_end]
          refine ⟨u, P ++ R, [], cs, h, ?_, ?_⟩
          · unfold meansS
            rw [if_neg (by decide), if_neg (by decide), if_pos rfl, if_neg (by rw [← hd]; decide), if_pos (by rw [keysN_len]; omega)]
          · unfold meansS
            rw [if_neg (by decide), if_neg (by decide), if_pos rfl, if_neg (by rw [← hd]; decide), if_pos (by rw [keysN_len]; omega)]
        · rw [if_neg (by omega), show f + 5 = (f + 4) + 1 by omega, runT_put (c := 2) (by rfl) (by omega)]
          simp only [goK, putK]
          obtain ⟨hL, hk⟩ := take_new h (by omega)
          have hcl2 : 2 ≠ lastC 0 P := by
            rcases lastC_mem P 0 with e | ⟨p, hp, e⟩
            · omega
            · have := h.nodes p (by simp [hp])
              omega
          obtain ⟨cs', h1, h2, h3⟩ := hlays (u + 1) (u + 1) [] _ hL hk (getD_set_ne hcl2 _)
          refine ⟨u + 1, _, _, cs', h1, ?_, ?_⟩
          · rw [hmean (by omega)]
            exact h2
          · rw [hmean (by omega)]
            exact h3
      | cons g Fr =>
        have h0 : cs.getD 1 0 = (g : Int) := h.free.1
        have hg := h.nodes g (by simp)
        rw [h0, if_pos (by unfold leadsP; omega), runT_read (c := 2 + 2 * g) (by unfold linkI; omega) (by omega)]
        simp only [goK]
        rw [show f + 5 = (f + 4) + 1 by omega, runT_put (c := 1) (by rfl) (by omega)]
        simp only [goK, putK]
        obtain ⟨hL, hk⟩ := take_free h
        obtain ⟨cs', h1, h2, h3⟩ := hlays u g Fr _ hL hk (getD_set_ne (by rcases lastC_mem P 0 with e | ⟨p, hp, e⟩ <;> omega) _)
        have hn : ¬ n ≤ (P ++ R).length := by simp at hsz ⊢; omega
        refine ⟨u, _, _, cs', h1, ?_, ?_⟩
        · rw [hmean hn]
          exact h2
        · rw [hmean hn]
          exact h3
  · -- del
    obtain ⟨P, R, rfl, hi, hP, hw⟩ := way_at h (call := 4) (x := xs.getD 0 0) (by decide) (by decide)
    generalize hxe : xs.getD 0 0 = x at *
    rcases hw with ⟨rfl, h1, f, h2⟩ | ⟨q, R, rfl, h0, h1, f, h2⟩
    · rw [h2 xs hxe]
      simp only [List.append_nil] at *
      refine ⟨u, _, Fr, cs, h, ?_, ?_⟩ <;> simp [meansS, h1, thenK, delsK, runT_end]
    · rw [h2 xs hxe]
      by_cases hk : cs.getD (1 + 2 * q) 0 = x
      · rw [decide_eq_true hk] at h1 ⊢
        have hq := h.nodes q (by simp)
        simp only [thenK, if_neg (show ¬ (4 : Int) = 1 by decide), if_true, delsK]
        rw [show f + 7 = (f + 6) + 1 by omega, runT_read (c := 2 + 2 * q) (by unfold linkI; omega) (by omega)]
        simp only [goK]
        have hcl : lastC 0 P < 2 * n + 3 := by
          rcases lastC_mem P 0 with e | ⟨p, hp, e⟩
          · omega
          · have := h.nodes p (by simp [hp])
            omega
        rw [show f + 6 = (f + 5) + 1 by omega, runT_put (c := lastC 0 P) (by simp) (by omega)]
        simp only [goK, putK]
        obtain ⟨hL, hk1⟩ := take_out h
        generalize hcs1 : cs.set (lastC 0 P) (cs.getD (2 + 2 * q) 0) = cs1 at *
        obtain ⟨hC, hk2⟩ := put_free hL
        have hl1 := hL.len
        rw [show f + 5 = (f + 4) + 1 by omega, runT_read (c := 1) (by rfl) (by omega)]
        simp only [goK]
        rw [show f + 4 = (f + 3) + 1 by omega, runT_put (c := 2 + 2 * q) (by unfold linkI; omega) (by omega)]
        simp only [goK, putK]
        rw [show f + 3 = (f + 2) + 1 by omega, runT_put (c := 1) (by rfl) (by simp; omega)]
        simp only [goK, putK]
        have hmean : meansS (keysN cs (P ++ q :: R)) n 4 x = (keysN cs P ++ keysN cs R, 0, 0) := by
          unfold meansS
          rw [if_neg (by decide), if_neg (by decide), if_neg (by decide), if_pos rfl, if_pos h1, hi, keys_take]
          congr 2
          rw [show P ++ q :: R = (P ++ [q]) ++ R by simp, show P.length + 1 = (P ++ [q]).length by simp, keys_drop]
        rw [runT_end, hmean]
        exact ⟨u, _, _, _, hC, rfl, by rw [hk2, hk1]⟩
      · rw [decide_eq_false hk] at h1 ⊢
        refine ⟨u, _, Fr, cs, h, ?_, ?_⟩ <;> simp [meansS, h1, thenK, delsK, runT_end]
  · -- has
    obtain ⟨P, R, hA, hi, hP, hw⟩ := way_at h (call := 6) (x := xs.getD 0 0) (by decide) (by decide)
    generalize hxe : xs.getD 0 0 = x at *
    rcases hw with ⟨rfl, h1, f, h2⟩ | ⟨q, R', rfl, h0, h1, f, h2⟩
    · rw [h2 xs hxe]
      refine ⟨u, A, Fr, cs, h, ?_, ?_⟩ <;> simp [meansS, h1, thenK, hasK, runT_end]
    · rw [h2 xs hxe]
      refine ⟨u, A, Fr, cs, h, ?_, ?_⟩
      · generalize decide (cs.getD (1 + 2 * q) 0 = x) = dd at *
        cases dd <;> simp [meansS, h1, thenK, hasK, runT_end]
      · simp [meansS]
  · -- next
    obtain ⟨P, R, rfl, hi, hP, hw⟩ := way_at h (call := 8) (x := xs.getD 0 0) (by decide) (by decide)
    generalize hxe : xs.getD 0 0 = x at *
    rw [means_8]
    refine ⟨u, P ++ R, Fr, cs, h, ?_, (ans_one _ _).symm⟩
    rcases hw with ⟨rfl, h1, f, h2⟩ | ⟨q, R', rfl, h0, h1, f, h2⟩
    · rw [h2 xs hxe]
      simp only [List.append_nil] at *
      simp [overS, ansS, h1, thenK, aboveK, runT_end, hi, keysN_len]
    · rw [h2 xs hxe]
      have hpt := path_tail (P := P) (R := q :: R') (c := 0) h.head
      have hq := h.nodes q (by simp)
      by_cases hk : cs.getD (1 + 2 * q) 0 = x
      · rw [decide_eq_true hk] at h1 ⊢
        simp only [thenK, if_neg (show ¬ (8 : Int) = 1 by decide), if_neg (show ¬ (8 : Int) = 4 by decide), if_neg (show ¬ (8 : Int) = 6 by decide), aboveK, if_true]
        rw [show f + 7 = (f + 6) + 1 by omega, runT_read (c := 2 + 2 * q) (by unfold linkI; omega) (by omega)]
        simp only [goK]
        cases R' with
        | nil =>
          have hz : cs.getD (2 + 2 * q) 0 = 0 := hpt.2
          rw [hz, if_neg (by unfold leadsP; omega)]
          show runT n ((f + 5) + 1) _ cs = _
          rw [runT_end]
          simp [overS, ansS, h1, hi, keysN_len]
        | cons r R' =>
          have hz : cs.getD (2 + 2 * q) 0 = (r : Int) := hpt.2.1
          have hr := h.nodes r (by simp)
          rw [hz, if_pos (by unfold leadsP; omega), show f + 6 = (f + 5) + 1 by omega, runT_read (c := 1 + 2 * r) (by unfold keyI; omega) (by omega)]
          simp only [goK]
          rw [show f + 5 = (f + 4) + 1 by omega, runT_end]
          unfold overS ansS
          rw [if_pos h1, hi, if_neg (by simp [keysN_len])]
          congr 1
          show _ = (keysN cs (P ++ q :: r :: R')).getD (P.length + 1) 0
          rw [keysN_app, List.getD_eq_getElem?_getD (l := keysN cs P ++ _), List.getElem?_append_right (by simp [keysN_len]), keysN_len]
          simp [keysN]
      · rw [decide_eq_false hk] at h1 ⊢
        simp only [thenK, if_neg (show ¬ (8 : Int) = 1 by decide), if_neg (show ¬ (8 : Int) = 4 by decide), if_neg (show ¬ (8 : Int) = 6 by decide), aboveK, if_true, Bool.false_eq_true, if_false]
        rw [show f + 7 = (f + 6) + 1 by omega, runT_end]
        unfold overS ansS
        simp only [h1, Bool.false_eq_true, if_false, hi]
        rw [if_neg (by simp [keysN_len])]
        congr 1
        show _ = (keysN cs (P ++ q :: R')).getD P.length 0
        rw [keysN_app, List.getD_eq_getElem?_getD (l := keysN cs P ++ _), List.getElem?_append_right (by simp [keysN_len]), keysN_len]
        simp [keysN]
  · -- least
    rw [means_7]
    refine ⟨u, A, Fr, cs, h, ?_, (ans_one _ _).symm⟩
    show runM 0 (2 * n + 8) ⟨0, n, .least⟩ 0 cs = _
    rw [runM_eq]
    simp only [goK]
    rw [show 2 * n + 8 = (2 * n + 7) + 1 by omega, runT_read (c := 0) (by rfl) (by omega)]
    simp only [goK]
    cases A with
    | nil =>
      have hz : cs.getD 0 0 = 0 := h.head
      rw [hz, if_neg (by unfold leadsP; omega), show 2 * n + 7 = (2 * n + 6) + 1 by omega, runT_end]
      simp [ansS, keysN]
    | cons r A =>
      have hz : cs.getD 0 0 = (r : Int) := h.head.1
      have hr := h.nodes r (by simp)
      rw [hz, if_pos (by unfold leadsP; omega), show 2 * n + 7 = (2 * n + 6) + 1 by omega, runT_read (c := 1 + 2 * r) (by unfold keyI; omega) (by omega)]
      simp only [goK]
      rw [show 2 * n + 6 = (2 * n + 5) + 1 by omega, runT_end]
      simp [ansS, keysN]
  · -- len
    refine ⟨u, A, Fr, cs, h, ?_, rfl⟩
    show runM 0 (2 * n + 8) ⟨0, n, .len⟩ 0 cs = _
    rw [runM_eq]
    simp only [goK]
    rw [show 2 * n + 8 = (2 * n + 7) + 1 by omega, runT_read (c := 0) (by rfl) (by omega)]
    have := run_counts hl A 0 0 (2 * n + 6 - A.length) h.head (fun p hp => ⟨(h.nodes p (by simp [hp])).1, Nat.le_trans (h.nodes p (by simp [hp])).2 hf⟩) (by omega)
    rw [show A.length + (2 * n + 6 - A.length + 1) = 2 * n + 7 by omega, Nat.zero_add] at this
    rw [show ((0 : Nat) : Int) = 0 from rfl] at this
    rw [this]
    simp [meansS, keysN_len]
def upL (L : List Nat) : List Int := L.map Int.ofNat
theorem keysC_up (cs : List Int) (L : List Nat) : keysC cs (upL L) = keysN cs L := by
  unfold keysC keysN upL
  rw [List.map_map]
  apply List.map_congr_left
  intro p _
  show cs.getD (keyI (p : Int)).toNat 0 = _
  rw [show (keyI (p : Int)).toNat = 1 + 2 * p by unfold keyI; omega]
theorem row_path {cs : List Int} {u : Int} : ∀ {L : List Nat} {f : Nat} {v : Int} {S l : List Int}, PathV cs v L → (∀ p ∈ L, 1 ≤ p ∧ (p : Int) ≤ u) → L.Nodup → (∀ p ∈ L, (p : Int) ∉ S) → L.length ≤ f →
    rowF cs u f v S l = (true, l ++ upL L, (upL L).reverse ++ S)
  | [], f, v, S, l, h, _, _, _, _ => by
    have h : v = 0 := h
    subst h
    rw [rowF_zero]
    simp [upL]
  | p :: L, f, v, S, l, h, hn, hd, hs, hf => by
    obtain ⟨rfl, h2⟩ := h
    obtain ⟨f, rfl⟩ : ∃ g, f = g + 1 := ⟨f - 1, by simp at hf; omega⟩
    have hp := hn p List.mem_cons_self
    have hd2 := List.nodup_cons.1 hd
    rw [rowF_on (by omega) (by unfold leadsP; omega) (hs p List.mem_cons_self), show (linkI (p : Int)).toNat = 2 + 2 * p by unfold linkI; omega]
    rw [row_path (L := L) h2 (fun q hq => hn q (List.mem_cons_of_mem _ hq)) hd2.2 ?_ (by simp at hf; omega)]
    · simp [upL]
    · intro q hq hm
      rcases List.mem_cons.1 hm with e | hm
      · exact hd2.1 (by rwa [show q = p by omega] at hq)
      · exact hs q (List.mem_cons_of_mem _ hq) hm
theorem row_inv {cs : List Int} {u : Int} : ∀ {f : Nat} {v : Int} {S l L S' : List Int}, rowF cs u f v S l = (true, L, S') →
    ∃ L' : List Nat, PathV cs v L' ∧ L = l ++ upL L' ∧ S' = (upL L').reverse ++ S ∧ (∀ p ∈ L', 1 ≤ p ∧ (p : Int) ≤ u) ∧ L'.Nodup ∧ ∀ p ∈ L', (p : Int) ∉ S := by
  intro f
  induction f with
  | zero =>
    intro v S l L S' h
    unfold rowF at h
    split at h
    · rename_i h0
      injection h with _ h
      injection h with h1 h2
      subst h0 h1 h2
      exact ⟨[], rfl, by simp [upL], by simp [upL], fun p hp => (nomatch hp), List.nodup_nil, fun p hp => (nomatch hp)⟩
    · injection h with h _
      cases h
  | succ f ih =>
    intro v S l L S' h
    unfold rowF at h
    split at h
    · rename_i h0
      injection h with _ h
      injection h with h1 h2
      subst h0 h1 h2
      exact ⟨[], rfl, by simp [upL], by simp [upL], fun p hp => (nomatch hp), List.nodup_nil, fun p hp => (nomatch hp)⟩
    · split at h
      · rename_i hc
        obtain ⟨hl, hS⟩ := hc
        obtain ⟨p, rfl⟩ := Int.eq_ofNat_of_zero_le (show 0 ≤ v by unfold leadsP at hl; omega)
        unfold leadsP at hl
        rw [show (linkI (p : Int)).toNat = 2 + 2 * p by unfold linkI; omega] at h
        obtain ⟨L', h1, h2, h3, h4, h5, h6⟩ := ih h
        refine ⟨p :: L', ⟨rfl, h1⟩, by rw [h2]; simp [upL], by rw [h3]; simp [upL], ?_, List.nodup_cons.2 ⟨fun hm => h6 p hm List.mem_cons_self, h5⟩, ?_⟩
        · intro q hq
          rcases List.mem_cons.1 hq with rfl | hq
          · omega
          · exact h4 q hq
        · intro q hq
          rcases List.mem_cons.1 hq with rfl | hq
          · exact hS
          · exact fun hm => h6 q hq (List.mem_cons_of_mem _ hm)
      · injection h with h _
        cases h
theorem rises_pair : ∀ v : List Int, risesB v = true ↔ v.Pairwise (· < ·)
  | [] => ⟨fun _ => List.Pairwise.nil, fun _ => rfl⟩
  | [a] => ⟨fun _ => List.pairwise_singleton _ _, fun _ => rfl⟩
  | a :: b :: l => by
    have ih := rises_pair (b :: l)
    unfold risesB
    rw [Bool.and_eq_true, decide_eq_true_eq, ih]
    constructor
    · rintro ⟨h1, h2⟩
      refine List.pairwise_cons.2 ⟨fun x hx => ?_, h2⟩
      rcases List.mem_cons.1 hx with rfl | hx
      · exact h1
      · have := (List.pairwise_cons.1 h2).1 x hx
        omega
    · intro h
      have h' := List.pairwise_cons.1 h
      exact ⟨h'.1 b List.mem_cons_self, h'.2⟩

theorem up_mem {L : List Nat} {p : Nat} (h : (p : Int) ∈ upL L) : p ∈ L := by
  unfold upL at h
  obtain ⟨q, hq, e⟩ := List.mem_map.1 h
  have e : (q : Int) = p := e
  rwa [show p = q by omega]
theorem shape_of {n u : Nat} {A Fr : List Nat} {cs : List Int} (h : COk n u A Fr cs) : shapeS (n : Int) cs = (4, keysN cs A, 0) := by
  have hm := h.most; have hl := h.len; have hf := h.fit; have hsz := h.size
  have hnd := List.nodup_append.1 h.nodup
  rw [List.length_append] at hsz
  have hu : usedC cs = (u : Int) := h.used
  have h1 : shapeOk (n : Int) cs = true := decide_eq_true ⟨⟨by omega, by omega⟩, by unfold sizeI; rw [if_pos (by omega)]; omega⟩
  have h2 : usedOk (n : Int) cs = true := decide_eq_true (by rw [hu]; omega)
  have h3 : rowA cs = (true, upL A, (upL A).reverse) := by
    unfold rowA
    rw [hu, row_path (u := (u : Int)) h.head (fun p hp => by have := h.nodes p (by simp [hp]); omega) hnd.1 (fun p hp => by simp) (by omega)]
    simp
  have h4 : rowB cs = (true, upL Fr, (upL Fr).reverse ++ (upL A).reverse) := by
    unfold rowB
    rw [hu, h3, row_path (u := (u : Int)) h.free (fun p hp => by have := h.nodes p (by simp [hp]); omega) hnd.2.1 (fun p hp hq => ?_) (by simp [upL]; omega)]
    · simp
    · exact hnd.2.2 p (up_mem (List.mem_reverse.1 hq)) p hp rfl
  have h5 : rowsOk cs = true := by
    unfold rowsOk
    rw [h3, h4, hu]
    simp [upL]
    omega
  have h6 : risesB (keysC cs (rowA cs).2.1) = true := by
    rw [h3]
    show risesB (keysC cs (upL A)) = true
    rw [keysC_up, rises_pair]
    exact h.rise
  unfold shapeS
  rw [if_pos h1, if_pos ⟨h2, h5, h6⟩, h3]
  show (4, keysC cs (upL A), 0) = _
  rw [keysC_up]
theorem cok_of {most : Int} {cs : List Int} (h : (shapeS most cs).2.2 = 0) (h64 : ∀ x ∈ cs, In64 x) : ∃ n u A Fr, most = ((n : Nat) : Int) ∧ COk n u A Fr cs := by
  unfold shapeS at h
  split at h
  · rename_i h1
    split at h
    · rename_i h2
      obtain ⟨h2, h3, h4⟩ := h2
      obtain ⟨⟨m0, m1⟩, hl⟩ := of_decide_eq_true h1
      obtain ⟨u0, u1⟩ := of_decide_eq_true h2
      unfold sizeI at hl
      rw [if_pos ⟨m0, m1⟩] at hl
      unfold rowsOk at h3
      rw [Bool.and_eq_true, Bool.and_eq_true, decide_eq_true_eq] at h3
      obtain ⟨⟨ha, hb⟩, hc⟩ := h3
      obtain ⟨A, a1, a2, a3, a4, a5, -⟩ := row_inv (cs := cs) (u := usedC cs) (f := 17) (v := cs.getD 0 0) (S := []) (l := []) (L := (rowA cs).2.1) (S' := (rowA cs).2.2) (by rw [← ha]; rfl)
      obtain ⟨Fr, b1, b2, b3, b4, b5, b6⟩ := row_inv (cs := cs) (u := usedC cs) (f := 17 - (rowA cs).2.2.length) (v := cs.getD 1 0) (S := (rowA cs).2.2) (l := []) (L := (rowB cs).2.1) (S' := (rowB cs).2.2) (by rw [← hb]; rfl)
      rw [b3, a3] at hc
      rw [a3] at b6
      rw [a2, List.nil_append, keysC_up, rises_pair] at h4
      obtain ⟨n, rfl⟩ := Int.eq_ofNat_of_zero_le m0
      obtain ⟨u, hu⟩ := Int.eq_ofNat_of_zero_le u0
      rw [hu] at a4 b4 hc u1
      refine ⟨n, u, A, Fr, rfl, ⟨by omega, by omega, hu, by omega, a1, b1, fun p hp => ?_, ?_, ?_, h4, h64⟩⟩
      · rcases List.mem_append.1 hp with hp | hp
        · have := a4 p hp; omega
        · have := b4 p hp; omega
      · refine List.nodup_append.2 ⟨a5, b5, fun a ha b hb e => b6 b hb ?_⟩
        subst e
        rw [List.append_nil]
        exact List.mem_reverse.2 (List.mem_map.2 ⟨a, ha, rfl⟩)
      · simp [upL] at hc ⊢
        omega
    · cases h
  · cases h

end Go.Proofs.Ytihlbhlagpmbjaa
