/- The chain's machine goes as the chapter says: plain reckoning, no program in sight. -/
import Derived.Test.YtihlbhlagpmbjaaWants
namespace Go.Proofs.Ytihlbhlagpmbjaa
open Go.RowKit

def In64 (v : Int) : Prop := -9223372036854775808 ≤ v ∧ v ≤ 9223372036854775807
theorem wrap_in {v : Int} (h : In64 v) : wrap64 v = v := by
  unfold In64 at h
  unfold wrap64
  omega

def simBound : Nat := 40
def readOf (last : WantS) (read : List Int) (v : Int) : List Int := if last.kind = 2 then read ++ [v] else read
def writesOf (last : WantS) (writes : Int) : Int := if last.kind = 3 then writes + 1 else writes

/-- On the way to a key: what was read, the cell of the link that is read next, how many nodes were come to. -/
inductive GoAt (key most : Int) : List Int → Int → Int → Prop
  | start : GoAt key most [] 0 0
  | next {l : List Int} {c n p v : Int} : GoAt key most l c n → leadsP most p → n < most → ¬ key ≤ v → GoAt key most (l ++ [p, v]) (linkI p) (n + 1)
/-- On the way along the chain. -/
inductive LenAt (most : Int) : List Int → Int → Int → Prop
  | start : LenAt most [] 0 0
  | next {l : List Int} {c n p : Int} : LenAt most l c n → leadsP most p → n < most → LenAt most (l ++ [p]) (linkI p) (n + 1)
/-- A way is over. -/
inductive Over (key most : Int) : List Int → WayD → Prop
  | out {l : List Int} {c n p : Int} : GoAt key most l c n → (¬ leadsP most p ∨ n = most) → Over key most (l ++ [p]) ⟨c, p, false, 0, false⟩
  | hit {l : List Int} {c n p v : Int} : GoAt key most l c n → leadsP most p → n < most → key ≤ v → Over key most (l ++ [p, v]) ⟨c, p, true, v, v == key⟩

theorem GoAt.len {key most : Int} (hm : 0 ≤ most) {l : List Int} {c n : Int} (h : GoAt key most l c n) : 0 ≤ n ∧ n ≤ most ∧ (l.length : Int) = 2 * n := by
  induction h with
  | start => simp; omega
  | next _ _ hn _ ih => simp only [List.length_append, List.length_cons, List.length_nil]; omega
theorem LenAt.len {most : Int} (hm : 0 ≤ most) {l : List Int} {c n : Int} (h : LenAt most l c n) : 0 ≤ n ∧ n ≤ most ∧ (l.length : Int) = n := by
  induction h with
  | start => simp; omega
  | next _ _ hn ih => simp only [List.length_append, List.length_cons, List.length_nil]; omega
theorem GoAt.go {key most : Int} (_hm : 0 ≤ most) {l : List Int} {c n : Int} (h : GoAt key most l c n) (p : Int) (rest : List Int) : goS key most (l ++ p :: rest) = goLoop key most (most - n).toNat c p (l.length + 1) rest := by
  induction h generalizing p rest with
  | start => simp [goS]
  | @next l c n q v hg hl hn hk ih =>
    have e : (l ++ [q, v]) ++ p :: rest = l ++ q :: (v :: p :: rest) := by simp
    obtain ⟨f, hf⟩ : ∃ f, (most - n).toNat = f + 1 := ⟨(most - n).toNat - 1, by omega⟩
    rw [e, ih, hf, goLoop_on hl hk]
    congr 1
    · omega
    · simp
/-- Behind so many reads the way isn't over: what is read next. -/
theorem GoAt.cell {key most : Int} (hm : 0 ≤ most) {l : List Int} {c n : Int} (h : GoAt key most l c n) : (goS key most l).over = false ∧ (goS key most l).cell = c := by
  cases h with
  | start => exact ⟨rfl, rfl⟩
  | @next l c n q v hg hl hn hk =>
    obtain ⟨f, hf⟩ : ∃ f, (most - n).toNat = f + 1 := ⟨(most - n).toNat - 1, by omega⟩
    have := hg.go hm q [v]
    rw [hf, goLoop_end hl hk] at this
    rw [this]
    exact ⟨rfl, rfl⟩
theorem GoAt.cell1 {key most : Int} (hm : 0 ≤ most) {l : List Int} {c n p : Int} (h : GoAt key most l c n) (hl : leadsP most p) (hn : n < most) : (goS key most (l ++ [p])).over = false ∧ (goS key most (l ++ [p])).cell = keyI p := by
  obtain ⟨f, hf⟩ : ∃ f, (most - n).toNat = f + 1 := ⟨(most - n).toNat - 1, by omega⟩
  have := h.go hm p []
  rw [hf, goLoop_nil hl] at this
  rw [this]
  exact ⟨rfl, rfl⟩
/-- The reference's way of one that is over. -/
def wayR (d : WayD) (n : Nat) : WayR := ⟨d.cell, d.p, if d.stopped = true then d.p else 0, d.at_, d.key, n, true, 0⟩
theorem Over.go {key most : Int} (hm : 0 ≤ most) {R : List Int} {d : WayD} (h : Over key most R d) (left : List Int) : goS key most (R ++ left) = wayR d R.length := by
  cases h with
  | @out l c n p hg hp =>
    have := hg.go hm p left
    rw [List.append_assoc, List.singleton_append, this]
    rcases hp with hp | rfl
    · rw [goLoop_out hp]; simp [wayR]
    · rw [Int.sub_self]; simp [goLoop, wayR]
  | @hit l c n p v hg hl hn hk =>
    obtain ⟨f, hf⟩ : ∃ f, (most - n).toNat = f + 1 := ⟨(most - n).toNat - 1, by omega⟩
    have := hg.go hm p (v :: left)
    rw [hf, goLoop_hit hl hk] at this
    rw [List.append_assoc]
    show goS key most (l ++ p :: v :: left) = _
    rw [this]
    simp [wayR]
theorem Over.len {key most : Int} (hm : 0 ≤ most) {R : List Int} {d : WayD} (h : Over key most R d) : (R.length : Int) ≤ 2 * most + 1 := by
  cases h with
  | out hg hp => have := hg.len hm; simp only [List.length_append, List.length_cons, List.length_nil]; omega
  | hit hg hl hn hk => have := hg.len hm; simp only [List.length_append, List.length_cons, List.length_nil]; omega
theorem Over.at_ {key most : Int} {R : List Int} {d : WayD} (h : Over key most R d) (ha : d.at_ = true) : d.stopped = true ∧ leadsP most d.p := by
  cases h with
  | out hg hp => cases ha
  | hit hg hl hn hk => exact ⟨rfl, hl⟩
theorem Over.stop {key most : Int} {R : List Int} {d : WayD} (h : Over key most R d) (ha : d.stopped = true) : leadsP most d.p := by
  cases h with
  | out hg hp => cases ha
  | hit hg hl hn hk => exact hl

def Long (call : Int) : Prop := call = 1 ∨ call = 4 ∨ call = 6 ∨ call = 8
def NodeOf (most f q node : Int) : Prop := leadsP most f ∧ node = f ∨ ¬ leadsP most f ∧ 0 ≤ q ∧ q < most ∧ node = q + 1

/-- A state of the machine on its way, beside what was read, how many writes were told, and the last want. -/
inductive Way (base most call x0 : Int) : K → List Int → Int → WantS → Prop
  | least0 : call = 7 → Way base most call x0 .least [] 0 w0
  | least1 : call = 7 → Way base most call x0 .keyOf [] 0 (readS (base + 0))
  | least2 (p : Int) : call = 7 → leadsP most p → Way base most call x0 .keyOf1 [p] 0 (readS (base + keyI p))
  | len0 : call = 5 → Way base most call x0 .len [] 0 w0
  | len1 (l : List Int) (c n : Int) : call = 5 → LenAt most l c n → Way base most call x0 (.counts n) l 0 (readS (base + c))
  | start : Long call → Way base most call x0 (.start call x0) [] 0 w0
  | goes (l : List Int) (c n : Int) : Long call → GoAt x0 most l c n → Way base most call x0 (.goes call x0 c n) l 0 (readS (base + c))
  | goes1 (l : List Int) (c n p : Int) : Long call → GoAt x0 most l c n → leadsP most p → n < most → Way base most call x0 (.goes1 call x0 c n p) (l ++ [p]) 0 (readS (base + keyI p))
  | addF (R : List Int) (d : WayD) : call = 1 → Over x0 most R d → d.at_ = false → Way base most call x0 (.addF x0 d) R 0 (readS (base + 1))
  | addQ (R : List Int) (d : WayD) (f : Int) : call = 1 → Over x0 most R d → d.at_ = false → leadsP most f → Way base most call x0 (.addQ x0 d f) (R ++ [f]) 0 (readS (base + linkI f))
  | addU (R : List Int) (d : WayD) (f : Int) : call = 1 → Over x0 most R d → d.at_ = false → ¬ leadsP most f → Way base most call x0 (.addU x0 d) (R ++ [f]) 0 (readS (base + 2))
  | lays1 (R : List Int) (d : WayD) (f q : Int) : call = 1 → Over x0 most R d → d.at_ = false → leadsP most f → Way base most call x0 (.put (.lays1 x0 d f)) (R ++ [f, q]) 0 (putS (base + 1) q)
  | lays2 (R : List Int) (d : WayD) (f u : Int) : call = 1 → Over x0 most R d → d.at_ = false → ¬ leadsP most f → 0 ≤ u → u < most → Way base most call x0 (.put (.lays2 x0 d u)) (R ++ [f, u]) 0 (putS (base + 2) (u + 1))
  | key (R : List Int) (d : WayD) (f q node : Int) : call = 1 → Over x0 most R d → d.at_ = false → NodeOf most f q node → Way base most call x0 (.put (.key x0 d node)) (R ++ [f, q]) 1 (putS (base + keyI node) x0)
  | link (R : List Int) (d : WayD) (f q node : Int) : call = 1 → Over x0 most R d → d.at_ = false → NodeOf most f q node → Way base most call x0 (.put (.link x0 d node)) (R ++ [f, q]) 2 (putS (base + linkI node) d.p)
  | fin (R : List Int) (d : WayD) (f q node : Int) : call = 1 → Over x0 most R d → d.at_ = false → NodeOf most f q node → Way base most call x0 (.put .fin) (R ++ [f, q]) 3 (putS (base + d.cell) node)
  | delQ (R : List Int) (d : WayD) : call = 4 → Over x0 most R d → d.at_ = true → Way base most call x0 (.delQ d) R 0 (readS (base + linkI d.p))
  | delW (R : List Int) (d : WayD) (q : Int) : call = 4 → Over x0 most R d → d.at_ = true → Way base most call x0 (.put (.delW d)) (R ++ [q]) 0 (putS (base + d.cell) q)
  | delF (R : List Int) (d : WayD) (q : Int) : call = 4 → Over x0 most R d → d.at_ = true → Way base most call x0 (.delF d) (R ++ [q]) 1 (readS (base + 1))
  | delL (R : List Int) (d : WayD) (q f : Int) : call = 4 → Over x0 most R d → d.at_ = true → Way base most call x0 (.put (.delL d)) (R ++ [q, f]) 1 (putS (base + linkI d.p) f)
  | delFin (R : List Int) (d : WayD) (q f : Int) : call = 4 → Over x0 most R d → d.at_ = true → Way base most call x0 (.put .delFin) (R ++ [q, f]) 2 (putS (base + 1) d.p)
  | ab1 (R : List Int) (d : WayD) : call = 8 → Over x0 most R d → d.at_ = true → Way base most call x0 .keyOf R 0 (readS (base + linkI d.p))
  | ab2 (R : List Int) (d : WayD) (q : Int) : call = 8 → Over x0 most R d → d.at_ = true → leadsP most q → Way base most call x0 .keyOf1 (R ++ [q]) 0 (readS (base + keyI q))
  | z (read : List Int) (writes : Int) (x : WantS) : x.kind = 6 → read.length ≤ simBound → 0 ≤ writes → writes ≤ simBound → (x.cell = 0 ∧ (x.code = 0 ∨ x.value = 0)) → Way base most call x0 (.done x) read writes x

def Sim (base most call : Int) (xs : List Int) (st : MS) (read : List Int) (writes : Int) (last : WantS) : Prop :=
  Askable base most call xs ∧ st.base = base ∧ st.most = most ∧ (∀ x ∈ read, In64 x) ∧ Way base most call (xs.getD 0 0) st.k read writes last

theorem sim_askable {base most call : Int} {xs : List Int} {st : MS} {read : List Int} {writes : Int} {last : WantS} (h : Sim base most call xs st read writes last) : Askable base most call xs := h.1

theorem sim_init {base most call : Int} {xs : List Int} (h : takesB base most (arityI call) xs.length = true) : Sim base most call xs (initM base most call xs) [] 0 w0 := by
  have ha := askable_of h
  refine ⟨ha, rfl, rfl, (fun x hx => nomatch hx), ?_⟩
  rcases ha.2 with ⟨h1, -⟩ | ⟨rfl | rfl, -⟩
  · have e : (initM base most call xs).k = .start call (xs.getD 0 0) := by unfold initM; rw [if_neg (by omega), if_neg (by omega)]
    rw [e]
    exact .start h1
  · exact .least0 rfl
  · exact .len0 rfl

theorem way_len {base most call x0 : Int} (hm : 0 ≤ most ∧ most ≤ 16) {k : K} {read : List Int} {writes : Int} {last : WantS} (h : Way base most call x0 k read writes last) :
    read.length ≤ simBound ∧ 0 ≤ writes ∧ writes ≤ simBound := by
  obtain ⟨hm0, hm1⟩ := hm
  unfold simBound
  cases h with
  | least0 => simp
  | least1 => simp
  | least2 => simp
  | len0 => simp
  | len1 l c n hc hl => have := hl.len hm0; omega
  | start => simp
  | goes l c n hc hl => have := hl.len hm0; omega
  | goes1 l c n p hc hl => have := hl.len hm0; simp only [List.length_append, List.length_cons, List.length_nil]; omega
  | addF R d hc ho => have := ho.len hm0; omega
  | delQ R d hc ho => have := ho.len hm0; omega
  | ab1 R d hc ho => have := ho.len hm0; omega
  | z _ _ x h1 h2 h3 h4 => unfold simBound at h2 h4; omega
  | addQ R d _ _ ho => have := ho.len hm0; simp only [List.length_append, List.length_cons, List.length_nil]; omega
  | addU R d _ _ ho => have := ho.len hm0; simp only [List.length_append, List.length_cons, List.length_nil]; omega
  | lays1 R d _ _ _ ho => have := ho.len hm0; simp only [List.length_append, List.length_cons, List.length_nil]; omega
  | lays2 R d _ _ _ ho => have := ho.len hm0; simp only [List.length_append, List.length_cons, List.length_nil]; omega
  | key R d _ _ _ _ ho => have := ho.len hm0; simp only [List.length_append, List.length_cons, List.length_nil]; omega
  | link R d _ _ _ _ ho => have := ho.len hm0; simp only [List.length_append, List.length_cons, List.length_nil]; omega
  | fin R d _ _ _ _ ho => have := ho.len hm0; simp only [List.length_append, List.length_cons, List.length_nil]; omega
  | delW R d _ _ ho => have := ho.len hm0; simp only [List.length_append, List.length_cons, List.length_nil]; omega
  | delF R d _ _ ho => have := ho.len hm0; simp only [List.length_append, List.length_cons, List.length_nil]; omega
  | delL R d _ _ _ ho => have := ho.len hm0; simp only [List.length_append, List.length_cons, List.length_nil]; omega
  | delFin R d _ _ _ ho => have := ho.len hm0; simp only [List.length_append, List.length_cons, List.length_nil]; omega
  | ab2 R d _ _ ho => have := ho.len hm0; simp only [List.length_append, List.length_cons, List.length_nil]; omega
theorem way_kind {base most call x0 : Int} {k : K} {read : List Int} {writes : Int} {last : WantS} (h : Way base most call x0 k read writes last) :
    last.kind = 6 ∨ last.kind = 2 ∨ last.kind = 3 ∨ last.kind = 0 ∧ last = w0 ∧ read = [] ∧ writes = 0 := by
  cases h <;> first | exact .inr (.inl rfl) | exact .inr (.inr (.inl rfl)) | exact .inr (.inr (.inr ⟨rfl, rfl, rfl, rfl⟩)) | (left; assumption)

theorem sim_kind {base most call : Int} {xs : List Int} {st : MS} {read : List Int} {writes : Int} {last : WantS} (h : Sim base most call xs st read writes last) :
    (∀ x ∈ read, In64 x) ∧ read.length ≤ simBound ∧ 0 ≤ writes ∧ writes ≤ simBound ∧ (last.kind = 6 ∨ last.kind = 2 ∨ last.kind = 3 ∨ last.kind = 0 ∧ last = w0 ∧ read = [] ∧ writes = 0) := by
  obtain ⟨ha, -, -, hr, hw⟩ := h
  obtain ⟨h1, h2, h3⟩ := way_len ⟨ha.1.2.2.1, ha.1.2.2.2⟩ hw
  exact ⟨hr, h1, h2, h3, way_kind hw⟩

theorem wants_ref {base most call : Int} {xs read : List Int} {writes : Int} {last : WantS} (h : last.kind ≠ 6) : wantsS base most call xs read writes last = refS base most call xs read writes := if_neg h

theorem ref_long {base most call : Int} {xs read : List Int} {writes : Int} (hc : Long call) (h : (goS (xs.getD 0 0) most read).over = false) : refS base most call xs read writes = readS (base + (goS (xs.getD 0 0) most read).cell) := by
  unfold Long at hc
  unfold refS
  rw [if_neg (by omega), if_neg (by omega), if_pos h]
theorem ref_over {base most call : Int} {xs : List Int} (hm : 0 ≤ most) {R : List Int} {d : WayD} (hc : Long call) (h : Over (xs.getD 0 0) most R d) (left : List Int) (writes : Int) :
    refS base most call xs (R ++ left) writes = (if call = 1 then addsS base most (xs.getD 0 0) (wayR d R.length) left writes else if call = 4 then delsS base (wayR d R.length) left writes
      else if call = 8 then nextS base most (wayR d R.length) left else if d.at_ = true then endS 1 0 else endS 0 0) := by
  unfold Long at hc
  unfold refS
  rw [if_neg (by omega), if_neg (by omega), h.go hm, if_neg (by simp [wayR])]
  simp only [show (wayR d R.length).reads = R.length from rfl, List.drop_left]
  rfl

/-- What comes at the end of a way. -/
theorem then_sim {base most call : Int} {xs R : List Int} {d : WayD} (hm : 0 ≤ most ∧ most ≤ 16) (hc : Long call) (h : Over (xs.getD 0 0) most R d) :
    refS base most call xs R 0 = (thenK base call (xs.getD 0 0) d).1 ∧ Way base most call (xs.getD 0 0) (thenK base call (xs.getD 0 0) d).2 R 0 (thenK base call (xs.getD 0 0) d).1 ∧
    ((thenK base call (xs.getD 0 0) d).1.kind = 6 ∨ (thenK base call (xs.getD 0 0) d).1.kind = 2 ∨ (thenK base call (xs.getD 0 0) d).1.kind = 3) := by
  have hR := ref_over (base := base) hm.1 hc h [] 0
  rw [List.append_nil] at hR
  rw [hR]
  have hlen := h.len hm.1
  have hl2 : R.length ≤ simBound := by unfold simBound; omega
  have hz : ∀ v c : Int, (c = 0 ∨ v = 0) → Way base most call (xs.getD 0 0) (endK v c).2 R 0 (endK v c).1 := fun v c h => .z _ _ _ rfl hl2 (Int.le_refl _) (by decide) ⟨rfl, h⟩
  have hat := h.at_
  have hst := h.stop
  generalize hd : d = d' at *
  obtain ⟨cell, p, st, ky, a⟩ := d'
  rcases hc with rfl | rfl | rfl | rfl
  · cases a
    · exact ⟨rfl, .addF _ _ rfl h rfl, .inr (.inl rfl)⟩
    · exact ⟨rfl, hz 0 3 (.inr rfl), .inl rfl⟩
  · cases a
    · exact ⟨rfl, hz 0 1 (.inr rfl), .inl rfl⟩
    · have hs : st = true := (hat rfl).1
      subst hs
      exact ⟨rfl, .delQ _ _ rfl h rfl, .inr (.inl rfl)⟩
  · cases a
    · exact ⟨rfl, hz 0 0 (.inl rfl), .inl rfl⟩
    · exact ⟨rfl, hz 1 0 (.inl rfl), .inl rfl⟩
  · cases a
    · cases st
      · exact ⟨rfl, hz 0 1 (.inr rfl), .inl rfl⟩
      · have hp : p ≠ 0 := by have := hst rfl; unfold leadsP at this; dsimp only at this; omega
        refine ⟨?_, hz ky 0 (.inl rfl), .inl rfl⟩
        show nextS base most _ [] = _
        unfold nextS wayR
        simp [hp]
        rfl
    · have hs : st = true := (hat rfl).1
      subst hs
      have hp : p ≠ 0 := by have := hst rfl; unfold leadsP at this; dsimp only at this; omega
      refine ⟨?_, .ab1 _ _ rfl h rfl, .inr (.inl rfl)⟩
      show nextS base most _ [] = _
      unfold nextS wayR
      simp [hp]
      rfl

theorem LenAt.go {base most : Int} {l : List Int} {c n : Int} (hm : 0 ≤ most) (h : LenAt most l c n) (rest : List Int) : lenLoop base most (l ++ rest) 0 0 = lenLoop base most rest n c := by
  induction h generalizing rest with
  | start => rfl
  | @next l c n p hl hp hn ih =>
    rw [List.append_assoc, ih]
    exact if_pos ⟨hp, by have := hl.len hm; omega⟩

theorem adds_node {base most key f q node : Int} {d : WayD} {n : Nat} (ha : d.at_ = false) (h : NodeOf most f q node) : ∃ first, ∀ writes, addsS base most key (wayR d n) [f, q] writes = addsW base key (wayR d n) node first writes := by
  rcases h with ⟨h1, rfl⟩ | ⟨h1, h2, h3, rfl⟩
  · exact ⟨_, fun writes => by rw [addsS, if_neg (by simp [wayR, ha]), addsL_two, if_pos h1]⟩
  · exact ⟨_, fun writes => by rw [addsS, if_neg (by simp [wayR, ha]), addsL_two, if_neg h1, if_neg (show ¬ (q < 0 ∨ most ≤ q) by omega)]⟩

/-- A step from one state on the way to the next, as data. -/
theorem step_of {base most call : Int} {xs : List Int} {st : MS} {k' : K} {read read' : List Int} {writes writes' : Int} {last x : WantS} {v : Int} (ha : Askable base most call xs) (hb : st.base = base) (hm : st.most = most)
    (hin : ∀ x ∈ read, In64 x) (hv : In64 v) (hr : readOf last read v = read') (hw : writesOf last writes = writes') (hg : goK base most st.k v = (x, k')) (hx : wantsS base most call xs read' writes' last = x)
    (hn : Way base most call (xs.getD 0 0) k' read' writes' x) (hk : x.kind = 6 ∨ x.kind = 2 ∨ x.kind = 3) :
    outM st v = wantsS base most call xs (readOf last read v) (writesOf last writes) last ∧
    Sim base most call xs (stepM st v) (readOf last read v) (writesOf last writes) (wantsS base most call xs (readOf last read v) (writesOf last writes) last) ∧
    ((wantsS base most call xs (readOf last read v) (writesOf last writes) last).kind = 6 ∨ (wantsS base most call xs (readOf last read v) (writesOf last writes) last).kind = 2 ∨ (wantsS base most call xs (readOf last read v) (writesOf last writes) last).kind = 3) := by
  have hin' : ∀ x ∈ read', In64 x := by
    rw [← hr]
    unfold readOf
    split
    · intro x hx
      rcases List.mem_append.1 hx with h | h
      · exact hin x h
      · rw [List.mem_singleton.1 h]; exact hv
    · exact hin
  subst hr hw hb hm
  rw [hx]
  refine ⟨by rw [outM, hg], ⟨ha, rfl, rfl, hin', ?_⟩, hk⟩
  rw [stepM, hg]
  exact hn

set_option maxHeartbeats 1000000 in
theorem sim_step {base most call : Int} {xs : List Int} {st : MS} {read : List Int} {writes : Int} {last : WantS} {v : Int} (h : Sim base most call xs st read writes last) (hv : In64 v) :
    outM st v = wantsS base most call xs (readOf last read v) (writesOf last writes) last ∧
    Sim base most call xs (stepM st v) (readOf last read v) (writesOf last writes) (wantsS base most call xs (readOf last read v) (writesOf last writes) last) ∧
    ((wantsS base most call xs (readOf last read v) (writesOf last writes) last).kind = 6 ∨ (wantsS base most call xs (readOf last read v) (writesOf last writes) last).kind = 2 ∨ (wantsS base most call xs (readOf last read v) (writesOf last writes) last).kind = 3) := by
  obtain ⟨ha, hb, hm, hin, h⟩ := h
  have hm0 : 0 ≤ most := ha.1.2.2.1
  have hm1 : most ≤ 16 := ha.1.2.2.2
  have k2 : (2 : Int) ≠ 6 := by decide
  have k3 : (3 : Int) ≠ 6 := by decide
  have k0 : (0 : Int) ≠ 6 := by decide
  generalize hk : st.k = k at h
  cases h with
  | least0 hc =>
    refine step_of ha hb hm hin hv (read' := []) (writes' := 0) rfl rfl (by rw [hk]; rfl) ?_ (.least1 hc) (.inr (.inl rfl))
    rw [wants_ref k0]; subst hc; simp [refS, leastS]
  | least1 hc =>
    by_cases hl : leadsP most v
    · refine step_of ha hb hm hin hv (read' := [v]) (writes' := 0) rfl rfl (by rw [hk]; exact if_pos hl) ?_ (.least2 v hc hl) (.inr (.inl rfl))
      rw [wants_ref k2]; subst hc; simp [refS, leastS, hl]
    · refine step_of ha hb hm hin hv (read' := [v]) (writes' := 0) rfl rfl (by rw [hk]; exact if_neg hl) ?_ (.z _ _ _ rfl (by simp [simBound]) (Int.le_refl _) (by decide) ⟨rfl, by first | exact .inl rfl | exact .inr rfl⟩) (.inl rfl)
      rw [wants_ref k2]; subst hc; simp [refS, leastS, hl, endS]
  | least2 p hc hl =>
    refine step_of ha hb hm hin hv (read' := [p, v]) (writes' := 0) rfl rfl (by rw [hk]; rfl) ?_ (.z _ _ _ rfl (by simp [simBound]) (Int.le_refl _) (by decide) ⟨rfl, by first | exact .inl rfl | exact .inr rfl⟩) (.inl rfl)
    rw [wants_ref k2]; subst hc; simp [refS, leastS, hl, endS]
  | len0 hc =>
    refine step_of ha hb hm hin hv (read' := []) (writes' := 0) rfl rfl (by rw [hk]; rfl) ?_ (.len1 [] 0 0 hc .start) (.inr (.inl rfl))
    rw [wants_ref k0]; subst hc; simp [refS, lenLoop]
  | len1 l c n hc hl =>
    have hlen := hl.len hm0
    have hgo := hl.go (base := base) hm0 [v]
    by_cases hcond : leadsP most v ∧ n ≠ most
    · refine step_of ha hb hm hin hv (read' := read ++ [v]) (writes' := 0) rfl rfl (by rw [hk]; exact if_pos hcond) ?_ (.len1 _ _ _ hc (.next hl hcond.1 (by omega))) (.inr (.inl rfl))
      rw [wants_ref k2]; subst hc
      show lenLoop base most (read ++ [v]) 0 0 = _
      rw [hgo]
      exact if_pos hcond
    · refine step_of ha hb hm hin hv (read' := read ++ [v]) (writes' := 0) rfl rfl (by rw [hk]; exact if_neg hcond) ?_ (.z _ _ _ rfl (by simp [simBound]; omega) (Int.le_refl _) (by decide) ⟨rfl, by first | exact .inl rfl | exact .inr rfl⟩) (.inl rfl)
      rw [wants_ref k2]; subst hc
      show lenLoop base most (read ++ [v]) 0 0 = _
      rw [hgo]
      exact if_neg hcond
  | start hc =>
    refine step_of ha hb hm hin hv (read' := []) (writes' := 0) rfl rfl (by rw [hk]; rfl) ?_ (.goes [] 0 0 hc .start) (.inr (.inl rfl))
    rw [wants_ref k0, ref_long hc rfl]; rfl
  | goes l c n hc hl =>
    have hlen := hl.len hm0
    by_cases hcond : leadsP most v ∧ n ≠ most
    · obtain ⟨e1, e2⟩ := hl.cell1 hm0 hcond.1 (by omega)
      refine step_of ha hb hm hin hv (read' := read ++ [v]) (writes' := 0) rfl rfl (by rw [hk]; exact if_pos hcond) ?_ (.goes1 _ _ _ _ hc hl hcond.1 (by omega)) (.inr (.inl rfl))
      rw [wants_ref k2, ref_long hc e1, e2]
    · have ho : Over (xs.getD 0 0) most (read ++ [v]) ⟨c, v, false, 0, false⟩ := .out hl (by rcases Decidable.em (leadsP most v) with h | h; exact .inr (Decidable.byContradiction fun e => hcond ⟨h, e⟩); exact .inl h)
      obtain ⟨t1, t2, t3⟩ := then_sim (base := base) ⟨hm0, hm1⟩ hc ho
      exact step_of ha hb hm hin hv (read' := read ++ [v]) (writes' := 0) rfl rfl (by rw [hk]; exact if_neg hcond) (by rw [wants_ref k2]; exact t1) t2 t3
  | goes1 l c n p hc hl hp hn =>
    have e : (l ++ [p]) ++ [v] = l ++ [p, v] := by simp
    by_cases hkv : xs.getD 0 0 ≤ v
    · have ho : Over (xs.getD 0 0) most (l ++ [p, v]) ⟨c, p, true, v, v == xs.getD 0 0⟩ := .hit hl hp hn hkv
      obtain ⟨t1, t2, t3⟩ := then_sim (base := base) ⟨hm0, hm1⟩ hc ho
      exact step_of ha hb hm hin hv (read' := l ++ [p, v]) (writes' := 0) e rfl (by rw [hk]; exact if_pos hkv) (by rw [wants_ref k2]; exact t1) t2 t3
    · have hg : GoAt (xs.getD 0 0) most (l ++ [p, v]) (linkI p) (n + 1) := .next hl hp hn hkv
      obtain ⟨e1, e2⟩ := hg.cell hm0
      refine step_of ha hb hm hin hv (read' := l ++ [p, v]) (writes' := 0) e rfl (by rw [hk]; exact if_neg hkv) ?_ (.goes _ _ _ hc hg) (.inr (.inl rfl))
      rw [wants_ref k2, ref_long hc e1, e2]
  | addF R d hc ho hat =>
    have hR := fun left writes => ref_over (base := base) hm0 (.inl hc) ho left writes
    simp only [if_pos hc] at hR
    have hn : ¬ (wayR d read.length).at_ = true := by simp [wayR, hat]
    by_cases hl : leadsP most v
    · refine step_of ha hb hm hin hv (read' := read ++ [v]) (writes' := 0) rfl rfl (by rw [hk]; exact if_pos hl) ?_ (.addQ _ _ _ hc ho hat hl) (.inr (.inl rfl))
      rw [wants_ref k2, hR, addsS, if_neg hn]
      exact if_pos hl
    · refine step_of ha hb hm hin hv (read' := read ++ [v]) (writes' := 0) rfl rfl (by rw [hk]; exact if_neg hl) ?_ (.addU _ _ _ hc ho hat hl) (.inr (.inl rfl))
      rw [wants_ref k2, hR, addsS, if_neg hn]
      exact if_neg hl
  | addQ R d f hc ho hat hl =>
    have hR := fun left writes => ref_over (base := base) hm0 (.inl hc) ho left writes
    simp only [if_pos hc] at hR
    have hn : ¬ (wayR d R.length).at_ = true := by simp [wayR, hat]
    have e : (R ++ [f]) ++ [v] = R ++ [f, v] := by simp
    refine step_of ha hb hm hin hv (read' := R ++ [f, v]) (writes' := 0) e rfl (by rw [hk]; rfl) ?_ (.lays1 _ _ _ _ hc ho hat hl) (.inr (.inr rfl))
    rw [wants_ref k2, hR, addsS, if_neg hn, addsL_two, if_pos hl]
    rfl
  | addU R d f hc ho hat hl =>
    have hR := fun left writes => ref_over (base := base) hm0 (.inl hc) ho left writes
    simp only [if_pos hc] at hR
    have hn : ¬ (wayR d R.length).at_ = true := by simp [wayR, hat]
    have e : (R ++ [f]) ++ [v] = R ++ [f, v] := by simp
    have hlen := ho.len hm0
    by_cases hu : v < 0 ∨ most ≤ v
    · refine step_of ha hb hm hin hv (read' := R ++ [f, v]) (writes' := 0) e rfl (by rw [hk]; exact if_pos hu) ?_ (.z _ _ _ rfl (by simp [simBound]; omega) (Int.le_refl _) (by decide) ⟨rfl, by first | exact .inl rfl | exact .inr rfl⟩) (.inl rfl)
      rw [wants_ref k2, hR, addsS, if_neg hn, addsL_two, if_neg hl, if_pos hu]
      rfl
    · refine step_of ha hb hm hin hv (read' := R ++ [f, v]) (writes' := 0) e rfl (by rw [hk]; exact if_neg hu) ?_ (.lays2 _ _ _ _ hc ho hat hl (by omega) (by omega)) (.inr (.inr rfl))
      rw [wants_ref k2, hR, addsS, if_neg hn, addsL_two, if_neg hl, if_neg hu]
      rfl
  | lays1 R d f q hc ho hat hl =>
    have hR := fun left writes => ref_over (base := base) hm0 (.inl hc) ho left writes
    simp only [if_pos hc] at hR
    have hno : NodeOf most f q f := .inl ⟨hl, rfl⟩
    obtain ⟨first, hfirst⟩ := adds_node (base := base) (key := xs.getD 0 0) (n := R.length) hat hno
    refine step_of ha hb hm hin hv (read' := R ++ [f, q]) (writes' := 1) rfl rfl (by rw [hk]; rfl) ?_ (.key _ _ _ _ _ hc ho hat hno) (.inr (.inr rfl))
    rw [wants_ref k3, hR, hfirst]
    rfl
  | lays2 R d f u hc ho hat hl h0 h1 =>
    have hR := fun left writes => ref_over (base := base) hm0 (.inl hc) ho left writes
    simp only [if_pos hc] at hR
    have hno : NodeOf most f u (u + 1) := .inr ⟨hl, h0, h1, rfl⟩
    obtain ⟨first, hfirst⟩ := adds_node (base := base) (key := xs.getD 0 0) (n := R.length) hat hno
    refine step_of ha hb hm hin hv (read' := R ++ [f, u]) (writes' := 1) rfl rfl (by rw [hk]; rfl) ?_ (.key _ _ _ _ _ hc ho hat hno) (.inr (.inr rfl))
    rw [wants_ref k3, hR, hfirst]
    rfl
  | key R d f q node hc ho hat hno =>
    have hR := fun left writes => ref_over (base := base) hm0 (.inl hc) ho left writes
    simp only [if_pos hc] at hR
    obtain ⟨first, hfirst⟩ := adds_node (base := base) (key := xs.getD 0 0) (n := R.length) hat hno
    refine step_of ha hb hm hin hv (read' := R ++ [f, q]) (writes' := 2) rfl rfl (by rw [hk]; rfl) ?_ (.link _ _ _ _ _ hc ho hat hno) (.inr (.inr rfl))
    rw [wants_ref k3, hR, hfirst]
    rfl
  | link R d f q node hc ho hat hno =>
    have hR := fun left writes => ref_over (base := base) hm0 (.inl hc) ho left writes
    simp only [if_pos hc] at hR
    obtain ⟨first, hfirst⟩ := adds_node (base := base) (key := xs.getD 0 0) (n := R.length) hat hno
    refine step_of ha hb hm hin hv (read' := R ++ [f, q]) (writes' := 3) rfl rfl (by rw [hk]; rfl) ?_ (.fin _ _ _ _ _ hc ho hat hno) (.inr (.inr rfl))
    rw [wants_ref k3, hR, hfirst]
    rfl
  | fin R d f q node hc ho hat hno =>
    have hR := fun left writes => ref_over (base := base) hm0 (.inl hc) ho left writes
    simp only [if_pos hc] at hR
    obtain ⟨first, hfirst⟩ := adds_node (base := base) (key := xs.getD 0 0) (n := R.length) hat hno
    have hlen := ho.len hm0
    refine step_of ha hb hm hin hv (read' := R ++ [f, q]) (writes' := 4) rfl rfl (by rw [hk]; rfl) ?_ (.z _ _ _ rfl (by simp [simBound]; omega) (by decide) (by decide) ⟨rfl, by first | exact .inl rfl | exact .inr rfl⟩) (.inl rfl)
    rw [wants_ref k3, hR, hfirst]
    rfl
  | delQ R d hc ho hat =>
    have hR := fun left writes => ref_over (base := base) hm0 (.inr (.inl hc)) ho left writes
    simp only [if_neg (show ¬ call = 1 by omega), if_pos hc] at hR
    have hn : ¬ (wayR d read.length).at_ = false := by simp [wayR, hat]
    refine step_of ha hb hm hin hv (read' := read ++ [v]) (writes' := 0) rfl rfl (by rw [hk]; rfl) ?_ (.delW _ _ _ hc ho hat) (.inr (.inr rfl))
    rw [wants_ref k2, hR, delsS, if_neg hn]
    rfl
  | delW R d q hc ho hat =>
    have hR := fun left writes => ref_over (base := base) hm0 (.inr (.inl hc)) ho left writes
    simp only [if_neg (show ¬ call = 1 by omega), if_pos hc] at hR
    have hn : ¬ (wayR d R.length).at_ = false := by simp [wayR, hat]
    refine step_of ha hb hm hin hv (read' := R ++ [q]) (writes' := 1) rfl rfl (by rw [hk]; rfl) ?_ (.delF _ _ _ hc ho hat) (.inr (.inl rfl))
    rw [wants_ref k3, hR, delsS, if_neg hn]
    rfl
  | delF R d q hc ho hat =>
    have hR := fun left writes => ref_over (base := base) hm0 (.inr (.inl hc)) ho left writes
    simp only [if_neg (show ¬ call = 1 by omega), if_pos hc] at hR
    have hn : ¬ (wayR d R.length).at_ = false := by simp [wayR, hat]
    have hst := (ho.at_ hat).1
    have e : (R ++ [q]) ++ [v] = R ++ [q, v] := by simp
    refine step_of ha hb hm hin hv (read' := R ++ [q, v]) (writes' := 1) e rfl (by rw [hk]; rfl) ?_ (.delL _ _ _ _ hc ho hat) (.inr (.inr rfl))
    rw [wants_ref k2, hR, delsS, if_neg hn, delsL_two]
    simp [wayR, hst]
  | delL R d q f hc ho hat =>
    have hR := fun left writes => ref_over (base := base) hm0 (.inr (.inl hc)) ho left writes
    simp only [if_neg (show ¬ call = 1 by omega), if_pos hc] at hR
    have hn : ¬ (wayR d R.length).at_ = false := by simp [wayR, hat]
    have hst := (ho.at_ hat).1
    refine step_of ha hb hm hin hv (read' := R ++ [q, f]) (writes' := 2) rfl rfl (by rw [hk]; rfl) ?_ (.delFin _ _ _ _ hc ho hat) (.inr (.inr rfl))
    rw [wants_ref k3, hR, delsS, if_neg hn, delsL_two]
    simp [wayR, hst]
  | delFin R d q f hc ho hat =>
    have hR := fun left writes => ref_over (base := base) hm0 (.inr (.inl hc)) ho left writes
    simp only [if_neg (show ¬ call = 1 by omega), if_pos hc] at hR
    have hn : ¬ (wayR d R.length).at_ = false := by simp [wayR, hat]
    have hlen := ho.len hm0
    refine step_of ha hb hm hin hv (read' := R ++ [q, f]) (writes' := 3) rfl rfl (by rw [hk]; rfl) ?_ (.z _ _ _ rfl (by simp [simBound]; omega) (by decide) (by decide) ⟨rfl, by first | exact .inl rfl | exact .inr rfl⟩) (.inl rfl)
    rw [wants_ref k3, hR, delsS, if_neg hn]
    rfl
  | ab1 R d hc ho hat =>
    have hR := fun left writes => ref_over (base := base) hm0 (.inr (.inr (.inr hc))) ho left writes
    simp only [if_neg (show ¬ call = 1 by omega), if_neg (show ¬ call = 4 by omega), if_pos hc] at hR
    obtain ⟨hst, hpl⟩ := ho.at_ hat
    have hp : d.p ≠ 0 := by unfold leadsP at hpl; omega
    have hlen := ho.len hm0
    have hN : ∀ left, nextS base most (wayR d read.length) left = aboveS base most d.p left := fun left => by
      rw [nextS, if_neg (by simp [wayR, hst, hp]), if_neg (by simp [wayR, hat])]
      simp [wayR, hst]
    by_cases hl : leadsP most v
    · refine step_of ha hb hm hin hv (read' := read ++ [v]) (writes' := 0) rfl rfl (by rw [hk]; exact if_pos hl) ?_ (.ab2 _ _ _ hc ho hat hl) (.inr (.inl rfl))
      rw [wants_ref k2, hR, hN]
      exact if_pos hl
    · refine step_of ha hb hm hin hv (read' := read ++ [v]) (writes' := 0) rfl rfl (by rw [hk]; exact if_neg hl) ?_ (.z _ _ _ rfl (by simp [simBound]; omega) (Int.le_refl _) (by decide) ⟨rfl, by first | exact .inl rfl | exact .inr rfl⟩) (.inl rfl)
      rw [wants_ref k2, hR, hN]
      exact if_neg hl
  | ab2 R d q hc ho hat hl =>
    have hR := fun left writes => ref_over (base := base) hm0 (.inr (.inr (.inr hc))) ho left writes
    simp only [if_neg (show ¬ call = 1 by omega), if_neg (show ¬ call = 4 by omega), if_pos hc] at hR
    obtain ⟨hst, hpl⟩ := ho.at_ hat
    have hp : d.p ≠ 0 := by unfold leadsP at hpl; omega
    have hlen := ho.len hm0
    have hN : ∀ left, nextS base most (wayR d R.length) left = aboveS base most d.p left := fun left => by
      rw [nextS, if_neg (by simp [wayR, hst, hp]), if_neg (by simp [wayR, hat])]
      simp [wayR, hst]
    have e : (R ++ [q]) ++ [v] = R ++ [q, v] := by simp
    refine step_of ha hb hm hin hv (read' := R ++ [q, v]) (writes' := 0) e rfl (by rw [hk]; rfl) ?_ (.z _ _ _ rfl (by simp [simBound]; omega) (Int.le_refl _) (by decide) ⟨rfl, by first | exact .inl rfl | exact .inr rfl⟩) (.inl rfl)
    rw [wants_ref k2, hR, hN]
    exact if_pos hl
  | z _ _ _ h1 h2 h3 h4 h5 =>
    have er : readOf last read v = read := if_neg (by omega)
    have ew : writesOf last writes = writes := if_neg (by omega)
    exact step_of ha hb hm hin hv er ew (by rw [hk]; rfl) (if_pos h1) (.z _ _ _ h1 h2 h3 h4 h5) (.inl h1)

end Go.Proofs.Ytihlbhlagpmbjaa
