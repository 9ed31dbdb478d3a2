/- The chain's machine is through behind at most 2 x most and 7 wants, and wants no cell but its own: plain reckoning. -/
import Derived.Test.YtihlbhlagpmbjaaSim18
import Derived.Test.YtihlbhlagpmbjaaSizes
namespace Go.Proofs.Ytihlbhlagpmbjaa
open Go.RowKit

def stepsOf (read : List Int) (writes : Int) (last : WantS) : Int := read.length + writes + (if last.kind = 0 then 0 else 1)
def endBound (most : Int) : Int := 2 * most + 7

theorem link_in {most p : Int} (h : leadsP most p) : 0 ≤ linkI p ∧ linkI p < 2 * most + 3 := by unfold leadsP at h; unfold linkI; omega
theorem key_in {most p : Int} (h : leadsP most p) : 0 ≤ keyI p ∧ keyI p < 2 * most + 3 := by unfold leadsP at h; unfold keyI; omega
theorem GoAt.cellB {key most : Int} (hm : 0 ≤ most) {l : List Int} {c n : Int} (h : GoAt key most l c n) : 0 ≤ c ∧ c < 2 * most + 3 := by
  cases h with
  | start => omega
  | next _ hl _ _ => exact link_in hl
theorem LenAt.cellB {most : Int} (hm : 0 ≤ most) {l : List Int} {c n : Int} (h : LenAt most l c n) : 0 ≤ c ∧ c < 2 * most + 3 := by
  cases h with
  | start => omega
  | next _ hl _ => exact link_in hl
theorem Over.cellB {key most : Int} (hm : 0 ≤ most) {R : List Int} {d : WayD} (h : Over key most R d) : 0 ≤ d.cell ∧ d.cell < 2 * most + 3 := by
  cases h with
  | out hg _ => exact hg.cellB hm
  | hit hg _ _ _ => exact hg.cellB hm
theorem NodeOf.leads {most f q node : Int} (h : NodeOf most f q node) : leadsP most node := by
  rcases h with ⟨h, rfl⟩ | ⟨-, h1, h2, rfl⟩
  · exact h
  · unfold leadsP; omega

theorem sim_ends {base most call : Int} {xs : List Int} {st : MS} {read : List Int} {writes : Int} {last : WantS} (h : Sim base most call xs st read writes last) :
    (last.kind = 6 → last.cell = 0 ∧ (last.code = 0 ∨ last.value = 0)) ∧ (last.kind = 2 ∨ last.kind = 3 → base ≤ last.cell ∧ last.cell < base + sizeI most) ∧ (last.kind ≠ 6 → stepsOf read writes last ≤ endBound most) := by
  obtain ⟨⟨⟨hb0, hb1, hm0, hm1⟩, -⟩, -, -, -, h⟩ := h
  rw [sizeI_in hm0 hm1]
  generalize xs.getD 0 0 = i at *
  generalize st.k = k at h
  have rd : ∀ (c : Int), 0 ≤ c ∧ c < 2 * most + 3 → ((readS (base + c)).kind = 2 ∨ (readS (base + c)).kind = 3 → base ≤ (readS (base + c)).cell ∧ (readS (base + c)).cell < base + (2 * most + 3)) := fun c hc _ => by simp only [readS]; omega
  have wr : ∀ (c v : Int), 0 ≤ c ∧ c < 2 * most + 3 → ((putS (base + c) v).kind = 2 ∨ (putS (base + c) v).kind = 3 → base ≤ (putS (base + c) v).cell ∧ (putS (base + c) v).cell < base + (2 * most + 3)) := fun c v hc _ => by simp only [putS]; omega
  have nr : ∀ (c : Int) {P : Prop}, (readS c).kind = 6 → P := fun c P h => absurd (show (2 : Int) = 6 from h) (by decide)
  have nw : ∀ (c v : Int) {P : Prop}, (putS c v).kind = 6 → P := fun c v P h => absurd (show (3 : Int) = 6 from h) (by decide)
  have b0 : 0 ≤ (0 : Int) ∧ (0 : Int) < 2 * most + 3 := by omega
  have b1 : 0 ≤ (1 : Int) ∧ (1 : Int) < 2 * most + 3 := by omega
  have b2 : 0 ≤ (2 : Int) ∧ (2 : Int) < 2 * most + 3 := by omega
  cases h with
  | z _ _ _ h1 h2 h3 h4 h5 => exact ⟨fun _ => h5, fun h => by omega, fun h => absurd h1 h⟩
  | least0 => exact ⟨fun h => absurd (show (0 : Int) = 6 from h) (by decide), (fun h => by rcases h with h | h <;> simp [w0] at h), fun _ => by simp [stepsOf, endBound, w0]; omega⟩
  | len0 => exact ⟨fun h => absurd (show (0 : Int) = 6 from h) (by decide), (fun h => by rcases h with h | h <;> simp [w0] at h), fun _ => by simp [stepsOf, endBound, w0]; omega⟩
  | start => exact ⟨fun h => absurd (show (0 : Int) = 6 from h) (by decide), (fun h => by rcases h with h | h <;> simp [w0] at h), fun _ => by simp [stepsOf, endBound, w0]; omega⟩
  | least1 => exact ⟨nr _, rd 0 b0, fun _ => by simp [stepsOf, endBound, readS]; omega⟩
  | least2 p hc hl => exact ⟨nr _, rd _ (key_in hl), fun _ => by simp [stepsOf, endBound, readS]; omega⟩
  | len1 l c n hc hl => have := hl.len hm0; exact ⟨nr _, rd _ (hl.cellB hm0), fun _ => by simp [stepsOf, endBound, readS]; omega⟩
  | goes l c n hc hl => have := hl.len hm0; exact ⟨nr _, rd _ (hl.cellB hm0), fun _ => by simp [stepsOf, endBound, readS]; omega⟩
  | goes1 l c n p hc hl hp => have := hl.len hm0; exact ⟨nr _, rd _ (key_in hp), fun _ => by simp [stepsOf, endBound, readS]; omega⟩
  | addF R d hc ho => have := ho.len hm0; exact ⟨nr _, rd _ b1, fun _ => by simp [stepsOf, endBound, readS]; omega⟩
  | addQ R d f hc ho ha hl => have := ho.len hm0; exact ⟨nr _, rd _ (link_in hl), fun _ => by simp [stepsOf, endBound, readS]; omega⟩
  | addU R d f hc ho => have := ho.len hm0; exact ⟨nr _, rd _ b2, fun _ => by simp [stepsOf, endBound, readS]; omega⟩
  | lays1 R d f q hc ho => have := ho.len hm0; exact ⟨nw _ _, wr _ _ b1, fun _ => by simp [stepsOf, endBound, putS]; omega⟩
  | lays2 R d f u hc ho => have := ho.len hm0; exact ⟨nw _ _, wr _ _ b2, fun _ => by simp [stepsOf, endBound, putS]; omega⟩
  | key R d f q node hc ho ha hno => have := ho.len hm0; exact ⟨nw _ _, wr _ _ (key_in hno.leads), fun _ => by simp [stepsOf, endBound, putS]; omega⟩
  | link R d f q node hc ho ha hno => have := ho.len hm0; exact ⟨nw _ _, wr _ _ (link_in hno.leads), fun _ => by simp [stepsOf, endBound, putS]; omega⟩
  | fin R d f q node hc ho ha hno => have := ho.len hm0; exact ⟨nw _ _, wr _ _ (ho.cellB hm0), fun _ => by simp [stepsOf, endBound, putS]; omega⟩
  | delQ R d hc ho ha => have := ho.len hm0; exact ⟨nr _, rd _ (link_in (ho.at_ ha).2), fun _ => by simp [stepsOf, endBound, readS]; omega⟩
  | delW R d q hc ho ha => have := ho.len hm0; exact ⟨nw _ _, wr _ _ (ho.cellB hm0), fun _ => by simp [stepsOf, endBound, putS]; omega⟩
  | delF R d q hc ho ha => have := ho.len hm0; exact ⟨nr _, rd _ b1, fun _ => by simp [stepsOf, endBound, readS]; omega⟩
  | delL R d q f hc ho ha => have := ho.len hm0; exact ⟨nw _ _, wr _ _ (link_in (ho.at_ ha).2), fun _ => by simp [stepsOf, endBound, putS]; omega⟩
  | delFin R d q f hc ho ha => have := ho.len hm0; exact ⟨nw _ _, wr _ _ b1, fun _ => by simp [stepsOf, endBound, putS]; omega⟩
  | ab1 R d hc ho ha => have := ho.len hm0; exact ⟨nr _, rd _ (link_in (ho.at_ ha).2), fun _ => by simp [stepsOf, endBound, readS]; omega⟩
  | ab2 R d q hc ho ha hl => have := ho.len hm0; exact ⟨nr _, rd _ (key_in hl), fun _ => by simp [stepsOf, endBound, readS]; omega⟩

end Go.Proofs.Ytihlbhlagpmbjaa
