/-
  Layer 19: a copy of a row of numbers that is not empty.
-/
import Derived.Test.YtejkaalhjocmgaaDoorWy
namespace Go.Proofs.YtejkaalhjocmgaaDoor
open Go.RowKit
theorem clone_full {T : Nat → Prop} {w : World} {v : Value} {l : List Int} (h : RdI T w v l) (hl : l.length ≤ 1000) (hn : l ≠ []) :
    Calls Tryd.prog 47 #[v] w fun e w' => ∃ g cp, e = .returned (.slice (some ⟨g, 0, none⟩) l.length cp) ∧ l.length ≤ cp ∧ cp ≤ maxLen ∧ w.heap.size ≤ g ∧ g < w'.heap.size ∧ Rd (· = g) w' (some ⟨g, 0, none⟩) (l.map intl) ∧ Chg (fun _ => False) w w' := by
  refine (clone_any h hl).mono (fun e w' ⟨v', h1, h2, h3⟩ => ?_)
  obtain ⟨_, hv | ⟨g, cap, cur, rfl, hb, hg, hcap, hmx, hsz, htk⟩⟩ := h2
  · exact absurd (List.length_eq_zero_iff.1 hv.2) hn
  · have hblk : Blk w' g 3 cur := hg
    refine ⟨g, cap, h1, hcap, hmx, hb, hblk.lt, Rd.blk hblk (fun j u hj => ?_), Chg.of_below h3 _⟩
    rw [← htk, List.getElem?_take] at hj
    split at hj
    · simpa using hj
    · cases hj
/-- But for the last. -/
theorem Rd.dropLast {T : Nat → Prop} {w : World} {A : Option Addr} {l : List Int} (h : Rd T w A (l.map intl)) : Rd T w A (l.dropLast.map intl) := by
  intro hn
  have hl : l.map intl ≠ [] := by
    intro e
    rw [List.map_eq_nil_iff] at e
    subst e
    exact hn rfl
  obtain ⟨a, hA, hT, hc⟩ := h hl
  refine ⟨a, hA, hT, fun j u hj => hc j u ?_⟩
  rw [List.getElem?_map] at hj ⊢
  rw [List.getElem?_dropLast] at hj
  split at hj
  · exact hj
  · cases hj
end Go.Proofs.YtejkaalhjocmgaaDoor
