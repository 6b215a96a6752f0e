/-
  Layer 19: a copy of a row of numbers.
-/
import Derived.Test.YtejkaalhjocmgaaDoorWw
namespace Go.Proofs.YtejkaalhjocmgaaDoor
open Go.RowKit
/-- A copy: a row of its own. -/
theorem clone_any {T : Nat → Prop} {w : World} {v : Value} {l : List Int} (h : RdI T w v l) (hl : l.length ≤ 1000) :
    Calls Tryd.prog 47 #[v] w fun e w' => ∃ v', e = .returned v' ∧ w'.ownsRow w.heap.size 3 1 v' l.length (l.map intl) ∧ Below w.heap.size w w' := by
  obtain ⟨A, cp, rfl, hr⟩ := h
  by_cases hn : l = []
  · subst hn
    cases A with
    | none => exact (Tryd.slices_Clone_int_nil 0 cp w).mono (fun e w' hh => ⟨_, hh.1, World.ownsRow_nil _ _ _ _, by rw [hh.2]; exact Below.refl _ _⟩)
    | some a => exact (Tryd.slices_Clone_int_zero a cp w).mono (fun e w' ⟨v', h1, h2, _, h3⟩ => ⟨v', h1, h2, h3⟩)
  · obtain ⟨b, o, rfl, _, hat⟩ := RdI.flat (c := cp) ⟨A, cp, rfl, hr⟩ hn
    refine (Tryd.slices_Clone_int b o l.length cp l w (Nat.le_refl _) (by omega) hat).mono (fun e w' ⟨v', h1, h2, _, h3⟩ => ⟨v', h1, ?_, h3⟩)
    rw [List.take_length] at h2
    exact h2
/-- What a row of its own holds, read. -/
theorem RdI.of_own {w : World} {base n : Nat} {v : Value} {l : List Int} (h : w.ownsRow base 3 1 v n (l.map intl)) (hn : n = l.length) : RdI (fun b => v.ownBlock = some b ∧ base ≤ b) w v l := by
  subst hn
  obtain ⟨_, hv | ⟨g, cap, cur, rfl, hb, hg, hcap, _, hsz, htk⟩⟩ := h
  · obtain ⟨rfl, h0⟩ := hv
    rw [List.length_eq_zero_iff.1 h0]
    exact RdI.nil_ _ _
  · refine ⟨some ⟨g, 0, none⟩, cap, rfl, ?_⟩
    have hblk : Blk w g 3 cur := hg
    refine (Rd.blk hblk (fun j u hj => ?_)).mono (fun k hk => ?_)
    · rw [← htk, List.getElem?_take] at hj
      split at hj
      · simpa using hj
      · cases hj
    · obtain rfl : k = g := hk
      exact ⟨rfl, hb⟩
end Go.Proofs.YtejkaalhjocmgaaDoor
