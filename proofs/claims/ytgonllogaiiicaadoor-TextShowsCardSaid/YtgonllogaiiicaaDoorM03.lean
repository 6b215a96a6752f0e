/-
  Layer 17, plain: words are none that is empty; a word's end; the scan for a name. With no program in sight. Layer 17, plain: numbers of words, one by one. With no program in sight.
-/
import Derived.Test.YtgonllogaiiicaaDoorM01
import Derived.Lib.Strings
namespace Go.Proofs.YtgonllogaiiicaaDoor
theorem wordsG_mem : ∀ (r now : Bs) (p i : Nat), ∀ x ∈ wordsG r now p i, x.1 ≠ [] ∧ x.1.length ≤ now.length + r.length ∧ (x.2 ≤ p ∨ x.2 ≤ i + r.length)
  | [], now, p, i => by
    intro x hx
    rw [wordsG] at hx
    split at hx
    · cases hx
    · rename_i h
      rw [List.mem_singleton] at hx; subst hx
      exact ⟨h, by simp, .inl (Nat.le_refl _)⟩
  | c :: r, now, p, i => by
    intro x hx
    rw [wordsG] at hx
    split at hx
    · split at hx
      · cases hx
      · rename_i h
        rw [List.mem_singleton] at hx; subst hx
        exact ⟨h, by simp, .inl (Nat.le_refl _)⟩
    · split at hx
      · split at hx
        · obtain ⟨h1, h2, h3⟩ := wordsG_mem r [] p (i + 1) x hx
          exact ⟨h1, by simp at h2 ⊢; omega, by simp; omega⟩
        · rename_i h
          rcases List.mem_cons.1 hx with rfl | hx
          · exact ⟨h, by simp, .inl (Nat.le_refl _)⟩
          · obtain ⟨h1, h2, h3⟩ := wordsG_mem r [] p (i + 1) x hx
            exact ⟨h1, by simp at h2 ⊢; omega, by simp; omega⟩
      · obtain ⟨h1, h2, h3⟩ := wordsG_mem r _ _ _ x hx
        refine ⟨h1, by simp at h2 ⊢; omega, ?_⟩
        rw [List.length_cons]
        split at h3 <;> omega
theorem wordsL_mem {s : Bs} {x : Bs × Nat} (h : x ∈ wordsL s) : x.1 ≠ [] ∧ x.1.length ≤ s.length ∧ x.2 ≤ s.length := by
  obtain ⟨h1, h2, h3⟩ := wordsG_mem s [] 0 0 x h
  exact ⟨h1, by simpa using h2, by omega⟩
theorem suffix_iff (s : Bs) : Lib.hasSuffix s [58] = decide (s.getLast? = some 58) := by
  rw [Lib.hasSuffix, Bool.eq_iff_iff, List.isSuffixOf_iff_suffix, decide_eq_true_eq]
  constructor
  · rintro ⟨t, rfl⟩; simp
  · intro h
    obtain ⟨t, rfl⟩ := List.getLast?_eq_some_iff.1 h
    exact ⟨t, rfl⟩
theorem suffix_cut (s : Bs) (h : s.getLast? = some 58) : Lib.trimSuffix s [58] = s.dropLast := by
  rw [Lib.trimSuffix, suffix_iff, if_pos (by simpa using h), List.dropLast_eq_take]
  rfl
theorem wordsL_len (s : Bs) : (wordsL s).length ≤ s.length + 1 := by
  have : ∀ (r now : Bs) (p i : Nat), (wordsG r now p i).length ≤ r.length + 1 := by
    intro r
    induction r with
    | nil => intro now p i; rw [wordsG]; split <;> simp
    | cons c r ih =>
      intro now p i
      rw [wordsG]
      split
      · split <;> simp
      · split
        · split
          · have := ih [] p (i + 1); simp; omega
          · have := ih [] p (i + 1); simp; omega
        · have := ih (now ++ [c]) (if now = [] then i else p) (i + 1); simp; omega
  exact this s [] 0 0
end Go.Proofs.YtgonllogaiiicaaDoor

namespace Go.Proofs.YtgonllogaiiicaaDoor
theorem numsW_none {ws : List (Bs × Nat)} {x : Bs × Nat} (h : x ∈ ws) (hn : numB x.1 = none) : numsW ws = none := by
  induction ws with
  | nil => cases h
  | cons y ws ih =>
    obtain ⟨b, p⟩ := y
    rw [numsW]
    rcases List.mem_cons.1 h with rfl | h
    · simp only at hn; rw [hn]
    · rw [ih h]
      cases numB b <;> rfl
/-- The numbers of words, none: -1. -/
def nvals (ws : List (Bs × Nat)) : List Int := ws.map fun x => (match numB x.1 with
  | some n => (n : Int)
  | none => -1)
theorem nvals_some {ws : List (Bs × Nat)} (h : ∀ x ∈ ws, numB x.1 ≠ none) : ∃ l, numsW ws = some l ∧ nvals ws = l.map (fun n : Nat => (n : Int)) := by
  induction ws with
  | nil => exact ⟨[], rfl, rfl⟩
  | cons y ws ih =>
    obtain ⟨l, h1, h2⟩ := ih (fun x hx => h x (by simp [hx]))
    obtain ⟨b, p⟩ := y
    have hb := h (b, p) (by simp)
    cases hn : numB b with
    | none => exact absurd hn hb
    | some n =>
      refine ⟨n :: l, by rw [numsW, hn, h1], ?_⟩
      unfold nvals at h2 ⊢
      rw [List.map_cons, h2, List.map_cons]
      simp only [hn]
theorem nvals_snoc {ws : List (Bs × Nat)} {k : Nat} {x : Bs × Nat} {n : Nat} (h : ws[k]? = some x) (hn : numB x.1 = some n) : nvals (ws.take (k + 1)) = nvals (ws.take k) ++ [(n : Int)] := by
  obtain ⟨hk, rfl⟩ := List.getElem?_eq_some_iff.1 h
  rw [List.take_succ_eq_append_getElem hk]
  unfold nvals
  rw [List.map_append]
  simp [hn]
theorem good_snoc {ws : List (Bs × Nat)} {k : Nat} {x : Bs × Nat} (h : ws[k]? = some x) (hn : numB x.1 ≠ none) (hg : ∀ y ∈ ws.take k, numB y.1 ≠ none) : ∀ y ∈ ws.take (k + 1), numB y.1 ≠ none := by
  obtain ⟨hk, rfl⟩ := List.getElem?_eq_some_iff.1 h
  rw [List.take_succ_eq_append_getElem hk]
  intro y hy
  rcases List.mem_append.1 hy with hy | hy
  · exact hg y hy
  · rw [List.mem_singleton] at hy; subst hy; exact hn
theorem nvals_len (ws : List (Bs × Nat)) : (nvals ws).length = ws.length := by unfold nvals; rw [List.length_map]
end Go.Proofs.YtgonllogaiiicaaDoor
