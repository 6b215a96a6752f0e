/-
  Layer 17: the library's words against the plain model: lines, words.
-/
import Derived.Lib.Split
import Derived.Test.YtgonllogaiiicaaDoorM01
namespace Go.Proofs.YtgonllogaiiicaaDoor
theorem index_one (c : UInt8) : ∀ s : Bs, (Lib.index s [c] = -1 ∧ ∀ d ∈ s, d ≠ c) ∨ ∃ u v, s = u ++ c :: v ∧ (∀ d ∈ u, d ≠ c) ∧ Lib.index s [c] = u.length
  | [] => .inl ⟨rfl, by simp⟩
  | b :: l => by
    by_cases h : c = b
    · subst h
      exact .inr ⟨[], l, rfl, by simp, by rw [Lib.index, if_pos (by simp [List.isPrefixOf])]; rfl⟩
    · have hp : ¬ ([c].isPrefixOf (b :: l) = true) := by simp [List.isPrefixOf, h]
      rcases index_one c l with ⟨h1, h2⟩ | ⟨u, v, rfl, h2, h3⟩
      · refine .inl ⟨by rw [Lib.index, if_neg hp, if_pos (by rw [h1]; rfl)], ?_⟩
        intro d hd
        rcases List.mem_cons.1 hd with rfl | hd
        · exact fun e => h e.symm
        · exact h2 d hd
      · refine .inr ⟨b :: u, v, rfl, ?_, ?_⟩
        · intro d hd
          rcases List.mem_cons.1 hd with rfl | hd
          · exact fun e => h e.symm
          · exact h2 d hd
        · rw [Lib.index, if_neg hp, if_neg (by rw [h3]; simp), h3]; simp
/-- The pieces between blanks. -/
def blanksA : Bs → Bs → List Bs
  | [], now => [now]
  | c :: r, now => if c = 32 then now :: blanksA r [] else blanksA r (now ++ [c])
theorem blanksA_app : ∀ (a b now : Bs), (∀ c ∈ a, c ≠ 32) → blanksA (a ++ b) now = blanksA b (now ++ a)
  | [], b, now, _ => by simp
  | c :: a, b, now, h => by
    have hc := h c (by simp)
    rw [List.cons_append, blanksA, if_neg hc, blanksA_app a b _ (fun d hd => h d (by simp [hd]))]
    simp
theorem blanks_one {s : Bs} (h : ∀ d ∈ s, d ≠ 32) : blanksA s [] = [s] := by
  have := blanksA_app s [] [] h
  rw [List.append_nil] at this
  rw [this, blanksA]; simp
theorem blanks_next {u v : Bs} (h : ∀ d ∈ u, d ≠ 32) : blanksA (u ++ 32 :: v) [] = u :: blanksA v [] := by
  rw [blanksA_app u _ _ h, blanksA, if_pos rfl]; simp
theorem blanks_words : ∀ (s now : Bs) (p i : Nat), (∀ d ∈ s, d ≠ 59) → (blanksA s now).filter (fun x => decide (x ≠ [])) = (wordsG s now p i).map Prod.fst
  | [], now, p, i, _ => by
    rw [blanksA, wordsG]
    by_cases h : now = []
    · subst h; rfl
    · rw [if_neg h]; simp [h]
  | c :: r, now, p, i, h => by
    have hc := h c (by simp)
    have hr : ∀ d ∈ r, d ≠ 59 := fun d hd => h d (by simp [hd])
    rw [blanksA, wordsG, if_neg hc]
    by_cases h2 : c = 32
    · rw [if_pos h2, if_pos h2, List.filter_cons]
      by_cases hn : now = []
      · rw [if_pos hn, if_neg (by simp [hn]), blanks_words r [] p (i + 1) hr]
      · rw [if_neg hn, if_pos (by simp [hn]), List.map_cons, blanks_words r [] p (i + 1) hr]
    · rw [if_neg h2, if_neg h2]
      exact blanks_words r _ _ _ hr
theorem words_cut : ∀ (u v now : Bs) (p i : Nat), (∀ d ∈ u, d ≠ 59) → wordsG (u ++ 59 :: v) now p i = wordsG u now p i
  | [], v, now, p, i, _ => by rw [List.nil_append, wordsG.eq_2, if_pos rfl, wordsG]
  | c :: u, v, now, p, i, h => by
    have hc := h c (by simp)
    have hu : ∀ d ∈ u, d ≠ 59 := fun d hd => h d (by simp [hd])
    have ih := fun now p i => words_cut u v now p i hu
    rw [List.cons_append, wordsG, wordsG, if_neg hc, if_neg hc, ih, ih]
/-- What words are to the program. -/
theorem words_prog (s : Bs) : (blanksA (Lib.cut s [59]).1 []).filter (fun x => decide (x ≠ [])) = (wordsL s).map Prod.fst := by
  rcases index_one 59 s with ⟨h1, h2⟩ | ⟨u, v, rfl, h2, h3⟩
  · rw [Lib.cut, if_neg (by omega)]
    exact blanks_words s [] 0 0 h2
  · rw [Lib.cut, if_pos (by omega), h3]
    have : ((u ++ 59 :: v).take (Int.toNat u.length)) = u := by simp
    rw [this, wordsL, words_cut u v _ _ _ h2]
    exact blanks_words u [] 0 0 h2
theorem split_linesN : ∀ (fuel : Nat) (s : Bs), s.length < fuel → Lib.splitK [10] 0 (Lib.countFrom [10] fuel s) s = linesL s
  | 0, _, h => by omega
  | fuel + 1, s, h => by
    rw [Lib.countFrom]
    rcases index_one 10 s with ⟨h1, h2⟩ | ⟨u, v, rfl, h2, h3⟩
    · rw [if_pos (by rw [h1]; rfl), Lib.splitK, linesL_one s h2]
    · have hn : ¬ ((Lib.index (u ++ 10 :: v) [10] == -1) = true) := by rw [h3]; simp
      have e1 : (u ++ 10 :: v).drop ((Lib.index (u ++ 10 :: v) [10]).toNat + [(10 : UInt8)].length) = v := by
        rw [h3]
        have : u ++ (10 : UInt8) :: v = (u ++ [10]) ++ v := by simp
        rw [this]
        have : (Int.toNat (u.length : Int)) + [(10 : UInt8)].length = (u ++ [(10 : UInt8)]).length := by simp
        rw [this, List.drop_left]
      have e2 : (u ++ 10 :: v).take ((Lib.index (u ++ 10 :: v) [10]).toNat + 0) = u := by rw [h3]; simp
      rw [if_neg hn, Nat.add_comm 1, Lib.splitK, if_neg hn, e1, e2, split_linesN fuel v (by simp at h; omega), linesL_line u v h2]
/-- What lines are to the program. -/
theorem split_lines (s : Bs) : Lib.splitK [10] 0 (Lib.count s [10]) s = linesL s := split_linesN _ s (by omega)
end Go.Proofs.YtgonllogaiiicaaDoor
