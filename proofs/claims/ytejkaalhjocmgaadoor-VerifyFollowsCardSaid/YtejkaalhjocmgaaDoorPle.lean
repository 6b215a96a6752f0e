/-
  The plain law of layer 19: how long the checker goes on; its beginning; one thing less to do.
-/
import Derived.Test.YtejkaalhjocmgaaDoorPld
namespace Go.Proofs.YtejkaalhjocmgaaDoor
/-- What is left to be done at most. -/
def mu (n : Nat) (C : PC) : Nat := 2 * (n - cnt C.at_) + C.work.length
theorem come_mu {n : Nat} {C : PC} (hl : C.at_.length = n) (t : Nat) (s : PSt) : (C.come n t s).at_.length = n ∧ mu n (C.come n t s) ≤ mu n C := by
  unfold PC.come
  split
  · exact ⟨hl, Nat.le_refl _⟩
  · rename_i ht
    split
    · split
      · exact ⟨hl, Nat.le_refl _⟩
      · exact ⟨hl, Nat.le_refl _⟩
    · rename_i hne
      refine ⟨by simpa using hl, ?_⟩
      have e : C.at_[t]? = some none := by
        cases e : C.at_[t]? with
        | none => rw [List.getElem?_eq_none_iff] at e; omega
        | some o =>
          cases o with
          | none => rfl
          | some q => exact absurd e (hne q)
      have h1 : cnt (C.at_.set t (some s)) = cnt C.at_ + 1 := cnt_set _ _ _ e
      have h2 := cnt_le (C.at_.set t (some s))
      rw [List.length_set] at h2
      unfold mu
      simp only [List.length_append, List.length_singleton]
      omega
theorem comes_mu {n : Nat} (s : PSt) : ∀ (l : List Nat) {C : PC}, C.at_.length = n → (l.foldl (fun C t => C.come n t s) C).at_.length = n ∧ mu n (l.foldl (fun C t => C.come n t s) C) ≤ mu n C := by
  intro l
  induction l with
  | nil => intro C h; exact ⟨h, Nat.le_refl _⟩
  | cons t l ih =>
    intro C h
    have h1 := come_mu h t s
    have h2 := ih h1.1
    exact ⟨h2.1, Nat.le_trans h2.2 h1.2⟩
theorem step_mu {n : Nat} {C : PC} (hl : C.at_.length = n) (s : PSt) (f k p : Int) (hd : Bool) (l : List Nat) : (C.step n s f k p hd l).at_.length = n ∧ mu n (C.step n s f k p hd l) ≤ mu n C := by
  unfold PC.step
  split
  · exact ⟨hl, Nat.le_refl _⟩
  · exact comes_mu _ l hl
theorem begin_mu {n : Nat} {C : PC} (hl : C.at_.length = n) (o b : Int) : (C.begin_ n o b).at_.length = n ∧ mu n (C.begin_ n o b) ≤ mu n C := by
  unfold PC.begin_
  split
  · exact ⟨hl, Nat.le_refl _⟩
  · exact come_mu (C := ⟨C.at_, upd C.has o (b + 1), C.work, C.bad⟩) hl _ _
theorem act_mu {con : ByteArray → Bool} {m : Im} {C : PC} (hl : C.at_.length = m.code.length) (k : Nat) (s : PSt) : (C.act con m k s).at_.length = m.code.length ∧ mu m.code.length (C.act con m k s) ≤ mu m.code.length C := by
  unfold PC.act
  dsimp only
  split
  · split
    · exact ⟨hl, Nat.le_refl _⟩
    · exact step_mu hl _ _ _ _ _ _
  · split
    · have h1 := step_mu hl s (floorT s.tries) 0 1 true [(insAt m k).a.toNat]
      have h2 := come_mu h1.1 (k + 1) ⟨s.of, s.height, s.tries ++ [s.height]⟩
      exact ⟨h2.1, Nat.le_trans h2.2 h1.2⟩
    · split
      · have h1 := step_mu hl s (floorT s.tries) (insAt m k).b 1 true [k + 1]
        have h2 := begin_mu h1.1 (insAt m k).a (insAt m k).b
        exact ⟨h2.1, Nat.le_trans h2.2 h1.2⟩
      · exact step_mu hl _ _ _ _ _ _
/-- One thing less is to be done. -/
def PC.pop (C : PC) : PC := ⟨C.at_, C.has, C.work.dropLast, C.bad⟩
theorem pop_mu {n : Nat} {C : PC} (h : C.work ≠ []) : mu n C.pop + 1 = mu n C := by
  have := List.length_pos_iff.2 h
  unfold mu PC.pop
  simp only [List.length_dropLast]
  omega
theorem PInv.pop {con : ByteArray → Bool} {m : Im} {C : PC} (h : PInv con m C (fun _ => False)) {k : Nat} (hk : C.work.getLast? = some k) : PInv con m C.pop (· = k) := by
  have hd : ∀ x ∈ C.work, x ∈ C.work.dropLast ∨ x = k := by
    intro x hx
    have hne : C.work ≠ [] := by rintro e; rw [e] at hx; cases hx
    rw [List.getLast?_eq_some_getLast hne] at hk
    injection hk with hk
    have := List.dropLast_concat_getLast hne
    rw [← this, List.mem_append, List.mem_singleton, hk] at hx
    exact hx
  refine ⟨h.good, h.len, h.pos, h.reach, h.wf, h.hasA, h.has0, fun x hx => h.wk x (List.dropLast_subset _ hx), fun x p hx => ?_⟩
  rcases h.done x p hx with e | e | e
  · rcases hd x e with e | e
    · exact .inl e
    · exact .inr (.inl e)
  · exact e.elim
  · exact .inr (.inr e)
/-- Where it begins. -/
def PC.zero (n : Nat) : PC := ⟨List.replicate n none, fun _ => 0, [], false⟩
theorem PC.zero_come {n : Nat} (hn : 0 < n) : (PC.zero n).come n 0 ⟨-1, 0, []⟩ = ⟨(List.replicate n none).set 0 (some ⟨-1, 0, []⟩), fun _ => 0, [0], false⟩ := by
  unfold PC.come PC.zero
  rw [if_neg (by omega)]
  have : (List.replicate n (none : Option PSt))[0]? = some none := by
    rw [List.getElem?_replicate, if_pos hn]
  simp only [this, List.nil_append]
theorem cnt_none (n : Nat) : cnt (List.replicate n (none : Option PSt)) = 0 := by
  unfold cnt
  rw [List.countP_eq_zero]
  intro x hx
  rw [List.eq_of_mem_replicate hx]
  simp
theorem PC.zero_mu (n : Nat) : mu n (PC.zero n) = 2 * n := by
  unfold mu PC.zero
  rw [cnt_none]
  simp
theorem zero_bad {n : Nat} (hn : n = 0) : ((PC.zero n).come n 0 ⟨-1, 0, []⟩).bad = true := by
  unfold PC.come
  rw [if_pos (by omega)]
  rfl
theorem PInv.zero {con : ByteArray → Bool} {m : Im} (hn : 0 < m.code.length) : PInv con m ((PC.zero m.code.length).come m.code.length 0 ⟨-1, 0, []⟩) (fun _ => False) := by
  rw [PC.zero_come hn]
  have hset : ∀ (k : Nat) (p : PSt), ((List.replicate m.code.length none).set 0 (some (⟨-1, 0, []⟩ : PSt)))[k]? = some (some p) → k = 0 ∧ p = ⟨-1, 0, []⟩ := by
    intro k p hk
    rw [List.getElem?_set] at hk
    split at hk
    · rename_i e
      split at hk
      · injection hk with hk; injection hk with hk; exact ⟨e.symm, hk.symm⟩
      · cases hk
    · rw [List.getElem?_replicate] at hk
      split at hk
      · injection hk with hk; cases hk
      · cases hk
  have h0 : ((List.replicate m.code.length none).set 0 (some (⟨-1, 0, []⟩ : PSt)))[0]? = some (some ⟨-1, 0, []⟩) := by
    rw [List.getElem?_set, if_pos rfl, if_pos (by simpa using hn)]
  have hc : cnt ((List.replicate m.code.length none).set 0 (some (⟨-1, 0, []⟩ : PSt))) = 1 := by
    rw [cnt_set _ _ _ (by rw [List.getElem?_replicate, if_pos hn]), cnt_none]
  refine ⟨rfl, by simp, h0, fun k p hk => ?_, fun k p hk => ?_, fun o ho => ?_, fun o => Int.le_refl _, fun k hk => ?_, fun k p hk => ?_⟩
  · obtain ⟨rfl, rfl⟩ := hset k p hk
    exact ⟨Reach.base, .inl rfl⟩
  · obtain ⟨rfl, rfl⟩ := hset k p hk
    exact ⟨.inl rfl, Int.le_refl _, by dsimp only; omega, by simp, trivial, by simp [floorT]⟩
  · exact absurd ho (by dsimp only; omega)
  · rw [List.mem_singleton] at hk
    subst hk
    exact ⟨_, h0⟩
  · obtain ⟨rfl, rfl⟩ := hset k p hk
    exact .inl (by simp)
theorem not_good_none {con : ByteArray → Bool} {m : Im} (hn : m.code.length = 0) : ¬ Good con m := fun h => by have := h.pos; omega
end Go.Proofs.YtejkaalhjocmgaaDoor
