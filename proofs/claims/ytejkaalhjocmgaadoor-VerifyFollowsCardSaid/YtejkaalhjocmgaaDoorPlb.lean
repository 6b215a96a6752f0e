/-
  The plain law of layer 19: rows of states that hold what is reached; closed ones; the document's side.
-/
import Derived.Test.YtejkaalhjocmgaaDoorPla
namespace Go.Proofs.YtejkaalhjocmgaaDoor
/-- How many are told. -/
def cnt {α : Type} (l : List (Option α)) : Nat := l.countP Option.isSome
theorem cnt_le {α : Type} (l : List (Option α)) : cnt l ≤ l.length := List.countP_le_length
theorem cnt_set {α : Type} : ∀ (l : List (Option α)) (t : Nat) (x : α), l[t]? = some none → cnt (l.set t (some x)) = cnt l + 1 := by
  intro l
  induction l with
  | nil => intro t x h; simp at h
  | cons y l ih =>
    intro t x h
    cases t with
    | zero =>
      obtain rfl : y = none := by simpa using h
      simp [cnt]
    | succ t =>
      have := ih t x (by simpa using h)
      simp only [List.set_cons_succ, cnt, List.countP_cons] at this ⊢
      omega
theorem WfS.mono {N N' : Nat} {o h : Int} {t : List Int} (w : WfS N o h t) (hN : N ≤ N') : WfS N' o h t :=
  ⟨w.of_, w.lo, by have := w.hi; omega, by have := w.tl; omega, w.srt, w.fl⟩

section
variable {con : ByteArray → Bool} {m : Im}
theorem insAt_ok (hc : CodeOk m) {k : Nat} (hk : k < m.code.length) : 0 ≤ (insAt m k).op ∧ (insAt m k).op ≤ 20 ∧ 0 ≤ (insAt m k).a ∧ (insAt m k).a ≤ 1048576 ∧ 0 ≤ (insAt m k).b ∧ (insAt m k).b ≤ 1048576 ∧ (15 ≤ (insAt m k).op → (insAt m k).a < m.code.length) := by
  have : insAt m k = m.code[k] := by simp [insAt, hk]
  rw [this]
  exact hc _ (List.getElem_mem hk)
theorem tab_bd {i : Ins} (h0 : 0 ≤ i.op) (h20 : i.op ≤ 20) (ha : 0 ≤ i.a) (hb : 0 ≤ i.b) (fn free : Bool) (has height : Int) :
    let T := tab con m i fn free has height
    0 ≤ T.takes ∧ 0 ≤ T.puts ∧ T.puts ≤ 1 ∧ (i.op = 14 → T.takes = 0 ∧ T.puts = 0) ∧ (i.op = 17 → T.takes = 0 ∧ T.puts = 0 ∧ T.holds = true ∧ T.behind = true ∧ T.there = false) ∧ (i.op = 18 → T.takes = i.b ∧ T.puts = 1 ∧ T.holds = true ∧ T.behind = true ∧ T.there = false) ∧ (i.op = 14 → T.behind = true ∧ T.there = false ∧ T.holds = !free) ∧ (T.there = true → 15 ≤ i.op) := by
  have ht := takes_bd i.a
  obtain ⟨op, a, b⟩ := i
  dsimp only at *
  have hcase : op = 0 ∨ op = 1 ∨ op = 2 ∨ op = 3 ∨ op = 4 ∨ op = 5 ∨ op = 6 ∨ op = 7 ∨ op = 8 ∨ op = 9 ∨ op = 10 ∨ op = 11 ∨ op = 12 ∨ op = 13 ∨ op = 14 ∨ op = 15 ∨ op = 16 ∨ op = 17 ∨ op = 18 ∨ op = 19 ∨ op = 20 := by omega
  rcases hcase with rfl | rfl | rfl | rfl | rfl | rfl | rfl | rfl | rfl | rfl | rfl | rfl | rfl | rfl | rfl | rfl | rfl | rfl | rfl | rfl | rfl <;> simp [tab] <;> omega
/-- What follows stands as it should. -/
theorem next_wf (hc : CodeOk m) {k N : Nat} {s : RSt} (hk : k < m.code.length) (hw : WfS N s.of s.height s.tries) (ho : nextOk con m k s = true) :
    ∀ t s', (t, s') ∈ nextL con m k s → t < m.code.length ∧ WfS (N + 1) s'.of s'.height s'.tries := by
  obtain ⟨h0, h20, ha, _, hb, _, hg⟩ := insAt_ok hc hk
  have hT := tab_bd (con := con) (m := m) h0 h20 ha hb (decide (0 ≤ s.of)) s.tries.isEmpty s.has s.height
  unfold nextOk at ho
  intro t s' hm
  unfold nextL at hm
  dsimp only at hm ho hT
  generalize tab con m (insAt m k) (decide (0 ≤ s.of)) s.tries.isEmpty s.has s.height = T at *
  generalize insAt m k = i at *
  obtain ⟨t1, t2, t3, t4, t5, t6, t7, t8⟩ := hT
  simp only [Bool.and_eq_true, Bool.not_eq_true', decide_eq_false_iff_not, Bool.and_eq_false_iff] at ho
  obtain ⟨⟨hh, hfl⟩, hbh⟩ := ho
  have w1 := hw.lo
  have w2 := hw.hi
  have w3 := hw.tl
  have w4 := hw.fl
  have w5 := hw.of_
  have w6 := floor_drop hw.srt
  have htl : triesOf i.op s.height s.tries = s.tries ∨ (i.op = 14 ∧ triesOf i.op s.height s.tries = s.tries.dropLast) ∨ (i.op = 17 ∧ triesOf i.op s.height s.tries = s.tries ++ [s.height]) := by
    unfold triesOf
    split
    · exact .inr (.inl ⟨by assumption, rfl⟩)
    · split
      · exact .inr (.inr ⟨by assumption, rfl⟩)
      · exact .inl rfl
  have hW : WfS (N + 1) s.of (s.height - T.takes + T.puts) (triesOf i.op s.height s.tries) := by
    rcases htl with e | ⟨e14, e⟩ | ⟨e17, e⟩
    · rw [e]; exact ⟨w5, by omega, by omega, by omega, hw.srt, by omega⟩
    · rw [e]
      have := t4 e14
      exact ⟨w5, by omega, by omega, by rw [List.length_dropLast]; omega, sortT_drop _ _ hw.srt, by omega⟩
    · rw [e]
      have := t5 e17
      exact ⟨w5, by omega, by omega, by rw [List.length_append]; simp; omega, sortT_snoc _ _ _ hw.srt (by rw [floor_zero]; exact w4), by rw [floor_snoc]; omega⟩
  rcases List.mem_append.1 hm with hm | hm
  · rcases List.mem_append.1 hm with hm | hm
    · rcases List.mem_append.1 hm with hm | hm
      · split at hm
        · rename_i e17
          rw [List.mem_singleton] at hm
          injection hm with e1 e2
          subst e1 e2
          have := hg (by omega)
          exact ⟨by omega, ⟨w5, by show 0 ≤ s.height + 1; omega, by show s.height + 1 ≤ _; omega, by show s.tries.length ≤ _; omega, hw.srt, by show floorT s.tries ≤ s.height + 1; omega⟩⟩
        · exact absurd hm (by simp)
      · split at hm
        · rename_i e18
          rw [List.mem_singleton] at hm
          injection hm with e1 e2
          subst e1 e2
          have := hg (by omega)
          exact ⟨by omega, ⟨.inr ha, by show (0 : Int) ≤ 1; omega, by show (1 : Int) ≤ _; omega, by simp, trivial, by show floorT [] ≤ 1; simp [floorT]⟩⟩
        · exact absurd hm (by simp)
    · split at hm
      · rename_i hbt
        rw [List.mem_singleton] at hm
        injection hm with e1 e2
        subst e1 e2
        have : ¬ m.code.length ≤ k + 1 := by
          rcases hbh with h | h
          · rw [h] at hbt; cases hbt
          · exact h
        exact ⟨by omega, hW⟩
      · exact absurd hm (by simp)
  · split at hm
    · rename_i hth
      rw [List.mem_singleton] at hm
      injection hm with e1 e2
      subst e1 e2
      have := hg (t8 hth)
      exact ⟨by omega, hW⟩
    · exact absurd hm (by simp)

theorem reach_next {k t : Nat} {s s' : RSt} (h : Reach con m k s) (ho : nextOk con m k s = true) (hm : (t, s') ∈ nextL con m k s) : Reach con m t s' :=
  .step h (l := nextL con m k s) (if_pos ho) hm
structure RInv (con : ByteArray → Bool) (m : Im) (all : List (Option RSt)) : Prop where
  len : all.length = m.code.length
  pos : all[0]? = some (some ⟨-1, 0, 0, []⟩)
  reach : ∀ k s, all[k]? = some (some s) → Reach con m k s
  wf : ∀ (k : Nat) (s : RSt), all[k]? = some (some s) → WfS (cnt all) s.of s.height s.tries
def Closed (con : ByteArray → Bool) (m : Im) (all : List (Option RSt)) : Prop :=
  ∀ k s, all[k]? = some (some s) → nextOk con m k s = true ∧ ∀ t s', (t, s') ∈ nextL con m k s → all[t]? = some (some s')
theorem lt_of_some {α : Type} {l : List α} {k : Nat} {x : α} (h : l[k]? = some x) : k < l.length := by
  rw [List.getElem?_eq_some_iff] at h
  exact h.1
theorem reach_closed {all : List (Option RSt)} (h0 : all[0]? = some (some ⟨-1, 0, 0, []⟩)) (hc : Closed con m all) {k : Nat} {s : RSt} (h : Reach con m k s) : all[k]? = some (some s) := by
  induction h with
  | base => exact h0
  | step hr hn hm ih =>
    obtain ⟨h1, h2⟩ := hc _ _ ih
    rw [nextR, if_pos h1] at hn
    injection hn with hn
    subst hn
    exact h2 _ _ hm
theorem RInv.good {all : List (Option RSt)} (h : RInv con m all) (hc : Closed con m all) : Good con m := by
  have hr := fun k s => reach_closed (con := con) (m := m) h.pos hc (k := k) (s := s)
  refine ⟨?_, fun k s hk => ?_, fun k s hk => (hc _ _ (hr k s hk)).1, fun k s s' h1 h2 => ?_⟩
  · have := lt_of_some h.pos
    have := h.len
    omega
  · have := lt_of_some (hr k s hk)
    have := h.len
    omega
  · have e1 := hr k s h1
    have e2 := hr k s' h2
    rw [e1] at e2
    injection e2 with e2
    injection e2
theorem RInv.iff {all : List (Option RSt)} (h : RInv con m all) (hc : Closed con m all) (k : Nat) (s : RSt) : all[k]? = some (some s) ↔ Reach con m k s :=
  ⟨h.reach k s, reach_closed h.pos hc⟩
theorem RInv.set {all : List (Option RSt)} (h : RInv con m all) {t : Nat} {s : RSt} (ht : all[t]? = some none) (hr : Reach con m t s) (hw : WfS (cnt all + 1) s.of s.height s.tries) : RInv con m (all.set t (some s)) := by
  have hl := lt_of_some ht
  refine ⟨by rw [List.length_set]; exact h.len, ?_, fun k s' hk => ?_, fun k s' hk => ?_⟩
  · rw [List.getElem?_set]
    split
    · rename_i e
      subst e
      rw [h.pos] at ht
      injection ht with ht
      cases ht
    · exact h.pos
  · rw [List.getElem?_set] at hk
    split at hk
    · rename_i e
      subst e
      try rw [if_pos hl] at hk
      injection hk with hk
      injection hk with hk
      subst hk
      exact hr
    · exact h.reach k s' hk
  · rw [cnt_set _ _ _ ht]
    rw [List.getElem?_set] at hk
    split at hk
    · rename_i e
      subst e
      try rw [if_pos hl] at hk
      injection hk with hk
      injection hk with hk
      subst hk
      exact hw
    · exact (h.wf k s' hk).mono (by omega)
theorem RInv.one (hp : 0 < m.code.length) : RInv con m (some ⟨-1, 0, 0, []⟩ :: List.replicate (m.code.length - 1) none) := by
  have hno : ∀ k s, (some (⟨-1, 0, 0, []⟩ : RSt) :: List.replicate (m.code.length - 1) none)[k]? = some (some s) → k = 0 ∧ s = ⟨-1, 0, 0, []⟩ := by
    intro k s hk
    cases k with
    | zero => injection hk with hk; injection hk with hk; exact ⟨rfl, hk.symm⟩
    | succ k =>
      rw [List.getElem?_cons_succ, List.getElem?_replicate] at hk
      split at hk
      · injection hk with hk; cases hk
      · cases hk
  refine ⟨by simp; omega, rfl, fun k s hk => ?_, fun k s hk => ?_⟩
  · obtain ⟨rfl, rfl⟩ := hno k s hk
    exact .base
  · obtain ⟨rfl, rfl⟩ := hno k s hk
    exact ⟨.inl rfl, by simp, by simp, by simp, trivial, by simp [floorT]⟩
theorem not_good_of {k : Nat} {s s' : RSt} (h1 : Reach con m k s) (h2 : Reach con m k s') (hn : s ≠ s') : ¬ Good con m := fun h => hn (h.one k s s' h1 h2)
end
end Go.Proofs.YtejkaalhjocmgaaDoor
