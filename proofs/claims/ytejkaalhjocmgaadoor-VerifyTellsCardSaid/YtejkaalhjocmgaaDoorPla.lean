/-
  The plain law of layer 19: what the checker and the document's States compute, with no program in sight. The plain law of layer 19: rows of states that hold what is reached; closed ones; the document's side. The plain law of layer 19: the checker's side. The plain law of layer 19: what one instruction does to the checker. The plain law of layer 19: how long the checker goes on; its beginning; one thing less to do. The plain law of layer 19: the document's rounds.
-/
namespace Go.Proofs.YtejkaalhjocmgaaDoor

structure Ins where
  op : Int
  a : Int
  b : Int
structure Cst where
  isText : Bool
  num : Int
  text : ByteArray
structure Im where
  pool : List Cst
  code : List Ins
/-- How things stand, to the checker. -/
structure PSt where
  of : Int
  height : Int
  tries : List Int
/-- How things stand, to the document. -/
structure RSt where
  of : Int
  has : Int
  height : Int
  tries : List Int
def PSt.same (a b : PSt) : Bool := a.of == b.of && a.height == b.height && a.tries == b.tries
def RSt.same (a b : RSt) : Bool := a.of == b.of && a.has == b.has && a.height == b.height && a.tries == b.tries
theorem PSt.same_iff {a b : PSt} : a.same b = true ↔ a = b := by
  obtain ⟨a1, a2, a3⟩ := a
  obtain ⟨b1, b2, b3⟩ := b
  simp [PSt.same, and_assoc]
theorem RSt.same_iff {a b : RSt} : a.same b = true ↔ a = b := by
  obtain ⟨a1, a2, a3, a4⟩ := a
  obtain ⟨b1, b2, b3, b4⟩ := b
  simp [RSt.same, and_assoc]

def takesI (p : Int) : Int := if p < 0 ∨ 13 < p then 0 else if p < 8 ∨ p = 11 then 2 else 1
theorem takes_bd (p : Int) : 0 ≤ takesI p ∧ takesI p ≤ 2 := by unfold takesI; split <;> (try split) <;> omega

section
variable (con : ByteArray → Bool) (m : Im)

def insAt (k : Nat) : Ins := m.code.getD k ⟨0, 0, 0⟩
def conAt (k : Int) : Bool := match m.pool[k.toNat]? with | some c => c.isText && con c.text | none => false
def numAt (k : Int) : Bool := match m.pool[k.toNat]? with | some c => !c.isText | none => false
def floorT (t : List Int) : Int := t.getLast?.getD 0

/-- What an instruction takes, puts, whether something holds; whether what is behind it, and what it names, follow. -/
structure Tab where
  takes : Int
  puts : Int
  holds : Bool
  behind : Bool
  there : Bool
def tab (i : Ins) (fn free : Bool) (has height : Int) : Tab :=
  if i.op = 0 then ⟨1, 0, !fn && free, false, false⟩
  else if i.op = 1 then ⟨0, 1, decide (i.a < m.pool.length), true, false⟩
  else if i.op = 2 then ⟨0, 1, decide (i.a < height), true, false⟩
  else if i.op = 3 then ⟨0, 1, fn && decide (i.a < has), true, false⟩
  else if i.op = 4 then ⟨0, 1, fn, true, false⟩
  else if i.op = 5 then ⟨i.a, 0, true, true, false⟩
  else if i.op = 6 then ⟨i.a + 1, 1, true, true, false⟩
  else if i.op = 7 then ⟨2, 1, true, true, false⟩
  else if i.op = 8 then ⟨2, 0, fn && free, false, false⟩
  else if i.op = 9 then ⟨1, 0, fn && free, false, false⟩
  else if i.op = 10 then ⟨i.b, 1, conAt con m i.a && decide (i.b ≤ 8), true, false⟩
  else if i.op = 11 then ⟨1, 1, decide (i.a < 8), true, false⟩
  else if i.op = 12 then ⟨takesI i.a, 1, decide (0 < takesI i.a), true, false⟩
  else if i.op = 13 then ⟨1, 0, true, false, false⟩
  else if i.op = 14 then ⟨0, 0, !free, true, false⟩
  else if i.op = 15 then ⟨0, 0, true, false, true⟩
  else if i.op = 16 then ⟨1, 0, true, true, true⟩
  else if i.op = 17 then ⟨0, 0, true, true, false⟩
  else if i.op = 18 then ⟨i.b, 1, true, true, false⟩
  else if i.op = 19 then ⟨0, 0, decide (0 < height) && conAt con m i.b, true, true⟩
  else ⟨0, 0, decide (0 < height) && numAt m i.b, true, true⟩
def triesOf (op height : Int) (t : List Int) : List Int := if op = 14 then t.dropLast else if op = 17 then t ++ [height] else t
/-- What follows, but for whether there is anything behind. -/
def nextL (k : Nat) (s : RSt) : List (Nat × RSt) :=
  let i := insAt m k
  let T := tab con m i (decide (0 ≤ s.of)) s.tries.isEmpty s.has s.height
  let t : RSt := ⟨s.of, s.has, s.height - T.takes + T.puts, triesOf i.op s.height s.tries⟩
  (if i.op = 17 then [(i.a.toNat, (⟨s.of, s.has, s.height + 1, s.tries⟩ : RSt))] else []) ++ (if i.op = 18 then [(i.a.toNat, (⟨i.a, i.b, 1, []⟩ : RSt))] else []) ++
    (if T.behind then [(k + 1, t)] else []) ++ (if T.there then [(i.a.toNat, t)] else [])
def nextOk (k : Nat) (s : RSt) : Bool :=
  let T := tab con m (insAt m k) (decide (0 ≤ s.of)) s.tries.isEmpty s.has s.height
  T.holds && !decide (s.height - T.takes < floorT s.tries) && !(T.behind && decide (m.code.length ≤ k + 1))
def nextR (k : Nat) (s : RSt) : Option (List (Nat × RSt)) := if nextOk con m k s then some (nextL con m k s) else none

inductive Reach : Nat → RSt → Prop
  | base : Reach 0 ⟨-1, 0, 0, []⟩
  | step {k : Nat} {s : RSt} {l : List (Nat × RSt)} {t : Nat} {s' : RSt} : Reach k s → nextR con m k s = some l → (t, s') ∈ l → Reach t s'
/-- It may be run. -/
structure Good : Prop where
  pos : 0 < m.code.length
  lt : ∀ k s, Reach con m k s → k < m.code.length
  ok : ∀ k s, Reach con m k s → nextOk con m k s = true
  one : ∀ k s s', Reach con m k s → Reach con m k s' → s = s'

/-- What Check promises of the instructions. -/
def CodeOk : Prop := ∀ i ∈ m.code, 0 ≤ i.op ∧ i.op ≤ 20 ∧ 0 ≤ i.a ∧ i.a ≤ 1048576 ∧ 0 ≤ i.b ∧ i.b ≤ 1048576 ∧ (15 ≤ i.op → i.a < m.code.length)
/-- Tries are in order, and none is higher than the stack. -/
def SortT : Int → List Int → Prop
  | _, [] => True
  | lo, x :: l => lo ≤ x ∧ SortT x l
structure WfS (N : Nat) (of height : Int) (tries : List Int) : Prop where
  of_ : of = -1 ∨ 0 ≤ of
  lo : 0 ≤ height
  hi : height ≤ N
  tl : tries.length ≤ N
  srt : SortT 0 tries
  fl : floorT tries ≤ height
end
theorem floor_snoc (l : List Int) (x : Int) : floorT (l ++ [x]) = x := by simp [floorT]
theorem sortT_snoc : ∀ (l : List Int) (lo x : Int), SortT lo l → floorT (lo :: l) ≤ x → SortT lo (l ++ [x]) := by
  intro l
  induction l with
  | nil => intro lo x _ h; exact ⟨by simpa [floorT] using h, trivial⟩
  | cons y l ih =>
    intro lo x h hx
    refine ⟨h.1, ih y x h.2 ?_⟩
    simpa [floorT, List.getLast?_cons] using hx
theorem sortT_drop : ∀ (l : List Int) (lo : Int), SortT lo l → SortT lo l.dropLast := by
  intro l
  induction l with
  | nil => intro lo h; exact h
  | cons y l ih =>
    intro lo h
    cases l with
    | nil => exact trivial
    | cons z l => exact ⟨h.1, ih y h.2⟩
theorem sortT_floor : ∀ (l : List Int) (lo : Int), SortT lo l → floorT (lo :: l.dropLast) ≤ floorT (lo :: l) ∧ lo ≤ floorT (lo :: l) := by
  intro l
  induction l with
  | nil => intro lo _; exact ⟨Int.le_refl _, by simp [floorT]⟩
  | cons y l ih =>
    intro lo h
    have h2 := ih y h.2
    have e1 : floorT (lo :: y :: l) = floorT (y :: l) := by simp [floorT, List.getLast?_cons]
    cases l with
    | nil =>
      rw [e1]
      have := h.1
      simp [floorT]
      omega
    | cons z l =>
      have e2 : floorT (lo :: (y :: z :: l).dropLast) = floorT (y :: (z :: l).dropLast) := by simp [floorT, List.getLast?_cons]
      have := h.1
      rw [e1, e2]
      exact ⟨h2.1, by omega⟩
theorem floor_zero (l : List Int) : floorT (0 :: l) = floorT l := by
  cases l <;> simp [floorT, List.getLast?_cons]
theorem floor_drop {l : List Int} (h : SortT 0 l) : floorT l.dropLast ≤ floorT l ∧ 0 ≤ floorT l := by
  have := sortT_floor l 0 h
  rwa [floor_zero, floor_zero] at this
end Go.Proofs.YtejkaalhjocmgaaDoor

namespace Go.Proofs.YtejkaalhjocmgaaDoor
/-- How many are told. -/
def cnt {α : Type} (l : List (Option α)) : Nat := l.countP Option.isSome
theorem cnt_le {α : Type} (l : List (Option α)) : cnt l ≤ l.length := List.countP_le_length
theorem cnt_set {α : Type} : ∀ (l : List (Option α)) (t : Nat) (x : α), l[t]? = some none → cnt (l.set t (some x)) = cnt l + 1 := by
  intro l
  induction l with
  | nil => intro t x h; simp at h
  | cons y l ih =>
    intro t x h
    cases t with
    | zero =>
      obtain rfl : y = none := by simpa using h
      simp [cnt]
    | succ t =>
      have := ih t x (by simpa using h)
      simp only [List.set_cons_succ, cnt, List.countP_cons] at this ⊢
      omega
theorem WfS.mono {N N' : Nat} {o h : Int} {t : List Int} (w : WfS N o h t) (hN : N ≤ N') : WfS N' o h t :=
  ⟨w.of_, w.lo, by have := w.hi; omega, by have := w.tl; omega, w.srt, w.fl⟩

section
variable {con : ByteArray → Bool} {m : Im}
theorem insAt_ok (hc : CodeOk m) {k : Nat} (hk : k < m.code.length) : 0 ≤ (insAt m k).op ∧ (insAt m k).op ≤ 20 ∧ 0 ≤ (insAt m k).a ∧ (insAt m k).a ≤ 1048576 ∧ 0 ≤ (insAt m k).b ∧ (insAt m k).b ≤ 1048576 ∧ (15 ≤ (insAt m k).op → (insAt m k).a < m.code.length) := by
  have : insAt m k = m.code[k] := by simp [insAt, hk]
  rw [this]
  exact hc _ (List.getElem_mem hk)
theorem tab_bd {i : Ins} (h0 : 0 ≤ i.op) (h20 : i.op ≤ 20) (ha : 0 ≤ i.a) (hb : 0 ≤ i.b) (fn free : Bool) (has height : Int) :
    let T := tab con m i fn free has height
    0 ≤ T.takes ∧ 0 ≤ T.puts ∧ T.puts ≤ 1 ∧ (i.op = 14 → T.takes = 0 ∧ T.puts = 0) ∧ (i.op = 17 → T.takes = 0 ∧ T.puts = 0 ∧ T.holds = true ∧ T.behind = true ∧ T.there = false) ∧ (i.op = 18 → T.takes = i.b ∧ T.puts = 1 ∧ T.holds = true ∧ T.behind = true ∧ T.there = false) ∧ (i.op = 14 → T.behind = true ∧ T.there = false ∧ T.holds = !free) ∧ (T.there = true → 15 ≤ i.op) := by
  have ht := takes_bd i.a
  obtain ⟨op, a, b⟩ := i
  dsimp only at *
  have hcase : op = 0 ∨ op = 1 ∨ op = 2 ∨ op = 3 ∨ op = 4 ∨ op = 5 ∨ op = 6 ∨ op = 7 ∨ op = 8 ∨ op = 9 ∨ op = 10 ∨ op = 11 ∨ op = 12 ∨ op = 13 ∨ op = 14 ∨ op = 15 ∨ op = 16 ∨ op = 17 ∨ op = 18 ∨ op = 19 ∨ op = 20 := by omega
  rcases hcase with rfl | rfl | rfl | rfl | rfl | rfl | rfl | rfl | rfl | rfl | rfl | rfl | rfl | rfl | rfl | rfl | rfl | rfl | rfl | rfl | rfl <;> simp [tab] <;> omega
/-- What follows stands as it should. -/
theorem next_wf (hc : CodeOk m) {k N : Nat} {s : RSt} (hk : k < m.code.length) (hw : WfS N s.of s.height s.tries) (ho : nextOk con m k s = true) :
    ∀ t s', (t, s') ∈ nextL con m k s → t < m.code.length ∧ WfS (N + 1) s'.of s'.height s'.tries := by
  obtain ⟨h0, h20, ha, _, hb, _, hg⟩ := insAt_ok hc hk
  have hT := tab_bd (con := con) (m := m) h0 h20 ha hb (decide (0 ≤ s.of)) s.tries.isEmpty s.has s.height
  unfold nextOk at ho
  intro t s' hm
  unfold nextL at hm
  dsimp only at hm ho hT
  generalize tab con m (insAt m k) (decide (0 ≤ s.of)) s.tries.isEmpty s.has s.height = T at *
  generalize insAt m k = i at *
  obtain ⟨t1, t2, t3, t4, t5, t6, t7, t8⟩ := hT
  simp only [Bool.and_eq_true, Bool.not_eq_true', decide_eq_false_iff_not, Bool.and_eq_false_iff] at ho
  obtain ⟨⟨hh, hfl⟩, hbh⟩ := ho
  have w1 := hw.lo
  have w2 := hw.hi
  have w3 := hw.tl
  have w4 := hw.fl
  have w5 := hw.of_
  have w6 := floor_drop hw.srt
  have htl : triesOf i.op s.height s.tries = s.tries ∨ (i.op = 14 ∧ triesOf i.op s.height s.tries = s.tries.dropLast) ∨ (i.op = 17 ∧ triesOf i.op s.height s.tries = s.tries ++ [s.height]) := by
    unfold triesOf
    split
    · exact .inr (.inl ⟨by assumption, rfl⟩)
    · split
      · exact .inr (.inr ⟨by assumption, rfl⟩)
      · exact .inl rfl
  have hW : WfS (N + 1) s.of (s.height - T.takes + T.puts) (triesOf i.op s.height s.tries) := by
    rcases htl with e | ⟨e14, e⟩ | ⟨e17, e⟩
    · rw [e]; exact ⟨w5, by omega, by omega, by omega, hw.srt, by omega⟩
    · rw [e]
      have := t4 e14
      exact ⟨w5, by omega, by omega, by rw [List.length_dropLast]; omega, sortT_drop _ _ hw.srt, by omega⟩
    · rw [e]
      have := t5 e17
      exact ⟨w5, by omega, by omega, by rw [List.length_append]; simp; omega, sortT_snoc _ _ _ hw.srt (by rw [floor_zero]; exact w4), by rw [floor_snoc]; omega⟩
  rcases List.mem_append.1 hm with hm | hm
  · rcases List.mem_append.1 hm with hm | hm
    · rcases List.mem_append.1 hm with hm | hm
      · split at hm
        · rename_i e17
          rw [List.mem_singleton] at hm
          injection hm with e1 e2
          subst e1 e2
          have := hg (by omega)
          exact ⟨by omega, ⟨w5, by show 0 ≤ s.height + 1; omega, by show s.height + 1 ≤ _; omega, by show s.tries.length ≤ _; omega, hw.srt, by show floorT s.tries ≤ s.height + 1; omega⟩⟩
        · exact absurd hm (by simp)
      · split at hm
        · rename_i e18
          rw [List.mem_singleton] at hm
          injection hm with e1 e2
          subst e1 e2
          have := hg (by omega)
          exact ⟨by omega, ⟨.inr ha, by show (0 : Int) ≤ 1; omega, by show (1 : Int) ≤ _; omega, by simp, trivial, by show floorT [] ≤ 1; simp [floorT]⟩⟩
        · exact absurd hm (by simp)
    · split at hm
      · rename_i hbt
        rw [List.mem_singleton] at hm
        injection hm with e1 e2
        subst e1 e2
        have : ¬ m.code.length ≤ k + 1 := by
          rcases hbh with h | h
          · rw [h] at hbt; cases hbt
          · exact h
        exact ⟨by omega, hW⟩
      · exact absurd hm (by simp)
  · split at hm
    · rename_i hth
      rw [List.mem_singleton] at hm
      injection hm with e1 e2
      subst e1 e2
      have := hg (t8 hth)
      exact ⟨by omega, hW⟩
    · exact absurd hm (by simp)

theorem reach_next {k t : Nat} {s s' : RSt} (h : Reach con m k s) (ho : nextOk con m k s = true) (hm : (t, s') ∈ nextL con m k s) : Reach con m t s' :=
  .step h (l := nextL con m k s) (if_pos ho) hm
structure RInv (con : ByteArray → Bool) (m : Im) (all : List (Option RSt)) : Prop where
  len : all.length = m.code.length
  pos : all[0]? = some (some ⟨-1, 0, 0, []⟩)
  reach : ∀ k s, all[k]? = some (some s) → Reach con m k s
  wf : ∀ (k : Nat) (s : RSt), all[k]? = some (some s) → WfS (cnt all) s.of s.height s.tries
def Closed (con : ByteArray → Bool) (m : Im) (all : List (Option RSt)) : Prop :=
  ∀ k s, all[k]? = some (some s) → nextOk con m k s = true ∧ ∀ t s', (t, s') ∈ nextL con m k s → all[t]? = some (some s')
theorem lt_of_some {α : Type} {l : List α} {k : Nat} {x : α} (h : l[k]? = some x) : k < l.length := by
  rw [List.getElem?_eq_some_iff] at h
  exact h.1
theorem reach_closed {all : List (Option RSt)} (h0 : all[0]? = some (some ⟨-1, 0, 0, []⟩)) (hc : Closed con m all) {k : Nat} {s : RSt} (h : Reach con m k s) : all[k]? = some (some s) := by
  induction h with
  | base => exact h0
  | step hr hn hm ih =>
    obtain ⟨h1, h2⟩ := hc _ _ ih
    rw [nextR, if_pos h1] at hn
    injection hn with hn
    subst hn
    exact h2 _ _ hm
theorem RInv.good {all : List (Option RSt)} (h : RInv con m all) (hc : Closed con m all) : Good con m := by
  have hr := fun k s => reach_closed (con := con) (m := m) h.pos hc (k := k) (s := s)
  refine ⟨?_, fun k s hk => ?_, fun k s hk => (hc _ _ (hr k s hk)).1, fun k s s' h1 h2 => ?_⟩
  · have := lt_of_some h.pos
    have := h.len
    omega
  · have := lt_of_some (hr k s hk)
    have := h.len
    omega
  · have e1 := hr k s h1
    have e2 := hr k s' h2
    rw [e1] at e2
    injection e2 with e2
    injection e2
theorem RInv.iff {all : List (Option RSt)} (h : RInv con m all) (hc : Closed con m all) (k : Nat) (s : RSt) : all[k]? = some (some s) ↔ Reach con m k s :=
  ⟨h.reach k s, reach_closed h.pos hc⟩
theorem RInv.set {all : List (Option RSt)} (h : RInv con m all) {t : Nat} {s : RSt} (ht : all[t]? = some none) (hr : Reach con m t s) (hw : WfS (cnt all + 1) s.of s.height s.tries) : RInv con m (all.set t (some s)) := by
  have hl := lt_of_some ht
  refine ⟨by rw [List.length_set]; exact h.len, ?_, fun k s' hk => ?_, fun k s' hk => ?_⟩
  · rw [List.getElem?_set]
    split
    · rename_i e
      subst e
      rw [h.pos] at ht
      injection ht with ht
      cases ht
    · exact h.pos
  · rw [List.getElem?_set] at hk
    split at hk
    · rename_i e
      subst e
      try rw [if_pos hl] at hk
      injection hk with hk
      injection hk with hk
      subst hk
      exact hr
    · exact h.reach k s' hk
  · rw [cnt_set _ _ _ ht]
    rw [List.getElem?_set] at hk
    split at hk
    · rename_i e
      subst e
      try rw [if_pos hl] at hk
      injection hk with hk
      injection hk with hk
      subst hk
      exact hw
    · exact (h.wf k s' hk).mono (by omega)
theorem RInv.one (hp : 0 < m.code.length) : RInv con m (some ⟨-1, 0, 0, []⟩ :: List.replicate (m.code.length - 1) none) := by
  have hno : ∀ k s, (some (⟨-1, 0, 0, []⟩ : RSt) :: List.replicate (m.code.length - 1) none)[k]? = some (some s) → k = 0 ∧ s = ⟨-1, 0, 0, []⟩ := by
    intro k s hk
    cases k with
    | zero => injection hk with hk; injection hk with hk; exact ⟨rfl, hk.symm⟩
    | succ k =>
      rw [List.getElem?_cons_succ, List.getElem?_replicate] at hk
      split at hk
      · injection hk with hk; cases hk
      · cases hk
  refine ⟨by simp; omega, rfl, fun k s hk => ?_, fun k s hk => ?_⟩
  · obtain ⟨rfl, rfl⟩ := hno k s hk
    exact .base
  · obtain ⟨rfl, rfl⟩ := hno k s hk
    exact ⟨.inl rfl, by simp, by simp, by simp, trivial, by simp [floorT]⟩
theorem not_good_of {k : Nat} {s s' : RSt} (h1 : Reach con m k s) (h2 : Reach con m k s') (hn : s ≠ s') : ¬ Good con m := fun h => hn (h.one k s s' h1 h2)
end
end Go.Proofs.YtejkaalhjocmgaaDoor

namespace Go.Proofs.YtejkaalhjocmgaaDoor
/-- The checker's state. -/
structure PC where
  at_ : List (Option PSt)
  has : Int → Int
  work : List Nat
  bad : Bool
def PC.badly (C : PC) : PC := ⟨C.at_, C.has, C.work, true⟩
def PC.come (n : Nat) (C : PC) (t : Nat) (s : PSt) : PC :=
  if n ≤ t then C.badly else match C.at_[t]? with
    | some (some s') => if s'.same s then C else C.badly
    | _ => ⟨C.at_.set t (some s), C.has, C.work ++ [t], C.bad⟩
def upd (h : Int → Int) (k v : Int) : Int → Int := fun x => if x = k then v else h x
def PC.begin_ (n : Nat) (C : PC) (o : Int) (b : Int) : PC :=
  if 0 < C.has o ∧ C.has o ≠ b + 1 then C.badly else PC.come n ⟨C.at_, upd C.has o (b + 1), C.work, C.bad⟩ o.toNat ⟨o, 1, []⟩
def PC.step (n : Nat) (C : PC) (s : PSt) (floor takes puts : Int) (holds : Bool) (tos : List Nat) : PC :=
  if !holds || decide (s.height - takes < floor) then C.badly else tos.foldl (fun C t => C.come n t ⟨s.of, s.height - takes + puts, s.tries⟩) C
section
variable (con : ByteArray → Bool) (m : Im)
def PC.act (C : PC) (k : Nat) (s : PSt) : PC :=
  let n := m.code.length
  let i := insAt m k
  if i.op = 14 then (if s.tries = [] then C.badly else C.step n ⟨s.of, s.height, s.tries.dropLast⟩ 0 0 0 true [k + 1])
  else if i.op = 17 then (C.step n s (floorT s.tries) 0 1 true [i.a.toNat]).come n (k + 1) ⟨s.of, s.height, s.tries ++ [s.height]⟩
  else if i.op = 18 then (C.step n s (floorT s.tries) i.b 1 true [k + 1]).begin_ n i.a i.b
  else
    let T := tab con m i (s.of != -1) s.tries.isEmpty (C.has s.of - 1) s.height
    C.step n s (floorT s.tries) T.takes T.puts T.holds ((if T.there then [i.a.toNat] else []) ++ (if T.behind then [k + 1] else []))
end
def lift (h : Int → Int) (p : PSt) : RSt := ⟨p.of, if p.of < 0 then 0 else h p.of - 1, p.height, p.tries⟩
theorem lift_inj {h : Int → Int} {p q : PSt} (e : lift h p = lift h q) : p = q := by
  obtain ⟨a, b, c⟩ := p
  obtain ⟨a', b', c'⟩ := q
  simp only [lift, RSt.mk.injEq] at e
  obtain ⟨e1, _, e2, e3⟩ := e
  subst e1 e2 e3
  rfl
section
variable {con : ByteArray → Bool} {m : Im}
/-- What holds of the checker; those of 'extra', and those on its work, are yet to be done. -/
structure PInv (con : ByteArray → Bool) (m : Im) (C : PC) (extra : Nat → Prop) : Prop where
  good : C.bad = false
  len : C.at_.length = m.code.length
  pos : C.at_[0]? = some (some ⟨-1, 0, []⟩)
  reach : ∀ k p, C.at_[k]? = some (some p) → Reach con m k (lift C.has p) ∧ (p.of = -1 ∨ 0 < C.has p.of)
  wf : ∀ (k : Nat) (p : PSt), C.at_[k]? = some (some p) → WfS (cnt C.at_) p.of p.height p.tries
  hasA : ∀ o, 0 < C.has o → 0 ≤ o ∧ C.at_[o.toNat]? = some (some ⟨o, 1, []⟩)
  has0 : ∀ o, 0 ≤ C.has o
  wk : ∀ k ∈ C.work, ∃ p, C.at_[k]? = some (some p)
  done : ∀ k p, C.at_[k]? = some (some p) → k ∈ C.work ∨ extra k ∨ (nextOk con m k (lift C.has p) = true ∧ ∀ t s', (t, s') ∈ nextL con m k (lift C.has p) → ∃ p', C.at_[t]? = some (some p') ∧ lift C.has p' = s')
/-- What was told stays told. -/
structure Ext (C C' : PC) : Prop where
  at_ : ∀ (k : Nat) (p : PSt), C.at_[k]? = some (some p) → C'.at_[k]? = some (some p)
  has : ∀ o, 0 < C.has o → C'.has o = C.has o
theorem Ext.refl (C : PC) : Ext C C := ⟨fun _ _ h => h, fun _ _ => rfl⟩
theorem Ext.trans {A B C : PC} (h : Ext A B) (k : Ext B C) : Ext A C := ⟨fun i p e => k.at_ i p (h.at_ i p e), fun o ho => by rw [k.has o (by rw [h.has o ho]; exact ho), h.has o ho]⟩
theorem Ext.lift {C C' : PC} (h : Ext C C') {p : PSt} (hp : p.of = -1 ∨ 0 < C.has p.of) : lift C'.has p = lift C.has p := by
  unfold Go.Proofs.YtejkaalhjocmgaaDoor.lift
  rcases hp with e | e
  · rw [e]; rfl
  · rw [h.has _ e]
/-- What is asked of a state that comes. -/
theorem come_ok {C : PC} {extra : Nat → Prop} (h : PInv con m C extra) {t : Nat} {p : PSt} (ht : t < m.code.length) (hr : Reach con m t (lift C.has p)) (hp : p.of = -1 ∨ 0 < C.has p.of) (hw : WfS (cnt C.at_ + 1) p.of p.height p.tries) :
    ((C.come m.code.length t p).bad = true ∧ ¬ Good con m) ∨ (PInv con m (C.come m.code.length t p) extra ∧ Ext C (C.come m.code.length t p) ∧ (C.come m.code.length t p).at_[t]? = some (some p)) := by
  unfold PC.come
  rw [if_neg (by omega)]
  have hl := h.len
  have hne : C.at_[t]? ≠ none := by
    intro e
    rw [List.getElem?_eq_none_iff] at e
    omega
  cases e : C.at_[t]? with
  | none => exact absurd e hne
  | some o =>
    cases o with
    | some q =>
      dsimp only
      cases hs : q.same p with
      | true =>
        rw [if_pos rfl]
        have := PSt.same_iff.1 hs
        subst this
        exact .inr ⟨h, Ext.refl _, e⟩
      | false =>
        rw [if_neg (by simp)]
        refine .inl ⟨rfl, not_good_of (h.reach t q e).1 hr (fun e2 => ?_)⟩
        have := PSt.same_iff.2 (lift_inj e2)
        rw [hs] at this
        cases this
    | none =>
      dsimp only
      have hset : ∀ (k : Nat) (q : PSt), (C.at_.set t (some p))[k]? = some (some q) → (k = t ∧ q = p) ∨ C.at_[k]? = some (some q) := by
        intro k q hk
        rw [List.getElem?_set] at hk
        split at hk
        · rename_i e2
          subst e2
          try rw [if_pos (by omega)] at hk
          injection hk with hk
          injection hk with hk
          exact .inl ⟨rfl, hk.symm⟩
        · exact .inr hk
      have hold : ∀ (k : Nat) (q : PSt), C.at_[k]? = some (some q) → (C.at_.set t (some p))[k]? = some (some q) := by
        intro k q hk
        rw [List.getElem?_set]
        split
        · rename_i e2
          subst e2
          rw [e] at hk
          injection hk with hk
          cases hk
        · exact hk
      have hnew : (C.at_.set t (some p))[t]? = some (some p) := by
        rw [List.getElem?_set, if_pos rfl, if_pos (by omega)]
      refine .inr ⟨⟨h.good, by rw [List.length_set]; exact h.len, hold _ _ h.pos, fun k q hk => ?_, fun k q hk => ?_, fun o ho => ?_, h.has0, fun k hk => ?_, fun k q hk => ?_⟩, ⟨hold, fun _ _ => rfl⟩, hnew⟩
      · rcases hset k q hk with ⟨rfl, rfl⟩ | hk
        · exact ⟨hr, hp⟩
        · exact h.reach k q hk
      · show WfS (cnt (C.at_.set t (some p))) _ _ _
        rw [cnt_set _ _ _ e]
        rcases hset k q hk with ⟨rfl, rfl⟩ | hk
        · exact hw
        · exact (h.wf k q hk).mono (by omega)
      · exact ⟨(h.hasA o ho).1, hold _ _ (h.hasA o ho).2⟩
      · rcases List.mem_append.1 hk with hk | hk
        · obtain ⟨q, hq⟩ := h.wk k hk
          exact ⟨q, hold _ _ hq⟩
        · rw [List.mem_singleton] at hk
          subst hk
          exact ⟨p, hnew⟩
      · rcases hset k q hk with ⟨rfl, rfl⟩ | hk
        · exact .inl (by simp)
        · rcases h.done k q hk with h1 | h1 | ⟨h1, h2⟩
          · exact .inl (List.mem_append.2 (.inl h1))
          · exact .inr (.inl h1)
          · refine .inr (.inr ⟨h1, fun t' s' hm => ?_⟩)
            obtain ⟨p', e1, e2⟩ := h2 t' s' hm
            exact ⟨p', hold _ _ e1, e2⟩
theorem begin_ok {C : PC} {extra : Nat → Prop} (h : PInv con m C extra) {o b : Int} (h0 : 0 ≤ o) (hlt : o.toNat < m.code.length) (hb : 0 ≤ b) (hr : Reach con m o.toNat ⟨o, b, 1, []⟩) :
    ((C.begin_ m.code.length o b).bad = true ∧ ¬ Good con m) ∨ (PInv con m (C.begin_ m.code.length o b) extra ∧ Ext C (C.begin_ m.code.length o b) ∧ (C.begin_ m.code.length o b).at_[o.toNat]? = some (some ⟨o, 1, []⟩) ∧ (C.begin_ m.code.length o b).has o = b + 1) := by
  unfold PC.begin_
  by_cases hc : 0 < C.has o ∧ C.has o ≠ b + 1
  · rw [if_pos hc]
    refine .inl ⟨rfl, not_good_of (h.reach _ _ (h.hasA o hc.1).2).1 hr (fun e => ?_)⟩
    simp only [lift, RSt.mk.injEq] at e
    have := e.2.1
    split at this <;> omega
  · rw [if_neg hc]
    have hl := h.len
    have hu : upd C.has o (b + 1) o = b + 1 := if_pos rfl
    have hother : ∀ x, 0 < C.has x → upd C.has o (b + 1) x = C.has x := by
      intro x hx
      unfold upd
      split
      · rename_i e; subst e; have h3 : ¬ C.has x ≠ b + 1 := fun h4 => hc ⟨hx, h4⟩
        have : C.has x = b + 1 := Decidable.of_not_not h3
        omega
      · rfl
    have hlift : ∀ p : PSt, (p.of = -1 ∨ 0 < C.has p.of) → lift (upd C.has o (b + 1)) p = lift C.has p := by
      intro p hp
      unfold lift
      rcases hp with e | e
      · rw [e]; rfl
      · rw [hother _ e]
    have hln : lift (upd C.has o (b + 1)) ⟨o, 1, []⟩ = ⟨o, b, 1, []⟩ := by
      unfold lift
      dsimp only
      rw [if_neg (by omega), hu]
      congr 1
      omega
    unfold PC.come
    rw [if_neg (by omega)]
    dsimp only
    have hne : C.at_[o.toNat]? ≠ none := by
      intro e
      rw [List.getElem?_eq_none_iff] at e
      omega
    cases e : C.at_[o.toNat]? with
    | none => exact absurd e hne
    | some x =>
      cases x with
      | some q =>
        dsimp only
        cases hs : q.same ⟨o, 1, []⟩ with
        | true =>
          rw [if_pos rfl]
          have := PSt.same_iff.1 hs
          subst this
          have hpos : 0 < C.has o := by
            rcases (h.reach _ _ e).2 with e2 | e2
            · exfalso
              have e3 : o = -1 := e2
              omega
            · exact e2
          have hsame : upd C.has o (b + 1) = C.has := by
            funext x
            unfold upd
            split
            · rename_i e2
              subst e2
              have := hother x hpos
              rw [hu] at this
              exact this
            · rfl
          rw [hsame]
          exact .inr ⟨h, Ext.refl _, e, by rw [← hother o hpos, hu]⟩
        | false =>
          rw [if_neg (by simp)]
          refine .inl ⟨rfl, not_good_of (h.reach _ q e).1 hr (fun e2 => ?_)⟩
          rw [← hlift q (h.reach _ q e).2, ← hln] at e2
          have := PSt.same_iff.2 (lift_inj e2)
          rw [hs] at this
          cases this
      | none =>
        dsimp only
        generalize hq0 : (⟨o, 1, []⟩ : PSt) = q0 at *
        have hset : ∀ (k : Nat) (q : PSt), (C.at_.set o.toNat (some q0))[k]? = some (some q) → (k = o.toNat ∧ q = q0) ∨ C.at_[k]? = some (some q) := by
          intro k q hk
          rw [List.getElem?_set] at hk
          split at hk
          · rename_i e2
            subst e2
            try rw [if_pos (by omega)] at hk
            injection hk with hk
            injection hk with hk
            exact .inl ⟨rfl, hk.symm⟩
          · exact .inr hk
        have hold : ∀ (k : Nat) (q : PSt), C.at_[k]? = some (some q) → (C.at_.set o.toNat (some q0))[k]? = some (some q) := by
          intro k q hk
          rw [List.getElem?_set]
          split
          · rename_i e2
            subst e2
            rw [e] at hk
            injection hk with hk
            cases hk
          · exact hk
        have hnew : (C.at_.set o.toNat (some q0))[o.toNat]? = some (some q0) := by
          rw [List.getElem?_set, if_pos rfl, if_pos (by omega)]
        refine .inr ⟨⟨h.good, by rw [List.length_set]; exact h.len, hold _ _ h.pos, fun k q hk => ?_, fun k q hk => ?_, fun x hx => ?_, fun x => ?_, fun k hk => ?_, fun k q hk => ?_⟩, ⟨hold, fun x hx => hother x hx⟩, hnew, hu⟩
        · show Reach con m k (lift (upd C.has o (b + 1)) q) ∧ (q.of = -1 ∨ 0 < upd C.has o (b + 1) q.of)
          rcases hset k q hk with ⟨rfl, rfl⟩ | hk
          · rw [hln]
            refine ⟨hr, .inr ?_⟩
            rw [← hq0]
            show 0 < upd C.has o (b + 1) o
            omega
          · have := h.reach k q hk
            rw [hlift q this.2]
            refine ⟨this.1, this.2.imp id (fun e2 => by rw [hother _ e2]; exact e2)⟩
        · show WfS (cnt (C.at_.set o.toNat (some q0))) _ _ _
          rw [cnt_set _ _ _ e]
          rcases hset k q hk with ⟨rfl, rfl⟩ | hk
          · rw [← hq0]
            exact ⟨.inr h0, by show (0 : Int) ≤ 1; omega, by show (1 : Int) ≤ _; omega, by simp, trivial, by show floorT [] ≤ 1; simp [floorT]⟩
          · exact (h.wf k q hk).mono (by omega)
        · have hx2 : 0 < upd C.has o (b + 1) x := hx
          by_cases e2 : x = o
          · subst e2
            rw [hq0]
            exact ⟨h0, hnew⟩
          · have : upd C.has o (b + 1) x = C.has x := if_neg e2
            rw [this] at hx2
            exact ⟨(h.hasA x hx2).1, hold _ _ (h.hasA x hx2).2⟩
        · show 0 ≤ upd C.has o (b + 1) x
          unfold upd
          split
          · omega
          · exact h.has0 x
        · rcases List.mem_append.1 hk with hk | hk
          · obtain ⟨q, hq⟩ := h.wk k hk
            exact ⟨q, hold _ _ hq⟩
          · rw [List.mem_singleton] at hk
            subst hk
            exact ⟨q0, hnew⟩
        · show _ ∨ _ ∨ (nextOk con m k (lift (upd C.has o (b + 1)) q) = true ∧ ∀ t s', (t, s') ∈ nextL con m k (lift (upd C.has o (b + 1)) q) → ∃ p', (C.at_.set o.toNat (some q0))[t]? = some (some p') ∧ lift (upd C.has o (b + 1)) p' = s')
          rcases hset k q hk with ⟨rfl, rfl⟩ | hk
          · exact .inl (by simp)
          · have hp := (h.reach k q hk).2
            rw [hlift q hp]
            rcases h.done k q hk with h1 | h1 | ⟨h1, h2⟩
            · exact .inl (List.mem_append.2 (.inl h1))
            · exact .inr (.inl h1)
            · refine .inr (.inr ⟨h1, fun t' s' hm => ?_⟩)
              obtain ⟨p', e1, e2⟩ := h2 t' s' hm
              refine ⟨p', hold _ _ e1, ?_⟩
              rw [hlift p' (h.reach _ _ e1).2]
              exact e2
end
end Go.Proofs.YtejkaalhjocmgaaDoor

namespace Go.Proofs.YtejkaalhjocmgaaDoor
theorem come_bad {n : Nat} {C : PC} (h : C.bad = true) (t : Nat) (s : PSt) : (C.come n t s).bad = true := by
  unfold PC.come
  split
  · rfl
  · split
    · split
      · exact h
      · rfl
    · exact h
theorem comes_bad {n : Nat} (s : PSt) : ∀ (l : List Nat) {C : PC}, C.bad = true → (l.foldl (fun C t => C.come n t s) C).bad = true := by
  intro l
  induction l with
  | nil => intro C h; exact h
  | cons t l ih => intro C h; exact ih (come_bad h t s)
theorem begin_bad {n : Nat} {C : PC} (h : C.bad = true) (o b : Int) : (C.begin_ n o b).bad = true := by
  unfold PC.begin_
  split
  · rfl
  · exact come_bad (C := ⟨C.at_, upd C.has o (b + 1), C.work, C.bad⟩) h _ _
theorem come_out {n : Nat} {C : PC} {t : Nat} (h : n ≤ t) (s : PSt) : (C.come n t s).bad = true := by
  unfold PC.come
  rw [if_pos h]
  rfl
section
variable {con : ByteArray → Bool} {m : Im}
theorem tab_has {i : Ins} {free : Bool} {has has' height : Int} : tab con m i false free has height = tab con m i false free has' height := by
  unfold tab
  simp only [Bool.false_and]
theorem tab_lift {i : Ins} {h : Int → Int} {p : PSt} {free : Bool} (ho : p.of = -1 ∨ 0 ≤ p.of) :
    tab con m i (p.of != -1) free (h p.of - 1) p.height = tab con m i (decide (0 ≤ (lift h p).of)) free (lift h p).has (lift h p).height := by
  rcases ho with e | e
  · have e1 : (p.of != -1) = false := by rw [e]; rfl
    have e2 : decide (0 ≤ (lift h p).of) = false := by
      show decide (0 ≤ p.of) = false
      rw [e]; rfl
    rw [e1, e2]
    exact tab_has
  · have e1 : (p.of != -1) = true := by rw [bne_iff_ne]; omega
    have e2 : decide (0 ≤ (lift h p).of) = true := decide_eq_true e
    rw [e1, e2]
    have e3 : (lift h p).has = h p.of - 1 := if_neg (by omega)
    rw [e3]
    rfl
/-- A row of states that come, one after another. -/
theorem comes_ok {p : PSt} : ∀ (l : List Nat) {C : PC} {extra : Nat → Prop}, PInv con m C extra → (∀ t ∈ l, t < m.code.length ∧ Reach con m t (lift C.has p)) → (p.of = -1 ∨ 0 < C.has p.of) → WfS (cnt C.at_ + 1) p.of p.height p.tries →
    (((l.foldl (fun C t => C.come m.code.length t p) C).bad = true ∧ ¬ Good con m) ∨ (PInv con m (l.foldl (fun C t => C.come m.code.length t p) C) extra ∧ Ext C (l.foldl (fun C t => C.come m.code.length t p) C) ∧ ∀ t ∈ l, (l.foldl (fun C t => C.come m.code.length t p) C).at_[t]? = some (some p))) := by
  intro l
  induction l with
  | nil => intro C extra h _ _ _; exact .inr ⟨h, Ext.refl _, fun _ h => absurd h (by simp)⟩
  | cons t l ih =>
    intro C extra h hl hp hw
    have ht := hl t (by simp)
    rcases come_ok h ht.1 ht.2 hp hw with ⟨h1, h2⟩ | ⟨h1, h2, h3⟩
    · exact .inl ⟨comes_bad p l h1, h2⟩
    · have hcnt : cnt C.at_ ≤ cnt (C.come m.code.length t p).at_ := by
        unfold PC.come
        split
        · exact Nat.le_refl _
        · split
          · split
            · exact Nat.le_refl _
            · exact Nat.le_refl _
          · rename_i e _ hx
            dsimp only
            cases e2 : C.at_[t]? with
            | none => exact absurd (h.len ▸ (List.getElem?_eq_none_iff.1 e2)) (by omega)
            | some o =>
              cases o with
              | none => rw [cnt_set _ _ _ e2]; omega
              | some q => exact absurd e2 (hx q)
      have hp2 : p.of = -1 ∨ 0 < (C.come m.code.length t p).has p.of := hp.imp id (fun e => by rw [h2.has _ e]; exact e)
      have hlf : lift (C.come m.code.length t p).has p = lift C.has p := h2.lift hp
      rcases ih h1 (fun x hx => by rw [hlf]; exact hl x (by simp [hx])) hp2 (hw.mono (by omega)) with ⟨g1, g2⟩ | ⟨g1, g2, g3⟩
      · exact .inl ⟨g1, g2⟩
      · refine .inr ⟨g1, h2.trans g2, fun x hx => ?_⟩
        rcases List.mem_cons.1 hx with rfl | hx
        · exact g2.at_ _ _ h3
        · exact g3 x hx
theorem step_bad {n : Nat} {C : PC} (h : C.bad = true) (s : PSt) (f k p : Int) (hd : Bool) (l : List Nat) : (C.step n s f k p hd l).bad = true := by
  unfold PC.step
  split
  · rfl
  · exact comes_bad _ l h
theorem step_out {n : Nat} {C : PC} {s : PSt} {f k p : Int} {hd : Bool} {l : List Nat} (h : hd = false ∨ s.height - k < f) : (C.step n s f k p hd l).bad = true := by
  unfold PC.step
  rw [if_pos]
  · rfl
  · rcases h with h | h
    · rw [h]; rfl
    · rw [decide_eq_true h, Bool.or_true]
theorem comes_out {n : Nat} (s : PSt) : ∀ (l : List Nat) (C : PC) {t : Nat}, t ∈ l → n ≤ t → (l.foldl (fun C t => C.come n t s) C).bad = true := by
  intro l
  induction l with
  | nil => intro C t h; exact absurd h (by simp)
  | cons x l ih =>
    intro C t h ht
    rcases List.mem_cons.1 h with rfl | h
    · exact comes_bad s l (come_out ht s)
    · exact ih _ h ht
theorem step_far {n : Nat} {C : PC} {s : PSt} {f k p : Int} {hd : Bool} {l : List Nat} {t : Nat} (h : t ∈ l) (ht : n ≤ t) : (C.step n s f k p hd l).bad = true := by
  unfold PC.step
  split
  · rfl
  · exact comes_out _ l C h ht
theorem step_in {n : Nat} {C : PC} {s : PSt} {f k p : Int} {l : List Nat} (h : ¬ s.height - k < f) : C.step n s f k p true l = l.foldl (fun C t => C.come n t ⟨s.of, s.height - k + p, s.tries⟩) C := by
  unfold PC.step
  rw [if_neg]
  simp [h]

theorem cnt_ext {C C' : PC} (h : Ext C C') (hl : C.at_.length = C'.at_.length) : cnt C.at_ ≤ cnt C'.at_ := by
  have key : ∀ (a b : List (Option PSt)), a.length = b.length → (∀ (k : Nat) (p : PSt), a[k]? = some (some p) → b[k]? = some (some p)) → cnt a ≤ cnt b := by
    intro a
    induction a with
    | nil => intro b _ _; exact Nat.zero_le _
    | cons x a ih =>
      intro b hl hb
      cases b with
      | nil => cases hl
      | cons y b =>
        have h1 := ih b (by simpa using hl) (fun k p e => by have := hb (k + 1) p (by simpa using e); simpa using this)
        simp only [cnt, List.countP_cons] at h1 ⊢
        cases x with
        | none => simp; omega
        | some p =>
          have := hb 0 p rfl
          injection this with this
          subst this
          simp
          exact h1
  exact key _ _ hl h.at_
/-- One instruction is done. -/
theorem act_ok (hc : CodeOk m) {C : PC} {k : Nat} {p : PSt} (h : PInv con m C (· = k)) (hk : C.at_[k]? = some (some p)) :
    ((C.act con m k p).bad = true ∧ ¬ Good con m) ∨ PInv con m (C.act con m k p) (fun _ => False) := by
  obtain ⟨hr, hp⟩ := h.reach k p hk
  have hw := h.wf k p hk
  have hkl : k < m.code.length := by have := lt_of_some hk; have := h.len; omega
  have hok := insAt_ok hc hkl
  have hT := tab_bd (con := con) (m := m) hok.1 hok.2.1 hok.2.2.1 hok.2.2.2.2.1 (decide (0 ≤ (lift C.has p).of)) (lift C.has p).tries.isEmpty (lift C.has p).has (lift C.has p).height
  have htl := tab_lift (con := con) (m := m) (i := insAt m k) (h := C.has) (p := p) (free := p.tries.isEmpty) hw.of_
  have hfl := floor_drop hw.srt
  -- what is left to show where all came
  have hfin : ∀ {C' : PC}, PInv con m C' (· = k) → Ext C C' → nextOk con m k (lift C.has p) = true → (∀ t s', (t, s') ∈ nextL con m k (lift C.has p) → ∃ p', C'.at_[t]? = some (some p') ∧ lift C'.has p' = s') → PInv con m C' (fun _ => False) := by
    intro C' h' he ho ha
    refine ⟨h'.good, h'.len, h'.pos, h'.reach, h'.wf, h'.hasA, h'.has0, h'.wk, fun x q hx => ?_⟩
    rcases h'.done x q hx with h1 | h1 | h1
    · exact .inl h1
    · refine .inr (.inr ?_)
      subst h1
      have := he.at_ _ _ hk
      rw [hx] at this
      injection this with this
      injection this with this
      subst this
      rw [he.lift hp]
      exact ⟨ho, ha⟩
    · exact .inr (.inr h1)
  have hno : nextOk con m k (lift C.has p) = false → ¬ Good con m := fun e hg => by
    have := hg.ok k _ hr
    rw [e] at this
    cases this
  have hgw : nextOk con m k (lift C.has p) = true → ∀ t s', (t, s') ∈ nextL con m k (lift C.has p) → t < m.code.length ∧ WfS (cnt C.at_ + 1) s'.of s'.height s'.tries := fun e => next_wf hc hkl (s := lift C.has p) hw e
  have hre : nextOk con m k (lift C.has p) = true → ∀ t s', (t, s') ∈ nextL con m k (lift C.has p) → Reach con m t s' := fun e t s' hm => reach_next hr e hm
  unfold PC.act
  dsimp only
  by_cases h14 : (insAt m k).op = 14
  · rw [if_pos h14]
    obtain ⟨_, _, _, q14, _, _, q14b, _⟩ := hT
    have hL : nextL con m k (lift C.has p) = [(k + 1, ⟨p.of, (lift C.has p).has, p.height, p.tries.dropLast⟩)] := by
      unfold nextL
      dsimp only
      rw [if_neg (by omega), if_neg (by omega), (q14b h14).1, (q14b h14).2.1, (q14 h14).1, (q14 h14).2]
      simp [triesOf, h14, lift]
    have hO : nextOk con m k (lift C.has p) = (!p.tries.isEmpty && !decide (m.code.length ≤ k + 1)) := by
      unfold nextOk
      dsimp only
      rw [(q14b h14).1, (q14b h14).2.2, (q14 h14).1]
      have : decide ((lift C.has p).height - 0 < floorT (lift C.has p).tries) = false := decide_eq_false (by have := hw.fl; show ¬ p.height - 0 < floorT p.tries; omega)
      rw [this]
      simp [lift]
    by_cases he : p.tries = []
    · rw [if_pos he]
      refine .inl ⟨rfl, hno ?_⟩
      rw [hO, he]
      rfl
    · rw [if_neg he]
      have hie : p.tries.isEmpty = false := by simp [he]
      rw [step_in (by have := hw.lo; show ¬ p.height - 0 < 0; omega)]
      by_cases hb : m.code.length ≤ k + 1
      · refine .inl ⟨comes_out _ _ _ (by simp) hb, hno ?_⟩
        rw [hO, decide_eq_true hb]
        simp
      · have hO1 : nextOk con m k (lift C.has p) = true := by rw [hO, hie, decide_eq_false hb]; rfl
        have e0 : p.height - 0 + 0 = p.height := by omega
        dsimp only
        rw [e0]
        have hmem : (k + 1, (⟨p.of, (lift C.has p).has, p.height, p.tries.dropLast⟩ : RSt)) ∈ nextL con m k (lift C.has p) := by rw [hL]; simp
        have hlq : lift C.has ⟨p.of, p.height, p.tries.dropLast⟩ = ⟨p.of, (lift C.has p).has, p.height, p.tries.dropLast⟩ := rfl
        rcases comes_ok (p := ⟨p.of, p.height, p.tries.dropLast⟩) [k + 1] h (fun t ht => by
          rw [List.mem_singleton] at ht
          subst ht
          rw [hlq]
          exact ⟨(hgw hO1 _ _ hmem).1, hre hO1 _ _ hmem⟩) hp (hgw hO1 _ _ hmem).2 with g | ⟨g1, g2, g3⟩
        · exact .inl g
        · refine .inr (hfin g1 g2 hO1 (fun t s' hm => ?_))
          rw [hL, List.mem_singleton] at hm
          injection hm with e1 e2
          subst e1 e2
          exact ⟨_, g3 _ (by simp), by rw [g2.lift (p := ⟨p.of, p.height, p.tries.dropLast⟩) hp]; rfl⟩
  · rw [if_neg h14]
    by_cases h17 : (insAt m k).op = 17
    · rw [if_pos h17]
      obtain ⟨_, _, _, _, q17, _, _, _⟩ := hT
      obtain ⟨r1, r2, r3, r4, r5⟩ := q17 h17
      have hL : nextL con m k (lift C.has p) = [((insAt m k).a.toNat, ⟨p.of, (lift C.has p).has, p.height + 1, p.tries⟩), (k + 1, ⟨p.of, (lift C.has p).has, p.height, p.tries ++ [p.height]⟩)] := by
        unfold nextL
        dsimp only
        rw [if_pos h17, if_neg (by omega), r1, r2, r4, r5]
        simp [triesOf, h17, lift]
      have hO : nextOk con m k (lift C.has p) = !decide (m.code.length ≤ k + 1) := by
        unfold nextOk
        dsimp only
        rw [r1, r3, r4]
        have : decide ((lift C.has p).height - 0 < floorT (lift C.has p).tries) = false := decide_eq_false (by have := hw.fl; show ¬ p.height - 0 < floorT p.tries; omega)
        rw [this]
        simp
      rw [step_in (by have := hw.fl; omega)]
      by_cases hb : m.code.length ≤ k + 1
      · refine .inl ⟨come_out hb _, hno ?_⟩
        rw [hO, decide_eq_true hb]
        rfl
      · have hO1 : nextOk con m k (lift C.has p) = true := by rw [hO, decide_eq_false hb]; rfl
        have e0 : p.height - 0 + 1 = p.height + 1 := by omega
        rw [e0]
        have hm1 : ((insAt m k).a.toNat, (⟨p.of, (lift C.has p).has, p.height + 1, p.tries⟩ : RSt)) ∈ nextL con m k (lift C.has p) := by rw [hL]; simp
        have hm2 : (k + 1, (⟨p.of, (lift C.has p).has, p.height, p.tries ++ [p.height]⟩ : RSt)) ∈ nextL con m k (lift C.has p) := by rw [hL]; simp
        rcases comes_ok (p := ⟨p.of, p.height + 1, p.tries⟩) [(insAt m k).a.toNat] h (fun t ht => by
          rw [List.mem_singleton] at ht
          subst ht
          exact ⟨(hgw hO1 _ _ hm1).1, hre hO1 _ _ hm1⟩) hp (hgw hO1 _ _ hm1).2 with ⟨g1, g2⟩ | ⟨g1, g2, g3⟩
        · exact .inl ⟨come_bad g1 _ _, g2⟩
        · have hp2 : p.of = -1 ∨ 0 < (([(insAt m k).a.toNat].foldl (fun C t => C.come m.code.length t ⟨p.of, p.height + 1, p.tries⟩) C).has p.of) := hp.imp id (fun e => by rw [g2.has _ e]; exact e)
          have hcn : cnt C.at_ ≤ cnt ([(insAt m k).a.toNat].foldl (fun C t => C.come m.code.length t ⟨p.of, p.height + 1, p.tries⟩) C).at_ := cnt_ext g2 (by rw [h.len, g1.len])
          rcases come_ok (p := ⟨p.of, p.height, p.tries ++ [p.height]⟩) g1 (hgw hO1 _ _ hm2).1 (by rw [g2.lift (p := ⟨p.of, p.height, p.tries ++ [p.height]⟩) hp]; exact hre hO1 _ _ hm2) hp2 ((hgw hO1 _ _ hm2).2.mono (by omega)) with f | ⟨f1, f2, f3⟩
          · exact .inl f
          · refine .inr (hfin f1 (g2.trans f2) hO1 (fun t s' hm => ?_))
            rw [hL] at hm
            rcases List.mem_cons.1 hm with hm | hm
            · injection hm with e1 e2
              subst e1 e2
              exact ⟨_, f2.at_ _ _ (g3 _ (by simp)), by rw [(g2.trans f2).lift (p := ⟨p.of, p.height + 1, p.tries⟩) hp]; rfl⟩
            · rw [List.mem_singleton] at hm
              injection hm with e1 e2
              subst e1 e2
              exact ⟨_, f3, by rw [(g2.trans f2).lift (p := ⟨p.of, p.height, p.tries ++ [p.height]⟩) hp]; rfl⟩
    · rw [if_neg h17]
      by_cases h18 : (insAt m k).op = 18
      · rw [if_pos h18]
        obtain ⟨_, _, _, _, _, q18, _, _⟩ := hT
        obtain ⟨r1, r2, r3, r4, r5⟩ := q18 h18
        have hL : nextL con m k (lift C.has p) = [((insAt m k).a.toNat, ⟨(insAt m k).a, (insAt m k).b, 1, []⟩), (k + 1, ⟨p.of, (lift C.has p).has, p.height - (insAt m k).b + 1, p.tries⟩)] := by
          unfold nextL
          dsimp only
          rw [if_neg (by omega), if_pos h18, r1, r2, r4, r5]
          simp [triesOf, h18, lift]
        have hO : nextOk con m k (lift C.has p) = (!decide (p.height - (insAt m k).b < floorT p.tries) && !decide (m.code.length ≤ k + 1)) := by
          unfold nextOk
          dsimp only
          rw [r1, r3, r4]
          rw [Bool.true_and, Bool.true_and]
          rfl
        by_cases hf : p.height - (insAt m k).b < floorT p.tries
        · refine .inl ⟨begin_bad (step_out (.inr hf)) _ _, hno ?_⟩
          rw [hO, decide_eq_true hf]
          rfl
        · by_cases hb : m.code.length ≤ k + 1
          · refine .inl ⟨begin_bad (step_far (by simp) hb) _ _, hno ?_⟩
            rw [hO, decide_eq_true hb]
            simp
          · rw [step_in hf]
            have hO1 : nextOk con m k (lift C.has p) = true := by rw [hO, decide_eq_false hf, decide_eq_false hb]; rfl
            have hm1 : ((insAt m k).a.toNat, (⟨(insAt m k).a, (insAt m k).b, 1, []⟩ : RSt)) ∈ nextL con m k (lift C.has p) := by rw [hL]; simp
            have hm2 : (k + 1, (⟨p.of, (lift C.has p).has, p.height - (insAt m k).b + 1, p.tries⟩ : RSt)) ∈ nextL con m k (lift C.has p) := by rw [hL]; simp
            rcases comes_ok (p := ⟨p.of, p.height - (insAt m k).b + 1, p.tries⟩) [k + 1] h (fun t ht => by
              rw [List.mem_singleton] at ht
              subst ht
              exact ⟨(hgw hO1 _ _ hm2).1, hre hO1 _ _ hm2⟩) hp (hgw hO1 _ _ hm2).2 with ⟨g1, g2⟩ | ⟨g1, g2, g3⟩
            · exact .inl ⟨begin_bad g1 _ _, g2⟩
            · rcases begin_ok g1 hok.2.2.1 (hgw hO1 _ _ hm1).1 hok.2.2.2.2.1 (hre hO1 _ _ hm1) with f | ⟨f1, f2, f3, f4⟩
              · exact .inl f
              · refine .inr (hfin f1 (g2.trans f2) hO1 (fun t s' hm => ?_))
                rw [hL] at hm
                rcases List.mem_cons.1 hm with hm | hm
                · injection hm with e1 e2
                  subst e1 e2
                  refine ⟨_, f3, ?_⟩
                  unfold lift
                  dsimp only
                  rw [if_neg (by have := hok.2.2.1; omega), f4]
                  congr 1
                  omega
                · rw [List.mem_singleton] at hm
                  injection hm with e1 e2
                  subst e1 e2
                  exact ⟨_, f2.at_ _ _ (g3 _ (by simp)), by rw [(g2.trans f2).lift (p := ⟨p.of, p.height - (insAt m k).b + 1, p.tries⟩) hp]; rfl⟩
      · rw [if_neg h18]
        rw [htl]
        have hL : nextL con m k (lift C.has p) = (let T := tab con m (insAt m k) (decide (0 ≤ (lift C.has p).of)) p.tries.isEmpty (lift C.has p).has (lift C.has p).height; (if T.behind then [(k + 1, (⟨p.of, (lift C.has p).has, p.height - T.takes + T.puts, p.tries⟩ : RSt))] else []) ++ (if T.there then [((insAt m k).a.toNat, (⟨p.of, (lift C.has p).has, p.height - T.takes + T.puts, p.tries⟩ : RSt))] else [])) := by
          unfold nextL
          dsimp only
          rw [if_neg h17, if_neg h18]
          simp only [List.nil_append, triesOf, if_neg h14, if_neg h17]
          rfl
        have hO : nextOk con m k (lift C.has p) = (let T := tab con m (insAt m k) (decide (0 ≤ (lift C.has p).of)) p.tries.isEmpty (lift C.has p).has (lift C.has p).height; T.holds && !decide (p.height - T.takes < floorT p.tries) && !(T.behind && decide (m.code.length ≤ k + 1))) := rfl
        dsimp only at hL hO
        generalize tab con m (insAt m k) (decide (0 ≤ (lift C.has p).of)) p.tries.isEmpty (lift C.has p).has (lift C.has p).height = T at *
        obtain ⟨tk, pt, hd, bh, th⟩ := T
        dsimp only at hL hO ⊢
        cases hd with
        | false => exact .inl ⟨step_out (.inl rfl), hno (by rw [hO]; rfl)⟩
        | true =>
          by_cases hf : p.height - tk < floorT p.tries
          · exact .inl ⟨step_out (.inr hf), hno (by rw [hO, decide_eq_true hf]; rfl)⟩
          · by_cases hb : bh = true ∧ m.code.length ≤ k + 1
            · refine .inl ⟨step_far (t := k + 1) (by rw [hb.1]; simp) hb.2, hno ?_⟩
              rw [hO, hb.1, decide_eq_true hb.2]
              simp
            · have hO1 : nextOk con m k (lift C.has p) = true := by
                rw [hO, decide_eq_false hf]
                cases bh with
                | false => rfl
                | true => rw [decide_eq_false (fun e => hb ⟨rfl, e⟩)]; rfl
              rw [step_in hf]
              have hall : ∀ t ∈ (if th = true then [(insAt m k).a.toNat] else []) ++ (if bh = true then [k + 1] else []), (t, (⟨p.of, (lift C.has p).has, p.height - tk + pt, p.tries⟩ : RSt)) ∈ nextL con m k (lift C.has p) := by
                intro t ht
                rw [hL]
                rcases List.mem_append.1 ht with ht | ht
                · split at ht
                  · rename_i e
                    rw [List.mem_singleton] at ht
                    subst ht
                    rw [if_pos e]
                    simp
                  · exact absurd ht (by simp)
                · split at ht
                  · rename_i e
                    rw [List.mem_singleton] at ht
                    subst ht
                    rw [if_pos e]
                    simp
                  · exact absurd ht (by simp)
              by_cases hemp : (if th = true then [(insAt m k).a.toNat] else []) ++ (if bh = true then [k + 1] else []) = []
              · rw [hemp]
                refine .inr (hfin h (Ext.refl _) hO1 (fun t s' hm => ?_))
                exfalso
                rw [hL] at hm
                cases th <;> cases bh <;> simp at hemp hm
              · obtain ⟨t0, ht0⟩ := List.exists_mem_of_ne_nil _ hemp
                rcases comes_ok (p := ⟨p.of, p.height - tk + pt, p.tries⟩) _ h (fun t ht => ⟨(hgw hO1 _ _ (hall t ht)).1, hre hO1 _ _ (hall t ht)⟩) hp (hgw hO1 _ _ (hall t0 ht0)).2 with g | ⟨g1, g2, g3⟩
                · exact .inl g
                · refine .inr (hfin g1 g2 hO1 (fun t s' hm => ?_))
                  have hs : s' = (⟨p.of, (lift C.has p).has, p.height - tk + pt, p.tries⟩ : RSt) ∧ t ∈ (if th = true then [(insAt m k).a.toNat] else []) ++ (if bh = true then [k + 1] else []) := by
                    rw [hL] at hm
                    cases th <;> cases bh <;> simp at hm ⊢
                    · exact ⟨hm.2, hm.1⟩
                    · exact ⟨hm.2, hm.1⟩
                    · rcases hm with ⟨e1, e2⟩ | ⟨e1, e2⟩
                      · exact ⟨e2, .inr e1⟩
                      · exact ⟨e2, .inl e1⟩
                  obtain ⟨rfl, ht⟩ := hs
                  exact ⟨_, g3 t ht, by rw [g2.lift (p := ⟨p.of, p.height - tk + pt, p.tries⟩) hp]; rfl⟩
/-- At the end. -/
theorem PInv.end_ {C : PC} (h : PInv con m C (fun _ => False)) (hw : C.work = []) : Good con m ∧ ∀ k s, Reach con m k s ↔ ∃ p, C.at_[k]? = some (some p) ∧ lift C.has p = s := by
  have hcl : ∀ k s, Reach con m k s → ∃ p, C.at_[k]? = some (some p) ∧ lift C.has p = s ∧ nextOk con m k s = true := by
    intro k s hr
    have hd : ∀ k p, C.at_[k]? = some (some p) → nextOk con m k (lift C.has p) = true ∧ ∀ t s', (t, s') ∈ nextL con m k (lift C.has p) → ∃ p', C.at_[t]? = some (some p') ∧ lift C.has p' = s' := by
      intro k p hk
      rcases h.done k p hk with e | e | e
      · rw [hw] at e; exact absurd e (by simp)
      · exact e.elim
      · exact e
    induction hr with
    | base => exact ⟨_, h.pos, rfl, (hd _ _ h.pos).1⟩
    | step _ hn hm ih =>
      obtain ⟨p, e1, e2, e3⟩ := ih
      rw [nextR, if_pos e3] at hn
      injection hn with hn
      subst hn
      rw [← e2] at hm
      obtain ⟨p', f1, f2⟩ := (hd _ _ e1).2 _ _ hm
      exact ⟨p', f1, f2, by rw [← f2]; exact (hd _ _ f1).1⟩
  refine ⟨⟨?_, fun k s hr => ?_, fun k s hr => ?_, fun k s s' h1 h2 => ?_⟩, fun k s => ⟨fun hr => ?_, fun ⟨p, e1, e2⟩ => ?_⟩⟩
  · have := lt_of_some h.pos; have := h.len; omega
  · obtain ⟨p, e1, _, _⟩ := hcl k s hr
    have := lt_of_some e1; have := h.len; omega
  · exact (hcl k s hr).choose_spec.2.2
  · obtain ⟨p, e1, e2, _⟩ := hcl k s h1
    obtain ⟨q, f1, f2, _⟩ := hcl k s' h2
    rw [e1] at f1
    injection f1 with f1
    injection f1 with f1
    rw [← e2, ← f2, f1]
  · obtain ⟨p, e1, e2, _⟩ := hcl k s hr
    exact ⟨p, e1, e2⟩
  · rw [← e2]; exact (h.reach k p e1).1
end
end Go.Proofs.YtejkaalhjocmgaaDoor

namespace Go.Proofs.YtejkaalhjocmgaaDoor
/-- What is left to be done at most. -/
def mu (n : Nat) (C : PC) : Nat := 2 * (n - cnt C.at_) + C.work.length
theorem come_mu {n : Nat} {C : PC} (hl : C.at_.length = n) (t : Nat) (s : PSt) : (C.come n t s).at_.length = n ∧ mu n (C.come n t s) ≤ mu n C := by
  unfold PC.come
  split
  · exact ⟨hl, Nat.le_refl _⟩
  · rename_i ht
    split
    · split
      · exact ⟨hl, Nat.le_refl _⟩
      · exact ⟨hl, Nat.le_refl _⟩
    · rename_i hne
      refine ⟨by simpa using hl, ?_⟩
      have e : C.at_[t]? = some none := by
        cases e : C.at_[t]? with
        | none => rw [List.getElem?_eq_none_iff] at e; omega
        | some o =>
          cases o with
          | none => rfl
          | some q => exact absurd e (hne q)
      have h1 : cnt (C.at_.set t (some s)) = cnt C.at_ + 1 := cnt_set _ _ _ e
      have h2 := cnt_le (C.at_.set t (some s))
      rw [List.length_set] at h2
      unfold mu
      simp only [List.length_append, List.length_singleton]
      omega
theorem comes_mu {n : Nat} (s : PSt) : ∀ (l : List Nat) {C : PC}, C.at_.length = n → (l.foldl (fun C t => C.come n t s) C).at_.length = n ∧ mu n (l.foldl (fun C t => C.come n t s) C) ≤ mu n C := by
  intro l
  induction l with
  | nil => intro C h; exact ⟨h, Nat.le_refl _⟩
  | cons t l ih =>
    intro C h
    have h1 := come_mu h t s
    have h2 := ih h1.1
    exact ⟨h2.1, Nat.le_trans h2.2 h1.2⟩
theorem step_mu {n : Nat} {C : PC} (hl : C.at_.length = n) (s : PSt) (f k p : Int) (hd : Bool) (l : List Nat) : (C.step n s f k p hd l).at_.length = n ∧ mu n (C.step n s f k p hd l) ≤ mu n C := by
  unfold PC.step
  split
  · exact ⟨hl, Nat.le_refl _⟩
  · exact comes_mu _ l hl
theorem begin_mu {n : Nat} {C : PC} (hl : C.at_.length = n) (o b : Int) : (C.begin_ n o b).at_.length = n ∧ mu n (C.begin_ n o b) ≤ mu n C := by
  unfold PC.begin_
  split
  · exact ⟨hl, Nat.le_refl _⟩
  · exact come_mu (C := ⟨C.at_, upd C.has o (b + 1), C.work, C.bad⟩) hl _ _
theorem act_mu {con : ByteArray → Bool} {m : Im} {C : PC} (hl : C.at_.length = m.code.length) (k : Nat) (s : PSt) : (C.act con m k s).at_.length = m.code.length ∧ mu m.code.length (C.act con m k s) ≤ mu m.code.length C := by
  unfold PC.act
  dsimp only
  split
  · split
    · exact ⟨hl, Nat.le_refl _⟩
    · exact step_mu hl _ _ _ _ _ _
  · split
    · have h1 := step_mu hl s (floorT s.tries) 0 1 true [(insAt m k).a.toNat]
      have h2 := come_mu h1.1 (k + 1) ⟨s.of, s.height, s.tries ++ [s.height]⟩
      exact ⟨h2.1, Nat.le_trans h2.2 h1.2⟩
    · split
      · have h1 := step_mu hl s (floorT s.tries) (insAt m k).b 1 true [k + 1]
        have h2 := begin_mu h1.1 (insAt m k).a (insAt m k).b
        exact ⟨h2.1, Nat.le_trans h2.2 h1.2⟩
      · exact step_mu hl _ _ _ _ _ _
/-- One thing less is to be done. -/
def PC.pop (C : PC) : PC := ⟨C.at_, C.has, C.work.dropLast, C.bad⟩
theorem pop_mu {n : Nat} {C : PC} (h : C.work ≠ []) : mu n C.pop + 1 = mu n C := by
  have := List.length_pos_iff.2 h
  unfold mu PC.pop
  simp only [List.length_dropLast]
  omega
theorem PInv.pop {con : ByteArray → Bool} {m : Im} {C : PC} (h : PInv con m C (fun _ => False)) {k : Nat} (hk : C.work.getLast? = some k) : PInv con m C.pop (· = k) := by
  have hd : ∀ x ∈ C.work, x ∈ C.work.dropLast ∨ x = k := by
    intro x hx
    have hne : C.work ≠ [] := by rintro e; rw [e] at hx; cases hx
    rw [List.getLast?_eq_some_getLast hne] at hk
    injection hk with hk
    have := List.dropLast_concat_getLast hne
    rw [← this, List.mem_append, List.mem_singleton, hk] at hx
    exact hx
  refine ⟨h.good, h.len, h.pos, h.reach, h.wf, h.hasA, h.has0, fun x hx => h.wk x (List.dropLast_subset _ hx), fun x p hx => ?_⟩
  rcases h.done x p hx with e | e | e
  · rcases hd x e with e | e
    · exact .inl e
    · exact .inr (.inl e)
  · exact e.elim
  · exact .inr (.inr e)
/-- Where it begins. -/
def PC.zero (n : Nat) : PC := ⟨List.replicate n none, fun _ => 0, [], false⟩
theorem PC.zero_come {n : Nat} (hn : 0 < n) : (PC.zero n).come n 0 ⟨-1, 0, []⟩ = ⟨(List.replicate n none).set 0 (some ⟨-1, 0, []⟩), fun _ => 0, [0], false⟩ := by
  unfold PC.come PC.zero
  rw [if_neg (by omega)]
  have : (List.replicate n (none : Option PSt))[0]? = some none := by
    rw [List.getElem?_replicate, if_pos hn]
  simp only [this, List.nil_append]
theorem cnt_none (n : Nat) : cnt (List.replicate n (none : Option PSt)) = 0 := by
  unfold cnt
  rw [List.countP_eq_zero]
  intro x hx
  rw [List.eq_of_mem_replicate hx]
  simp
theorem PC.zero_mu (n : Nat) : mu n (PC.zero n) = 2 * n := by
  unfold mu PC.zero
  rw [cnt_none]
  simp
theorem zero_bad {n : Nat} (hn : n = 0) : ((PC.zero n).come n 0 ⟨-1, 0, []⟩).bad = true := by
  unfold PC.come
  rw [if_pos (by omega)]
  rfl
theorem PInv.zero {con : ByteArray → Bool} {m : Im} (hn : 0 < m.code.length) : PInv con m ((PC.zero m.code.length).come m.code.length 0 ⟨-1, 0, []⟩) (fun _ => False) := by
  rw [PC.zero_come hn]
  have hset : ∀ (k : Nat) (p : PSt), ((List.replicate m.code.length none).set 0 (some (⟨-1, 0, []⟩ : PSt)))[k]? = some (some p) → k = 0 ∧ p = ⟨-1, 0, []⟩ := by
    intro k p hk
    rw [List.getElem?_set] at hk
    split at hk
    · rename_i e
      split at hk
      · injection hk with hk; injection hk with hk; exact ⟨e.symm, hk.symm⟩
      · cases hk
    · rw [List.getElem?_replicate] at hk
      split at hk
      · injection hk with hk; cases hk
      · cases hk
  have h0 : ((List.replicate m.code.length none).set 0 (some (⟨-1, 0, []⟩ : PSt)))[0]? = some (some ⟨-1, 0, []⟩) := by
    rw [List.getElem?_set, if_pos rfl, if_pos (by simpa using hn)]
  have hc : cnt ((List.replicate m.code.length none).set 0 (some (⟨-1, 0, []⟩ : PSt))) = 1 := by
    rw [cnt_set _ _ _ (by rw [List.getElem?_replicate, if_pos hn]), cnt_none]
  refine ⟨rfl, by simp, h0, fun k p hk => ?_, fun k p hk => ?_, fun o ho => ?_, fun o => Int.le_refl _, fun k hk => ?_, fun k p hk => ?_⟩
  · obtain ⟨rfl, rfl⟩ := hset k p hk
    exact ⟨Reach.base, .inl rfl⟩
  · obtain ⟨rfl, rfl⟩ := hset k p hk
    exact ⟨.inl rfl, Int.le_refl _, by dsimp only; omega, by simp, trivial, by simp [floorT]⟩
  · exact absurd ho (by dsimp only; omega)
  · rw [List.mem_singleton] at hk
    subst hk
    exact ⟨_, h0⟩
  · obtain ⟨rfl, rfl⟩ := hset k p hk
    exact .inl (by simp)
theorem not_good_none {con : ByteArray → Bool} {m : Im} (hn : m.code.length = 0) : ¬ Good con m := fun h => by have := h.pos; omega
end Go.Proofs.YtejkaalhjocmgaaDoor

namespace Go.Proofs.YtejkaalhjocmgaaDoor
section
variable {con : ByteArray → Bool} {m : Im}
/-- What follows a place is there. -/
def ClAt (con : ByteArray → Bool) (m : Im) (all : List (Option RSt)) (k : Nat) : Prop := ∀ s, all[k]? = some (some s) → nextOk con m k s = true ∧ ∀ t s', (t, s') ∈ nextL con m k s → all[t]? = some (some s')
/-- What holds within a round: ahead of place k. -/
structure RPass (con : ByteArray → Bool) (m : Im) (c0 : Nat) (all : List (Option RSt)) (new : Bool) (k : Nat) : Prop where
  inv : RInv con m all
  old : new = false → ∀ i, i < k → ClAt con m all i
  up : new = true → c0 < cnt all
  mono : c0 ≤ cnt all
/-- What holds while what follows a place is taken, one after the other. -/
structure RStep (con : ByteArray → Bool) (m : Im) (c0 : Nat) (all : List (Option RSt)) (new : Bool) (k : Nat) (s : RSt) (j : Nat) : Prop where
  inv : RInv con m all
  here : all[k]? = some (some s)
  old : new = false → ∀ i, i < k → ClAt con m all i
  done : new = false → ∀ q t s', q < j → (nextL con m k s)[q]? = some (t, s') → all[t]? = some (some s')
  up : new = true → c0 < cnt all
  mono : c0 ≤ cnt all
theorem RPass.start {all : List (Option RSt)} (h : RInv con m all) : RPass con m (cnt all) all false 0 :=
  ⟨h, fun _ i hi => absurd hi (by omega), fun h => (by cases h), Nat.le_refl _⟩
theorem RPass.none_ {c0 : Nat} {all : List (Option RSt)} {new : Bool} {k : Nat} (h : RPass con m c0 all new k) (hk : all[k]? = some none) : RPass con m c0 all new (k + 1) := by
  refine ⟨h.inv, fun hn i hi => ?_, h.up, h.mono⟩
  by_cases hik : i < k
  · exact h.old hn i hik
  · obtain rfl : i = k := by omega
    intro s hs
    rw [hk] at hs
    injection hs with hs
    cases hs
theorem RPass.bad {c0 : Nat} {all : List (Option RSt)} {new : Bool} {k : Nat} {s : RSt} (h : RPass con m c0 all new k) (hk : all[k]? = some (some s)) (ho : nextOk con m k s = false) : ¬ Good con m := fun hg => by
  have := hg.ok k s (h.inv.reach k s hk)
  rw [ho] at this
  cases this
theorem RPass.step {c0 : Nat} {all : List (Option RSt)} {new : Bool} {k : Nat} {s : RSt} (h : RPass con m c0 all new k) (hk : all[k]? = some (some s)) : RStep con m c0 all new k s 0 :=
  ⟨h.inv, hk, h.old, fun _ q _ _ hq => absurd hq (by omega), h.up, h.mono⟩
theorem RStep.lt (hc : CodeOk m) {c0 : Nat} {all : List (Option RSt)} {new : Bool} {k j : Nat} {s : RSt} (h : RStep con m c0 all new k s j) (ho : nextOk con m k s = true) {t : Nat} {s' : RSt} (hm : (t, s') ∈ nextL con m k s) : t < m.code.length :=
  (next_wf hc (by have := lt_of_some h.here; have := h.inv.len; omega) (h.inv.wf k s h.here) ho t s' hm).1
theorem RStep.bad {c0 : Nat} {all : List (Option RSt)} {new : Bool} {k j : Nat} {s : RSt} (h : RStep con m c0 all new k s j) (ho : nextOk con m k s = true) {t : Nat} {s' s'' : RSt} (hm : (t, s') ∈ nextL con m k s) (ht : all[t]? = some (some s'')) (hs : s''.same s' = false) : ¬ Good con m :=
  not_good_of (h.inv.reach t s'' ht) (reach_next (h.inv.reach k s h.here) ho hm) (fun e => by have := RSt.same_iff.2 e; rw [hs] at this; cases this)
theorem RStep.same {c0 : Nat} {all : List (Option RSt)} {new : Bool} {k j : Nat} {s : RSt} (h : RStep con m c0 all new k s j) {t : Nat} {s' s'' : RSt} (hm : (nextL con m k s)[j]? = some (t, s')) (ht : all[t]? = some (some s'')) (hs : s''.same s' = true) : all.set t (some s') = all ∧ RStep con m c0 all new k s (j + 1) := by
  obtain rfl := RSt.same_iff.1 hs
  refine ⟨?_, h.inv, h.here, h.old, fun hn q t' s1 hq hq2 => ?_, h.up, h.mono⟩
  · apply List.ext_getElem?
    intro i
    rw [List.getElem?_set]
    split
    · rename_i e
      subst e
      rw [if_pos (lt_of_some ht), ht]
    · rfl
  · by_cases hqj : q < j
    · exact h.done hn q t' s1 hqj hq2
    · obtain rfl : q = j := by omega
      rw [hm] at hq2
      injection hq2 with hq2
      injection hq2 with e1 e2
      subst e1 e2
      exact ht
theorem RStep.new_ (hc : CodeOk m) {c0 : Nat} {all : List (Option RSt)} {new : Bool} {k j : Nat} {s : RSt} (h : RStep con m c0 all new k s j) (ho : nextOk con m k s = true) {t : Nat} {s' : RSt} (hm : (nextL con m k s)[j]? = some (t, s')) (ht : all[t]? = some none) : RStep con m c0 (all.set t (some s')) true k s (j + 1) := by
  have hmem := List.mem_of_getElem? hm
  have hw := next_wf hc (by have := lt_of_some h.here; have := h.inv.len; omega) (h.inv.wf k s h.here) ho t s' hmem
  have hcnt : cnt (all.set t (some s')) = cnt all + 1 := cnt_set _ _ _ ht
  have hkt : k ≠ t := by rintro rfl; rw [h.here] at ht; injection ht with ht; cases ht
  refine ⟨h.inv.set ht (reach_next (h.inv.reach k s h.here) ho hmem) hw.2, ?_, fun h => (by cases h), fun h => (by cases h), fun _ => by have := h.mono; omega, by have := h.mono; omega⟩
  rw [List.getElem?_set, if_neg (fun e => hkt e.symm)]
  exact h.here
theorem RStep.end_ {c0 : Nat} {all : List (Option RSt)} {new : Bool} {k : Nat} {s : RSt} (h : RStep con m c0 all new k s (nextL con m k s).length) (ho : nextOk con m k s = true) : RPass con m c0 all new (k + 1) := by
  refine ⟨h.inv, fun hn i hi => ?_, h.up, h.mono⟩
  by_cases hik : i < k
  · exact h.old hn i hik
  · obtain rfl : i = k := by omega
    intro s2 hs
    rw [h.here] at hs
    injection hs with hs
    injection hs with hs
    subst hs
    refine ⟨ho, fun t s' hm => ?_⟩
    obtain ⟨q, hq⟩ := List.mem_iff_getElem?.1 hm
    exact h.done hn q t s' (lt_of_some hq) hq
theorem RPass.end_ {c0 : Nat} {all : List (Option RSt)} (h : RPass con m c0 all false m.code.length) : Good con m ∧ ∀ k s, all[k]? = some (some s) ↔ Reach con m k s := by
  have hcl : Closed con m all := fun k s hs => h.old rfl k (by have := lt_of_some hs; have := h.inv.len; omega) s hs
  exact ⟨h.inv.good hcl, fun k s => h.inv.iff hcl k s⟩
end
end Go.Proofs.YtejkaalhjocmgaaDoor
