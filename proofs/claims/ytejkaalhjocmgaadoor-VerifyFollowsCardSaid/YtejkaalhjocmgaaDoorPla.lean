/-
  The plain law of layer 19: what the checker and the document's States compute, with no program in sight.
-/
namespace Go.Proofs.YtejkaalhjocmgaaDoor

structure Ins where
  op : Int
  a : Int
  b : Int
structure Cst where
  isText : Bool
  num : Int
  text : ByteArray
structure Im where
  pool : List Cst
  code : List Ins
/-- How things stand, to the checker. -/
structure PSt where
  of : Int
  height : Int
  tries : List Int
/-- How things stand, to the document. -/
structure RSt where
  of : Int
  has : Int
  height : Int
  tries : List Int
def PSt.same (a b : PSt) : Bool := a.of == b.of && a.height == b.height && a.tries == b.tries
def RSt.same (a b : RSt) : Bool := a.of == b.of && a.has == b.has && a.height == b.height && a.tries == b.tries
theorem PSt.same_iff {a b : PSt} : a.same b = true ↔ a = b := by
  obtain ⟨a1, a2, a3⟩ := a
  obtain ⟨b1, b2, b3⟩ := b
  simp [PSt.same, and_assoc]
theorem RSt.same_iff {a b : RSt} : a.same b = true ↔ a = b := by
  obtain ⟨a1, a2, a3, a4⟩ := a
  obtain ⟨b1, b2, b3, b4⟩ := b
  simp [RSt.same, and_assoc]

def takesI (p : Int) : Int := if p < 0 ∨ 13 < p then 0 else if p < 8 ∨ p = 11 then 2 else 1
theorem takes_bd (p : Int) : 0 ≤ takesI p ∧ takesI p ≤ 2 := by unfold takesI; split <;> (try split) <;> omega

section
variable (con : ByteArray → Bool) (m : Im)

def insAt (k : Nat) : Ins := m.code.getD k ⟨0, 0, 0⟩
def conAt (k : Int) : Bool := match m.pool[k.toNat]? with | some c => c.isText && con c.text | none => false
def numAt (k : Int) : Bool := match m.pool[k.toNat]? with | some c => !c.isText | none => false
def floorT (t : List Int) : Int := t.getLast?.getD 0

/-- What an instruction takes, puts, whether something holds; whether what is behind it, and what it names, follow. -/
structure Tab where
  takes : Int
  puts : Int
  holds : Bool
  behind : Bool
  there : Bool
def tab (i : Ins) (fn free : Bool) (has height : Int) : Tab :=
  if i.op = 0 then ⟨1, 0, !fn && free, false, false⟩
  else if i.op = 1 then ⟨0, 1, decide (i.a < m.pool.length), true, false⟩
  else if i.op = 2 then ⟨0, 1, decide (i.a < height), true, false⟩
  else if i.op = 3 then ⟨0, 1, fn && decide (i.a < has), true, false⟩
  else if i.op = 4 then ⟨0, 1, fn, true, false⟩
  else if i.op = 5 then ⟨i.a, 0, true, true, false⟩
  else if i.op = 6 then ⟨i.a + 1, 1, true, true, false⟩
  else if i.op = 7 then ⟨2, 1, true, true, false⟩
  else if i.op = 8 then ⟨2, 0, fn && free, false, false⟩
  else if i.op = 9 then ⟨1, 0, fn && free, false, false⟩
  else if i.op = 10 then ⟨i.b, 1, conAt con m i.a && decide (i.b ≤ 8), true, false⟩
  else if i.op = 11 then ⟨1, 1, decide (i.a < 8), true, false⟩
  else if i.op = 12 then ⟨takesI i.a, 1, decide (0 < takesI i.a), true, false⟩
  else if i.op = 13 then ⟨1, 0, true, false, false⟩
  else if i.op = 14 then ⟨0, 0, !free, true, false⟩
  else if i.op = 15 then ⟨0, 0, true, false, true⟩
  else if i.op = 16 then ⟨1, 0, true, true, true⟩
  else if i.op = 17 then ⟨0, 0, true, true, false⟩
  else if i.op = 18 then ⟨i.b, 1, true, true, false⟩
  else if i.op = 19 then ⟨0, 0, decide (0 < height) && conAt con m i.b, true, true⟩
  else ⟨0, 0, decide (0 < height) && numAt m i.b, true, true⟩
def triesOf (op height : Int) (t : List Int) : List Int := if op = 14 then t.dropLast else if op = 17 then t ++ [height] else t
/-- What follows, but for whether there is anything behind. -/
def nextL (k : Nat) (s : RSt) : List (Nat × RSt) :=
  let i := insAt m k
  let T := tab con m i (decide (0 ≤ s.of)) s.tries.isEmpty s.has s.height
  let t : RSt := ⟨s.of, s.has, s.height - T.takes + T.puts, triesOf i.op s.height s.tries⟩
  (if i.op = 17 then [(i.a.toNat, (⟨s.of, s.has, s.height + 1, s.tries⟩ : RSt))] else []) ++ (if i.op = 18 then [(i.a.toNat, (⟨i.a, i.b, 1, []⟩ : RSt))] else []) ++
    (if T.behind then [(k + 1, t)] else []) ++ (if T.there then [(i.a.toNat, t)] else [])
def nextOk (k : Nat) (s : RSt) : Bool :=
  let T := tab con m (insAt m k) (decide (0 ≤ s.of)) s.tries.isEmpty s.has s.height
  T.holds && !decide (s.height - T.takes < floorT s.tries) && !(T.behind && decide (m.code.length ≤ k + 1))
def nextR (k : Nat) (s : RSt) : Option (List (Nat × RSt)) := if nextOk con m k s then some (nextL con m k s) else none

inductive Reach : Nat → RSt → Prop
  | base : Reach 0 ⟨-1, 0, 0, []⟩
  | step {k : Nat} {s : RSt} {l : List (Nat × RSt)} {t : Nat} {s' : RSt} : Reach k s → nextR con m k s = some l → (t, s') ∈ l → Reach t s'
/-- It may be run. -/
structure Good : Prop where
  pos : 0 < m.code.length
  lt : ∀ k s, Reach con m k s → k < m.code.length
  ok : ∀ k s, Reach con m k s → nextOk con m k s = true
  one : ∀ k s s', Reach con m k s → Reach con m k s' → s = s'

/-- What Check promises of the instructions. -/
def CodeOk : Prop := ∀ i ∈ m.code, 0 ≤ i.op ∧ i.op ≤ 20 ∧ 0 ≤ i.a ∧ i.a ≤ 1048576 ∧ 0 ≤ i.b ∧ i.b ≤ 1048576 ∧ (15 ≤ i.op → i.a < m.code.length)
/-- Tries are in order, and none is higher than the stack. -/
def SortT : Int → List Int → Prop
  | _, [] => True
  | lo, x :: l => lo ≤ x ∧ SortT x l
structure WfS (N : Nat) (of height : Int) (tries : List Int) : Prop where
  of_ : of = -1 ∨ 0 ≤ of
  lo : 0 ≤ height
  hi : height ≤ N
  tl : tries.length ≤ N
  srt : SortT 0 tries
  fl : floorT tries ≤ height
end
theorem floor_snoc (l : List Int) (x : Int) : floorT (l ++ [x]) = x := by simp [floorT]
theorem sortT_snoc : ∀ (l : List Int) (lo x : Int), SortT lo l → floorT (lo :: l) ≤ x → SortT lo (l ++ [x]) := by
  intro l
  induction l with
  | nil => intro lo x _ h; exact ⟨by simpa [floorT] using h, trivial⟩
  | cons y l ih =>
    intro lo x h hx
    refine ⟨h.1, ih y x h.2 ?_⟩
    simpa [floorT, List.getLast?_cons] using hx
theorem sortT_drop : ∀ (l : List Int) (lo : Int), SortT lo l → SortT lo l.dropLast := by
  intro l
  induction l with
  | nil => intro lo h; exact h
  | cons y l ih =>
    intro lo h
    cases l with
    | nil => exact trivial
    | cons z l => exact ⟨h.1, ih y h.2⟩
theorem sortT_floor : ∀ (l : List Int) (lo : Int), SortT lo l → floorT (lo :: l.dropLast) ≤ floorT (lo :: l) ∧ lo ≤ floorT (lo :: l) := by
  intro l
  induction l with
  | nil => intro lo _; exact ⟨Int.le_refl _, by simp [floorT]⟩
  | cons y l ih =>
    intro lo h
    have h2 := ih y h.2
    have e1 : floorT (lo :: y :: l) = floorT (y :: l) := by simp [floorT, List.getLast?_cons]
    cases l with
    | nil =>
      rw [e1]
      have := h.1
      simp [floorT]
      omega
    | cons z l =>
      have e2 : floorT (lo :: (y :: z :: l).dropLast) = floorT (y :: (z :: l).dropLast) := by simp [floorT, List.getLast?_cons]
      have := h.1
      rw [e1, e2]
      exact ⟨h2.1, by omega⟩
theorem floor_zero (l : List Int) : floorT (0 :: l) = floorT l := by
  cases l <;> simp [floorT, List.getLast?_cons]
theorem floor_drop {l : List Int} (h : SortT 0 l) : floorT l.dropLast ≤ floorT l ∧ 0 ≤ floorT l := by
  have := sortT_floor l 0 h
  rwa [floor_zero, floor_zero] at this
end Go.Proofs.YtejkaalhjocmgaaDoor
