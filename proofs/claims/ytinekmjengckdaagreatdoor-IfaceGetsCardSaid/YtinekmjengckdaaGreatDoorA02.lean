/-
  Tokens: what a byte is, the words of the language, which texts are names and operators; with no program in sight. The plain model of layers 9, 10, 23: tokens, trees, types, declarations; with no program in sight. Plain laws on names that are told twice, and on where constructors stand. Plain laws on the parts of types of functions. Plain laws on the variables of constructors' types, and on declarations with one more.
-/
import Derived.Test.YtinekmjengckdaaGreatDoorA01
import Derived.Lib.SlicesS
namespace Go.Proofs.YtinekmjengckdaaGreatDoor
open Go.RowKit
set_option maxHeartbeats 1000000
set_option maxRecDepth 100000
def wordsBA : List ByteArray := [⟨#[108, 101, 116]⟩, ⟨#[114, 101, 99]⟩, ⟨#[105, 110]⟩, ⟨#[102, 117, 110]⟩, ⟨#[105, 102]⟩, ⟨#[116, 104, 101, 110]⟩, ⟨#[101, 108, 115, 101]⟩, ⟨#[109, 97, 116, 99, 104]⟩, ⟨#[119, 105, 116, 104]⟩, ⟨#[101, 110, 100]⟩, ⟨#[114, 97, 105, 115, 101]⟩, ⟨#[116, 114, 121]⟩, ⟨#[111, 112, 101, 110]⟩, ⟨#[116, 121, 112, 101]⟩, ⟨#[111, 102]⟩, ⟨#[105, 110, 102, 105, 120, 108]⟩, ⟨#[105, 110, 102, 105, 120, 114]⟩, ⟨#[105, 110, 102, 105, 120]⟩, ⟨#[45, 62]⟩, ⟨#[61]⟩, ⟨#[124]⟩, ⟨#[40]⟩, ⟨#[41]⟩, ⟨#[95]⟩, ⟨#[59, 59]⟩]
def sgL : List Nat := [33, 36, 37, 38, 42, 43, 45, 47, 58, 60, 61, 62, 63, 64, 94, 124]
def isB (c : Nat) : Int := if c ∈ sgL then 5 else if 97 ≤ c ∧ c ≤ 122 then 1 else if 65 ≤ c ∧ c ≤ 90 then 2 else if 48 ≤ c ∧ c ≤ 57 then 3 else if c = 95 ∨ c = 39 then 4 else 0
theorem sg_notin (c : Nat) (h : ∀ k, k < 16 → sgL.getD k 0 ≠ c) : c ∉ sgL := by
  intro hm
  obtain ⟨k, hk, e⟩ := List.getElem_of_mem hm
  have h2 : k < 16 := hk
  apply h k h2
  rw [List.getD_eq_getElem?_getD, List.getElem?_eq_getElem hk, e]
  rfl
theorem sg_at : ∀ (k : Nat) (h : k < 16), ((⟨#[33, 36, 37, 38, 42, 43, 45, 47, 58, 60, 61, 62, 63, 64, 94, 124]⟩ : ByteArray)[k]'h).toNat = sgL.getD k 0 := by decide
theorem isB_rest (c : Nat) (h : c ∉ sgL) : isB c = if 97 ≤ c ∧ c ≤ 122 then 1 else if 65 ≤ c ∧ c ≤ 90 then 2 else if 48 ≤ c ∧ c ≤ 57 then 3 else if c = 95 ∨ c = 39 then 4 else 0 := if_neg h
def keyB (s : ByteArray) : Bool := Lib.containsS wordsBA s
theorem bytes_eq {a b : ByteArray} (h : a.toList = b.toList) : a = b := by
  rw [ByteArray.toList_eq, ByteArray.toList_eq] at h
  obtain ⟨⟨a⟩⟩ := a
  obtain ⟨⟨b⟩⟩ := b
  obtain rfl : a = b := h
  rfl
def innerB (c : Nat) : Bool := decide (1 ≤ isB c ∧ isB c ≤ 4)
def spanN (lo hi : Int) (s : ByteArray) : Nat := (s.data.toList.takeWhile (fun b => decide (lo ≤ isB b.toNat ∧ isB b.toNat ≤ hi))).length
def allInner (s : ByteArray) : Bool := s.data.toList.all (fun b => innerB b.toNat)
theorem span_stop {α : Type} (p : α → Bool) : ∀ (l : List α) (k : Nat), k ≤ l.length → (∀ j (h : j < l.length), j < k → p l[j] = true) → (∀ (h : k < l.length), p l[k] = false) → (l.takeWhile p).length = k := by
  intro l
  induction l with
  | nil => intro k hk _ _; simp at hk; simp [hk]
  | cons x l ih =>
    intro k hk h1 h2
    cases k with
    | zero =>
      have := h2 (by simp)
      simp at this
      simp [this]
    | succ k =>
      have hx := h1 0 (by simp) (by omega)
      simp at hx
      rw [List.takeWhile_cons, if_pos hx, List.length_cons, ih k (by simpa using hk) (fun j h hj => by have := h1 (j + 1) (by simpa using h) (by omega); simpa using this) (fun h => by have := h2 (by simpa using h); simpa using this)]
theorem take_all {α : Type} (p : α → Bool) : ∀ l : List α, l.all p = true → l.takeWhile p = l := by
  intro l
  induction l with
  | nil => intro _; rfl
  | cons x l ih =>
    intro h
    rw [List.all_cons, Bool.and_eq_true] at h
    rw [List.takeWhile_cons, if_pos h.1, ih h.2]
theorem span_all {α : Type} (p : α → Bool) (l : List α) : (((l.takeWhile p).length : Int) == (l.length : Int)) = l.all p := by
  rw [Bool.eq_iff_iff, beq_iff_eq]
  constructor
  · intro h
    induction l with
    | nil => rfl
    | cons x l ih =>
      rw [List.takeWhile_cons] at h
      split at h
      · rename_i hx
        simp only [List.length_cons] at h
        rw [List.all_cons, hx, Bool.true_and]
        exact ih (by omega)
      · simp at h
        omega
  · intro h
    rw [take_all p l h]
def signB (c : Nat) : Bool := decide (5 ≤ isB c ∧ isB c ≤ 5)
def allSign (s : ByteArray) : Bool := s.data.toList.all (fun b => signB b.toNat)
def headK (k : Int) (s : ByteArray) : Bool := match s.data.toList with | [] => false | b :: _ => isB b.toNat == k
def nameB (k : Int) (s : ByteArray) : Bool := headK k s && allInner s && !keyB s
def opB (s : ByteArray) : Bool := !s.toList.isEmpty && allSign s && !keyB s
theorem headK_some (k : Int) (s : ByteArray) (h : 0 < s.size) : headK k s = (isB (s[0]).toNat == k) := by
  unfold headK
  obtain ⟨⟨l⟩⟩ := s
  cases l with
  | nil => exact absurd (show 0 < 0 from h) (Nat.lt_irrefl 0)
  | cons b l => rfl
theorem empty_iff (s : ByteArray) : s.toList.isEmpty = decide (s.size = 0) := by
  rw [ByteArray.toList_eq]
  obtain ⟨⟨l⟩⟩ := s
  cases l with
  | nil => rfl
  | cons b l => exact (decide_eq_false (show ¬ l.length + 1 = 0 by omega)).symm
theorem headK_none (k : Int) (s : ByteArray) (h : s.size = 0) : headK k s = false := by
  unfold headK
  obtain ⟨⟨l⟩⟩ := s
  cases l with
  | nil => rfl
  | cons b l => exact absurd (show l.length + 1 = 0 from h) (by omega)
theorem name_split (k : Int) (s : ByteArray) : nameB k s = ((!s.toList.isEmpty && allInner s) && headK k s && !keyB s) := by
  have h : nameB k s = (headK k s && allInner s && !keyB s) := rfl
  rw [h, empty_iff]
  by_cases h0 : s.size = 0
  · rw [headK_none k s h0, decide_eq_true h0]
    simp
  · rw [decide_eq_false h0]
    cases headK k s <;> cases allInner s <;> simp
def smallB (c : Nat) : Bool := decide (97 ≤ c ∧ c ≤ 122)
def greatB (c : Nat) : Bool := decide (65 ≤ c ∧ c ≤ 90)
def digitB (c : Nat) : Bool := decide (48 ≤ c ∧ c ≤ 57)
theorem inner_eq (c : Nat) (hc : c < 256) : innerB c = (smallB c || greatB c || digitB c || c == 95 || c == 39) := by
  revert c
  decide
theorem great_eq (c : Nat) (hc : c < 256) : greatB c = (isB c == 2) := by
  revert c
  decide
theorem inner_high (c : Nat) (hc : c < 256) (h : 126 < c) : innerB c = false := by
  revert c
  decide
theorem small_eq (c : Nat) (hc : c < 256) : smallB c = (isB c == 1) := by
  revert c
  decide
theorem sign_eq (c : Nat) : signB c = sgL.contains c := by
  unfold signB isB
  rw [Bool.eq_iff_iff, decide_eq_true_eq, List.contains_iff_mem]
  constructor
  · intro h
    split at h
    · assumption
    · split at h
      · omega
      · split at h
        · omega
        · split at h
          · omega
          · split at h <;> omega
  · intro h
    rw [if_pos h]
    omega
theorem sign_high (c : Nat) (h : 126 < c) : signB c = false := by
  rw [sign_eq, ← Bool.not_eq_true, List.contains_iff_mem]
  intro hm
  have : ∀ x ∈ sgL, x ≤ 126 := by decide
  have := this c hm
  omega
end Go.Proofs.YtinekmjengckdaaGreatDoor

namespace Go.Proofs.YtinekmjengckdaaGreatDoor
structure Nd where
  kind : Int
  text : ByteArray
  num : Int
  kids : Int
structure Ct where
  name : ByteArray
  args : List (List Nd)
structure Dt where
  name : ByteArray
  params : Int
  cons : List Ct
structure Sg where
  name : ByteArray
  type : List Nd
structure Fx where
  op : ByteArray
  level : Int
  side : Int
def Nd.same (a b : Nd) : Bool := a.kind == b.kind && decide (a.text = b.text) && a.num == b.num && a.kids == b.kids
theorem Nd.same_iff {a b : Nd} : a.same b = true ↔ a = b := by
  obtain ⟨a1, a2, a3, a4⟩ := a
  obtain ⟨b1, b2, b3, b4⟩ := b
  simp [Nd.same, and_assoc]
theorem Nd.same_false {a b : Nd} : a.same b = false ↔ a ≠ b := by
  rw [← Bool.not_eq_true, Nd.same_iff]
def sameN : List Nd → List Nd → Bool
  | [], [] => true
  | a :: l, b :: m => a.same b && sameN l m
  | _, _ => false
theorem sameN_iff : ∀ {l m : List Nd}, sameN l m = true ↔ l = m
  | [], [] => by simp [sameN]
  | [], b :: m => by simp [sameN]
  | a :: l, [] => by simp [sameN]
  | a :: l, b :: m => by
    rw [sameN, Bool.and_eq_true, Nd.same_iff, sameN_iff, List.cons.injEq]
def eat : List Nd → Nat → Option Nat
  | [], k => if k = 0 then some 0 else none
  | n :: l, k => if k = 0 then some 0 else if n.kids < 0 then none else (eat l (k - 1 + n.kids.toNat)).map (· + 1)
theorem eat_zero (l : List Nd) : eat l 0 = some 0 := by cases l <;> simp [eat]
theorem eat_le : ∀ {l : List Nd} {k n : Nat}, eat l k = some n → k ≤ n ∧ n ≤ l.length
  | [], k, n, h => by
    unfold eat at h
    split at h
    · injection h with h; omega
    · cases h
  | x :: l, k, n, h => by
    unfold eat at h
    split at h
    · injection h with h; omega
    · split at h
      · cases h
      · rw [Option.map_eq_some_iff] at h
        obtain ⟨q, hq, rfl⟩ := h
        have := eat_le hq
        simp only [List.length_cons]
        omega
theorem eat_short {l : List Nd} {k : Nat} (h : l.length < k) : eat l k = none := by
  cases e : eat l k with
  | none => rfl
  | some n => have := eat_le e; omega
theorem eat_add : ∀ (l : List Nd) (a b : Nat), eat l (a + b) = (eat l a).bind fun n => (eat (l.drop n) b).map (n + ·)
  | [], a, b => by
    simp only [eat, List.drop_nil]
    by_cases ha : a = 0
    · subst ha
      simp
    · rw [if_neg (by omega), if_neg ha]
      rfl
  | x :: l, a, b => by
    by_cases ha : a = 0
    · subst ha
      rw [eat_zero, Nat.zero_add]
      simp
    · rw [eat, if_neg (by omega), eat, if_neg ha]
      by_cases hb : x.kids < 0
      · rw [if_pos hb, if_pos hb]; rfl
      · rw [if_neg hb, if_neg hb, show a + b - 1 + x.kids.toNat = (a - 1 + x.kids.toNat) + b by omega, eat_add l]
        cases eat l (a - 1 + x.kids.toNat) with
        | none => rfl
        | some n =>
          simp only [Option.bind_some, Option.map_some, List.drop_succ_cons, Option.map_map]
          congr 1
          funext q
          simp only [Function.comp]
          omega
theorem eat_take : ∀ {l : List Nd} {k n : Nat}, eat l k = some n → eat (l.take n) k = some n
  | [], k, n, h => by rw [List.take_nil]; exact h
  | x :: l, k, n, h => by
    have h0 := h
    unfold eat at h
    split at h
    · rename_i hk
      subst hk
      injection h with h
      subst h
      simp [eat]
    · rename_i hk
      split at h
      · cases h
      · rename_i hb
        rw [Option.map_eq_some_iff] at h
        obtain ⟨q, hq, rfl⟩ := h
        rw [List.take_succ_cons]
        unfold eat
        rw [if_neg hk, if_neg hb, eat_take hq]
        rfl
def endAt (l : List Nd) (at_ : Nat) : Option Nat := (eat (l.drop at_) 1).map (at_ + ·)
def wholeB (l : List Nd) : Bool := !l.isEmpty && decide (eat l 1 = some l.length)
def begs (l : List Nd) : Nat → Nat → List Nat
  | _, 0 => []
  | at_, k + 1 => at_ :: (match eat (l.drop at_) 1 with
    | some n => begs l (at_ + n) k
    | none => [])
def ArrowT : ByteArray := ⟨#[45, 62]⟩
def IntT : ByteArray := ⟨#[105, 110, 116]⟩
def TextT : ByteArray := ⟨#[116, 101, 120, 116]⟩
def RefT : ByteArray := ⟨#[114, 101, 102]⟩
def nodeB (n : Nd) : Bool := if n.kind = 31 then n.kids == 0 && decide (n.text = ⟨#[]⟩) && decide (0 ≤ n.num) && decide (n.num ≤ 1048576)
  else if n.kind ≠ 32 ∨ n.num ≠ 0 then false
  else if n.text = ArrowT then n.kids == 2
  else if n.text = IntT ∨ n.text = TextT then n.kids == 0
  else if n.text = RefT then n.kids == 1
  else nameB 2 n.text && decide (n.kids ≤ 8)
def typB (t : List Nd) : Bool := decide (t.length ≤ 4000) && wholeB t && t.all nodeB
def varsG (out : List Int) : List Nd → List Int
  | [] => out
  | n :: l => if n.kind = 31 ∧ n.num ∉ out then varsG (out ++ [n.num]) l else varsG out l
def varsL (t : List Nd) : List Int := varsG [] t
def idxI (l : List Int) (n : Int) : Int := match l.findIdx? (· = n) with
  | some k => (k : Int)
  | none => -1
def canonL (t : List Nd) : List Nd := t.map fun n => if n.kind = 31 then { n with num := idxI (varsL t) n.num } else n
def argB (p : Int) (t : List Nd) : Bool := typB t && (varsL t).all fun v => decide (v < p)
def ctB (p : Int) (c : Ct) : Bool := nameB 2 c.name && decide (c.args.length ≤ 8) && c.args.all (argB p)
def dtB (d : Dt) : Bool := nameB 2 d.name && decide (0 ≤ d.params) && decide (d.params ≤ 8) && decide (1 ≤ d.cons.length) && decide (d.cons.length ≤ 60) && d.cons.all (ctB d.params)
def knownB (l : List Dt) (n : Nd) : Bool := l.any fun d => decide (d.name = n.text) && d.params == n.kids
def lackN (l : List Dt) (n : Nd) : Bool := n.kind == 32 && nameB 2 n.text && !knownB l n
def consNames (l : List Dt) : List ByteArray := l.flatMap fun d => d.cons.map Ct.name
def datasE (l : List Dt) : Int := if 60 < l.length ∨ l.all dtB = false then 100
  else if ¬ (l.map Dt.name).Nodup ∨ ¬ (consNames l).Nodup then 101
  else if l.any (fun d => d.cons.any fun c => c.args.any fun t => t.any (lackN l)) then 102 else 0
def partsG : Nat → List Nd → List (List Nd) × List Nd
  | 0, t => ([], t)
  | f + 1, t => match t with
    | [] => ([], [])
    | n :: l => if n.text = ArrowT then (match eat l 1 with
      | some k => ((l.take k) :: (partsG f (l.drop k)).1, (partsG f (l.drop k)).2)
      | none => ([], t)) else ([], t)
def partsL (t : List Nd) : List (List Nd) × List Nd := partsG t.length t
end Go.Proofs.YtinekmjengckdaaGreatDoor

namespace Go.Proofs.YtinekmjengckdaaGreatDoor
theorem nodup_iff_first {α : Type} [DecidableEq α] : ∀ (l : List α), l.Nodup ↔ ∀ (i : Nat) (x : α), l[i]? = some x → ∀ (j : Nat), j < i → l[j]? ≠ some x
  | [] => by simp
  | y :: l => by
    rw [List.nodup_cons, nodup_iff_first l]
    constructor
    · rintro ⟨hy, h⟩ i x hi j hj
      cases i with
      | zero => omega
      | succ i =>
        rw [List.getElem?_cons_succ] at hi
        cases j with
        | zero =>
          rw [List.getElem?_cons_zero]
          intro e
          injection e with e
          subst e
          exact hy (List.mem_of_getElem? hi)
        | succ j => rw [List.getElem?_cons_succ]; exact h i x hi j (by omega)
    · intro h
      refine ⟨fun hy => ?_, fun i x hi j hj => ?_⟩
      · obtain ⟨i, hi⟩ := List.mem_iff_getElem?.1 hy
        exact h (i + 1) y (by rw [List.getElem?_cons_succ]; exact hi) 0 (by omega) (by rw [List.getElem?_cons_zero])
      · have := h (i + 1) x (by rw [List.getElem?_cons_succ]; exact hi) (j + 1) (by omega)
        rw [List.getElem?_cons_succ] at this
        exact this
def findG (con : ByteArray) : Nat → List Dt → Option (Nat × Nat)
  | _, [] => none
  | i, d :: l => match d.cons.findIdx? (fun c => decide (c.name = con)) with
    | some k => some (i, k)
    | none => findG con (i + 1) l
def findL (l : List Dt) (con : ByteArray) : Option (Nat × Nat) := findG con 0 l
theorem findG_mem (con : ByteArray) : ∀ (l : List Dt) (i : Nat), (findG con i l).isSome = true ↔ con ∈ consNames l
  | [], i => by simp [findG, consNames]
  | d :: l, i => by
    unfold findG
    have hc : consNames (d :: l) = d.cons.map Ct.name ++ consNames l := rfl
    rw [hc, List.mem_append, ← findG_mem con l (i + 1)]
    cases h : d.cons.findIdx? (fun c => decide (c.name = con)) with
    | some k =>
      rw [List.findIdx?_eq_some_iff_getElem] at h
      obtain ⟨hk, h1, _⟩ := h
      simp only [Option.isSome_some, true_iff]
      exact .inl (List.mem_map.2 ⟨_, List.getElem_mem hk, by simpa using h1⟩)
    | none =>
      rw [List.findIdx?_eq_none_iff] at h
      have : con ∉ d.cons.map Ct.name := fun hm => by
        obtain ⟨c, hc1, hc2⟩ := List.mem_map.1 hm
        have := h c hc1
        simp [hc2] at this
      simp [this]
theorem consNodup (l : List Dt) : ∀ (i : Nat), (consNames l).Nodup ↔ ∀ (k : Nat) (d : Dt) (c : Nat) (x : Ct), l[k]? = some d → d.cons[c]? = some x → findG x.name i l = some (i + k, c) := by
  induction l with
  | nil => intro i; simp [consNames]
  | cons d l ih =>
    intro i
    have hc : consNames (d :: l) = d.cons.map Ct.name ++ consNames l := rfl
    rw [hc, List.nodup_append, ih (i + 1)]
    constructor
    · rintro ⟨h1, h2, h3⟩ k d' c x hk hx
      cases k with
      | zero =>
        rw [List.getElem?_cons_zero] at hk
        injection hk with hk
        subst hk
        unfold findG
        have : d.cons.findIdx? (fun y => decide (y.name = x.name)) = some c := by
          rw [List.findIdx?_eq_some_iff_getElem]
          obtain ⟨hcl, hce⟩ := List.getElem?_eq_some_iff.1 hx
          refine ⟨hcl, by simp [hce], fun j hj => ?_⟩
          have := (nodup_iff_first (d.cons.map Ct.name)).1 h1 c x.name (by rw [List.getElem?_map, hx]; rfl) j hj
          simp only [decide_eq_true_eq]
          intro e
          apply this
          rw [List.getElem?_map, List.getElem?_eq_getElem (by omega)]
          simp [e]
        rw [this]
        simp
      | succ k =>
        rw [List.getElem?_cons_succ] at hk
        unfold findG
        have hm : x.name ∈ consNames l := List.mem_flatMap.2 ⟨d', List.mem_of_getElem? hk, List.mem_map.2 ⟨x, List.mem_of_getElem? hx, rfl⟩⟩
        have : d.cons.findIdx? (fun y => decide (y.name = x.name)) = none := by
          rw [List.findIdx?_eq_none_iff]
          intro y hy
          simp only [decide_eq_false_iff_not]
          intro e
          exact h3 _ (List.mem_map.2 ⟨y, hy, e⟩) _ hm rfl
        rw [this]
        dsimp only
        rw [h2 k d' c x hk hx]
        congr 2
        omega
    · intro h
      refine ⟨?_, ?_, ?_⟩
      · rw [nodup_iff_first]
        intro c nm hcn j hj hjn
        rw [List.getElem?_map, Option.map_eq_some_iff] at hcn hjn
        obtain ⟨x, hx, rfl⟩ := hcn
        obtain ⟨y, hy, e⟩ := hjn
        have a := h 0 d c x rfl hx
        have b := h 0 d j y rfl hy
        rw [e, a] at b
        injection b with b
        injection b with _ b
        omega
      · intro k d' c x hk hx
        have a := h (k + 1) d' c x (by rw [List.getElem?_cons_succ]; exact hk) hx
        unfold findG at a
        split at a
        · injection a with a
          injection a with a _
          omega
        · rw [a]
          congr 2
          omega
      · rintro nm hn1 nm2 hn2 rfl
        obtain ⟨x, hx, rfl⟩ := List.mem_map.1 hn1
        obtain ⟨c, hc1⟩ := List.mem_iff_getElem?.1 hx
        have a := h 0 d c x rfl hc1
        obtain ⟨d', hd', hm⟩ := List.mem_flatMap.1 hn2
        obtain ⟨y, hy, e⟩ := List.mem_map.1 hm
        obtain ⟨k, hk⟩ := List.mem_iff_getElem?.1 hd'
        obtain ⟨c', hc'⟩ := List.mem_iff_getElem?.1 hy
        have b := h (k + 1) d' c' y (by rw [List.getElem?_cons_succ]; exact hk) hc'
        rw [e, a] at b
        injection b with b
        injection b with b _
        omega
end Go.Proofs.YtinekmjengckdaaGreatDoor

namespace Go.Proofs.YtinekmjengckdaaGreatDoor
theorem whole_iff {t : List Nd} : wholeB t = true ↔ t ≠ [] ∧ eat t 1 = some t.length := by
  unfold wholeB
  cases t <;> simp
theorem whole_kids {n : Nd} {l : List Nd} (h : eat (n :: l) 1 = some (l.length + 1)) : 0 ≤ n.kids ∧ eat l n.kids.toNat = some l.length := by
  unfold eat at h
  rw [if_neg (by omega)] at h
  split at h
  · cases h
  · rename_i hb
    rw [Option.map_eq_some_iff] at h
    obtain ⟨q, hq, e⟩ := h
    refine ⟨by omega, ?_⟩
    rw [show 1 - 1 + n.kids.toNat = n.kids.toNat by omega] at hq
    rw [hq]
    congr 1
    omega
theorem eat_two {l : List Nd} (h : eat l 2 = some l.length) : ∃ a, eat l 1 = some a ∧ a ≤ l.length ∧ 0 < a ∧ a < l.length ∧ eat (l.drop a) 1 = some (l.drop a).length := by
  rw [show 2 = 1 + 1 from rfl, eat_add] at h
  cases e : eat l 1 with
  | none => rw [e] at h; cases h
  | some a =>
    rw [e, Option.bind_some, Option.map_eq_some_iff] at h
    obtain ⟨q, hq, e2⟩ := h
    have h1 := eat_le e
    have h2 := eat_le hq
    refine ⟨a, rfl, h1.2, by omega, by omega, ?_⟩
    rw [hq, List.length_drop]
    congr 1
    omega
theorem whole_take {l : List Nd} {a : Nat} (h : eat l 1 = some a) : wholeB (l.take a) = true := by
  have h1 := eat_le h
  rw [whole_iff]
  refine ⟨fun e => ?_, ?_⟩
  · have := congrArg List.length e
    rw [List.length_take, List.length_nil] at this
    omega
  · rw [eat_take h, List.length_take]
    congr 1
    omega
theorem arrow_split {n : Nd} {l : List Nd} (h : eat (n :: l) 1 = some (l.length + 1)) (hk : n.kids = 2) : ∃ a, eat l 1 = some a ∧ 0 < a ∧ a < l.length ∧ wholeB (l.take a) = true ∧ eat (l.drop a) 1 = some (l.drop a).length := by
  have h2 := (whole_kids h).2
  rw [hk] at h2
  obtain ⟨a, h3, _, h5, h6, h7⟩ := eat_two h2
  exact ⟨a, h3, h5, h6, whole_take h3, h7⟩
theorem node_arrow {n : Nd} (h : nodeB n = true) (ht : n.text = ArrowT) : n.kind = 32 ∧ n.num = 0 ∧ n.kids = 2 := by
  unfold nodeB at h
  split at h
  · simp only [Bool.and_eq_true, decide_eq_true_eq] at h
    rw [ht] at h
    exact absurd h.1.1.2 (by decide)
  · split at h
    · cases h
    · rename_i h2
      try rw [if_pos ht] at h
      have := eq_of_beq h
      omega
theorem partsG_more : ∀ (f : Nat) (t : List Nd), t.length ≤ f → partsG (f + 1) t = partsG f t
  | 0, t, h => by
    cases t with
    | nil => rfl
    | cons n l => simp at h
  | f + 1, t, h => by
    cases t with
    | nil => rfl
    | cons n l =>
      rw [partsG, partsG]
      by_cases ht : n.text = ArrowT
      · rw [if_pos ht, if_pos ht]
        cases e : eat l 1 with
        | none => rfl
        | some a =>
          dsimp only
          have := partsG_more f (l.drop a) (by rw [List.length_drop]; simp only [List.length_cons] at h; have := eat_le e; omega)
          rw [this]
      · rw [if_neg ht, if_neg ht]
theorem partsG_enough : ∀ (d f : Nat) (t : List Nd), t.length ≤ f → partsG (f + d) t = partsG f t
  | 0, _, _, _ => rfl
  | d + 1, f, t, h => by rw [← Nat.add_assoc, partsG_more (f + d) t (by omega), partsG_enough d f t h]
theorem parts_at {f : Nat} {t : List Nd} (h : t.length ≤ f) : partsG f t = partsL t := by
  have := partsG_enough (f - t.length) t.length t (Nat.le_refl _)
  rw [show t.length + (f - t.length) = f by omega] at this
  exact this
theorem parts_arrow_step {n : Nd} {l : List Nd} {a : Nat} (ht : n.text = ArrowT) (h : eat l 1 = some a) : partsL (n :: l) = (l.take a :: (partsL (l.drop a)).1, (partsL (l.drop a)).2) := by
  unfold partsL
  rw [List.length_cons, partsG, if_pos ht, h]
  dsimp only
  rw [parts_at (by rw [List.length_drop]; omega)]
  rfl
theorem parts_end {n : Nd} {l : List Nd} (ht : n.text ≠ ArrowT) : partsL (n :: l) = ([], n :: l) := by
  unfold partsL
  rw [List.length_cons, partsG, if_neg ht]
end Go.Proofs.YtinekmjengckdaaGreatDoor

namespace Go.Proofs.YtinekmjengckdaaGreatDoor
theorem varsG_mem (v : Int) : ∀ (l : List Nd) (out : List Int), v ∈ varsG out l ↔ v ∈ out ∨ ∃ n ∈ l, n.kind = 31 ∧ n.num = v
  | [], out => by simp [varsG]
  | n :: l, out => by
    unfold varsG
    split
    · rename_i h
      rw [varsG_mem v l, List.mem_append, List.mem_singleton]
      constructor
      · rintro ((h1 | rfl) | ⟨x, hx, h2⟩)
        · exact .inl h1
        · exact .inr ⟨n, List.mem_cons_self, h.1, rfl⟩
        · exact .inr ⟨x, List.mem_cons_of_mem _ hx, h2⟩
      · rintro (h1 | ⟨x, hx, h2⟩)
        · exact .inl (.inl h1)
        · rcases List.mem_cons.1 hx with rfl | hx
          · exact .inl (.inr h2.2.symm)
          · exact .inr ⟨x, hx, h2⟩
    · rename_i h
      rw [varsG_mem v l]
      constructor
      · rintro (h1 | ⟨x, hx, h2⟩)
        · exact .inl h1
        · exact .inr ⟨x, List.mem_cons_of_mem _ hx, h2⟩
      · rintro (h1 | ⟨x, hx, h2⟩)
        · exact .inl h1
        · rcases List.mem_cons.1 hx with rfl | hx
          · by_cases hm : x.num ∈ out
            · exact .inl (h2.2 ▸ hm)
            · exact absurd ⟨h2.1, hm⟩ h
          · exact .inr ⟨x, hx, h2⟩
theorem varsG_nodup : ∀ (l : List Nd) (out : List Int), out.Nodup → (varsG out l).Nodup
  | [], _, h => h
  | n :: l, out, h => by
    unfold varsG
    split
    · rename_i hn
      refine varsG_nodup l _ ?_
      rw [List.nodup_append]
      refine ⟨h, by simp, ?_⟩
      intro a ha b hb e
      rw [List.mem_singleton] at hb
      subst hb e
      exact hn.2 ha
    · exact varsG_nodup l out h
theorem vars_mem {v : Int} {t : List Nd} : v ∈ varsL t ↔ ∃ n ∈ t, n.kind = 31 ∧ n.num = v := by
  unfold varsL
  rw [varsG_mem]
  simp
theorem vars_nodup (t : List Nd) : (varsL t).Nodup := varsG_nodup t [] List.nodup_nil
theorem nodup_le {α : Type} [DecidableEq α] : ∀ (l m : List α), l.Nodup → (∀ x ∈ l, x ∈ m) → l.length ≤ m.length
  | [], _, _, _ => Nat.zero_le _
  | x :: l, m, h, hs => by
    rw [List.nodup_cons] at h
    have hx := hs x List.mem_cons_self
    have := nodup_le l (m.erase x) h.2 (fun y hy => by
      have hne : y ≠ x := fun e => h.1 (e ▸ hy)
      exact (List.mem_erase_of_ne hne).2 (hs y (List.mem_cons_of_mem _ hy)))
    rw [List.length_erase_of_mem hx] at this
    have h0 : 0 < m.length := List.length_pos_of_mem hx
    simp only [List.length_cons]
    omega
end Go.Proofs.YtinekmjengckdaaGreatDoor
