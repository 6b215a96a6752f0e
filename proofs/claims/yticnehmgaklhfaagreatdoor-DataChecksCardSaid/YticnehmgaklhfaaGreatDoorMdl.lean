/-
  The plain model of layers 9, 10, 23: tokens, trees, types, declarations; with no program in sight.
-/
import Derived.Test.YticnehmgaklhfaaGreatDoorTok
namespace Go.Proofs.YticnehmgaklhfaaGreatDoor
structure Nd where
  kind : Int
  text : ByteArray
  num : Int
  kids : Int
structure Ct where
  name : ByteArray
  args : List (List Nd)
structure Dt where
  name : ByteArray
  params : Int
  cons : List Ct
structure Sg where
  name : ByteArray
  type : List Nd
structure Fx where
  op : ByteArray
  level : Int
  side : Int
/-- Are two nodes the same? -/
def Nd.same (a b : Nd) : Bool := a.kind == b.kind && decide (a.text = b.text) && a.num == b.num && a.kids == b.kids
theorem Nd.same_iff {a b : Nd} : a.same b = true ↔ a = b := by
  obtain ⟨a1, a2, a3, a4⟩ := a
  obtain ⟨b1, b2, b3, b4⟩ := b
  simp [Nd.same, and_assoc]
theorem Nd.same_false {a b : Nd} : a.same b = false ↔ a ≠ b := by
  rw [← Bool.not_eq_true, Nd.same_iff]
/-- Are two rows of nodes the same? -/
def sameN : List Nd → List Nd → Bool
  | [], [] => true
  | a :: l, b :: m => a.same b && sameN l m
  | _, _ => false
theorem sameN_iff : ∀ {l m : List Nd}, sameN l m = true ↔ l = m
  | [], [] => by simp [sameN]
  | [], b :: m => by simp [sameN]
  | a :: l, [] => by simp [sameN]
  | a :: l, b :: m => by
    rw [sameN, Bool.and_eq_true, Nd.same_iff, sameN_iff, List.cons.injEq]
/-- How many nodes so many trees take, one behind another. -/
def eat : List Nd → Nat → Option Nat
  | [], k => if k = 0 then some 0 else none
  | n :: l, k => if k = 0 then some 0 else if n.kids < 0 then none else (eat l (k - 1 + n.kids.toNat)).map (· + 1)
theorem eat_zero (l : List Nd) : eat l 0 = some 0 := by cases l <;> simp [eat]
theorem eat_le : ∀ {l : List Nd} {k n : Nat}, eat l k = some n → k ≤ n ∧ n ≤ l.length
  | [], k, n, h => by
    unfold eat at h
    split at h
    · injection h with h; omega
    · cases h
  | x :: l, k, n, h => by
    unfold eat at h
    split at h
    · injection h with h; omega
    · split at h
      · cases h
      · rw [Option.map_eq_some_iff] at h
        obtain ⟨q, hq, rfl⟩ := h
        have := eat_le hq
        simp only [List.length_cons]
        omega
theorem eat_short {l : List Nd} {k : Nat} (h : l.length < k) : eat l k = none := by
  cases e : eat l k with
  | none => rfl
  | some n => have := eat_le e; omega
theorem eat_add : ∀ (l : List Nd) (a b : Nat), eat l (a + b) = (eat l a).bind fun n => (eat (l.drop n) b).map (n + ·)
  | [], a, b => by
    simp only [eat, List.drop_nil]
    by_cases ha : a = 0
    · subst ha
      simp
    · rw [if_neg (by omega), if_neg ha]
      rfl
  | x :: l, a, b => by
    by_cases ha : a = 0
    · subst ha
      rw [eat_zero, Nat.zero_add]
      simp
    · rw [eat, if_neg (by omega), eat, if_neg ha]
      by_cases hb : x.kids < 0
      · rw [if_pos hb, if_pos hb]; rfl
      · rw [if_neg hb, if_neg hb, show a + b - 1 + x.kids.toNat = (a - 1 + x.kids.toNat) + b by omega, eat_add l]
        cases eat l (a - 1 + x.kids.toNat) with
        | none => rfl
        | some n =>
          simp only [Option.bind_some, Option.map_some, List.drop_succ_cons, Option.map_map]
          congr 1
          funext q
          simp only [Function.comp]
          omega
/-- What stands behind does not matter. -/
theorem eat_append : ∀ {l : List Nd} {k n : Nat} (r : List Nd), eat l k = some n → eat (l ++ r) k = some n
  | [], k, n, r, h => by
    unfold eat at h
    split at h
    · rename_i hk
      subst hk
      rw [eat_zero]
      exact h
    · cases h
  | x :: l, k, n, r, h => by
    rw [List.cons_append]
    unfold eat at h ⊢
    split at h
    · rename_i hk
      rw [if_pos hk]
      exact h
    · rename_i hk
      rw [if_neg hk]
      split at h
      · cases h
      · rename_i hb
        rw [if_neg hb]
        rw [Option.map_eq_some_iff] at h ⊢
        obtain ⟨q, hq, e⟩ := h
        exact ⟨q, eat_append r hq, e⟩
theorem eat_take : ∀ {l : List Nd} {k n : Nat}, eat l k = some n → eat (l.take n) k = some n
  | [], k, n, h => by rw [List.take_nil]; exact h
  | x :: l, k, n, h => by
    have h0 := h
    unfold eat at h
    split at h
    · rename_i hk
      subst hk
      injection h with h
      subst h
      simp [eat]
    · rename_i hk
      split at h
      · cases h
      · rename_i hb
        rw [Option.map_eq_some_iff] at h
        obtain ⟨q, hq, rfl⟩ := h
        rw [List.take_succ_cons]
        unfold eat
        rw [if_neg hk, if_neg hb, eat_take hq]
        rfl
/-- Where the tree at a place ends. -/
def endAt (l : List Nd) (at_ : Nat) : Option Nat := (eat (l.drop at_) 1).map (at_ + ·)
def wholeB (l : List Nd) : Bool := !l.isEmpty && decide (eat l 1 = some l.length)
/-- Where so many trees begin, one behind another. -/
def begs (l : List Nd) : Nat → Nat → List Nat
  | _, 0 => []
  | at_, k + 1 => at_ :: (match eat (l.drop at_) 1 with
    | some n => begs l (at_ + n) k
    | none => [])
def ArrowT : ByteArray := ⟨#[45, 62]⟩
def IntT : ByteArray := ⟨#[105, 110, 116]⟩
def TextT : ByteArray := ⟨#[116, 101, 120, 116]⟩
def RefT : ByteArray := ⟨#[114, 101, 102]⟩
/-- May a node of a type be? -/
def nodeB (n : Nd) : Bool := if n.kind = 31 then n.kids == 0 && decide (n.text = ⟨#[]⟩) && decide (0 ≤ n.num) && decide (n.num ≤ 1048576)
  else if n.kind ≠ 32 ∨ n.num ≠ 0 then false
  else if n.text = ArrowT then n.kids == 2
  else if n.text = IntT ∨ n.text = TextT then n.kids == 0
  else if n.text = RefT then n.kids == 1
  else nameB 2 n.text && decide (n.kids ≤ 8)
def typB (t : List Nd) : Bool := decide (t.length ≤ 4000) && wholeB t && t.all nodeB
/-- The variables, each once, in order. -/
def varsG (out : List Int) : List Nd → List Int
  | [] => out
  | n :: l => if n.kind = 31 ∧ n.num ∉ out then varsG (out ++ [n.num]) l else varsG out l
def varsL (t : List Nd) : List Int := varsG [] t
def idxI (l : List Int) (n : Int) : Int := match l.findIdx? (· = n) with
  | some k => (k : Int)
  | none => -1
def canonL (t : List Nd) : List Nd := t.map fun n => if n.kind = 31 then { n with num := idxI (varsL t) n.num } else n
/-- May a declaration be, by itself? -/
def argB (p : Int) (t : List Nd) : Bool := typB t && (varsL t).all fun v => decide (v < p)
def ctB (p : Int) (c : Ct) : Bool := nameB 2 c.name && decide (c.args.length ≤ 8) && c.args.all (argB p)
def dtB (d : Dt) : Bool := nameB 2 d.name && decide (0 ≤ d.params) && decide (d.params ≤ 8) && decide (1 ≤ d.cons.length) && decide (d.cons.length ≤ 60) && d.cons.all (ctB d.params)
def knownB (l : List Dt) (n : Nd) : Bool := l.any fun d => decide (d.name = n.text) && d.params == n.kids
def lackN (l : List Dt) (n : Nd) : Bool := n.kind == 32 && nameB 2 n.text && !knownB l n
def consNames (l : List Dt) : List ByteArray := l.flatMap fun d => d.cons.map Ct.name
def datasE (l : List Dt) : Int := if 60 < l.length ∨ l.all dtB = false then 100
  else if ¬ (l.map Dt.name).Nodup ∨ ¬ (consNames l).Nodup then 101
  else if l.any (fun d => d.cons.any fun c => c.args.any fun t => t.any (lackN l)) then 102 else 0
/-- The type of a function. -/
def arrowL (args : List (List Nd)) (to : List Nd) : List Nd := args.foldr (fun a r => ⟨32, ArrowT, 0, 2⟩ :: (a ++ r)) to
/-- What a type takes, one after another, and what it comes to. -/
def partsG : Nat → List Nd → List (List Nd) × List Nd
  | 0, t => ([], t)
  | f + 1, t => match t with
    | [] => ([], [])
    | n :: l => if n.text = ArrowT then (match eat l 1 with
      | some k => ((l.take k) :: (partsG f (l.drop k)).1, (partsG f (l.drop k)).2)
      | none => ([], t)) else ([], t)
def partsL (t : List Nd) : List (List Nd) × List Nd := partsG t.length t
def ofL (d : Dt) : List Nd := ⟨32, d.name, 0, d.params⟩ :: (List.range d.params.toNat).map fun (v : Nat) => ⟨31, ⟨#[]⟩, (v : Int), 0⟩
def sigsL (l : List Dt) : List Sg := l.flatMap fun d => d.cons.map fun c => ⟨c.name, arrowL c.args (ofL d)⟩
end Go.Proofs.YticnehmgaklhfaaGreatDoor
