/-
  The plain model of layer 17: lines, words, labels, numbers of a text; and that what is laid by its parts is found again. With no program in sight. The plain model of layer 17: instructions, what is shown of them, what a line and a text are read as. With no program in sight. The plain law of layer 17: what is shown is read again. With no program in sight. The plain law of layer 17: whatever labels are named, a text is read the same. With no program in sight.
-/
import Derived.Lib.ItoaNum
namespace Go.Proofs.YtgonllogaiiicaaDoor
abbrev Bs := List UInt8

/-! ### Lines -/
/-- Lines of what is left, when one has begun. -/
def linesA : Bs → Bs → List Bs
  | [], now => [now]
  | c :: r, now => if c = 10 then now :: linesA r [] else linesA r (now ++ [c])
def linesL (s : Bs) : List Bs := linesA s []

theorem linesA_app : ∀ (a b now : Bs), (∀ c ∈ a, c ≠ 10) → linesA (a ++ b) now = linesA b (now ++ a)
  | [], b, now, _ => by simp
  | c :: a, b, now, h => by
    have hc := h c (by simp)
    rw [List.cons_append, linesA, if_neg hc, linesA_app a b _ (fun d hd => h d (by simp [hd]))]
    simp
theorem linesL_line (a b : Bs) (h : ∀ c ∈ a, c ≠ 10) : linesL (a ++ 10 :: b) = a :: linesL b := by
  rw [linesL, linesA_app a _ _ h, linesA, if_pos rfl, linesL]; simp
theorem linesL_one (a : Bs) (h : ∀ c ∈ a, c ≠ 10) : linesL a = [a] := by
  have := linesA_app a [] [] h
  rw [List.append_nil] at this
  rw [linesL, this, linesA]; simp
theorem linesA_length : ∀ (s now : Bs), (linesA s now).length ≤ s.length + 1
  | [], now => by simp [linesA]
  | c :: r, now => by
    rw [linesA]; split
    · have := linesA_length r []; simp; omega
    · have := linesA_length r (now ++ [c]); simp; omega
theorem linesA_clean : ∀ (s now : Bs), (∀ c ∈ now, c ≠ 10) → ∀ l ∈ linesA s now, ∀ c ∈ l, c ≠ 10
  | [], now, h => by simpa [linesA] using h
  | c :: r, now, h => by
    rw [linesA]; split
    · intro l hl
      rcases List.mem_cons.1 hl with rfl | hl
      · exact h
      · exact linesA_clean r [] (by simp) l hl
    · rename_i hc
      exact linesA_clean r _ (by intro d hd; rcases List.mem_append.1 hd with hd | hd; exact h d hd; simp at hd; subst hd; exact hc)

/-! ### Words -/
/-- Words of what is left, when one has begun, and where it did; and where we are. -/
def wordsG : Bs → Bs → Nat → Nat → List (Bs × Nat)
  | [], now, at_, _ => if now = [] then [] else [(now, at_)]
  | c :: r, now, at_, i =>
    if c = 59 then (if now = [] then [] else [(now, at_)])
    else if c = 32 then (if now = [] then wordsG r [] at_ (i + 1) else (now, at_) :: wordsG r [] at_ (i + 1))
    else wordsG r (now ++ [c]) (if now = [] then i else at_) (i + 1)
def wordsL (s : Bs) : List (Bs × Nat) := wordsG s [] 0 0

/-- What may be a word. -/
def Clean (s : Bs) : Prop := ∀ c ∈ s, c ≠ 32 ∧ c ≠ 59

theorem wordsG_at : ∀ (r : Bs) (p q i : Nat), wordsG r [] p i = wordsG r [] q i
  | [], _, _, _ => rfl
  | c :: r, p, q, i => by
    simp only [wordsG, if_pos]
    rw [wordsG_at r p q]

theorem wordsG_app : ∀ (a b now : Bs) (p i : Nat), now ≠ [] → Clean a → wordsG (a ++ b) now p i = wordsG b (now ++ a) p (i + a.length)
  | [], b, now, p, i, _, _ => by simp
  | c :: a, b, now, p, i, hn, h => by
    have hc := h c (by simp)
    rw [List.cons_append, wordsG, if_neg hc.2, if_neg hc.1, if_neg hn, wordsG_app a b _ p _ (by simp) (fun d hd => h d (by simp [hd]))]
    simp [Nat.add_assoc, Nat.add_comm 1]
theorem wordsG_word (a b : Bs) (p i : Nat) (ha : a ≠ []) (h : Clean a) : wordsG (a ++ b) [] p i = wordsG b a i (i + a.length) := by
  cases a with
  | nil => exact absurd rfl ha
  | cons c a =>
    have hc := h c (by simp)
    rw [List.cons_append, wordsG, if_neg hc.2, if_neg hc.1, if_pos rfl, wordsG_app a b _ _ _ (by simp) (fun d hd => h d (by simp [hd]))]
    simp [Nat.add_assoc, Nat.add_comm 1]
theorem wordsG_blank (b : Bs) (p i : Nat) : wordsG (32 :: b) [] p i = wordsG b [] p (i + 1) := by
  rw [wordsG, if_neg (by decide), if_pos rfl, if_pos rfl]
theorem wordsG_next (a b : Bs) (p i : Nat) (ha : a ≠ []) (h : Clean a) : wordsG (a ++ 32 :: b) [] p i = (a, i) :: wordsG b [] 0 (i + a.length + 1) := by
  rw [wordsG_word a _ p i ha h, wordsG, if_neg (by decide), if_pos rfl, if_neg ha, wordsG_at b i 0]
theorem wordsG_last (a : Bs) (p i : Nat) (ha : a ≠ []) (h : Clean a) : wordsG a [] p i = [(a, i)] := by
  have := wordsG_word a [] p i ha h
  rw [List.append_nil] at this
  rw [this, wordsG, if_neg ha]

/-! ### Labels, numbers -/
def isLet (c : UInt8) : Bool := (97 ≤ c && c ≤ 122) || (65 ≤ c && c ≤ 90)
def isDig (c : UInt8) : Bool := 48 ≤ c && c ≤ 57
def labelB : Bs → Bool
  | [] => false
  | c :: r => isLet c && r.all fun d => isLet d || (isDig d || d == 95)
theorem labelB_clean {s : Bs} (h : labelB s = true) : s ≠ [] ∧ ∀ c ∈ s, c ≠ 32 ∧ c ≠ 59 ∧ c ≠ 58 ∧ c ≠ 10 := by
  cases s with
  | nil => simp [labelB] at h
  | cons c r =>
    refine ⟨by simp, ?_⟩
    have key : ∀ d : UInt8, (isLet d || (isDig d || d == 95)) = true → d ≠ 32 ∧ d ≠ 59 ∧ d ≠ 58 ∧ d ≠ 10 := by
      intro d hd
      refine ⟨?_, ?_, ?_, ?_⟩ <;> (rintro rfl; revert hd; decide)
    simp only [labelB, Bool.and_eq_true, List.all_eq_true] at h
    intro d hd
    rcases List.mem_cons.1 hd with rfl | hd
    · exact key _ (by rw [h.1]; rfl)
    · exact key _ (h.2 d hd)

/-- The number of digits, behind one. -/
def numA : Nat → Bs → Nat
  | n, [] => n
  | n, c :: r => numA (10 * n + (c.toNat - 48)) r
def numB (s : Bs) : Option Nat :=
  if s = [] ∨ 7 < s.length ∨ (s.head? = some 48 ∧ 1 < s.length) then none
  else if s.all isDig then (if numA 0 s ≤ 1048576 then some (numA 0 s) else none) else none

theorem numA_app : ∀ (a b : Bs) (n : Nat), numA n (a ++ b) = numA (numA n a) b
  | [], _, _ => rfl
  | _ :: a, b, _ => numA_app a b _
theorem numA_one (n : Nat) (c : UInt8) : numA n [c] = 10 * n + (c.toNat - 48) := rfl
theorem dig_isDig {u : Nat} (h : u < 10) : isDig (UInt8.ofNat (48 + u)) = true := by
  have : ∀ v : Fin 10, isDig (UInt8.ofNat (48 + v.1)) = true := by decide
  exact this ⟨u, h⟩
theorem dig_toNat {u : Nat} (h : u < 10) : (UInt8.ofNat (48 + u)).toNat = 48 + u := by
  have : ∀ v : Fin 10, (UInt8.ofNat (48 + v.1)).toNat = 48 + v.1 := by decide
  exact this ⟨u, h⟩
theorem dec_isDig (u : Nat) : ∀ c ∈ Lib.decDigits u, isDig c = true := by
  induction u using Nat.strongRecOn with
  | _ u ih =>
    rw [Lib.decDigits]
    split
    · rename_i h; intro c hc; rw [List.mem_singleton] at hc; subst hc; exact dig_isDig h
    · intro c hc
      rcases List.mem_append.1 hc with hc | hc
      · exact ih (u / 10) (by omega) c hc
      · rw [List.mem_singleton] at hc; subst hc; exact dig_isDig (by omega)
theorem dec_num (u : Nat) : numA 0 (Lib.decDigits u) = u := by
  induction u using Nat.strongRecOn with
  | _ u ih =>
    rw [Lib.decDigits]
    split
    · rename_i h; rw [numA_one, dig_toNat h]; omega
    · rw [numA_app, ih (u / 10) (by omega)]
      rw [numA_one, dig_toNat (show u % 10 < 10 by omega)]; omega
theorem dec_ne (u : Nat) : Lib.decDigits u ≠ [] := by
  rw [Lib.decDigits]; split <;> simp
theorem dec_head (u : Nat) (h : 1 ≤ u) : (Lib.decDigits u).head? ≠ some 48 := by
  induction u using Nat.strongRecOn with
  | _ u ih =>
    rw [Lib.decDigits]
    split
    · rename_i h10
      have : ∀ v : Fin 10, 1 ≤ v.1 → UInt8.ofNat (48 + v.1) ≠ 48 := by decide
      simpa using this ⟨u, h10⟩ h
    · have := ih (u / 10) (by omega) (by omega)
      rw [List.head?_append]
      cases h0 : (Lib.decDigits (u / 10)).head? with
      | none => exact absurd (List.head?_eq_none_iff.1 h0) (dec_ne _)
      | some c => rw [h0] at this; simpa using this
theorem dec_len (u : Nat) (h : u ≤ 1048576) : (Lib.decDigits u).length ≤ 7 := by
  have h1 : ∀ v, v < 10 → (Lib.decDigits v).length = 1 := fun v hv => by rw [Lib.decDigits, dif_pos hv]; rfl
  have h2 : ∀ v k, (v / 10 < 10 ^ k → (Lib.decDigits (v / 10)).length ≤ k) → 1 ≤ k → v < 10 ^ (k + 1) → (Lib.decDigits v).length ≤ k + 1 := by
    intro v k hk h1k hv
    rw [Lib.decDigits]
    split
    · simp
    · rw [List.length_append]
      have := hk (by rw [Nat.pow_succ] at hv; omega)
      simp; omega
  have h3 : ∀ k v, 1 ≤ k → v < 10 ^ k → (Lib.decDigits v).length ≤ k := by
    intro k
    induction k with
    | zero => omega
    | succ k ih =>
      intro v _ hv
      by_cases hk : k = 0
      · subst hk; rw [h1 v (by simpa using hv)]; omega
      · exact h2 v k (fun hh => ih _ (by omega) hh) (by omega) hv
  exact h3 7 u (by omega) (by omega)
theorem dec_back (u : Nat) (h : u ≤ 1048576) : numB (Lib.decDigits u) = some u := by
  have h1 : ¬ (Lib.decDigits u = [] ∨ 7 < (Lib.decDigits u).length ∨ ((Lib.decDigits u).head? = some 48 ∧ 1 < (Lib.decDigits u).length)) := by
    rintro (h0 | h0 | ⟨h0, h2⟩)
    · exact dec_ne u h0
    · have := dec_len u h; omega
    · by_cases hu : u = 0
      · subst hu; rw [Lib.decDigits] at h2; simp at h2
      · exact dec_head u (by omega) h0
  rw [numB, if_neg h1, if_pos (by rw [List.all_eq_true]; exact dec_isDig u), dec_num, if_pos h]
theorem dec_inj {u v : Nat} (h : Lib.decDigits u = Lib.decDigits v) : u = v := by rw [← dec_num u, h, dec_num]
theorem numB_le {s : Bs} {n : Nat} (h : numB s = some n) : n ≤ 1048576 := by
  rw [numB] at h
  split at h
  · cases h
  · split at h
    · split at h
      · cases h; assumption
      · cases h
    · cases h
theorem dig_clean {c : UInt8} (h : isDig c = true) : c ≠ 32 ∧ c ≠ 59 ∧ c ≠ 58 ∧ c ≠ 10 := by
  refine ⟨?_, ?_, ?_, ?_⟩ <;> (rintro rfl; revert h; decide)
end Go.Proofs.YtgonllogaiiicaaDoor

namespace Go.Proofs.YtgonllogaiiicaaDoor
structure Ins where
  op : Int
  a : Int
  b : Int
  deriving DecidableEq

def opNames : List Bs := [[104, 97, 108, 116], [112, 111, 111, 108], [97, 99, 99], [101, 110, 118], [115, 101, 108, 102], [112, 111, 112], [115, 108, 105, 100, 101], [97, 112, 112], [116, 97, 105, 108], [114, 101, 116], [98, 108, 111, 99, 107], [102, 105, 101, 108, 100], [112, 114, 105, 109], [114, 97, 105, 115, 101], [117, 110, 116, 114, 121], [106, 117, 109, 112], [122, 101, 114, 111], [116, 114, 121], [99, 108, 111, 115], [116, 97, 103], [115, 97, 109, 101]]
def opName (o : Int) : Bs := opNames.getD o.toNat []
def findOp (s : Bs) : Option Nat := opNames.findIdx? (· == s)
def goesB (o : Int) : Bool := decide (15 ≤ o ∧ o ≤ 20)
def numsN (o : Int) : Nat := if o = 10 then 2 else if o = 1 ∨ o = 2 ∨ o = 3 ∨ o = 5 ∨ o = 6 ∨ o = 11 ∨ o = 12 ∨ o = 18 ∨ o = 19 ∨ o = 20 then 1 else 0
def withinB (n : Int) : Bool := decide (0 ≤ n ∧ n ≤ 1048576)
def insB (i : Ins) : Bool :=
  (decide (0 ≤ i.op) && decide (i.op ≤ 20)) && (withinB i.a && withinB i.b) &&
    (if goesB i.op then decide (numsN i.op = 1) || decide (i.b = 0) else (decide (0 < numsN i.op) || decide (i.a = 0)) && (decide (numsN i.op = 2) || decide (i.b = 0)))
/-- What is wrong with instructions: 0: nothing. -/
def checkE (l : List Ins) : Int :=
  if 20000 < l.length then 150
  else if l.all insB then (if l.all (fun i => !goesB i.op || decide (i.a < l.length)) then 0 else 160) else 150

/-! ### What is shown -/
def told (l : List Ins) (k : Nat) : Bool := l.any fun i => goesB i.op && i.a == (k : Int)
def countT (l : List Ins) : Nat → Nat
  | 0 => 0
  | k + 1 => if told l k then countT l k + 1 else countT l k
def nameL (l : List Ins) (k : Nat) : Bs := 76 :: Lib.decDigits (countT l k)
def argsI (i : Ins) : List Int := if goesB i.op then [i.b].take (numsN i.op) else [i.a, i.b].take (numsN i.op)
def tailW (l : List Ins) (i : Ins) : List Bs := (if goesB i.op then [nameL l i.a.toNat] else []) ++ (argsI i).map fun x => Lib.decDigits x.toNat
def lineI (l : List Ins) (i : Ins) : Bs := 32 :: 32 :: (opName i.op ++ (tailW l i).flatMap (32 :: ·))
def showK (l : List Ins) : Nat → List Ins → Bs
  | _, [] => []
  | k, i :: r => (if told l k then nameL l k ++ [58, 10] else []) ++ (lineI l i ++ 10 :: showK l (k + 1) r)
def showT (l : List Ins) : Bs := showK l 0 l

/-! ### What is read -/
/-- A line: kind 0: wrong; 1: of no words; 2: tells a label; 3: does something. -/
structure Ln where
  kind : Nat
  label : Bs
  at_ : Nat
  i : Ins
  deriving DecidableEq
def wrongL : Ln := ⟨0, [], 0, ⟨0, 0, 0⟩⟩
def numsW : List (Bs × Nat) → Option (List Nat)
  | [] => some []
  | (s, _) :: r => match numB s, numsW r with
    | some n, some l => some (n :: l)
    | _, _ => none
def doesW (o : Nat) (s : Bs) (p : Nat) (ws : List (Bs × Nat)) : Ln :=
  if ws.length = numsN o then
    match numsW ws with
    | none => wrongL
    | some l => ⟨3, s, p, if goesB o then ⟨o, 0, l.getD 0 0⟩ else ⟨o, l.getD 0 0, l.getD 1 0⟩⟩
  else wrongL
def opW (o : Nat) (ws : List (Bs × Nat)) : Ln :=
  if goesB o then
    match ws with
    | [] => wrongL
    | (t, q) :: r => if labelB t then doesW o t q r else wrongL
  else doesW o [] 0 ws
def readW : List (Bs × Nat) → Ln
  | [] => ⟨1, [], 0, ⟨0, 0, 0⟩⟩
  | (s, p) :: ws =>
    if s.getLast? = some 58 then (if ws = [] ∧ labelB s.dropLast = true then ⟨2, s.dropLast, p, ⟨0, 0, 0⟩⟩ else wrongL)
    else match findOp s with
      | none => wrongL
      | some o => opW o ws
def readL (s : Bs) : Ln := readW (wordsL s)
def placeOf : List Ln → Bs → Nat → Option Nat
  | [], _, _ => none
  | x :: r, s, n => if x.kind = 2 ∧ x.label = s then some n else placeOf r s (if x.kind = 3 then n + 1 else n)
/-- What goes on: the lines that have been, those to come. -/
def goOn (all : List Ln) : List Ln → List Ln → Except Nat (List Ins)
  | _, [] => .ok []
  | pre, x :: r =>
    if x.kind = 2 then
      if (r.any fun y => decide (y.kind = 3)) && !(pre.any fun y => decide (y.kind = 2) && decide (y.label = x.label)) then goOn all (pre ++ [x]) r else .error pre.length
    else if x.kind = 3 then
      if goesB x.i.op then
        match placeOf all x.label 0 with
        | none => .error pre.length
        | some n => (goOn all (pre ++ [x]) r).map fun l => ⟨x.i.op, n, x.i.b⟩ :: l
      else (goOn all (pre ++ [x]) r).map fun l => x.i :: l
    else goOn all (pre ++ [x]) r
inductive Res where
  | line (at_ : Nat)
  | label (at_ : Nat)
  | ok (l : List Ins)
def readAll (all : List Ln) : Res :=
  match all.findIdx? (fun x => decide (x.kind = 0)) with
  | some k => .line k
  | none => match goOn all [] all with
    | .error k => .label k
    | .ok l => .ok l
def readT (s : Bs) : Res := readAll ((linesL s).map readL)

/-! ### What is shown is read again -/
def wordsArgs : List Bs → Nat → List (Bs × Nat)
  | [], _ => []
  | w :: r, i => (w, i + 1) :: wordsArgs r (i + 1 + w.length)
theorem wordsG_args : ∀ (ws : List Bs) (now : Bs) (p i : Nat), now ≠ [] → (∀ w ∈ ws, w ≠ [] ∧ Clean w) → wordsG (ws.flatMap (32 :: ·)) now p i = (now, p) :: wordsArgs ws i
  | [], now, p, i, hn, _ => by rw [List.flatMap_nil, wordsG, if_neg hn, wordsArgs]
  | w :: r, now, p, i, hn, h => by
    have hw := h w (by simp)
    rw [List.flatMap_cons, List.cons_append, wordsG, if_neg (by decide), if_pos rfl, if_neg hn, wordsG_word w _ p _ hw.1 hw.2, wordsG_args r w _ _ hw.1 (fun v hv => h v (by simp [hv])), wordsArgs]
theorem numsW_args : ∀ (l : List Nat) (i : Nat), (∀ n ∈ l, n ≤ 1048576) → numsW (wordsArgs (l.map Lib.decDigits) i) = some l
  | [], _, _ => rfl
  | n :: l, i, h => by
    rw [List.map_cons, wordsArgs, numsW, dec_back n (h n (by simp)), numsW_args l _ (fun m hm => h m (by simp [hm]))]
theorem wordsArgs_length : ∀ (l : List Bs) (i : Nat), (wordsArgs l i).length = l.length
  | [], _ => rfl
  | _ :: l, i => by rw [wordsArgs, List.length_cons, List.length_cons, wordsArgs_length l]

theorem opName_clean {o : Int} (h0 : 0 ≤ o) (h1 : o ≤ 20) : opName o ≠ [] ∧ Clean (opName o) ∧ (∀ c ∈ opName o, c ≠ 10) ∧ (opName o).getLast? ≠ some 58 ∧ findOp (opName o) = some o.toNat := by
  have key : ∀ k : Fin 21, opNames.getD k.1 [] ≠ [] ∧ (∀ c ∈ opNames.getD k.1 [], c ≠ 32 ∧ c ≠ 59) ∧ (∀ c ∈ opNames.getD k.1 [], c ≠ 10) ∧ (opNames.getD k.1 []).getLast? ≠ some 58 ∧ findOp (opNames.getD k.1 []) = some k.1 := by decide +kernel
  exact key ⟨o.toNat, by omega⟩
theorem nameL_label (l : List Ins) (k : Nat) : labelB (nameL l k) = true := by
  rw [nameL, labelB]
  have h : ((Lib.decDigits (countT l k)).all fun d => isLet d || (isDig d || d == 95)) = true := by
    rw [List.all_eq_true]
    intro c hc
    rw [dec_isDig _ c hc]; simp
  rw [h]; rfl
theorem countT_mono (l : List Ins) (k : Nat) : ∀ n, countT l k ≤ countT l (k + n)
  | 0 => Nat.le_refl _
  | n + 1 => by
    have := countT_mono l k n
    rw [← Nat.add_assoc, countT]
    split <;> omega
theorem nameL_ne {l : List Ins} {j k : Nat} (h : j < k) (ht : told l j = true) : nameL l j ≠ nameL l k := by
  intro e
  rw [nameL, nameL, List.cons.injEq] at e
  have e2 := dec_inj e.2
  have h1 : countT l (j + 1) = countT l j + 1 := by rw [countT, if_pos ht]
  have h2 := countT_mono l (j + 1) (k - (j + 1))
  rw [show j + 1 + (k - (j + 1)) = k by omega] at h2
  omega

theorem insB_parts {i : Ins} (h : insB i = true) : 0 ≤ i.op ∧ i.op ≤ 20 ∧ 0 ≤ i.a ∧ i.a ≤ 1048576 ∧ 0 ≤ i.b ∧ i.b ≤ 1048576 ∧ (goesB i.op = true → numsN i.op = 1 ∨ i.b = 0) ∧ (goesB i.op = false → (0 < numsN i.op ∨ i.a = 0) ∧ (numsN i.op = 2 ∨ i.b = 0)) := by
  simp only [insB, withinB, Bool.and_eq_true, decide_eq_true_eq] at h
  obtain ⟨⟨⟨h1, h2⟩, ⟨h3, h4⟩, h5, h6⟩, h7⟩ := h
  refine ⟨h1, h2, h3, h4, h5, h6, ?_, ?_⟩
  · intro hg; rw [if_pos hg] at h7; simpa using h7
  · intro hg; rw [if_neg (by simp [hg])] at h7; simpa using h7
theorem numsN_goes {o : Int} (h : goesB o = true) : numsN o ≤ 1 := by
  simp only [goesB, decide_eq_true_eq] at h
  rw [numsN, if_neg (by omega)]
  split <;> omega
theorem numsN_le (o : Int) : numsN o ≤ 2 := by
  rw [numsN]; split
  · omega
  · split <;> omega
theorem argsI_length (i : Ins) : (argsI i).length = numsN i.op := by
  rw [argsI]
  split
  · rename_i h; have := numsN_goes h; simp; omega
  · have := numsN_le i.op; simp; omega
theorem argsI_mem {i : Ins} (h : insB i = true) : ∀ x ∈ argsI i, 0 ≤ x ∧ x ≤ 1048576 := by
  obtain ⟨_, _, h3, h4, h5, h6, _, _⟩ := insB_parts h
  intro x hx
  rw [argsI] at hx
  split at hx
  · have := List.mem_of_mem_take hx; simp at this; subst this; exact ⟨h5, h6⟩
  · have := List.mem_of_mem_take hx
    simp at this
    rcases this with rfl | rfl
    · exact ⟨h3, h4⟩
    · exact ⟨h5, h6⟩

theorem tailW_clean (l : List Ins) (i : Ins) : ∀ w ∈ tailW l i, w ≠ [] ∧ Clean w ∧ ∀ c ∈ w, c ≠ 10 := by
  intro w hw
  rw [tailW] at hw
  rcases List.mem_append.1 hw with hw | hw
  · split at hw
    · rw [List.mem_singleton] at hw; subst hw
      have := labelB_clean (nameL_label l i.a.toNat)
      exact ⟨this.1, fun c hc => ⟨(this.2 c hc).1, (this.2 c hc).2.1⟩, fun c hc => (this.2 c hc).2.2.2⟩
    · simp at hw
  · obtain ⟨x, _, rfl⟩ := List.mem_map.1 hw
    exact ⟨dec_ne _, fun c hc => ⟨(dig_clean (dec_isDig _ c hc)).1, (dig_clean (dec_isDig _ c hc)).2.1⟩, fun c hc => (dig_clean (dec_isDig _ c hc)).2.2.2⟩

/-- What a line that shows an instruction is read as. -/
theorem readL_line (l : List Ins) (i : Ins) (h : insB i = true) : ∃ p, readL (lineI l i) = ⟨3, if goesB i.op then nameL l i.a.toNat else [], p, if goesB i.op then ⟨i.op, 0, i.b⟩ else i⟩ := by
  obtain ⟨h1, h2, h3, h4, h5, h6, h7, h8⟩ := insB_parts h
  obtain ⟨c1, c2, _, c4, c5⟩ := opName_clean h1 h2
  have ho : ((i.op.toNat : Nat) : Int) = i.op := by omega
  have hw : wordsL (lineI l i) = (opName i.op, 2) :: wordsArgs (tailW l i) (2 + (opName i.op).length) := by
    rw [wordsL, lineI, wordsG_blank, wordsG_blank, wordsG_word _ _ _ _ c1 c2, wordsG_args _ _ _ _ c1 (fun w hw => ⟨(tailW_clean l i w hw).1, (tailW_clean l i w hw).2.1⟩)]
  have hnum : ∀ n, numsW (wordsArgs ((argsI i).map fun x => Lib.decDigits x.toNat) n) = some ((argsI i).map Int.toNat) := by
    intro n
    have := numsW_args ((argsI i).map Int.toNat) n (by
      intro m hm
      obtain ⟨x, hx, rfl⟩ := List.mem_map.1 hm
      have := argsI_mem h x hx; omega)
    rw [List.map_map] at this
    exact this
  have hlen : ∀ n, (wordsArgs ((argsI i).map fun x => Lib.decDigits x.toNat) n).length = numsN i.op := by
    intro n; rw [wordsArgs_length, List.length_map, argsI_length]
  rw [readL, hw, readW, if_neg c4, c5]
  show ∃ p, opW i.op.toNat _ = _
  rw [opW.eq_def, ho]
  by_cases hg : goesB i.op = true
  · rw [if_pos hg, if_pos hg, if_pos hg, tailW, if_pos hg, List.singleton_append, wordsArgs]
    show ∃ p, (if labelB (nameL l i.a.toNat) = true then _ else _) = _
    rw [if_pos (nameL_label _ _), doesW, ho, if_pos (hlen _), hnum]
    refine ⟨2 + (opName i.op).length + 1, ?_⟩
    show (⟨3, _, _, _⟩ : Ln) = _
    rw [if_pos hg]
    have hb : (((argsI i).map Int.toNat).getD 0 0 : Int) = i.b := by
      rw [argsI, if_pos hg]
      have hle := numsN_goes hg
      rcases h7 hg with hk | hk
      · rw [hk]; simp; omega
      · by_cases h0 : numsN i.op = 0
        · rw [h0]; simp [hk]
        · rw [show numsN i.op = 1 by omega]; simp [hk]
    rw [hb]
  · have hg' : goesB i.op = false := by simpa using hg
    obtain ⟨ha, hb⟩ := h8 hg'
    rw [if_neg hg, if_neg hg, if_neg hg, tailW, if_neg hg, List.nil_append, doesW, ho, if_pos (hlen _), hnum]
    refine ⟨0, ?_⟩
    show (⟨3, _, _, _⟩ : Ln) = _
    rw [if_neg hg]
    have hle := numsN_le i.op
    have e1 : (((argsI i).map Int.toNat).getD 0 0 : Int) = i.a := by
      rw [argsI, if_neg hg]
      rcases Nat.eq_zero_or_pos (numsN i.op) with h0 | h0
      · rw [h0]; simp; rcases ha with ha | ha <;> omega
      · obtain ⟨m, hm⟩ : ∃ m, numsN i.op = m + 1 := ⟨_, (Nat.succ_pred_eq_of_pos h0).symm⟩
        rw [hm]; simp; omega
    have e2 : (((argsI i).map Int.toNat).getD 1 0 : Int) = i.b := by
      rw [argsI, if_neg hg]
      by_cases h0 : numsN i.op = 2
      · rw [h0]; simp; omega
      · have : i.b = 0 := by rcases hb with hb | hb <;> omega
        rw [this]
        have : numsN i.op = 0 ∨ numsN i.op = 1 := by omega
        rcases this with h0 | h0 <;> rw [h0] <;> simp
    rw [e1, e2]
end Go.Proofs.YtgonllogaiiicaaDoor

namespace Go.Proofs.YtgonllogaiiicaaDoor
/-- The lines of what is shown. -/
def linesK (l : List Ins) : Nat → List Ins → List Bs
  | _, [] => []
  | k, i :: r => (if told l k then [nameL l k ++ [58]] else []) ++ (lineI l i :: linesK l (k + 1) r)
theorem lineI_no10 (l : List Ins) (i : Ins) (h : insB i = true) : ∀ c ∈ lineI l i, c ≠ 10 := by
  obtain ⟨h1, h2, _⟩ := insB_parts h
  intro c hc
  rw [lineI] at hc
  rcases List.mem_cons.1 hc with rfl | hc
  · decide
  rcases List.mem_cons.1 hc with rfl | hc
  · decide
  rcases List.mem_append.1 hc with hc | hc
  · exact (opName_clean h1 h2).2.2.1 c hc
  · obtain ⟨w, hw, hc⟩ := List.mem_flatMap.1 hc
    rcases List.mem_cons.1 hc with rfl | hc
    · decide
    · exact (tailW_clean l i w hw).2.2 c hc
theorem linesL_show (l : List Ins) : ∀ (r : List Ins) (k : Nat), (∀ i ∈ r, insB i = true) → linesL (showK l k r) = linesK l k r ++ [[]]
  | [], k, _ => rfl
  | i :: r, k, h => by
    have ih := linesL_show l r (k + 1) (fun j hj => h j (by simp [hj]))
    have h1 := lineI_no10 l i (h i (by simp))
    rw [showK, linesK]
    by_cases ht : told l k = true
    · rw [if_pos ht, if_pos ht]
      have hn := (labelB_clean (nameL_label l k)).2
      have e : nameL l k ++ [58, 10] ++ (lineI l i ++ 10 :: showK l (k + 1) r) = (nameL l k ++ [58]) ++ 10 :: (lineI l i ++ 10 :: showK l (k + 1) r) := by simp
      rw [e, linesL_line _ _ (by intro c hc; rcases List.mem_append.1 hc with hc | hc; exact (hn c hc).2.2.2; rw [List.mem_singleton] at hc; subst hc; decide), linesL_line _ _ h1, ih]
      simp
    · rw [if_neg ht, if_neg ht, List.nil_append, linesL_line _ _ h1, ih]
      simp
theorem readL_label (s : Bs) (h : labelB s = true) : readL (s ++ [58]) = ⟨2, s, 0, ⟨0, 0, 0⟩⟩ := by
  have hc := labelB_clean h
  have hw : wordsL (s ++ [58]) = [(s ++ [58], 0)] := by
    rw [wordsL, wordsG_last _ _ _ (by simp)]
    intro c hm
    rcases List.mem_append.1 hm with hm | hm
    · exact ⟨(hc.2 c hm).1, (hc.2 c hm).2.1⟩
    · rw [List.mem_singleton] at hm; subst hm; decide
  rw [readL, hw, readW, if_pos (by simp), List.dropLast_concat, if_pos ⟨rfl, h⟩]
/-- What the lines of what is shown are. -/
def IsK (l : List Ins) : Nat → List Ins → List Ln → Prop
  | _, [], xs => ∃ p i, xs = [⟨1, [], p, i⟩]
  | k, i :: r, xs => ∃ p ys, IsK l (k + 1) r ys ∧ xs = (if told l k then [⟨2, nameL l k, 0, ⟨0, 0, 0⟩⟩] else []) ++ (⟨3, if goesB i.op then nameL l i.a.toNat else [], p, if goesB i.op then ⟨i.op, 0, i.b⟩ else i⟩ :: ys)
theorem isK_show (l : List Ins) : ∀ (r : List Ins) (k : Nat), (∀ i ∈ r, insB i = true) → IsK l k r ((linesL (showK l k r)).map readL)
  | [], k, _ => ⟨0, ⟨0, 0, 0⟩, rfl⟩
  | i :: r, k, h => by
    have ih := isK_show l r (k + 1) (fun j hj => h j (by simp [hj]))
    have e := linesL_show l r (k + 1) (fun j hj => h j (by simp [hj]))
    rw [e] at ih
    rw [linesL_show l (i :: r) k h, linesK]
    obtain ⟨p, hp⟩ := readL_line l i (h i (by simp))
    refine ⟨p, _, ih, ?_⟩
    rw [List.append_assoc, List.cons_append, List.map_append, List.map_cons, hp]
    congr 1
    split
    · rw [List.map_singleton, readL_label _ (nameL_label l k)]
    · rfl

theorem isK_kinds (l : List Ins) : ∀ (r : List Ins) (k : Nat) (xs : List Ln), IsK l k r xs → ∀ x ∈ xs, x.kind ≠ 0 ∧ (x.kind = 2 → ∃ j, k ≤ j ∧ told l j = true ∧ x.label = nameL l j)
  | [], k, xs, h => by
    obtain ⟨p, i, rfl⟩ := h
    intro x hx; rw [List.mem_singleton] at hx; subst hx; exact ⟨by simp, fun h => by cases h⟩
  | i :: r, k, xs, h => by
    obtain ⟨p, ys, hy, rfl⟩ := h
    have ih := isK_kinds l r (k + 1) ys hy
    intro x hx
    rcases List.mem_append.1 hx with hx | hx
    · split at hx
      · rename_i ht; rw [List.mem_singleton] at hx; subst hx; exact ⟨by simp, fun _ => ⟨k, Nat.le_refl _, ht, rfl⟩⟩
      · simp at hx
    · rcases List.mem_cons.1 hx with rfl | hx
      · exact ⟨by simp, fun h => by cases h⟩
      · obtain ⟨h1, h2⟩ := ih x hx
        refine ⟨h1, fun h => ?_⟩
        obtain ⟨j, hj, e⟩ := h2 h
        exact ⟨j, by omega, e⟩
theorem isK_place (l : List Ins) (j : Nat) (hj : told l j = true) : ∀ (r : List Ins) (k : Nat) (xs : List Ln), IsK l k r xs → k ≤ j → j < k + r.length → placeOf xs (nameL l j) k = some j
  | [], k, xs, _, h1, h2 => by simp at h2; omega
  | i :: r, k, xs, h, h1, h2 => by
    obtain ⟨p, ys, hy, rfl⟩ := h
    by_cases e : k = j
    · subst e
      rw [if_pos hj, List.singleton_append, placeOf, if_pos ⟨rfl, rfl⟩]
    · have ih := isK_place l j hj r (k + 1) ys hy (by omega) (by simp at h2; omega)
      have step : placeOf ((⟨3, if goesB i.op then nameL l i.a.toNat else [], p, if goesB i.op then ⟨i.op, 0, i.b⟩ else i⟩ : Ln) :: ys) (nameL l j) k = some j := by
        rw [placeOf, if_neg (by simp), if_pos rfl, ih]
      by_cases ht : told l k = true
      · rw [if_pos ht, List.singleton_append, placeOf, if_neg (by rintro ⟨_, h⟩; exact nameL_ne (by omega) ht h)]
        exact step
      · rw [if_neg ht, List.nil_append]; exact step
theorem told_of_mem {l : List Ins} {i : Ins} (h : i ∈ l) (hg : goesB i.op = true) (h0 : 0 ≤ i.a) : told l i.a.toNat = true := by
  rw [told, List.any_eq_true]
  exact ⟨i, h, by rw [hg]; simp; omega⟩

theorem goOn_show (l : List Ins) (all : List Ln) (hall : IsK l 0 l all) (hins : ∀ i ∈ l, insB i = true) (hto : ∀ i ∈ l, goesB i.op = true → i.a < l.length) :
    ∀ (r : List Ins) (k : Nat) (pre xs : List Ln), (∀ i ∈ r, i ∈ l) → IsK l k r xs → (∀ x ∈ pre, x.kind = 2 → ∃ j, j < k ∧ told l j = true ∧ x.label = nameL l j) → goOn all pre xs = .ok r
  | [], k, pre, xs, _, h, _ => by
    obtain ⟨p, i, rfl⟩ := h
    rw [goOn, if_neg (by simp), if_neg (by simp), goOn]
  | i :: r, k, pre, xs, hm, h, hp => by
    obtain ⟨p, ys, hy, rfl⟩ := h
    have hi := hm i (by simp)
    obtain ⟨h1, h2, h3, h4, h5, h6, h7, h8⟩ := insB_parts (hins i hi)
    have two : ∀ pre' : List Ln, (∀ x ∈ pre', x.kind = 2 → ∃ j, j < k + 1 ∧ told l j = true ∧ x.label = nameL l j) →
        goOn all pre' ((⟨3, if goesB i.op then nameL l i.a.toNat else [], p, if goesB i.op then ⟨i.op, 0, i.b⟩ else i⟩ : Ln) :: ys) = .ok (i :: r) := by
      intro pre' hp'
      have ih := fun pre'' h => goOn_show l all hall hins hto r (k + 1) pre'' ys (fun j hj => hm j (by simp [hj])) hy h
      rw [goOn, if_neg (by simp), if_pos rfl]
      by_cases hg : goesB i.op = true
      · have hto' := hto i hi hg
        have hpl := isK_place l i.a.toNat (told_of_mem hi hg h3) l 0 all hall (Nat.zero_le _) (by omega)
        simp only [if_pos hg, hpl]
        rw [ih _ (by
          intro x hx hk
          rcases List.mem_append.1 hx with hx | hx
          · exact hp' x hx hk
          · rw [List.mem_singleton] at hx; subst hx; cases hk)]
        have ha : ((i.a.toNat : Nat) : Int) = i.a := by omega
        rw [ha]; rfl
      · simp only [if_neg hg]
        rw [ih _ (by
          intro x hx hk
          rcases List.mem_append.1 hx with hx | hx
          · exact hp' x hx hk
          · rw [List.mem_singleton] at hx; subst hx; cases hk)]
        rfl
    by_cases ht : told l k = true
    · rw [if_pos ht, List.singleton_append, goOn, if_pos rfl, if_pos, two]
      · intro x hx hk
        rcases List.mem_append.1 hx with hx | hx
        · obtain ⟨j, h1, h2⟩ := hp x hx hk; exact ⟨j, by omega, h2⟩
        · rw [List.mem_singleton] at hx; subst hx; exact ⟨k, by omega, ht, rfl⟩
      · simp only [List.any_cons, decide_true, Bool.true_or, Bool.true_and, Bool.not_eq_true', List.any_eq_false, Bool.and_eq_true, decide_eq_true_eq, not_and]
        intro x hx hk e
        obtain ⟨j, h1, h2, h3⟩ := hp x hx hk
        rw [h3] at e
        exact nameL_ne h1 h2 e
    · rw [if_neg ht, List.nil_append, two pre (fun x hx hk => by obtain ⟨j, h1, h2⟩ := hp x hx hk; exact ⟨j, by omega, h2⟩)]

theorem checkE_zero {l : List Ins} (h : checkE l = 0) : l.length ≤ 20000 ∧ (∀ i ∈ l, insB i = true) ∧ ∀ i ∈ l, goesB i.op = true → i.a < l.length := by
  rw [checkE] at h
  split at h
  · cases h
  · split at h
    · split at h
      · rename_i h0 h1 h2
        refine ⟨by omega, fun i hi => List.all_eq_true.1 h1 i hi, fun i hi hg => ?_⟩
        have := List.all_eq_true.1 h2 i hi
        rw [hg] at this; simpa using this
      · cases h
    · cases h
theorem checkE_of {l : List Ins} (h1 : l.length ≤ 20000) (h2 : ∀ i ∈ l, insB i = true) (h3 : ∀ i ∈ l, goesB i.op = true → i.a < l.length) : checkE l = 0 := by
  rw [checkE, if_neg (by omega), if_pos (List.all_eq_true.2 h2), if_pos]
  rw [List.all_eq_true]
  intro i hi
  by_cases hg : goesB i.op = true
  · simp [hg, h3 i hi hg]
  · simp [hg]

/-- WHAT IS SHOWN IS READ AGAIN. -/
theorem back {l : List Ins} (h : checkE l = 0) : readT (showT l) = .ok l := by
  obtain ⟨_, h2, h3⟩ := checkE_zero h
  have hK := isK_show l l 0 h2
  have hk := isK_kinds l l 0 _ hK
  have hg := goOn_show l _ hK h2 h3 l 0 [] _ (fun _ h => h) hK (by simp)
  rw [readT, readAll]
  have hf : ((linesL (showT l)).map readL).findIdx? (fun x => decide (x.kind = 0)) = none := by
    rw [List.findIdx?_eq_none_iff]
    intro x hx
    have := (hk x hx).1
    simpa using this
  rw [hf]
  show (match goOn _ [] _ with | .error k => Res.label k | .ok l => Res.ok l) = _
  rw [show showT l = showK l 0 l from rfl, hg]

/-! ### What was read may be -/
theorem findOp_le {s : Bs} {o : Nat} (h : findOp s = some o) : o ≤ 20 := by
  rw [findOp, List.findIdx?_eq_some_iff_getElem] at h
  obtain ⟨hh, _⟩ := h
  have : opNames.length = 21 := rfl
  omega
theorem numsW_le : ∀ {ws : List (Bs × Nat)} {l : List Nat}, numsW ws = some l → l.length = ws.length ∧ ∀ n ∈ l, n ≤ 1048576
  | [], l, h => by cases h; simp
  | (s, p) :: r, l, h => by
    rw [numsW] at h
    split at h
    · rename_i n l' h1 h2
      cases h
      have := numsW_le h2
      refine ⟨by simp [this.1], ?_⟩
      intro m hm
      rcases List.mem_cons.1 hm with rfl | hm
      · exact numB_le h1
      · exact this.2 m hm
    · cases h
/-- What a line that does something does, wherever it goes. -/
theorem doesW_ins {o : Nat} {s : Bs} {p : Nat} {ws : List (Bs × Nat)} (ho : o ≤ 20) (hk : (doesW o s p ws).kind = 3) : ∀ a : Int, 0 ≤ a → a ≤ 1048576 → insB (if goesB (doesW o s p ws).i.op then ⟨(doesW o s p ws).i.op, a, (doesW o s p ws).i.b⟩ else (doesW o s p ws).i) = true := by
  rw [doesW] at hk ⊢
  split at hk
  · rename_i hl
    rw [if_pos hl]
    split at hk
    · cases hk
    · rename_i l hn
      obtain ⟨n1, n2⟩ := numsW_le hn
      rw [hl] at n1
      have n0 : ∀ k, (l.getD k 0) ≤ 1048576 := by
        intro k
        rw [List.getD_eq_getElem?_getD]
        cases hk : l[k]? with
        | none => simp
        | some m => simpa using n2 m (List.mem_of_getElem? hk)
      have nz : ∀ k, numsN o ≤ k → l.getD k 0 = 0 := by
        intro k hk
        rw [List.getD_eq_getElem?_getD, List.getElem?_eq_none (by omega)]; rfl
      have hle := numsN_le o
      intro a a0 a1
      simp only
      by_cases hg : goesB o = true
      · have h1 := numsN_goes hg
        rw [if_pos hg]
        simp only [if_pos hg, insB, withinB, Bool.and_eq_true, decide_eq_true_eq, Bool.or_eq_true]
        have := n0 0
        refine ⟨⟨⟨by omega, by omega⟩, ⟨a0, a1⟩, by omega, by omega⟩, ?_⟩
        by_cases h2 : numsN o = 1
        · exact .inl h2
        · have := nz 0 (by omega); exact .inr (by omega)
      · rw [if_neg hg]
        simp only [if_neg hg, insB, withinB, Bool.and_eq_true, decide_eq_true_eq, Bool.or_eq_true]
        have m0 := n0 0
        have m1 := n0 1
        refine ⟨⟨⟨by omega, by omega⟩, ⟨by omega, by omega⟩, by omega, by omega⟩, ?_, ?_⟩
        · by_cases h2 : 0 < numsN o
          · exact .inl h2
          · have := nz 0 (by omega); exact .inr (by omega)
        · by_cases h2 : numsN o = 2
          · exact .inl h2
          · have := nz 1 (by omega); exact .inr (by omega)
  · cases hk
theorem readL_ins (s : Bs) (hk : (readL s).kind = 3) : ∀ a : Int, 0 ≤ a → a ≤ 1048576 → insB (if goesB (readL s).i.op then ⟨(readL s).i.op, a, (readL s).i.b⟩ else (readL s).i) = true := by
  rw [readL] at hk ⊢
  generalize wordsL s = w at hk ⊢
  cases w with
  | nil => cases hk
  | cons x ws =>
    obtain ⟨s, p⟩ := x
    rw [readW] at hk ⊢
    split at hk
    · split at hk <;> cases hk
    · rename_i h58
      rw [if_neg h58]
      split at hk
      · cases hk
      · rename_i o ho
        have ho := findOp_le ho
        rw [opW.eq_def] at hk ⊢
        by_cases hg : goesB o = true
        · rw [if_pos hg] at hk ⊢
          split at hk
          · cases hk
          · split at hk
            · rename_i hb
              simp only [if_pos hb]
              exact doesW_ins ho hk
            · cases hk
        · rw [if_neg hg] at hk ⊢
          exact doesW_ins ho hk
def doesN (xs : List Ln) : Nat := (xs.filter fun x => decide (x.kind = 3)).length
theorem doesN_cons (x : Ln) (xs : List Ln) : doesN (x :: xs) = (if x.kind = 3 then 1 else 0) + doesN xs := by
  rw [doesN, doesN, List.filter_cons]
  by_cases h : x.kind = 3
  · simp [h]; omega
  · simp [h]
theorem doesN_le (xs : List Ln) : doesN xs ≤ xs.length := List.length_filter_le _ _
theorem except_map_ok {α β ε : Type} {f : α → β} {x : Except ε α} {y : β} (h : x.map f = .ok y) : ∃ z, x = .ok z ∧ f z = y := by
  cases x with
  | error e => cases h
  | ok z => exact ⟨z, rfl, by cases h; rfl⟩
/-- Where a label that was taken stands, something follows. -/
def behindB : List Ln → Prop
  | [] => True
  | x :: r => (x.kind = 2 → 0 < doesN r) ∧ behindB r
theorem any_doesN {r : List Ln} (h : (r.any fun y => decide (y.kind = 3)) = true) : 0 < doesN r := by
  obtain ⟨y, hy, h⟩ := List.any_eq_true.1 h
  exact List.length_pos_of_mem (List.mem_filter.2 ⟨hy, h⟩)
theorem goOn_parts (all : List Ln) : ∀ (xs pre : List Ln) (l : List Ins), goOn all pre xs = .ok l → behindB xs ∧ l.length = doesN xs ∧
    ∀ i ∈ l, ∃ x ∈ xs, x.kind = 3 ∧ (goesB x.i.op = true → ∃ n, placeOf all x.label 0 = some n ∧ i = ⟨x.i.op, n, x.i.b⟩) ∧ (goesB x.i.op = false → i = x.i)
  | [], pre, l, h => by rw [goOn] at h; cases h; exact ⟨trivial, rfl, by simp⟩
  | x :: r, pre, l, h => by
    rw [goOn] at h
    by_cases h2 : x.kind = 2
    · rw [if_pos h2] at h
      split at h
      · rename_i hc
        obtain ⟨a, b, c⟩ := goOn_parts all r _ l h
        rw [Bool.and_eq_true] at hc
        refine ⟨⟨fun _ => any_doesN hc.1, a⟩, by rw [doesN_cons, if_neg (by omega)]; omega, fun i hi => ?_⟩
        obtain ⟨y, hy, k⟩ := c i hi
        exact ⟨y, by simp [hy], k⟩
      · cases h
    · rw [if_neg h2] at h
      by_cases h3 : x.kind = 3
      · rw [if_pos h3] at h
        by_cases hg : goesB x.i.op = true
        · rw [if_pos hg] at h
          split at h
          · cases h
          · rename_i n hn
            obtain ⟨z, hz, rfl⟩ := except_map_ok h
            obtain ⟨a, b, c⟩ := goOn_parts all r _ z hz
            refine ⟨⟨fun h => absurd h h2, a⟩, by rw [doesN_cons, if_pos h3]; simp; omega, fun i hi => ?_⟩
            rcases List.mem_cons.1 hi with rfl | hi
            · exact ⟨x, by simp, h3, fun _ => ⟨n, hn, rfl⟩, fun h => by rw [hg] at h; cases h⟩
            · obtain ⟨y, hy, k⟩ := c i hi
              exact ⟨y, by simp [hy], k⟩
        · rw [if_neg hg] at h
          obtain ⟨z, hz, rfl⟩ := except_map_ok h
          obtain ⟨a, b, c⟩ := goOn_parts all r _ z hz
          refine ⟨⟨fun h => absurd h h2, a⟩, by rw [doesN_cons, if_pos h3]; simp; omega, fun i hi => ?_⟩
          rcases List.mem_cons.1 hi with rfl | hi
          · exact ⟨x, by simp, h3, fun h => absurd h hg, fun _ => rfl⟩
          · obtain ⟨y, hy, k⟩ := c i hi
            exact ⟨y, by simp [hy], k⟩
      · rw [if_neg h3] at h
        obtain ⟨a, b, c⟩ := goOn_parts all r _ l h
        refine ⟨⟨fun h => absurd h h2, a⟩, by rw [doesN_cons, if_neg h3]; omega, fun i hi => ?_⟩
        obtain ⟨y, hy, k⟩ := c i hi
        exact ⟨y, by simp [hy], k⟩
theorem placeOf_lt (s : Bs) : ∀ (xs : List Ln) (n m : Nat), behindB xs → placeOf xs s n = some m → m < n + doesN xs
  | [], n, m, _, h => by cases h
  | x :: r, n, m, hb, h => by
    rw [placeOf] at h
    rw [doesN_cons]
    split at h
    · rename_i hc; cases h; have := hb.1 hc.1; omega
    · have := placeOf_lt s r _ m hb.2 h
      split at this <;> rename_i h3 <;> simp [h3] <;> omega
/-- What was read may be. -/
theorem read_check {s : Bs} {l : List Ins} (h : readT s = .ok l) (hs : s.length < 20000) : checkE l = 0 := by
  rw [readT, readAll] at h
  split at h
  · cases h
  · split at h
    · cases h
    · rename_i l' hl
      cases h
      obtain ⟨a, b, c⟩ := goOn_parts _ _ _ _ hl
      have hN : doesN ((linesL s).map readL) ≤ s.length + 1 := by
        have h1 := doesN_le ((linesL s).map readL)
        have h2 := linesA_length s []
        rw [List.length_map] at h1
        exact Nat.le_trans h1 h2
      have key : ∀ i ∈ l, insB i = true ∧ (goesB i.op = true → i.a < l.length) := by
        intro i hi
        obtain ⟨x, hx, h3, h4, h5⟩ := c i hi
        obtain ⟨t, _, rfl⟩ := List.mem_map.1 hx
        by_cases hg : goesB (readL t).i.op = true
        · obtain ⟨n, hn, rfl⟩ := h4 hg
          have hlt := placeOf_lt _ _ _ _ a hn
          have := readL_ins t h3 n (by omega) (by omega)
          rw [if_pos hg] at this
          exact ⟨this, fun _ => by show (n : Int) < _; omega⟩
        · have hg' : goesB (readL t).i.op = false := by simpa using hg
          have := readL_ins t h3 0 (by omega) (by omega)
          rw [if_neg hg] at this
          rw [h5 hg']
          exact ⟨this, fun h => absurd h hg⟩
      exact checkE_of (by omega) (fun i hi => (key i hi).1) (fun i hi => (key i hi).2)
end Go.Proofs.YtgonllogaiiicaaDoor

namespace Go.Proofs.YtgonllogaiiicaaDoor
/-! ### The first word of a line -/
/-- What may stand behind a word. -/
def VCond (v : Bs) : Prop := v = [] ∨ ∃ c v', v = c :: v' ∧ (c = 32 ∨ c = 59)
theorem wordsG_end {v : Bs} (h : VCond v) {now : Bs} (hn : now ≠ []) (p j : Nat) : wordsG v now p j = (now, p) :: wordsG v [] 0 j := by
  rcases h with rfl | ⟨c, v', rfl, rfl | rfl⟩
  · rw [wordsG, if_neg hn, wordsG, if_pos rfl]
  · rw [wordsG, if_neg (by decide), if_pos rfl, if_neg hn, wordsG_blank, wordsG_at v' p 0]
  · rw [wordsG, if_pos rfl, if_neg hn, wordsG, if_pos rfl, if_pos rfl]
theorem wordsG_more : ∀ (r now : Bs) (p i : Nat), now ≠ [] → ∃ m v, r = m ++ v ∧ Clean m ∧ VCond v ∧ wordsG r now p i = (now ++ m, p) :: wordsG v [] 0 (i + m.length)
  | [], now, p, i, hn => ⟨[], [], rfl, by simp [Clean], .inl rfl, by simp [wordsG, hn]⟩
  | c :: r, now, p, i, hn => by
    by_cases h1 : c = 59
    · subst h1; exact ⟨[], 59 :: r, rfl, by simp [Clean], .inr ⟨59, r, rfl, .inr rfl⟩, by rw [wordsG_end (.inr ⟨59, r, rfl, .inr rfl⟩) hn]; simp⟩
    · by_cases h2 : c = 32
      · subst h2; exact ⟨[], 32 :: r, rfl, by simp [Clean], .inr ⟨32, r, rfl, .inl rfl⟩, by rw [wordsG_end (.inr ⟨32, r, rfl, .inl rfl⟩) hn]; simp⟩
      · obtain ⟨m, v, rfl, hm, hv, e⟩ := wordsG_more r (now ++ [c]) p (i + 1) (by simp)
        refine ⟨c :: m, v, rfl, ?_, hv, ?_⟩
        · intro d hd
          rcases List.mem_cons.1 hd with rfl | hd
          · exact ⟨h2, h1⟩
          · exact hm d hd
        · rw [wordsG, if_neg h1, if_neg h2, if_neg hn, e]
          simp [Nat.add_assoc, Nat.add_comm 1]
theorem wordsG_first : ∀ (s : Bs) (p i : Nat) (w : Bs) (q : Nat) (ws : List (Bs × Nat)), wordsG s [] p i = (w, q) :: ws →
    ∃ u v, s = u ++ (w ++ v) ∧ (∀ c ∈ u, c = 32) ∧ q = i + u.length ∧ w ≠ [] ∧ Clean w ∧ VCond v ∧ ws = wordsG v [] 0 (q + w.length)
  | [], p, i, w, q, ws, h => by rw [wordsG, if_pos rfl] at h; cases h
  | c :: r, p, i, w, q, ws, h => by
    rw [wordsG] at h
    by_cases h1 : c = 59
    · rw [if_pos h1, if_pos rfl] at h; cases h
    · rw [if_neg h1] at h
      by_cases h2 : c = 32
      · rw [if_pos h2, if_pos rfl] at h
        obtain ⟨u, v, rfl, a, b, k⟩ := wordsG_first r p (i + 1) w q ws h
        refine ⟨32 :: u, v, by rw [h2]; rfl, ?_, by rw [b, List.length_cons]; omega, k⟩
        intro d hd
        rcases List.mem_cons.1 hd with rfl | hd
        · rfl
        · exact a d hd
      · rw [if_neg h2, if_pos rfl, List.nil_append] at h
        obtain ⟨m, v, rfl, hm, hv, e⟩ := wordsG_more r [c] i (i + 1) (by simp)
        rw [e] at h
        injection h with h3 h4
        injection h3 with h5 h6
        subst h5 h6
        refine ⟨[], v, rfl, by simp, rfl, by simp, ?_, hv, by rw [← h4]; simp [Nat.add_assoc, Nat.add_comm 1]⟩
        intro d hd
        rw [List.singleton_append] at hd
        rcases List.mem_cons.1 hd with rfl | hd
        · exact ⟨h2, h1⟩
        · exact hm d hd
theorem wordsG_blanks : ∀ (u s : Bs) (p i : Nat), (∀ c ∈ u, c = 32) → wordsG (u ++ s) [] p i = wordsG s [] p (i + u.length)
  | [], _, _, _, _ => rfl
  | c :: u, s, p, i, h => by
    have := h c (by simp); subst this
    rw [List.cons_append, wordsG_blank, wordsG_blanks u s p _ (fun d hd => h d (by simp [hd])), List.length_cons]
    congr 1; omega
/-- Another word in its place. -/
theorem wordsG_put {u v w : Bs} (hu : ∀ c ∈ u, c = 32) (hw : w ≠ []) (hc : Clean w) (hv : VCond v) (p i : Nat) : wordsG (u ++ (w ++ v)) [] p i = (w, i + u.length) :: wordsG v [] 0 (i + u.length + w.length) := by
  rw [wordsG_blanks u _ p i hu, wordsG_word w v _ _ hw hc, wordsG_end hv hw]
theorem wordsG_shift : ∀ (v now : Bs) (p p' i i' : Nat), (wordsG v now p i).map Prod.fst = (wordsG v now p' i').map Prod.fst
  | [], now, p, p', i, i' => by rw [wordsG, wordsG]; split <;> rfl
  | c :: r, now, p, p', i, i' => by
    rw [wordsG, wordsG]
    split
    · split <;> rfl
    · split
      · split
        · exact wordsG_shift r [] _ _ _ _
        · rw [List.map_cons, List.map_cons, wordsG_shift r [] p p' (i + 1) (i' + 1)]
      · exact wordsG_shift r _ _ _ _ _
theorem numsW_fst : ∀ (a b : List (Bs × Nat)), a.map Prod.fst = b.map Prod.fst → numsW a = numsW b
  | [], [], _ => rfl
  | [], _ :: _, h => by cases h
  | _ :: _, [], h => by cases h
  | (s, p) :: a, (t, q) :: b, h => by
    rw [List.map_cons, List.map_cons] at h
    injection h with h1 h2
    have h1 : s = t := h1
    subst h1
    rw [numsW, numsW, numsW_fst a b h2]
theorem doesW_fst (o : Nat) (s : Bs) (p : Nat) {a b : List (Bs × Nat)} (h : a.map Prod.fst = b.map Prod.fst) : doesW o s p a = doesW o s p b := by
  have hl : a.length = b.length := by have := congrArg List.length h; simpa using this
  rw [doesW, doesW, hl, numsW_fst a b h]
theorem doesW_label {o : Nat} {s : Bs} {p : Nat} {ws : List (Bs × Nat)} (h : 2 ≤ (doesW o s p ws).kind) (t : Bs) (q : Nat) : (doesW o s p ws).label = s ∧ (doesW o s p ws).at_ = p ∧ doesW o t q ws = ⟨(doesW o s p ws).kind, t, q, (doesW o s p ws).i⟩ := by
  simp only [doesW] at h ⊢
  by_cases hl : ws.length = numsN o
  · simp only [if_pos hl] at h ⊢
    cases hn : numsW ws with
    | none => rw [hn] at h; exact absurd h (by simp [wrongL])
    | some l => exact ⟨rfl, rfl, rfl⟩
  · rw [if_neg hl] at h; exact absurd h (by decide)

/-- A line's label, where it is, and the line with another one. -/
theorem readL_split (s : Bs) (hk : 2 ≤ (readL s).kind) (hl : (readL s).label ≠ []) :
    ∃ u v, s = u ++ ((readL s).label ++ v) ∧ (readL s).at_ = u.length ∧ ∀ b, labelB b = true → readL (u ++ (b ++ v)) = ⟨(readL s).kind, b, (readL s).at_, (readL s).i⟩ := by
  cases hw : wordsL s with
  | nil => rw [readL, hw, readW] at hk; exact absurd hk (by decide)
  | cons x ws =>
    obtain ⟨w, p⟩ := x
    obtain ⟨u, v, e, hu, hp, w1, w2, hv, hws⟩ := wordsG_first s 0 0 w p ws hw
    have hr : readL s = readW ((w, p) :: ws) := by rw [readL, hw]
    rw [hr] at hk hl ⊢
    rw [readW] at hk hl ⊢
    by_cases h58 : w.getLast? = some 58
    · rw [if_pos h58] at hk hl ⊢
      by_cases hc : ws = [] ∧ labelB w.dropLast = true
      · rw [if_pos hc] at hk hl ⊢
        obtain ⟨t, ht⟩ : ∃ t, w = t ++ [58] := by
          obtain ⟨t, ht⟩ := List.getLast?_eq_some_iff.1 h58
          exact ⟨t, ht⟩
        subst ht
        simp only [List.dropLast_concat] at hc hl ⊢
        refine ⟨u, 58 :: v, by rw [e]; simp, by omega, fun b hb => ?_⟩
        have hbc := labelB_clean hb
        have hput := wordsG_put (w := b ++ [58]) hu (by simp) (by
          intro c hc
          rcases List.mem_append.1 hc with hc | hc
          · exact ⟨(hbc.2 c hc).1, (hbc.2 c hc).2.1⟩
          · rw [List.mem_singleton] at hc; subst hc; decide) hv 0 0
        have hnil : wordsG v [] 0 (0 + u.length + (b ++ [58]).length) = [] := by
          have h1 := wordsG_shift v [] 0 0 (0 + u.length + (b ++ [58]).length) (p + (t ++ [58]).length)
          rw [← hws, hc.1] at h1
          simpa using h1
        rw [hnil] at hput
        have e2 : u ++ (b ++ 58 :: v) = u ++ ((b ++ [58]) ++ v) := by simp
        rw [readL, wordsL, e2, hput, readW, if_pos (by simp), List.dropLast_concat, if_pos ⟨rfl, hb⟩]
        congr 1; omega
      · rw [if_neg hc] at hk; exact absurd hk (by decide)
    · rw [if_neg h58] at hk hl ⊢
      cases ho : findOp w with
      | none => rw [ho] at hk; exact absurd hk (by simp [wrongL])
      | some o =>
        rw [ho] at hk hl
        simp only at hk hl ⊢
        rw [opW.eq_def] at hk hl ⊢
        by_cases hg : goesB o = true
        · rw [if_pos hg] at hk hl ⊢
          cases hws' : ws with
          | nil => rw [hws'] at hk; exact absurd hk (by simp [wrongL])
          | cons y r =>
            obtain ⟨t, q⟩ := y
            rw [hws'] at hk hl
            simp only at hk hl ⊢
            by_cases hb : labelB t = true
            · rw [if_pos hb] at hk hl ⊢
              obtain ⟨u2, v2, e2, hu2, hq, t1, t2, hv2, hr2⟩ := wordsG_first v 0 (p + w.length) t q r (by rw [← hws, hws'])
              obtain ⟨d1, d2, _⟩ := doesW_label hk t q
              rw [d1, d2]
              refine ⟨u ++ (w ++ u2), v2, by rw [e, e2]; simp, by simp; omega, fun b hbl => ?_⟩
              have hbc := labelB_clean hbl
              have hbc' : Clean b := fun c hc => ⟨(hbc.2 c hc).1, (hbc.2 c hc).2.1⟩
              have hv' : VCond (u2 ++ (b ++ v2)) := by
                cases u2 with
                | cons c u2 => exact .inr ⟨c, _, rfl, .inl (hu2 c (by simp))⟩
                | nil =>
                  exfalso
                  rcases hv with rfl | ⟨c, v', rfl, hc⟩
                  · cases t with
                    | nil => exact t1 rfl
                    | cons => cases e2
                  · cases t with
                    | nil => exact t1 rfl
                    | cons d t =>
                      rw [List.nil_append, List.cons_append] at e2
                      injection e2 with e3 _
                      have := t2 d (by simp)
                      rcases hc with hc | hc
                      · exact this.1 (by rw [← e3, hc])
                      · exact this.2 (by rw [← e3, hc])
              have eq1 : u ++ (w ++ u2) ++ (b ++ v2) = u ++ (w ++ (u2 ++ (b ++ v2))) := by simp
              have hq' : 0 + u.length + w.length + u2.length = q := by omega
              rw [readL, wordsL, eq1, wordsG_put hu w1 w2 hv' 0 0, wordsG_put hu2 hbc.1 hbc' hv2, readW, if_neg h58, ho]
              simp only
              rw [opW.eq_def, if_pos hg]
              simp only
              rw [if_pos hbl, hq']
              have hfst : (wordsG v2 [] 0 (q + b.length)).map Prod.fst = r.map Prod.fst := by rw [hr2]; exact wordsG_shift _ _ _ _ _ _
              rw [doesW_fst o b q hfst, (doesW_label hk b q).2.2]
            · rw [if_neg hb] at hk; exact absurd hk (by decide)
        · rw [if_neg hg] at hk hl ⊢
          exact absurd (doesW_label hk [] 0).1 hl

/-! ### A text with other labels -/
def renLine (a b s : Bs) : Bs :=
  if 2 ≤ (readL s).kind ∧ (readL s).label ≠ [] ∧ (readL s).label = a then s.take (readL s).at_ ++ (b ++ s.drop ((readL s).at_ + a.length)) else s
def joinL : List Bs → Bs
  | [] => []
  | [l] => l
  | l :: r => l ++ 10 :: joinL r
def renT (s a b : Bs) : Bs := joinL ((linesL s).map (renLine a b))
def renLn (a b : Bs) (x : Ln) : Ln := if 2 ≤ x.kind ∧ x.label ≠ [] ∧ x.label = a then ⟨x.kind, b, x.at_, x.i⟩ else x
theorem readL_ren (a b s : Bs) (hb : labelB b = true) : readL (renLine a b s) = renLn a b (readL s) := by
  rw [renLine, renLn]
  split
  · rename_i h
    obtain ⟨h1, h2, h3⟩ := h
    obtain ⟨u, v, e, ha, hr⟩ := readL_split s h1 h2
    have := hr b hb
    rw [h3] at e
    rw [← this]
    congr 1
    rw [ha]
    have e1 : s.take u.length = u := by rw [e]; simp
    have e2 : s.drop (u.length + a.length) = v := by rw [e]; simp [← List.append_assoc]
    rw [e1, e2]
  · rfl
theorem linesL_join : ∀ (ls : List Bs), ls ≠ [] → (∀ l ∈ ls, ∀ c ∈ l, c ≠ 10) → linesL (joinL ls) = ls
  | [], h, _ => absurd rfl h
  | [l], _, h => linesL_one l (h l (by simp))
  | l :: m :: r, _, h => by
    rw [joinL, linesL_line _ _ (h l (by simp)), linesL_join (m :: r) (by simp) (fun x hx => h x (by simp [hx]))]
    simp
theorem linesA_ne : ∀ (s now : Bs), linesA s now ≠ []
  | [], _ => by simp [linesA]
  | c :: r, now => by
    rw [linesA]; split
    · simp
    · exact linesA_ne r _
theorem renLine_no10 {a b s : Bs} (hb : labelB b = true) (h : ∀ c ∈ s, c ≠ 10) : ∀ c ∈ renLine a b s, c ≠ 10 := by
  rw [renLine]
  split
  · intro c hc
    rcases List.mem_append.1 hc with hc | hc
    · exact h c (List.mem_of_mem_take hc)
    · rcases List.mem_append.1 hc with hc | hc
      · exact ((labelB_clean hb).2 c hc).2.2.2
      · exact h c (List.mem_of_mem_drop hc)
  · exact h
theorem lines_ren (s a b : Bs) (hb : labelB b = true) : (linesL (renT s a b)).map readL = ((linesL s).map readL).map (renLn a b) := by
  rw [renT, linesL_join]
  · rw [List.map_map, List.map_map]
    apply List.map_congr_left
    intro l _
    exact readL_ren a b l hb
  · intro h; exact linesA_ne s [] (List.map_eq_nil_iff.1 h)
  · intro l hl
    obtain ⟨m, hm, rfl⟩ := List.mem_map.1 hl
    exact renLine_no10 hb (linesA_clean s [] (by simp) m hm)

theorem renLn_kind (a b : Bs) (x : Ln) : (renLn a b x).kind = x.kind ∧ (renLn a b x).i = x.i := by
  rw [renLn]; split <;> exact ⟨rfl, rfl⟩
/-- Labels are the same just where they were. -/
theorem renLn_same {a b : Bs} {x y : Ln} (hx : 2 ≤ x.kind → x.label ≠ b) (hy : 2 ≤ y.kind → y.label ≠ b) (kx : 2 ≤ x.kind) (ky : 2 ≤ y.kind) : (renLn a b x).label = (renLn a b y).label ↔ x.label = y.label := by
  have hx := hx kx
  have hy := hy ky
  rw [renLn, renLn]
  by_cases h1 : 2 ≤ x.kind ∧ x.label ≠ [] ∧ x.label = a
  · rw [if_pos h1]
    by_cases h2 : 2 ≤ y.kind ∧ y.label ≠ [] ∧ y.label = a
    · rw [if_pos h2]; exact ⟨fun _ => by rw [h1.2.2, h2.2.2], fun _ => rfl⟩
    · rw [if_neg h2]
      exact ⟨fun h => absurd h.symm hy, fun h => absurd ⟨ky, by rw [← h]; exact h1.2.1, by rw [← h]; exact h1.2.2⟩ h2⟩
  · rw [if_neg h1]
    by_cases h2 : 2 ≤ y.kind ∧ y.label ≠ [] ∧ y.label = a
    · rw [if_pos h2]
      exact ⟨fun h => absurd h hx, fun h => absurd ⟨kx, by rw [h]; exact h2.2.1, by rw [h]; exact h2.2.2⟩ h1⟩
    · rw [if_neg h2]
/-- None of them is b. -/
def NoneIs (b : Bs) (xs : List Ln) : Prop := ∀ x ∈ xs, 2 ≤ x.kind → x.label ≠ b
theorem placeOf_ren {a b : Bs} {y : Ln} (ky : 2 ≤ y.kind) (hy : y.label ≠ b) : ∀ (xs : List Ln) (n : Nat), NoneIs b xs → placeOf (xs.map (renLn a b)) (renLn a b y).label n = placeOf xs y.label n
  | [], _, _ => rfl
  | x :: r, n, h => by
    have ih := fun m => placeOf_ren (a := a) ky hy r m (fun z hz => h z (by simp [hz]))
    rw [List.map_cons, placeOf, placeOf, ih, (renLn_kind a b x).1]
    by_cases h2 : x.kind = 2
    · have hs := renLn_same (a := a) (h x (by simp)) (fun _ => hy) (by omega) ky
      by_cases e : x.label = y.label
      · rw [if_pos ⟨h2, hs.2 e⟩, if_pos ⟨h2, e⟩]
      · rw [if_neg (fun hh => e (hs.1 hh.2)), if_neg (show ¬ (x.kind = 2 ∧ x.label = y.label) from fun hh => e hh.2)]
    · rw [if_neg (fun hh => h2 hh.1), if_neg (show ¬ (x.kind = 2 ∧ x.label = y.label) from fun hh => h2 hh.1)]
theorem any_map_kind (a b : Bs) (r : List Ln) : ((r.map (renLn a b)).any fun y => decide (y.kind = 3)) = r.any fun y => decide (y.kind = 3) := by
  rw [List.any_map]
  congr 1
  funext x
  simp [(renLn_kind a b x).1]
theorem any_map_label {a b : Bs} {x : Ln} (kx : 2 ≤ x.kind) (hx : x.label ≠ b) : ∀ (pre : List Ln), NoneIs b pre → ((pre.map (renLn a b)).any fun y => decide (y.kind = 2) && decide (y.label = (renLn a b x).label)) = pre.any fun y => decide (y.kind = 2) && decide (y.label = x.label)
  | [], _ => rfl
  | y :: r, h => by
    rw [List.map_cons, List.any_cons, List.any_cons, any_map_label kx hx r (fun z hz => h z (by simp [hz])), (renLn_kind a b y).1]
    congr 1
    by_cases h2 : y.kind = 2
    · have hs := renLn_same (a := a) (h y (by simp)) (fun _ => hx) (by omega) kx
      simp [h2, hs]
    · simp [h2]
theorem goOn_ren {a b : Bs} (all : List Ln) (hall : NoneIs b all) : ∀ (xs pre : List Ln), NoneIs b xs → NoneIs b pre → goOn (all.map (renLn a b)) (pre.map (renLn a b)) (xs.map (renLn a b)) = goOn all pre xs
  | [], pre, _, _ => rfl
  | x :: r, pre, hx, hp => by
    have hp' : NoneIs b (pre ++ [x]) := by
      intro z hz
      rcases List.mem_append.1 hz with hz | hz
      · exact hp z hz
      · rw [List.mem_singleton] at hz; subst hz; exact hx z (by simp)
    have ih := goOn_ren (a := a) all hall r (pre ++ [x]) (fun z hz => hx z (by simp [hz])) hp'
    rw [List.map_append, List.map_singleton] at ih
    rw [List.map_cons, goOn, goOn, ih, (renLn_kind a b x).1, (renLn_kind a b x).2, any_map_kind, List.length_map]
    by_cases h2 : x.kind = 2
    · rw [if_pos h2, if_pos h2, any_map_label (by omega) (hx x (by simp) (by omega)) pre hp]
    · rw [if_neg h2, if_neg h2]
      by_cases h3 : x.kind = 3
      · rw [if_pos h3, if_pos h3, placeOf_ren (by omega) (hx x (by simp) (by omega)) all 0 hall]
      · rw [if_neg h3, if_neg h3]
/-- WHATEVER LABELS ARE NAMED a text is read the same. -/
theorem names {s a b : Bs} (hb : labelB b = true) (hn : NoneIs b ((linesL s).map readL)) : readT (renT s a b) = readT s := by
  rw [readT, readT, lines_ren s a b hb, readAll, readAll]
  have hf : (((linesL s).map readL).map (renLn a b)).findIdx? (fun x => decide (x.kind = 0)) = ((linesL s).map readL).findIdx? (fun x => decide (x.kind = 0)) := by
    rw [List.findIdx?_map]
    congr 1
    funext x
    simp [(renLn_kind a b x).1]
  have hg := goOn_ren (a := a) ((linesL s).map readL) hn _ [] hn (by intro z hz; cases hz)
  rw [List.map_nil] at hg
  rw [hf, hg]
end Go.Proofs.YtgonllogaiiicaaDoor
