/-
  Layer 17, plain: what the program counts on its two ways through the lines, against the model. Layer 17, plain: the second way through the lines, line by line. With no program in sight. Layer 17, plain: letters, digits, labels, numbers by their runes. With no program in sight. Layer 17, plain: how long what is shown is. With no program in sight.
-/
import Derived.Test.YtgonllogaiiicaaDoorM01
namespace Go.Proofs.YtgonllogaiiicaaDoor
/-- The last line that does something; -1. -/
def lastA : Int → Nat → List Ln → Int
  | l, _, [] => l
  | l, k, x :: r => lastA (if x.kind = 3 then (k : Int) else l) (k + 1) r
def lastOf (xs : List Ln) : Int := lastA (-1) 0 xs
theorem lastA_app : ∀ (xs ys : List Ln) (l : Int) (k : Nat), lastA l k (xs ++ ys) = lastA (lastA l k xs) (k + xs.length) ys
  | [], _, _, _ => rfl
  | x :: xs, ys, l, k => by
    rw [List.cons_append, lastA, lastA, lastA_app xs ys, List.length_cons]
    congr 1; omega
theorem lastOf_snoc (xs : List Ln) (x : Ln) : lastOf (xs ++ [x]) = if x.kind = 3 then (xs.length : Int) else lastOf xs := by
  rw [lastOf, lastA_app, lastA, lastA, lastOf]; simp
theorem lastA_ge : ∀ (r : List Ln) (l : Int) (k : Nat), l < k → (if (r.any fun y => decide (y.kind = 3)) = true then (k : Int) ≤ lastA l k r ∧ lastA l k r < k + r.length else lastA l k r = l)
  | [], l, k, _ => by simp [lastA]
  | x :: r, l, k, h => by
    rw [lastA, List.any_cons]
    by_cases h3 : x.kind = 3
    · rw [if_pos h3, if_pos (by simp [h3])]
      have ih := lastA_ge r k (k + 1) (by omega)
      rw [List.length_cons]
      split at ih <;> constructor <;> omega
    · rw [if_neg h3]
      have ih := lastA_ge r l (k + 1) (by omega)
      have e : (decide (x.kind = 3) || r.any fun y => decide (y.kind = 3)) = r.any fun y => decide (y.kind = 3) := by simp [h3]
      rw [e, List.length_cons]
      split at ih
      · rename_i hh; rw [if_pos hh]; constructor <;> omega
      · rename_i hh; rw [if_neg hh]; exact ih
theorem lastOf_lt (xs : List Ln) : -1 ≤ lastOf xs ∧ lastOf xs < xs.length := by
  have := lastA_ge xs (-1) 0 (by omega)
  rw [lastOf]
  split at this <;> constructor <;> omega
/-- Does any line behind do something? -/
theorem lastOf_behind (pre r : List Ln) (x : Ln) (h : x.kind = 2) : (r.any fun y => decide (y.kind = 3)) = !decide ((pre.length : Int) > lastOf (pre ++ x :: r)) := by
  have h1 := lastOf_lt pre
  have e : lastOf (pre ++ x :: r) = lastA (lastOf pre) (pre.length + 1) r := by
    rw [lastOf, lastA_app, lastA, if_neg (by omega), lastOf]; simp
  have h2 := lastA_ge r (lastOf pre) (pre.length + 1) (by omega)
  rw [e]
  cases hr : (r.any fun y => decide (y.kind = 3)) with
  | true => rw [hr, if_pos rfl] at h2; simp; omega
  | false => rw [hr, if_neg (by simp)] at h2; rw [h2]; simp; omega

/-- How often a label is told. -/
def seenN (xs : List Ln) (s : Bs) : Nat := (xs.filter fun y => decide (y.kind = 2) && decide (y.label = s)).length
theorem seenN_snoc (xs : List Ln) (x : Ln) (s : Bs) : seenN (xs ++ [x]) s = seenN xs s + if x.kind = 2 ∧ x.label = s then 1 else 0 := by
  rw [seenN, List.filter_append, List.length_append, seenN]
  congr 1
  by_cases h : x.kind = 2 ∧ x.label = s
  · rw [if_pos h]; simp [h.1, h.2]
  · rw [if_neg h]
    by_cases h2 : x.kind = 2
    · have : ¬ x.label = s := fun e => h ⟨h2, e⟩
      simp [h2, this]
    · simp [h2]
theorem seenN_any (xs : List Ln) (s : Bs) : (xs.any fun y => decide (y.kind = 2) && decide (y.label = s)) = decide (0 < seenN xs s) := by
  rw [seenN, Bool.eq_iff_iff, List.any_eq_true, decide_eq_true_eq, List.length_pos_iff_exists_mem]
  constructor
  · rintro ⟨y, hy, h⟩; exact ⟨y, List.mem_filter.2 ⟨hy, h⟩⟩
  · rintro ⟨y, hy⟩; exact ⟨y, (List.mem_filter.1 hy).1, (List.mem_filter.1 hy).2⟩
theorem seenN_le (xs : List Ln) (s : Bs) : seenN xs s ≤ xs.length := List.length_filter_le _ _

/-- The place of a label, and 1 more; 0. -/
def placeP (xs : List Ln) (s : Bs) : Nat := match placeOf xs s 0 with
  | some n => n + 1
  | none => 0
theorem placeOf_snoc (x : Ln) (s : Bs) : ∀ (xs : List Ln) (n : Nat), placeOf (xs ++ [x]) s n = (placeOf xs s n).or (if x.kind = 2 ∧ x.label = s then some (n + doesN xs) else none)
  | [], n => by
    rw [List.nil_append, placeOf, placeOf, placeOf, Option.none_or]
    split <;> rfl
  | y :: xs, n => by
    rw [List.cons_append, placeOf, placeOf]
    split
    · rfl
    · rw [placeOf_snoc x s xs, doesN_cons]
      by_cases hx : x.kind = 2 ∧ x.label = s
      · rw [if_pos hx, if_pos hx]
        congr 2
        split <;> omega
      · rw [if_neg hx, if_neg hx]
theorem placeP_snoc (xs : List Ln) (x : Ln) (s : Bs) : placeP (xs ++ [x]) s = if placeP xs s = 0 ∧ x.kind = 2 ∧ x.label = s then doesN xs + 1 else placeP xs s := by
  rw [placeP, placeOf_snoc, placeP]
  cases h : placeOf xs s 0 with
  | some n => simp
  | none =>
    rw [Option.none_or]
    by_cases hc : x.kind = 2 ∧ x.label = s
    · rw [if_pos hc, if_pos ⟨rfl, hc⟩, Nat.zero_add]
    · rw [if_neg hc, if_neg (fun hh => hc hh.2)]
theorem placeOf_of_P {xs : List Ln} {s : Bs} : placeOf xs s 0 = if placeP xs s = 0 then none else some (placeP xs s - 1) := by
  rw [placeP]; cases placeOf xs s 0 <;> simp
theorem placeOf_le (s : Bs) : ∀ (xs : List Ln) (n m : Nat), placeOf xs s n = some m → m ≤ n + doesN xs
  | [], _, _, h => by cases h
  | x :: r, n, m, h => by
    rw [placeOf] at h
    rw [doesN_cons]
    split at h
    · cases h; omega
    · have := placeOf_le s r _ m h
      split at this <;> rename_i h3 <;> simp [h3] <;> omega
theorem placeP_le (xs : List Ln) (s : Bs) : placeP xs s ≤ xs.length + 1 := by
  rw [placeP]
  cases h : placeOf xs s 0 with
  | none => simp
  | some n => have := placeOf_le s xs 0 n h; have := doesN_le xs; simp; omega
theorem doesN_snoc (xs : List Ln) (x : Ln) : doesN (xs ++ [x]) = doesN xs + if x.kind = 3 then 1 else 0 := by
  rw [doesN, List.filter_append, List.length_append, doesN]
  by_cases h : x.kind = 3 <;> simp [h]

/-- One line more, on the second way: what comes of it: an instruction, nothing, or it is wrong. -/
inductive Step where
  | bad
  | skip
  | put (i : Ins)
def stepOf (all pre : List Ln) (x : Ln) : Step :=
  if x.kind = 2 then (if (pre.length : Int) > lastOf all ∨ 0 < seenN pre x.label then .bad else .skip)
  else if x.kind = 3 then
    if goesB x.i.op then (if placeP all x.label = 0 then .bad else .put ⟨x.i.op, ((placeP all x.label - 1 : Nat) : Int), x.i.b⟩)
    else .put x.i
  else .skip
theorem goOn_step (all pre r : List Ln) (x : Ln) (h : all = pre ++ x :: r) : goOn all pre (x :: r) = match stepOf all pre x with
    | .bad => .error pre.length
    | .skip => goOn all (pre ++ [x]) r
    | .put i => (goOn all (pre ++ [x]) r).map fun l => i :: l := by
  rw [goOn, stepOf]
  by_cases h2 : x.kind = 2
  · rw [if_pos h2, if_pos h2, lastOf_behind pre r x h2, seenN_any, ← h]
    by_cases hc : (pre.length : Int) > lastOf all
    · simp [hc]
    · by_cases hs : 0 < seenN pre x.label
      · simp [hs]
      · have hs' : seenN pre x.label = 0 := by omega
        simp [hc, hs']
  · rw [if_neg h2, if_neg h2]
    by_cases h3 : x.kind = 3
    · rw [if_pos h3, if_pos h3]
      by_cases hg : goesB x.i.op = true
      · rw [if_pos hg, if_pos hg, placeOf_of_P]
        by_cases hp : placeP all x.label = 0
        · rw [if_pos hp, if_pos hp]
        · rw [if_neg hp, if_neg hp]
      · rw [if_neg hg, if_neg hg]
    · rw [if_neg h3, if_neg h3]
/-- What has come of the lines that have been: none was wrong. -/
def cameOf (all : List Ln) : List Ln → List Ln → List Ins
  | _, [] => []
  | pre, x :: r => match stepOf all pre x with
    | .put i => i :: cameOf all (pre ++ [x]) r
    | _ => cameOf all (pre ++ [x]) r
theorem goOn_app (all : List Ln) : ∀ (ys pre r : List Ln), all = pre ++ (ys ++ r) → (∀ u x v, ys = u ++ x :: v → stepOf all (pre ++ u) x ≠ .bad) → goOn all pre (ys ++ r) = (goOn all (pre ++ ys) r).map fun l => cameOf all pre ys ++ l
  | [], pre, r, _, _ => by
    simp only [List.nil_append, List.append_nil, cameOf]
    cases goOn all pre r <;> rfl
  | y :: ys, pre, r, h, hs => by
    have ih := goOn_app all ys (pre ++ [y]) r (by rw [h]; simp) (fun u x v e => by have := hs (y :: u) x v (by rw [e]; rfl); simpa using this)
    have h0 := hs [] y ys rfl
    rw [List.append_nil] at h0
    rw [List.cons_append, goOn_step all pre (ys ++ r) y (by rw [h]; rfl), cameOf, ih]
    have e : pre ++ y :: ys = pre ++ [y] ++ ys := by simp
    rw [e]
    cases hst : stepOf all pre y with
    | bad => exact absurd hst h0
    | skip => rfl
    | put i => simp only; cases goOn all (pre ++ [y] ++ ys) r <;> rfl
theorem cameOf_snoc (all : List Ln) (x : Ln) : ∀ (ys pre : List Ln), cameOf all pre (ys ++ [x]) = cameOf all pre ys ++ match stepOf all (pre ++ ys) x with
    | .put i => [i]
    | _ => []
  | [], pre => by
    rw [List.nil_append, cameOf, cameOf, List.nil_append, List.append_nil]
    cases stepOf all pre x <;> rfl
  | y :: ys, pre => by
    rw [List.cons_append, cameOf, cameOf, cameOf_snoc all x ys]
    have e : pre ++ [y] ++ ys = pre ++ y :: ys := by simp
    rw [e]
    cases stepOf all pre y <;> rfl
theorem cameOf_length (all : List Ln) : ∀ (ys pre : List Ln), (cameOf all pre ys).length ≤ ys.length
  | [], _ => Nat.le_refl _
  | y :: ys, pre => by
    have := cameOf_length all ys (pre ++ [y])
    rw [cameOf]
    split <;> simp <;> omega
end Go.Proofs.YtgonllogaiiicaaDoor

namespace Go.Proofs.YtgonllogaiiicaaDoor
def P2 (all : List Ln) (k : Nat) : Prop := goOn all [] all = (goOn all (all.take k) (all.drop k)).map fun l => cameOf all [] (all.take k) ++ l
theorem p2_start (all : List Ln) : P2 all 0 := by
  unfold P2
  rw [List.take_zero, List.drop_zero]
  cases goOn all [] all <;> rfl
theorem ln_split {all : List Ln} {k : Nat} {x : Ln} (h : all[k]? = some x) : all = all.take k ++ x :: all.drop (k + 1) ∧ all.drop k = x :: all.drop (k + 1) ∧ all.take (k + 1) = all.take k ++ [x] ∧ (all.take k).length = k := by
  obtain ⟨hk, rfl⟩ := List.getElem?_eq_some_iff.1 h
  have hd := List.drop_eq_getElem_cons hk
  refine ⟨?_, hd, List.take_succ_eq_append_getElem hk, by rw [List.length_take]; omega⟩
  rw [← hd, List.take_append_drop]
theorem p2_bad {all : List Ln} {k : Nat} {x : Ln} (h : all[k]? = some x) (hp : P2 all k) (hs : stepOf all (all.take k) x = .bad) : goOn all [] all = .error k := by
  obtain ⟨h1, h2, h3, h4⟩ := ln_split h
  unfold P2 at hp
  rw [hp, h2, goOn_step all _ _ x h1, hs, h4]
  rfl
theorem p2_skip {all : List Ln} {k : Nat} {x : Ln} (h : all[k]? = some x) (hp : P2 all k) (hs : stepOf all (all.take k) x = .skip) : P2 all (k + 1) ∧ cameOf all [] (all.take (k + 1)) = cameOf all [] (all.take k) := by
  obtain ⟨h1, h2, h3, h4⟩ := ln_split h
  have hc : cameOf all [] (all.take (k + 1)) = cameOf all [] (all.take k) := by
    rw [h3, cameOf_snoc, List.nil_append, hs, List.append_nil]
  refine ⟨?_, hc⟩
  unfold P2 at hp ⊢
  rw [hc, h3, hp, h2, goOn_step all _ _ x h1, hs]
theorem p2_put {all : List Ln} {k : Nat} {x : Ln} {i : Ins} (h : all[k]? = some x) (hp : P2 all k) (hs : stepOf all (all.take k) x = .put i) : P2 all (k + 1) ∧ cameOf all [] (all.take (k + 1)) = cameOf all [] (all.take k) ++ [i] := by
  obtain ⟨h1, h2, h3, h4⟩ := ln_split h
  have hc : cameOf all [] (all.take (k + 1)) = cameOf all [] (all.take k) ++ [i] := by
    rw [h3, cameOf_snoc, List.nil_append, hs]
  refine ⟨?_, hc⟩
  unfold P2 at hp ⊢
  rw [hc, h3, hp, h2, goOn_step all _ _ x h1, hs]
  cases goOn all (all.take k ++ [x]) (all.drop (k + 1)) with
  | error e => rfl
  | ok l => simp [Except.map]
theorem p2_end {all : List Ln} {k : Nat} (hk : all.length ≤ k) (hp : P2 all k) : goOn all [] all = .ok (cameOf all [] (all.take k)) := by
  unfold P2 at hp
  rw [hp, List.drop_eq_nil_of_le hk, goOn]
  simp [Except.map]
theorem doesW_kind (o : Nat) (s : Bs) (p : Nat) (ws : List (Bs × Nat)) : (doesW o s p ws).kind = 0 ∨ (doesW o s p ws).kind = 3 := by
  unfold doesW
  split
  · split
    · exact .inl rfl
    · exact .inr rfl
  · exact .inl rfl
theorem readL_kind (s : Bs) : (readL s).kind ≤ 3 := by
  unfold readL
  generalize wordsL s = ws
  unfold readW
  split
  · simp
  · split
    · split <;> simp [wrongL]
    · split
      · simp [wrongL]
      · rename_i o _
        unfold opW
        split
        · split
          · simp [wrongL]
          · split
            · rcases doesW_kind o _ _ _ with h | h <;> rw [h] <;> omega
            · simp [wrongL]
        · rcases doesW_kind o [] 0 _ with h | h <;> rw [h] <;> omega
theorem doesW_low (o : Nat) (s : Bs) (p : Nat) (ws : List (Bs × Nat)) : doesW o s p ws = wrongL ∨ (doesW o s p ws).kind = 3 := by
  unfold doesW
  split
  · split
    · exact .inl rfl
    · exact .inr rfl
  · exact .inl rfl
theorem readL_low {s : Bs} (h : ¬ 2 ≤ (readL s).kind) : readL s = wrongL ∨ wordsL s = [] := by
  unfold readL at h ⊢
  generalize wordsL s = ws at *
  unfold readW at h ⊢
  split at h
  · exact .inr rfl
  · split at h
    · split at h
      · simp at h
      · rename_i h1 h2
        rw [if_pos h1, if_neg h2]; exact .inl rfl
    · rename_i h1
      rw [if_neg h1]
      split at h
      · exact .inl rfl
      · rename_i o h2
        refine .inl ?_
        unfold opW at h ⊢
        split at h
        · rename_i hg
          rw [if_pos hg]
          split at h
          · rfl
          · split at h
            · rename_i hl
              rcases doesW_low o _ _ _ with h3 | h3
              · simp only [if_pos hl]; exact h3
              · rw [h3] at h; omega
            · rename_i hl
              simp only [if_neg hl]
        · rename_i hg
          rw [if_neg hg]
          rcases doesW_low o [] 0 _ with h3 | h3
          · exact h3
          · rw [h3] at h; omega
theorem readAll_line {all : List Ln} {k : Nat} {x : Ln} (h : all[k]? = some x) (hx : x.kind = 0) (hp : ∀ y ∈ all.take k, y.kind ≠ 0) : readAll all = .line k := by
  have h1 : all.findIdx? (fun x => decide (x.kind = 0)) = some k := by
    rw [List.findIdx?_eq_some_iff_getElem]
    obtain ⟨hk, rfl⟩ := List.getElem?_eq_some_iff.1 h
    refine ⟨hk, by simpa using hx, fun j hj => ?_⟩
    have := hp all[j] (List.mem_iff_getElem.2 ⟨j, by rw [List.length_take]; omega, by rw [List.getElem_take]⟩)
    simpa using this
  rw [readAll, h1]
theorem readAll_on {all : List Ln} (hp : ∀ y ∈ all, y.kind ≠ 0) : readAll all = match goOn all [] all with
    | .error k => .label k
    | .ok l => .ok l := by
  have h1 : all.findIdx? (fun x => decide (x.kind = 0)) = none := by
    rw [List.findIdx?_eq_none_iff]
    intro y hy
    simpa using hp y hy
  rw [readAll, h1]
  cases goOn all [] all <;> rfl
end Go.Proofs.YtgonllogaiiicaaDoor

namespace Go.Proofs.YtgonllogaiiicaaDoor
def letR (r : Nat) : Bool := decide (97 ≤ r ∧ r ≤ 122) || decide (65 ≤ r ∧ r ≤ 90)
def digR (r : Nat) : Bool := decide (48 ≤ r ∧ r ≤ 57)
theorem isLet_eq (c : UInt8) : isLet c = letR c.toNat := by
  rw [isLet, letR, Bool.eq_iff_iff]
  simp [UInt8.le_iff_toNat_le]
theorem isDig_eq (c : UInt8) : isDig c = digR c.toNat := by
  rw [isDig, digR, Bool.eq_iff_iff]
  simp [UInt8.le_iff_toNat_le]
/-- May a rune stand at place k of a label? -/
def okR (k r : Nat) : Bool := letR r || (!decide ((k : Int) = 0) && (digR r || decide ((r : Int) = 95)))
theorem okR_high (k : Nat) {r : Nat} (h : 128 ≤ r) : okR k r = false := by
  have h1 : letR r = false := by rw [letR, Bool.or_eq_false_iff]; exact ⟨decide_eq_false (by omega), decide_eq_false (by omega)⟩
  have h2 : digR r = false := by rw [digR]; exact decide_eq_false (by omega)
  have h3 : decide ((r : Int) = 95) = false := decide_eq_false (by omega)
  rw [okR, h1, h2, h3]; simp
theorem okR_zero (c : UInt8) : okR 0 c.toNat = isLet c := by rw [okR, isLet_eq]; simp
theorem okR_succ (k : Nat) (c : UInt8) : okR (k + 1) c.toNat = (isLet c || (isDig c || c == 95)) := by
  have : (c == 95) = decide ((c.toNat : Int) = 95) := by
    rw [Bool.eq_iff_iff, beq_iff_eq, decide_eq_true_eq]
    constructor
    · rintro rfl; rfl
    · intro h
      apply UInt8.toNat_inj.1
      show c.toNat = 95; omega
  have h2 : decide (((k + 1 : Nat) : Int) = 0) = false := decide_eq_false (by omega)
  rw [okR, isLet_eq, isDig_eq, this, h2]; rfl
theorem lab_good {l : Bs} (h : ∀ k c, l[k]? = some c → okR k c.toNat = true) : labelB l = !l.isEmpty := by
  cases l with
  | nil => rfl
  | cons c r =>
    rw [labelB]
    have h0 := h 0 c rfl
    rw [okR_zero] at h0
    have h1 : (r.all fun d => isLet d || (isDig d || d == 95)) = true := by
      rw [List.all_eq_true]
      intro d hd
      obtain ⟨j, hj, e⟩ := List.getElem_of_mem hd
      rw [← okR_succ j]
      exact h (j + 1) d (by rw [List.getElem?_cons_succ, List.getElem?_eq_getElem hj, e])
    rw [h0, h1]; rfl
theorem lab_bad {l : Bs} {k : Nat} {c : UInt8} (hk : l[k]? = some c) (h : okR k c.toNat = false) : labelB l = false := by
  cases l with
  | nil => cases hk
  | cons d r =>
    rw [labelB]
    cases k with
    | zero =>
      rw [List.getElem?_cons_zero] at hk; cases hk
      rw [okR_zero] at h; rw [h]; rfl
    | succ k =>
      rw [List.getElem?_cons_succ] at hk
      rw [okR_succ] at h
      have : (r.all fun d => isLet d || (isDig d || d == 95)) = false := by
        rw [List.all_eq_false]
        exact ⟨c, List.mem_of_getElem? hk, by rw [h]; simp⟩
      rw [this, Bool.and_false]
/-- May it be no number, at a glance? -/
def numBad (s : Bs) : Prop := s = [] ∨ 7 < s.length ∨ (s.head? = some 48 ∧ 1 < s.length)
instance (s : Bs) : Decidable (numBad s) := by unfold numBad; infer_instance
/-- What the program hands back. -/
def numP (s : Bs) : Nat × Bool := if numBad s then (0, false) else if s.all isDig then (numA 0 s, decide (numA 0 s ≤ 1048576)) else (0, false)
theorem numB_P (s : Bs) : numB s = if (numP s).2 = true then some (numP s).1 else none := by
  by_cases h : numBad s
  · rw [numB, if_pos (show s = [] ∨ 7 < s.length ∨ (s.head? = some 48 ∧ 1 < s.length) from h), numP, if_pos h]; rfl
  · rw [numB, if_neg (show ¬ (s = [] ∨ 7 < s.length ∨ (s.head? = some 48 ∧ 1 < s.length)) from h), numP, if_neg h]
    split
    · by_cases h2 : numA 0 s ≤ 1048576
      · rw [if_pos h2]; simp [h2]
      · rw [if_neg h2]; simp [h2]
    · rfl
theorem numA_lt : ∀ (s : Bs) (n k : Nat), (∀ c ∈ s, isDig c = true) → n < 10 ^ k → numA n s < 10 ^ (k + s.length)
  | [], n, k, _, h => h
  | c :: r, n, k, hd, h => by
    have hc := hd c (by simp)
    rw [isDig_eq, digR, decide_eq_true_eq] at hc
    have := numA_lt r (10 * n + (c.toNat - 48)) (k + 1) (fun d hd' => hd d (by simp [hd'])) (by rw [Nat.pow_succ]; omega)
    rw [List.length_cons, show k + (r.length + 1) = k + 1 + r.length by omega]
    exact this
theorem numP_bad {s : Bs} (h : numBad s) : numP s = (0, false) := by rw [numP, if_pos h]
theorem numP_no {s : Bs} {k : Nat} {c : UInt8} (hk : s[k]? = some c) (h : digR c.toNat = false) : numP s = (0, false) := by
  rw [numP]
  split
  · rfl
  · rw [if_neg]
    rw [List.all_eq_true]
    intro ha
    have := ha c (List.mem_of_getElem? hk)
    rw [isDig_eq, h] at this; cases this
theorem numP_yes {s : Bs} (hb : ¬ numBad s) (h : ∀ (k : Nat) (c : UInt8), s[k]? = some c → digR c.toNat = true) : numP s = (numA 0 s, decide (numA 0 s ≤ 1048576)) := by
  rw [numP, if_neg hb, if_pos]
  rw [List.all_eq_true]
  intro c hc
  obtain ⟨j, hj, e⟩ := List.getElem_of_mem hc
  rw [isDig_eq]
  exact h j c (by rw [List.getElem?_eq_getElem hj, e])
theorem take_dig {s : Bs} {k : Nat} (h : ∀ (j : Nat) (c : UInt8), j < k → s[j]? = some c → digR c.toNat = true) : ∀ c ∈ s.take k, isDig c = true := by
  intro c hc
  obtain ⟨j, hj, e⟩ := List.getElem_of_mem hc
  rw [isDig_eq]
  rw [List.getElem_take] at e
  have hj2 : j < k ∧ j < s.length := by rw [List.length_take] at hj; omega
  exact h j c hj2.1 (by rw [List.getElem?_eq_getElem hj2.2, e])
theorem numA_take {s : Bs} {k : Nat} {c : UInt8} (hk : s[k]? = some c) : numA 0 (s.take (k + 1)) = 10 * numA 0 (s.take k) + (c.toNat - 48) := by
  obtain ⟨hlt, e⟩ := List.getElem?_eq_some_iff.1 hk
  rw [List.take_add_one, hk, Option.toList_some, numA_app, numA_one]
end Go.Proofs.YtgonllogaiiicaaDoor

namespace Go.Proofs.YtgonllogaiiicaaDoor
theorem countT_most (l : List Ins) : ∀ k, countT l k ≤ k
  | 0 => Nat.le_refl _
  | k + 1 => by
    have := countT_most l k
    rw [countT]; split <;> omega
theorem nameL_most (l : List Ins) (k : Nat) (h : k ≤ 1048576) : (nameL l k).length ≤ 8 := by
  have h1 := countT_most l k
  have h2 := dec_len (countT l k) (by omega)
  rw [nameL, List.length_cons]; omega
theorem opName_most (o : Int) : (opName o).length ≤ 20 := by
  have h : ∀ x ∈ opNames, x.length ≤ 20 := by decide
  unfold opName
  rw [List.getD_eq_getElem?_getD]
  cases hx : opNames[o.toNat]? with
  | none => simp
  | some x => exact h x (List.mem_of_getElem? hx)
theorem numsN_most (o : Int) : numsN o ≤ 2 := by
  unfold numsN
  split
  · omega
  · split <;> omega
theorem flat_most (ws : List Bs) (h : ∀ w ∈ ws, w.length ≤ 8) : (ws.flatMap (32 :: ·)).length ≤ ws.length * 9 := by
  induction ws with
  | nil => simp
  | cons w ws ih =>
    have h1 := h w (by simp)
    have h2 := ih (fun x hx => h x (by simp [hx]))
    rw [List.flatMap_cons, List.length_append, List.length_cons, List.length_cons]; omega
theorem lineI_most {l : List Ins} {i : Ins} (h : insB i = true) : (lineI l i).length ≤ 60 := by
  have hab : i.a.toNat ≤ 1048576 ∧ i.b.toNat ≤ 1048576 := by
    unfold insB at h
    rw [Bool.and_eq_true, Bool.and_eq_true] at h
    obtain ⟨⟨_, h12⟩, _⟩ := h
    rw [Bool.and_eq_true] at h12
    obtain ⟨h1, h2⟩ := h12
    unfold withinB at h1 h2
    rw [decide_eq_true_eq] at h1 h2
    omega
  have ho := opName_most i.op
  have ha : (argsI i).length ≤ 2 := by
    unfold argsI
    split <;> simp <;> omega
  have hax : ∀ x ∈ argsI i, x.toNat ≤ 1048576 := by
    intro x hx
    unfold argsI at hx
    split at hx
    · have := List.mem_of_mem_take hx
      simp at this; subst this; exact hab.2
    · have := List.mem_of_mem_take hx
      simp at this
      rcases this with rfl | rfl
      · exact hab.1
      · exact hab.2
  have ht : (tailW l i).length ≤ 3 := by
    unfold tailW
    rw [List.length_append, List.length_map]
    split <;> simp <;> omega
  have hf := flat_most (tailW l i) (by
    intro w hw
    unfold tailW at hw
    rcases List.mem_append.1 hw with hw | hw
    · split at hw
      · rw [List.mem_singleton] at hw
        subst hw
        exact nameL_most l _ hab.1
      · cases hw
    · obtain ⟨x, hx, rfl⟩ := List.mem_map.1 hw
      have := dec_len x.toNat (hax x hx)
      omega)
  rw [lineI, List.length_cons, List.length_cons, List.length_append]
  omega
theorem showK_most (l : List Ins) : ∀ (r : List Ins) (k : Nat), (∀ i ∈ r, insB i = true) → k + r.length ≤ 1048576 → (showK l k r).length ≤ r.length * 100
  | [], _, _, _ => by simp [showK]
  | i :: r, k, h, hk => by
    rw [List.length_cons] at hk
    have h1 := lineI_most (l := l) (h i (by simp))
    have h2 := nameL_most l k (by omega)
    have h3 := showK_most l r (k + 1) (fun j hj => h j (by simp [hj])) (by omega)
    rw [showK, List.length_append, List.length_append, List.length_cons, List.length_cons]
    split
    · rw [List.length_append]; simp; omega
    · simp; omega
theorem showT_len {l : List Ins} (h : checkE l = 0) : (showT l).length ≤ l.length * 100 := by
  obtain ⟨h1, h2, _⟩ := checkE_zero h
  exact showK_most l l 0 h2 (by omega)
theorem linesK_most (l : List Ins) : ∀ (r : List Ins) (k : Nat), (linesK l k r).length ≤ 2 * r.length
  | [], _ => by simp [linesK]
  | i :: r, k => by
    have := linesK_most l r (k + 1)
    rw [linesK, List.length_append, List.length_cons, List.length_cons]
    split <;> simp <;> omega
theorem lines_show {l : List Ins} (h : checkE l = 0) : (linesL (showT l)).length ≤ 2 * l.length + 1 := by
  obtain ⟨h1, h2, _⟩ := checkE_zero h
  have := linesK_most l l 0
  rw [showT, linesL_show l l 0 h2, List.length_append]
  simp; omega
theorem read_len {s : Bs} {l : List Ins} (h : readT s = .ok l) : l.length ≤ (linesL s).length := by
  rw [readT, readAll] at h
  split at h
  · cases h
  · split at h
    · cases h
    · rename_i l' hg
      injection h with h
      subst h
      have := (goOn_parts _ _ _ _ hg).2.1
      have h2 := doesN_le ((linesL s).map readL)
      rw [List.length_map] at h2
      omega
end Go.Proofs.YtgonllogaiiicaaDoor
