/-
  Plain laws on the parts of types of functions.
-/
import Derived.Test.YticnehmgaklhfaaGreatDoorMdl
namespace Go.Proofs.YticnehmgaklhfaaGreatDoor
theorem whole_iff {t : List Nd} : wholeB t = true ↔ t ≠ [] ∧ eat t 1 = some t.length := by
  unfold wholeB
  cases t <;> simp
theorem whole_kids {n : Nd} {l : List Nd} (h : eat (n :: l) 1 = some (l.length + 1)) : 0 ≤ n.kids ∧ eat l n.kids.toNat = some l.length := by
  unfold eat at h
  rw [if_neg (by omega)] at h
  split at h
  · cases h
  · rename_i hb
    rw [Option.map_eq_some_iff] at h
    obtain ⟨q, hq, e⟩ := h
    refine ⟨by omega, ?_⟩
    rw [show 1 - 1 + n.kids.toNat = n.kids.toNat by omega] at hq
    rw [hq]
    congr 1
    omega
/-- Two trees, one behind the other. -/
theorem eat_two {l : List Nd} (h : eat l 2 = some l.length) : ∃ a, eat l 1 = some a ∧ a ≤ l.length ∧ 0 < a ∧ a < l.length ∧ eat (l.drop a) 1 = some (l.drop a).length := by
  rw [show 2 = 1 + 1 from rfl, eat_add] at h
  cases e : eat l 1 with
  | none => rw [e] at h; cases h
  | some a =>
    rw [e, Option.bind_some, Option.map_eq_some_iff] at h
    obtain ⟨q, hq, e2⟩ := h
    have h1 := eat_le e
    have h2 := eat_le hq
    refine ⟨a, rfl, h1.2, by omega, by omega, ?_⟩
    rw [hq, List.length_drop]
    congr 1
    omega
theorem whole_take {l : List Nd} {a : Nat} (h : eat l 1 = some a) : wholeB (l.take a) = true := by
  have h1 := eat_le h
  rw [whole_iff]
  refine ⟨fun e => ?_, ?_⟩
  · have := congrArg List.length e
    rw [List.length_take, List.length_nil] at this
    omega
  · rw [eat_take h, List.length_take]
    congr 1
    omega
/-- A function's type: what it takes, and the rest. -/
theorem arrow_split {n : Nd} {l : List Nd} (h : eat (n :: l) 1 = some (l.length + 1)) (hk : n.kids = 2) : ∃ a, eat l 1 = some a ∧ 0 < a ∧ a < l.length ∧ wholeB (l.take a) = true ∧ eat (l.drop a) 1 = some (l.drop a).length := by
  have h2 := (whole_kids h).2
  rw [hk] at h2
  obtain ⟨a, h3, _, h5, h6, h7⟩ := eat_two h2
  exact ⟨a, h3, h5, h6, whole_take h3, h7⟩
theorem node_arrow {n : Nd} (h : nodeB n = true) (ht : n.text = ArrowT) : n.kind = 32 ∧ n.num = 0 ∧ n.kids = 2 := by
  unfold nodeB at h
  split at h
  · simp only [Bool.and_eq_true, decide_eq_true_eq] at h
    rw [ht] at h
    exact absurd h.1.1.2 (by decide)
  · split at h
    · cases h
    · rename_i h2
      try rw [if_pos ht] at h
      have := eq_of_beq h
      omega
/-- What a type takes and comes to: more fuel does not matter. -/
theorem partsG_more : ∀ (f : Nat) (t : List Nd), t.length ≤ f → partsG (f + 1) t = partsG f t
  | 0, t, h => by
    cases t with
    | nil => rfl
    | cons n l => simp at h
  | f + 1, t, h => by
    cases t with
    | nil => rfl
    | cons n l =>
      rw [partsG, partsG]
      by_cases ht : n.text = ArrowT
      · rw [if_pos ht, if_pos ht]
        cases e : eat l 1 with
        | none => rfl
        | some a =>
          dsimp only
          have := partsG_more f (l.drop a) (by rw [List.length_drop]; simp only [List.length_cons] at h; have := eat_le e; omega)
          rw [this]
      · rw [if_neg ht, if_neg ht]
theorem partsG_enough : ∀ (d f : Nat) (t : List Nd), t.length ≤ f → partsG (f + d) t = partsG f t
  | 0, _, _, _ => rfl
  | d + 1, f, t, h => by rw [← Nat.add_assoc, partsG_more (f + d) t (by omega), partsG_enough d f t h]
theorem parts_at {f : Nat} {t : List Nd} (h : t.length ≤ f) : partsG f t = partsL t := by
  have := partsG_enough (f - t.length) t.length t (Nat.le_refl _)
  rw [show t.length + (f - t.length) = f by omega] at this
  exact this
theorem parts_arrow_step {n : Nd} {l : List Nd} {a : Nat} (ht : n.text = ArrowT) (h : eat l 1 = some a) : partsL (n :: l) = (l.take a :: (partsL (l.drop a)).1, (partsL (l.drop a)).2) := by
  unfold partsL
  rw [List.length_cons, partsG, if_pos ht, h]
  dsimp only
  rw [parts_at (by rw [List.length_drop]; omega)]
  rfl
theorem parts_end {n : Nd} {l : List Nd} (ht : n.text ≠ ArrowT) : partsL (n :: l) = ([], n :: l) := by
  unfold partsL
  rw [List.length_cons, partsG, if_neg ht]
/-- Parts of an arrow are what it was made of. -/
theorem parts_arrow : ∀ (args : List (List Nd)) (n : Nd) (l : List Nd), (∀ a ∈ args, wholeB a = true) → n.text ≠ ArrowT → partsL (arrowL args (n :: l)) = (args, n :: l)
  | [], n, l, _, ht => parts_end ht
  | a :: args, n, l, h, ht => by
    have ha := whole_iff.1 (h a List.mem_cons_self)
    have ih := parts_arrow args n l (fun b hb => h b (List.mem_cons_of_mem _ hb)) ht
    have e : arrowL (a :: args) (n :: l) = ⟨32, ArrowT, 0, 2⟩ :: (a ++ arrowL args (n :: l)) := rfl
    rw [e, parts_arrow_step rfl (eat_append _ ha.2), List.take_left, List.drop_left, ih]
theorem arrow_len : ∀ (args : List (List Nd)) (to : List Nd), to.length ≤ (arrowL args to).length
  | [], _ => Nat.le_refl _
  | a :: args, to => by
    have e : arrowL (a :: args) to = ⟨32, ArrowT, 0, 2⟩ :: (a ++ arrowL args to) := rfl
    have := arrow_len args to
    rw [e, List.length_cons, List.length_append]
    omega
theorem arrow_whole : ∀ (args : List (List Nd)) (to : List Nd), (∀ a ∈ args, wholeB a = true) → wholeB to = true → wholeB (arrowL args to) = true
  | [], _, _, ht => ht
  | a :: args, to, h, ht => by
    have ha := whole_iff.1 (h a List.mem_cons_self)
    have ih := whole_iff.1 (arrow_whole args to (fun b hb => h b (List.mem_cons_of_mem _ hb)) ht)
    have e : arrowL (a :: args) to = ⟨32, ArrowT, 0, 2⟩ :: (a ++ arrowL args to) := rfl
    rw [e, whole_iff]
    refine ⟨by simp, ?_⟩
    unfold eat
    rw [if_neg (by omega), if_neg (by dsimp only; omega), show 1 - 1 + (2 : Int).toNat = 1 + 1 from rfl, eat_add, eat_append _ ha.2, Option.bind_some, List.drop_left, ih.2]
    simp
theorem arrow_nodes {args : List (List Nd)} {to : List Nd} (h : ∀ a ∈ args, a.all nodeB = true) (ht : to.all nodeB = true) : (arrowL args to).all nodeB = true := by
  induction args with
  | nil => exact ht
  | cons a args ih =>
    have e : arrowL (a :: args) to = ⟨32, ArrowT, 0, 2⟩ :: (a ++ arrowL args to) := rfl
    rw [e, List.all_cons, List.all_append, h a List.mem_cons_self, ih (fun b hb => h b (List.mem_cons_of_mem _ hb))]
    have : nodeB ⟨32, ArrowT, 0, 2⟩ = true := by
      unfold nodeB
      rw [if_neg (by decide), if_neg (by decide), if_pos rfl]
      rfl
    rw [this]
    rfl
end Go.Proofs.YticnehmgaklhfaaGreatDoor
