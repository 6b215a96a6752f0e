/-
  Plain laws on names that are told twice, and on where constructors stand. Plain laws on the parts of types of functions. Plain laws on the variables of constructors' types, and on declarations with one more.
-/
import Derived.Test.YticnehmgaklhfaaGreatDoorMdl
namespace Go.Proofs.YticnehmgaklhfaaGreatDoor
/-- Where a thing stands first, or how many there are. -/
theorem nodup_iff_first {α : Type} [DecidableEq α] : ∀ (l : List α), l.Nodup ↔ ∀ (i : Nat) (x : α), l[i]? = some x → ∀ (j : Nat), j < i → l[j]? ≠ some x
  | [] => by simp
  | y :: l => by
    rw [List.nodup_cons, nodup_iff_first l]
    constructor
    · rintro ⟨hy, h⟩ i x hi j hj
      cases i with
      | zero => omega
      | succ i =>
        rw [List.getElem?_cons_succ] at hi
        cases j with
        | zero =>
          rw [List.getElem?_cons_zero]
          intro e
          injection e with e
          subst e
          exact hy (List.mem_of_getElem? hi)
        | succ j => rw [List.getElem?_cons_succ]; exact h i x hi j (by omega)
    · intro h
      refine ⟨fun hy => ?_, fun i x hi j hj => ?_⟩
      · obtain ⟨i, hi⟩ := List.mem_iff_getElem?.1 hy
        exact h (i + 1) y (by rw [List.getElem?_cons_succ]; exact hi) 0 (by omega) (by rw [List.getElem?_cons_zero])
      · have := h (i + 1) x (by rw [List.getElem?_cons_succ]; exact hi) (j + 1) (by omega)
        rw [List.getElem?_cons_succ] at this
        exact this
/-- The first place, of a row of declarations, where a constructor of that name stands. -/
def findG (con : ByteArray) : Nat → List Dt → Option (Nat × Nat)
  | _, [] => none
  | i, d :: l => match d.cons.findIdx? (fun c => decide (c.name = con)) with
    | some k => some (i, k)
    | none => findG con (i + 1) l
def findL (l : List Dt) (con : ByteArray) : Option (Nat × Nat) := findG con 0 l
theorem findG_mem (con : ByteArray) : ∀ (l : List Dt) (i : Nat), (findG con i l).isSome = true ↔ con ∈ consNames l
  | [], i => by simp [findG, consNames]
  | d :: l, i => by
    unfold findG
    have hc : consNames (d :: l) = d.cons.map Ct.name ++ consNames l := rfl
    rw [hc, List.mem_append, ← findG_mem con l (i + 1)]
    cases h : d.cons.findIdx? (fun c => decide (c.name = con)) with
    | some k =>
      rw [List.findIdx?_eq_some_iff_getElem] at h
      obtain ⟨hk, h1, _⟩ := h
      simp only [Option.isSome_some, true_iff]
      exact .inl (List.mem_map.2 ⟨_, List.getElem_mem hk, by simpa using h1⟩)
    | none =>
      rw [List.findIdx?_eq_none_iff] at h
      have : con ∉ d.cons.map Ct.name := fun hm => by
        obtain ⟨c, hc1, hc2⟩ := List.mem_map.1 hm
        have := h c hc1
        simp [hc2] at this
      simp [this]
/-- Each name of a constructor once: each stands first where it stands. -/
theorem consNodup (l : List Dt) : ∀ (i : Nat), (consNames l).Nodup ↔ ∀ (k : Nat) (d : Dt) (c : Nat) (x : Ct), l[k]? = some d → d.cons[c]? = some x → findG x.name i l = some (i + k, c) := by
  induction l with
  | nil => intro i; simp [consNames]
  | cons d l ih =>
    intro i
    have hc : consNames (d :: l) = d.cons.map Ct.name ++ consNames l := rfl
    rw [hc, List.nodup_append, ih (i + 1)]
    constructor
    · rintro ⟨h1, h2, h3⟩ k d' c x hk hx
      cases k with
      | zero =>
        rw [List.getElem?_cons_zero] at hk
        injection hk with hk
        subst hk
        unfold findG
        have : d.cons.findIdx? (fun y => decide (y.name = x.name)) = some c := by
          rw [List.findIdx?_eq_some_iff_getElem]
          obtain ⟨hcl, hce⟩ := List.getElem?_eq_some_iff.1 hx
          refine ⟨hcl, by simp [hce], fun j hj => ?_⟩
          have := (nodup_iff_first (d.cons.map Ct.name)).1 h1 c x.name (by rw [List.getElem?_map, hx]; rfl) j hj
          simp only [decide_eq_true_eq]
          intro e
          apply this
          rw [List.getElem?_map, List.getElem?_eq_getElem (by omega)]
          simp [e]
        rw [this]
        simp
      | succ k =>
        rw [List.getElem?_cons_succ] at hk
        unfold findG
        have hm : x.name ∈ consNames l := List.mem_flatMap.2 ⟨d', List.mem_of_getElem? hk, List.mem_map.2 ⟨x, List.mem_of_getElem? hx, rfl⟩⟩
        have : d.cons.findIdx? (fun y => decide (y.name = x.name)) = none := by
          rw [List.findIdx?_eq_none_iff]
          intro y hy
          simp only [decide_eq_false_iff_not]
          intro e
          exact h3 _ (List.mem_map.2 ⟨y, hy, e⟩) _ hm rfl
        rw [this]
        dsimp only
        rw [h2 k d' c x hk hx]
        congr 2
        omega
    · intro h
      refine ⟨?_, ?_, ?_⟩
      · rw [nodup_iff_first]
        intro c nm hcn j hj hjn
        rw [List.getElem?_map, Option.map_eq_some_iff] at hcn hjn
        obtain ⟨x, hx, rfl⟩ := hcn
        obtain ⟨y, hy, e⟩ := hjn
        have a := h 0 d c x rfl hx
        have b := h 0 d j y rfl hy
        rw [e, a] at b
        injection b with b
        injection b with _ b
        omega
      · intro k d' c x hk hx
        have a := h (k + 1) d' c x (by rw [List.getElem?_cons_succ]; exact hk) hx
        unfold findG at a
        split at a
        · injection a with a
          injection a with a _
          omega
        · rw [a]
          congr 2
          omega
      · rintro nm hn1 nm2 hn2 rfl
        obtain ⟨x, hx, rfl⟩ := List.mem_map.1 hn1
        obtain ⟨c, hc1⟩ := List.mem_iff_getElem?.1 hx
        have a := h 0 d c x rfl hc1
        obtain ⟨d', hd', hm⟩ := List.mem_flatMap.1 hn2
        obtain ⟨y, hy, e⟩ := List.mem_map.1 hm
        obtain ⟨k, hk⟩ := List.mem_iff_getElem?.1 hd'
        obtain ⟨c', hc'⟩ := List.mem_iff_getElem?.1 hy
        have b := h (k + 1) d' c' y (by rw [List.getElem?_cons_succ]; exact hk) hc'
        rw [e, a] at b
        injection b with b
        injection b with b _
        omega
end Go.Proofs.YticnehmgaklhfaaGreatDoor

namespace Go.Proofs.YticnehmgaklhfaaGreatDoor
theorem whole_iff {t : List Nd} : wholeB t = true ↔ t ≠ [] ∧ eat t 1 = some t.length := by
  unfold wholeB
  cases t <;> simp
theorem whole_kids {n : Nd} {l : List Nd} (h : eat (n :: l) 1 = some (l.length + 1)) : 0 ≤ n.kids ∧ eat l n.kids.toNat = some l.length := by
  unfold eat at h
  rw [if_neg (by omega)] at h
  split at h
  · cases h
  · rename_i hb
    rw [Option.map_eq_some_iff] at h
    obtain ⟨q, hq, e⟩ := h
    refine ⟨by omega, ?_⟩
    rw [show 1 - 1 + n.kids.toNat = n.kids.toNat by omega] at hq
    rw [hq]
    congr 1
    omega
/-- Two trees, one behind the other. -/
theorem eat_two {l : List Nd} (h : eat l 2 = some l.length) : ∃ a, eat l 1 = some a ∧ a ≤ l.length ∧ 0 < a ∧ a < l.length ∧ eat (l.drop a) 1 = some (l.drop a).length := by
  rw [show 2 = 1 + 1 from rfl, eat_add] at h
  cases e : eat l 1 with
  | none => rw [e] at h; cases h
  | some a =>
    rw [e, Option.bind_some, Option.map_eq_some_iff] at h
    obtain ⟨q, hq, e2⟩ := h
    have h1 := eat_le e
    have h2 := eat_le hq
    refine ⟨a, rfl, h1.2, by omega, by omega, ?_⟩
    rw [hq, List.length_drop]
    congr 1
    omega
theorem whole_take {l : List Nd} {a : Nat} (h : eat l 1 = some a) : wholeB (l.take a) = true := by
  have h1 := eat_le h
  rw [whole_iff]
  refine ⟨fun e => ?_, ?_⟩
  · have := congrArg List.length e
    rw [List.length_take, List.length_nil] at this
    omega
  · rw [eat_take h, List.length_take]
    congr 1
    omega
/-- A function's type: what it takes, and the rest. -/
theorem arrow_split {n : Nd} {l : List Nd} (h : eat (n :: l) 1 = some (l.length + 1)) (hk : n.kids = 2) : ∃ a, eat l 1 = some a ∧ 0 < a ∧ a < l.length ∧ wholeB (l.take a) = true ∧ eat (l.drop a) 1 = some (l.drop a).length := by
  have h2 := (whole_kids h).2
  rw [hk] at h2
  obtain ⟨a, h3, _, h5, h6, h7⟩ := eat_two h2
  exact ⟨a, h3, h5, h6, whole_take h3, h7⟩
theorem node_arrow {n : Nd} (h : nodeB n = true) (ht : n.text = ArrowT) : n.kind = 32 ∧ n.num = 0 ∧ n.kids = 2 := by
  unfold nodeB at h
  split at h
  · simp only [Bool.and_eq_true, decide_eq_true_eq] at h
    rw [ht] at h
    exact absurd h.1.1.2 (by decide)
  · split at h
    · cases h
    · rename_i h2
      try rw [if_pos ht] at h
      have := eq_of_beq h
      omega
/-- What a type takes and comes to: more fuel does not matter. -/
theorem partsG_more : ∀ (f : Nat) (t : List Nd), t.length ≤ f → partsG (f + 1) t = partsG f t
  | 0, t, h => by
    cases t with
    | nil => rfl
    | cons n l => simp at h
  | f + 1, t, h => by
    cases t with
    | nil => rfl
    | cons n l =>
      rw [partsG, partsG]
      by_cases ht : n.text = ArrowT
      · rw [if_pos ht, if_pos ht]
        cases e : eat l 1 with
        | none => rfl
        | some a =>
          dsimp only
          have := partsG_more f (l.drop a) (by rw [List.length_drop]; simp only [List.length_cons] at h; have := eat_le e; omega)
          rw [this]
      · rw [if_neg ht, if_neg ht]
theorem partsG_enough : ∀ (d f : Nat) (t : List Nd), t.length ≤ f → partsG (f + d) t = partsG f t
  | 0, _, _, _ => rfl
  | d + 1, f, t, h => by rw [← Nat.add_assoc, partsG_more (f + d) t (by omega), partsG_enough d f t h]
theorem parts_at {f : Nat} {t : List Nd} (h : t.length ≤ f) : partsG f t = partsL t := by
  have := partsG_enough (f - t.length) t.length t (Nat.le_refl _)
  rw [show t.length + (f - t.length) = f by omega] at this
  exact this
theorem parts_arrow_step {n : Nd} {l : List Nd} {a : Nat} (ht : n.text = ArrowT) (h : eat l 1 = some a) : partsL (n :: l) = (l.take a :: (partsL (l.drop a)).1, (partsL (l.drop a)).2) := by
  unfold partsL
  rw [List.length_cons, partsG, if_pos ht, h]
  dsimp only
  rw [parts_at (by rw [List.length_drop]; omega)]
  rfl
theorem parts_end {n : Nd} {l : List Nd} (ht : n.text ≠ ArrowT) : partsL (n :: l) = ([], n :: l) := by
  unfold partsL
  rw [List.length_cons, partsG, if_neg ht]
/-- Parts of an arrow are what it was made of. -/
theorem parts_arrow : ∀ (args : List (List Nd)) (n : Nd) (l : List Nd), (∀ a ∈ args, wholeB a = true) → n.text ≠ ArrowT → partsL (arrowL args (n :: l)) = (args, n :: l)
  | [], n, l, _, ht => parts_end ht
  | a :: args, n, l, h, ht => by
    have ha := whole_iff.1 (h a List.mem_cons_self)
    have ih := parts_arrow args n l (fun b hb => h b (List.mem_cons_of_mem _ hb)) ht
    have e : arrowL (a :: args) (n :: l) = ⟨32, ArrowT, 0, 2⟩ :: (a ++ arrowL args (n :: l)) := rfl
    rw [e, parts_arrow_step rfl (eat_append _ ha.2), List.take_left, List.drop_left, ih]
theorem arrow_len : ∀ (args : List (List Nd)) (to : List Nd), to.length ≤ (arrowL args to).length
  | [], _ => Nat.le_refl _
  | a :: args, to => by
    have e : arrowL (a :: args) to = ⟨32, ArrowT, 0, 2⟩ :: (a ++ arrowL args to) := rfl
    have := arrow_len args to
    rw [e, List.length_cons, List.length_append]
    omega
theorem arrow_whole : ∀ (args : List (List Nd)) (to : List Nd), (∀ a ∈ args, wholeB a = true) → wholeB to = true → wholeB (arrowL args to) = true
  | [], _, _, ht => ht
  | a :: args, to, h, ht => by
    have ha := whole_iff.1 (h a List.mem_cons_self)
    have ih := whole_iff.1 (arrow_whole args to (fun b hb => h b (List.mem_cons_of_mem _ hb)) ht)
    have e : arrowL (a :: args) to = ⟨32, ArrowT, 0, 2⟩ :: (a ++ arrowL args to) := rfl
    rw [e, whole_iff]
    refine ⟨by simp, ?_⟩
    unfold eat
    rw [if_neg (by omega), if_neg (by dsimp only; omega), show 1 - 1 + (2 : Int).toNat = 1 + 1 from rfl, eat_add, eat_append _ ha.2, Option.bind_some, List.drop_left, ih.2]
    simp
theorem arrow_nodes {args : List (List Nd)} {to : List Nd} (h : ∀ a ∈ args, a.all nodeB = true) (ht : to.all nodeB = true) : (arrowL args to).all nodeB = true := by
  induction args with
  | nil => exact ht
  | cons a args ih =>
    have e : arrowL (a :: args) to = ⟨32, ArrowT, 0, 2⟩ :: (a ++ arrowL args to) := rfl
    rw [e, List.all_cons, List.all_append, h a List.mem_cons_self, ih (fun b hb => h b (List.mem_cons_of_mem _ hb))]
    have : nodeB ⟨32, ArrowT, 0, 2⟩ = true := by
      unfold nodeB
      rw [if_neg (by decide), if_neg (by decide), if_pos rfl]
      rfl
    rw [this]
    rfl
end Go.Proofs.YticnehmgaklhfaaGreatDoor

namespace Go.Proofs.YticnehmgaklhfaaGreatDoor
theorem varsG_mem (v : Int) : ∀ (l : List Nd) (out : List Int), v ∈ varsG out l ↔ v ∈ out ∨ ∃ n ∈ l, n.kind = 31 ∧ n.num = v
  | [], out => by simp [varsG]
  | n :: l, out => by
    unfold varsG
    split
    · rename_i h
      rw [varsG_mem v l, List.mem_append, List.mem_singleton]
      constructor
      · rintro ((h1 | rfl) | ⟨x, hx, h2⟩)
        · exact .inl h1
        · exact .inr ⟨n, List.mem_cons_self, h.1, rfl⟩
        · exact .inr ⟨x, List.mem_cons_of_mem _ hx, h2⟩
      · rintro (h1 | ⟨x, hx, h2⟩)
        · exact .inl (.inl h1)
        · rcases List.mem_cons.1 hx with rfl | hx
          · exact .inl (.inr h2.2.symm)
          · exact .inr ⟨x, hx, h2⟩
    · rename_i h
      rw [varsG_mem v l]
      constructor
      · rintro (h1 | ⟨x, hx, h2⟩)
        · exact .inl h1
        · exact .inr ⟨x, List.mem_cons_of_mem _ hx, h2⟩
      · rintro (h1 | ⟨x, hx, h2⟩)
        · exact .inl h1
        · rcases List.mem_cons.1 hx with rfl | hx
          · by_cases hm : x.num ∈ out
            · exact .inl (h2.2 ▸ hm)
            · exact absurd ⟨h2.1, hm⟩ h
          · exact .inr ⟨x, hx, h2⟩
theorem varsG_nodup : ∀ (l : List Nd) (out : List Int), out.Nodup → (varsG out l).Nodup
  | [], _, h => h
  | n :: l, out, h => by
    unfold varsG
    split
    · rename_i hn
      refine varsG_nodup l _ ?_
      rw [List.nodup_append]
      refine ⟨h, by simp, ?_⟩
      intro a ha b hb e
      rw [List.mem_singleton] at hb
      subst hb e
      exact hn.2 ha
    · exact varsG_nodup l out h
theorem vars_mem {v : Int} {t : List Nd} : v ∈ varsL t ↔ ∃ n ∈ t, n.kind = 31 ∧ n.num = v := by
  unfold varsL
  rw [varsG_mem]
  simp
theorem vars_nodup (t : List Nd) : (varsL t).Nodup := varsG_nodup t [] List.nodup_nil
theorem nodup_le {α : Type} [DecidableEq α] : ∀ (l m : List α), l.Nodup → (∀ x ∈ l, x ∈ m) → l.length ≤ m.length
  | [], _, _, _ => Nat.zero_le _
  | x :: l, m, h, hs => by
    rw [List.nodup_cons] at h
    have hx := hs x List.mem_cons_self
    have := nodup_le l (m.erase x) h.2 (fun y hy => by
      have hne : y ≠ x := fun e => h.1 (e ▸ hy)
      exact (List.mem_erase_of_ne hne).2 (hs y (List.mem_cons_of_mem _ hy)))
    rw [List.length_erase_of_mem hx] at this
    have h0 : 0 < m.length := List.length_pos_of_mem hx
    simp only [List.length_cons]
    omega
theorem arrow_mem {n : Nd} : ∀ {args : List (List Nd)} {to : List Nd}, n ∈ arrowL args to → n = ⟨32, ArrowT, 0, 2⟩ ∨ (∃ a ∈ args, n ∈ a) ∨ n ∈ to
  | [], to, h => .inr (.inr h)
  | a :: args, to, h => by
    have e : arrowL (a :: args) to = ⟨32, ArrowT, 0, 2⟩ :: (a ++ arrowL args to) := rfl
    rw [e, List.mem_cons, List.mem_append] at h
    rcases h with h | h | h
    · exact .inl h
    · exact .inr (.inl ⟨a, List.mem_cons_self, h⟩)
    · rcases arrow_mem h with h | ⟨b, hb, h⟩ | h
      · exact .inl h
      · exact .inr (.inl ⟨b, List.mem_cons_of_mem _ hb, h⟩)
      · exact .inr (.inr h)
theorem mem_arrow {n : Nd} : ∀ {args : List (List Nd)} {to : List Nd}, n ∈ to → n ∈ arrowL args to
  | [], _, h => h
  | _ :: _, _, h => List.mem_cons_of_mem _ (List.mem_append_right _ (mem_arrow h))
/-- A constructor's type has as many variables as its type has parameters. -/
theorem sig_vars {d : Dt} {c : Ct} (h0 : 0 ≤ d.params) (hc : ctB d.params c = true) : (varsL (arrowL c.args (ofL d))).length = d.params.toNat := by
  have hm : ∀ v : Int, v ∈ varsL (arrowL c.args (ofL d)) ↔ v ∈ (List.range d.params.toNat).map fun (k : Nat) => (k : Int) := by
    intro v
    rw [vars_mem, List.mem_map]
    constructor
    · rintro ⟨n, hn, hk, rfl⟩
      rcases arrow_mem hn with rfl | ⟨a, ha, hn⟩ | hn
      · exact absurd (show (32 : Int) = 31 from hk) (by decide)
      · unfold ctB at hc
        simp only [Bool.and_eq_true, List.all_eq_true] at hc
        have h1 := hc.2 a ha
        unfold argB at h1
        simp only [Bool.and_eq_true, List.all_eq_true, decide_eq_true_eq] at h1
        have h2 := h1.2 n.num (vars_mem.2 ⟨n, hn, hk, rfl⟩)
        have h3 := h1.1
        unfold typB at h3
        simp only [Bool.and_eq_true, List.all_eq_true] at h3
        have h4 := h3.2 n hn
        unfold nodeB at h4
        rw [if_pos hk] at h4
        simp only [Bool.and_eq_true, decide_eq_true_eq] at h4
        exact ⟨n.num.toNat, List.mem_range.2 (by omega), by omega⟩
      · unfold ofL at hn
        rcases List.mem_cons.1 hn with rfl | hn
        · exact absurd (show (32 : Int) = 31 from hk) (by decide)
        · obtain ⟨k, hk2, rfl⟩ := List.mem_map.1 hn
          exact ⟨k, hk2, rfl⟩
    · rintro ⟨k, hk, rfl⟩
      exact ⟨⟨31, ⟨#[]⟩, (k : Int), 0⟩, mem_arrow (List.mem_cons_of_mem _ (List.mem_map.2 ⟨k, hk, rfl⟩)), rfl, rfl⟩
  have hr : ((List.range d.params.toNat).map fun (k : Nat) => (k : Int)).Nodup := by
    rw [List.nodup_iff_pairwise_ne, List.pairwise_map]
    exact (List.nodup_iff_pairwise_ne.1 List.nodup_range).imp (fun h => by omega)
  have a := nodup_le _ _ (vars_nodup (arrowL c.args (ofL d))) (fun x hx => (hm x).1 hx)
  have b := nodup_le _ _ hr (fun x hx => (hm x).2 hx)
  rw [List.length_map, List.length_range] at a b
  omega
theorem of_len (d : Dt) : (ofL d).length = 1 + d.params.toNat := by
  unfold ofL
  rw [List.length_cons, List.length_map, List.length_range]
  omega
/-- One more declaration. -/
theorem datas_more {l : List Dt} {d : Dt} (h : datasE l = 0) :
    ((datasE [d] = 100 ∨ 60 < (l ++ [d]).length) → datasE (l ++ [d]) = 100) ∧
    (¬ (datasE [d] = 100 ∨ 60 < (l ++ [d]).length) → datasE (l ++ [d]) = 0 ∨ datasE (l ++ [d]) = 101 ∨ (datasE (l ++ [d]) = 102 ∧ datasE [d] = 102)) := by
  have hd : datasE [d] = 100 ↔ dtB d = false := by
    unfold datasE
    constructor
    · intro e
      split at e
      · rename_i hh
        rcases hh with hh | hh
        · simp at hh
        · simpa using hh
      · split at e
        · cases e
        · split at e <;> cases e
    · intro e
      rw [if_pos (.inr (by simp [e]))]
  have hl : ¬ (60 < l.length ∨ l.all dtB = false) ∧ ¬ (¬ (l.map Dt.name).Nodup ∨ ¬ (consNames l).Nodup) ∧ l.any (fun d => d.cons.any fun c => c.args.any fun t => t.any (lackN l)) = false := by
    unfold datasE at h
    split at h
    · cases h
    · rename_i h1
      split at h
      · cases h
      · rename_i h2
        split at h
        · cases h
        · rename_i h3
          exact ⟨h1, h2, by simpa using h3⟩
  constructor
  · intro hh
    unfold datasE
    rw [if_pos]
    rcases hh with hh | hh
    · refine .inr ?_
      rw [List.all_append]
      simp [hd.1 hh]
    · exact .inl hh
  · intro hh
    rw [not_or] at hh
    have hb : dtB d = true := by
      cases e : dtB d with
      | true => rfl
      | false => exact absurd (hd.2 e) hh.1
    have hall : ¬ (60 < (l ++ [d]).length ∨ (l ++ [d]).all dtB = false) := by
      rintro (hx | hx)
      · exact hh.2 hx
      · rw [List.all_append] at hx
        have := hl.1
        rw [not_or] at this
        have h2 : l.all dtB = true := by simpa using this.2
        rw [h2] at hx
        simp [hb] at hx
    by_cases hdup : ¬ ((l ++ [d]).map Dt.name).Nodup ∨ ¬ (consNames (l ++ [d])).Nodup
    · refine .inr (.inl ?_)
      unfold datasE
      rw [if_neg hall, if_pos hdup]
    · by_cases hlk : (l ++ [d]).any (fun x => x.cons.any fun c => c.args.any fun t => t.any (lackN (l ++ [d]))) = true
      · refine .inr (.inr ⟨?_, ?_⟩)
        · unfold datasE
          rw [if_neg hall, if_neg hdup, if_pos hlk]
        · have hk : ∀ n, knownB (l ++ [d]) n = false → knownB l n = false ∧ knownB [d] n = false := by
            intro n hn
            unfold knownB at hn ⊢
            rw [List.any_append, Bool.or_eq_false_iff] at hn
            exact hn
          have hlk2 : [d].any (fun x => x.cons.any fun c => c.args.any fun t => t.any (lackN [d])) = true := by
            rw [List.any_append, Bool.or_eq_true] at hlk
            rcases hlk with hx | hx
            · refine absurd hl.2.2 ?_
              rw [Bool.not_eq_false]
              simp only [List.any_eq_true] at hx ⊢
              obtain ⟨x, hx1, c, hc1, t, ht1, n, hn1, hn2⟩ := hx
              refine ⟨x, hx1, c, hc1, t, ht1, n, hn1, ?_⟩
              unfold lackN at hn2 ⊢
              simp only [Bool.and_eq_true, Bool.not_eq_true'] at hn2 ⊢
              exact ⟨hn2.1, (hk n hn2.2).1⟩
            · simp only [List.any_eq_true] at hx ⊢
              obtain ⟨x, hx1, c, hc1, t, ht1, n, hn1, hn2⟩ := hx
              refine ⟨x, hx1, c, hc1, t, ht1, n, hn1, ?_⟩
              unfold lackN at hn2 ⊢
              simp only [Bool.and_eq_true, Bool.not_eq_true'] at hn2 ⊢
              exact ⟨hn2.1, (hk n hn2.2).2⟩
          unfold datasE
          rw [if_neg (by rintro (hx | hx) <;> simp [hb] at hx), if_neg, if_pos hlk2]
          rw [not_or, Classical.not_not, Classical.not_not] at hdup ⊢
          refine ⟨by simp, ?_⟩
          have := hdup.2
          have e : consNames (l ++ [d]) = consNames l ++ consNames [d] := by unfold consNames; rw [List.flatMap_append]
          rw [e, List.nodup_append] at this
          exact this.2.1
      · refine .inl ?_
        unfold datasE
        rw [if_neg hall, if_neg hdup, if_neg hlk]
end Go.Proofs.YticnehmgaklhfaaGreatDoor
