/-
  Plain laws on the variables of constructors' types, and on declarations with one more.
-/
import Derived.Test.YticnehmgaklhfaaGreatDoorLaw
import Derived.Test.YticnehmgaklhfaaGreatDoorLaw2
namespace Go.Proofs.YticnehmgaklhfaaGreatDoor
theorem varsG_mem (v : Int) : ∀ (l : List Nd) (out : List Int), v ∈ varsG out l ↔ v ∈ out ∨ ∃ n ∈ l, n.kind = 31 ∧ n.num = v
  | [], out => by simp [varsG]
  | n :: l, out => by
    unfold varsG
    split
    · rename_i h
      rw [varsG_mem v l, List.mem_append, List.mem_singleton]
      constructor
      · rintro ((h1 | rfl) | ⟨x, hx, h2⟩)
        · exact .inl h1
        · exact .inr ⟨n, List.mem_cons_self, h.1, rfl⟩
        · exact .inr ⟨x, List.mem_cons_of_mem _ hx, h2⟩
      · rintro (h1 | ⟨x, hx, h2⟩)
        · exact .inl (.inl h1)
        · rcases List.mem_cons.1 hx with rfl | hx
          · exact .inl (.inr h2.2.symm)
          · exact .inr ⟨x, hx, h2⟩
    · rename_i h
      rw [varsG_mem v l]
      constructor
      · rintro (h1 | ⟨x, hx, h2⟩)
        · exact .inl h1
        · exact .inr ⟨x, List.mem_cons_of_mem _ hx, h2⟩
      · rintro (h1 | ⟨x, hx, h2⟩)
        · exact .inl h1
        · rcases List.mem_cons.1 hx with rfl | hx
          · by_cases hm : x.num ∈ out
            · exact .inl (h2.2 ▸ hm)
            · exact absurd ⟨h2.1, hm⟩ h
          · exact .inr ⟨x, hx, h2⟩
theorem varsG_nodup : ∀ (l : List Nd) (out : List Int), out.Nodup → (varsG out l).Nodup
  | [], _, h => h
  | n :: l, out, h => by
    unfold varsG
    split
    · rename_i hn
      refine varsG_nodup l _ ?_
      rw [List.nodup_append]
      refine ⟨h, by simp, ?_⟩
      intro a ha b hb e
      rw [List.mem_singleton] at hb
      subst hb e
      exact hn.2 ha
    · exact varsG_nodup l out h
theorem vars_mem {v : Int} {t : List Nd} : v ∈ varsL t ↔ ∃ n ∈ t, n.kind = 31 ∧ n.num = v := by
  unfold varsL
  rw [varsG_mem]
  simp
theorem vars_nodup (t : List Nd) : (varsL t).Nodup := varsG_nodup t [] List.nodup_nil
theorem nodup_le {α : Type} [DecidableEq α] : ∀ (l m : List α), l.Nodup → (∀ x ∈ l, x ∈ m) → l.length ≤ m.length
  | [], _, _, _ => Nat.zero_le _
  | x :: l, m, h, hs => by
    rw [List.nodup_cons] at h
    have hx := hs x List.mem_cons_self
    have := nodup_le l (m.erase x) h.2 (fun y hy => by
      have hne : y ≠ x := fun e => h.1 (e ▸ hy)
      exact (List.mem_erase_of_ne hne).2 (hs y (List.mem_cons_of_mem _ hy)))
    rw [List.length_erase_of_mem hx] at this
    have h0 : 0 < m.length := List.length_pos_of_mem hx
    simp only [List.length_cons]
    omega
theorem arrow_mem {n : Nd} : ∀ {args : List (List Nd)} {to : List Nd}, n ∈ arrowL args to → n = ⟨32, ArrowT, 0, 2⟩ ∨ (∃ a ∈ args, n ∈ a) ∨ n ∈ to
  | [], to, h => .inr (.inr h)
  | a :: args, to, h => by
    have e : arrowL (a :: args) to = ⟨32, ArrowT, 0, 2⟩ :: (a ++ arrowL args to) := rfl
    rw [e, List.mem_cons, List.mem_append] at h
    rcases h with h | h | h
    · exact .inl h
    · exact .inr (.inl ⟨a, List.mem_cons_self, h⟩)
    · rcases arrow_mem h with h | ⟨b, hb, h⟩ | h
      · exact .inl h
      · exact .inr (.inl ⟨b, List.mem_cons_of_mem _ hb, h⟩)
      · exact .inr (.inr h)
theorem mem_arrow {n : Nd} : ∀ {args : List (List Nd)} {to : List Nd}, n ∈ to → n ∈ arrowL args to
  | [], _, h => h
  | _ :: _, _, h => List.mem_cons_of_mem _ (List.mem_append_right _ (mem_arrow h))
/-- A constructor's type has as many variables as its type has parameters. -/
theorem sig_vars {d : Dt} {c : Ct} (h0 : 0 ≤ d.params) (hc : ctB d.params c = true) : (varsL (arrowL c.args (ofL d))).length = d.params.toNat := by
  have hm : ∀ v : Int, v ∈ varsL (arrowL c.args (ofL d)) ↔ v ∈ (List.range d.params.toNat).map fun (k : Nat) => (k : Int) := by
    intro v
    rw [vars_mem, List.mem_map]
    constructor
    · rintro ⟨n, hn, hk, rfl⟩
      rcases arrow_mem hn with rfl | ⟨a, ha, hn⟩ | hn
      · exact absurd (show (32 : Int) = 31 from hk) (by decide)
      · unfold ctB at hc
        simp only [Bool.and_eq_true, List.all_eq_true] at hc
        have h1 := hc.2 a ha
        unfold argB at h1
        simp only [Bool.and_eq_true, List.all_eq_true, decide_eq_true_eq] at h1
        have h2 := h1.2 n.num (vars_mem.2 ⟨n, hn, hk, rfl⟩)
        have h3 := h1.1
        unfold typB at h3
        simp only [Bool.and_eq_true, List.all_eq_true] at h3
        have h4 := h3.2 n hn
        unfold nodeB at h4
        rw [if_pos hk] at h4
        simp only [Bool.and_eq_true, decide_eq_true_eq] at h4
        exact ⟨n.num.toNat, List.mem_range.2 (by omega), by omega⟩
      · unfold ofL at hn
        rcases List.mem_cons.1 hn with rfl | hn
        · exact absurd (show (32 : Int) = 31 from hk) (by decide)
        · obtain ⟨k, hk2, rfl⟩ := List.mem_map.1 hn
          exact ⟨k, hk2, rfl⟩
    · rintro ⟨k, hk, rfl⟩
      exact ⟨⟨31, ⟨#[]⟩, (k : Int), 0⟩, mem_arrow (List.mem_cons_of_mem _ (List.mem_map.2 ⟨k, hk, rfl⟩)), rfl, rfl⟩
  have hr : ((List.range d.params.toNat).map fun (k : Nat) => (k : Int)).Nodup := by
    rw [List.nodup_iff_pairwise_ne, List.pairwise_map]
    exact (List.nodup_iff_pairwise_ne.1 List.nodup_range).imp (fun h => by omega)
  have a := nodup_le _ _ (vars_nodup (arrowL c.args (ofL d))) (fun x hx => (hm x).1 hx)
  have b := nodup_le _ _ hr (fun x hx => (hm x).2 hx)
  rw [List.length_map, List.length_range] at a b
  omega
theorem of_len (d : Dt) : (ofL d).length = 1 + d.params.toNat := by
  unfold ofL
  rw [List.length_cons, List.length_map, List.length_range]
  omega
/-- One more declaration. -/
theorem datas_more {l : List Dt} {d : Dt} (h : datasE l = 0) :
    ((datasE [d] = 100 ∨ 60 < (l ++ [d]).length) → datasE (l ++ [d]) = 100) ∧
    (¬ (datasE [d] = 100 ∨ 60 < (l ++ [d]).length) → datasE (l ++ [d]) = 0 ∨ datasE (l ++ [d]) = 101 ∨ (datasE (l ++ [d]) = 102 ∧ datasE [d] = 102)) := by
  have hd : datasE [d] = 100 ↔ dtB d = false := by
    unfold datasE
    constructor
    · intro e
      split at e
      · rename_i hh
        rcases hh with hh | hh
        · simp at hh
        · simpa using hh
      · split at e
        · cases e
        · split at e <;> cases e
    · intro e
      rw [if_pos (.inr (by simp [e]))]
  have hl : ¬ (60 < l.length ∨ l.all dtB = false) ∧ ¬ (¬ (l.map Dt.name).Nodup ∨ ¬ (consNames l).Nodup) ∧ l.any (fun d => d.cons.any fun c => c.args.any fun t => t.any (lackN l)) = false := by
    unfold datasE at h
    split at h
    · cases h
    · rename_i h1
      split at h
      · cases h
      · rename_i h2
        split at h
        · cases h
        · rename_i h3
          exact ⟨h1, h2, by simpa using h3⟩
  constructor
  · intro hh
    unfold datasE
    rw [if_pos]
    rcases hh with hh | hh
    · refine .inr ?_
      rw [List.all_append]
      simp [hd.1 hh]
    · exact .inl hh
  · intro hh
    rw [not_or] at hh
    have hb : dtB d = true := by
      cases e : dtB d with
      | true => rfl
      | false => exact absurd (hd.2 e) hh.1
    have hall : ¬ (60 < (l ++ [d]).length ∨ (l ++ [d]).all dtB = false) := by
      rintro (hx | hx)
      · exact hh.2 hx
      · rw [List.all_append] at hx
        have := hl.1
        rw [not_or] at this
        have h2 : l.all dtB = true := by simpa using this.2
        rw [h2] at hx
        simp [hb] at hx
    by_cases hdup : ¬ ((l ++ [d]).map Dt.name).Nodup ∨ ¬ (consNames (l ++ [d])).Nodup
    · refine .inr (.inl ?_)
      unfold datasE
      rw [if_neg hall, if_pos hdup]
    · by_cases hlk : (l ++ [d]).any (fun x => x.cons.any fun c => c.args.any fun t => t.any (lackN (l ++ [d]))) = true
      · refine .inr (.inr ⟨?_, ?_⟩)
        · unfold datasE
          rw [if_neg hall, if_neg hdup, if_pos hlk]
        · have hk : ∀ n, knownB (l ++ [d]) n = false → knownB l n = false ∧ knownB [d] n = false := by
            intro n hn
            unfold knownB at hn ⊢
            rw [List.any_append, Bool.or_eq_false_iff] at hn
            exact hn
          have hlk2 : [d].any (fun x => x.cons.any fun c => c.args.any fun t => t.any (lackN [d])) = true := by
            rw [List.any_append, Bool.or_eq_true] at hlk
            rcases hlk with hx | hx
            · refine absurd hl.2.2 ?_
              rw [Bool.not_eq_false]
              simp only [List.any_eq_true] at hx ⊢
              obtain ⟨x, hx1, c, hc1, t, ht1, n, hn1, hn2⟩ := hx
              refine ⟨x, hx1, c, hc1, t, ht1, n, hn1, ?_⟩
              unfold lackN at hn2 ⊢
              simp only [Bool.and_eq_true, Bool.not_eq_true'] at hn2 ⊢
              exact ⟨hn2.1, (hk n hn2.2).1⟩
            · simp only [List.any_eq_true] at hx ⊢
              obtain ⟨x, hx1, c, hc1, t, ht1, n, hn1, hn2⟩ := hx
              refine ⟨x, hx1, c, hc1, t, ht1, n, hn1, ?_⟩
              unfold lackN at hn2 ⊢
              simp only [Bool.and_eq_true, Bool.not_eq_true'] at hn2 ⊢
              exact ⟨hn2.1, (hk n hn2.2).2⟩
          unfold datasE
          rw [if_neg (by rintro (hx | hx) <;> simp [hb] at hx), if_neg, if_pos hlk2]
          rw [not_or, Classical.not_not, Classical.not_not] at hdup ⊢
          refine ⟨by simp, ?_⟩
          have := hdup.2
          have e : consNames (l ++ [d]) = consNames l ++ consNames [d] := by unfold consNames; rw [List.flatMap_append]
          rw [e, List.nodup_append] at this
          exact this.2.1
      · refine .inl ?_
        unfold datasE
        rw [if_neg hall, if_neg hdup, if_neg hlk]
end Go.Proofs.YticnehmgaklhfaaGreatDoor
