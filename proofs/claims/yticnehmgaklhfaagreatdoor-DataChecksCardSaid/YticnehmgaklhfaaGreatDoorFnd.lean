/-
  Plain laws: the first place where a constructor of a name stands.
-/
import Derived.Test.YticnehmgaklhfaaGreatDoorLw
namespace Go.Proofs.YticnehmgaklhfaaGreatDoor
/-- No constructor of that name stands ahead of a place. -/
def NoneB (l : List Dt) (con : ByteArray) (i k : Nat) : Prop := ∀ (i' k' : Nat) (d : Dt) (x : Ct), l[i']? = some d → d.cons[k']? = some x → (i' < i ∨ (i' = i ∧ k' < k)) → x.name ≠ con
theorem findG_here (con : ByteArray) : ∀ (l : List Dt) (s i k : Nat) (d : Dt) (x : Ct), l[i]? = some d → d.cons[k]? = some x → x.name = con → NoneB l con i k → findG con s l = some (s + i, k)
  | [], s, i, k, d, x, hd, _, _, _ => by simp at hd
  | y :: l, s, i, k, d, x, hd, hk, hx, hn => by
    unfold findG
    cases i with
    | zero =>
      rw [List.getElem?_cons_zero] at hd
      injection hd with hd
      subst hd
      have : y.cons.findIdx? (fun c => decide (c.name = con)) = some k := by
        rw [List.findIdx?_eq_some_iff_getElem]
        obtain ⟨hkl, he⟩ := List.getElem?_eq_some_iff.1 hk
        refine ⟨hkl, by rw [he]; exact decide_eq_true hx, fun j hj => ?_⟩
        rw [decide_eq_true_eq]
        exact hn 0 j y _ (by rw [List.getElem?_cons_zero]) (List.getElem?_eq_getElem (by omega)) (.inr ⟨rfl, hj⟩)
      rw [this]
      simp
    | succ i =>
      rw [List.getElem?_cons_succ] at hd
      have : y.cons.findIdx? (fun c => decide (c.name = con)) = none := by
        rw [List.findIdx?_eq_none_iff]
        intro c hc
        rw [decide_eq_false_iff_not]
        obtain ⟨j, hj⟩ := List.mem_iff_getElem?.1 hc
        exact hn 0 j y c (by rw [List.getElem?_cons_zero]) hj (.inl (by omega))
      rw [this]
      dsimp only
      rw [findG_here con l (s + 1) i k d x hd hk hx (fun i' k' d' x' h1 h2 h3 => hn (i' + 1) k' d' x' (by rw [List.getElem?_cons_succ]; exact h1) h2 (by omega))]
      congr 2
      omega
theorem findG_none (con : ByteArray) (l : List Dt) (s : Nat) (h : NoneB l con l.length 0) : findG con s l = none := by
  cases e : findG con s l with
  | none => rfl
  | some r =>
    have hm : con ∈ consNames l := (findG_mem con l s).1 (by rw [e]; rfl)
    obtain ⟨d, hd, hx⟩ := List.mem_flatMap.1 hm
    obtain ⟨x, hx1, hx2⟩ := List.mem_map.1 hx
    obtain ⟨i, hi⟩ := List.mem_iff_getElem?.1 hd
    obtain ⟨k, hk⟩ := List.mem_iff_getElem?.1 hx1
    exact absurd hx2 (h i k d x hi hk (.inl (List.getElem?_eq_some_iff.1 hi).1))
end Go.Proofs.YticnehmgaklhfaaGreatDoor
