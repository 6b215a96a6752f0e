/-
  Plain laws on names that are told twice, and on where constructors stand.
-/
import Derived.Test.YticnehmgaklhfaaGreatDoorMdl
namespace Go.Proofs.YticnehmgaklhfaaGreatDoor
/-- Where a thing stands first, or how many there are. -/
theorem nodup_iff_first {α : Type} [DecidableEq α] : ∀ (l : List α), l.Nodup ↔ ∀ (i : Nat) (x : α), l[i]? = some x → ∀ (j : Nat), j < i → l[j]? ≠ some x
  | [] => by simp
  | y :: l => by
    rw [List.nodup_cons, nodup_iff_first l]
    constructor
    · rintro ⟨hy, h⟩ i x hi j hj
      cases i with
      | zero => omega
      | succ i =>
        rw [List.getElem?_cons_succ] at hi
        cases j with
        | zero =>
          rw [List.getElem?_cons_zero]
          intro e
          injection e with e
          subst e
          exact hy (List.mem_of_getElem? hi)
        | succ j => rw [List.getElem?_cons_succ]; exact h i x hi j (by omega)
    · intro h
      refine ⟨fun hy => ?_, fun i x hi j hj => ?_⟩
      · obtain ⟨i, hi⟩ := List.mem_iff_getElem?.1 hy
        exact h (i + 1) y (by rw [List.getElem?_cons_succ]; exact hi) 0 (by omega) (by rw [List.getElem?_cons_zero])
      · have := h (i + 1) x (by rw [List.getElem?_cons_succ]; exact hi) (j + 1) (by omega)
        rw [List.getElem?_cons_succ] at this
        exact this
/-- The first place, of a row of declarations, where a constructor of that name stands. -/
def findG (con : ByteArray) : Nat → List Dt → Option (Nat × Nat)
  | _, [] => none
  | i, d :: l => match d.cons.findIdx? (fun c => decide (c.name = con)) with
    | some k => some (i, k)
    | none => findG con (i + 1) l
def findL (l : List Dt) (con : ByteArray) : Option (Nat × Nat) := findG con 0 l
theorem findG_mem (con : ByteArray) : ∀ (l : List Dt) (i : Nat), (findG con i l).isSome = true ↔ con ∈ consNames l
  | [], i => by simp [findG, consNames]
  | d :: l, i => by
    unfold findG
    have hc : consNames (d :: l) = d.cons.map Ct.name ++ consNames l := rfl
    rw [hc, List.mem_append, ← findG_mem con l (i + 1)]
    cases h : d.cons.findIdx? (fun c => decide (c.name = con)) with
    | some k =>
      rw [List.findIdx?_eq_some_iff_getElem] at h
      obtain ⟨hk, h1, _⟩ := h
      simp only [Option.isSome_some, true_iff]
      exact .inl (List.mem_map.2 ⟨_, List.getElem_mem hk, by simpa using h1⟩)
    | none =>
      rw [List.findIdx?_eq_none_iff] at h
      have : con ∉ d.cons.map Ct.name := fun hm => by
        obtain ⟨c, hc1, hc2⟩ := List.mem_map.1 hm
        have := h c hc1
        simp [hc2] at this
      simp [this]
/-- Each name of a constructor once: each stands first where it stands. -/
theorem consNodup (l : List Dt) : ∀ (i : Nat), (consNames l).Nodup ↔ ∀ (k : Nat) (d : Dt) (c : Nat) (x : Ct), l[k]? = some d → d.cons[c]? = some x → findG x.name i l = some (i + k, c) := by
  induction l with
  | nil => intro i; simp [consNames]
  | cons d l ih =>
    intro i
    have hc : consNames (d :: l) = d.cons.map Ct.name ++ consNames l := rfl
    rw [hc, List.nodup_append, ih (i + 1)]
    constructor
    · rintro ⟨h1, h2, h3⟩ k d' c x hk hx
      cases k with
      | zero =>
        rw [List.getElem?_cons_zero] at hk
        injection hk with hk
        subst hk
        unfold findG
        have : d.cons.findIdx? (fun y => decide (y.name = x.name)) = some c := by
          rw [List.findIdx?_eq_some_iff_getElem]
          obtain ⟨hcl, hce⟩ := List.getElem?_eq_some_iff.1 hx
          refine ⟨hcl, by simp [hce], fun j hj => ?_⟩
          have := (nodup_iff_first (d.cons.map Ct.name)).1 h1 c x.name (by rw [List.getElem?_map, hx]; rfl) j hj
          simp only [decide_eq_true_eq]
          intro e
          apply this
          rw [List.getElem?_map, List.getElem?_eq_getElem (by omega)]
          simp [e]
        rw [this]
        simp
      | succ k =>
        rw [List.getElem?_cons_succ] at hk
        unfold findG
        have hm : x.name ∈ consNames l := List.mem_flatMap.2 ⟨d', List.mem_of_getElem? hk, List.mem_map.2 ⟨x, List.mem_of_getElem? hx, rfl⟩⟩
        have : d.cons.findIdx? (fun y => decide (y.name = x.name)) = none := by
          rw [List.findIdx?_eq_none_iff]
          intro y hy
          simp only [decide_eq_false_iff_not]
          intro e
          exact h3 _ (List.mem_map.2 ⟨y, hy, e⟩) _ hm rfl
        rw [this]
        dsimp only
        rw [h2 k d' c x hk hx]
        congr 2
        omega
    · intro h
      refine ⟨?_, ?_, ?_⟩
      · rw [nodup_iff_first]
        intro c nm hcn j hj hjn
        rw [List.getElem?_map, Option.map_eq_some_iff] at hcn hjn
        obtain ⟨x, hx, rfl⟩ := hcn
        obtain ⟨y, hy, e⟩ := hjn
        have a := h 0 d c x rfl hx
        have b := h 0 d j y rfl hy
        rw [e, a] at b
        injection b with b
        injection b with _ b
        omega
      · intro k d' c x hk hx
        have a := h (k + 1) d' c x (by rw [List.getElem?_cons_succ]; exact hk) hx
        unfold findG at a
        split at a
        · injection a with a
          injection a with a _
          omega
        · rw [a]
          congr 2
          omega
      · rintro nm hn1 nm2 hn2 rfl
        obtain ⟨x, hx, rfl⟩ := List.mem_map.1 hn1
        obtain ⟨c, hc1⟩ := List.mem_iff_getElem?.1 hx
        have a := h 0 d c x rfl hc1
        obtain ⟨d', hd', hm⟩ := List.mem_flatMap.1 hn2
        obtain ⟨y, hy, e⟩ := List.mem_map.1 hm
        obtain ⟨k, hk⟩ := List.mem_iff_getElem?.1 hd'
        obtain ⟨c', hc'⟩ := List.mem_iff_getElem?.1 hy
        have b := h (k + 1) d' c' y (by rw [List.getElem?_cons_succ]; exact hk) hc'
        rw [e, a] at b
        injection b with b
        injection b with b _
        omega
end Go.Proofs.YticnehmgaklhfaaGreatDoor
