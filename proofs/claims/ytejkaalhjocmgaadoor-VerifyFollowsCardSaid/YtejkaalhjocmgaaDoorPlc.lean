/-
  The plain law of layer 19: the checker's side.
-/
import Derived.Test.YtejkaalhjocmgaaDoorPlb
namespace Go.Proofs.YtejkaalhjocmgaaDoor
/-- The checker's state. -/
structure PC where
  at_ : List (Option PSt)
  has : Int → Int
  work : List Nat
  bad : Bool
def PC.badly (C : PC) : PC := ⟨C.at_, C.has, C.work, true⟩
def PC.come (n : Nat) (C : PC) (t : Nat) (s : PSt) : PC :=
  if n ≤ t then C.badly else match C.at_[t]? with
    | some (some s') => if s'.same s then C else C.badly
    | _ => ⟨C.at_.set t (some s), C.has, C.work ++ [t], C.bad⟩
def upd (h : Int → Int) (k v : Int) : Int → Int := fun x => if x = k then v else h x
def PC.begin_ (n : Nat) (C : PC) (o : Int) (b : Int) : PC :=
  if 0 < C.has o ∧ C.has o ≠ b + 1 then C.badly else PC.come n ⟨C.at_, upd C.has o (b + 1), C.work, C.bad⟩ o.toNat ⟨o, 1, []⟩
def PC.step (n : Nat) (C : PC) (s : PSt) (floor takes puts : Int) (holds : Bool) (tos : List Nat) : PC :=
  if !holds || decide (s.height - takes < floor) then C.badly else tos.foldl (fun C t => C.come n t ⟨s.of, s.height - takes + puts, s.tries⟩) C
section
variable (con : ByteArray → Bool) (m : Im)
def PC.act (C : PC) (k : Nat) (s : PSt) : PC :=
  let n := m.code.length
  let i := insAt m k
  if i.op = 14 then (if s.tries = [] then C.badly else C.step n ⟨s.of, s.height, s.tries.dropLast⟩ 0 0 0 true [k + 1])
  else if i.op = 17 then (C.step n s (floorT s.tries) 0 1 true [i.a.toNat]).come n (k + 1) ⟨s.of, s.height, s.tries ++ [s.height]⟩
  else if i.op = 18 then (C.step n s (floorT s.tries) i.b 1 true [k + 1]).begin_ n i.a i.b
  else
    let T := tab con m i (s.of != -1) s.tries.isEmpty (C.has s.of - 1) s.height
    C.step n s (floorT s.tries) T.takes T.puts T.holds ((if T.there then [i.a.toNat] else []) ++ (if T.behind then [k + 1] else []))
end
def lift (h : Int → Int) (p : PSt) : RSt := ⟨p.of, if p.of < 0 then 0 else h p.of - 1, p.height, p.tries⟩
theorem lift_inj {h : Int → Int} {p q : PSt} (e : lift h p = lift h q) : p = q := by
  obtain ⟨a, b, c⟩ := p
  obtain ⟨a', b', c'⟩ := q
  simp only [lift, RSt.mk.injEq] at e
  obtain ⟨e1, _, e2, e3⟩ := e
  subst e1 e2 e3
  rfl
section
variable {con : ByteArray → Bool} {m : Im}
/-- What holds of the checker; those of 'extra', and those on its work, are yet to be done. -/
structure PInv (con : ByteArray → Bool) (m : Im) (C : PC) (extra : Nat → Prop) : Prop where
  good : C.bad = false
  len : C.at_.length = m.code.length
  pos : C.at_[0]? = some (some ⟨-1, 0, []⟩)
  reach : ∀ k p, C.at_[k]? = some (some p) → Reach con m k (lift C.has p) ∧ (p.of = -1 ∨ 0 < C.has p.of)
  wf : ∀ (k : Nat) (p : PSt), C.at_[k]? = some (some p) → WfS (cnt C.at_) p.of p.height p.tries
  hasA : ∀ o, 0 < C.has o → 0 ≤ o ∧ C.at_[o.toNat]? = some (some ⟨o, 1, []⟩)
  has0 : ∀ o, 0 ≤ C.has o
  wk : ∀ k ∈ C.work, ∃ p, C.at_[k]? = some (some p)
  done : ∀ k p, C.at_[k]? = some (some p) → k ∈ C.work ∨ extra k ∨ (nextOk con m k (lift C.has p) = true ∧ ∀ t s', (t, s') ∈ nextL con m k (lift C.has p) → ∃ p', C.at_[t]? = some (some p') ∧ lift C.has p' = s')
/-- What was told stays told. -/
structure Ext (C C' : PC) : Prop where
  at_ : ∀ (k : Nat) (p : PSt), C.at_[k]? = some (some p) → C'.at_[k]? = some (some p)
  has : ∀ o, 0 < C.has o → C'.has o = C.has o
theorem Ext.refl (C : PC) : Ext C C := ⟨fun _ _ h => h, fun _ _ => rfl⟩
theorem Ext.trans {A B C : PC} (h : Ext A B) (k : Ext B C) : Ext A C := ⟨fun i p e => k.at_ i p (h.at_ i p e), fun o ho => by rw [k.has o (by rw [h.has o ho]; exact ho), h.has o ho]⟩
theorem Ext.lift {C C' : PC} (h : Ext C C') {p : PSt} (hp : p.of = -1 ∨ 0 < C.has p.of) : lift C'.has p = lift C.has p := by
  unfold Go.Proofs.YtejkaalhjocmgaaDoor.lift
  rcases hp with e | e
  · rw [e]; rfl
  · rw [h.has _ e]
/-- What is asked of a state that comes. -/
theorem come_ok {C : PC} {extra : Nat → Prop} (h : PInv con m C extra) {t : Nat} {p : PSt} (ht : t < m.code.length) (hr : Reach con m t (lift C.has p)) (hp : p.of = -1 ∨ 0 < C.has p.of) (hw : WfS (cnt C.at_ + 1) p.of p.height p.tries) :
    ((C.come m.code.length t p).bad = true ∧ ¬ Good con m) ∨ (PInv con m (C.come m.code.length t p) extra ∧ Ext C (C.come m.code.length t p) ∧ (C.come m.code.length t p).at_[t]? = some (some p)) := by
  unfold PC.come
  rw [if_neg (by omega)]
  have hl := h.len
  have hne : C.at_[t]? ≠ none := by
    intro e
    rw [List.getElem?_eq_none_iff] at e
    omega
  cases e : C.at_[t]? with
  | none => exact absurd e hne
  | some o =>
    cases o with
    | some q =>
      dsimp only
      cases hs : q.same p with
      | true =>
        rw [if_pos rfl]
        have := PSt.same_iff.1 hs
        subst this
        exact .inr ⟨h, Ext.refl _, e⟩
      | false =>
        rw [if_neg (by simp)]
        refine .inl ⟨rfl, not_good_of (h.reach t q e).1 hr (fun e2 => ?_)⟩
        have := PSt.same_iff.2 (lift_inj e2)
        rw [hs] at this
        cases this
    | none =>
      dsimp only
      have hset : ∀ (k : Nat) (q : PSt), (C.at_.set t (some p))[k]? = some (some q) → (k = t ∧ q = p) ∨ C.at_[k]? = some (some q) := by
        intro k q hk
        rw [List.getElem?_set] at hk
        split at hk
        · rename_i e2
          subst e2
          try rw [if_pos (by omega)] at hk
          injection hk with hk
          injection hk with hk
          exact .inl ⟨rfl, hk.symm⟩
        · exact .inr hk
      have hold : ∀ (k : Nat) (q : PSt), C.at_[k]? = some (some q) → (C.at_.set t (some p))[k]? = some (some q) := by
        intro k q hk
        rw [List.getElem?_set]
        split
        · rename_i e2
          subst e2
          rw [e] at hk
          injection hk with hk
          cases hk
        · exact hk
      have hnew : (C.at_.set t (some p))[t]? = some (some p) := by
        rw [List.getElem?_set, if_pos rfl, if_pos (by omega)]
      refine .inr ⟨⟨h.good, by rw [List.length_set]; exact h.len, hold _ _ h.pos, fun k q hk => ?_, fun k q hk => ?_, fun o ho => ?_, h.has0, fun k hk => ?_, fun k q hk => ?_⟩, ⟨hold, fun _ _ => rfl⟩, hnew⟩
      · rcases hset k q hk with ⟨rfl, rfl⟩ | hk
        · exact ⟨hr, hp⟩
        · exact h.reach k q hk
      · show WfS (cnt (C.at_.set t (some p))) _ _ _
        rw [cnt_set _ _ _ e]
        rcases hset k q hk with ⟨rfl, rfl⟩ | hk
        · exact hw
        · exact (h.wf k q hk).mono (by omega)
      · exact ⟨(h.hasA o ho).1, hold _ _ (h.hasA o ho).2⟩
      · rcases List.mem_append.1 hk with hk | hk
        · obtain ⟨q, hq⟩ := h.wk k hk
          exact ⟨q, hold _ _ hq⟩
        · rw [List.mem_singleton] at hk
          subst hk
          exact ⟨p, hnew⟩
      · rcases hset k q hk with ⟨rfl, rfl⟩ | hk
        · exact .inl (by simp)
        · rcases h.done k q hk with h1 | h1 | ⟨h1, h2⟩
          · exact .inl (List.mem_append.2 (.inl h1))
          · exact .inr (.inl h1)
          · refine .inr (.inr ⟨h1, fun t' s' hm => ?_⟩)
            obtain ⟨p', e1, e2⟩ := h2 t' s' hm
            exact ⟨p', hold _ _ e1, e2⟩
theorem begin_ok {C : PC} {extra : Nat → Prop} (h : PInv con m C extra) {o b : Int} (h0 : 0 ≤ o) (hlt : o.toNat < m.code.length) (hb : 0 ≤ b) (hr : Reach con m o.toNat ⟨o, b, 1, []⟩) :
    ((C.begin_ m.code.length o b).bad = true ∧ ¬ Good con m) ∨ (PInv con m (C.begin_ m.code.length o b) extra ∧ Ext C (C.begin_ m.code.length o b) ∧ (C.begin_ m.code.length o b).at_[o.toNat]? = some (some ⟨o, 1, []⟩) ∧ (C.begin_ m.code.length o b).has o = b + 1) := by
  unfold PC.begin_
  by_cases hc : 0 < C.has o ∧ C.has o ≠ b + 1
  · rw [if_pos hc]
    refine .inl ⟨rfl, not_good_of (h.reach _ _ (h.hasA o hc.1).2).1 hr (fun e => ?_)⟩
    simp only [lift, RSt.mk.injEq] at e
    have := e.2.1
    split at this <;> omega
  · rw [if_neg hc]
    have hl := h.len
    have hu : upd C.has o (b + 1) o = b + 1 := if_pos rfl
    have hother : ∀ x, 0 < C.has x → upd C.has o (b + 1) x = C.has x := by
      intro x hx
      unfold upd
      split
      · rename_i e; subst e; have h3 : ¬ C.has x ≠ b + 1 := fun h4 => hc ⟨hx, h4⟩
        have : C.has x = b + 1 := Decidable.of_not_not h3
        omega
      · rfl
    have hlift : ∀ p : PSt, (p.of = -1 ∨ 0 < C.has p.of) → lift (upd C.has o (b + 1)) p = lift C.has p := by
      intro p hp
      unfold lift
      rcases hp with e | e
      · rw [e]; rfl
      · rw [hother _ e]
    have hln : lift (upd C.has o (b + 1)) ⟨o, 1, []⟩ = ⟨o, b, 1, []⟩ := by
      unfold lift
      dsimp only
      rw [if_neg (by omega), hu]
      congr 1
      omega
    unfold PC.come
    rw [if_neg (by omega)]
    dsimp only
    have hne : C.at_[o.toNat]? ≠ none := by
      intro e
      rw [List.getElem?_eq_none_iff] at e
      omega
    cases e : C.at_[o.toNat]? with
    | none => exact absurd e hne
    | some x =>
      cases x with
      | some q =>
        dsimp only
        cases hs : q.same ⟨o, 1, []⟩ with
        | true =>
          rw [if_pos rfl]
          have := PSt.same_iff.1 hs
          subst this
          have hpos : 0 < C.has o := by
            rcases (h.reach _ _ e).2 with e2 | e2
            · exfalso
              have e3 : o = -1 := e2
              omega
            · exact e2
          have hsame : upd C.has o (b + 1) = C.has := by
            funext x
            unfold upd
            split
            · rename_i e2
              subst e2
              have := hother x hpos
              rw [hu] at this
              exact this
            · rfl
          rw [hsame]
          exact .inr ⟨h, Ext.refl _, e, by rw [← hother o hpos, hu]⟩
        | false =>
          rw [if_neg (by simp)]
          refine .inl ⟨rfl, not_good_of (h.reach _ q e).1 hr (fun e2 => ?_)⟩
          rw [← hlift q (h.reach _ q e).2, ← hln] at e2
          have := PSt.same_iff.2 (lift_inj e2)
          rw [hs] at this
          cases this
      | none =>
        dsimp only
        generalize hq0 : (⟨o, 1, []⟩ : PSt) = q0 at *
        have hset : ∀ (k : Nat) (q : PSt), (C.at_.set o.toNat (some q0))[k]? = some (some q) → (k = o.toNat ∧ q = q0) ∨ C.at_[k]? = some (some q) := by
          intro k q hk
          rw [List.getElem?_set] at hk
          split at hk
          · rename_i e2
            subst e2
            try rw [if_pos (by omega)] at hk
            injection hk with hk
            injection hk with hk
            exact .inl ⟨rfl, hk.symm⟩
          · exact .inr hk
        have hold : ∀ (k : Nat) (q : PSt), C.at_[k]? = some (some q) → (C.at_.set o.toNat (some q0))[k]? = some (some q) := by
          intro k q hk
          rw [List.getElem?_set]
          split
          · rename_i e2
            subst e2
            rw [e] at hk
            injection hk with hk
            cases hk
          · exact hk
        have hnew : (C.at_.set o.toNat (some q0))[o.toNat]? = some (some q0) := by
          rw [List.getElem?_set, if_pos rfl, if_pos (by omega)]
        refine .inr ⟨⟨h.good, by rw [List.length_set]; exact h.len, hold _ _ h.pos, fun k q hk => ?_, fun k q hk => ?_, fun x hx => ?_, fun x => ?_, fun k hk => ?_, fun k q hk => ?_⟩, ⟨hold, fun x hx => hother x hx⟩, hnew, hu⟩
        · show Reach con m k (lift (upd C.has o (b + 1)) q) ∧ (q.of = -1 ∨ 0 < upd C.has o (b + 1) q.of)
          rcases hset k q hk with ⟨rfl, rfl⟩ | hk
          · rw [hln]
            refine ⟨hr, .inr ?_⟩
            rw [← hq0]
            show 0 < upd C.has o (b + 1) o
            omega
          · have := h.reach k q hk
            rw [hlift q this.2]
            refine ⟨this.1, this.2.imp id (fun e2 => by rw [hother _ e2]; exact e2)⟩
        · show WfS (cnt (C.at_.set o.toNat (some q0))) _ _ _
          rw [cnt_set _ _ _ e]
          rcases hset k q hk with ⟨rfl, rfl⟩ | hk
          · rw [← hq0]
            exact ⟨.inr h0, by show (0 : Int) ≤ 1; omega, by show (1 : Int) ≤ _; omega, by simp, trivial, by show floorT [] ≤ 1; simp [floorT]⟩
          · exact (h.wf k q hk).mono (by omega)
        · have hx2 : 0 < upd C.has o (b + 1) x := hx
          by_cases e2 : x = o
          · subst e2
            rw [hq0]
            exact ⟨h0, hnew⟩
          · have : upd C.has o (b + 1) x = C.has x := if_neg e2
            rw [this] at hx2
            exact ⟨(h.hasA x hx2).1, hold _ _ (h.hasA x hx2).2⟩
        · show 0 ≤ upd C.has o (b + 1) x
          unfold upd
          split
          · omega
          · exact h.has0 x
        · rcases List.mem_append.1 hk with hk | hk
          · obtain ⟨q, hq⟩ := h.wk k hk
            exact ⟨q, hold _ _ hq⟩
          · rw [List.mem_singleton] at hk
            subst hk
            exact ⟨q0, hnew⟩
        · show _ ∨ _ ∨ (nextOk con m k (lift (upd C.has o (b + 1)) q) = true ∧ ∀ t s', (t, s') ∈ nextL con m k (lift (upd C.has o (b + 1)) q) → ∃ p', (C.at_.set o.toNat (some q0))[t]? = some (some p') ∧ lift (upd C.has o (b + 1)) p' = s')
          rcases hset k q hk with ⟨rfl, rfl⟩ | hk
          · exact .inl (by simp)
          · have hp := (h.reach k q hk).2
            rw [hlift q hp]
            rcases h.done k q hk with h1 | h1 | ⟨h1, h2⟩
            · exact .inl (List.mem_append.2 (.inl h1))
            · exact .inr (.inl h1)
            · refine .inr (.inr ⟨h1, fun t' s' hm => ?_⟩)
              obtain ⟨p', e1, e2⟩ := h2 t' s' hm
              refine ⟨p', hold _ _ e1, ?_⟩
              rw [hlift p' (h.reach _ _ e1).2]
              exact e2
end
end Go.Proofs.YtejkaalhjocmgaaDoor
