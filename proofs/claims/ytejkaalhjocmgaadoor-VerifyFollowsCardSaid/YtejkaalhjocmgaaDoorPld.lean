/-
  The plain law of layer 19: what one instruction does to the checker.
-/
import Derived.Test.YtejkaalhjocmgaaDoorPlc
namespace Go.Proofs.YtejkaalhjocmgaaDoor
theorem come_bad {n : Nat} {C : PC} (h : C.bad = true) (t : Nat) (s : PSt) : (C.come n t s).bad = true := by
  unfold PC.come
  split
  · rfl
  · split
    · split
      · exact h
      · rfl
    · exact h
theorem comes_bad {n : Nat} (s : PSt) : ∀ (l : List Nat) {C : PC}, C.bad = true → (l.foldl (fun C t => C.come n t s) C).bad = true := by
  intro l
  induction l with
  | nil => intro C h; exact h
  | cons t l ih => intro C h; exact ih (come_bad h t s)
theorem begin_bad {n : Nat} {C : PC} (h : C.bad = true) (o b : Int) : (C.begin_ n o b).bad = true := by
  unfold PC.begin_
  split
  · rfl
  · exact come_bad (C := ⟨C.at_, upd C.has o (b + 1), C.work, C.bad⟩) h _ _
theorem come_out {n : Nat} {C : PC} {t : Nat} (h : n ≤ t) (s : PSt) : (C.come n t s).bad = true := by
  unfold PC.come
  rw [if_pos h]
  rfl
section
variable {con : ByteArray → Bool} {m : Im}
theorem tab_has {i : Ins} {free : Bool} {has has' height : Int} : tab con m i false free has height = tab con m i false free has' height := by
  unfold tab
  simp only [Bool.false_and]
theorem tab_lift {i : Ins} {h : Int → Int} {p : PSt} {free : Bool} (ho : p.of = -1 ∨ 0 ≤ p.of) :
    tab con m i (p.of != -1) free (h p.of - 1) p.height = tab con m i (decide (0 ≤ (lift h p).of)) free (lift h p).has (lift h p).height := by
  rcases ho with e | e
  · have e1 : (p.of != -1) = false := by rw [e]; rfl
    have e2 : decide (0 ≤ (lift h p).of) = false := by
      show decide (0 ≤ p.of) = false
      rw [e]; rfl
    rw [e1, e2]
    exact tab_has
  · have e1 : (p.of != -1) = true := by rw [bne_iff_ne]; omega
    have e2 : decide (0 ≤ (lift h p).of) = true := decide_eq_true e
    rw [e1, e2]
    have e3 : (lift h p).has = h p.of - 1 := if_neg (by omega)
    rw [e3]
    rfl
/-- A row of states that come, one after another. -/
theorem comes_ok {p : PSt} : ∀ (l : List Nat) {C : PC} {extra : Nat → Prop}, PInv con m C extra → (∀ t ∈ l, t < m.code.length ∧ Reach con m t (lift C.has p)) → (p.of = -1 ∨ 0 < C.has p.of) → WfS (cnt C.at_ + 1) p.of p.height p.tries →
    (((l.foldl (fun C t => C.come m.code.length t p) C).bad = true ∧ ¬ Good con m) ∨ (PInv con m (l.foldl (fun C t => C.come m.code.length t p) C) extra ∧ Ext C (l.foldl (fun C t => C.come m.code.length t p) C) ∧ ∀ t ∈ l, (l.foldl (fun C t => C.come m.code.length t p) C).at_[t]? = some (some p))) := by
  intro l
  induction l with
  | nil => intro C extra h _ _ _; exact .inr ⟨h, Ext.refl _, fun _ h => absurd h (by simp)⟩
  | cons t l ih =>
    intro C extra h hl hp hw
    have ht := hl t (by simp)
    rcases come_ok h ht.1 ht.2 hp hw with ⟨h1, h2⟩ | ⟨h1, h2, h3⟩
    · exact .inl ⟨comes_bad p l h1, h2⟩
    · have hcnt : cnt C.at_ ≤ cnt (C.come m.code.length t p).at_ := by
        unfold PC.come
        split
        · exact Nat.le_refl _
        · split
          · split
            · exact Nat.le_refl _
            · exact Nat.le_refl _
          · rename_i e _ hx
            dsimp only
            cases e2 : C.at_[t]? with
            | none => exact absurd (h.len ▸ (List.getElem?_eq_none_iff.1 e2)) (by omega)
            | some o =>
              cases o with
              | none => rw [cnt_set _ _ _ e2]; omega
              | some q => exact absurd e2 (hx q)
      have hp2 : p.of = -1 ∨ 0 < (C.come m.code.length t p).has p.of := hp.imp id (fun e => by rw [h2.has _ e]; exact e)
      have hlf : lift (C.come m.code.length t p).has p = lift C.has p := h2.lift hp
      rcases ih h1 (fun x hx => by rw [hlf]; exact hl x (by simp [hx])) hp2 (hw.mono (by omega)) with ⟨g1, g2⟩ | ⟨g1, g2, g3⟩
      · exact .inl ⟨g1, g2⟩
      · refine .inr ⟨g1, h2.trans g2, fun x hx => ?_⟩
        rcases List.mem_cons.1 hx with rfl | hx
        · exact g2.at_ _ _ h3
        · exact g3 x hx
theorem step_bad {n : Nat} {C : PC} (h : C.bad = true) (s : PSt) (f k p : Int) (hd : Bool) (l : List Nat) : (C.step n s f k p hd l).bad = true := by
  unfold PC.step
  split
  · rfl
  · exact comes_bad _ l h
theorem step_out {n : Nat} {C : PC} {s : PSt} {f k p : Int} {hd : Bool} {l : List Nat} (h : hd = false ∨ s.height - k < f) : (C.step n s f k p hd l).bad = true := by
  unfold PC.step
  rw [if_pos]
  · rfl
  · rcases h with h | h
    · rw [h]; rfl
    · rw [decide_eq_true h, Bool.or_true]
theorem comes_out {n : Nat} (s : PSt) : ∀ (l : List Nat) (C : PC) {t : Nat}, t ∈ l → n ≤ t → (l.foldl (fun C t => C.come n t s) C).bad = true := by
  intro l
  induction l with
  | nil => intro C t h; exact absurd h (by simp)
  | cons x l ih =>
    intro C t h ht
    rcases List.mem_cons.1 h with rfl | h
    · exact comes_bad s l (come_out ht s)
    · exact ih _ h ht
theorem step_far {n : Nat} {C : PC} {s : PSt} {f k p : Int} {hd : Bool} {l : List Nat} {t : Nat} (h : t ∈ l) (ht : n ≤ t) : (C.step n s f k p hd l).bad = true := by
  unfold PC.step
  split
  · rfl
  · exact comes_out _ l C h ht
theorem step_in {n : Nat} {C : PC} {s : PSt} {f k p : Int} {l : List Nat} (h : ¬ s.height - k < f) : C.step n s f k p true l = l.foldl (fun C t => C.come n t ⟨s.of, s.height - k + p, s.tries⟩) C := by
  unfold PC.step
  rw [if_neg]
  simp [h]

theorem cnt_ext {C C' : PC} (h : Ext C C') (hl : C.at_.length = C'.at_.length) : cnt C.at_ ≤ cnt C'.at_ := by
  have key : ∀ (a b : List (Option PSt)), a.length = b.length → (∀ (k : Nat) (p : PSt), a[k]? = some (some p) → b[k]? = some (some p)) → cnt a ≤ cnt b := by
    intro a
    induction a with
    | nil => intro b _ _; exact Nat.zero_le _
    | cons x a ih =>
      intro b hl hb
      cases b with
      | nil => cases hl
      | cons y b =>
        have h1 := ih b (by simpa using hl) (fun k p e => by have := hb (k + 1) p (by simpa using e); simpa using this)
        simp only [cnt, List.countP_cons] at h1 ⊢
        cases x with
        | none => simp; omega
        | some p =>
          have := hb 0 p rfl
          injection this with this
          subst this
          simp
          exact h1
  exact key _ _ hl h.at_
/-- One instruction is done. -/
theorem act_ok (hc : CodeOk m) {C : PC} {k : Nat} {p : PSt} (h : PInv con m C (· = k)) (hk : C.at_[k]? = some (some p)) :
    ((C.act con m k p).bad = true ∧ ¬ Good con m) ∨ PInv con m (C.act con m k p) (fun _ => False) := by
  obtain ⟨hr, hp⟩ := h.reach k p hk
  have hw := h.wf k p hk
  have hkl : k < m.code.length := by have := lt_of_some hk; have := h.len; omega
  have hok := insAt_ok hc hkl
  have hT := tab_bd (con := con) (m := m) hok.1 hok.2.1 hok.2.2.1 hok.2.2.2.2.1 (decide (0 ≤ (lift C.has p).of)) (lift C.has p).tries.isEmpty (lift C.has p).has (lift C.has p).height
  have htl := tab_lift (con := con) (m := m) (i := insAt m k) (h := C.has) (p := p) (free := p.tries.isEmpty) hw.of_
  have hfl := floor_drop hw.srt
  -- what is left to show where all came
  have hfin : ∀ {C' : PC}, PInv con m C' (· = k) → Ext C C' → nextOk con m k (lift C.has p) = true → (∀ t s', (t, s') ∈ nextL con m k (lift C.has p) → ∃ p', C'.at_[t]? = some (some p') ∧ lift C'.has p' = s') → PInv con m C' (fun _ => False) := by
    intro C' h' he ho ha
    refine ⟨h'.good, h'.len, h'.pos, h'.reach, h'.wf, h'.hasA, h'.has0, h'.wk, fun x q hx => ?_⟩
    rcases h'.done x q hx with h1 | h1 | h1
    · exact .inl h1
    · refine .inr (.inr ?_)
      subst h1
      have := he.at_ _ _ hk
      rw [hx] at this
      injection this with this
      injection this with this
      subst this
      rw [he.lift hp]
      exact ⟨ho, ha⟩
    · exact .inr (.inr h1)
  have hno : nextOk con m k (lift C.has p) = false → ¬ Good con m := fun e hg => by
    have := hg.ok k _ hr
    rw [e] at this
    cases this
  have hgw : nextOk con m k (lift C.has p) = true → ∀ t s', (t, s') ∈ nextL con m k (lift C.has p) → t < m.code.length ∧ WfS (cnt C.at_ + 1) s'.of s'.height s'.tries := fun e => next_wf hc hkl (s := lift C.has p) hw e
  have hre : nextOk con m k (lift C.has p) = true → ∀ t s', (t, s') ∈ nextL con m k (lift C.has p) → Reach con m t s' := fun e t s' hm => reach_next hr e hm
  unfold PC.act
  dsimp only
  by_cases h14 : (insAt m k).op = 14
  · rw [if_pos h14]
    obtain ⟨_, _, _, q14, _, _, q14b, _⟩ := hT
    have hL : nextL con m k (lift C.has p) = [(k + 1, ⟨p.of, (lift C.has p).has, p.height, p.tries.dropLast⟩)] := by
      unfold nextL
      dsimp only
      rw [if_neg (by omega), if_neg (by omega), (q14b h14).1, (q14b h14).2.1, (q14 h14).1, (q14 h14).2]
      simp [triesOf, h14, lift]
    have hO : nextOk con m k (lift C.has p) = (!p.tries.isEmpty && !decide (m.code.length ≤ k + 1)) := by
      unfold nextOk
      dsimp only
      rw [(q14b h14).1, (q14b h14).2.2, (q14 h14).1]
      have : decide ((lift C.has p).height - 0 < floorT (lift C.has p).tries) = false := decide_eq_false (by have := hw.fl; show ¬ p.height - 0 < floorT p.tries; omega)
      rw [this]
      simp [lift]
    by_cases he : p.tries = []
    · rw [if_pos he]
      refine .inl ⟨rfl, hno ?_⟩
      rw [hO, he]
      rfl
    · rw [if_neg he]
      have hie : p.tries.isEmpty = false := by simp [he]
      rw [step_in (by have := hw.lo; show ¬ p.height - 0 < 0; omega)]
      by_cases hb : m.code.length ≤ k + 1
      · refine .inl ⟨comes_out _ _ _ (by simp) hb, hno ?_⟩
        rw [hO, decide_eq_true hb]
        simp
      · have hO1 : nextOk con m k (lift C.has p) = true := by rw [hO, hie, decide_eq_false hb]; rfl
        have e0 : p.height - 0 + 0 = p.height := by omega
        dsimp only
        rw [e0]
        have hmem : (k + 1, (⟨p.of, (lift C.has p).has, p.height, p.tries.dropLast⟩ : RSt)) ∈ nextL con m k (lift C.has p) := by rw [hL]; simp
        have hlq : lift C.has ⟨p.of, p.height, p.tries.dropLast⟩ = ⟨p.of, (lift C.has p).has, p.height, p.tries.dropLast⟩ := rfl
        rcases comes_ok (p := ⟨p.of, p.height, p.tries.dropLast⟩) [k + 1] h (fun t ht => by
          rw [List.mem_singleton] at ht
          subst ht
          rw [hlq]
          exact ⟨(hgw hO1 _ _ hmem).1, hre hO1 _ _ hmem⟩) hp (hgw hO1 _ _ hmem).2 with g | ⟨g1, g2, g3⟩
        · exact .inl g
        · refine .inr (hfin g1 g2 hO1 (fun t s' hm => ?_))
          rw [hL, List.mem_singleton] at hm
          injection hm with e1 e2
          subst e1 e2
          exact ⟨_, g3 _ (by simp), by rw [g2.lift (p := ⟨p.of, p.height, p.tries.dropLast⟩) hp]; rfl⟩
  · rw [if_neg h14]
    by_cases h17 : (insAt m k).op = 17
    · rw [if_pos h17]
      obtain ⟨_, _, _, _, q17, _, _, _⟩ := hT
      obtain ⟨r1, r2, r3, r4, r5⟩ := q17 h17
      have hL : nextL con m k (lift C.has p) = [((insAt m k).a.toNat, ⟨p.of, (lift C.has p).has, p.height + 1, p.tries⟩), (k + 1, ⟨p.of, (lift C.has p).has, p.height, p.tries ++ [p.height]⟩)] := by
        unfold nextL
        dsimp only
        rw [if_pos h17, if_neg (by omega), r1, r2, r4, r5]
        simp [triesOf, h17, lift]
      have hO : nextOk con m k (lift C.has p) = !decide (m.code.length ≤ k + 1) := by
        unfold nextOk
        dsimp only
        rw [r1, r3, r4]
        have : decide ((lift C.has p).height - 0 < floorT (lift C.has p).tries) = false := decide_eq_false (by have := hw.fl; show ¬ p.height - 0 < floorT p.tries; omega)
        rw [this]
        simp
      rw [step_in (by have := hw.fl; omega)]
      by_cases hb : m.code.length ≤ k + 1
      · refine .inl ⟨come_out hb _, hno ?_⟩
        rw [hO, decide_eq_true hb]
        rfl
      · have hO1 : nextOk con m k (lift C.has p) = true := by rw [hO, decide_eq_false hb]; rfl
        have e0 : p.height - 0 + 1 = p.height + 1 := by omega
        rw [e0]
        have hm1 : ((insAt m k).a.toNat, (⟨p.of, (lift C.has p).has, p.height + 1, p.tries⟩ : RSt)) ∈ nextL con m k (lift C.has p) := by rw [hL]; simp
        have hm2 : (k + 1, (⟨p.of, (lift C.has p).has, p.height, p.tries ++ [p.height]⟩ : RSt)) ∈ nextL con m k (lift C.has p) := by rw [hL]; simp
        rcases comes_ok (p := ⟨p.of, p.height + 1, p.tries⟩) [(insAt m k).a.toNat] h (fun t ht => by
          rw [List.mem_singleton] at ht
          subst ht
          exact ⟨(hgw hO1 _ _ hm1).1, hre hO1 _ _ hm1⟩) hp (hgw hO1 _ _ hm1).2 with ⟨g1, g2⟩ | ⟨g1, g2, g3⟩
        · exact .inl ⟨come_bad g1 _ _, g2⟩
        · have hp2 : p.of = -1 ∨ 0 < (([(insAt m k).a.toNat].foldl (fun C t => C.come m.code.length t ⟨p.of, p.height + 1, p.tries⟩) C).has p.of) := hp.imp id (fun e => by rw [g2.has _ e]; exact e)
          have hcn : cnt C.at_ ≤ cnt ([(insAt m k).a.toNat].foldl (fun C t => C.come m.code.length t ⟨p.of, p.height + 1, p.tries⟩) C).at_ := cnt_ext g2 (by rw [h.len, g1.len])
          rcases come_ok (p := ⟨p.of, p.height, p.tries ++ [p.height]⟩) g1 (hgw hO1 _ _ hm2).1 (by rw [g2.lift (p := ⟨p.of, p.height, p.tries ++ [p.height]⟩) hp]; exact hre hO1 _ _ hm2) hp2 ((hgw hO1 _ _ hm2).2.mono (by omega)) with f | ⟨f1, f2, f3⟩
          · exact .inl f
          · refine .inr (hfin f1 (g2.trans f2) hO1 (fun t s' hm => ?_))
            rw [hL] at hm
            rcases List.mem_cons.1 hm with hm | hm
            · injection hm with e1 e2
              subst e1 e2
              exact ⟨_, f2.at_ _ _ (g3 _ (by simp)), by rw [(g2.trans f2).lift (p := ⟨p.of, p.height + 1, p.tries⟩) hp]; rfl⟩
            · rw [List.mem_singleton] at hm
              injection hm with e1 e2
              subst e1 e2
              exact ⟨_, f3, by rw [(g2.trans f2).lift (p := ⟨p.of, p.height, p.tries ++ [p.height]⟩) hp]; rfl⟩
    · rw [if_neg h17]
      by_cases h18 : (insAt m k).op = 18
      · rw [if_pos h18]
        obtain ⟨_, _, _, _, _, q18, _, _⟩ := hT
        obtain ⟨r1, r2, r3, r4, r5⟩ := q18 h18
        have hL : nextL con m k (lift C.has p) = [((insAt m k).a.toNat, ⟨(insAt m k).a, (insAt m k).b, 1, []⟩), (k + 1, ⟨p.of, (lift C.has p).has, p.height - (insAt m k).b + 1, p.tries⟩)] := by
          unfold nextL
          dsimp only
          rw [if_neg (by omega), if_pos h18, r1, r2, r4, r5]
          simp [triesOf, h18, lift]
        have hO : nextOk con m k (lift C.has p) = (!decide (p.height - (insAt m k).b < floorT p.tries) && !decide (m.code.length ≤ k + 1)) := by
          unfold nextOk
          dsimp only
          rw [r1, r3, r4]
          rw [Bool.true_and, Bool.true_and]
          rfl
        by_cases hf : p.height - (insAt m k).b < floorT p.tries
        · refine .inl ⟨begin_bad (step_out (.inr hf)) _ _, hno ?_⟩
          rw [hO, decide_eq_true hf]
          rfl
        · by_cases hb : m.code.length ≤ k + 1
          · refine .inl ⟨begin_bad (step_far (by simp) hb) _ _, hno ?_⟩
            rw [hO, decide_eq_true hb]
            simp
          · rw [step_in hf]
            have hO1 : nextOk con m k (lift C.has p) = true := by rw [hO, decide_eq_false hf, decide_eq_false hb]; rfl
            have hm1 : ((insAt m k).a.toNat, (⟨(insAt m k).a, (insAt m k).b, 1, []⟩ : RSt)) ∈ nextL con m k (lift C.has p) := by rw [hL]; simp
            have hm2 : (k + 1, (⟨p.of, (lift C.has p).has, p.height - (insAt m k).b + 1, p.tries⟩ : RSt)) ∈ nextL con m k (lift C.has p) := by rw [hL]; simp
            rcases comes_ok (p := ⟨p.of, p.height - (insAt m k).b + 1, p.tries⟩) [k + 1] h (fun t ht => by
              rw [List.mem_singleton] at ht
              subst ht
              exact ⟨(hgw hO1 _ _ hm2).1, hre hO1 _ _ hm2⟩) hp (hgw hO1 _ _ hm2).2 with ⟨g1, g2⟩ | ⟨g1, g2, g3⟩
            · exact .inl ⟨begin_bad g1 _ _, g2⟩
            · rcases begin_ok g1 hok.2.2.1 (hgw hO1 _ _ hm1).1 hok.2.2.2.2.1 (hre hO1 _ _ hm1) with f | ⟨f1, f2, f3, f4⟩
              · exact .inl f
              · refine .inr (hfin f1 (g2.trans f2) hO1 (fun t s' hm => ?_))
                rw [hL] at hm
                rcases List.mem_cons.1 hm with hm | hm
                · injection hm with e1 e2
                  subst e1 e2
                  refine ⟨_, f3, ?_⟩
                  unfold lift
                  dsimp only
                  rw [if_neg (by have := hok.2.2.1; omega), f4]
                  congr 1
                  omega
                · rw [List.mem_singleton] at hm
                  injection hm with e1 e2
                  subst e1 e2
                  exact ⟨_, f2.at_ _ _ (g3 _ (by simp)), by rw [(g2.trans f2).lift (p := ⟨p.of, p.height - (insAt m k).b + 1, p.tries⟩) hp]; rfl⟩
      · rw [if_neg h18]
        rw [htl]
        have hL : nextL con m k (lift C.has p) = (let T := tab con m (insAt m k) (decide (0 ≤ (lift C.has p).of)) p.tries.isEmpty (lift C.has p).has (lift C.has p).height; (if T.behind then [(k + 1, (⟨p.of, (lift C.has p).has, p.height - T.takes + T.puts, p.tries⟩ : RSt))] else []) ++ (if T.there then [((insAt m k).a.toNat, (⟨p.of, (lift C.has p).has, p.height - T.takes + T.puts, p.tries⟩ : RSt))] else [])) := by
          unfold nextL
          dsimp only
          rw [if_neg h17, if_neg h18]
          simp only [List.nil_append, triesOf, if_neg h14, if_neg h17]
          rfl
        have hO : nextOk con m k (lift C.has p) = (let T := tab con m (insAt m k) (decide (0 ≤ (lift C.has p).of)) p.tries.isEmpty (lift C.has p).has (lift C.has p).height; T.holds && !decide (p.height - T.takes < floorT p.tries) && !(T.behind && decide (m.code.length ≤ k + 1))) := rfl
        dsimp only at hL hO
        generalize tab con m (insAt m k) (decide (0 ≤ (lift C.has p).of)) p.tries.isEmpty (lift C.has p).has (lift C.has p).height = T at *
        obtain ⟨tk, pt, hd, bh, th⟩ := T
        dsimp only at hL hO ⊢
        cases hd with
        | false => exact .inl ⟨step_out (.inl rfl), hno (by rw [hO]; rfl)⟩
        | true =>
          by_cases hf : p.height - tk < floorT p.tries
          · exact .inl ⟨step_out (.inr hf), hno (by rw [hO, decide_eq_true hf]; rfl)⟩
          · by_cases hb : bh = true ∧ m.code.length ≤ k + 1
            · refine .inl ⟨step_far (t := k + 1) (by rw [hb.1]; simp) hb.2, hno ?_⟩
              rw [hO, hb.1, decide_eq_true hb.2]
              simp
            · have hO1 : nextOk con m k (lift C.has p) = true := by
                rw [hO, decide_eq_false hf]
                cases bh with
                | false => rfl
                | true => rw [decide_eq_false (fun e => hb ⟨rfl, e⟩)]; rfl
              rw [step_in hf]
              have hall : ∀ t ∈ (if th = true then [(insAt m k).a.toNat] else []) ++ (if bh = true then [k + 1] else []), (t, (⟨p.of, (lift C.has p).has, p.height - tk + pt, p.tries⟩ : RSt)) ∈ nextL con m k (lift C.has p) := by
                intro t ht
                rw [hL]
                rcases List.mem_append.1 ht with ht | ht
                · split at ht
                  · rename_i e
                    rw [List.mem_singleton] at ht
                    subst ht
                    rw [if_pos e]
                    simp
                  · exact absurd ht (by simp)
                · split at ht
                  · rename_i e
                    rw [List.mem_singleton] at ht
                    subst ht
                    rw [if_pos e]
                    simp
                  · exact absurd ht (by simp)
              by_cases hemp : (if th = true then [(insAt m k).a.toNat] else []) ++ (if bh = true then [k + 1] else []) = []
              · rw [hemp]
                refine .inr (hfin h (Ext.refl _) hO1 (fun t s' hm => ?_))
                exfalso
                rw [hL] at hm
                cases th <;> cases bh <;> simp at hemp hm
              · obtain ⟨t0, ht0⟩ := List.exists_mem_of_ne_nil _ hemp
                rcases comes_ok (p := ⟨p.of, p.height - tk + pt, p.tries⟩) _ h (fun t ht => ⟨(hgw hO1 _ _ (hall t ht)).1, hre hO1 _ _ (hall t ht)⟩) hp (hgw hO1 _ _ (hall t0 ht0)).2 with g | ⟨g1, g2, g3⟩
                · exact .inl g
                · refine .inr (hfin g1 g2 hO1 (fun t s' hm => ?_))
                  have hs : s' = (⟨p.of, (lift C.has p).has, p.height - tk + pt, p.tries⟩ : RSt) ∧ t ∈ (if th = true then [(insAt m k).a.toNat] else []) ++ (if bh = true then [k + 1] else []) := by
                    rw [hL] at hm
                    cases th <;> cases bh <;> simp at hm ⊢
                    · exact ⟨hm.2, hm.1⟩
                    · exact ⟨hm.2, hm.1⟩
                    · rcases hm with ⟨e1, e2⟩ | ⟨e1, e2⟩
                      · exact ⟨e2, .inr e1⟩
                      · exact ⟨e2, .inl e1⟩
                  obtain ⟨rfl, ht⟩ := hs
                  exact ⟨_, g3 t ht, by rw [g2.lift (p := ⟨p.of, p.height - tk + pt, p.tries⟩) hp]; rfl⟩
/-- At the end. -/
theorem PInv.end_ {C : PC} (h : PInv con m C (fun _ => False)) (hw : C.work = []) : Good con m ∧ ∀ k s, Reach con m k s ↔ ∃ p, C.at_[k]? = some (some p) ∧ lift C.has p = s := by
  have hcl : ∀ k s, Reach con m k s → ∃ p, C.at_[k]? = some (some p) ∧ lift C.has p = s ∧ nextOk con m k s = true := by
    intro k s hr
    have hd : ∀ k p, C.at_[k]? = some (some p) → nextOk con m k (lift C.has p) = true ∧ ∀ t s', (t, s') ∈ nextL con m k (lift C.has p) → ∃ p', C.at_[t]? = some (some p') ∧ lift C.has p' = s' := by
      intro k p hk
      rcases h.done k p hk with e | e | e
      · rw [hw] at e; exact absurd e (by simp)
      · exact e.elim
      · exact e
    induction hr with
    | base => exact ⟨_, h.pos, rfl, (hd _ _ h.pos).1⟩
    | step _ hn hm ih =>
      obtain ⟨p, e1, e2, e3⟩ := ih
      rw [nextR, if_pos e3] at hn
      injection hn with hn
      subst hn
      rw [← e2] at hm
      obtain ⟨p', f1, f2⟩ := (hd _ _ e1).2 _ _ hm
      exact ⟨p', f1, f2, by rw [← f2]; exact (hd _ _ f1).1⟩
  refine ⟨⟨?_, fun k s hr => ?_, fun k s hr => ?_, fun k s s' h1 h2 => ?_⟩, fun k s => ⟨fun hr => ?_, fun ⟨p, e1, e2⟩ => ?_⟩⟩
  · have := lt_of_some h.pos; have := h.len; omega
  · obtain ⟨p, e1, _, _⟩ := hcl k s hr
    have := lt_of_some e1; have := h.len; omega
  · exact (hcl k s hr).choose_spec.2.2
  · obtain ⟨p, e1, e2, _⟩ := hcl k s h1
    obtain ⟨q, f1, f2, _⟩ := hcl k s' h2
    rw [e1] at f1
    injection f1 with f1
    injection f1 with f1
    rw [← e2, ← f2, f1]
  · obtain ⟨p, e1, e2, _⟩ := hcl k s hr
    exact ⟨p, e1, e2⟩
  · rw [← e2]; exact (h.reach k p e1).1
end
end Go.Proofs.YtejkaalhjocmgaaDoor
