/-
  Layer 17: text.Rename: plain facts; a map of strings to strings with one key at most; the first byte that is no blank.
-/
import Derived.Test.YtgonllogaiiicaaDoorWn
import Derived.Maps.StringElems
namespace Go.Proofs.YtgonllogaiiicaaDoor
open Go.RowKit
set_option maxHeartbeats 4000000
set_option maxRecDepth 100000
/-- Where a line's label stands. -/
theorem ren_split (s : Bs) (hk : 2 ≤ (readL s).kind) (hl : (readL s).label ≠ []) :
    ((readL s).kind = 2 ∧ ∃ u v, s = u ++ ((readL s).label ++ v) ∧ (readL s).at_ = u.length ∧ (∀ c ∈ u, c = 32) ∧ Clean (readL s).label) ∨
    ((readL s).kind = 3 ∧ ∃ u w u2 v r, s = u ++ (w ++ (u2 ++ ((readL s).label ++ v))) ∧ (readL s).at_ = u.length + w.length + u2.length ∧ (∀ c ∈ u, c = 32) ∧ (∀ c ∈ u2, c = 32) ∧ w ≠ [] ∧ Clean w ∧ Clean (readL s).label ∧ wordsL s = (w, u.length) :: r) := by
  cases hw : wordsL s with
  | nil => rw [readL, hw, readW] at hk; exact absurd hk (by decide)
  | cons x ws =>
    obtain ⟨w, p⟩ := x
    obtain ⟨u, v, e, hu, hp, w1, w2, hv, hws⟩ := wordsG_first s 0 0 w p ws hw
    have hr : readL s = readW ((w, p) :: ws) := by rw [readL, hw]
    have hkd := readL_kind s
    rw [hr] at hk hl hkd ⊢
    rw [readW] at hk hl hkd ⊢
    by_cases h58 : w.getLast? = some 58
    · rw [if_pos h58] at hk hl hkd ⊢
      by_cases hc : ws = [] ∧ labelB w.dropLast = true
      · rw [if_pos hc] at hk hl ⊢
        obtain ⟨t, ht⟩ : ∃ t, w = t ++ [58] := List.getLast?_eq_some_iff.1 h58
        subst ht
        simp only [List.dropLast_concat] at hc hl ⊢
        refine .inl ⟨by first | rfl | trivial, u, 58 :: v, by rw [e]; simp, by omega, hu, fun c hc => w2 c (by simp [hc])⟩
      · rw [if_neg hc] at hk; exact absurd hk (by decide)
    · rw [if_neg h58] at hk hl hkd ⊢
      cases ho : findOp w with
      | none => rw [ho] at hk; exact absurd hk (by simp [wrongL])
      | some o =>
        rw [ho] at hk hl hkd
        simp only at hk hl hkd ⊢
        rw [opW.eq_def] at hk hl hkd ⊢
        by_cases hg : goesB o = true
        · rw [if_pos hg] at hk hl hkd ⊢
          cases hws' : ws with
          | nil => rw [hws'] at hk; exact absurd hk (by simp [wrongL])
          | cons y r =>
            obtain ⟨t, q⟩ := y
            rw [hws'] at hk hl hkd
            simp only at hk hl hkd ⊢
            by_cases hb : labelB t = true
            · rw [if_pos hb] at hk hl hkd ⊢
              obtain ⟨u2, v2, e2, hu2, hq, t1, t2, hv2, hr2⟩ := wordsG_first v 0 (p + w.length) t q r (by rw [← hws, hws'])
              obtain ⟨d1, d2, _⟩ := doesW_label hk t q
              have hk3 : (doesW o t q r).kind = 3 := by
                revert hk
                unfold doesW
                split
                · split <;> simp [wrongL]
                · simp [wrongL]
              rw [d1, d2]
              have hpu : p = u.length := by omega
              subst hpu
              exact .inr ⟨hk3, u, w, u2, v2, (t, q) :: r, by rw [e, e2], by omega, hu, hu2, w1, w2, t2, rfl⟩
            · rw [if_neg hb] at hk; exact absurd hk (by decide)
        · rw [if_neg hg] at hk hl ⊢
          exact absurd (doesW_label hk [] 0).1 hl
/-- Block b is a map of strings to strings with the one key a at most. -/
def MapS (w : World) (b n : Nat) (f : Bs → Option Bs) : Prop :=
  ∃ D : DataW Unit, w.ownsMap Tryd.prog 9 (plainElem Tryd.prog 9) b n D ∧ Maps.IsMap D ∧ ∀ x, Maps.has D (skey x) = (f x).isSome ∧ D.atKey (skey x) (.lit (.string [])) = .lit (.string ((f x).getD []))
section
variable {w w' : World} {b n : Nat} {f : Bs → Option Bs}
theorem MapS.lt (h : MapS w b n f) : b < w.heap.size := by
  obtain ⟨D, h, _⟩ := h
  exact h.lt
theorem MapS.chg {S : Nat → Prop} (h : MapS w b n f) (hc : Chg S w w') (hb : ¬ S b) : MapS w' b n f := by
  have hlt := h.lt
  obtain ⟨D, ⟨es, clock, hh, F, hs, hD⟩, h2⟩ := h
  exact ⟨D, ⟨es, clock, (hc.block b hlt hb).trans hh, F, hs, hD⟩, h2⟩
theorem MapS.made (w : World) (b : Nat) (hb : b = w.heap.size) : MapS (w.alloc (.map #[] 0)) b 0 (fun _ => none) := by
  subst hb
  exact ⟨_, World.ownsMap_made w Tryd.prog 9 _, Maps.isMap_empty, fun x => ⟨rfl, rfl⟩⟩
theorem zero9v (w : World) : (zeroValue 9).run Tryd.prog w = .ok (.string ⟨#[]⟩) w := by kernel_rfl
theorem wpList_lookup_s {ops : Array Oper} {rest : List Oper} {o : Oper} {a : Act} {Q : Exit → Act → World → Prop} (hg : o.guard = none) (m x : Operand) (t : TypeId) (hop : o.op = Op.lookup t m x true)
    (ht : Tryd.prog.underlying t = some (.map 9 9))
    (hm : a.eval m = .map (some b)) (h : MapS w b n f) (key : Value) (y : Bs) (hx : a.eval x = key) (hkey : keyOf Tryd.prog 9 key = some (skey y))
    (hK : wpList Tryd.prog ops Q rest (a.put o.dst (.tuple #[.string ⟨((f y).getD []).toArray⟩, .bool (f y).isSome])) w) : wpList Tryd.prog ops Q (o :: rest) a w := by
  obtain ⟨D, h1, _, h3⟩ := h
  refine wpList_lookup_own_ok w hg m x t hop 9 9 keyed9 ht (plainElem Tryd.prog 9) (zero9v w) (.lit (.string [])) [] (plainElem_string (s := ⟨#[]⟩) Tryd.underlying9 (by decide)) b n D hm h1 key (skey y) hx hkey fun v ps hv => ?_
  obtain ⟨c, rfl, hc, _⟩ := plainElem_string_inv Tryd.underlying9 hv
  rw [(h3 y).2] at hc
  injection hc with hc
  injection hc with hc
  injection hc with hc
  have he : Value.string c = .string ⟨((f y).getD []).toArray⟩ := by rw [hc]
  rw [he, (h3 y).1]
  exact hK
theorem wpList_update_s {ops : Array Oper} {rest : List Oper} {o : Oper} {a : Act} {Q : Exit → Act → World → Prop} (hg : o.guard = none) (m x v : Operand) (t : TypeId) (hop : o.op = Op.mapUpdate t m x v)
    (ht : Tryd.prog.underlying t = some (.map 9 9))
    (hm : a.eval m = .map (some b)) (h : MapS w b n f) (hn : n < maxLen) (key : Value) (y : Bs) (c : ByteArray) (hx : a.eval x = key) (hv : a.eval v = .string c) (hcl : c.size ≤ maxLen) (hkey : keyOf Tryd.prog 9 key = some (skey y))
    (hK : ∀ w', MapS w' b (n + 1) (fun z => if z = y then some c.data.toList else f z) → Chg (· = b) w w' → wpList Tryd.prog ops Q rest (a.put o.dst undef) w') : wpList Tryd.prog ops Q (o :: rest) a w := by
  obtain ⟨D, h1, h2, h3⟩ := h
  refine wpList_mapUpdate_own w hg m x v t hop 9 9 keyed9 ht (plainElem Tryd.prog 9) b n D hm h1 hn key (.string c) (skey y) hx hv hkey (.lit (.string c.data.toList)) [] (plainElem_string Tryd.underlying9 hcl) fun w' hw' hgr => ?_
  refine hK w' ⟨_, hw', h2.put _ _, fun z => ?_⟩ ⟨hgr.os, hgr.tape, hgr.output, hgr.size, fun i hi hne => hgr.block i hi (fun e => hne (by injection e))⟩
  by_cases hz : z = y
  · subst hz
    simp only [if_true]
    exact ⟨Maps.has_put_same h2 (skey_lit z) _, Maps.atKey_put_same h2 (skey_lit z) _ _⟩
  · have hne : skey z ≠ skey y := fun e => hz (skey_inj _ _ e)
    simp only [if_neg hz]
    rw [Maps.has_put_other hne, Maps.atKey_put_other hne]
    exact h3 z
end
/-- The first byte that is no blank. -/
theorem idx_blanks (u v : Bs) (c : UInt8) (hu : ∀ d ∈ u, d = 32) (hc : c ≠ 32) : Lib.idxFunc (fun r => r != 32) true ⟨(u ++ c :: v).toArray⟩ = (u.length : Int) := by
  have hsz : (⟨(u ++ c :: v).toArray⟩ : ByteArray).size = u.length + 1 + v.length := by
    show (u ++ c :: v).toArray.size = _
    rw [List.size_toArray, List.length_append, List.length_cons]; omega
  have hget : ∀ k (h : k < (⟨(u ++ c :: v).toArray⟩ : ByteArray).size), some ((⟨(u ++ c :: v).toArray⟩ : ByteArray)[k]'h) = (u ++ c :: v)[k]? := by
    intro k h
    have h2 : k < (u ++ c :: v).length := by have h3 := hsz ▸ h; simp; omega
    rw [List.getElem?_eq_getElem h2]
    rfl
  unfold Lib.idxFunc
  rw [hsz]
  have key : ∀ f pos, pos ≤ u.length → u.length < f + pos → Lib.idxFuncFrom (fun r => r != 32) true ⟨(u ++ c :: v).toArray⟩ f pos = (u.length : Int) := by
    intro f
    induction f with
    | zero => intro pos h1 h2; omega
    | succ f ih =>
      intro pos h1 h2
      have hp : pos < (⟨(u ++ c :: v).toArray⟩ : ByteArray).size := by rw [hsz]; omega
      have hg := hget pos hp
      rw [Lib.idxFuncFrom, if_pos hp]
      rcases Nat.lt_or_ge pos u.length with hlt | hge
      · rw [List.getElem?_append_left hlt, List.getElem?_eq_getElem hlt] at hg
        have hb := hu _ (List.getElem_mem hlt)
        rw [hb] at hg
        injection hg with hg
        have hd := decode_ascii ⟨(u ++ c :: v).toArray⟩ pos hp (by rw [hg]; decide)
        rw [hg] at hd
        rw [hd]
        rw [if_neg (by decide)]
        exact ih (pos + 1) hlt (by omega)
      · have he : pos = u.length := by omega
        subst he
        rw [List.getElem?_append_right (Nat.le_refl _), Nat.sub_self] at hg
        injection hg with hg
        have hne : (Utf8.decode ⟨(u ++ c :: v).toArray⟩ u.length).1 ≠ 32 := by
          rcases Nat.lt_or_ge (((⟨(u ++ c :: v).toArray⟩ : ByteArray)[u.length]'hp).toNat) 128 with ha | ha
          · rw [decode_ascii _ _ hp ha, hg]
            intro e
            exact hc (UInt8.toNat_inj.1 e)
          · have := (decode_high ⟨(u ++ c :: v).toArray⟩ u.length hp ha).1
            omega
        rw [if_pos (by simpa using hne)]
  exact key _ 0 (Nat.zero_le _) (by omega)
/-- No blank? -/
theorem blank_gives (w : World) : PredAtRunes Tryd.prog 46 #[] (fun r => r != 32) w := fun W r _ _ => by
  unfold FnGives
  have hE : (r != 32) = !decide ((r : Int) = 32) := by
    rw [Bool.eq_iff_iff]
    simp
    omega
  show Calls _ _ _ _ (fun e w' => e = Ending.returned (.bool (r != 32)) ∧ _)
  rw [hE]
  cases hb : decide ((r : Int) = 32)
  all_goals
    go_enter Tryd.func46, Tryd.ntmps46
    go_wp2_with fail
    go_ret
    first | exact ⟨rfl, 0, rfl⟩ | (refine ⟨?_, 0, rfl⟩; simp_all)
theorem skip_blanks (u v : Bs) (c : UInt8) (hu : ∀ d ∈ u, d = 32) (hc : c ≠ 32) (w : World) : Calls Tryd.prog 45 #[.string ⟨(u ++ c :: v).toArray⟩, .func (.func 46) #[] #[]] w fun e w' => e = .returned (.int .i64 (u.length : Int)) ∧ Chg (fun _ => False) w w' :=
  (Tryd.strings_IndexFunc_runes 46 #[] (enters_of Tryd.func46 (by kernel_rfl) rfl) _ ⟨(u ++ c :: v).toArray⟩ w (blank_gives w)).mono fun e w' ⟨h1, h2⟩ => by
    rw [idx_blanks u v c hu hc] at h1
    exact ⟨h1, Chg.of_below h2 _⟩
end Go.Proofs.YtgonllogaiiicaaDoor
