/-
  Layer 19: whether things stand the same.
-/
import Derived.Test.YtejkaalhjocmgaaDoorWj
import Derived.Test.YtejkaalhjocmgaaDoorMap
namespace Go.Proofs.YtejkaalhjocmgaaDoor
open Go.RowKit
set_option maxHeartbeats 1000000
set_option maxRecDepth 100000
def intl (n : Int) : Value := .int .i64 n
/-- A slice that reads as numbers. -/
def RdI (T : Nat → Prop) (w : World) (v : Value) (l : List Int) : Prop := ∃ A c, v = .slice A l.length c ∧ Rd T w A (l.map intl)
section
variable {T T' S : Nat → Prop} {w w' : World} {v : Value} {l : List Int}
theorem RdI.chg (h : RdI T w v l) (hc : Chg S w w') (hT : ∀ b, T b → b < w.heap.size → ¬ S b) : RdI T w' v l := by
  obtain ⟨A, c, e, h⟩ := h
  exact ⟨A, c, e, h.chg hc hT⟩
theorem RdI.mono (h : RdI T w v l) (hT : ∀ b, T b → T' b) : RdI T' w v l := by
  obtain ⟨A, c, e, h⟩ := h
  exact ⟨A, c, e, h.mono hT⟩
theorem RdI.nil_ (T : Nat → Prop) (w : World) : RdI T w (.slice none 0 0) [] := ⟨none, 0, rfl, fun h => absurd rfl h⟩
theorem RdI.flat {A : Option Addr} {c : Nat} (h : RdI T w (.slice A l.length c) l) (hn : l ≠ []) : ∃ b o, A = some ⟨b, o, none⟩ ∧ T b ∧ ∀ j, j < l.length → w.cell? ⟨b, o + j, none⟩ = some (.int .i64 (l.getD j 0)) := by
  obtain ⟨A', c', e, h⟩ := h
  injection e with e1 e2 e3
  subst e1
  obtain ⟨b, o, rfl, hT, hc⟩ := h.flat (by intro e; exact hn (List.map_eq_nil_iff.1 e))
  refine ⟨b, o, rfl, hT, fun j hj => hc j _ ?_⟩
  rw [List.getElem?_map, List.getElem?_eq_getElem hj, List.getD_eq_getElem?_getD, List.getElem?_eq_getElem hj]
  rfl
theorem RdI.val (h : RdI T w v l) : ∃ A c, v = .slice A l.length c := by
  obtain ⟨A, c, e, _⟩ := h
  exact ⟨A, c, e⟩
end
theorem beq_lens {l k : List Int} (h : l.length ≠ k.length) : (l == k) = false := by
  rw [beq_eq_false_iff_ne]
  rintro rfl
  exact h rfl
theorem equal_any (v u : Value) (l k : List Int) (T T' : Nat → Prop) (w : World) (hv : RdI T w v l) (hu : RdI T' w u k) (hl : l.length ≤ 1000000) (hk : k.length ≤ 1000000) :
    Calls Tryd.prog 57 #[v, u] w fun e w' => e = .returned (.bool (l == k)) ∧ Chg (fun _ => False) w w' := by
  obtain ⟨A, c, rfl⟩ := hv.val
  obtain ⟨B, d, rfl⟩ := hu.val
  by_cases h : l.length = k.length
  · by_cases h0 : l = []
    · subst h0
      obtain rfl : k = [] := List.length_eq_zero_iff.1 h.symm
      exact (Tryd.slices_Equal_int_empty A B c 0 d w (by omega)).mono (fun e w' hh => ⟨hh.1, by rw [hh.2]; exact Chg.refl _ _⟩)
    · have h1 : k ≠ [] := by
        rintro rfl
        exact h0 (List.length_eq_zero_iff.1 h)
      obtain ⟨b, o, rfl, _, hc⟩ := hv.flat h0
      obtain ⟨b2, o2, rfl, _, hc2⟩ := hu.flat h1
      have := Tryd.slices_Equal_int b o l.length c b2 o2 k.length d l k w (Nat.le_refl _) (Nat.le_refl _) (by omega) (by omega) hc hc2
      rw [List.take_length, List.take_length] at this
      exact this.mono (fun e w' hh => ⟨hh.1, by obtain ⟨q, hq⟩ := hh.2; rw [hq]; exact (Chg.refl _ _).drewN q⟩)
  · rw [beq_lens h]
    exact (Tryd.slices_Equal_int_lens A B l.length c k.length d w h).mono (fun e w' hh => ⟨hh.1, by rw [hh.2]; exact Chg.refl _ _⟩)
theorem same_any (p q : PSt) (tp tq : Value) (x y : Bool) (T T' : Nat → Prop) (w : World) (hp : RdI T w tp p.tries) (hq : RdI T' w tq q.tries) (hl : p.tries.length ≤ 1000000) (hk : q.tries.length ≤ 1000000) :
    Calls Tryd.prog 44 #[.agg #[.int .i64 p.of, .int .i64 p.height, tp, .bool x], .agg #[.int .i64 q.of, .int .i64 q.height, tq, .bool y]] w fun e w' => e = .returned (.bool (p.same q)) ∧ Chg (fun _ => False) w w' := by
  obtain ⟨po, ph, pt⟩ := p
  obtain ⟨qo, qh, qt⟩ := q
  dsimp only at hp hq hl hk ⊢
  have hE : PSt.same ⟨po, ph, pt⟩ ⟨qo, qh, qt⟩ = (po == qo && ph == qh && pt == qt) := rfl
  obtain ⟨A, c, rfl⟩ := hp.val
  obtain ⟨B, d, rfl⟩ := hq.val
  have h0 := ((Chg.refl (fun _ => False) w).alloc (.cells #[.int .i64 po, .int .i64 ph, .slice A pt.length c, .bool x] 49)).alloc (.cells #[.int .i64 qo, .int .i64 qh, .slice B qt.length d, .bool y] 49)
  have HQ := hide (equal_any _ _ pt qt T T' _ (hp.chg h0 (fun _ _ _ => id)) (hq.chg h0 (fun _ _ _ => id)) hl hk)
  have H0 := hide h0
  generalize PSt.same ⟨po, ph, pt⟩ ⟨qo, qh, qt⟩ = E at *
  clear hp hq h0
  cases h1 : (po == qo) <;> cases h2 : (ph == qh)
  all_goals
    rw [h1, h2] at hE
    have HE := hide hE
    clear hE
    go_enter Tryd.func44, Tryd.ntmps44
    go_wp2_with (go_at_call 57; refine (unhide HQ).mono ?_; rintro e w2 ⟨rfl, hc2⟩; have HC2 := hide hc2; clear hc2)
    go_ret
    first
    | exact ⟨retv (boolv (by rw [unhide HE]; rfl)), (unhide H0).trans' (unhide HC2)⟩
    | exact ⟨retv (boolv (by rw [unhide HE]; rfl)), unhide H0⟩
end Go.Proofs.YtejkaalhjocmgaaDoor
