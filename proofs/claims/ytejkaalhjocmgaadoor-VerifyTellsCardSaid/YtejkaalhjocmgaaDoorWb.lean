/-
  Layer 19: what built-in things take; whether an instruction may be; numbers of the language; whether a thing may be.
-/
import Derived.Test.YtejkaalhjocmgaaDoorWa
namespace Go.Proofs.YtejkaalhjocmgaaDoor
open Go.RowKit
set_option maxHeartbeats 1000000
set_option maxRecDepth 100000
theorem numI_one {o : Int} (h : o = 1 ∨ o = 2 ∨ o = 3 ∨ o = 5 ∨ o = 6 ∨ o = 11 ∨ o = 12 ∨ o = 18 ∨ o = 19 ∨ o = 20) : numI o = 1 := by
  rcases h with rfl | rfl | rfl | rfl | rfl | rfl | rfl | rfl | rfl | rfl <;> rfl
theorem numI_zero {o : Int} (h : ¬ (o = 1 ∨ o = 2 ∨ o = 3 ∨ o = 5 ∨ o = 6 ∨ o = 11 ∨ o = 12 ∨ o = 18 ∨ o = 19 ∨ o = 20)) (h2 : o ≠ 10) : numI o = 0 := by
  unfold numI
  split
  · rename_i h3
    have : o = 0 ∨ o = 4 ∨ o = 7 ∨ o = 8 ∨ o = 9 ∨ o = 13 ∨ o = 14 ∨ o = 15 ∨ o = 16 ∨ o = 17 := by omega
    rcases this with rfl | rfl | rfl | rfl | rfl | rfl | rfl | rfl | rfl | rfl <;> rfl
  · rfl
theorem refNumbers_any (o : Int) (w : World) : Calls Tryd.prog 52 #[.int .i64 o] w fun e w' => e = .returned (.int .i64 (numI o)) ∧ w = w' := by
  by_cases h10 : o = 10
  · subst h10
    have HE := hide (show numI 10 = 2 from rfl)
    go_enter Tryd.func52, Tryd.ntmps52
    go_wp2_with fail
    go_ret
    exact ⟨retv (intv (unhide HE).symm), rfl⟩
  by_cases h1 : o = 1 ∨ o = 2 ∨ o = 3 ∨ o = 5 ∨ o = 6 ∨ o = 11 ∨ o = 12 ∨ o = 18 ∨ o = 19 ∨ o = 20
  · have HE := hide (numI_one h1)
    clear h10
    rcases h1 with rfl | rfl | rfl | rfl | rfl | rfl | rfl | rfl | rfl | rfl
    all_goals
      go_enter Tryd.func52, Tryd.ntmps52
      go_wp2_with fail
      go_ret
      exact ⟨retv (intv (unhide HE).symm), rfl⟩
  · have HE := hide (numI_zero h1 h10)
    have e1 : (o == 1) = false := by rw [beq_eq_false_iff_ne]; omega
    have e2 : (o == 2) = false := by rw [beq_eq_false_iff_ne]; omega
    have e3 : (o == 3) = false := by rw [beq_eq_false_iff_ne]; omega
    have e5 : (o == 5) = false := by rw [beq_eq_false_iff_ne]; omega
    have e6 : (o == 6) = false := by rw [beq_eq_false_iff_ne]; omega
    have e11 : (o == 11) = false := by rw [beq_eq_false_iff_ne]; omega
    have e12 : (o == 12) = false := by rw [beq_eq_false_iff_ne]; omega
    have e18 : (o == 18) = false := by rw [beq_eq_false_iff_ne]; omega
    have e19 : (o == 19) = false := by rw [beq_eq_false_iff_ne]; omega
    have e20 : (o == 20) = false := by rw [beq_eq_false_iff_ne]; omega
    have e10 : (o == 10) = false := by rw [beq_eq_false_iff_ne]; omega
    clear h1 h10
    go_enter Tryd.func52, Tryd.ntmps52
    go_wp2_with fail
    go_ret
    exact ⟨retv (intv (unhide HE).symm), rfl⟩
theorem takes_any (p : Int) (w : World) : Calls Tryd.prog 15 #[.int .i64 p] w fun e w' => e = .returned (.int .i64 (takesI p)) ∧ Chg (fun _ => False) w w' := by
  by_cases h : p < 0
  · have HE := hide (show takesI p = 0 from if_pos (.inl h))
    go_enter Tryd.func15, Tryd.ntmps15
    go_wp2_with fail
    go_ret
    exact ⟨retv (intv (unhide HE).symm), (Chg.refl _ _).alloc _⟩
  by_cases h2 : 13 < p
  · have HE := hide (show takesI p = 0 from if_pos (.inr h2))
    have h3 : (14 : Int) ≤ p := by omega
    have h4 : 0 ≤ p := by omega
    clear h h2
    go_enter Tryd.func15, Tryd.ntmps15
    go_wp2_with fail
    go_ret
    exact ⟨retv (intv (unhide HE).symm), (Chg.refl _ _).alloc _⟩
  · have hc : p = 0 ∨ p = 1 ∨ p = 2 ∨ p = 3 ∨ p = 4 ∨ p = 5 ∨ p = 6 ∨ p = 7 ∨ p = 8 ∨ p = 9 ∨ p = 10 ∨ p = 11 ∨ p = 12 ∨ p = 13 := by omega
    clear h h2
    rcases hc with rfl | rfl | rfl | rfl | rfl | rfl | rfl | rfl | rfl | rfl | rfl | rfl | rfl | rfl
    all_goals
      go_enter Tryd.func15, Tryd.ntmps15
      go_wp2_with fail
      go_ret
      exact ⟨rfl, (Chg.refl _ _).alloc _⟩
theorem refTakes_any (p : Int) (w : World) : Calls Tryd.prog 16 #[.int .i64 p] w fun e w' => e = .returned (.int .i64 (takesI p)) ∧ w = w' := by
  by_cases h : p < 0
  · have HE := hide (show takesI p = 0 from if_pos (.inl h))
    go_enter Tryd.func16, Tryd.ntmps16
    go_wp2_with fail
    go_ret
    exact ⟨retv (intv (unhide HE).symm), rfl⟩
  by_cases h2 : 13 < p
  · have HE := hide (show takesI p = 0 from if_pos (.inr h2))
    have h4 : 0 ≤ p := by omega
    clear h
    go_enter Tryd.func16, Tryd.ntmps16
    go_wp2_with fail
    go_ret
    exact ⟨retv (intv (unhide HE).symm), rfl⟩
  · have hc : p = 0 ∨ p = 1 ∨ p = 2 ∨ p = 3 ∨ p = 4 ∨ p = 5 ∨ p = 6 ∨ p = 7 ∨ p = 8 ∨ p = 9 ∨ p = 10 ∨ p = 11 ∨ p = 12 ∨ p = 13 := by omega
    clear h h2
    rcases hc with rfl | rfl | rfl | rfl | rfl | rfl | rfl | rfl | rfl | rfl | rfl | rfl | rfl | rfl
    all_goals
      go_enter Tryd.func16, Tryd.ntmps16
      go_wp2_with fail
      go_ret
      exact ⟨rfl, rfl⟩
/-- May an instruction be? -/
def insOkB (i : Ins) : Bool := knownB i.op && withinB i.a && withinB i.b && (if goesB i.op then (numI i.op == 1 || i.b == 0) else ((decide (0 < numI i.op) || i.a == 0) && (numI i.op == 2 || i.b == 0)))
def insE (i : Ins) : Int := if insOkB i then 0 else 150
theorem numI_cases (o : Int) : numI o = 0 ∨ numI o = 1 ∨ numI o = 2 := by
  by_cases h10 : o = 10
  · subst h10; exact .inr (.inr rfl)
  by_cases h1 : o = 1 ∨ o = 2 ∨ o = 3 ∨ o = 5 ∨ o = 6 ∨ o = 11 ∨ o = 12 ∨ o = 18 ∨ o = 19 ∨ o = 20
  · exact .inr (.inl (numI_one h1))
  · exact .inl (numI_zero h1 h10)
theorem goes_num {o : Int} (h : goesB o = true) : numI o ≠ 2 := by
  unfold goesB at h
  have h2 := of_decide_eq_true h
  have : o = 15 ∨ o = 16 ∨ o = 17 ∨ o = 18 ∨ o = 19 ∨ o = 20 := by omega
  rcases this with rfl | rfl | rfl | rfl | rfl | rfl <;> decide
theorem opCheck_any (i : Ins) (w : World) (hl : Lay w) : Calls Tryd.prog 41 #[.agg #[.int .i64 i.op, .int .i64 i.a, .int .i64 i.b]] w fun e w' => e = .returned (.int .i64 (insE i)) ∧ Chg (fun _ => False) w w' := by
  obtain ⟨o, a, b⟩ := i
  have hn := numI_cases o
  have hgn := @goes_num o
  have HN := hide (fun W (h : Lay W) => numbers_any o W h)
  have HG := hide (goes_any o)
  have HK := hide (known_any o)
  have HA := hide (within_any a)
  have HB := hide (within_any b)
  obtain ⟨E, hE⟩ : ∃ E, E = insE ⟨o, a, b⟩ := ⟨_, rfl⟩
  have hE2 : E = if (knownB o && withinB a && withinB b && (if goesB o then (numI o == 1 || b == 0) else ((decide (0 < numI o) || a == 0) && (numI o == 2 || b == 0)))) then 0 else 150 := hE
  have hl2 := hl.chg ((Chg.refl (fun _ => False) w).alloc (.cells #[.int .i64 o, .int .i64 a, .int .i64 b] 42)) (fun _ _ => id)
  have HL := hide hl2
  rw [← hE]
  clear hE hl hl2
  generalize knownB o = kb at *
  generalize withinB a = wa at *
  generalize withinB b = wb at *
  generalize goesB o = gb at *
  generalize numI o = n at *
  have hcA : (a == 0) = true ∧ (a != 0) = false ∨ (a == 0) = false ∧ (a != 0) = true := by
    by_cases h : a = 0
    · exact .inl ⟨by simp [h], by simp [h]⟩
    · exact .inr ⟨by simp [h], by simp [h]⟩
  have hcB : (b == 0) = true ∧ (b != 0) = false ∨ (b == 0) = false ∧ (b != 0) = true := by
    by_cases h : b = 0
    · exact .inl ⟨by simp [h], by simp [h]⟩
    · exact .inr ⟨by simp [h], by simp [h]⟩
  have fin : ∀ W, Chg (fun _ => False) W ((W.alloc (.cells #[.int .i64 o, .int .i64 a, .int .i64 b] 42))) := fun W => (Chg.refl _ _).alloc _
  have FIN := hide fin
  clear fin
  cases kb
  case false =>
    obtain rfl : E = 150 := by rw [hE2]; rfl
    clear hE2 hcA hcB hgn
    rcases hn with rfl | rfl | rfl <;> cases gb
    all_goals
      go_enter Tryd.func41, Tryd.ntmps41
      go_wp2_with (first
        | (go_at_call 54; refine (unhide HN _ (unhide HL)).mono ?_; rintro e w' ⟨rfl, rfl⟩)
        | (go_at_call 43; refine (unhide HG _).mono ?_; rintro e w' ⟨rfl, rfl⟩)
        | (go_at_call 55; refine (unhide HK _).mono ?_; rintro e w' ⟨rfl, rfl⟩))
      go_ret
      exact ⟨rfl, unhide FIN _⟩
  case true =>
    cases wa
    case false =>
      obtain rfl : E = 150 := by rw [hE2]; rfl
      clear hE2 hcA hcB hgn
      rcases hn with rfl | rfl | rfl <;> cases gb
      all_goals
        go_enter Tryd.func41, Tryd.ntmps41
        go_wp2_with (first
          | (go_at_call 54; refine (unhide HN _ (unhide HL)).mono ?_; rintro e w' ⟨rfl, rfl⟩)
          | (go_at_call 43; refine (unhide HG _).mono ?_; rintro e w' ⟨rfl, rfl⟩)
          | (go_at_call 55; refine (unhide HK _).mono ?_; rintro e w' ⟨rfl, rfl⟩)
          | (go_at_call 56; refine (unhide HA _).mono ?_; rintro e w' ⟨rfl, rfl⟩))
        go_ret
        exact ⟨rfl, unhide FIN _⟩
    case true =>
      cases wb
      case false =>
        obtain rfl : E = 150 := by rw [hE2]; rfl
        clear hE2 hcA hcB hgn
        rcases hn with rfl | rfl | rfl <;> cases gb
        all_goals
          go_enter Tryd.func41, Tryd.ntmps41
          go_wp2_with (first
            | (go_at_call 54; refine (unhide HN _ (unhide HL)).mono ?_; rintro e w' ⟨rfl, rfl⟩)
            | (go_at_call 43; refine (unhide HG _).mono ?_; rintro e w' ⟨rfl, rfl⟩)
            | (go_at_call 55; refine (unhide HK _).mono ?_; rintro e w' ⟨rfl, rfl⟩)
            | (go_at_call 56; with_reducible refine (unhide HA _).mono ?_; rintro e w' ⟨rfl, rfl⟩)
            | (go_at_call 56; with_reducible refine (unhide HB _).mono ?_; rintro e w' ⟨rfl, rfl⟩))
          go_ret
          exact ⟨rfl, unhide FIN _⟩
      case true =>
        rcases hn with rfl | rfl | rfl <;> cases gb <;> rcases hcA with ⟨a1, a2⟩ | ⟨a1, a2⟩ <;> rcases hcB with ⟨b1, b2⟩ | ⟨b1, b2⟩
        all_goals
          try exact absurd rfl (hgn rfl)
        all_goals
          rw [a1, b1] at hE2
          have hE3 := hide hE2
          clear hE2 hgn a1 b1
          go_enter Tryd.func41, Tryd.ntmps41
          go_wp2_with (first
            | (go_at_call 54; refine (unhide HN _ (unhide HL)).mono ?_; rintro e w' ⟨rfl, rfl⟩)
            | (go_at_call 43; refine (unhide HG _).mono ?_; rintro e w' ⟨rfl, rfl⟩)
            | (go_at_call 55; refine (unhide HK _).mono ?_; rintro e w' ⟨rfl, rfl⟩)
            | (go_at_call 56; with_reducible refine (unhide HA _).mono ?_; rintro e w' ⟨rfl, rfl⟩)
            | (go_at_call 56; with_reducible refine (unhide HB _).mono ?_; rintro e w' ⟨rfl, rfl⟩))
          go_ret
          exact ⟨retv (intv (by rw [unhide hE3]; rfl)), unhide FIN _⟩
end Go.Proofs.YtejkaalhjocmgaaDoor
