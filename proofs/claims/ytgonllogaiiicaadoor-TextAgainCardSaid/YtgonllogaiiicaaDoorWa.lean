/-
  Layer 17: the program's own tables; the small functions on instructions.
-/
import Derived.Test.YtgonllogaiiicaaDoorLib
import Derived.Test.YtgonllogaiiicaaDoorM01
import Derived.Test.YtgonllogaiiicaaDoorShelf
import Derived.Deep.QuietTactic
import Derived.BigQuiet
import Derived.WalkLawsBesides
import Derived.Laws.BitsAllLaws
import Derived.Lib.QuietBelow
namespace Go.Proofs.YtgonllogaiiicaaDoor
open Go.RowKit
set_option maxHeartbeats 1000000
set_option maxRecDepth 100000
theorem w64 (x : Int) (h : -9223372036854775808 ≤ x ∧ x ≤ 9223372036854775807) : wrap64 x = x := IntWalk.wrap64_in x h
/-- How many numbers an instruction has, but where it goes. -/
def numT : List Int := [0, 1, 1, 1, 0, 1, 1, 0, 0, 0, 2, 1, 1, 0, 0, 0, 0, 0, 1, 1, 1]
def numI (o : Int) : Int := if 0 ≤ o ∧ o ≤ 20 then numT.getD o.toNat 0 else 0
/-- What the program's own tables hold. -/
structure Lay (w : World) : Prop where
  nam : ∀ k, k < 21 → w.cell? ⟨0, k, none⟩ = some (.string ⟨(opNames.getD k []).toArray⟩)
  num : ∀ k, k < 21 → w.cell? ⟨1, k, none⟩ = some (.int .i64 (numT.getD k 0))
  pow : Lib.TabIs Tryd.prog w "internal/strconv.uint64pow10" .u64 Lib.pow10Tab
  max : ∃ m, w.cell? ⟨3, 0, none⟩ = some (.int .i64 m)
  sz : 8 ≤ w.heap.size
theorem glob2 : Tryd.prog.globalNamed "internal/strconv.uint64pow10" = some 2 := by kernel_rfl
theorem Lay.chg {w w' : World} {S : Nat → Prop} (h : Lay w) (hc : Chg S w w') (hS : ∀ b, b < 8 → ¬ S b) : Lay w' := by
  have hz := h.sz
  have hz2 := hc.size
  refine ⟨fun k hk => by rw [hc.cell (p := ⟨0, k, none⟩) (by show 0 < _; omega) (hS 0 (by omega))]; exact h.nam k hk, fun k hk => by rw [hc.cell (p := ⟨1, k, none⟩) (by show 1 < _; omega) (hS 1 (by omega))]; exact h.num k hk, ?_, ?_, by omega⟩
  · have h1 := h.pow
    unfold Lib.TabIs World.var? at h1 ⊢
    rw [glob2] at h1 ⊢
    simp only [Option.bind_some] at h1 ⊢
    rw [hc.block 2 (by omega) (hS 2 (by omega))]
    exact h1
  · obtain ⟨m, hm⟩ := h.max
    exact ⟨m, by rw [hc.cell (p := ⟨3, 0, none⟩) (by show 3 < _; omega) (hS 3 (by omega))]; exact hm⟩
def knownB (o : Int) : Bool := decide (0 ≤ o ∧ o ≤ 20)
theorem known_any (o : Int) (w : World) : Calls Tryd.prog 53 #[.int .i64 o] w fun e w' => e = .returned (.bool (knownB o)) ∧ w = w' := by
  by_cases h : 0 ≤ o
  · go_enter Tryd.func53, Tryd.ntmps53
    go_wp2_with fail
    go_ret
    exact ⟨retv (boolv (by unfold knownB; rw [Bool.eq_iff_iff]; simp <;> omega)), rfl⟩
  · have e2 : decide (0 ≤ o) = false := decide_eq_false h
    go_enter Tryd.func53, Tryd.ntmps53
    go_wp2_with fail
    go_ret
    exact ⟨retv (boolv (by unfold knownB; rw [Bool.eq_iff_iff]; simp <;> omega)), rfl⟩
theorem within_any (n : Int) (w : World) : Calls Tryd.prog 66 #[.int .i64 n] w fun e w' => e = .returned (.bool (withinB n)) ∧ w = w' := by
  by_cases h : 0 ≤ n
  · go_enter Tryd.func66, Tryd.ntmps66
    go_wp2_with fail
    go_ret
    exact ⟨retv (boolv (by unfold withinB; rw [Bool.eq_iff_iff]; simp <;> omega)), rfl⟩
  · have e2 : decide (0 ≤ n) = false := decide_eq_false h
    go_enter Tryd.func66, Tryd.ntmps66
    go_wp2_with fail
    go_ret
    exact ⟨retv (boolv (by unfold withinB; rw [Bool.eq_iff_iff]; simp <;> omega)), rfl⟩
theorem refGoes_any (o : Int) (w : World) : Calls Tryd.prog 34 #[.int .i64 o] w fun e w' => e = .returned (.bool (goesB o)) ∧ w = w' := by
  by_cases h : 15 ≤ o
  · go_enter Tryd.func34, Tryd.ntmps34
    go_wp2_with fail
    go_ret
    exact ⟨retv (boolv (by unfold goesB; rw [Bool.eq_iff_iff]; simp <;> omega)), rfl⟩
  · have e2 : decide (15 ≤ o) = false := decide_eq_false h
    go_enter Tryd.func34, Tryd.ntmps34
    go_wp2_with fail
    go_ret
    exact ⟨retv (boolv (by unfold goesB; rw [Bool.eq_iff_iff]; simp <;> omega)), rfl⟩
theorem goes_any (o : Int) (w : World) : Calls Tryd.prog 26 #[.int .i64 o] w fun e w' => e = .returned (.bool (goesB o)) ∧ w = w' := by
  have hk := known_any o w
  cases h : knownB o
  all_goals
    rw [h] at hk
    have HK := hide hk
    have HH := hide h
    clear hk h
    go_enter Tryd.func26, Tryd.ntmps26
    go_wp2_with (go_at_call 53; refine (unhide HK).mono ?_; rintro e w' ⟨rfl, rfl⟩)
    go_ret
    have h := unhide HH
    unfold knownB at h
    exact ⟨retv (boolv (by unfold goesB; rw [Bool.eq_iff_iff]; simp at h ⊢ <;> omega)), rfl⟩
theorem numbers_any (o : Int) (w : World) (hl : Lay w) : Calls Tryd.prog 30 #[.int .i64 o] w fun e w' => e = .returned (.int .i64 (numI o)) ∧ w = w' := by
  have hk := known_any o w
  by_cases h : 0 ≤ o ∧ o ≤ 20
  · rw [show knownB o = true from decide_eq_true h] at hk
    obtain ⟨h1, h2⟩ := h
    obtain ⟨n, rfl⟩ := Int.eq_ofNat_of_zero_le h1
    have hc := hl.num n (by omega)
    have HE := hide (show numI (n : Int) = numT.getD n 0 from by unfold numI; rw [if_pos ⟨h1, h2⟩]; rfl)
    generalize numT.getD n 0 = v at *
    have HK := hide hk
    clear hk hl
    go_enter Tryd.func30, Tryd.ntmps30
    go_wp2_with (go_at_call 53; refine (unhide HK).mono ?_; rintro e w' ⟨rfl, rfl⟩)
    go_ret
    exact ⟨retv (intv (unhide HE).symm), rfl⟩
  · rw [show knownB o = false from decide_eq_false h] at hk
    have HE := hide (show numI o = 0 from if_neg h)
    have HK := hide hk
    clear hk hl h
    go_enter Tryd.func30, Tryd.ntmps30
    go_wp2_with (go_at_call 53; refine (unhide HK).mono ?_; rintro e w' ⟨rfl, rfl⟩)
    go_ret
    exact ⟨retv (intv (unhide HE).symm), rfl⟩
theorem numI_one {o : Int} (h : o = 1 ∨ o = 2 ∨ o = 3 ∨ o = 5 ∨ o = 6 ∨ o = 11 ∨ o = 12 ∨ o = 18 ∨ o = 19 ∨ o = 20) : numI o = 1 := by
  rcases h with rfl | rfl | rfl | rfl | rfl | rfl | rfl | rfl | rfl | rfl <;> rfl
theorem numI_zero {o : Int} (h : ¬ (o = 1 ∨ o = 2 ∨ o = 3 ∨ o = 5 ∨ o = 6 ∨ o = 11 ∨ o = 12 ∨ o = 18 ∨ o = 19 ∨ o = 20)) (h2 : o ≠ 10) : numI o = 0 := by
  unfold numI
  split
  · rename_i h3
    have : o = 0 ∨ o = 4 ∨ o = 7 ∨ o = 8 ∨ o = 9 ∨ o = 13 ∨ o = 14 ∨ o = 15 ∨ o = 16 ∨ o = 17 := by omega
    rcases this with rfl | rfl | rfl | rfl | rfl | rfl | rfl | rfl | rfl | rfl <;> rfl
  · rfl
theorem refNumbers_any (o : Int) (w : World) : Calls Tryd.prog 38 #[.int .i64 o] w fun e w' => e = .returned (.int .i64 (numI o)) ∧ w = w' := by
  by_cases h10 : o = 10
  · subst h10
    have HE := hide (show numI 10 = 2 from rfl)
    go_enter Tryd.func38, Tryd.ntmps38
    go_wp2_with fail
    go_ret
    exact ⟨retv (intv (unhide HE).symm), rfl⟩
  by_cases h1 : o = 1 ∨ o = 2 ∨ o = 3 ∨ o = 5 ∨ o = 6 ∨ o = 11 ∨ o = 12 ∨ o = 18 ∨ o = 19 ∨ o = 20
  · have HE := hide (numI_one h1)
    clear h10
    rcases h1 with rfl | rfl | rfl | rfl | rfl | rfl | rfl | rfl | rfl | rfl
    all_goals
      go_enter Tryd.func38, Tryd.ntmps38
      go_wp2_with fail
      go_ret
      exact ⟨retv (intv (unhide HE).symm), rfl⟩
  · have HE := hide (numI_zero h1 h10)
    have e1 : (o == 1) = false := by rw [beq_eq_false_iff_ne]; omega
    have e2 : (o == 2) = false := by rw [beq_eq_false_iff_ne]; omega
    have e3 : (o == 3) = false := by rw [beq_eq_false_iff_ne]; omega
    have e5 : (o == 5) = false := by rw [beq_eq_false_iff_ne]; omega
    have e6 : (o == 6) = false := by rw [beq_eq_false_iff_ne]; omega
    have e11 : (o == 11) = false := by rw [beq_eq_false_iff_ne]; omega
    have e12 : (o == 12) = false := by rw [beq_eq_false_iff_ne]; omega
    have e18 : (o == 18) = false := by rw [beq_eq_false_iff_ne]; omega
    have e19 : (o == 19) = false := by rw [beq_eq_false_iff_ne]; omega
    have e20 : (o == 20) = false := by rw [beq_eq_false_iff_ne]; omega
    have e10 : (o == 10) = false := by rw [beq_eq_false_iff_ne]; omega
    clear h1 h10
    go_enter Tryd.func38, Tryd.ntmps38
    go_wp2_with fail
    go_ret
    exact ⟨retv (intv (unhide HE).symm), rfl⟩
/-- May an instruction be? -/
def insOkB (i : Ins) : Bool := knownB i.op && withinB i.a && withinB i.b && (if goesB i.op then (numI i.op == 1 || i.b == 0) else ((decide (0 < numI i.op) || i.a == 0) && (numI i.op == 2 || i.b == 0)))
def insE (i : Ins) : Int := if insOkB i then 0 else 150
theorem numI_cases (o : Int) : numI o = 0 ∨ numI o = 1 ∨ numI o = 2 := by
  by_cases h10 : o = 10
  · subst h10; exact .inr (.inr rfl)
  by_cases h1 : o = 1 ∨ o = 2 ∨ o = 3 ∨ o = 5 ∨ o = 6 ∨ o = 11 ∨ o = 12 ∨ o = 18 ∨ o = 19 ∨ o = 20
  · exact .inr (.inl (numI_one h1))
  · exact .inl (numI_zero h1 h10)
theorem goes_num {o : Int} (h : goesB o = true) : numI o ≠ 2 := by
  unfold goesB at h
  have h2 := of_decide_eq_true h
  have : o = 15 ∨ o = 16 ∨ o = 17 ∨ o = 18 ∨ o = 19 ∨ o = 20 := by omega
  rcases this with rfl | rfl | rfl | rfl | rfl | rfl <;> decide
theorem opCheck_any (i : Ins) (w : World) (hl : Lay w) : Calls Tryd.prog 51 #[.agg #[.int .i64 i.op, .int .i64 i.a, .int .i64 i.b]] w fun e w' => e = .returned (.int .i64 (insE i)) ∧ Chg (fun _ => False) w w' := by
  obtain ⟨o, a, b⟩ := i
  have hn := numI_cases o
  have hgn := @goes_num o
  have HN := hide (fun W (h : Lay W) => numbers_any o W h)
  have HG := hide (goes_any o)
  have HK := hide (known_any o)
  have HA := hide (within_any a)
  have HB := hide (within_any b)
  obtain ⟨E, hE⟩ : ∃ E, E = insE ⟨o, a, b⟩ := ⟨_, rfl⟩
  have hE2 : E = if (knownB o && withinB a && withinB b && (if goesB o then (numI o == 1 || b == 0) else ((decide (0 < numI o) || a == 0) && (numI o == 2 || b == 0)))) then 0 else 150 := hE
  have hl2 := hl.chg ((Chg.refl (fun _ => False) w).alloc (.cells #[.int .i64 o, .int .i64 a, .int .i64 b] 42)) (fun _ _ => id)
  have HL := hide hl2
  rw [← hE]
  clear hE hl hl2
  generalize knownB o = kb at *
  generalize withinB a = wa at *
  generalize withinB b = wb at *
  generalize goesB o = gb at *
  generalize numI o = n at *
  have hcA : (a == 0) = true ∧ (a != 0) = false ∨ (a == 0) = false ∧ (a != 0) = true := by
    by_cases h : a = 0
    · exact .inl ⟨by simp [h], by simp [h]⟩
    · exact .inr ⟨by simp [h], by simp [h]⟩
  have hcB : (b == 0) = true ∧ (b != 0) = false ∨ (b == 0) = false ∧ (b != 0) = true := by
    by_cases h : b = 0
    · exact .inl ⟨by simp [h], by simp [h]⟩
    · exact .inr ⟨by simp [h], by simp [h]⟩
  have fin : ∀ W, Chg (fun _ => False) W ((W.alloc (.cells #[.int .i64 o, .int .i64 a, .int .i64 b] 42))) := fun W => (Chg.refl _ _).alloc _
  have FIN := hide fin
  clear fin
  cases kb
  case false =>
    obtain rfl : E = 150 := by rw [hE2]; rfl
    clear hE2 hcA hcB hgn
    rcases hn with rfl | rfl | rfl <;> cases gb
    all_goals
      go_enter Tryd.func51, Tryd.ntmps51
      go_wp2_with (first
        | (go_at_call 30; refine (unhide HN _ (unhide HL)).mono ?_; rintro e w' ⟨rfl, rfl⟩)
        | (go_at_call 26; refine (unhide HG _).mono ?_; rintro e w' ⟨rfl, rfl⟩)
        | (go_at_call 53; refine (unhide HK _).mono ?_; rintro e w' ⟨rfl, rfl⟩))
      go_ret
      exact ⟨rfl, unhide FIN _⟩
  case true =>
    cases wa
    case false =>
      obtain rfl : E = 150 := by rw [hE2]; rfl
      clear hE2 hcA hcB hgn
      rcases hn with rfl | rfl | rfl <;> cases gb
      all_goals
        go_enter Tryd.func51, Tryd.ntmps51
        go_wp2_with (first
          | (go_at_call 30; refine (unhide HN _ (unhide HL)).mono ?_; rintro e w' ⟨rfl, rfl⟩)
          | (go_at_call 26; refine (unhide HG _).mono ?_; rintro e w' ⟨rfl, rfl⟩)
          | (go_at_call 53; refine (unhide HK _).mono ?_; rintro e w' ⟨rfl, rfl⟩)
          | (go_at_call 66; refine (unhide HA _).mono ?_; rintro e w' ⟨rfl, rfl⟩))
        go_ret
        exact ⟨rfl, unhide FIN _⟩
    case true =>
      cases wb
      case false =>
        obtain rfl : E = 150 := by rw [hE2]; rfl
        clear hE2 hcA hcB hgn
        rcases hn with rfl | rfl | rfl <;> cases gb
        all_goals
          go_enter Tryd.func51, Tryd.ntmps51
          go_wp2_with (first
            | (go_at_call 30; refine (unhide HN _ (unhide HL)).mono ?_; rintro e w' ⟨rfl, rfl⟩)
            | (go_at_call 26; refine (unhide HG _).mono ?_; rintro e w' ⟨rfl, rfl⟩)
            | (go_at_call 53; refine (unhide HK _).mono ?_; rintro e w' ⟨rfl, rfl⟩)
            | (go_at_call 66; with_reducible refine (unhide HA _).mono ?_; rintro e w' ⟨rfl, rfl⟩)
            | (go_at_call 66; with_reducible refine (unhide HB _).mono ?_; rintro e w' ⟨rfl, rfl⟩))
          go_ret
          exact ⟨rfl, unhide FIN _⟩
      case true =>
        rcases hn with rfl | rfl | rfl <;> cases gb <;> rcases hcA with ⟨a1, a2⟩ | ⟨a1, a2⟩ <;> rcases hcB with ⟨b1, b2⟩ | ⟨b1, b2⟩
        all_goals
          try exact absurd rfl (hgn rfl)
        all_goals
          rw [a1, b1] at hE2
          have hE3 := hide hE2
          clear hE2 hgn a1 b1
          go_enter Tryd.func51, Tryd.ntmps51
          go_wp2_with (first
            | (go_at_call 30; refine (unhide HN _ (unhide HL)).mono ?_; rintro e w' ⟨rfl, rfl⟩)
            | (go_at_call 26; refine (unhide HG _).mono ?_; rintro e w' ⟨rfl, rfl⟩)
            | (go_at_call 53; refine (unhide HK _).mono ?_; rintro e w' ⟨rfl, rfl⟩)
            | (go_at_call 66; with_reducible refine (unhide HA _).mono ?_; rintro e w' ⟨rfl, rfl⟩)
            | (go_at_call 66; with_reducible refine (unhide HB _).mono ?_; rintro e w' ⟨rfl, rfl⟩))
          go_ret
          exact ⟨retv (intv (by rw [unhide hE3]; rfl)), unhide FIN _⟩
theorem refCheck_any (i : Ins) (w : World) : Calls Tryd.prog 33 #[.agg #[.int .i64 i.op, .int .i64 i.a, .int .i64 i.b]] w fun e w' => e = .returned (.bool (insOkB i)) ∧ Chg (fun _ => False) w w' := by
  obtain ⟨o, a, b⟩ := i
  have hn := numI_cases o
  have hgn := @goes_num o
  have HN := hide (refNumbers_any o)
  have HG := hide (refGoes_any o)
  obtain ⟨E, hE⟩ : ∃ E, E = insOkB ⟨o, a, b⟩ := ⟨_, rfl⟩
  have hE2 : E = (knownB o && withinB a && withinB b && (if goesB o then (numI o == 1 || b == 0) else ((decide (0 < numI o) || a == 0) && (numI o == 2 || b == 0)))) := hE
  rw [← hE]
  clear hE
  have FIN := hide (fun W => ((Chg.refl (fun _ => False) W).alloc (.cells #[.int .i64 o, .int .i64 a, .int .i64 b] 42)))
  have hcase : (o < 0 ∧ knownB o = false) ∨ (decide (o < 0) = false ∧ 20 < o ∧ knownB o = false) ∨ (decide (o < 0) = false ∧ decide (20 < o) = false ∧ a < 0 ∧ withinB a = false) ∨ (decide (o < 0) = false ∧ decide (20 < o) = false ∧ decide (a < 0) = false ∧ 1048576 < a ∧ withinB a = false) ∨
      (decide (o < 0) = false ∧ decide (20 < o) = false ∧ decide (a < 0) = false ∧ decide (1048576 < a) = false ∧ b < 0 ∧ withinB b = false) ∨ (decide (o < 0) = false ∧ decide (20 < o) = false ∧ decide (a < 0) = false ∧ decide (1048576 < a) = false ∧ decide (b < 0) = false ∧ 1048576 < b ∧ withinB b = false) ∨
      (decide (o < 0) = false ∧ decide (20 < o) = false ∧ decide (a < 0) = false ∧ decide (1048576 < a) = false ∧ decide (b < 0) = false ∧ decide (1048576 < b) = false ∧ knownB o = true ∧ withinB a = true ∧ withinB b = true) := by
    unfold knownB withinB
    simp only [decide_eq_true_eq, decide_eq_false_iff_not]
    omega
  rcases hcase with ⟨c1, k⟩ | ⟨c1, c2, k⟩ | ⟨c1, c2, c3, k⟩ | ⟨c1, c2, c3, c4, k⟩ | ⟨c1, c2, c3, c4, c5, k⟩ | ⟨c1, c2, c3, c4, c5, c6, k⟩ | ⟨c1, c2, c3, c4, c5, c6, k1, k2, k3⟩
  · obtain rfl : E = false := by rw [hE2, k]; simp
    clear hE2 k hgn hn
    go_enter Tryd.func33, Tryd.ntmps33
    go_wp2_with fail
    go_ret
    exact ⟨rfl, unhide FIN _⟩
  · obtain rfl : E = false := by rw [hE2, k]; simp
    clear hE2 k hgn hn
    go_enter Tryd.func33, Tryd.ntmps33
    go_wp2_with fail
    go_ret
    exact ⟨rfl, unhide FIN _⟩
  · obtain rfl : E = false := by rw [hE2, k]; simp
    clear hE2 k hgn hn
    go_enter Tryd.func33, Tryd.ntmps33
    go_wp2_with fail
    go_ret
    exact ⟨rfl, unhide FIN _⟩
  · obtain rfl : E = false := by rw [hE2, k]; simp
    clear hE2 k hgn hn
    go_enter Tryd.func33, Tryd.ntmps33
    go_wp2_with fail
    go_ret
    exact ⟨rfl, unhide FIN _⟩
  · obtain rfl : E = false := by rw [hE2, k]; simp
    clear hE2 k hgn hn
    go_enter Tryd.func33, Tryd.ntmps33
    go_wp2_with fail
    go_ret
    exact ⟨rfl, unhide FIN _⟩
  · obtain rfl : E = false := by rw [hE2, k]; simp
    clear hE2 k hgn hn
    go_enter Tryd.func33, Tryd.ntmps33
    go_wp2_with fail
    go_ret
    exact ⟨rfl, unhide FIN _⟩
  · rw [k1, k2, k3] at hE2
    clear k1 k2 k3
    have hcA : (a == 0) = true ∨ (a == 0) = false := by cases (a == 0) <;> simp
    have hcB : (b == 0) = true ∨ (b == 0) = false := by cases (b == 0) <;> simp
    generalize goesB o = gb at *
    generalize numI o = n at *
    rcases hn with rfl | rfl | rfl <;> cases gb <;> rcases hcA with a1 | a1 <;> rcases hcB with b1 | b1
    all_goals
      try exact absurd rfl (hgn rfl)
    all_goals
      rw [a1, b1] at hE2
      have hE3 := hide hE2
      clear hE2 hgn
      go_enter Tryd.func33, Tryd.ntmps33
      go_wp2_with (first
        | (go_at_call 34; refine (unhide HG _).mono ?_; rintro e w' ⟨rfl, rfl⟩)
        | (go_at_call 38; refine (unhide HN _).mono ?_; rintro e w' ⟨rfl, rfl⟩))
      go_ret
      exact ⟨retv (boolv (by rw [unhide hE3]; rfl)), unhide FIN _⟩
theorem qw {k : Nat} {args : Array Value} {w : World} {v : Value} (h : Calls Tryd.prog k args w fun e w' => e = .returned v ∧ w = w') : Calls Tryd.prog k args w fun e w' => e = .returned v ∧ w' = w := h.mono (fun _ _ h => ⟨h.1, h.2.symm⟩)
end Go.Proofs.YtgonllogaiiicaaDoor
