/-
  Layer 19: the small functions on numbers.
-/
import Derived.Test.YtejkaalhjocmgaaDoorLib
import Derived.Test.YtejkaalhjocmgaaDoorPla
import Derived.Test.YtejkaalhjocmgaaDoorShelf
import Derived.Deep.QuietTactic
import Derived.BigQuiet
import Derived.WalkLawsBesides
import Derived.Laws.BitsAllLaws
namespace Go.Proofs.YtejkaalhjocmgaaDoor
open Go.RowKit
set_option maxHeartbeats 400000
set_option maxRecDepth 100000

theorem w64 (x : Int) (h : -9223372036854775808 ≤ x ∧ x ≤ 9223372036854775807) : wrap64 x = x := IntWalk.wrap64_in x h
/-- How many numbers an instruction has, but where it goes. -/
def numT : List Int := [0, 1, 1, 1, 0, 1, 1, 0, 0, 0, 2, 1, 1, 0, 0, 0, 0, 0, 1, 1, 1]
def numI (o : Int) : Int := if 0 ≤ o ∧ o ≤ 20 then numT.getD o.toNat 0 else 0
/-- What the program's own tables hold. -/
structure Lay (w : World) : Prop where
  num : ∀ k, k < 21 → w.cell? ⟨0, k, none⟩ = some (.int .i64 (numT.getD k 0))
  spc : Lib.TabIs Tryd.prog w "strings.asciiSpace" .u8 Lib.asciiSpaceTab
  sz : 3 ≤ w.heap.size
theorem glob1 : Tryd.prog.globalNamed "strings.asciiSpace" = some 1 := by kernel_rfl
theorem Lay.chg {w w' : World} {S : Nat → Prop} (h : Lay w) (hc : Chg S w w') (hS : ∀ b, b < 3 → ¬ S b) : Lay w' := by
  have hz := h.sz
  have hz2 := hc.size
  refine ⟨fun k hk => by rw [hc.cell (p := ⟨0, k, none⟩) (by show 0 < _; omega) (hS 0 (by omega))]; exact h.num k hk, ?_, by omega⟩
  have h1 := h.spc
  unfold Lib.TabIs World.var? at h1 ⊢
  rw [glob1] at h1 ⊢
  simp only [Option.bind_some] at h1 ⊢
  rw [hc.block 1 (by omega) (hS 1 (by omega))]
  exact h1
def knownB (o : Int) : Bool := decide (0 ≤ o ∧ o ≤ 20)
def withinB (n : Int) : Bool := decide (0 ≤ n ∧ n ≤ 1048576)
def goesB (o : Int) : Bool := decide (15 ≤ o ∧ o ≤ 20)
theorem known_any (o : Int) (w : World) : Calls Tryd.prog 55 #[.int .i64 o] w fun e w' => e = .returned (.bool (knownB o)) ∧ w = w' := by
  by_cases h : 0 ≤ o
  · go_enter Tryd.func55, Tryd.ntmps55
    go_wp2_with fail
    go_ret
    exact ⟨retv (boolv (by unfold knownB; rw [Bool.eq_iff_iff]; simp <;> omega)), rfl⟩
  · have e2 : decide (0 ≤ o) = false := decide_eq_false h
    go_enter Tryd.func55, Tryd.ntmps55
    go_wp2_with fail
    go_ret
    exact ⟨retv (boolv (by unfold knownB; rw [Bool.eq_iff_iff]; simp <;> omega)), rfl⟩
theorem within_any (n : Int) (w : World) : Calls Tryd.prog 56 #[.int .i64 n] w fun e w' => e = .returned (.bool (withinB n)) ∧ w = w' := by
  by_cases h : 0 ≤ n
  · go_enter Tryd.func56, Tryd.ntmps56
    go_wp2_with fail
    go_ret
    exact ⟨retv (boolv (by unfold withinB; rw [Bool.eq_iff_iff]; simp <;> omega)), rfl⟩
  · have e2 : decide (0 ≤ n) = false := decide_eq_false h
    go_enter Tryd.func56, Tryd.ntmps56
    go_wp2_with fail
    go_ret
    exact ⟨retv (boolv (by unfold withinB; rw [Bool.eq_iff_iff]; simp <;> omega)), rfl⟩
theorem refGoes_any (o : Int) (w : World) : Calls Tryd.prog 17 #[.int .i64 o] w fun e w' => e = .returned (.bool (goesB o)) ∧ w = w' := by
  by_cases h : 15 ≤ o
  · go_enter Tryd.func17, Tryd.ntmps17
    go_wp2_with fail
    go_ret
    exact ⟨retv (boolv (by unfold goesB; rw [Bool.eq_iff_iff]; simp <;> omega)), rfl⟩
  · have e2 : decide (15 ≤ o) = false := decide_eq_false h
    go_enter Tryd.func17, Tryd.ntmps17
    go_wp2_with fail
    go_ret
    exact ⟨retv (boolv (by unfold goesB; rw [Bool.eq_iff_iff]; simp <;> omega)), rfl⟩
theorem goes_any (o : Int) (w : World) : Calls Tryd.prog 43 #[.int .i64 o] w fun e w' => e = .returned (.bool (goesB o)) ∧ w = w' := by
  have hk := known_any o w
  cases h : knownB o
  all_goals
    rw [h] at hk
    have HK := hide hk
    have HH := hide h
    clear hk h
    go_enter Tryd.func43, Tryd.ntmps43
    go_wp2_with (go_at_call 55; refine (unhide HK).mono ?_; rintro e w' ⟨rfl, rfl⟩)
    go_ret
    have h := unhide HH
    unfold knownB at h
    exact ⟨retv (boolv (by unfold goesB; rw [Bool.eq_iff_iff]; simp at h ⊢ <;> omega)), rfl⟩
theorem numbers_any (o : Int) (w : World) (hl : Lay w) : Calls Tryd.prog 54 #[.int .i64 o] w fun e w' => e = .returned (.int .i64 (numI o)) ∧ w = w' := by
  have hk := known_any o w
  by_cases h : 0 ≤ o ∧ o ≤ 20
  · rw [show knownB o = true from decide_eq_true h] at hk
    obtain ⟨h1, h2⟩ := h
    obtain ⟨n, rfl⟩ := Int.eq_ofNat_of_zero_le h1
    have hc := hl.num n (by omega)
    have HE := hide (show numI (n : Int) = numT.getD n 0 from by unfold numI; rw [if_pos ⟨h1, h2⟩]; rfl)
    generalize numT.getD n 0 = v at *
    have HK := hide hk
    clear hk hl
    go_enter Tryd.func54, Tryd.ntmps54
    go_wp2_with (go_at_call 55; refine (unhide HK).mono ?_; rintro e w' ⟨rfl, rfl⟩)
    go_ret
    exact ⟨retv (intv (unhide HE).symm), rfl⟩
  · rw [show knownB o = false from decide_eq_false h] at hk
    have HE := hide (show numI o = 0 from if_neg h)
    have HK := hide hk
    clear hk hl h
    go_enter Tryd.func54, Tryd.ntmps54
    go_wp2_with (go_at_call 55; refine (unhide HK).mono ?_; rintro e w' ⟨rfl, rfl⟩)
    go_ret
    exact ⟨retv (intv (unhide HE).symm), rfl⟩
end Go.Proofs.YtejkaalhjocmgaaDoor
