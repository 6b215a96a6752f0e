/-
  Layer 19: whether a text is a constructor's name: the program's side.
-/
import Derived.Test.YtejkaalhjocmgaaDoorWh
namespace Go.Proofs.YtejkaalhjocmgaaDoor
open Go.RowKit
set_option maxHeartbeats 1000000
set_option maxRecDepth 100000
def smallB (c : Nat) : Bool := decide (97 ≤ c ∧ c ≤ 122)
def greatB (c : Nat) : Bool := decide (65 ≤ c ∧ c ≤ 90)
def digitB (c : Nat) : Bool := decide (48 ≤ c ∧ c ≤ 57)
theorem small_any (c : Nat) (w : World) (hc : c < 256) : Calls Tryd.prog 68 #[.int .u8 (c : Int)] w fun e w' => e = .returned (.bool (smallB c)) ∧ w = w' := by
  by_cases h : 97 ≤ c
  · go_enter Tryd.func68, Tryd.ntmps68
    go_wp2_with fail
    go_ret
    exact ⟨retv (boolv (by unfold smallB; rw [Bool.eq_iff_iff]; simp <;> omega)), rfl⟩
  · have e2 : decide ((97 : Int) ≤ (c : Int)) = false := decide_eq_false (by omega)
    go_enter Tryd.func68, Tryd.ntmps68
    go_wp2_with fail
    go_ret
    exact ⟨retv (boolv (by unfold smallB; rw [Bool.eq_iff_iff]; simp <;> omega)), rfl⟩
theorem great_any (c : Nat) (w : World) (hc : c < 256) : Calls Tryd.prog 69 #[.int .u8 (c : Int)] w fun e w' => e = .returned (.bool (greatB c)) ∧ w = w' := by
  by_cases h : 65 ≤ c
  · go_enter Tryd.func69, Tryd.ntmps69
    go_wp2_with fail
    go_ret
    exact ⟨retv (boolv (by unfold greatB; rw [Bool.eq_iff_iff]; simp <;> omega)), rfl⟩
  · have e2 : decide ((65 : Int) ≤ (c : Int)) = false := decide_eq_false (by omega)
    go_enter Tryd.func69, Tryd.ntmps69
    go_wp2_with fail
    go_ret
    exact ⟨retv (boolv (by unfold greatB; rw [Bool.eq_iff_iff]; simp <;> omega)), rfl⟩
theorem digit_any (c : Nat) (w : World) (hc : c < 256) : Calls Tryd.prog 72 #[.int .u8 (c : Int)] w fun e w' => e = .returned (.bool (digitB c)) ∧ w = w' := by
  by_cases h : 48 ≤ c
  · go_enter Tryd.func72, Tryd.ntmps72
    go_wp2_with fail
    go_ret
    exact ⟨retv (boolv (by unfold digitB; rw [Bool.eq_iff_iff]; simp <;> omega)), rfl⟩
  · have e2 : decide ((48 : Int) ≤ (c : Int)) = false := decide_eq_false (by omega)
    go_enter Tryd.func72, Tryd.ntmps72
    go_wp2_with fail
    go_ret
    exact ⟨retv (boolv (by unfold digitB; rw [Bool.eq_iff_iff]; simp <;> omega)), rfl⟩
theorem inner_eq (c : Nat) (hc : c < 256) : innerB c = (smallB c || greatB c || digitB c || c == 95 || c == 39) := by
  revert c
  decide
theorem great_eq (c : Nat) (hc : c < 256) : greatB c = (isB c == 2) := by
  revert c
  decide
theorem inner_high (c : Nat) (hc : c < 256) (h : 126 < c) : innerB c = false := by
  revert c
  decide
theorem inner_any (c : Nat) (w : World) (hc : c < 256) : Calls Tryd.prog 66 #[.int .u8 (c : Int)] w fun e w' => e = .returned (.bool (innerB c)) ∧ w = w' := by
  have hE := inner_eq c hc
  have hs := small_any c w hc
  have hg := great_any c w hc
  have hd := digit_any c w hc
  generalize innerB c = E at *
  have h1 : (c == 95) = ((c : Int) == 95) := by rw [Bool.eq_iff_iff, beq_iff_eq, beq_iff_eq]; omega
  have h2 : (c == 39) = ((c : Int) == 39) := by rw [Bool.eq_iff_iff, beq_iff_eq, beq_iff_eq]; omega
  rw [h1, h2] at hE
  clear h1 h2
  cases b1 : smallB c <;> cases b2 : greatB c <;> cases b3 : digitB c <;> cases b4 : ((c : Int) == 95) <;> cases b5 : ((c : Int) == 39)
  all_goals
    rw [b1, b2, b3, b4, b5] at hE
    rw [b1] at hs
    rw [b2] at hg
    rw [b3] at hd
    have HE := hide hE
    have HS := hide hs
    have HG := hide hg
    have HD := hide hd
    clear hE hs hg hd b1 b2 b3
    go_enter Tryd.func66, Tryd.ntmps66
    go_wp2_with (first
      | (go_at_call 68; refine (unhide HS).mono ?_; rintro e w' ⟨rfl, rfl⟩)
      | (go_at_call 69; refine (unhide HG).mono ?_; rintro e w' ⟨rfl, rfl⟩)
      | (go_at_call 72; refine (unhide HD).mono ?_; rintro e w' ⟨rfl, rfl⟩))
    go_ret
    exact ⟨retv (boolv (by rw [unhide HE]; rfl)), rfl⟩
end Go.Proofs.YtejkaalhjocmgaaDoor
