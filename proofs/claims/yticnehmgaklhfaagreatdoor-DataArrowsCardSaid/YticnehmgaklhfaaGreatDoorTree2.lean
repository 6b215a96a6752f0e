/-
  Layer 2, the program's side: whole trees, and where kids begin.
-/
import Derived.Test.YticnehmgaklhfaaGreatDoorTree
namespace Go.Proofs.YticnehmgaklhfaaGreatDoor
open Go.RowKit
set_option maxHeartbeats 2000000
set_option maxRecDepth 100000
theorem endV_whole (l : List Nd) : wholeB l = (decide (0 < l.length) && (endV l 0 == (l.length : Int))) := by
  unfold wholeB endV endAt
  rw [List.drop_zero]
  cases l with
  | nil => simp
  | cons x l =>
    cases h : eat (x :: l) 1 with
    | none =>
      simp
      omega
    | some n =>
      rw [Bool.eq_iff_iff]
      simp
      omega
theorem whole_any (l : List Nd) (v : Value) (T : Nat → Prop) (w : World) (hr : RdN T w v l) (hl : l.length ≤ 4000) :
    Calls Tryz.prog 65 #[v] w fun e w' => e = .returned (.bool (wholeB l)) ∧ Chg (fun _ => False) w w' := by
  have HE := hide (fun W (hW : Chg (fun _ => False) w W) => end_any l v 0 T W (hr.chg hW (fun _ _ _ => id)) hl (Nat.zero_le _))
  obtain ⟨A, c, rfl⟩ := hr.val
  have hw := endV_whole l
  generalize wholeB l = B at *
  generalize endV l 0 = E at *
  have HB := hide hw
  have HE2 := hide (rq ((unhide HE) w (Chg.refl _ _)))
  clear hw hr
  by_cases h0 : l.length = 0
  · have hd : decide (0 < l.length) = false := decide_eq_false (by omega)
    have hd2 : ¬ (0 : Int) < (l.length : Int) := by omega
    have HF := hide (show B = false by rw [unhide HB, hd]; rfl)
    go_enter Tryz.func65, Tryz.ntmps65
    go_wp2_with fail
    go_ret
    exact ⟨retv (boolv (unhide HF).symm), Chg.refl _ _⟩
  · have hd : decide (0 < l.length) = true := decide_eq_true (by omega)
    have hd2 : (0 : Int) < (l.length : Int) := by omega
    have HF := hide (show B = (E == (l.length : Int)) by rw [unhide HB, hd]; rfl)
    go_enter Tryz.func65, Tryz.ntmps65
    go_wp2_with (go_at_call 68; refine ((unhide HE) _ (Chg.refl _ _)).mono ?_; rintro e w2 ⟨rfl, hc2⟩; have HC2 := hide hc2; clear hc2)
    go_ret
    exact ⟨retv (boolv (unhide HF).symm), unhide HC2⟩
end Go.Proofs.YticnehmgaklhfaaGreatDoor
