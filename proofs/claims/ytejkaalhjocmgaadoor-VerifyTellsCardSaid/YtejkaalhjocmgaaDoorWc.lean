/-
  Layer 19: the document's Check of an instruction; numbers of the language; whether a thing may be.
-/
import Derived.Test.YtejkaalhjocmgaaDoorWb
namespace Go.Proofs.YtejkaalhjocmgaaDoor
open Go.RowKit
set_option maxHeartbeats 1000000
set_option maxRecDepth 100000
theorem refCheck_any (i : Ins) (w : World) : Calls Tryd.prog 37 #[.agg #[.int .i64 i.op, .int .i64 i.a, .int .i64 i.b]] w fun e w' => e = .returned (.bool (insOkB i)) ∧ Chg (fun _ => False) w w' := by
  obtain ⟨o, a, b⟩ := i
  have hn := numI_cases o
  have hgn := @goes_num o
  have HN := hide (refNumbers_any o)
  have HG := hide (refGoes_any o)
  obtain ⟨E, hE⟩ : ∃ E, E = insOkB ⟨o, a, b⟩ := ⟨_, rfl⟩
  have hE2 : E = (knownB o && withinB a && withinB b && (if goesB o then (numI o == 1 || b == 0) else ((decide (0 < numI o) || a == 0) && (numI o == 2 || b == 0)))) := hE
  rw [← hE]
  clear hE
  have FIN := hide (fun W => ((Chg.refl (fun _ => False) W).alloc (.cells #[.int .i64 o, .int .i64 a, .int .i64 b] 42)))
  have hcase : (o < 0 ∧ knownB o = false) ∨ (decide (o < 0) = false ∧ 20 < o ∧ knownB o = false) ∨ (decide (o < 0) = false ∧ decide (20 < o) = false ∧ a < 0 ∧ withinB a = false) ∨ (decide (o < 0) = false ∧ decide (20 < o) = false ∧ decide (a < 0) = false ∧ 1048576 < a ∧ withinB a = false) ∨
      (decide (o < 0) = false ∧ decide (20 < o) = false ∧ decide (a < 0) = false ∧ decide (1048576 < a) = false ∧ b < 0 ∧ withinB b = false) ∨ (decide (o < 0) = false ∧ decide (20 < o) = false ∧ decide (a < 0) = false ∧ decide (1048576 < a) = false ∧ decide (b < 0) = false ∧ 1048576 < b ∧ withinB b = false) ∨
      (decide (o < 0) = false ∧ decide (20 < o) = false ∧ decide (a < 0) = false ∧ decide (1048576 < a) = false ∧ decide (b < 0) = false ∧ decide (1048576 < b) = false ∧ knownB o = true ∧ withinB a = true ∧ withinB b = true) := by
    unfold knownB withinB
    simp only [decide_eq_true_eq, decide_eq_false_iff_not]
    omega
  rcases hcase with ⟨c1, k⟩ | ⟨c1, c2, k⟩ | ⟨c1, c2, c3, k⟩ | ⟨c1, c2, c3, c4, k⟩ | ⟨c1, c2, c3, c4, c5, k⟩ | ⟨c1, c2, c3, c4, c5, c6, k⟩ | ⟨c1, c2, c3, c4, c5, c6, k1, k2, k3⟩
  · obtain rfl : E = false := by rw [hE2, k]; simp
    clear hE2 k hgn hn
    go_enter Tryd.func37, Tryd.ntmps37
    go_wp2_with fail
    go_ret
    exact ⟨rfl, unhide FIN _⟩
  · obtain rfl : E = false := by rw [hE2, k]; simp
    clear hE2 k hgn hn
    go_enter Tryd.func37, Tryd.ntmps37
    go_wp2_with fail
    go_ret
    exact ⟨rfl, unhide FIN _⟩
  · obtain rfl : E = false := by rw [hE2, k]; simp
    clear hE2 k hgn hn
    go_enter Tryd.func37, Tryd.ntmps37
    go_wp2_with fail
    go_ret
    exact ⟨rfl, unhide FIN _⟩
  · obtain rfl : E = false := by rw [hE2, k]; simp
    clear hE2 k hgn hn
    go_enter Tryd.func37, Tryd.ntmps37
    go_wp2_with fail
    go_ret
    exact ⟨rfl, unhide FIN _⟩
  · obtain rfl : E = false := by rw [hE2, k]; simp
    clear hE2 k hgn hn
    go_enter Tryd.func37, Tryd.ntmps37
    go_wp2_with fail
    go_ret
    exact ⟨rfl, unhide FIN _⟩
  · obtain rfl : E = false := by rw [hE2, k]; simp
    clear hE2 k hgn hn
    go_enter Tryd.func37, Tryd.ntmps37
    go_wp2_with fail
    go_ret
    exact ⟨rfl, unhide FIN _⟩
  · rw [k1, k2, k3] at hE2
    clear k1 k2 k3
    have hcA : (a == 0) = true ∨ (a == 0) = false := by cases (a == 0) <;> simp
    have hcB : (b == 0) = true ∨ (b == 0) = false := by cases (b == 0) <;> simp
    generalize goesB o = gb at *
    generalize numI o = n at *
    rcases hn with rfl | rfl | rfl <;> cases gb <;> rcases hcA with a1 | a1 <;> rcases hcB with b1 | b1
    all_goals
      try exact absurd rfl (hgn rfl)
    all_goals
      rw [a1, b1] at hE2
      have hE3 := hide hE2
      clear hE2 hgn
      go_enter Tryd.func37, Tryd.ntmps37
      go_wp2_with (first
        | (go_at_call 17; refine (unhide HG _).mono ?_; rintro e w' ⟨rfl, rfl⟩)
        | (go_at_call 52; refine (unhide HN _).mono ?_; rintro e w' ⟨rfl, rfl⟩))
      go_ret
      exact ⟨retv (boolv (by rw [unhide hE3]; rfl)), unhide FIN _⟩
theorem wpList_rem_u64 {P : Program} {w : World} {ops : Array Oper} {rest : List Oper} {o : Oper} {a : Act} {Q : Exit → Act → World → Prop} (hg : o.guard = none) (x y : Operand) (t t' : TypeId) (ho : o.op = .binOp .rem t x y t')
    (m n V : Nat) (hx : a.eval x = .int .u64 (m : Int)) (hy : a.eval y = .int .u64 (n : Int)) (hn : n ≠ 0) (hV : m % n = V) (h : wpList P ops Q rest (a.put o.dst (.int .u64 (V : Int))) w) : wpList P ops Q (o :: rest) a w := by
  refine wpList_plain hg fun K hK => ?_
  have h1 := hK _ _ h
  unfold Oper.wp execOp
  simp only [ho, hx, hy]
  subst hV
  simp [eqGuard, binOp, Op.intDiv, hn]
  exact h1
def backV (x : Nat) : Int := if 4611686018427387904 ≤ x % 9223372036854775808 then ((x % 9223372036854775808 : Nat) : Int) - 9223372036854775808 else ((x % 9223372036854775808 : Nat) : Int)
theorem back_hi_math (V : Nat) (h : 4611686018427387904 ≤ V) (h2 : V < 9223372036854775808) : wrap64 (wrap64 (IntKind.u64.wrap ((V : Int) - 4611686018427387904)) - 4611686018427387904) = (V : Int) - 9223372036854775808 := by
  rw [IntWalk.u64_in _ (by omega)]
  unfold wrap64
  omega
theorem back_any (x : Nat) (w : World) :
    Calls Tryd.prog 51 #[.int .u64 (x : Int)] w fun e w' => e = .returned (.int .i64 (backV x)) ∧ w = w' := by
  obtain ⟨V, hV⟩ : ∃ V, x % 9223372036854775808 = V := ⟨_, rfl⟩
  have hV2 : V < 9223372036854775808 := by omega
  have HV := hide hV
  have HV2 := hide hV2
  by_cases h : 4611686018427387904 ≤ V
  · have H := hide (show backV x = (V : Int) - 9223372036854775808 by rw [backV, hV, if_pos h])
    have hb : decide ((4611686018427387904 : Int) ≤ (V : Int)) = true := decide_eq_true (by omega)
    have Hh := hide h
    clear hV h hV2
    go_enter Tryd.func51, Tryd.ntmps51
    go_wp2_with (refine wpList_rem_u64 rfl (.tmp 4) (.const (.int .u64 9223372036854775808)) 82 82 rfl x 9223372036854775808 V rfl rfl (by decide) (unhide HV) ?_)
    go_ret
    rw [unhide H]
    exact ⟨retv (intv (back_hi_math V (unhide Hh) (unhide HV2))), rfl⟩
  · have H := hide (show backV x = (V : Int) by rw [backV, hV, if_neg h])
    have hb : decide ((4611686018427387904 : Int) ≤ (V : Int)) = false := decide_eq_false (by omega)
    have Hh := hide (show wrap64 (V : Int) = V from w64 V (by omega))
    clear hV h hV2
    go_enter Tryd.func51, Tryd.ntmps51
    go_wp2_with (refine wpList_rem_u64 rfl (.tmp 4) (.const (.int .u64 9223372036854775808)) 82 82 rfl x 9223372036854775808 V rfl rfl (by decide) (unhide HV) ?_)
    go_ret
    rw [unhide H]
    exact ⟨retv (intv (unhide Hh)), rfl⟩
def u64n (n : Int) : Nat := (n % 18446744073709551616).toNat
theorem u64n_eq (n : Int) : IntKind.u64.wrap n = ((u64n n : Nat) : Int) := by
  simp [IntKind.wrap, IntKind.bits, IntKind.signed, u64n]
  omega
/-- A number as the language has it. -/
def wrapI (n : Int) : Int := backV (u64n n)
theorem refWrap_any (n : Int) (w : World) :
    Calls Tryd.prog 36 #[.int .i64 n] w fun e w' => e = .returned (.int .i64 (wrapI n)) ∧ w = w' := by
  have hc := back_any (u64n n) w
  rw [← u64n_eq] at hc
  have HC := hide hc
  clear hc
  go_enter Tryd.func36, Tryd.ntmps36
  go_wp2_with (go_at_call 51; refine (unhide HC).mono ?_; rintro e w' ⟨rfl, rfl⟩)
  go_ret
  exact ⟨rfl, rfl⟩
theorem wrap_math (n : Int) : wrap64 (IntKind.u64.wrap (IntKind.u64.wrap n * 2)) / 2 = wrapI n := by
  have h2 : IntKind.u64.wrap (((u64n n : Nat) : Int) * 2) = ((u64n n * 2 % 18446744073709551616 : Nat) : Int) := by
    simp [IntKind.wrap, IntKind.bits, IntKind.signed]
  rw [u64n_eq n, h2]
  have hlt : u64n n < 18446744073709551616 := by unfold u64n; omega
  unfold wrapI backV wrap64
  generalize u64n n = u at *
  split <;> omega
theorem wrap_any (n : Int) (w : World) :
    Calls Tryd.prog 38 #[.int .i64 n] w fun e w' => e = .returned (.int .i64 (wrapI n)) ∧ w = w' := by
  go_enter Tryd.func38, Tryd.ntmps38
  go_wp2_with fail
  go_ret
  exact ⟨retv (intv (wrap_math n)), rfl⟩
end Go.Proofs.YtejkaalhjocmgaaDoor
