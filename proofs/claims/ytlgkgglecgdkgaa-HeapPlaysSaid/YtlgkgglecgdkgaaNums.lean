/-
  HeapNums: any number is a word, and itself again; how many words a block needs is as the document says.
-/
import Derived.Test.YtlgkgglecgdkgaaWawake
namespace Go.Proofs.Ytlgkgglecgdkgaa
open Go.RowKit
set_option maxHeartbeats 400000
set_option maxRecDepth 100000

theorem wpList_rem_u64 {P : Program} {w : World} {ops : Array Oper} {rest : List Oper} {o : Oper} {a : Act} {Q : Exit → Act → World → Prop} (hg : o.guard = none) (x y : Operand) (t t' : TypeId) (ho : o.op = .binOp .rem t x y t')
    (m n V : Nat) (hx : a.eval x = .int .u64 (m : Int)) (hy : a.eval y = .int .u64 (n : Int)) (hn : n ≠ 0) (hV : m % n = V) (h : wpList P ops Q rest (a.put o.dst (.int .u64 (V : Int))) w) : wpList P ops Q (o :: rest) a w := by
  refine wpList_plain hg fun K hK => ?_
  have h1 := hK _ _ h
  unfold Oper.wp execOp
  simp only [ho, hx, hy]
  subst hV
  simp [eqGuard, binOp, Op.intDiv, hn]
  exact h1
def backV (x : Nat) : Int := if 4611686018427387904 ≤ x % 9223372036854775808 then ((x % 9223372036854775808 : Nat) : Int) - 9223372036854775808 else ((x % 9223372036854775808 : Nat) : Int)
theorem back_hi_math (V : Nat) (h : 4611686018427387904 ≤ V) (h2 : V < 9223372036854775808) : wrap64 (wrap64 (IntKind.u64.wrap ((V : Int) - 4611686018427387904)) - 4611686018427387904) = (V : Int) - 9223372036854775808 := by
  rw [IntWalk.u64_in _ (by omega)]
  unfold wrap64
  omega
theorem back_any (x : Nat) (w : World) :
    Calls Try.prog 33 #[.int .u64 (x : Int)] w fun e w' => e = .returned (.int .i64 (backV x)) ∧ w = w' := by
  obtain ⟨V, hV⟩ : ∃ V, x % 9223372036854775808 = V := ⟨_, rfl⟩
  have hV2 : V < 9223372036854775808 := by omega
  have HV := hide hV
  have HV2 := hide hV2
  by_cases h : 4611686018427387904 ≤ V
  · have H := hide (show backV x = (V : Int) - 9223372036854775808 by rw [backV, hV, if_pos h])
    have hb : decide ((4611686018427387904 : Int) ≤ (V : Int)) = true := decide_eq_true (by omega)
    have Hh := hide h
    clear hV h hV2
    go_enter Try.func33, Try.ntmps33
    go_wp2_with (refine wpList_rem_u64 rfl (.tmp 4) (.const (.int .u64 9223372036854775808)) 22 22 rfl x 9223372036854775808 V rfl rfl (by decide) (unhide HV) ?_)
    go_ret
    rw [unhide H]
    exact ⟨retv (intv (back_hi_math V (unhide Hh) (unhide HV2))), rfl⟩
  · have H := hide (show backV x = (V : Int) by rw [backV, hV, if_neg h])
    have hb : decide ((4611686018427387904 : Int) ≤ (V : Int)) = false := decide_eq_false (by omega)
    have Hh := hide (show wrap64 (V : Int) = V from w64 V (by omega))
    clear hV h hV2
    go_enter Try.func33, Try.ntmps33
    go_wp2_with (refine wpList_rem_u64 rfl (.tmp 4) (.const (.int .u64 9223372036854775808)) 22 22 rfl x 9223372036854775808 V rfl rfl (by decide) (unhide HV) ?_)
    go_ret
    rw [unhide H]
    exact ⟨retv (intv (unhide Hh)), rfl⟩
def u64n (n : Int) : Nat := (n % 18446744073709551616).toNat
theorem u64n_eq (n : Int) : IntKind.u64.wrap n = ((u64n n : Nat) : Int) := by
  simp [IntKind.wrap, IntKind.bits, IntKind.signed, u64n]
  omega
theorem refWrap_any (n : Int) (w : World) :
    Calls Try.prog 9 #[.int .i64 n] w fun e w' => e = .returned (.int .i64 (backV (u64n n))) ∧ w = w' := by
  have hc := back_any (u64n n) w
  rw [← u64n_eq] at hc
  have HC := hide hc
  clear hc
  go_enter Try.func9, Try.ntmps9
  go_wp2_with (go_at_call 33; refine (unhide HC).mono ?_; rintro e w' ⟨rfl, rfl⟩)
  go_ret
  exact ⟨rfl, rfl⟩
theorem isNum_num (n : Int) : isNumV (numW n) = backV (u64n n) := by
  unfold isNumV numW backV u64n wrap64
  rw [if_pos (by omega)]
  split <;> omega
theorem num_isNum (x : Nat) (hx : x < 18446744073709551616) (h1 : x % 2 = 1) : numW (isNumV x) = x := by
  unfold isNumV numW wrap64
  rw [if_pos h1]
  omega
theorem numW_lt (n : Int) : numW n < 18446744073709551616 := by unfold numW; omega
theorem numW_odd (n : Int) : numW n % 2 = 1 := by unfold numW; omega

theorem refNeed_text (s : ByteArray) (w : World) (hs : s.size ≤ 1048576) :
    Calls Try.prog 12 #[.agg #[.int .i64 4, .int .i64 0, .string s, .slice none 0 0]] w fun e w' => e = .returned (.int .i64 (((s.size + 7) / 8 : Nat) + 1 : Int)) ∧ Chg (fun _ => False) w w' := by
  go_enter Try.func12, Try.ntmps12
  go_wp2
  go_ret
  exact ⟨retv (intv (by omega)), by repeat (first | exact Chg.refl _ _ | refine Chg.alloc ?_ _)⟩

theorem nums_out (n parts : Int) (x : Nat) (s : ByteArray) (w : World) (h : 300 < s.size ∨ parts < 0 ∨ 5000 < parts) (hs : (s.size : Int) ≤ 9223372036854775807) :
    Calls Try.prog 3 #[.int .i64 n, .int .u64 (x : Int), .int .i64 parts, .string s] w fun e w' => e = .returned (.bool true) ∧ Chg (fun _ => False) w w' := by
  by_cases h1 : 300 < s.size
  · clear h
    go_enter Try.func3, Try.ntmps3
    go_wp2_with fail
    refine (awake_any _).mono ?_
    rintro e w1 ⟨rfl, c1⟩
    have C1 := hide c1
    clear c1
    go_wp2_with fail
    refine (awake_any _).mono ?_
    rintro e w2 ⟨rfl, c2⟩
    have C2 := hide c2
    clear c2
    go_wp2_with fail
    go_ret
    exact ⟨rfl, (unhide C1).trans' (unhide C2)⟩
  · by_cases h2 : parts < 0
    · clear h
      go_enter Try.func3, Try.ntmps3
      go_wp2_with fail
      refine (awake_any _).mono ?_
      rintro e w1 ⟨rfl, c1⟩
      have C1 := hide c1
      clear c1
      go_wp2_with fail
      refine (awake_any _).mono ?_
      rintro e w2 ⟨rfl, c2⟩
      have C2 := hide c2
      clear c2
      go_wp2_with fail
      go_ret
      exact ⟨rfl, (unhide C1).trans' (unhide C2)⟩
    · have h3 : 5000 < parts := by omega
      clear h
      go_enter Try.func3, Try.ntmps3
      go_wp2_with fail
      refine (awake_any _).mono ?_
      rintro e w1 ⟨rfl, c1⟩
      have C1 := hide c1
      clear c1
      go_wp2_with fail
      refine (awake_any _).mono ?_
      rintro e w2 ⟨rfl, c2⟩
      have C2 := hide c2
      clear c2
      go_wp2_with fail
      go_ret
      exact ⟨rfl, (unhide C1).trans' (unhide C2)⟩

set_option maxHeartbeats 2000000 in
theorem nums_in (n : Int) (parts x : Nat) (s : ByteArray) (w : World) (h1 : s.size ≤ 300) (h2 : parts ≤ 5000) (hx : x < 18446744073709551616) :
    Calls Try.prog 3 #[.int .i64 n, .int .u64 (x : Int), .int .i64 (parts : Int), .string s] w fun e w' => e = .returned (.bool true) ∧ Chg (fun _ => False) w w' := by
  go_enter Try.func3, Try.ntmps3
  go_wp2_with fail
  refine (awake_any _).mono ?_
  rintro e w1 ⟨rfl, c1⟩
  have C1 := hide c1
  clear c1
  have Hn1 := isNum_any (numW n) w1 (numW_lt n)
  rw [isNum_num, show (numW n % 2 == 1) = true by simp [numW_odd]] at Hn1
  have HN1 := hide Hn1
  have HN2 := hide (isNum_any x w1 hx)
  have HW := hide (refWrap_any n w1)
  have HT := hide (needText_any s w1 (by omega))
  have HR := hide (refNeed_text s w1 (by omega))
  have HP := hide (need_any (parts : Int) w1 (by omega) (by omega))
  have hmod : ((x : Int) % 2 == 1) = (x % 2 == 1) := by
    rcases Nat.mod_two_eq_zero_or_one x with h | h
    · rw [show (x : Int) % 2 = 0 by omega, h]; rfl
    · rw [show (x : Int) % 2 = 1 by omega, h]; rfl
  clear Hn1
  by_cases ho : x % 2 = 1
  · rw [show (x % 2 == 1) = true by simp [ho]] at HN2 hmod
    have hnum := num_any (isNumV x) w1
    rw [num_isNum x hx ho] at hnum
    have HNN := hide hnum
    clear hnum
    generalize isNumV x = Y at *
    generalize backV (u64n n) = V at *
    go_wp2_with fail
    refine (num_any n w1).mono ?_
    rintro e w' ⟨rfl, rfl⟩
    go_wp2_with fail
    refine (unhide HN1).mono ?_
    rintro e w' ⟨rfl, rfl⟩
    go_wp2_with fail
    refine (unhide HN2).mono ?_
    rintro e w' ⟨rfl, rfl⟩
    go_wp2_with fail
    refine (unhide HW).mono ?_
    rintro e w' ⟨rfl, rfl⟩
    go_wp2_with fail
    refine (unhide HNN).mono ?_
    rintro e w' ⟨rfl, rfl⟩
    go_wp2_with fail
    refine (unhide HP).mono ?_
    rintro e w' ⟨rfl, rfl⟩
    go_wp2_with fail
    refine (unhide HT).mono ?_
    rintro e w' ⟨rfl, rfl⟩
    go_wp2_with fail
    refine (unhide HR).mono ?_
    rintro e w2 ⟨rfl, c2⟩
    have C2 := hide c2
    clear c2
    go_wp2_with fail
    go_ret
    exact ⟨rfl, (unhide C1).trans' (unhide C2)⟩
  · rw [show (x % 2 == 1) = false by simp [ho]] at HN2 hmod
    rw [show isNumV x = 0 by simp [isNumV, ho]] at HN2
    generalize backV (u64n n) = V at *
    go_wp2_with fail
    refine (num_any n w1).mono ?_
    rintro e w' ⟨rfl, rfl⟩
    go_wp2_with fail
    refine (unhide HN1).mono ?_
    rintro e w' ⟨rfl, rfl⟩
    go_wp2_with fail
    refine (unhide HN2).mono ?_
    rintro e w' ⟨rfl, rfl⟩
    go_wp2_with fail
    refine (unhide HW).mono ?_
    rintro e w' ⟨rfl, rfl⟩
    go_wp2_with fail
    refine (unhide HP).mono ?_
    rintro e w' ⟨rfl, rfl⟩
    go_wp2_with fail
    refine (unhide HT).mono ?_
    rintro e w' ⟨rfl, rfl⟩
    go_wp2_with fail
    refine (unhide HR).mono ?_
    rintro e w2 ⟨rfl, c2⟩
    have C2 := hide c2
    clear c2
    go_wp2_with fail
    go_ret
    exact ⟨rfl, (unhide C1).trans' (unhide C2)⟩
end Go.Proofs.Ytlgkgglecgdkgaa
