/-
  Layer 19: whether a thing may be; which one is ahead.
-/
import Derived.Test.YtejkaalhjocmgaaDoorWc
namespace Go.Proofs.YtejkaalhjocmgaaDoor
open Go.RowKit
set_option maxHeartbeats 1000000
set_option maxRecDepth 100000
theorem qw {k : Nat} {args : Array Value} {w : World} {v : Value} (h : Calls Tryd.prog k args w fun e w' => e = .returned v ∧ w = w') : Calls Tryd.prog k args w fun e w' => e = .returned v ∧ w' = w := h.mono (fun _ _ h => ⟨h.1, h.2.symm⟩)
def lessC (a b : Cst) : Bool := if a.isText then (if b.isText then Op.bytesLess a.text.toList b.text.toList else false) else (if b.isText then true else decide (a.num < b.num))
def cstOkB (c : Cst) : Bool := if c.isText then (c.num == 0 && decide (c.text.size ≤ 200)) else (c.text.toList.isEmpty && wrapI c.num == c.num)
theorem refRight_any (c : Cst) (w : World) (hs : c.text.size ≤ 9223372036854775807) : Calls Tryd.prog 26 #[.agg #[.bool c.isText, .int .i64 c.num, .string c.text]] w fun e w' => e = .returned (.bool (cstOkB c)) ∧ Chg (fun _ => False) w w' := by
  obtain ⟨it, n, t⟩ := c
  dsimp only at hs ⊢
  obtain ⟨E, hE⟩ : ∃ E, E = cstOkB ⟨it, n, t⟩ := ⟨_, rfl⟩
  have hE2 : E = if it then (n == 0 && decide (t.size ≤ 200)) else (t.toList.isEmpty && wrapI n == n) := hE
  rw [← hE]
  clear hE
  have FIN := hide (fun W => ((Chg.refl (fun _ => False) W).alloc (.cells #[.bool it, .int .i64 n, .string t] 46)))
  cases it
  case true =>
    cases h0 : (n == 0)
    case false =>
      obtain rfl : E = false := by rw [hE2, h0]; rfl
      clear hE2
      go_enter Tryd.func26, Tryd.ntmps26
      go_wp2_with fail
      go_ret
      exact ⟨rfl, unhide FIN _⟩
    case true =>
      by_cases h1 : t.size ≤ 200
      · obtain rfl : E = true := by rw [hE2, h0, if_pos rfl, decide_eq_true h1]; rfl
        have h2 : decide ((t.size : Int) ≤ 200) = true := decide_eq_true (by omega)
        clear hE2
        go_enter Tryd.func26, Tryd.ntmps26
        go_wp2_with fail
        go_ret
        exact ⟨rfl, unhide FIN _⟩
      · obtain rfl : E = false := by rw [hE2, h0, if_pos rfl, decide_eq_false h1]; rfl
        have h2 : decide ((t.size : Int) ≤ 200) = false := decide_eq_false (by omega)
        clear hE2
        go_enter Tryd.func26, Tryd.ntmps26
        go_wp2_with fail
        go_ret
        exact ⟨rfl, unhide FIN _⟩
  case false =>
    have HW := hide (refWrap_any n)
    cases h0 : t.toList.isEmpty
    case false =>
      have HE := hide hE2
      clear hE2
      go_enter Tryd.func26, Tryd.ntmps26
      go_wp2_with fail
      go_quiet (fail)
      go_wp2_with fail
      refine bodyPost_ret (v := .bool E) ?_ rfl ⟨rfl, (unhide FIN _).drewN _⟩
      rw [unhide HE]
      simp [results, Tryd.results26, go_sem, h0]
    case true =>
      generalize hwn : wrapI n = wn at *
      have HWN := hide hwn
      cases h1 : (wn == n)
      all_goals
        have HE := hide hE2
        clear hE2 hwn
        go_enter Tryd.func26, Tryd.ntmps26
        go_wp2_with fail
        go_quiet ((go_at_call 36; exact Calls.quiet_of_same (qw (unhide HW _))))
        go_wp2_with fail
        refine bodyPost_ret (v := .bool E) ?_ rfl ⟨rfl, (unhide FIN _).drewN _⟩
        rw [unhide HE]
        simp [results, Tryd.results26, go_sem, h0, h1]
theorem right_any (c : Cst) (w : World) (hs : c.text.size ≤ 9223372036854775807) : Calls Tryd.prog 29 #[.agg #[.bool c.isText, .int .i64 c.num, .string c.text]] w fun e w' => e = .returned (.bool (cstOkB c)) ∧ Chg (fun _ => False) w w' := by
  obtain ⟨it, n, t⟩ := c
  dsimp only at hs ⊢
  obtain ⟨E, hE⟩ : ∃ E, E = cstOkB ⟨it, n, t⟩ := ⟨_, rfl⟩
  have hE2 : E = if it then (n == 0 && decide (t.size ≤ 200)) else (t.toList.isEmpty && wrapI n == n) := hE
  rw [← hE]
  clear hE
  have FIN := hide (fun W => ((Chg.refl (fun _ => False) W).alloc (.cells #[.bool it, .int .i64 n, .string t] 46)))
  cases it
  case true =>
    cases h0 : (n == 0)
    case false =>
      obtain rfl : E = false := by rw [hE2, h0]; rfl
      clear hE2
      go_enter Tryd.func29, Tryd.ntmps29
      go_wp2_with fail
      go_ret
      exact ⟨rfl, unhide FIN _⟩
    case true =>
      by_cases h1 : t.size ≤ 200
      · obtain rfl : E = true := by rw [hE2, h0, if_pos rfl, decide_eq_true h1]; rfl
        have h2 : decide ((t.size : Int) ≤ 200) = true := decide_eq_true (by omega)
        clear hE2
        go_enter Tryd.func29, Tryd.ntmps29
        go_wp2_with fail
        go_ret
        exact ⟨rfl, unhide FIN _⟩
      · obtain rfl : E = false := by rw [hE2, h0, if_pos rfl, decide_eq_false h1]; rfl
        have h2 : decide ((t.size : Int) ≤ 200) = false := decide_eq_false (by omega)
        clear hE2
        go_enter Tryd.func29, Tryd.ntmps29
        go_wp2_with fail
        go_ret
        exact ⟨rfl, unhide FIN _⟩
  case false =>
    have HW := hide (wrap_any n)
    cases h0 : t.toList.isEmpty
    case false =>
      have HE := hide hE2
      clear hE2
      go_enter Tryd.func29, Tryd.ntmps29
      go_wp2_with fail
      go_quiet (fail)
      go_wp2_with fail
      refine bodyPost_ret (v := .bool E) ?_ rfl ⟨rfl, (unhide FIN _).drewN _⟩
      rw [unhide HE]
      simp [results, Tryd.results29, go_sem, h0]
    case true =>
      generalize hwn : wrapI n = wn at *
      have HWN := hide hwn
      cases h1 : (wn == n)
      all_goals
        have HE := hide hE2
        clear hE2 hwn
        go_enter Tryd.func29, Tryd.ntmps29
        go_wp2_with fail
        go_quiet ((go_at_call 38; exact Calls.quiet_of_same (qw (unhide HW _))))
        go_wp2_with fail
        refine bodyPost_ret (v := .bool E) ?_ rfl ⟨rfl, (unhide FIN _).drewN _⟩
        rw [unhide HE]
        simp [results, Tryd.results29, go_sem, h0, h1]
theorem refLess_any (a b : Cst) (w : World) : Calls Tryd.prog 27 #[.agg #[.bool a.isText, .int .i64 a.num, .string a.text], .agg #[.bool b.isText, .int .i64 b.num, .string b.text]] w fun e w' => e = .returned (.bool (lessC a b)) ∧ Chg (fun _ => False) w w' := by
  obtain ⟨it, n, t⟩ := a
  obtain ⟨jt, m, u⟩ := b
  dsimp only
  obtain ⟨E, hE⟩ : ∃ E, E = lessC ⟨it, n, t⟩ ⟨jt, m, u⟩ := ⟨_, rfl⟩
  have hE2 : E = if it then (if jt then Op.bytesLess t.toList u.toList else false) else (if jt then true else decide (n < m)) := hE
  rw [← hE]
  clear hE
  have FIN := hide (fun W => (((Chg.refl (fun _ => False) W).alloc (.cells #[.bool it, .int .i64 n, .string t] 46))).alloc (.cells #[.bool jt, .int .i64 m, .string u] 46))
  generalize hl : Op.bytesLess t.toList u.toList = bl at *
  generalize hd : decide (n < m) = dl at *
  cases it <;> cases jt <;> cases bl <;> cases dl
  all_goals
    have HE := hide hE2
    clear hE2
    go_enter Tryd.func27, Tryd.ntmps27
    go_wp2_with fail
    refine bodyPost_ret (v := .bool E) ?_ rfl ⟨rfl, unhide FIN _⟩
    rw [unhide HE]
    simp [results, Tryd.results27, go_sem]
theorem less_any (a b : Cst) (w : World) : Calls Tryd.prog 30 #[.agg #[.bool a.isText, .int .i64 a.num, .string a.text], .agg #[.bool b.isText, .int .i64 b.num, .string b.text]] w fun e w' => e = .returned (.bool (lessC a b)) ∧ Chg (fun _ => False) w w' := by
  obtain ⟨it, n, t⟩ := a
  obtain ⟨jt, m, u⟩ := b
  dsimp only
  obtain ⟨E, hE⟩ : ∃ E, E = lessC ⟨it, n, t⟩ ⟨jt, m, u⟩ := ⟨_, rfl⟩
  have hE2 : E = if it then (if jt then Op.bytesLess t.toList u.toList else false) else (if jt then true else decide (n < m)) := hE
  rw [← hE]
  clear hE
  have FIN := hide (fun W => (((Chg.refl (fun _ => False) W).alloc (.cells #[.bool it, .int .i64 n, .string t] 46))).alloc (.cells #[.bool jt, .int .i64 m, .string u] 46))
  generalize hl : Op.bytesLess t.toList u.toList = bl at *
  generalize hd : decide (n < m) = dl at *
  cases it <;> cases jt <;> cases bl <;> cases dl
  all_goals
    have HE := hide hE2
    clear hE2
    go_enter Tryd.func30, Tryd.ntmps30
    go_wp2_with fail
    refine bodyPost_ret (v := .bool E) ?_ rfl ⟨rfl, unhide FIN _⟩
    rw [unhide HE]
    simp [results, Tryd.results30, go_sem]
end Go.Proofs.YtejkaalhjocmgaaDoor
