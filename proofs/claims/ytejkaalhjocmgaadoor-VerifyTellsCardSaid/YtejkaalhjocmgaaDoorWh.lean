/-
  Layer 19: whether a text is a constructor's name: the document's side.
-/
import Derived.Test.YtejkaalhjocmgaaDoorWg
namespace Go.Proofs.YtejkaalhjocmgaaDoor
open Go.RowKit
set_option maxHeartbeats 1000000
set_option maxRecDepth 100000
/-- May a byte stand within a name? -/
def innerB (c : Nat) : Bool := decide (1 ≤ isB c ∧ isB c ≤ 4)
def spanN (s : ByteArray) : Nat := (s.data.toList.takeWhile (fun b => innerB b.toNat)).length
def allInner (s : ByteArray) : Bool := s.data.toList.all (fun b => innerB b.toNat)
theorem span_stop {α : Type} (p : α → Bool) : ∀ (l : List α) (k : Nat), k ≤ l.length → (∀ j (h : j < l.length), j < k → p l[j] = true) → (∀ (h : k < l.length), p l[k] = false) → (l.takeWhile p).length = k := by
  intro l
  induction l with
  | nil => intro k hk _ _; simp at hk; simp [hk]
  | cons x l ih =>
    intro k hk h1 h2
    cases k with
    | zero =>
      have := h2 (by simp)
      simp at this
      simp [this]
    | succ k =>
      have hx := h1 0 (by simp) (by omega)
      simp at hx
      rw [List.takeWhile_cons, if_pos hx, List.length_cons, ih k (by simpa using hk) (fun j h hj => by have := h1 (j + 1) (by simpa using h) (by omega); simpa using this) (fun h => by have := h2 (by simpa using h); simpa using this)]
theorem take_all {α : Type} (p : α → Bool) : ∀ l : List α, l.all p = true → l.takeWhile p = l := by
  intro l
  induction l with
  | nil => intro _; rfl
  | cons x l ih =>
    intro h
    rw [List.all_cons, Bool.and_eq_true] at h
    rw [List.takeWhile_cons, if_pos h.1, ih h.2]
theorem span_all {α : Type} (p : α → Bool) (l : List α) : (((l.takeWhile p).length : Int) == (l.length : Int)) = l.all p := by
  rw [Bool.eq_iff_iff, beq_iff_eq]
  constructor
  · intro h
    induction l with
    | nil => rfl
    | cons x l ih =>
      rw [List.takeWhile_cons] at h
      split at h
      · rename_i hx
        simp only [List.length_cons] at h
        rw [List.all_cons, hx, Bool.true_and]
        exact ih (by omega)
      · simp at h
        omega
  · intro h
    rw [take_all p l h]
theorem while_any (s : ByteArray) (w : World) (hs : s.size ≤ 9223372036854775807) : Calls Tryd.prog 62 #[.string s, .int .i64 0, .int .i64 1, .int .i64 4] w fun e w' => e = .returned (.int .i64 (spanN s : Nat)) ∧ w = w' := by
  have HS := hide (span_stop (fun b : UInt8 => innerB b.toNat) s.data.toList)
  have hn : spanN s = (s.data.toList.takeWhile (fun b => innerB b.toNat)).length := rfl
  generalize spanN s = N at *
  have HN := hide hn
  clear hn
  go_enter Tryd.func62, Tryd.ntmps62
  go_wp2_with fail
  go_loop [1] (fun i => ∃ k : Nat, i = .int .i64 k ∧ k ≤ s.size ∧ ∀ j (h : j < s.data.toList.length), j < k → innerB (s.data.toList[j]).toNat = true) (fun i => s.size - (intOf i).toNat)
  case atStart => exact ⟨0, rfl, Nat.zero_le _, fun j h h2 => absurd h2 (by omega)⟩
  case round =>
    obtain ⟨k, rfl, hk, hall⟩ := hrel
    have HALL := hide hall
    clear hall
    by_cases hlt : k < s.size
    · have hl : k < s.data.toList.length := by simpa using hlt
      have hc := is_any (s[k]).toNat w (by have := (s[k]).toNat_lt; omega)
      have hin : innerB (s.data.toList[k]).toNat = innerB (s[k]).toNat := rfl
      have hib : innerB (s[k]).toNat = decide (1 ≤ isB (s[k]).toNat ∧ isB (s[k]).toNat ≤ 4) := rfl
      generalize hv : isB (s[k]).toNat = v at *
      have HV := hide hv
      have HC := hide hc
      have hcase : (1 ≤ v ∧ v ≤ 4) ∨ (1 ≤ v ∧ 4 < v) ∨ v < 1 := by omega
      have HIN := hide hin
      have HIB := hide hib
      clear hc hin hib hv
      rcases hcase with ⟨h1, h2⟩ | ⟨h1, h2⟩ | h1
      · go_wp2_with (go_at_call 61; refine (unhide HC).mono ?_; rintro e w' ⟨rfl, rfl⟩)
        go_round
        case rel => exact ⟨k + 1, by go_num, by omega, fun j h hj => by
          rcases Nat.lt_or_ge j k with h3 | h3
          · exact (unhide HALL) j h h3
          · obtain rfl : j = k := by omega
            rw [unhide HIN, unhide HIB]
            exact decide_eq_true ⟨h1, h2⟩⟩
        case measure => simp [intOf]; omega
      all_goals
        have HF := hide (show N = k from (unhide HN).trans ((unhide HS) k (by simp; omega) (unhide HALL) (fun h => by
          show innerB (s.data.toList[k]).toNat = false
          rw [unhide HIN, unhide HIB]
          exact decide_eq_false (by omega))))
        go_wp2_with (go_at_call 61; refine (unhide HC).mono ?_; rintro e w' ⟨rfl, rfl⟩)
        go_ret
        exact ⟨retv (intv (by rw [unhide HF])), rfl⟩
    · obtain rfl : k = s.size := by omega
      have HF := hide (show N = s.size from (unhide HN).trans ((unhide HS) s.size (by simp) (unhide HALL) (fun h => absurd h (by simp))))
      go_wp2_with fail
      go_ret
      exact ⟨retv (intv (by rw [unhide HF])), rfl⟩
def headB (s : ByteArray) : Bool := match s.data.toList with | [] => false | b :: _ => isB b.toNat == 2
/-- Is a text a constructor's name? -/
def conB (s : ByteArray) : Bool := headB s && allInner s && !keyB s
theorem headB_some (s : ByteArray) (h : 0 < s.size) : headB s = (isB (s[0]).toNat == 2) := by
  unfold headB
  obtain ⟨⟨l⟩⟩ := s
  cases l with
  | nil => exact absurd (show 0 < 0 from h) (Nat.lt_irrefl 0)
  | cons b l => rfl
theorem empty_iff (s : ByteArray) : s.toList.isEmpty = decide (s.size = 0) := by
  rw [ByteArray.toList_eq]
  obtain ⟨⟨l⟩⟩ := s
  cases l with
  | nil => rfl
  | cons b l => exact (decide_eq_false (show ¬ l.length + 1 = 0 by omega)).symm
theorem headB_none (s : ByteArray) (h : s.size = 0) : headB s = false := by
  unfold headB
  obtain ⟨⟨l⟩⟩ := s
  cases l with
  | nil => rfl
  | cons b l => exact absurd (show l.length + 1 = 0 from h) (by omega)
theorem refRight_con (s : ByteArray) (w : World) (hs : s.size ≤ 9223372036854775807) : Calls Tryd.prog 59 #[.agg #[.int .i64 2, .string s, .int .i64 0, .int .i64 0]] w fun e w' => e = .returned (.bool (conB s)) ∧ Chg (fun _ => False) w w' := by
  have hE : conB s = (headB s && allInner s && !keyB s) := rfl
  have hem := empty_iff s
  have hw := fun W => while_any s W hs
  have hk := fun W => refKey_any s W
  have ha : ((spanN s : Int) == (s.size : Int)) = allInner s := by
    have := span_all (fun b : UInt8 => innerB b.toNat) s.data.toList
    simpa [spanN, allInner] using this
  have hb := Blk.new w 89 #[.int .i64 2, .string s, .int .i64 0, .int .i64 0]
  have HC0 := hide ((Chg.refl (fun _ => False) w).alloc (.cells #[.int .i64 2, .string s, .int .i64 0, .int .i64 0] 89))
  have x0 := hb.cell 0
  have x1 := hb.cell 1
  have x2 := hb.cell 2
  simp only [List.getElem?_toArray, List.getElem?_cons_zero, List.getElem?_cons_succ] at x0 x1 x2
  have r0 := fun d os => cell_regrown x0 d os
  have r1 := fun d os => cell_regrown x1 d os
  have r2 := fun d os => cell_regrown x2 d os
  generalize conB s = E at *
  have HW := hide hw
  have HK := hide hk
  by_cases h0 : s.size = 0
  · have e1 : s.toList.isEmpty = true := by rw [hem]; exact decide_eq_true h0
    have e2 : (!s.toList.isEmpty) = false := by rw [e1]; rfl
    have HE := hide (show E = false by rw [hE, headB_none s h0]; rfl)
    clear hE hem hw hk ha hb x0 x1 x2
    go_enter Tryd.func59, Tryd.ntmps59
    go_upto_region 7 with fail
    refine wp_region_quiet_below (by kernel_rfl) (by kernel_rfl) ?_
    repeat (any_goals (first | go_big_quiet_step (fail) | quiet_step (fail)))
    refine wpQuiet_nil ?_
    intro _ hw'
    obtain ⟨⟨dq, osq⟩, hw''⟩ := hw'
    subst hw''
    have HQ := hide (chg_regrown (w.alloc (.cells #[.int .i64 2, .string s, .int .i64 0, .int .i64 0] 89)) dq osq)
    generalize Go.Sort.grow (redrawn (w.alloc (.cells #[.int .i64 2, .string s, .int .i64 0, .int .i64 0] 89)) dq) osq = w2 at *
    clear r0 r1 r2
    try dsimp only
    go_wp2_with fail
    go_ret
    exact ⟨retv (boolv (unhide HE).symm), (unhide HC0).trans' (unhide HQ)⟩
  · have e1 : s.toList.isEmpty = false := by rw [hem]; exact decide_eq_false h0
    have e2 : (!s.toList.isEmpty) = true := by rw [e1]; rfl
    have hpos : 0 < s.size := by omega
    have hh := headB_some s hpos
    have hi := fun W => is_any (s[0]).toNat W (by have := (s[0]).toNat_lt; omega)
    generalize isB (s[0]).toNat = v at *
    generalize spanN s = N at *
    generalize allInner s = al at *
    generalize keyB s = kb at *
    rw [hh] at hE
    have HI := hide hi
    cases hv : (v == 2) <;> cases al <;> cases kb
    all_goals
      have HE := hide hE
      rw [hv] at HE
      clear hE hem hw hk hb x0 x1 x2 hh hi
      go_enter Tryd.func59, Tryd.ntmps59
      go_upto_region 7 with fail
      refine wp_region_quiet_below (by kernel_rfl) (by kernel_rfl) ?_
      repeat (any_goals (first
        | go_big_quiet_step ((first | exact Calls.regrown_of (rq ((unhide HK) _)) | exact Calls.regrown_of (rq (((unhide HI) _).mono (fun _ _ h => ⟨h.1, h.2 ▸ Chg.refl _ _⟩))) | exact Calls.regrown_of (rq (((unhide HW) _).mono (fun _ _ h => ⟨h.1, h.2 ▸ Chg.refl _ _⟩)))))
        | quiet_step ((first | exact Calls.regrown_of (rq ((unhide HK) _)) | exact Calls.regrown_of (rq (((unhide HI) _).mono (fun _ _ h => ⟨h.1, h.2 ▸ Chg.refl _ _⟩))) | exact Calls.regrown_of (rq (((unhide HW) _).mono (fun _ _ h => ⟨h.1, h.2 ▸ Chg.refl _ _⟩)))))))
      refine wpQuiet_nil ?_
      intro _ hw'
      obtain ⟨⟨dq, osq⟩, hw''⟩ := hw'
      subst hw''
      have HQ := hide (chg_regrown (w.alloc (.cells #[.int .i64 2, .string s, .int .i64 0, .int .i64 0] 89)) dq osq)
      generalize Go.Sort.grow (redrawn (w.alloc (.cells #[.int .i64 2, .string s, .int .i64 0, .int .i64 0] 89)) dq) osq = w2 at *
      clear r0 r1 r2
      try dsimp only
      go_wp2_with fail
      go_ret
      exact ⟨retv (boolv (by rw [unhide HE]; rfl)), (unhide HC0).trans' (unhide HQ)⟩
theorem refCon_any (s : ByteArray) (w : World) (hs : s.size ≤ 9223372036854775807) : Calls Tryd.prog 50 #[.string s] w fun e w' => e = .returned (.bool (conB s)) ∧ Chg (fun _ => False) w w' := by
  have HR := hide (refRight_con s w hs)
  go_enter Tryd.func50, Tryd.ntmps50
  go_wp2_with (go_at_call 59; refine (unhide HR).mono ?_; rintro e w2 ⟨rfl, hc2⟩; have HC2 := hide hc2; clear hc2)
  go_ret
  exact ⟨rfl, unhide HC2⟩
end Go.Proofs.YtejkaalhjocmgaaDoor
