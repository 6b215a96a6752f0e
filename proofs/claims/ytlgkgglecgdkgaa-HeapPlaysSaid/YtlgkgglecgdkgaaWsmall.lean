/-
  Walks of the heap's small functions.
-/
import Derived.Test.YtlgkgglecgdkgaaHm
import Derived.Test.YtlgkgglecgdkgaaRows
import Derived.Deep.QuietTactic
import Derived.BigQuiet
namespace Go.Proofs.Ytlgkgglecgdkgaa
open Go.RowKit
set_option maxHeartbeats 400000

theorem told_any (x : Nat) (w : World) (hx : x < 18446744073709551616) :
    Calls Try.prog 39 #[.int .u64 x] w fun e w' => e = .returned (.tuple #[.int .i64 (x%8 : Nat), .int .i64 (x / 65536 : Nat), .int .i64 (x/8%8192 : Nat)]) ∧ w = w' := by
  go_enter Try.func39, Try.ntmps39
  go_wp2
  go_ret3
  refine ⟨retv (tup3 (intv ?_) (intv ?_) (intv ?_)), rfl⟩
  · rw [and7 x hx, w64 _ (by omega)]
  · rfl
  · have h := and8191 (x / 8) (by omega)
    rw [show ((x / 8 : Nat) : Int) = (x : Int) / 8 from by omega] at h
    rw [h, w64 _ (by omega)]
theorem head_any (k t s : Nat) (w : World) (hk : k < 8) (ht : t ≤ 1048576) (hs : s < 8192):
    Calls Try.prog 37 #[.int .i64 k, .int .i64 t, .int .i64 s] w fun e w' => e = .returned (.int .u64 (t * 65536 + s * 8 + k : Nat)) ∧ w = w' := by
  go_enter Try.func37, Try.ntmps37
  go_wp2
  go_ret
  exact ⟨retv (intv (or3 k t s hk ht hs)), rfl⟩
theorem left_any (M : HM) (g bn bo bb : Nat) (w : World) (h : HRep w g bn bo bb M) :
    Calls Try.prog 25 #[.pointer (some ⟨g, 0, none⟩)] w fun e w' => e = .returned (.int .i64 ((M.size - M.now.length : Nat) : Int)) ∧ ∃ n, w' = w.drewN n := by
  have c0 := h.c0
  have c2 := h.c2
  have hl := h.len
  have hs := h.ok.s
  clear h
  go_enter Try.func25, Try.ntmps25
  go_wp2
  go_quiet (fail)
  go_wp2
  go_ret
  exact ⟨retv (intv (by omega)), _, rfl⟩
theorem at_any (M : HM) (g bn bo bb x : Nat) (w : World) (h : HRep w g bn bo bb M) (hx : x < 18446744073709551616) :
    Calls Try.prog 43 #[.pointer (some ⟨g, 0, none⟩), .int .u64 x] w fun e w' => e = .returned (.tuple #[.int .i64 (((M.at x).getD 0 : Nat) : Int), .bool (M.at x).isSome]) ∧ w = w' := by
  have c0 := h.c0
  have c3 := h.c3
  have hl := h.len
  have hs := h.ok.s
  have ha := and1 x hx
  by_cases h1 : x % 2 = 1
  · have hb : (bits .and .u64 (x : Int) 1 == 1) = true := by rw [ha, h1]; rfl
    have H := hide (show M.at x = none by simp [HM.at, h1])
    clear h ha
    go_enter Try.func43, Try.ntmps43
    go_wp2
    go_ret2
    rw [unhide H]
    exact ⟨rfl, rfl⟩
  · have hb : (bits .and .u64 (x : Int) 1 == 1) = false := by rw [ha, show x % 2 = 0 by omega]; rfl
    by_cases h2 : M.now.length ≤ x / 2
    · have H := hide (show M.at x = none by simp [HM.at, h1, h2])
      clear h ha
      go_enter Try.func43, Try.ntmps43
      go_wp2
      go_ret2
      rw [unhide H]
      exact ⟨rfl, rfl⟩
    · have hc := h.cb (i := x / 2) (by omega)
      cases h3 : M.beg.getD (x / 2) false
      · rw [h3] at hc
        have H := hide (show M.at x = none by
          have : ¬ M.beg[x / 2]? = some true := fun e => by simp [List.getD_eq_getElem?_getD, e] at h3
          simp [HM.at, this])
        clear h ha h3
        go_enter Try.func43, Try.ntmps43
        go_wp2
        go_ret2
        rw [unhide H]
        exact ⟨rfl, rfl⟩
      · rw [h3] at hc
        have H := hide (show M.at x = some (x / 2) by
          have : M.beg[x / 2]? = some true := by
            have hlt : x / 2 < M.beg.length := by have := h.ok.b; omega
            simp [List.getD_eq_getElem?_getD, List.getElem?_eq_getElem hlt] at h3 ⊢
            exact h3
          simp [HM.at, h1, h2, this])
        clear h ha h3
        go_enter Try.func43, Try.ntmps43
        go_wp2
        go_ret2
        rw [unhide H]
        exact ⟨rfl, rfl⟩
theorem value_any (M : HM) (g bn bo bb x : Nat) (w : World) (h : HRep w g bn bo bb M) (hx : x < 18446744073709551616) :
    Calls Try.prog 35 #[.pointer (some ⟨g, 0, none⟩), .int .u64 x] w fun e w' => e = .returned (.bool (M.value x)) ∧ w = w' := by
  have ha := and1 x hx
  by_cases h1 : x % 2 = 1
  · have hb : (bits .and .u64 (x : Int) 1 == 1) = true := by rw [ha, h1]; rfl
    have H := hide (show M.at x = none ∧ M.value x = true by simp [HM.value, HM.at, h1])
    have Hh := hide h
    clear h ha
    go_enter Try.func35, Try.ntmps35
    go_wp2_with (go_at_call 43; refine (at_any M g bn bo bb x _ (unhide Hh) hx).mono ?_; rintro e w' ⟨rfl, rfl⟩; rw [(unhide H).1])
    go_ret
    rw [(unhide H).2]
    exact ⟨rfl, rfl⟩
  · have hb : (bits .and .u64 (x : Int) 1 == 1) = false := by rw [ha, show x % 2 = 0 by omega]; rfl
    have Hh := hide h
    cases h2 : (M.at x).isSome
    · have H := hide (show M.value x = false by simp [HM.value, h1, h2])
      have H2 := hide h2
      clear h ha h2
      go_enter Try.func35, Try.ntmps35
      go_wp2_with (go_at_call 43; refine (at_any M g bn bo bb x _ (unhide Hh) hx).mono ?_; rintro e w' ⟨rfl, rfl⟩; rw [unhide H2])
      go_ret
      rw [(unhide H)]
      exact ⟨rfl, rfl⟩
    · have H := hide (show M.value x = true by simp [HM.value, h2])
      have H2 := hide h2
      clear h ha h2
      go_enter Try.func35, Try.ntmps35
      go_wp2_with (go_at_call 43; refine (at_any M g bn bo bb x _ (unhide Hh) hx).mono ?_; rintro e w' ⟨rfl, rfl⟩; rw [unhide H2])
      go_ret
      rw [(unhide H)]
      exact ⟨rfl, rfl⟩
end Go.Proofs.Ytlgkgglecgdkgaa
