/-
  Walks of the heap's Alloc.
-/
import Derived.Test.YtlgkgglecgdkgaaWpart
namespace Go.Proofs.Ytlgkgglecgdkgaa
open Go.RowKit
set_option maxHeartbeats 400000
set_option maxRecDepth 100000

/-- What Alloc asks, but for room. -/
def allocB (k tag : Int) (M : HM) (parts : List Nat) : Bool :=
  decide (1 ≤ k ∧ k ≤ 3 ∧ 0 ≤ tag ∧ tag ≤ 1048576 ∧ parts.length ≤ 4096) && parts.all M.value

theorem alloc_out (g n c : Nat) (A : Option Addr) (k tag : Int) (w : World)
    (hn : n ≤ 1048576) (hk : ¬ (1 ≤ k ∧ k ≤ 3 ∧ 0 ≤ tag ∧ tag ≤ 1048576 ∧ n ≤ 4096)) :
    Calls Try.prog 16 #[.pointer (some ⟨g, 0, none⟩), .int .i64 k, .int .i64 tag, .slice A n c] w fun e w' =>
      e = .returned (.tuple #[.int .u64 0, .bool false]) ∧ w = w' := by
  by_cases h1 : k < 1
  · clear hk
    go_enter Try.func16, Try.ntmps16
    go_wp2_with fail
    go_ret2
    exact ⟨rfl, rfl⟩
  by_cases h2 : 3 < k
  · clear hk
    go_enter Try.func16, Try.ntmps16
    go_wp2_with fail
    go_ret2
    exact ⟨rfl, rfl⟩
  by_cases h3 : tag < 0
  · clear hk
    go_enter Try.func16, Try.ntmps16
    go_wp2_with fail
    go_ret2
    exact ⟨rfl, rfl⟩
  by_cases h4 : 1048576 < tag
  · clear hk
    go_enter Try.func16, Try.ntmps16
    go_wp2_with fail
    go_ret2
    exact ⟨rfl, rfl⟩
  · have h5 : 4096 < n := by omega
    clear hk
    go_enter Try.func16, Try.ntmps16
    go_wp2_with fail
    go_ret2
    exact ⟨rfl, rfl⟩

theorem wv_at (l : List Nat) {k : Nat} (hk : k < l.length) : (l.map wv)[k]? = some (.int .u64 ((l.getD k 0 : Nat) : Int)) := by
  simp [List.getD_eq_getElem?_getD, List.getElem?_eq_getElem hk, wv]
theorem getD_lt64 {l : List Nat} (h : ∀ x ∈ l, x < 18446744073709551616) (i : Nat) : l.getD i 0 < 18446744073709551616 := by
  rw [List.getD_eq_getElem?_getD]
  cases hi : l[i]? with
  | none => simp
  | some v => simpa using h v (List.mem_of_getElem? hi)

set_option maxHeartbeats 1000000 in
theorem alloc_bad (M : HM) (g bn bo bb c : Nat) (A : Option Addr) (k tag : Int) (parts : List Nat) (T : Nat → Prop) (w : World) (h : HRep w g bn bo bb M)
    (hr : Rd T w A (parts.map wv)) (hx : ∀ x ∈ parts, x < 18446744073709551616)
    (hk : 1 ≤ k ∧ k ≤ 3 ∧ 0 ≤ tag ∧ tag ≤ 1048576 ∧ parts.length ≤ 4096) (hv : parts.all M.value = false) :
    Calls Try.prog 16 #[.pointer (some ⟨g, 0, none⟩), .int .i64 k, .int .i64 tag, .slice A parts.length c] w fun e w' =>
      e = .returned (.tuple #[.int .u64 0, .bool false]) ∧ w = w' := by
  obtain ⟨k1, k2, k3, k4, k5⟩ := hk
  have Hh := hide h
  have Hr := hide hr
  have Hx := hide hx
  have Hv := hide hv
  clear h hr hx hv
  go_enter Try.func16, Try.ntmps16
  go_wp2_with fail
  go_loop [33] (fun i => ∃ j : Nat, j ≤ parts.length ∧ i = .int .i64 j ∧ ∀ a, a < j → M.value (parts.getD a 0) = true) (fun i => parts.length - (intOf i).toNat)
  case atStart => exact ⟨0, Nat.zero_le _, rfl, fun a ha => absurd ha (by omega)⟩
  case round =>
    obtain ⟨j, hj, rfl, hall⟩ := hrel
    have Hall := hide hall
    clear hall
    by_cases hlt : j < parts.length
    · obtain ⟨b, o, rfl, _, hc⟩ := (unhide Hr).flat (by intro e; have := congrArg List.length e; simp at this; subst this; simp at hlt)
      have hcell := hc j _ (wv_at parts hlt)
      have Hc := hide hc
      clear hc
      have Hval := hide (value_any M g bn bo bb (parts.getD j 0) w (unhide Hh) (getD_lt64 (unhide Hx) j))
      cases hval : M.value (parts.getD j 0)
      · rw [hval] at Hval
        clear hval
        generalize parts.getD j 0 = V at *
        go_wp2_with (go_at_call 35; refine (unhide Hval).mono ?_; rintro e w' ⟨rfl, rfl⟩)
        go_ret2
        exact ⟨rfl, rfl⟩
      · rw [hval] at Hval
        have Hl := hide hval
        clear hval
        generalize hV : parts.getD j 0 = V at *
        have HV := hide hV
        clear hV
        go_wp2_with (go_at_call 35; refine (unhide Hval).mono ?_; rintro e w' ⟨rfl, rfl⟩)
        go_round
        case rel => exact ⟨j + 1, by omega, by go_num, fun a ha => by
          rcases Nat.lt_or_ge a j with h1 | h1
          · exact unhide Hall a h1
          · rw [show a = j by omega, unhide HV]; exact unhide Hl⟩
        case measure => simp [intOf]; omega
    · exfalso
      have hf := unhide Hv
      rw [List.all_eq_false] at hf
      obtain ⟨x, hxm, hxv⟩ := hf
      obtain ⟨a, ha, rfl⟩ := List.getElem_of_mem hxm
      have := unhide Hall a (by omega)
      rw [List.getD_eq_getElem?_getD, List.getElem?_eq_getElem ha] at this
      exact hxv this
set_option maxHeartbeats 1000000 in
theorem alloc_full (M : HM) (g bn bo bb c k tag : Nat) (A : Option Addr) (parts : List Nat) (T : Nat → Prop) (w : World) (h : HRep w g bn bo bb M)
    (hT : ∀ b, T b → b ≠ g ∧ b ≠ bn ∧ b ≠ bb)
    (hr : Rd T w A (parts.map wv)) (hx : ∀ x ∈ parts, x < 18446744073709551616)
    (k1 : 1 ≤ k) (k2 : k ≤ 3) (k4 : tag ≤ 1048576) (k5 : parts.length ≤ 4096) (hv : parts.all M.value = true) (hroom : M.size < M.now.length + parts.length + 1) :
    Calls Try.prog 16 #[.pointer (some ⟨g, 0, none⟩), .int .i64 (k : Int), .int .i64 (tag : Int), .slice A parts.length c] w fun e w' =>
      e = .returned (.tuple #[.int .u64 0, .bool false]) ∧ ∃ n, w' = w.drewN n := by
  have Hh := hide h
  have Hr := hide hr
  have Hx := hide hx
  have Hv := hide hv
  have HT := hide hT
  have HR := hide hroom
  have Hp : Hid (∀ first : Nat, first < 18446744073709551616 → Calls Try.prog 36 #[.pointer (some ⟨g, 0, none⟩), .int .u64 (first : Int), .slice A parts.length c] w (fun e w' => e = .returned (.tuple #[.int .u64 0, .bool false]) ∧ ∃ n, w' = w.drewN n)) :=
    hide (fun first hf => put_no M g bn bo bb first parts.length c A w h (by omega) hroom)
  clear h hr hx hv hT hroom
  go_enter Try.func16, Try.ntmps16
  go_wp2_with fail
  go_loop [33] (fun i => ∃ j : Nat, j ≤ parts.length ∧ i = .int .i64 j) (fun i => parts.length - (intOf i).toNat)
  case atStart => exact ⟨0, Nat.zero_le _, rfl⟩
  case round =>
    obtain ⟨j, hj, rfl⟩ := hrel
    by_cases hlt : j < parts.length
    · obtain ⟨b, o, rfl, _, hc⟩ := (unhide Hr).flat (by intro e; have := congrArg List.length e; simp at this; subst this; simp at hlt)
      have hcell := hc j _ (wv_at parts hlt)
      have Hc := hide hc
      clear hc
      have Hval := hide (value_any M g bn bo bb (parts.getD j 0) w (unhide Hh) (getD_lt64 (unhide Hx) j))
      have hval : M.value (parts.getD j 0) = true := by
        have := List.all_eq_true.1 (unhide Hv) (parts.getD j 0)
        rw [List.getD_eq_getElem?_getD, List.getElem?_eq_getElem hlt] at this ⊢
        exact this (List.getElem_mem hlt)
      rw [hval] at Hval
      clear hval
      generalize parts.getD j 0 = V at *
      go_wp2_with (go_at_call 35; refine (unhide Hval).mono ?_; rintro e w' ⟨rfl, rfl⟩)
      go_round
      case rel => exact ⟨j + 1, by omega, by go_num⟩
      case measure => simp [intOf]; omega
    · obtain rfl : j = parts.length := by omega
      clear hlt hj
      go_wp2_with (first
        | (go_at_call 37; refine (head_any k tag parts.length _ (by omega) (by omega) (by omega)).mono ?_; rintro e w' ⟨rfl, rfl⟩)
        | (go_at_call 36; refine ((unhide Hp) (tag * 65536 + parts.length * 8 + k) (by omega)).mono ?_; rintro e w' ⟨rfl, nn, rfl⟩))
      go_ret2
      exact ⟨rfl, _, rfl⟩

set_option maxHeartbeats 1000000 in
theorem alloc_good (M : HM) (g bn bo bb c k tag : Nat) (A : Option Addr) (parts : List Nat) (T : Nat → Prop) (w : World) (h : HRep w g bn bo bb M)
    (hT : ∀ b, T b → b ≠ g ∧ b ≠ bn ∧ b ≠ bb)
    (hr : Rd T w A (parts.map wv)) (hx : ∀ x ∈ parts, x < 18446744073709551616)
    (k1 : 1 ≤ k) (k2 : k ≤ 3) (k4 : tag ≤ 1048576) (k5 : parts.length ≤ 4096) (hv : parts.all M.value = true) (hroom : M.now.length + parts.length + 1 ≤ M.size) :
    Calls Try.prog 16 #[.pointer (some ⟨g, 0, none⟩), .int .i64 (k : Int), .int .i64 (tag : Int), .slice A parts.length c] w fun e w' =>
      e = .returned (.tuple #[.int .u64 ((2 * M.now.length : Nat) : Int), .bool true]) ∧ HRep w' g bn bo bb (M.put (tag * 65536 + parts.length * 8 + k) parts) ∧ Chg (fun k => k = g ∨ k = bn ∨ k = bb) w w' := by
  have Hh := hide h
  have Hr := hide hr
  have Hx := hide hx
  have Hv := hide hv
  have HT := hide hT
  have HR := hide hroom
  have Hp : Hid (∀ first : Nat, first < 18446744073709551616 → Calls Try.prog 36 #[.pointer (some ⟨g, 0, none⟩), .int .u64 (first : Int), .slice A parts.length c] w (fun e w' => e = .returned (.tuple #[.int .u64 ((2 * M.now.length : Nat) : Int), .bool true]) ∧ HRep w' g bn bo bb (M.put first parts) ∧ Chg (fun k => k = g ∨ k = bn ∨ k = bb) w w')) :=
    hide (fun first hf => put_yes M g bn bo bb first c A parts T w h hT hr hroom hf hx)
  clear h hr hx hv hT hroom
  go_enter Try.func16, Try.ntmps16
  go_wp2_with fail
  go_loop [33] (fun i => ∃ j : Nat, j ≤ parts.length ∧ i = .int .i64 j) (fun i => parts.length - (intOf i).toNat)
  case atStart => exact ⟨0, Nat.zero_le _, rfl⟩
  case round =>
    obtain ⟨j, hj, rfl⟩ := hrel
    by_cases hlt : j < parts.length
    · obtain ⟨b, o, rfl, _, hc⟩ := (unhide Hr).flat (by intro e; have := congrArg List.length e; simp at this; subst this; simp at hlt)
      have hcell := hc j _ (wv_at parts hlt)
      have Hc := hide hc
      clear hc
      have Hval := hide (value_any M g bn bo bb (parts.getD j 0) w (unhide Hh) (getD_lt64 (unhide Hx) j))
      have hval : M.value (parts.getD j 0) = true := by
        have := List.all_eq_true.1 (unhide Hv) (parts.getD j 0)
        rw [List.getD_eq_getElem?_getD, List.getElem?_eq_getElem hlt] at this ⊢
        exact this (List.getElem_mem hlt)
      rw [hval] at Hval
      clear hval
      generalize parts.getD j 0 = V at *
      go_wp2_with (go_at_call 35; refine (unhide Hval).mono ?_; rintro e w' ⟨rfl, rfl⟩)
      go_round
      case rel => exact ⟨j + 1, by omega, by go_num⟩
      case measure => simp [intOf]; omega
    · obtain rfl : j = parts.length := by omega
      clear hlt hj
      go_wp2_with (first
        | (go_at_call 37; refine (head_any k tag parts.length _ (by omega) (by omega) (by omega)).mono ?_; rintro e w' ⟨rfl, rfl⟩)
        | (go_at_call 36; refine ((unhide Hp) (tag * 65536 + parts.length * 8 + k) (by omega)).mono ?_; rintro e w' ⟨rfl, hq1, hq2⟩; have Hq1 := hide hq1; have Hq2 := hide hq2; clear hq1 hq2))
      go_ret2
      exact ⟨rfl, unhide Hq1, unhide Hq2⟩

end Go.Proofs.Ytlgkgglecgdkgaa
