/-
  HeapPlays where the law asks nothing, and where no heap is made.
-/
import Derived.Test.YtlgkgglecgdkgaaPlayY
namespace Go.Proofs.Ytlgkgglecgdkgaa
open Go.RowKit
set_option maxHeartbeats 1000000
set_option maxRecDepth 100000
theorem plays_out (l : List ActM) (n : Int) (c : Nat) (A : Option Addr) (w : World) (h : RdActs w A l) (hl : l.length ≤ 9223372036854775807) (ho : fewL l = false ∨ 500 < n) :
    Calls Try.prog 4 #[.int .i64 n, .slice A l.length c] w fun e w' => e = .returned (.bool true) ∧ Chg (fun _ => False) w w' := by
  have Hh := hide h
  clear h
  by_cases hf : fewL l = false
  · clear ho
    go_enter Try.func4, Try.ntmps4
    go_wp2_with fail
    refine (awake_any _).mono ?_
    rintro e w1 ⟨rfl, c1⟩
    have C1 := hide c1
    have Hf := few_any l A c w1 ((unhide Hh).old c1) hl
    rw [hf] at Hf
    clear c1
    go_wp2_with fail
    refine Hf.mono ?_
    rintro e w' ⟨rfl, rfl⟩
    go_wp2_with fail
    refine (awake_any _).mono ?_
    rintro e w2 ⟨rfl, c2⟩
    have C2 := hide c2
    clear c2
    go_wp2_with fail
    go_ret
    exact ⟨rfl, (unhide C1).trans' (unhide C2)⟩
  · have hf2 : fewL l = true := by simpa using hf
    have h5 : 500 < n := ho.resolve_left hf
    clear ho hf
    go_enter Try.func4, Try.ntmps4
    go_wp2_with fail
    refine (awake_any _).mono ?_
    rintro e w1 ⟨rfl, c1⟩
    have C1 := hide c1
    have Hf := few_any l A c w1 ((unhide Hh).old c1) hl
    rw [hf2] at Hf
    clear c1
    go_wp2_with fail
    refine Hf.mono ?_
    rintro e w' ⟨rfl, rfl⟩
    go_wp2_with fail
    refine (awake_any _).mono ?_
    rintro e w2 ⟨rfl, c2⟩
    have C2 := hide c2
    clear c2
    go_wp2_with fail
    go_ret
    exact ⟨rfl, (unhide C1).trans' (unhide C2)⟩
theorem plays_low (l : List ActM) (n : Int) (c : Nat) (A : Option Addr) (w : World) (h : RdActs w A l) (hf : fewL l = true) (h16 : n < 16) :
    Calls Try.prog 4 #[.int .i64 n, .slice A l.length c] w fun e w' => e = .returned (.bool true) ∧ Chg (fun _ => False) w w' := by
  have Hh := hide h
  have hl60 : l.length ≤ 60 := by unfold fewL at hf; rw [Bool.and_eq_true] at hf; simpa using hf.1
  clear h
  go_enter Try.func4, Try.ntmps4
  go_wp2_with fail
  refine (awake_any _).mono ?_
  rintro e w1 ⟨rfl, c1⟩
  have C1 := hide c1
  have Hf := few_any l A c w1 ((unhide Hh).old c1) (by omega)
  rw [hf] at Hf
  clear c1
  go_wp2_with fail
  refine Hf.mono ?_
  rintro e w' ⟨rfl, rfl⟩
  go_wp2_with fail
  refine (new_no n w1 (.inl h16)).mono ?_
  rintro e w' ⟨rfl, rfl⟩
  go_wp2_with fail
  go_ret
  exact ⟨rfl, unhide C1⟩
end Go.Proofs.Ytlgkgglecgdkgaa
