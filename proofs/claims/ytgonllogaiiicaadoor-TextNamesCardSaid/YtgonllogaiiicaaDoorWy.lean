/-
  Layer 17: the laws TextShows, TextReads, TextBack, TextAgain.
-/
import Derived.Test.YtgonllogaiiicaaDoorWx
import Derived.Test.YtgonllogaiiicaaDoorM02
namespace Go.Proofs.YtgonllogaiiicaaDoor
open Go.RowKit
set_option maxHeartbeats 4000000
set_option maxRecDepth 100000
theorem str_size {l : Bs} : (⟨l.toArray⟩ : ByteArray).size = l.length := bs_size l
/-- Instructions that may not be shown. -/
theorem check_show (l : List Ins) : checkE l = 0 ∨ checkE l ≠ 0 := Classical.em _
theorem textShows_any (l : List Ins) (c : Nat) (A : Option Addr) (T : Nat → Prop) (w : World) (hl : Lay w) (hr : Rd T w A (l.flatMap insv)) :
    Calls Tryd.prog 3 #[.slice A l.length c] w fun e w' => e = .returned (.bool true) ∧ Chg (fun _ => False) w w' := by
  have HAW := hide (fun W (hW : Chg (fun _ => False) w W) => awake_any W (hl.chg hW (fun _ _ => id)))
  by_cases h60 : l.length ≤ 60
  · have hli : ¬ (60 : Int) < (l.length : Int) := by omega
    have HOW := hide (fun W (hW : Chg (fun _ => False) w W) => own_any l c A _ W (hr.low.chg hW (fun _ _ _ => id)) (by omega))
    have HLY := hide (fun W (hW : Chg (fun _ => False) w W) => hl.chg hW (fun _ _ => id))
    have HCK := hide (fun W (hW : Chg (fun _ => False) w W) => refCode_any l c A _ W (hr.low.chg hW (fun _ _ _ => id)) (by omega))
    rw [codeE_eq] at HCK
    by_cases hc : checkE l = 0
    · have hlen := showT_len hc
      have HSH := hide (fun W A' c' T' (hW : Chg (fun _ => False) w W) (h : Rd T' W A' (l.flatMap insv)) => show_any l c' A' T' W h (unhide HLY _ hW) hc (by omega))
      have HRS := hide (fun W (hW : Chg (fun _ => False) w W) => refShow_any l c A _ W (hr.low.chg hW (fun _ _ _ => id)) hc (by omega))
      rw [hc] at HCK
      clear hl hr hc hlen
      go_enter Tryd.func3, Tryd.ntmps3
      go_wp2_with (first
        | (go_at_call 9; (with_reducible refine (unhide HAW _ (Chg.refl _ _)).mono ?_); rintro e w1 ⟨rfl, hc1⟩; have HC1 := hide hc1; clear hc1)
        | (go_at_call 11; (refine (unhide HOW _ (unhide HC1)).mono ?_); rintro e w2 ⟨B, d, rfl, hr2, hc2⟩; have HR2 := hide hr2; have HC2 := hide ((unhide HC1).trans' hc2); clear hr2 hc2)
        | (go_at_call 10; (with_reducible refine (unhide HSH _ _ _ _ (unhide HC2) (unhide HR2)).mono ?_); rintro e w3 ⟨rfl, hc3⟩; have HC3 := hide ((unhide HC2).trans' hc3); clear hc3)
        | (go_at_call 12; (with_reducible refine (unhide HCK _ (unhide HC3)).mono ?_); rintro e w4 ⟨rfl, hc4⟩; have HC4 := hide ((unhide HC3).trans' hc4); clear hc4)
        | (go_at_call 13; (with_reducible refine (unhide HRS _ (unhide HC4)).mono ?_); rintro e w5 ⟨rfl, hc5⟩; have HC5 := hide ((unhide HC4).trans' hc5); clear hc5))
      go_ret
      exact ⟨by first | rfl | simp, unhide HC5⟩
    · have HSH := hide (fun W A' c' T' (hW : Chg (fun _ => False) w W) (h : Rd T' W A' (l.flatMap insv)) => show_bad l c' A' T' W h (by omega) (unhide HLY _ hW) hc)
      have hne : (checkE l != 0) = true := bne_iff_ne.2 hc
      have hne2 : (checkE l == 0) = false := beq_eq_false_iff_ne.2 hc
      generalize checkE l = ck at *
      clear hl hr hc
      go_enter Tryd.func3, Tryd.ntmps3
      go_wp2_with (first
        | (go_at_call 9; (with_reducible refine (unhide HAW _ (Chg.refl _ _)).mono ?_); rintro e w1 ⟨rfl, hc1⟩; have HC1 := hide hc1; clear hc1)
        | (go_at_call 11; (refine (unhide HOW _ (unhide HC1)).mono ?_); rintro e w2 ⟨B, d, rfl, hr2, hc2⟩; have HR2 := hide hr2; have HC2 := hide ((unhide HC1).trans' hc2); clear hr2 hc2)
        | (go_at_call 10; (with_reducible refine (unhide HSH _ _ _ _ (unhide HC2) (unhide HR2)).mono ?_); rintro e w3 ⟨rfl, hc3⟩; have HC3 := hide ((unhide HC2).trans' hc3); clear hc3)
        | (go_at_call 12; (with_reducible refine (unhide HCK _ (unhide HC3)).mono ?_); rintro e w4 ⟨rfl, hc4⟩; have HC4 := hide ((unhide HC3).trans' hc4); clear hc4))
      go_ret
      exact ⟨by first | rfl | simp, unhide HC4⟩
  · have hli : (60 : Int) < (l.length : Int) := by omega
    clear hl hr
    go_enter Tryd.func3, Tryd.ntmps3
    go_wp2_with (go_at_call 9; first
      | ((with_reducible refine (unhide HAW _ (unhide HC1)).mono ?_); rintro e w2 ⟨rfl, hc2⟩; have HC2 := hide ((unhide HC1).trans' hc2); clear hc2)
      | ((with_reducible refine (unhide HAW _ (Chg.refl _ _)).mono ?_); rintro e w1 ⟨rfl, hc1⟩; have HC1 := hide hc1; clear hc1))
    go_ret
    exact ⟨rfl, unhide HC2⟩
theorem lines_le (s : Bs) : (linesL s).length ≤ s.length + 1 := by
  have h1 := linesA_length s []
  unfold linesL
  omega
theorem rd_none (T : Nat → Prop) (w : World) : Rd T w none ([] : List Value) := fun h => absurd rfl h
theorem same_none (w : World) : Calls Tryd.prog 16 #[.slice none 0 0, .slice none 0 0] w fun e w' => e = .returned (.bool true) ∧ Chg (fun _ => False) w w' :=
  refSame_any [] [] none none 0 0 (fun _ => True) (fun _ => True) w (rd_none _ _) (rd_none _ _) (by simp) (by simp)
theorem same_self (l : List Ins) (A B : Option Addr) (c d : Nat) (T T' : Nat → Prop) (w : World) (hn : l.length ≤ 1000000) (hv : Rd T w A (l.flatMap insv)) (hu : Rd T' w B (l.flatMap insv)) :
    Calls Tryd.prog 16 #[.slice A l.length c, .slice B l.length d] w fun e w' => e = .returned (.bool true) ∧ Chg (fun _ => False) w w' := by
  have h := refSame_any l l A B c d T T' w hv hu hn hn
  rw [beq_self_eq_true] at h
  exact h
theorem textReads_any (s : ByteArray) (w : World) (hl : Lay w) : Calls Tryd.prog 4 #[.string s] w fun e w' => e = .returned (.bool true) ∧ Chg (fun _ => False) w w' := by
  have HAW := hide (fun W (hW : Chg (fun _ => False) w W) => awake_any W (hl.chg hW (fun _ _ => id)))
  by_cases h1000 : s.size ≤ 1000
  · have hli : ¬ (1000 : Int) < (s.size : Int) := by omega
    have hln : (linesL s.data.toList).length ≤ 1001 := by
      have h1 := lines_le s.data.toList
      have h2 : s.data.toList.length = s.size := rfl
      omega
    have hra := fun W (hW : Chg (fun _ => False) w W) => readAll_any s W (hl.chg hW (fun _ _ => id)) (by omega) (by omega)
    have hrb := fun W => refRead_any s W (by omega) (by omega)
    cases hR : readT s.data.toList with
    | line k =>
      rw [hR] at hra hrb
      have HRA := hide (fun W hW => show Calls Tryd.prog 14 #[.string s] W fun e w' => e = .returned (.tuple #[.slice none 0 0, .int .i64 (k : Int), .int .i64 170]) ∧ Chg (fun _ => False) W w' from hra W hW)
      have HRB := hide (fun W => show Calls Tryd.prog 15 #[.string s] W fun e w' => e = .returned (.tuple #[.slice none 0 0, .int .i64 (k : Int), .int .i64 170]) ∧ Chg (fun _ => False) W w' from hrb W)
      clear hra hrb hR hl hln
      go_enter Tryd.func4, Tryd.ntmps4
      go_wp2_with (first
        | (go_at_call 9; (with_reducible refine (unhide HAW _ (Chg.refl _ _)).mono ?_); rintro e w1 ⟨rfl, hc1⟩; have HC1 := hide hc1; clear hc1)
        | (go_at_call 14; (with_reducible refine (unhide HRA _ (unhide HC1)).mono ?_); rintro e w2 ⟨rfl, hc2⟩; have HC2 := hide ((unhide HC1).trans' hc2); clear hc2)
        | (go_at_call 15; (with_reducible refine (unhide HRB _).mono ?_); rintro e w3 ⟨rfl, hc3⟩; have HC3 := hide ((unhide HC2).trans' hc3); clear hc3)
        | (go_at_call 16; (with_reducible refine (same_none _).mono ?_); rintro e w4 ⟨rfl, hc4⟩; have HC4 := hide ((unhide HC3).trans' hc4); clear hc4))
      go_ret
      exact ⟨rfl, unhide HC4⟩
    | label k =>
      rw [hR] at hra hrb
      have HRA := hide (fun W hW => show Calls Tryd.prog 14 #[.string s] W fun e w' => e = .returned (.tuple #[.slice none 0 0, .int .i64 (k : Int), .int .i64 171]) ∧ Chg (fun _ => False) W w' from hra W hW)
      have HRB := hide (fun W => show Calls Tryd.prog 15 #[.string s] W fun e w' => e = .returned (.tuple #[.slice none 0 0, .int .i64 (k : Int), .int .i64 171]) ∧ Chg (fun _ => False) W w' from hrb W)
      clear hra hrb hR hl hln
      go_enter Tryd.func4, Tryd.ntmps4
      go_wp2_with (first
        | (go_at_call 9; (with_reducible refine (unhide HAW _ (Chg.refl _ _)).mono ?_); rintro e w1 ⟨rfl, hc1⟩; have HC1 := hide hc1; clear hc1)
        | (go_at_call 14; (with_reducible refine (unhide HRA _ (unhide HC1)).mono ?_); rintro e w2 ⟨rfl, hc2⟩; have HC2 := hide ((unhide HC1).trans' hc2); clear hc2)
        | (go_at_call 15; (with_reducible refine (unhide HRB _).mono ?_); rintro e w3 ⟨rfl, hc3⟩; have HC3 := hide ((unhide HC2).trans' hc3); clear hc3)
        | (go_at_call 16; (with_reducible refine (same_none _).mono ?_); rintro e w4 ⟨rfl, hc4⟩; have HC4 := hide ((unhide HC3).trans' hc4); clear hc4))
      go_ret
      exact ⟨rfl, unhide HC4⟩
    | ok l =>
      have hll := read_len hR
      rw [hR] at hra hrb
      have HRA := hide (fun W hW => show Calls Tryd.prog 14 #[.string s] W fun e w' => (∃ A c, e = .returned (.tuple #[.slice A l.length c, .int .i64 0, .int .i64 0]) ∧ Rd (fun k => W.heap.size ≤ k) w' A (l.flatMap insv)) ∧ Chg (fun _ => False) W w' from hra W hW)
      have HRB := hide (fun W => show Calls Tryd.prog 15 #[.string s] W fun e w' => (∃ A c, e = .returned (.tuple #[.slice A l.length c, .int .i64 0, .int .i64 0]) ∧ Rd (fun k => W.heap.size ≤ k) w' A (l.flatMap insv)) ∧ Chg (fun _ => False) W w' from hrb W)
      have HSM := hide (fun A B c d T T' W (h1 : Rd T W A (l.flatMap insv)) (h2 : Rd T' W B (l.flatMap insv)) => same_self l A B c d T T' W (by omega) h1 h2)
      clear hra hrb hR hl hln hll
      go_enter Tryd.func4, Tryd.ntmps4
      go_wp2_with (first
        | (go_at_call 9; (with_reducible refine (unhide HAW _ (Chg.refl _ _)).mono ?_); rintro e w1 ⟨rfl, hc1⟩; have HC1 := hide hc1; clear hc1)
        | (go_at_call 14; (refine (unhide HRA _ (unhide HC1)).mono ?_); rintro e w2 ⟨⟨A2, c2, rfl, hr2⟩, hc2⟩; have HR2 := hide hr2; have HC2 := hide ((unhide HC1).trans' hc2); clear hc2 hr2)
        | (go_at_call 15; (refine (unhide HRB _).mono ?_); rintro e w3 ⟨⟨A3, c3, rfl, hr3⟩, hc3⟩; have HR23 := hide ((unhide HR2).low.chg hc3 (fun _ _ _ => id)); have HR3 := hide hr3; have HC3 := hide ((unhide HC2).trans' hc3); clear hc3 hr3)
        | (go_at_call 16; (with_reducible refine (unhide HSM _ _ _ _ _ _ _ (unhide HR23) (unhide HR3)).mono ?_); rintro e w4 ⟨rfl, hc4⟩; have HC4 := hide ((unhide HC3).trans' hc4); clear hc4))
      go_ret
      exact ⟨rfl, unhide HC4⟩
  · have hli : (1000 : Int) < (s.size : Int) := by omega
    clear hl
    go_enter Tryd.func4, Tryd.ntmps4
    go_wp2_with (go_at_call 9; first
      | ((with_reducible refine (unhide HAW _ (unhide HC1)).mono ?_); rintro e w2 ⟨rfl, hc2⟩; have HC2 := hide ((unhide HC1).trans' hc2); clear hc2)
      | ((with_reducible refine (unhide HAW _ (Chg.refl _ _)).mono ?_); rintro e w1 ⟨rfl, hc1⟩; have HC1 := hide hc1; clear hc1))
    go_ret
    exact ⟨rfl, unhide HC2⟩

theorem textBack_any (l : List Ins) (c : Nat) (A : Option Addr) (T : Nat → Prop) (w : World) (hl : Lay w) (hr : Rd T w A (l.flatMap insv)) :
    Calls Tryd.prog 5 #[.slice A l.length c] w fun e w' => e = .returned (.bool true) ∧ Chg (fun _ => False) w w' := by
  have HAW := hide (fun W (hW : Chg (fun _ => False) w W) => awake_any W (hl.chg hW (fun _ _ => id)))
  by_cases h60 : l.length ≤ 60
  · have hli : ¬ (60 : Int) < (l.length : Int) := by omega
    have HOW := hide (fun W (hW : Chg (fun _ => False) w W) => own_any l c A _ W (hr.low.chg hW (fun _ _ _ => id)) (by omega))
    have HLY := hide (fun W (hW : Chg (fun _ => False) w W) => hl.chg hW (fun _ _ => id))
    by_cases hc : checkE l = 0
    · have hlen := showT_len hc
      have hlns := lines_show hc
      have HSH := hide (fun W A' c' T' (hW : Chg (fun _ => False) w W) (h : Rd T' W A' (l.flatMap insv)) => show_any l c' A' T' W h (unhide HLY _ hW) hc (by omega))
      have hd : (ByteArray.data ⟨(showT l).toArray⟩).toList = showT l := by simp
      have hra := fun W (hW : Chg (fun _ => False) w W) => readAll_any ⟨(showT l).toArray⟩ W (unhide HLY _ hW) (by rw [bs_size]; omega) (by rw [hd]; omega)
      rw [hd, back hc] at hra
      have HRA := hide (fun W hW => show Calls Tryd.prog 14 #[.string ⟨(showT l).toArray⟩] W fun e w' => (∃ A c, e = .returned (.tuple #[.slice A l.length c, .int .i64 0, .int .i64 0]) ∧ Rd (fun k => W.heap.size ≤ k) w' A (l.flatMap insv)) ∧ Chg (fun _ => False) W w' from hra W hW)
      have HSM := hide (fun A0 T0 c0 W (hW : Chg (fun _ => False) w W) (h1 : Rd T0 W A0 (l.flatMap insv)) => same_self l A0 A c0 c T0 _ W (by omega) h1 (hr.low.chg hW (fun _ _ _ => id)))
      clear hra hd hl hr hc hlen hlns
      go_enter Tryd.func5, Tryd.ntmps5
      go_wp2_with (first
        | (go_at_call 9; (with_reducible refine (unhide HAW _ (Chg.refl _ _)).mono ?_); rintro e w1 ⟨rfl, hc1⟩; have HC1 := hide hc1; clear hc1)
        | (go_at_call 11; (refine (unhide HOW _ (unhide HC1)).mono ?_); rintro e w2 ⟨B, d, rfl, hr2, hc2⟩; have HR2 := hide hr2; have HC2 := hide ((unhide HC1).trans' hc2); clear hr2 hc2)
        | (go_at_call 10; (with_reducible refine (unhide HSH _ _ _ _ (unhide HC2) (unhide HR2)).mono ?_); rintro e w3 ⟨rfl, hc3⟩; have HC3 := hide ((unhide HC2).trans' hc3); clear hc3)
        | (go_at_call 14; (refine (unhide HRA _ (unhide HC3)).mono ?_); rintro e w4 ⟨⟨A4, c4, rfl, hr4⟩, hc4⟩; have HR4 := hide hr4; have HC4 := hide ((unhide HC3).trans' hc4); clear hc4 hr4)
        | (go_at_call 16; (with_reducible refine (unhide HSM _ _ _ _ (unhide HC4) (unhide HR4)).mono ?_); rintro e w5 ⟨rfl, hc5⟩; have HC5 := hide ((unhide HC4).trans' hc5); clear hc5))
      go_ret
      exact ⟨rfl, unhide HC5⟩
    · have HSH := hide (fun W A' c' T' (hW : Chg (fun _ => False) w W) (h : Rd T' W A' (l.flatMap insv)) => show_bad l c' A' T' W h (by omega) (unhide HLY _ hW) hc)
      have hne : (checkE l != 0) = true := bne_iff_ne.2 hc
      generalize checkE l = ck at *
      clear hl hr hc
      go_enter Tryd.func5, Tryd.ntmps5
      go_wp2_with (first
        | (go_at_call 9; (with_reducible refine (unhide HAW _ (Chg.refl _ _)).mono ?_); rintro e w1 ⟨rfl, hc1⟩; have HC1 := hide hc1; clear hc1)
        | (go_at_call 11; (refine (unhide HOW _ (unhide HC1)).mono ?_); rintro e w2 ⟨B, d, rfl, hr2, hc2⟩; have HR2 := hide hr2; have HC2 := hide ((unhide HC1).trans' hc2); clear hr2 hc2)
        | (go_at_call 10; (with_reducible refine (unhide HSH _ _ _ _ (unhide HC2) (unhide HR2)).mono ?_); rintro e w3 ⟨rfl, hc3⟩; have HC3 := hide ((unhide HC2).trans' hc3); clear hc3))
      go_ret
      exact ⟨by first | rfl | simp, unhide HC3⟩
  · have hli : (60 : Int) < (l.length : Int) := by omega
    clear hl
    go_enter Tryd.func5, Tryd.ntmps5
    go_wp2_with (go_at_call 9; first
      | ((with_reducible refine (unhide HAW _ (unhide HC1)).mono ?_); rintro e w2 ⟨rfl, hc2⟩; have HC2 := hide ((unhide HC1).trans' hc2); clear hc2)
      | ((with_reducible refine (unhide HAW _ (Chg.refl _ _)).mono ?_); rintro e w1 ⟨rfl, hc1⟩; have HC1 := hide hc1; clear hc1))
    go_ret
    exact ⟨rfl, unhide HC2⟩

theorem textAgain_any (s : ByteArray) (w : World) (hl : Lay w) : Calls Tryd.prog 6 #[.string s] w fun e w' => e = .returned (.bool true) ∧ Chg (fun _ => False) w w' := by
  have HAW := hide (fun W (hW : Chg (fun _ => False) w W) => awake_any W (hl.chg hW (fun _ _ => id)))
  by_cases h1000 : s.size ≤ 1000
  · have hli : ¬ (1000 : Int) < (s.size : Int) := by omega
    have hsz : s.data.toList.length = s.size := rfl
    have hln : (linesL s.data.toList).length ≤ 1001 := by
      have h1 := lines_le s.data.toList
      omega
    have hra := fun W (hW : Chg (fun _ => False) w W) => readAll_any s W (hl.chg hW (fun _ _ => id)) (by omega) (by omega)
    cases hR : readT s.data.toList with
    | line k =>
      rw [hR] at hra
      have HRA := hide (fun W hW => show Calls Tryd.prog 14 #[.string s] W fun e w' => e = .returned (.tuple #[.slice none 0 0, .int .i64 (k : Int), .int .i64 170]) ∧ Chg (fun _ => False) W w' from hra W hW)
      clear hra hR hl hln hsz
      go_enter Tryd.func6, Tryd.ntmps6
      go_wp2_with (first
        | (go_at_call 9; (with_reducible refine (unhide HAW _ (Chg.refl _ _)).mono ?_); rintro e w1 ⟨rfl, hc1⟩; have HC1 := hide hc1; clear hc1)
        | (go_at_call 14; (with_reducible refine (unhide HRA _ (unhide HC1)).mono ?_); rintro e w2 ⟨rfl, hc2⟩; have HC2 := hide ((unhide HC1).trans' hc2); clear hc2))
      go_ret
      exact ⟨rfl, unhide HC2⟩
    | label k =>
      rw [hR] at hra
      have HRA := hide (fun W hW => show Calls Tryd.prog 14 #[.string s] W fun e w' => e = .returned (.tuple #[.slice none 0 0, .int .i64 (k : Int), .int .i64 171]) ∧ Chg (fun _ => False) W w' from hra W hW)
      clear hra hR hl hln hsz
      go_enter Tryd.func6, Tryd.ntmps6
      go_wp2_with (first
        | (go_at_call 9; (with_reducible refine (unhide HAW _ (Chg.refl _ _)).mono ?_); rintro e w1 ⟨rfl, hc1⟩; have HC1 := hide hc1; clear hc1)
        | (go_at_call 14; (with_reducible refine (unhide HRA _ (unhide HC1)).mono ?_); rintro e w2 ⟨rfl, hc2⟩; have HC2 := hide ((unhide HC1).trans' hc2); clear hc2))
      go_ret
      exact ⟨rfl, unhide HC2⟩
    | ok l =>
      have hll := read_len hR
      have hc := read_check hR (by omega)
      have hlen := showT_len hc
      have hlns := lines_show hc
      rw [hR] at hra
      have HRA := hide (fun W hW => show Calls Tryd.prog 14 #[.string s] W fun e w' => (∃ A c, e = .returned (.tuple #[.slice A l.length c, .int .i64 0, .int .i64 0]) ∧ Rd (fun k => W.heap.size ≤ k) w' A (l.flatMap insv)) ∧ Chg (fun _ => False) W w' from hra W hW)
      have HLY := hide (fun W (hW : Chg (fun _ => False) w W) => hl.chg hW (fun _ _ => id))
      have HOW := hide (fun W A' c' T' (h : Rd T' W A' (l.flatMap insv)) => own_any l c' A' T' W h (by omega))
      have HSH := hide (fun W A' c' T' (hW : Chg (fun _ => False) w W) (h : Rd T' W A' (l.flatMap insv)) => show_any l c' A' T' W h (unhide HLY _ hW) hc (by omega))
      have hd : (ByteArray.data ⟨(showT l).toArray⟩).toList = showT l := by simp
      have hrt := fun W (hW : Chg (fun _ => False) w W) => readAll_any ⟨(showT l).toArray⟩ W (unhide HLY _ hW) (by rw [bs_size]; omega) (by rw [hd]; omega)
      rw [hd, back hc] at hrt
      have HRT := hide (fun W hW => show Calls Tryd.prog 14 #[.string ⟨(showT l).toArray⟩] W fun e w' => (∃ A c, e = .returned (.tuple #[.slice A l.length c, .int .i64 0, .int .i64 0]) ∧ Rd (fun k => W.heap.size ≤ k) w' A (l.flatMap insv)) ∧ Chg (fun _ => False) W w' from hrt W hW)
      have HSM := hide (fun A B c d T T' W (h1 : Rd T W A (l.flatMap insv)) (h2 : Rd T' W B (l.flatMap insv)) => same_self l A B c d T T' W (by omega) h1 h2)
      have HCK := hide (fun A' c' T' W (h : Rd T' W A' (l.flatMap insv)) => refCode_any l c' A' T' W h (by omega))
      rw [codeE_eq, hc] at HCK
      clear hra hrt hd hR hl hln hll hc hlen hlns hsz
      go_enter Tryd.func6, Tryd.ntmps6
      go_upto_region 6 with (first
        | (go_at_call 9; (with_reducible refine (unhide HAW _ (Chg.refl _ _)).mono ?_); rintro e w1 ⟨rfl, hc1⟩; have HC1 := hide hc1; clear hc1)
        | (go_at_call 14; (refine (unhide HRA _ (unhide HC1)).mono ?_); rintro e w2 ⟨⟨A2, c2, rfl, hr2⟩, hc2⟩; have HR2 := hide hr2.low; have HC2 := hide ((unhide HC1).trans' hc2); clear hc2 hr2))
      have HRA := 0
      go_wp2_with (first
        | (go_at_call 11; (refine (unhide HOW _ _ _ _ (unhide HR2)).mono ?_); rintro e w3 ⟨B, d, rfl, hr3, hc3⟩; have HR3 := hide hr3; have HC3 := hide ((unhide HC2).trans' hc3); have HR23 := hide ((unhide HR2).chg hc3 (fun _ _ _ => id)).low; clear hr3 hc3)
        | (go_at_call 10; (with_reducible refine (unhide HSH _ _ _ _ (unhide HC3) (unhide HR3)).mono ?_); rintro e w4 ⟨rfl, hc4⟩; have HC4 := hide ((unhide HC3).trans' hc4); have HR24 := hide ((unhide HR23).chg hc4 (fun _ _ _ => id)).low; clear hc4)
        | (go_at_call 14; (refine (unhide HRT _ (unhide HC4)).mono ?_); rintro e w5 ⟨⟨A5, c5, rfl, hr5⟩, hc5⟩; have HR5 := hide hr5.low; have HC5 := hide ((unhide HC4).trans' hc5); have HR25 := hide ((unhide HR24).chg hc5 (fun _ _ _ => id)).low; clear hc5 hr5)
        | (go_at_call 12; (with_reducible refine (unhide HCK _ _ _ _ (unhide HR25)).mono ?_); rintro e w6 ⟨rfl, hc6⟩; have HC6 := hide ((unhide HC5).trans' hc6); have HR26 := hide ((unhide HR25).chg hc6 (fun _ _ _ => id)).low; have HR56 := hide ((unhide HR5).chg hc6 (fun _ _ _ => id)).low; clear hc6)
        | (go_at_call 16; (with_reducible refine (unhide HSM _ _ _ _ _ _ _ (unhide HR26) (unhide HR56)).mono ?_); rintro e w7 ⟨rfl, hc7⟩; have HC7 := hide ((unhide HC6).trans' hc7); clear hc7))
      go_ret
      exact ⟨rfl, unhide HC7⟩
  · have hli : (1000 : Int) < (s.size : Int) := by omega
    clear hl
    go_enter Tryd.func6, Tryd.ntmps6
    go_wp2_with (go_at_call 9; first
      | ((with_reducible refine (unhide HAW _ (unhide HC1)).mono ?_); rintro e w2 ⟨rfl, hc2⟩; have HC2 := hide ((unhide HC1).trans' hc2); clear hc2)
      | ((with_reducible refine (unhide HAW _ (Chg.refl _ _)).mono ?_); rintro e w1 ⟨rfl, hc1⟩; have HC1 := hide hc1; clear hc1))
    go_ret
    exact ⟨rfl, unhide HC2⟩

end Go.Proofs.YtgonllogaiiicaaDoor
