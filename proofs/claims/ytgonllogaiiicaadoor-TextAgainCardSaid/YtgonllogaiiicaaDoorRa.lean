/-
  Layer 17, the document's side: digits; label; number.
-/
import Derived.Test.YtgonllogaiiicaaDoorLib
import Derived.Test.YtgonllogaiiicaaDoorM02
import Derived.Test.YtgonllogaiiicaaDoorProg
import Derived.Deep.QuietTactic
import Derived.BigQuiet
import Derived.WalkLawsBesides
import Derived.Lib.QuietBelow
namespace Go.Proofs.YtgonllogaiiicaaDoor
open Go.RowKit
set_option maxHeartbeats 2000000
set_option maxRecDepth 100000
theorem str_cat (l m : List UInt8) : (⟨l.toArray⟩ : ByteArray) ++ (⟨m.toArray⟩ : ByteArray) = ⟨(l ++ m).toArray⟩ := by
  apply ByteArray.ext
  simp
theorem conv_one (n : Nat) (w : World) : (convert 56 9 (.slice (some ⟨w.heap.size, 0, none⟩) 1 1)).run Tryd.prog (w.alloc (.cells #[.int .u8 (48 + (n : Int) % 10)] 5)) = .ok (.string ⟨#[UInt8.ofNat (48 + n % 10)]⟩) (w.alloc (.cells #[.int .u8 (48 + (n : Int) % 10)] 5)) := by
  refine run_str_of_bytes (P := Tryd.prog) _ 56 9 5 ⟨w.heap.size, 0, none⟩ 1 1 [UInt8.ofNat (48 + n % 10)] rfl Tryd.underlying56 Tryd.underlying5 Tryd.underlying9 (fun j v hv => ?_)
  cases j with
  | zero =>
    simp only [List.map_cons, List.getElem?_cons_zero, Option.some.injEq] at hv
    subst hv
    have hb : byv (UInt8.ofNat (48 + n % 10)) = .int .u8 (48 + (n : Int) % 10) := by
      unfold byv
      rw [dig_toNat (by omega)]
      exact intv (by omega)
    rw [hb]
    exact (Blk.new w 5 #[.int .u8 (48 + (n : Int) % 10)]).cell 0
  | succ j => simp at hv
theorem dec_len1 (u : Nat) : (Lib.decDigits u).length ≤ u + 1 := by
  induction u using Nat.strongRecOn with
  | _ u ih =>
    rw [Lib.decDigits]
    split
    · simp
    · have := ih (u / 10) (by omega)
      rw [List.length_append]
      simp; omega
theorem refDigits_any (n : Nat) : ∀ (w : World), n < 4611686018427387904 → Calls Tryd.prog 39 #[.int .i64 (n : Int)] w fun e w' => e = .returned (.string ⟨(Lib.decDigits n).toArray⟩) ∧ Chg (fun _ => False) w w' := by
  induction n using Nat.strongRecOn with
  | _ n ih =>
  intro w hn
  have hqc := conv_one n w
  have hcd := show UInt8.ofNat (48 + n % 10) = UInt8.ofNat (48 + n % 10) from rfl
  generalize hcd0 : UInt8.ofNat (48 + n % 10) = c at *
  clear hcd
  have hc0 : Chg (fun _ => False) w (w.alloc (.cells #[.int .u8 (48 + (n : Int) % 10)] 5)) := (Chg.refl _ w).alloc _
  by_cases h10 : 10 ≤ n
  · have HI := hide (fun W => show Calls Tryd.prog 39 #[.int .i64 ((n : Int) / 10)] W fun e w' => e = .returned (.string ⟨(Lib.decDigits (n / 10)).toArray⟩) ∧ Chg (fun _ => False) W w' from ih (n / 10) (by omega) W (by omega))
    have HE := hide (show (⟨(Lib.decDigits (n / 10)).toArray⟩ : ByteArray) ++ (⟨#[c]⟩ : ByteArray) = ⟨(Lib.decDigits n).toArray⟩ by
      rw [show (⟨#[c]⟩ : ByteArray) = ⟨[c].toArray⟩ from rfl, str_cat]
      conv => rhs; rw [Lib.decDigits, dif_neg (by omega), hcd0])
    have hsz : (Lib.decDigits (n / 10)).length ≤ 461168601842738791 := by
      have := dec_len1 (n / 10)
      omega
    generalize Lib.decDigits n = D at *
    generalize Lib.decDigits (n / 10) = D0 at *
    have HC0 := hide hc0
    clear ih hc0 hcd0
    go_enter Tryd.func39, Tryd.ntmps39
    go_wp2_with (go_at_call 39; (with_reducible refine (unhide HI _).mono ?_); rintro e w2 ⟨rfl, hc2⟩; have HC2 := hide hc2; clear hc2)
    go_ret
    exact ⟨retv (congrArg Value.string (unhide HE)), (unhide HC0).trans' (unhide HC2)⟩
  · clear ih
    have HCD := hide hcd0
    clear hcd0
    go_enter Tryd.func39, Tryd.ntmps39
    go_wp2_with fail
    go_ret
    refine ⟨retv (congrArg Value.string ?_), hc0⟩
    rw [Lib.decDigits, dif_pos (by omega)]
    have h := unhide HCD
    rw [show n % 10 = n by omega] at h
    rw [h]
theorem byte_at (s : ByteArray) (k : Nat) (h : k < s.size) : s.data.toList[k]? = some s[k] := by
  rw [Array.getElem?_toList]; exact Array.getElem?_eq_getElem h
theorem refLabel_any (s : ByteArray) (w : World) (_hs : s.size ≤ 9223372036854775807) : Calls Tryd.prog 43 #[.string s] w fun e w' => e = .returned (.bool (labelB s.data.toList)) ∧ w = w' := by
  have HA := hide (show ∀ k (h : k < s.size), okR k (s[k]).toNat = false → labelB s.data.toList = false from fun k h hf => lab_bad (byte_at s k h) hf)
  have HB := hide (show (∀ k (h : k < s.size), okR k (s[k]).toNat = true) → labelB s.data.toList = !s.toList.isEmpty from fun hall => by
    rw [ByteArray.toList_eq]
    refine lab_good (fun k c hk => ?_)
    have hlt : k < s.size := by
      obtain ⟨h, _⟩ := List.getElem?_eq_some_iff.1 hk
      simpa using h
    rw [byte_at s k hlt] at hk; cases hk
    exact hall k hlt)
  generalize labelB s.data.toList = al at *
  go_enter Tryd.func43, Tryd.ntmps43
  go_wp2_with fail
  go_loop [3] (fun n => ∃ pos : Nat, n = .int .i64 (pos : Int) ∧ pos ≤ s.size ∧ ∀ k (h : k < s.size), k < pos → okR k (s[k]).toNat = true) (fun n => s.size - (intOf n).toNat)
  case atStart => exact ⟨0, rfl, Nat.zero_le _, fun k h h2 => absurd h2 (by omega)⟩
  case round =>
    obtain ⟨pos, rfl, hps, hall⟩ := hrel
    have HALL := hide hall
    clear hall
    by_cases hp : pos < s.size
    · have HF := hide ((unhide HA) pos hp)
      have HFIN := hide (fun (h : okR pos (s[pos]).toNat = true) => (show ∀ k (h2 : k < s.size), k < pos + 1 → okR k (s[k]).toNat = true from fun k h2 h3 => by
          rcases Nat.lt_or_ge k pos with h4 | h4
          · exact (unhide HALL) k h2 h4
          · obtain rfl : k = pos := by omega
            exact h))
      have hO : okR pos (s[pos]).toNat = (letR (s[pos]).toNat || (!decide ((pos : Int) = 0) && (digR (s[pos]).toNat || decide (((s[pos]).toNat : Int) = 95)))) := rfl
      obtain ⟨v, hv⟩ : ∃ v, (s[pos]).toNat = v := ⟨_, rfl⟩
      rw [hv] at hO HF HFIN
      have hcl : (97 ≤ v ∧ v ≤ 122) ∨ (65 ≤ v ∧ v ≤ 90) ∨ (48 ≤ v ∧ v ≤ 57) ∨ (95 ≤ v ∧ v ≤ 95) ∨ v < 48 ∨ (57 < v ∧ v < 65) ∨ (90 < v ∧ v < 95) ∨ (96 ≤ v ∧ v ≤ 96) ∨ 122 < v := by omega
      rcases hcl with hc | hc | hc | hc | hc | hc | hc | hc | hc
      all_goals
        (first | (have b1 : decide ((97 : Int) ≤ v) = true := decide_eq_true (by omega)) | (have b1 : decide ((97 : Int) ≤ v) = false := decide_eq_false (by omega)))
        (first | (have b2 : decide ((v : Int) ≤ 122) = true := decide_eq_true (by omega)) | (have b2 : decide ((v : Int) ≤ 122) = false := decide_eq_false (by omega)))
        (first | (have b3 : decide ((65 : Int) ≤ v) = true := decide_eq_true (by omega)) | (have b3 : decide ((65 : Int) ≤ v) = false := decide_eq_false (by omega)))
        (first | (have b4 : decide ((v : Int) ≤ 90) = true := decide_eq_true (by omega)) | (have b4 : decide ((v : Int) ≤ 90) = false := decide_eq_false (by omega)))
        (first | (have b5 : decide ((48 : Int) ≤ v) = true := decide_eq_true (by omega)) | (have b5 : decide ((48 : Int) ≤ v) = false := decide_eq_false (by omega)))
        (first | (have b6 : decide ((v : Int) ≤ 57) = true := decide_eq_true (by omega)) | (have b6 : decide ((v : Int) ≤ 57) = false := decide_eq_false (by omega)))
        (first | (have b7 : ((v : Int) == 95) = true := beq_iff_eq.2 (by omega)) | (have b7 : ((v : Int) == 95) = false := beq_eq_false_iff_ne.2 (by omega)))
        have b9 : ((v : Int) != 95) = !((v : Int) == 95) := rfl
        rw [b7] at b9
        have ho := hO
        rw [show decide ((v : Int) = 95) = ((v : Int) == 95) from rfl, show letR v = ((decide ((97 : Int) ≤ v) && decide ((v : Int) ≤ 122)) || (decide ((65 : Int) ≤ v) && decide ((v : Int) ≤ 90))) from by rw [letR, Bool.eq_iff_iff]; simp; omega, show digR v = (decide ((48 : Int) ≤ v) && decide ((v : Int) ≤ 57)) from by rw [digR, Bool.eq_iff_iff]; simp; omega, b1, b2, b3, b4, b5, b6, b7] at ho
        have HO := hide ho
        clear ho hO hc
        cases pos
        all_goals
          go_wp2_with fail
          first
          | (go_ret; exact ⟨retv (boolv ((unhide HF) ((unhide HO).trans (by simp; try omega))).symm), rfl⟩)
          | (go_round
             case rel => exact ⟨_, by first | rfl | go_num, by omega, (unhide HFIN) ((unhide HO).trans (by simp; try omega))⟩
             case measure => simp [intOf]; omega)
    · have HAL := hide ((unhide HB) (fun k h => (unhide HALL) k h (by omega)))
      go_wp2_with fail
      go_ret
      exact ⟨retv (boolv (unhide HAL).symm), rfl⟩
end Go.Proofs.YtgonllogaiiicaaDoor
