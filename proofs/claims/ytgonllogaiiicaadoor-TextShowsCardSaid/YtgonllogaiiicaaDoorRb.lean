/-
  Layer 17, the document's side: the number of a word.
-/
import Derived.Test.YtgonllogaiiicaaDoorRa
namespace Go.Proofs.YtgonllogaiiicaaDoor
open Go.RowKit
set_option maxHeartbeats 2000000
set_option maxRecDepth 100000
/-- What the document says of a word's number; -1. -/
def numR (s : Bs) : Int := match numB s with
  | some n => n
  | none => -1
theorem numR_of {s : Bs} {n : Nat} {b : Bool} (h : numP s = (n, b)) : numR s = if b then (n : Int) else -1 := by
  rw [numR, numB_P, h]
  cases b <;> rfl
theorem refNumber_any (s : ByteArray) (w : World) (_hs : s.size ≤ 9223372036854775807) : Calls Tryd.prog 44 #[.string s] w fun e w' => e = .returned (.int .i64 (numR s.data.toList)) ∧ w = w' := by
  have hem : s.toList.isEmpty = decide (s.size = 0) := by
    rw [ByteArray.toList_eq]
    obtain ⟨⟨l⟩⟩ := s
    cases l with
    | nil => rfl
    | cons b l => exact (decide_eq_false (show ¬ l.length + 1 = 0 by omega)).symm
  have hsz : s.data.toList.length = s.size := rfl
  by_cases h0 : s.size = 0
  · have HP := hide (numR_of (numP_bad (s := s.data.toList) (.inl (List.length_eq_zero_iff.1 (by rw [hsz]; exact h0)))))
    rw [decide_eq_true h0] at hem
    generalize numR s.data.toList = R at *
    go_enter Tryd.func44, Tryd.ntmps44
    go_wp2_with fail
    go_ret
    exact ⟨retv (intv (by rw [unhide HP]; rfl)), rfl⟩
  · rw [decide_eq_false h0] at hem
    by_cases h7 : 7 < s.size
    · have HP := hide (numR_of (numP_bad (s := s.data.toList) (.inr (.inl (by rw [hsz]; exact h7)))))
      have d7 : decide ((7 : Int) < (s.size : Int)) = true := decide_eq_true (by omega)
      generalize numR s.data.toList = R at *
      go_enter Tryd.func44, Tryd.ntmps44
      go_wp2_with fail
      go_ret
      exact ⟨retv (intv (by rw [unhide HP]; rfl)), rfl⟩
    · have d7 : decide ((7 : Int) < (s.size : Int)) = false := decide_eq_false (by omega)
      have at_ : ∀ k (h : k < s.size), s.data.toList[k]? = some s[k] := fun k h => byte_at s k h
      have hpos : 0 < s.size := Nat.pos_of_ne_zero h0
      have hh0 : s.data.toList.head? = some (s[0]'hpos) := by rw [List.head?_eq_getElem?]; exact at_ 0 (by omega)
      have HH := hide hh0
      have HAT := hide at_
      have HSZ := hide hsz
      have H7 := hide h7
      obtain ⟨R, hR⟩ : ∃ R, numR s.data.toList = R := ⟨_, rfl⟩
      rw [hR]
      have HR := hide hR
      clear hR hh0 at_ hsz h7
      go_enter Tryd.func44, Tryd.ntmps44
      go_wp2_with fail
      · have h1 : 1 < (s.size : Int) := by assumption
        have h48 : ((s[0]'hpos).toNat : Int) = 48 := by assumption
        have e48 : (s[0]'hpos) = (48 : UInt8) := UInt8.toNat_inj.1 (by show _ = 48; omega)
        have hb : numBad s.data.toList := .inr (.inr ⟨by rw [unhide HH, e48], by rw [unhide HSZ]; omega⟩)
        have hp := numR_of (numP_bad hb)
        rw [unhide HR] at hp
        go_ret
        exact ⟨retv (intv (by rw [hp]; rfl)), rfl⟩
      all_goals
        have hnb : ¬ numBad s.data.toList := by
          rintro (h | h | ⟨h, h2⟩)
          · have := congrArg List.length h
            rw [unhide HSZ] at this
            exact h0 this
          · rw [unhide HSZ] at h; exact (unhide H7) h
          · rw [unhide HH] at h
            injection h with h
            rw [unhide HSZ] at h2
            have h3 : ((s[0]'hpos).toNat : Int) = 48 := by rw [h]; rfl
            first
            | (have : (s.size : Int) ≤ 1 := by assumption
               omega)
            | (have : ¬ ((s[0]'hpos).toNat : Int) = 48 := by assumption
               exact this h3)
        have HNB := hide hnb
        clear hnb
        go_loop [3, 4] (fun n r => ∃ pos : Nat, r = .int .i64 (pos : Int) ∧ pos ≤ s.size ∧ n = .int .i64 ((numA 0 (s.data.toList.take pos) : Nat) : Int) ∧ ∀ (k : Nat) (c : UInt8), k < pos → s.data.toList[k]? = some c → digR c.toNat = true) (fun _ r => s.size - (intOf r).toNat)
        case atStart => exact ⟨0, rfl, Nat.zero_le _, rfl, fun k c h => absurd h (by omega)⟩
        case round =>
          obtain ⟨pos, rfl, hps, rfl, hall⟩ := hrel
          have hlt : numA 0 (s.data.toList.take pos) < 10000000 := by
            have h1 := numA_lt (s.data.toList.take pos) 0 0 (take_dig hall) (by decide)
            have h2 : (s.data.toList.take pos).length ≤ 7 := by rw [List.length_take, unhide HSZ]; have := unhide H7; omega
            have h3 : 10 ^ (0 + (s.data.toList.take pos).length) ≤ 10 ^ 7 := Nat.pow_le_pow_right (by decide) (by omega)
            omega
          have HALL := hide hall
          clear hall
          by_cases hp : pos < s.size
          · have hat := (unhide HAT) pos hp
            cases b2 : digR (s[pos]).toNat
            · have hp0 := numR_of (numP_no hat b2)
              rw [unhide HR] at hp0
              have hr0 : R = -1 := hp0
              have HP0 := hide hr0
              rw [digR, decide_eq_false_iff_not] at b2
              clear hp0 hr0 hat
              by_cases c1 : (s[pos]).toNat < 48
              · go_wp2_with fail
                go_ret
                exact ⟨retv (intv (by rw [unhide HP0])), rfl⟩
              · have c2 : 57 < (s[pos]).toNat := by omega
                clear b2
                go_wp2_with fail
                go_ret
                exact ⟨retv (intv (by rw [unhide HP0])), rfl⟩
            · have hd := b2
              rw [digR, decide_eq_true_eq] at hd
              have HT := hide (numA_take hat)
              have HAL := hide (show ∀ (k : Nat) (c : UInt8), k < pos + 1 → s.data.toList[k]? = some c → digR c.toNat = true from fun k c h1 h2 => by
                rcases Nat.lt_or_ge k pos with h4 | h4
                · exact (unhide HALL) k c h4 h2
                · obtain rfl : k = pos := by omega
                  rw [hat] at h2; cases h2; exact b2)
              clear hat b2
              obtain ⟨hd1, hd2⟩ := hd
              generalize numA 0 (s.data.toList.take pos) = N at *
              go_wp2_with fail
              go_round
              case rel =>
                refine ⟨pos + 1, by go_num, by omega, ?_, unhide HAL⟩
                rw [unhide HT]
                exact congrArg (Value.int IntKind.i64) (by omega)
              case measure => simp [intOf]; omega
          · have hfull : s.data.toList.take pos = s.data.toList := List.take_of_length_le (by rw [unhide HSZ]; omega)
            have hp0 := numR_of (numP_yes (unhide HNB) (fun k c h => (unhide HALL) k c (by
              obtain ⟨h1, _⟩ := List.getElem?_eq_some_iff.1 h
              rw [unhide HSZ] at h1; omega) h))
            rw [unhide HR] at hp0
            rw [hfull] at hlt ⊢
            have HP0 := hide hp0
            clear hp0 hfull
            generalize numA 0 s.data.toList = N at *
            by_cases hle : N ≤ 1048576
            · go_wp2_with fail
              go_ret
              exact ⟨retv (intv (by rw [unhide HP0, if_pos (by simpa using hle)])), rfl⟩
            · go_wp2_with fail
              go_ret
              exact ⟨retv (intv (by rw [unhide HP0, if_neg (by simpa using hle)])), rfl⟩
end Go.Proofs.YtgonllogaiiicaaDoor
