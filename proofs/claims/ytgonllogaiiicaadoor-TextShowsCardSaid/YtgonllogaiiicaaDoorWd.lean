/-
  Layer 17: the number of a word: the program's side.
-/
import Derived.Test.YtgonllogaiiicaaDoorWc
namespace Go.Proofs.YtgonllogaiiicaaDoor
open Go.RowKit
set_option maxHeartbeats 2000000
set_option maxRecDepth 100000
theorem number_any (s : ByteArray) (w : World) (_hs : s.size ≤ 9223372036854775807) : Calls Tryd.prog 60 #[.string s] w fun e w' => e = .returned (.tuple #[.int .i64 (numP s.data.toList).1, .bool (numP s.data.toList).2]) ∧ Chg (fun _ => False) w w' := by
  have hem : s.toList.isEmpty = decide (s.size = 0) := by
    rw [ByteArray.toList_eq]
    obtain ⟨⟨l⟩⟩ := s
    cases l with
    | nil => rfl
    | cons b l => exact (decide_eq_false (show ¬ l.length + 1 = 0 by omega)).symm
  have hsz : s.data.toList.length = s.size := rfl
  by_cases h0 : s.size = 0
  · have HP := hide (numP_bad (s := s.data.toList) (.inl (List.length_eq_zero_iff.1 (by rw [hsz]; exact h0))))
    rw [decide_eq_true h0] at hem
    generalize numP s.data.toList = R at *
    go_enter Tryd.func60, Tryd.ntmps60
    go_wp2_with fail
    go_ret2
    exact ⟨retv (by rw [unhide HP]; rfl), Chg.refl _ _⟩
  · rw [decide_eq_false h0] at hem
    by_cases h7 : 7 < s.size
    · have HP := hide (numP_bad (s := s.data.toList) (.inr (.inl (by rw [hsz]; exact h7))))
      have d7 : decide ((7 : Int) < (s.size : Int)) = true := decide_eq_true (by omega)
      generalize numP s.data.toList = R at *
      go_enter Tryd.func60, Tryd.ntmps60
      go_wp2_with fail
      go_ret2
      exact ⟨retv (by rw [unhide HP]; rfl), Chg.refl _ _⟩
    · have d7 : decide ((7 : Int) < (s.size : Int)) = false := decide_eq_false (by omega)
      have at_ : ∀ k (h : k < s.size), s.data.toList[k]? = some s[k] := fun k h => by
        rw [Array.getElem?_toList]; exact Array.getElem?_eq_getElem h
      have hpos : 0 < s.size := Nat.pos_of_ne_zero h0
      have hh0 : s.data.toList.head? = some (s[0]'hpos) := by rw [List.head?_eq_getElem?]; exact at_ 0 (by omega)
      have HH := hide hh0
      have HAT := hide at_
      have HSZ := hide hsz
      have H7 := hide h7
      obtain ⟨R, hR⟩ : ∃ R, numP s.data.toList = R := ⟨_, rfl⟩
      rw [hR]
      have HR := hide hR
      clear hR hh0 at_ hsz h7
      go_enter Tryd.func60, Tryd.ntmps60
      go_wp2_with fail
      · have h1 : 1 < (s.size : Int) := by assumption
        have h48 : ((s[0]'hpos).toNat : Int) = 48 := by assumption
        have e48 : (s[0]'hpos) = (48 : UInt8) := UInt8.toNat_inj.1 (by show _ = 48; omega)
        have hb : numBad s.data.toList := .inr (.inr ⟨by rw [unhide HH, e48], by rw [unhide HSZ]; omega⟩)
        have hp := numP_bad hb
        rw [unhide HR] at hp
        go_ret2
        exact ⟨retv (by rw [hp]; rfl), Chg.refl _ _⟩
      all_goals
        have hnb : ¬ numBad s.data.toList := by
          rintro (h | h | ⟨h, h2⟩)
          · have := congrArg List.length h
            rw [unhide HSZ] at this
            exact h0 this
          · rw [unhide HSZ] at h; exact (unhide H7) h
          · rw [unhide HH] at h
            injection h with h
            rw [unhide HSZ] at h2
            have h3 : ((s[0]'hpos).toNat : Int) = 48 := by rw [h]; rfl
            first
            | (have : (s.size : Int) ≤ 1 := by assumption
               omega)
            | (have : ¬ ((s[0]'hpos).toNat : Int) = 48 := by assumption
               exact this h3)
        have HNB := hide hnb
        clear hnb
        go_loopw [4, 6] (fun n r w' => ∃ pos : Nat, w' = w.iter s pos ∧ pos ≤ s.size ∧ n = .int .i64 ((numA 0 (s.data.toList.take pos) : Nat) : Int) ∧ ∀ (k : Nat) (c : UInt8), k < pos → s.data.toList[k]? = some c → digR c.toNat = true) (fun _ _ w' => s.size - w'.iterPos w.heap.size)
        case atStart => exact ⟨0, rfl, Nat.zero_le _, rfl, fun k c h => absurd h (by omega)⟩
        case round =>
          obtain ⟨pos, rfl, hps, rfl, hall⟩ := hrel
          have hlt : numA 0 (s.data.toList.take pos) < 10000000 := by
            have h1 := numA_lt (s.data.toList.take pos) 0 0 (take_dig hall) (by decide)
            have h2 : (s.data.toList.take pos).length ≤ 7 := by rw [List.length_take, unhide HSZ]; have := unhide H7; omega
            have h3 : 10 ^ (0 + (s.data.toList.take pos).length) ≤ 10 ^ 7 := Nat.pow_le_pow_right (by decide) (by omega)
            omega
          have HALL := hide hall
          clear hall
          by_cases hp : pos < s.size
          · have hat := (unhide HAT) pos hp
            by_cases ha : (s[pos]).toNat < 128
            · have hnx : ∀ ty, (Instr.next (.pointer (some ⟨w.heap.size, 0, none⟩)) true ty).run Tryd.prog (w.iter s pos) = _ := fun ty => run_next_ascii w s pos ty hp ha
              have hD := digit_any (s[pos]).toNat (w.iter s (pos + 1))
              cases b2 : digR (s[pos]).toNat
              · have hp0 := numP_no hat b2
                rw [unhide HR] at hp0
                have HP0 := hide hp0
                rw [b2] at hD
                have HD := hide hD
                clear hD hp0 hat b2
                generalize (s[pos]).toNat = v at *
                go_wp2_with (go_at_call 74; refine (unhide HD).mono ?_; rintro e w' ⟨rfl, rfl⟩)
                go_ret2
                exact ⟨retv (by rw [unhide HP0]; rfl), iter_chg _ _ _⟩
              · have hd := b2
                rw [digR, decide_eq_true_eq] at hd
                have HT := hide (numA_take hat)
                have HAL := hide (show ∀ (k : Nat) (c : UInt8), k < pos + 1 → s.data.toList[k]? = some c → digR c.toNat = true from fun k c h1 h2 => by
                  rcases Nat.lt_or_ge k pos with h4 | h4
                  · exact (unhide HALL) k c h4 h2
                  · obtain rfl : k = pos := by omega
                    rw [hat] at h2; cases h2; exact b2)
                rw [b2] at hD
                have HD := hide hD
                clear hD hat b2
                generalize (s[pos]).toNat = v at *
                generalize numA 0 (s.data.toList.take pos) = N at *
                go_wp2_with (go_at_call 74; refine (unhide HD).mono ?_; rintro e w' ⟨rfl, rfl⟩)
                go_roundw
                case rel =>
                  refine ⟨pos + 1, rfl, by omega, ?_, unhide HAL⟩
                  rw [unhide HT]
                  exact congrArg (Value.int IntKind.i64) (by omega)
                case measure => simp; omega
            · have hnx : ∀ ty, (Instr.next (.pointer (some ⟨w.heap.size, 0, none⟩)) true ty).run Tryd.prog (w.iter s pos) = _ := fun ty => run_next_any w s pos ty hp
              have hdh := (decode_high s pos hp (by omega)).1
              have hp0 := numP_no hat (by rw [digR]; exact decide_eq_false (by omega))
              rw [unhide HR] at hp0
              have HP0 := hide hp0
              clear hp0 hat ha
              generalize (Utf8.decode s pos).1 = r at *
              generalize (Utf8.decode s pos).2 = dd at *
              have hD := digit_any r (w.iter s (pos + dd))
              rw [show digR r = false from by rw [digR]; exact decide_eq_false (by omega)] at hD
              have HD := hide hD
              clear hD
              go_wp2_with (go_at_call 74; refine (unhide HD).mono ?_; rintro e w' ⟨rfl, rfl⟩)
              go_ret2
              exact ⟨retv (by rw [unhide HP0]; rfl), iter_chg _ _ _⟩
          · have hnx : ∀ ty, (Instr.next (.pointer (some ⟨w.heap.size, 0, none⟩)) true ty).run Tryd.prog (w.iter s pos) = _ := fun ty => run_next_end w s pos ty hp
            have hfull : s.data.toList.take pos = s.data.toList := List.take_of_length_le (by rw [unhide HSZ]; omega)
            have hp0 := numP_yes (unhide HNB) (fun k c h => (unhide HALL) k c (by
              obtain ⟨h1, _⟩ := List.getElem?_eq_some_iff.1 h
              rw [unhide HSZ] at h1; omega) h)
            rw [unhide HR] at hp0
            rw [hfull] at hlt ⊢
            have HP0 := hide hp0
            clear hp0 hfull
            generalize numA 0 s.data.toList = N at *
            go_wp2_with fail
            go_ret2
            exact ⟨retv (by rw [unhide HP0]; simp; omega), iter_chg _ _ _⟩
end Go.Proofs.YtgonllogaiiicaaDoor
