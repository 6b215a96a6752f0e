/-
  Layer 17: the two ways to say whether instructions may be are one; letters, digits, labels, numbers of a text: the program's side.
-/
import Derived.Test.YtgonllogaiiicaaDoorWb
import Derived.Laws.RangeAny
import Derived.Test.YtgonllogaiiicaaDoorM02
namespace Go.Proofs.YtgonllogaiiicaaDoor
open Go.RowKit
set_option maxHeartbeats 2000000
set_option maxRecDepth 100000
theorem numI_eq (o : Int) : numI o = (numsN o : Int) := by
  by_cases h10 : o = 10
  · subst h10; rfl
  by_cases h1 : o = 1 ∨ o = 2 ∨ o = 3 ∨ o = 5 ∨ o = 6 ∨ o = 11 ∨ o = 12 ∨ o = 18 ∨ o = 19 ∨ o = 20
  · rw [numI_one h1, numsN, if_neg h10, if_pos h1]; rfl
  · rw [numI_zero h1 h10, numsN, if_neg h10, if_neg h1]; rfl
theorem insOkB_eq (i : Ins) : insOkB i = insB i := by
  rw [insOkB, insB, Bool.eq_iff_iff]
  simp only [knownB, withinB, numI_eq, Bool.and_eq_true, decide_eq_true_eq]
  by_cases hg : goesB i.op = true
  · rw [if_pos hg, if_pos hg]
    simp only [Bool.or_eq_true, beq_iff_eq, decide_eq_true_eq]
    omega
  · rw [if_neg hg, if_neg hg]
    simp only [Bool.and_eq_true, Bool.or_eq_true, beq_iff_eq, decide_eq_true_eq]
    omega
theorem codeE_eq (l : List Ins) : codeE l = checkE l := by
  rw [codeE, checkE]
  by_cases h0 : 20000 < l.length
  · rw [if_pos (.inl h0), if_pos h0]
  · rw [if_neg h0]
    have e : (l.any badI = true) ↔ ¬ (l.all insB = true) := by
      rw [List.any_eq_true, List.all_eq_true]
      constructor
      · rintro ⟨i, hi, h⟩ ha
        rw [badI, insOkB_eq, ha i hi] at h; cases h
      · intro h
        refine Classical.byContradiction fun hn => h fun i hi => ?_
        cases hb : insB i with
        | true => rfl
        | false => exact absurd ⟨i, hi, by rw [badI, insOkB_eq, hb]; rfl⟩ hn
    have e2 : (l.any (farI l.length) = true) ↔ ¬ (l.all (fun i => !goesB i.op || decide (i.a < l.length)) = true) := by
      rw [List.any_eq_true, List.all_eq_true]
      constructor
      · rintro ⟨i, hi, h⟩ ha
        have := ha i hi
        rw [farI, Bool.and_eq_true, decide_eq_true_eq] at h
        rw [h.1] at this
        simp at this; omega
      · intro h
        refine Classical.byContradiction fun hn => h fun i hi => ?_
        cases hg : goesB i.op with
        | false => rfl
        | true =>
          by_cases hlt : i.a < l.length
          · simp [hlt]
          · exact absurd ⟨i, hi, by rw [farI, hg]; simp; omega⟩ hn
    by_cases ha : l.all insB = true
    · rw [if_neg (by rintro (h | h); exact h0 h; exact e.1 h ha), if_pos ha]
      by_cases hb : l.all (fun i => !goesB i.op || decide (i.a < l.length)) = true
      · rw [if_neg (fun h => e2.1 h hb), if_pos hb]
      · rw [if_pos (e2.2 hb), if_neg hb]
    · rw [if_pos (.inr (e.2 ha)), if_neg ha]
theorem letter_any (r : Nat) (w : World) : Calls Tryd.prog 73 #[.int .i32 (r : Int)] w fun e w' => e = .returned (.bool (letR r)) ∧ w = w' := by
  have hE := hide (show letR r = ((decide ((97 : Int) ≤ r) && decide ((r : Int) ≤ 122)) || (decide ((65 : Int) ≤ r) && decide ((r : Int) ≤ 90))) from by
    rw [letR, Bool.eq_iff_iff]; simp; omega)
  generalize letR r = E at *
  cases b1 : decide ((97 : Int) ≤ r) <;> cases b2 : decide ((r : Int) ≤ 122) <;> cases b3 : decide ((65 : Int) ≤ r) <;> cases b4 : decide ((r : Int) ≤ 90)
  all_goals
    have h := unhide hE
    rw [b1, b2, b3, b4] at h
    have HE := hide h
    clear hE h
    go_enter Tryd.func73, Tryd.ntmps73
    go_wp2_with fail
    go_ret
    exact ⟨retv (boolv (by rw [unhide HE]; rfl)), rfl⟩
theorem digit_any (r : Nat) (w : World) : Calls Tryd.prog 74 #[.int .i32 (r : Int)] w fun e w' => e = .returned (.bool (digR r)) ∧ w = w' := by
  have hE := hide (show digR r = (decide ((48 : Int) ≤ r) && decide ((r : Int) ≤ 57)) from by
    rw [digR, Bool.eq_iff_iff]; simp; omega)
  generalize digR r = E at *
  cases b1 : decide ((48 : Int) ≤ r) <;> cases b2 : decide ((r : Int) ≤ 57)
  all_goals
    have h := unhide hE
    rw [b1, b2] at h
    have HE := hide h
    clear hE h
    go_enter Tryd.func74, Tryd.ntmps74
    go_wp2_with fail
    go_ret
    exact ⟨retv (boolv (by rw [unhide HE]; rfl)), rfl⟩
theorem iter_chg (w : World) (s : ByteArray) (pos : Nat) : Chg (fun _ => False) w (w.iter s pos) := (Chg.refl _ w).alloc _
theorem label_any (s : ByteArray) (w : World) (_hs : s.size ≤ 9223372036854775807) : Calls Tryd.prog 58 #[.string s] w fun e w' => e = .returned (.bool (labelB s.data.toList)) ∧ Chg (fun _ => False) w w' := by
  have at_ : ∀ k (h : k < s.size), s.data.toList[k]? = some s[k] := fun k h => by
    rw [Array.getElem?_toList]; exact Array.getElem?_eq_getElem h
  have HA := hide (show ∀ k (h : k < s.size), okR k (s[k]).toNat = false → labelB s.data.toList = false from fun k h hf => lab_bad (at_ k h) hf)
  have HB := hide (show (∀ k (h : k < s.size), okR k (s[k]).toNat = true) → labelB s.data.toList = !s.toList.isEmpty from fun hall => by
    rw [ByteArray.toList_eq]
    refine lab_good (fun k c hk => ?_)
    have hlt : k < s.size := by
      obtain ⟨h, _⟩ := List.getElem?_eq_some_iff.1 hk
      simpa using h
    rw [at_ k hlt] at hk; cases hk
    exact hall k hlt)
  clear at_
  generalize labelB s.data.toList = al at *
  go_enter Tryd.func58, Tryd.ntmps58
  go_wp2_with fail
  go_loopw [4] (fun n w' => ∃ pos : Nat, w' = w.iter s pos ∧ pos ≤ s.size ∧ ∀ k (h : k < s.size), k < pos → okR k (s[k]).toNat = true) (fun _ w' => s.size - w'.iterPos w.heap.size)
  case atStart => exact ⟨0, rfl, Nat.zero_le _, fun k h h2 => absurd h2 (by omega)⟩
  case round =>
    obtain ⟨pos, rfl, hps, hall⟩ := hrel
    have HALL := hide hall
    clear hall
    by_cases hp : pos < s.size
    · by_cases ha : (s[pos]).toNat < 128
      · have hnx : ∀ ty, (Instr.next (.pointer (some ⟨w.heap.size, 0, none⟩)) true ty).run Tryd.prog (w.iter s pos) = _ := fun ty => run_next_ascii w s pos ty hp ha
        have hf := (unhide HA) pos hp
        have HFIN := hide (fun (h : okR pos (s[pos]).toNat = true) => (show ∀ k (h2 : k < s.size), k < pos + 1 → okR k (s[k]).toNat = true from fun k h2 h3 => by
          rcases Nat.lt_or_ge k pos with h4 | h4
          · exact (unhide HALL) k h2 h4
          · obtain rfl : k = pos := by omega
            exact h))
        have hL := letter_any (s[pos]).toNat (w.iter s (pos + 1))
        have hD := digit_any (s[pos]).toNat (w.iter s (pos + 1))
        have hO : okR pos (s[pos]).toNat = (letR (s[pos]).toNat || (!decide ((pos : Int) = 0) && (digR (s[pos]).toNat || decide (((s[pos]).toNat : Int) = 95)))) := rfl
        generalize (s[pos]).toNat = v at *
        generalize okR pos v = O at *
        have HF := hide hf
        have HO := hide hO
        clear hf hO
        cases b1 : letR v <;> cases b2 : digR v <;> cases b3 : ((pos : Int) == 0) <;> cases b4 : ((v : Int) == 95)
        all_goals
          have ho := unhide HO
          rw [b1, b2, show decide ((pos : Int) = 0) = ((pos : Int) == 0) from rfl, show decide ((v : Int) = 95) = ((v : Int) == 95) from rfl, b3, b4] at ho
          simp only [Bool.or_false, Bool.or_true, Bool.not_true, Bool.not_false, Bool.and_true, Bool.and_false] at ho
          rw [b1] at hL
          rw [b2] at hD
          have HL := hide hL
          have HD := hide hD
          have HO2 := hide ho
          clear hL hD ho b1 b2
          go_wp2_with (first
            | (go_at_call 73; refine (unhide HL).mono ?_; rintro e w' ⟨rfl, rfl⟩)
            | (go_at_call 74; refine (unhide HD).mono ?_; rintro e w' ⟨rfl, rfl⟩))
          first
          | (go_ret; exact ⟨retv (boolv ((unhide HF) (unhide HO2)).symm), iter_chg _ _ _⟩)
          | (go_roundw
             case rel => exact ⟨pos + 1, rfl, by omega, (unhide HFIN) (unhide HO2)⟩
             case measure => simp; omega)
      · have hnx : ∀ ty, (Instr.next (.pointer (some ⟨w.heap.size, 0, none⟩)) true ty).run Tryd.prog (w.iter s pos) = _ := fun ty => run_next_any w s pos ty hp
        have hdh := (decode_high s pos hp (by omega)).1
        have HAL := hide ((unhide HA) pos hp (okR_high pos (by omega)))
        generalize (Utf8.decode s pos).1 = r at *
        generalize (Utf8.decode s pos).2 = dd at *
        have hL := letter_any r (w.iter s (pos + dd))
        have hD := digit_any r (w.iter s (pos + dd))
        have h1 : letR r = false := by rw [letR, Bool.or_eq_false_iff]; exact ⟨decide_eq_false (by omega), decide_eq_false (by omega)⟩
        have h2 : digR r = false := by rw [digR]; exact decide_eq_false (by omega)
        have h3 : ((r : Int) == 95) = false := by rw [beq_eq_false_iff_ne]; omega
        rw [h1] at hL
        rw [h2] at hD
        have HL := hide hL
        have HD := hide hD
        clear ha hL hD h1 h2
        cases b3 : ((pos : Int) == 0)
        all_goals
          go_wp2_with (first
            | (go_at_call 73; refine (unhide HL).mono ?_; rintro e w' ⟨rfl, rfl⟩)
            | (go_at_call 74; refine (unhide HD).mono ?_; rintro e w' ⟨rfl, rfl⟩))
          go_ret
          exact ⟨retv (boolv (unhide HAL).symm), iter_chg _ _ _⟩
    · have hnx : ∀ ty, (Instr.next (.pointer (some ⟨w.heap.size, 0, none⟩)) true ty).run Tryd.prog (w.iter s pos) = _ := fun ty => run_next_end w s pos ty hp
      have HAL := hide ((unhide HB) (fun k h => (unhide HALL) k h (by omega)))
      go_wp2_with fail
      go_ret
      exact ⟨retv (boolv (unhide HAL).symm), iter_chg _ _ _⟩
end Go.Proofs.YtgonllogaiiicaaDoor
