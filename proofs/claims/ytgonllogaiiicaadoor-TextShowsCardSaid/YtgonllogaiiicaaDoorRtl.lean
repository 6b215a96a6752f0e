/-
  Layer 17, the document's side: do some go there? a place's label; all names.
-/
import Derived.Test.YtgonllogaiiicaaDoorRsm
namespace Go.Proofs.YtgonllogaiiicaaDoor
open Go.RowKit
set_option maxHeartbeats 2000000
set_option maxRecDepth 100000
def toldI (at_ : Nat) (i : Ins) : Bool := goesB i.op && i.a == (at_ : Int)
theorem refTold_any (l : List Ins) (c at_ : Nat) (A : Option Addr) (T : Nat → Prop) (w : World) (hr : Rd T w A (l.flatMap insv)) (hn : l.length ≤ 1000000) :
    Calls Tryd.prog 35 #[.slice A l.length c, .int .i64 (at_ : Int)] w fun e w' => e = .returned (.bool (told l at_)) ∧ w = w' := by
  have HR := hide hr
  have HE := hide (show told l at_ = l.any (toldI at_) from rfl)
  generalize told l at_ = E at *
  clear hr
  go_enter Tryd.func35, Tryd.ntmps35
  go_wp2_with fail
  go_loop [5] (fun i => ∃ k : Nat, i = .int .i64 (k : Int) ∧ k ≤ l.length ∧ (l.take k).any (toldI at_) = false) (fun i => l.length - (intOf i).toNat)
  case atStart => exact ⟨0, rfl, Nat.zero_le _, rfl⟩
  case round =>
    obtain ⟨k, rfl, hk, hany⟩ := hrel
    by_cases hlt : k < l.length
    · have hki : (k : Int) < (l.length : Int) := by omega
      have hs := any_take_succ (toldI at_) l k hlt
      obtain ⟨b, o, rfl, _, hat⟩ := code_at (unhide HR) (by rintro rfl; simp at hlt)
      obtain ⟨q0, q1, q2⟩ := hat k _ (List.getElem?_eq_getElem hlt)
      have hmem : toldI at_ l[k] = true → l.any (toldI at_) = true := fun h => List.any_eq_true.2 ⟨_, List.getElem_mem hlt, h⟩
      generalize l[k] = x at *
      have hp : toldI at_ x = (goesB x.op && x.a == (at_ : Int)) := rfl
      have hc := refGoes_any x.op w
      have HS := hide hs
      have HANY := hide hany
      have HM := hide hmem
      cases hg : goesB x.op
      case false =>
        rw [hg] at hc hp
        have HC := hide hc
        have HP := hide hp
        clear hat hs hany hmem hc hp hg
        go_wp2_with (go_at_call 34; (with_reducible refine (unhide HC).mono ?_); rintro e w2 ⟨rfl, rfl⟩)
        go_round
        case rel => exact ⟨k + 1, by go_num, by omega, by rw [unhide HS, unhide HANY, unhide HP]; rfl⟩
        case measure => simp [intOf]; omega
      case true =>
        cases hd : (x.a == (at_ : Int))
        all_goals
          rw [hg, hd] at hp
          rw [hg] at hc
          have HC := hide hc
          have HP := hide hp
          clear hat hs hany hmem hc hp hg
          go_wp2_with (go_at_call 34; (with_reducible refine (unhide HC).mono ?_); rintro e w2 ⟨rfl, rfl⟩)
        · go_round
          case rel => exact ⟨k + 1, by go_num, by omega, by rw [unhide HS, unhide HANY, unhide HP]; rfl⟩
          case measure => simp [intOf]; omega
        · go_ret
          exact ⟨retv (boolv (by rw [unhide HE, (unhide HM) (unhide HP)])), rfl⟩
    · obtain rfl : k = l.length := by omega
      have hki : ¬ (l.length : Int) < (l.length : Int) := by omega
      rw [List.take_length] at hany
      have HANY := hide hany
      clear hany
      go_wp2_with fail
      go_ret
      exact ⟨retv (boolv (by rw [unhide HE, unhide HANY])), rfl⟩
theorem countT_le (l : List Ins) : ∀ k, countT l k ≤ k
  | 0 => Nat.le_refl _
  | k + 1 => by
    have := countT_le l k
    rw [countT]; split <;> omega
theorem refName_any (l : List Ins) (c at_ : Nat) (A : Option Addr) (T : Nat → Prop) (w : World) (hr : Rd T w A (l.flatMap insv)) (hn : l.length ≤ 1000000) (ha : at_ ≤ 100000000) :
    Calls Tryd.prog 36 #[.slice A l.length c, .int .i64 (at_ : Int)] w fun e w' => e = .returned (.string ⟨(nameL l at_).toArray⟩) ∧ Chg (fun _ => False) w w' := by
  have HT := hide (fun k => refTold_any l c k A T w hr hn)
  have HN := hide (show ∀ k, countT l (k + 1) = if told l k = true then countT l k + 1 else countT l k from fun k => rfl)
  have HL := hide (show ∀ k, countT l k ≤ k from countT_le l)
  have HE := hide (show nameL l at_ = 76 :: Lib.decDigits (countT l at_) from rfl)
  generalize nameL l at_ = E at *
  clear hr
  go_enter Tryd.func36, Tryd.ntmps36
  go_wp2_with fail
  go_loop [5, 6] (fun n i => ∃ k : Nat, i = .int .i64 (k : Int) ∧ k ≤ at_ ∧ n = .int .i64 ((countT l k : Nat) : Int)) (fun _ i => at_ - (intOf i).toNat)
  case atStart => exact ⟨0, rfl, Nat.zero_le _, rfl⟩
  case round =>
    obtain ⟨k, rfl, hk, rfl⟩ := hrel
    by_cases hlt : k < at_
    · have hki : (k : Int) < (at_ : Int) := by omega
      have hl := (unhide HL) k
      have HN1 := hide ((unhide HN) k)
      have hT := (unhide HT) k
      generalize countT l k = n at *
      cases hg : told l k
      all_goals
        rw [hg] at hT HN1
        have HT1 := hide hT
        clear hT hg
        go_wp2_with (go_at_call 35; (with_reducible refine (unhide HT1).mono ?_); rintro e w2 ⟨rfl, rfl⟩)
        go_round
        case rel => exact ⟨k + 1, by go_num, by omega, by rw [unhide HN1]; first | rfl | (simp only [if_true]; go_num)⟩
        case measure => simp [intOf]; omega
    · obtain rfl : k = at_ := by omega
      have hki : ¬ (k : Int) < (k : Int) := by omega
      have hl := (unhide HL) k
      have HD := hide (refDigits_any (countT l k) w (by omega))
      have hdl := dec_len1 (countT l k)
      generalize countT l k = n at *
      have HE2 := hide (show (⟨#[76]⟩ : ByteArray) ++ (⟨(Lib.decDigits n).toArray⟩ : ByteArray) = ⟨E.toArray⟩ by
        rw [unhide HE, show (⟨#[76]⟩ : ByteArray) = ⟨[76].toArray⟩ from rfl, str_cat]; rfl)
      generalize Lib.decDigits n = D at *
      go_wp2_with (go_at_call 39; (with_reducible refine (unhide HD).mono ?_); rintro e w2 ⟨rfl, hc2⟩; have HC2 := hide hc2; clear hc2)
      go_ret
      exact ⟨retv (congrArg Value.string (unhide HE2)), unhide HC2⟩
theorem refNames_any (w : World) : Calls Tryd.prog 37 #[] w fun e w' => e = .returned (.slice (some ⟨w.heap.size, 0, none⟩) 21 21) ∧ w' = w.alloc (.cells (opNames.map bv).toArray 9) := by
  go_enter Tryd.func37, Tryd.ntmps37
  go_wp2_with fail
  go_ret
  exact ⟨rfl, rfl⟩
end Go.Proofs.YtgonllogaiiicaaDoor
