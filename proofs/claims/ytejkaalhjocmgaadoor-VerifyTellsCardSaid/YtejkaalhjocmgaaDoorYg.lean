/-
  Layer 19: Depths and Owners; what the chapter's examples fix.
-/
import Derived.Test.YtejkaalhjocmgaaDoorYf
namespace Go.Proofs.YtejkaalhjocmgaaDoor
open Go.RowKit
set_option maxHeartbeats 1000000
set_option maxRecDepth 100000
theorem TellOut.old {l : List Int} {w W w' : World} {e : Ending} (hc : Chg (fun _ => False) w W) (h : TellOut l W e w') : TellOut l w e w' := by
  obtain ⟨v, h1, h2, h3⟩ := h
  have := hc.size
  exact ⟨v, h1, h2.mono (fun k hk => by omega), hc.trans' h3⟩
theorem depths_any (m : Im) (pA cA : Option Addr) (pc cc : Nat) (T T2 : Nat → Prop) (w : World) (hp : Rd T w pA (m.pool.flatMap cstv)) (hc : Rd T2 w cA (m.code.flatMap insv)) (hn : m.code.length ≤ 900) (pn : m.pool.length ≤ 100000) (px : ∀ x ∈ m.pool, x.text.size ≤ 9223372036854775807) (lay : Lay w) :
    Calls Tryd.prog 10 #[.agg #[.slice pA m.pool.length pc, .slice cA m.code.length cc]] w fun e w' => TellOut (depL m) w e w' := by
  have c1 := (Chg.refl (fun _ => False) w).alloc (.cells #[.slice pA m.pool.length pc, .slice cA m.code.length cc] 25)
  have HT := hide (dep_tell m pA cA pc cc T T2 _ (hp.chg c1 (fun _ _ _ => id)) (hc.chg c1 (fun _ _ _ => id)) hn pn px (lay.chg c1 (fun _ _ => id)))
  have HC := hide c1
  clear hp hc px lay c1
  go_enter Tryd.func10, Tryd.ntmps10
  go_wp2_with (go_at_call 19; refine (unhide HT).mono ?_; rintro e w2 ⟨v, rfl, h2, h3⟩; have HO := hide (TellOut.old (unhide HC) ⟨v, rfl, h2, h3⟩); clear h2 h3)
  go_ret
  exact unhide HO
theorem owners_any (m : Im) (pA cA : Option Addr) (pc cc : Nat) (T T2 : Nat → Prop) (w : World) (hp : Rd T w pA (m.pool.flatMap cstv)) (hc : Rd T2 w cA (m.code.flatMap insv)) (hn : m.code.length ≤ 900) (pn : m.pool.length ≤ 100000) (px : ∀ x ∈ m.pool, x.text.size ≤ 9223372036854775807) (lay : Lay w) :
    Calls Tryd.prog 12 #[.agg #[.slice pA m.pool.length pc, .slice cA m.code.length cc]] w fun e w' => TellOut (ownL m) w e w' := by
  have c1 := (Chg.refl (fun _ => False) w).alloc (.cells #[.slice pA m.pool.length pc, .slice cA m.code.length cc] 25)
  have HT := hide (own_tell m pA cA pc cc T T2 _ (hp.chg c1 (fun _ _ _ => id)) (hc.chg c1 (fun _ _ _ => id)) hn pn px (lay.chg c1 (fun _ _ => id)))
  have HC := hide c1
  clear hp hc px lay c1
  go_enter Tryd.func12, Tryd.ntmps12
  go_wp2_with (go_at_call 19; refine (unhide HT).mono ?_; rintro e w2 ⟨v, rfl, h2, h3⟩; have HO := hide (TellOut.old (unhide HC) ⟨v, rfl, h2, h3⟩); clear h2 h3)
  go_ret
  exact unhide HO
/-- The chapter's example, and the one that may not be. -/
def mOne : Im := ⟨[⟨false, 1, ⟨#[]⟩⟩], [⟨1, 0, 0⟩, ⟨0, 0, 0⟩]⟩
def mTwo : Im := ⟨[], [⟨0, 0, 0⟩]⟩
theorem one_img : imgE mOne = 0 := by
  have h1 : poolBad mOne.pool = false := by
    simp [poolBad, mOne, wrongAt, List.range_succ, cstOkB]
    decide
  have h2 : codeE mOne.code = 0 := by decide +kernel
  unfold imgE
  rw [if_neg (by rw [h1]; simp [mOne]), h2]
theorem two_img : imgE mTwo = 0 := by
  have h1 : poolBad mTwo.pool = false := rfl
  have h2 : codeE mTwo.code = 0 := by decide +kernel
  unfold imgE
  rw [if_neg (by rw [h1]; simp [mTwo]), h2]
theorem one_reach (k : Nat) (s : RSt) (h : Reach conB mOne k s) : (k = 0 ∧ s = ⟨-1, 0, 0, []⟩) ∨ (k = 1 ∧ s = ⟨-1, 0, 1, []⟩) := by
  induction h with
  | base => exact .inl ⟨rfl, rfl⟩
  | @step k s l t s' _ hn hm ih =>
    rcases ih with ⟨rfl, rfl⟩ | ⟨rfl, rfl⟩
    · have e : nextR conB mOne 0 ⟨-1, 0, 0, []⟩ = some [(1, ⟨-1, 0, 1, []⟩)] := rfl
      rw [e] at hn
      injection hn with hn
      subst hn
      rw [List.mem_singleton] at hm
      injection hm with h1 h2
      exact .inr ⟨h1, h2⟩
    · have e : nextR conB mOne 1 ⟨-1, 0, 1, []⟩ = some [] := rfl
      rw [e] at hn
      injection hn with hn
      subst hn
      cases hm
theorem one_r1 : Reach conB mOne 1 ⟨-1, 0, 1, []⟩ := Reach.step (l := [(1, ⟨-1, 0, 1, []⟩)]) Reach.base rfl (List.mem_singleton.2 rfl)
theorem one_good : Good conB mOne := by
  refine ⟨by decide, fun k s h => ?_, fun k s h => ?_, fun k s s' h h' => ?_⟩
  · rcases one_reach k s h with ⟨rfl, _⟩ | ⟨rfl, _⟩ <;> decide
  · rcases one_reach k s h with ⟨rfl, rfl⟩ | ⟨rfl, rfl⟩ <;> rfl
  · rcases one_reach k s h with ⟨rfl, rfl⟩ | ⟨rfl, rfl⟩ <;> rcases one_reach _ s' h' with ⟨h1, h2⟩ | ⟨h1, h2⟩
    · exact h2.symm
    · cases h1
    · cases h1
    · exact h2.symm
theorem one_ver : verE mOne = 0 := by
  unfold verE
  rw [if_pos one_img, if_pos (goodB_iff.2 one_good)]
theorem one_dep : depL mOne = [0, 1] := by
  unfold depL
  rw [if_pos one_ver]
  show [depAt mOne 0, depAt mOne 1] = _
  rw [depAt_some one_good Reach.base, depAt_some one_good one_r1]
theorem one_own : ownL mOne = [-1, -1] := by
  unfold ownL
  rw [if_pos one_ver]
  show [ownAt mOne 0, ownAt mOne 1] = _
  rw [ownAt_some one_good Reach.base, ownAt_some one_good one_r1]
theorem two_ver : verE mTwo = 190 := by
  have hg : goodB mTwo = false := by
    cases h : goodB mTwo with
    | false => rfl
    | true =>
      have := (goodB_iff.1 h).ok 0 _ Reach.base
      cases this
  unfold verE
  rw [if_pos two_img, hg]
  rfl
end Go.Proofs.YtejkaalhjocmgaaDoor
