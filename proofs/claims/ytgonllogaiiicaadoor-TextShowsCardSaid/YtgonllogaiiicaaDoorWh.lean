/-
  Layer 17: op.Name, op.Find: names of instructions.
-/
import Derived.Test.YtgonllogaiiicaaDoorWg
import Derived.Test.YtgonllogaiiicaaDoorM01
import Derived.Test.YtgonllogaiiicaaDoorRc
import Derived.Deep.MidRow
namespace Go.Proofs.YtgonllogaiiicaaDoor
open Go.RowKit
set_option maxHeartbeats 4000000
set_option maxRecDepth 100000
theorem opName_any (o : Nat) (h : o ≤ 20) (w : World) (hl : Lay w) : Calls Tryd.prog 29 #[.int .i64 (o : Int)] w fun e w' => e = .returned (.string ⟨(opName (o : Int)).toArray⟩) ∧ w = w' := by
  have hk := known_any (o : Int) w
  rw [show knownB (o : Int) = true from decide_eq_true (by omega)] at hk
  have hn := hl.nam o (by omega)
  have HK := hide hk
  have he : opNames.getD o [] = opName (o : Int) := by rw [opName, Int.toNat_natCast]
  rw [he] at hn
  generalize opName (o : Int) = N at *
  have hob : (o : Int) < 21 := by omega
  clear hl hk he
  go_enter Tryd.func29, Tryd.ntmps29
  go_wp2_with (go_at_call 53; (with_reducible refine (unhide HK).mono ?_); rintro e w2 ⟨rfl, rfl⟩)
  go_ret
  exact ⟨rfl, rfl⟩
def NoF (s : Bs) (k : Nat) : Prop := ∀ j, j < k → opNames.getD j [] ≠ s
theorem noF_next {s : Bs} {k : Nat} (h : NoF s k) (hk : opNames.getD k [] ≠ s) : NoF s (k + 1) := fun j hj => by
  rcases Nat.lt_or_ge j k with h1 | h1
  · exact h j h1
  · obtain rfl : j = k := by omega
    exact hk
theorem find_yes {s : Bs} {k : Nat} (h : NoF s k) (hk : k < 21) (he : opNames.getD k [] = s) : findOp s = some k := by
  have hkl : k < opNames.length := hk
  unfold findOp
  rw [List.findIdx?_eq_some_iff_getElem]
  refine ⟨hkl, ?_, fun j hj => ?_⟩
  · rw [List.getD_eq_getElem?_getD, List.getElem?_eq_getElem hkl, Option.getD_some] at he
    rw [he]; simp
  · have h1 := h j hj
    have hjl : j < opNames.length := by omega
    rw [List.getD_eq_getElem?_getD, List.getElem?_eq_getElem hjl, Option.getD_some] at h1
    simpa using h1
theorem find_no {s : Bs} (h : NoF s 21) : findOp s = none := by
  unfold findOp
  rw [List.findIdx?_eq_none_iff]
  intro x hx
  obtain ⟨j, hj, rfl⟩ := List.getElem_of_mem hx
  have h1 := h j hj
  rw [List.getD_eq_getElem?_getD, List.getElem?_eq_getElem hj, Option.getD_some] at h1
  simpa using h1
/-- The number of a name, 0 if it is none. -/
def opIx (s : Bs) : Int := match findOp s with
  | some o => o
  | none => 0
theorem idx21 (cs : Array Value) (k : Nat) (hk : k < 21) (v : Value) (hv : cs[k]? = some v) (w : World) : (Instr.index 88 (.agg cs) (.int .i64 (k : Int))).run Tryd.prog w = .ok v w := by
  have hn : (0 : Int) ≤ (k : Int) ∧ (k : Int) < (21 : Int) := by omega
  simp [Instr.index, run_underlying Tryd.underlying88, asIntOf, hn, go_sem]
  rw [if_pos hk, hv]
  rfl
theorem opFind_any (s : Bs) (w : World) (hl : Lay w) : Calls Tryd.prog 59 #[.string ⟨s.toArray⟩] w fun e w' => e = .returned (.tuple #[.int .i64 (opIx s), .bool (findOp s).isSome]) ∧ w = w' := by
  have HNO := hide (fun h => find_no (s := s) h)
  have HY := hide (fun (k : Nat) (hk : k < 21) (h : (opNames.getD k [] == s) = true) (hn : NoF s k) => find_yes hn hk (beq_iff_eq.1 h))
  have HN := hide (fun (k : Nat) (h : (opNames.getD k [] == s) = false) (hn : NoF s k) => noF_next hn (beq_eq_false_iff_ne.1 h))
  have HRG := hide (show w.rangeAt 0 0 (opNames.map bv) from fun j v hv => by
    rw [List.getElem?_map] at hv
    have hj : j < 21 := by
      rcases Nat.lt_or_ge j 21 with h | h
      · exact h
      · rw [List.getElem?_eq_none (show opNames.length ≤ j from h)] at hv; cases hv
    have h1 := hl.nam j hj
    rw [List.getD_eq_getElem?_getD] at h1
    have hj2 : j < opNames.length := hj
    rw [List.getElem?_eq_getElem hj2] at hv h1
    rw [Nat.zero_add, h1]
    simpa [bv] using hv)
  have HQ := hide (fun (k : Nat) (hk : k < 21) => idx21 (opNames.map bv).toArray k hk (.string ⟨(opNames.getD k []).toArray⟩) (by
    have hj2 : k < opNames.length := hk
    rw [List.getElem?_toArray, List.getElem?_map, List.getD_eq_getElem?_getD, List.getElem?_eq_getElem hj2]; rfl) w)
  have hinf : (Tryd.prog.info? 88).map (·.size) = some (opNames.map bv).length := by kernel_rfl
  obtain ⟨N, hN⟩ : ∃ N : Nat → Bs, ∀ k, opNames.getD k [] = N k := ⟨_, fun _ => rfl⟩
  simp only [hN] at HQ HY HN
  have HINF := hide hinf
  generalize opNames.map bv = CS at *
  have HZ := hide (show NoF s 0 from fun j hj => absurd hj (by omega))
  have hix : opIx s = match findOp s with | some o => (o : Int) | none => 0 := rfl
  have HIX := hide hix
  generalize opIx s = IX at *
  generalize findOp s = FO at *
  clear hl hN hinf hix
  go_enter Tryd.func59, Tryd.ntmps59
  go_upto_region 1 with fail
  go_wp2_with (refine wpList_load_mid rfl 88 (.global 0) rfl 0 0 rfl CS _ (unhide HRG) Tryd.underlying88 rfl (unhide HINF) ?_)
  go_loop [7] (fun i => ∃ k : Nat, i = .int .i64 (k : Int) ∧ k ≤ 21 ∧ NoF s k) (fun i => 21 - (intOf i).toNat)
  case atStart => exact ⟨0, rfl, Nat.zero_le _, unhide HZ⟩
  case round =>
    obtain ⟨k, rfl, hk, hnf⟩ := hrel
    have HNF := hide hnf
    clear hnf
    by_cases hlt : k < 21
    · have hki : (k : Int) < 21 := by omega
      have hqi := unhide HQ k hlt
      have HYk := hide (unhide HY k hlt)
      have HNk := hide (unhide HN k)
      cases hb : (N k == s) with
      | true =>
        have HF := hide ((unhide HYk) hb (unhide HNF))
        go_wp2_with fail
        go_ret2
        exact ⟨retv (by rw [unhide HIX, unhide HF]; rfl), rfl⟩
      | false =>
        have HF := hide ((unhide HNk) hb (unhide HNF))
        go_wp2_with fail
        go_round
        case rel => exact ⟨k + 1, by go_num, by omega, unhide HF⟩
        case measure => simp [intOf]; omega
    · obtain rfl : k = 21 := by omega
      have HF := hide ((unhide HNO) (unhide HNF))
      go_wp2_with fail
      go_ret2
      exact ⟨retv (by rw [unhide HIX, unhide HF]; rfl), rfl⟩
end Go.Proofs.YtgonllogaiiicaaDoor
