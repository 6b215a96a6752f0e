/-
  Layer 9, the program's side: which nodes, and which types, may be.
-/
import Derived.Test.YticnehmgaklhfaaGreatDoorTree3
import Derived.Test.YticnehmgaklhfaaGreatDoorLexB
namespace Go.Proofs.YticnehmgaklhfaaGreatDoor
open Go.RowKit
set_option maxHeartbeats 4000000
set_option maxRecDepth 100000
theorem text_eq (s : ByteArray) (l : List UInt8) : decide (s = ⟨l.toArray⟩) = (s.toList == l) := by
  rw [Bool.eq_iff_iff, decide_eq_true_eq, beq_iff_eq, ByteArray.toList_eq]
  obtain ⟨⟨d⟩⟩ := s
  constructor
  · intro h
    injection h with h
    injection h
  · intro h
    have h : d = l := h
    rw [h]
theorem nodeB_var {n : Nd} (h : n.kind = 31) : nodeB n = (n.kids == 0 && n.text.toList.isEmpty && decide (0 ≤ n.num) && decide (n.num ≤ 1048576)) := by
  unfold nodeB
  rw [if_pos h, text_eq n.text []]
  congr 3
  cases n.text.toList <;> rfl
theorem nodeB_con {n : Nd} (h : n.kind = 32) (h0 : n.num = 0) : nodeB n = if (n.text.toList == [45, 62]) = true then n.kids == 2 else if (n.text.toList == [105, 110, 116]) = true ∨ (n.text.toList == [116, 101, 120, 116]) = true then n.kids == 0 else if (n.text.toList == [114, 101, 102]) = true then n.kids == 1 else nameB 2 n.text && decide (n.kids ≤ 8) := by
  have hh : ∀ l : List UInt8, (n.text = ⟨l.toArray⟩) = ((n.text.toList == l) = true) := fun l => by rw [← text_eq, decide_eq_true_eq]
  unfold nodeB
  rw [if_neg (by omega), if_neg (by omega)]
  unfold ArrowT IntT TextT RefT
  simp only [← hh]
def ndV (n : Nd) : Value := .agg #[.int .i64 n.kind, .string n.text, .int .i64 n.num, .int .i64 n.kids]
theorem right_any (n : Nd) (w : World) (hs : ndOk n) (hl : Lay w) : Calls Tryz.prog 67 #[ndV n] w fun e w' => e = .returned (.bool (nodeB n)) ∧ Chg (fun _ => False) w w' := by
  have hv := nodeB_var (n := n)
  have hc := nodeB_con (n := n)
  have hN := fun W (hW : Chg (fun _ => False) w W) => right_con n.text W hs (hl.chg hW (fun _ _ => id))
  have ho : n.kind ≠ 31 → (n.kind ≠ 32 ∨ n.num ≠ 0) → nodeB n = false := fun h h2 => by unfold nodeB; rw [if_neg h, if_pos h2]
  unfold ndV
  obtain ⟨k, t, m, q⟩ := n
  dsimp only at *
  generalize nodeB ⟨k, t, m, q⟩ = E at *
  have H0 := hide ((Chg.refl (fun _ => False) w).alloc (.cells #[.int .i64 k, .string t, .int .i64 m, .int .i64 q] 56))
  have HBK := hide (Blk.new w 56 #[.int .i64 k, .string t, .int .i64 m, .int .i64 q])
  have HNM := hide hN
  clear hN hl
  by_cases h31 : k = 31
  · subst h31
    have hE := hv rfl
    clear hv hc ho
    cases b1 : (q == 0) <;> cases b2 : t.toList.isEmpty <;> cases b3 : decide (0 ≤ m) <;> cases b4 : decide (m ≤ 1048576)
    all_goals
      have HE := hide hE
      rw [b1, b2, b3, b4] at HE
      clear hE
      go_enter Tryz.func67, Tryz.ntmps67
      go_wp2_with fail
      go_ret
      exact ⟨retv (boolv (unhide HE).symm), unhide H0⟩
  · by_cases h32 : k = 32 ∧ m = 0
    · obtain ⟨rfl, rfl⟩ := h32
      have hE := hc rfl rfl
      clear hv hc ho h31
      cases b1 : (t.toList == [45, 62])
      · cases b2 : (t.toList == [105, 110, 116])
        · cases b3 : (t.toList == [116, 101, 120, 116])
          · cases b4 : (t.toList == [114, 101, 102])
            · cases b5 : nameB 2 t <;> cases b6 : decide (q ≤ 8)
              all_goals
                have HE := hide hE
                rw [b1, b2, b3, b4, b5, b6] at HE
                rw [b5] at HNM
                clear hE b5
                go_enter Tryz.func67, Tryz.ntmps67
                go_wp2_with (go_at_call 62; refine ((unhide HNM) _ (unhide H0)).mono ?_; rintro e w2 ⟨rfl, hc2⟩; have HC2 := hide hc2; have y3 := ((unhide HBK).chg hc2 id).cell 3; simp only [List.getElem?_toArray, List.getElem?_cons_zero, List.getElem?_cons_succ] at y3; clear hc2)
                go_ret
                exact ⟨retv (boolv (by rw [unhide HE]; rfl)), (unhide H0).trans' (unhide HC2)⟩
            · have HE := hide hE
              rw [b1, b2, b3, b4] at HE
              clear hE HNM
              go_enter Tryz.func67, Tryz.ntmps67
              go_wp2_with fail
              go_ret
              exact ⟨retv (boolv (by rw [unhide HE]; rfl)), unhide H0⟩
          · have HE := hide hE
            rw [b1, b2, b3] at HE
            clear hE HNM
            go_enter Tryz.func67, Tryz.ntmps67
            go_wp2_with fail
            go_ret
            exact ⟨retv (boolv (by rw [unhide HE]; rfl)), unhide H0⟩
        · have HE := hide hE
          rw [b1, b2] at HE
          clear hE HNM
          go_enter Tryz.func67, Tryz.ntmps67
          go_wp2_with fail
          go_ret
          exact ⟨retv (boolv (by rw [unhide HE]; rfl)), unhide H0⟩
      · have HE := hide hE
        rw [b1] at HE
        clear hE HNM
        go_enter Tryz.func67, Tryz.ntmps67
        go_wp2_with fail
        go_ret
        exact ⟨retv (boolv (by rw [unhide HE]; rfl)), unhide H0⟩
    · have HE := hide (ho h31 (by omega))
      have d31 : (k == 31) = false := beq_eq_false_iff_ne.2 h31
      clear hv hc ho HNM
      by_cases hk : k = 32
      · subst hk
        have hm : (m != 0) = true := bne_iff_ne.2 (by omega)
        clear h31 h32 d31
        go_enter Tryz.func67, Tryz.ntmps67
        go_wp2_with fail
        go_ret
        exact ⟨retv (boolv (unhide HE).symm), unhide H0⟩
      · have hm : (k != 32) = true := bne_iff_ne.2 hk
        clear h31 h32
        go_enter Tryz.func67, Tryz.ntmps67
        go_wp2_with fail
        go_ret
        exact ⟨retv (boolv (unhide HE).symm), unhide H0⟩
end Go.Proofs.YticnehmgaklhfaaGreatDoor
