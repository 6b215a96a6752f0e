/-
  Layer 10, the document's side: whether rows of nodes are the same; whether they are few.
-/
import Derived.Test.YticnehmgaklhfaaGreatDoorDtj
import Derived.Deep.RegionHeld3
import Derived.Laws.StructEq
namespace Go.Proofs.YticnehmgaklhfaaGreatDoor
open Go.RowKit
set_option maxHeartbeats 4000000
set_option maxRecDepth 100000
theorem sameN_len {l m : List Nd} (h : l.length ≠ m.length) : sameN l m = false := by
  rw [← Bool.not_eq_true, sameN_iff]
  rintro rfl
  exact h rfl
theorem sameN_diff {l m : List Nd} {k : Nat} {x y : Nd} (hx : l[k]? = some x) (hy : m[k]? = some y) (h : x.same y = false) : sameN l m = false := by
  rw [← Bool.not_eq_true, sameN_iff]
  rintro rfl
  have := hx.symm.trans hy
  injection this with this
  exact Nd.same_false.1 h this
theorem sameN_all {l m : List Nd} (hl : l.length = m.length) (h : ∀ j, j < l.length → l[j]? = m[j]?) : sameN l m = true := by
  rw [sameN_iff]
  apply List.ext_getElem? 
  intro j
  rcases Nat.lt_or_ge j l.length with hj | hj
  · exact h j hj
  · rw [List.getElem?_eq_none_iff.2 hj, List.getElem?_eq_none_iff.2 (by omega)]
theorem run_neq_nd (x y : Nd) (w : World) : (binOp .neq 56 (.agg #[.int .i64 x.kind, .string x.text, .int .i64 x.num, .int .i64 x.kids]) (.agg #[.int .i64 y.kind, .string y.text, .int .i64 y.num, .int .i64 y.kids])).run Tryz.prog w = .ok (.bool (!x.same y)) w := by
  have ht : decide (x.text = y.text) = (x.text.toList == y.text.toList) := by
    rw [Bool.eq_iff_iff, decide_eq_true_eq, beq_iff_eq]
    exact ⟨fun h => by rw [h], bytes_eq⟩
  unfold Nd.same
  rw [ht]
  cases h1 : x.kind == y.kind <;> cases h2 : x.text.toList == y.text.toList <;> cases h3 : x.num == y.num <;> cases h4 : x.kids == y.kids <;> go_simp
theorem same_any (l m : List Nd) (v1 v2 : Value) (T1 T2 : Nat → Prop) (w : World) (h1 : RdN T1 w v1 l) (h2 : RdN T2 w v2 m) (hn : l.length ≤ 1000000) (_hm : m.length ≤ 1000000) :
    Calls Tryz.prog 15 #[v1, v2] w fun e w' => e = .returned (.bool (sameN l m)) ∧ Chg (fun _ => False) w w' := by
  obtain ⟨A1, c1, rfl⟩ := h1.val
  obtain ⟨A2, c2, rfl⟩ := h2.val
  have H1 := hide h1
  have H2 := hide h2
  by_cases hl : l.length = m.length
  rotate_left
  · have HE := hide (sameN_len hl)
    have hle : ¬ (l.length : Int) = (m.length : Int) := by omega
    generalize sameN l m = E at *
    clear h1 h2 H1 H2
    go_enter Tryz.func15, Tryz.ntmps15
    go_wp2_with fail
    go_ret
    exact ⟨retv (boolv (unhide HE).symm), Chg.refl _ _⟩
  · have HA := hide (sameN_all hl)
    have HD := hide (fun k x y => sameN_diff (l := l) (m := m) (k := k) (x := x) (y := y))
    generalize sameN l m = E at *
    have HL := hide hl
    have hle : (l.length : Int) = (m.length : Int) := by omega
    clear h1 h2 hl
    go_enter Tryz.func15, Tryz.ntmps15
    go_wp2_with fail
    go_loopw [5] (fun i wr => ∃ k : Nat, i = .int .i64 (k : Int) ∧ k ≤ l.length ∧ (∀ j, j < k → l[j]? = m[j]?) ∧ Chg (fun _ => False) w wr) (fun i _ => l.length - (intOf i).toNat)
    case atStart => exact ⟨0, rfl, Nat.zero_le _, fun j h => absurd h (Nat.not_lt_zero _), Chg.refl _ _⟩
    case round =>
      obtain ⟨wq, rfl⟩ : ∃ wq : World, wq = wr := ⟨_, rfl⟩
      obtain ⟨k, rfl, hk, hall, hch⟩ := hrel
      by_cases hlt : k < l.length
      · have hki : (k : Int) < (l.length : Int) := by omega
        have hkm : (k : Int) < (m.length : Int) := by omega
        have hx : l[k]? = some l[k] := List.getElem?_eq_getElem hlt
        have hlm : k < m.length := by omega
        have hy : m[k]? = some m[k] := List.getElem?_eq_getElem hlm
        generalize l[k] = x at *
        generalize m[k] = y at *
        obtain ⟨b, o, c3, hv, _, _, d0, d1, d2, d3⟩ := ((unhide H1).chg hch (fun _ _ _ => id)).at_ hx
        obtain ⟨b', o', c3', hv', _, _, e0, e1, e2, e3⟩ := ((unhide H2).chg hch (fun _ _ _ => id)).at_ hy
        injection hv with hv1 hv2 hv3
        injection hv' with hv1' hv2' hv3'
        subst hv1 hv3 hv1' hv3'
        have HALL := hide hall
        have HX := hide hx
        have HY := hide hy
        have HCH := hide hch
        clear hall hx hy hch hv2 hv2'
        have qn := fun w : World => run_neq_nd x y w
        cases hq : x.same y
        · have HE := hide (unhide HD k x y (unhide HX) (unhide HY) hq)
          clear HALL HX HY
          rw [hq] at qn
          clear hq
          go_wp2_with fail
          go_quiet (fail)
          go_wp2_with fail
          go_ret
          exact ⟨retv (boolv (unhide HE).symm), (unhide HCH).drewN _⟩
        · have HE := hide (Nd.same_iff.1 hq)
          rw [hq] at qn
          clear hq
          go_wp2_with fail
          go_quiet (fail)
          go_wp2_with fail
          go_roundw
          case rel =>
            exact ⟨k + 1, by go_num, by omega, fun j hj => by
              rcases Nat.lt_or_ge j k with h | h
              · exact (unhide HALL) j h
              · obtain rfl : j = k := by omega
                rw [unhide HX, unhide HY, unhide HE], (unhide HCH).drewN _⟩
          case measure => simp [intOf]; omega
      · obtain rfl : k = l.length := by omega
        have hki : ¬ (l.length : Int) < (l.length : Int) := by omega
        have HF := hide (unhide HA hall)
        have HCH := hide hch
        clear hall hch
        go_wp2_with fail
        go_ret
        exact ⟨retv (boolv (unhide HF).symm), unhide HCH⟩
end Go.Proofs.YticnehmgaklhfaaGreatDoor
