/-
  Layer 23: the document's side: whether an interface is few.
-/
import Derived.Test.YtinekmjengckdaaGreatDoorM28
import Derived.Test.YtinekmjengckdaaGreatDoorM29
namespace Go.Proofs.YtinekmjengckdaaGreatDoor
open Go.RowKit
set_option maxHeartbeats 4000000
set_option maxRecDepth 100000
theorem nF {b : Bool} (h : (!b) = false) : b = true := by cases b <;> simp_all
def FewI (i : Ifc) (w : World) (e : Ending) (w' : World) : Prop := ∃ r : Bool, e = .returned (.bool r) ∧ (r = true → IfF i) ∧ Chg (fun _ => False) w w'
theorem few_if (i : Ifc) (vo vd vf vs : Value) (T : Nat → Prop) (w : World) (h1 : RdIf T w i vo vd vf vs) :
    Calls Tryz.prog 10 #[.agg #[.string i.name, vo, vd, vf, vs]] w (FewI i w) := by
  obtain ⟨A1, a1, rfl⟩ := RdR.val h1.opens
  obtain ⟨A2, a2, rfl⟩ := RdR.val h1.datas
  obtain ⟨A3, a3, rfl⟩ := RdR.val h1.fixes
  obtain ⟨A4, a4, rfl⟩ := RdR.val h1.sigs
  have h0 : Chg (fun _ => False) w (w.alloc (.cells #[.string i.name, .slice A1 i.opens.length a1, .slice A2 i.datas.length a2, .slice A3 i.fixes.length a3, .slice A4 i.sigs.length a4] 27)) := (Chg.refl _ w).alloc _
  have hb1 : Blk (w.alloc (.cells #[.string i.name, .slice A1 i.opens.length a1, .slice A2 i.datas.length a2, .slice A3 i.fixes.length a3, .slice A4 i.sigs.length a4] 27)) w.heap.size 27 #[.string i.name, .slice A1 i.opens.length a1, .slice A2 i.datas.length a2, .slice A3 i.fixes.length a3, .slice A4 i.sigs.length a4] := Blk.new w _ _
  have KSW := hide (fun W' (hW : Chg (fun _ => False) (w.alloc (.cells #[.string i.name, .slice A1 i.opens.length a1, .slice A2 i.datas.length a2, .slice A3 i.fixes.length a3, .slice A4 i.sigs.length a4] 27)) W') => show W'.cell? ⟨w.heap.size, 0, none⟩ = some (.string i.name) ∧ W'.cell? ⟨w.heap.size, 1, none⟩ = some (.slice A1 i.opens.length a1) ∧ W'.cell? ⟨w.heap.size, 2, none⟩ = some (.slice A2 i.datas.length a2) ∧ W'.cell? ⟨w.heap.size, 3, none⟩ = some (.slice A3 i.fixes.length a3) ∧ W'.cell? ⟨w.heap.size, 4, none⟩ = some (.slice A4 i.sigs.length a4) from ⟨(hb1.chg hW id).cell 0, (hb1.chg hW id).cell 1, (hb1.chg hW id).cell 2, (hb1.chg hW id).cell 3, (hb1.chg hW id).cell 4⟩)
  have HQ := hide (fun W (hW : Chg (fun _ => False) (w.alloc (.cells #[.string i.name, .slice A1 i.opens.length a1, .slice A2 i.datas.length a2, .slice A3 i.fixes.length a3, .slice A4 i.sigs.length a4] 27)) W) => show Calls Tryz.prog 22 #[.slice A2 i.datas.length a2] W fun e w' => ∃ r : Bool, e = .returned (.bool r) ∧ (r = true → BLs i.datas) ∧ Chg (fun _ => False) W w' from few_ds i.datas _ T W (h1.datas.chg (h0.trans' hW) (fun _ _ _ => id)))
  have HO := hide (fun W (hW : Chg (fun _ => False) (w.alloc (.cells #[.string i.name, .slice A1 i.opens.length a1, .slice A2 i.datas.length a2, .slice A3 i.fixes.length a3, .slice A4 i.sigs.length a4] 27)) W) => h1.opens.chg (h0.trans' hW) (fun _ _ _ => id))
  have HF := hide (fun W (hW : Chg (fun _ => False) (w.alloc (.cells #[.string i.name, .slice A1 i.opens.length a1, .slice A2 i.datas.length a2, .slice A3 i.fixes.length a3, .slice A4 i.sigs.length a4] 27)) W) => h1.fixes.chg (h0.trans' hW) (fun _ _ _ => id))
  have HS := hide (fun W (hW : Chg (fun _ => False) (w.alloc (.cells #[.string i.name, .slice A1 i.opens.length a1, .slice A2 i.datas.length a2, .slice A3 i.fixes.length a3, .slice A4 i.sigs.length a4] 27)) W) => h1.sigs.chg (h0.trans' hW) (fun _ _ _ => id))
  have HD := hide (Chg.refl (fun _ => False) (w.alloc (.cells #[.string i.name, .slice A1 i.opens.length a1, .slice A2 i.datas.length a2, .slice A3 i.fixes.length a3, .slice A4 i.sigs.length a4] 27)))
  (obtain ⟨q0, q1, q2, q3, q4⟩ := unhide KSW _ (unhide HD))
  have H0 := hide h0
  have hob := h1.opens.big
  have hfb := h1.fixes.big
  have hsb := h1.sigs.big
  have hnb := h1.name
  clear hb1 h1 h0
  by_cases cn : 100 < i.name.size
  · have cn' : (100 : Int) < (i.name.size : Int) := by omega
    go_enter Tryz.func10, Tryz.ntmps10
    go_wp2_with fail
    go_ret
    exact ⟨false, rfl, fun h => (by cases h), (unhide H0).trans' (unhide HD)⟩
  have cn' : ¬ (100 : Int) < (i.name.size : Int) := by omega
  have Cn := hide cn
  by_cases co : 70 < i.opens.length
  · have co' : (70 : Int) < (i.opens.length : Int) := by omega
    go_enter Tryz.func10, Tryz.ntmps10
    go_wp2_with fail
    go_ret
    exact ⟨false, rfl, fun h => (by cases h), (unhide H0).trans' (unhide HD)⟩
  have co' : ¬ (70 : Int) < (i.opens.length : Int) := by omega
  have Co := hide co
  by_cases cf : 70 < i.fixes.length
  · have cf' : (70 : Int) < (i.fixes.length : Int) := by omega
    go_enter Tryz.func10, Tryz.ntmps10
    go_wp2_with fail
    go_ret
    exact ⟨false, rfl, fun h => (by cases h), (unhide H0).trans' (unhide HD)⟩
  have cf' : ¬ (70 : Int) < (i.fixes.length : Int) := by omega
  have Cf := hide cf
  by_cases cs : 40 < i.sigs.length
  · have cs' : (40 : Int) < (i.sigs.length : Int) := by omega
    go_enter Tryz.func10, Tryz.ntmps10
    go_wp2_with fail
    go_ret
    exact ⟨false, rfl, fun h => (by cases h), (unhide H0).trans' (unhide HD)⟩
  have cs' : ¬ (40 : Int) < (i.sigs.length : Int) := by omega
  have Cs := hide cs
  clear cn co cf cs
  go_enter Tryz.func10, Tryz.ntmps10
  go_wp2_with (first
    | (go_at_call 22; (with_reducible refine (unhide HQ _ (unhide HD)).mono ?_); rintro e w3 ⟨rb, rfl, hb, hc2⟩; have HB := hide hb; clear hb; have HN_ := hide ((unhide HD).trans' hc2); clear HD; have HD := HN_; clear HN_ hc2; clear q0 q1 q2 q3 q4; (obtain ⟨q0, q1, q2, q3, q4⟩ := unhide KSW _ (unhide HD))))
  · go_ret
    exact ⟨false, rfl, fun h => (by cases h), (unhide H0).trans' (unhide HD)⟩
  have HBL := hide (unhide HB (nF (by assumption)))
  clear HQ HB
  go_loopw [3] (fun t wr => ∃ k : Nat, t = .int .i64 (k : Int) ∧ k ≤ i.opens.length ∧ (∀ j x, j < k → i.opens[j]? = some x → x.name.size ≤ 100) ∧ Chg (fun _ => False) (w.alloc (.cells #[.string i.name, .slice A1 i.opens.length a1, .slice A2 i.datas.length a2, .slice A3 i.fixes.length a3, .slice A4 i.sigs.length a4] 27)) wr) (fun t _ => i.opens.length - (intOf t).toNat)
  case atStart => exact ⟨0, rfl, Nat.zero_le _, fun j _ h => absurd h (Nat.not_lt_zero _), unhide HD⟩
  case round =>
    obtain ⟨wq, rfl⟩ : ∃ wq : World, wq = wr := ⟨_, rfl⟩
    clear q0 q1 q2 q3 q4
    obtain ⟨k, rfl, hk, hall, hch⟩ := hrel
    obtain ⟨q0, q1, q2, q3, q4⟩ := unhide KSW _ hch
    by_cases hlt : k < i.opens.length
    · have hki : (k : Int) < (i.opens.length : Int) := by omega
      have hx : i.opens[k]? = some i.opens[k] := List.getElem?_eq_getElem hlt
      generalize i.opens[k] = x at *
      obtain ⟨b, o, c3, hv, _, hxs, d0, d1⟩ := RdO.at_ (unhide HO _ hch) hx
      injection hv with hv1 hv2 hv3
      subst hv1 hv3
      have HALL := hide hall
      have HX := hide hx
      have HCH := hide hch
      clear hall hx hch hv2
      by_cases h1 : 100 < x.name.size
      · have h1' : (100 : Int) < (x.name.size : Int) := by omega
        go_wp2_with fail
        go_ret
        exact ⟨false, rfl, fun h => (by cases h), (unhide H0).trans' (unhide HCH)⟩
      · have h1' : ¬ (100 : Int) < (x.name.size : Int) := by omega
        have HT := hide (show x.name.size ≤ 100 by omega)
        go_wp2_with fail
        go_roundw
        case rel => exact ⟨k + 1, by go_num, by omega, upto_step (unhide HALL) (unhide HX) (unhide HT), unhide HCH⟩
        case measure => simp [intOf]; omega
    · obtain rfl : k = i.opens.length := by omega
      have hki : ¬ (i.opens.length : Int) < (i.opens.length : Int) := by omega
      have HALLopens := hide (mem_all hall)
      have HDopens := hide hch
      clear hall hch
      go_wp2_with fail
      go_loopw [4] (fun t wr => ∃ k : Nat, t = .int .i64 (k : Int) ∧ k ≤ i.fixes.length ∧ (∀ j x, j < k → i.fixes[j]? = some x → x.op.size ≤ 100) ∧ Chg (fun _ => False) (w.alloc (.cells #[.string i.name, .slice A1 i.opens.length a1, .slice A2 i.datas.length a2, .slice A3 i.fixes.length a3, .slice A4 i.sigs.length a4] 27)) wr) (fun t _ => i.fixes.length - (intOf t).toNat)
      case atStart => exact ⟨0, rfl, Nat.zero_le _, fun j _ h => absurd h (Nat.not_lt_zero _), unhide HDopens⟩
      case round =>
        obtain ⟨wq, rfl⟩ : ∃ wq : World, wq = wr := ⟨_, rfl⟩
        clear q0 q1 q2 q3 q4
        obtain ⟨k, rfl, hk, hall, hch⟩ := hrel
        obtain ⟨q0, q1, q2, q3, q4⟩ := unhide KSW _ hch
        by_cases hlt : k < i.fixes.length
        · have hki : (k : Int) < (i.fixes.length : Int) := by omega
          have hx : i.fixes[k]? = some i.fixes[k] := List.getElem?_eq_getElem hlt
          generalize i.fixes[k] = x at *
          obtain ⟨b, o, c3, hv, _, hxs, d0, d1, d2⟩ := RdF.at_ (unhide HF _ hch) hx
          injection hv with hv1 hv2 hv3
          subst hv1 hv3
          have HALL := hide hall
          have HX := hide hx
          have HCH := hide hch
          clear hall hx hch hv2
          by_cases h1 : 100 < x.op.size
          · have h1' : (100 : Int) < (x.op.size : Int) := by omega
            go_wp2_with fail
            go_ret
            exact ⟨false, rfl, fun h => (by cases h), (unhide H0).trans' (unhide HCH)⟩
          · have h1' : ¬ (100 : Int) < (x.op.size : Int) := by omega
            have HT := hide (show x.op.size ≤ 100 by omega)
            go_wp2_with fail
            go_roundw
            case rel => exact ⟨k + 1, by go_num, by omega, upto_step (unhide HALL) (unhide HX) (unhide HT), unhide HCH⟩
            case measure => simp [intOf]; omega
        · obtain rfl : k = i.fixes.length := by omega
          have hki : ¬ (i.fixes.length : Int) < (i.fixes.length : Int) := by omega
          have HALLfixes := hide (mem_all hall)
          have HDfixes := hide hch
          clear hall hch
          go_wp2_with fail
          go_loopw [5] (fun t wr => ∃ k : Nat, t = .int .i64 (k : Int) ∧ k ≤ i.sigs.length ∧ (∀ j x, j < k → i.sigs[j]? = some x → x.name.size ≤ 100 ∧ x.type.length ≤ 40 ∧ ∀ n ∈ x.type, n.text.size ≤ 100) ∧ Chg (fun _ => False) (w.alloc (.cells #[.string i.name, .slice A1 i.opens.length a1, .slice A2 i.datas.length a2, .slice A3 i.fixes.length a3, .slice A4 i.sigs.length a4] 27)) wr) (fun t _ => i.sigs.length - (intOf t).toNat)
          case atStart => exact ⟨0, rfl, Nat.zero_le _, fun j _ h => absurd h (Nat.not_lt_zero _), unhide HDfixes⟩
          case round =>
            obtain ⟨wq, rfl⟩ : ∃ wq : World, wq = wr := ⟨_, rfl⟩
            clear q0 q1 q2 q3 q4
            obtain ⟨k, rfl, hk, hall, hch⟩ := hrel
            obtain ⟨q0, q1, q2, q3, q4⟩ := unhide KSW _ hch
            by_cases hlt : k < i.sigs.length
            · have hki : (k : Int) < (i.sigs.length : Int) := by omega
              have hx : i.sigs[k]? = some i.sigs[k] := List.getElem?_eq_getElem hlt
              generalize i.sigs[k] = x at *
              obtain ⟨b, o, c3, u, hv, _, hru, hxs, _, d0, d1⟩ := RdSc.at_ (unhide HS _ hch) hx
              injection hv with hv1 hv2 hv3
              subst hv1 hv3
              obtain ⟨B, c5, rfl⟩ := hru.val
              have htb := hru.big
              have HE := hide (fun W (hW : Chg (fun _ => False) wq W) => show W.cell? ⟨b, o + k * 2 + 1, none⟩ = some (.slice B x.type.length c5) from (hW.cell (World.block_lt_of_cell? wq _ d1) id).trans d1)
              have HRU := hide (fun W (hW : Chg (fun _ => False) wq W) => RdN.chg hru hW (fun _ _ _ => id))
              have HALL := hide hall
              have HX := hide hx
              have HCH := hide hch
              clear hall hx hch hv2 hru
              by_cases h1 : 100 < x.name.size
              · have h1' : (100 : Int) < (x.name.size : Int) := by omega
                go_wp2_with fail
                go_ret
                exact ⟨false, rfl, fun h => (by cases h), (unhide H0).trans' (unhide HCH)⟩
              have h1' : ¬ (100 : Int) < (x.name.size : Int) := by omega
              have HT1 := hide (show x.name.size ≤ 100 by omega)
              by_cases h2 : 40 < x.type.length
              · have h2' : (40 : Int) < (x.type.length : Int) := by omega
                go_wp2_with fail
                go_ret
                exact ⟨false, rfl, fun h => (by cases h), (unhide H0).trans' (unhide HCH)⟩
              have h2' : ¬ (40 : Int) < (x.type.length : Int) := by omega
              have HT2 := hide (show x.type.length ≤ 40 by omega)
              clear h1 h2
              go_wp2_with fail
              go_loopw [6] (fun t wr => ∃ m : Nat, t = .int .i64 (m : Int) ∧ m ≤ x.type.length ∧ (∀ j y, j < m → x.type[j]? = some y → y.text.size ≤ 100) ∧ Chg (fun _ => False) wq wr) (fun t _ => x.type.length - (intOf t).toNat)
              case atStart => exact ⟨0, rfl, Nat.zero_le _, fun j _ h => absurd h (Nat.not_lt_zero _), Chg.refl _ _⟩
              case round =>
                obtain ⟨wz, rfl⟩ : ∃ wz : World, wz = wr := ⟨_, rfl⟩
                clear q0 q1 q2 q3 q4 d0 d1
                obtain ⟨m, rfl, hm, hall, hch⟩ := hrel
                obtain ⟨q0, q1, q2, q3, q4⟩ := unhide KSW _ ((unhide HCH).trans' hch)
                have d1 := unhide HE _ hch
                by_cases hlm : m < x.type.length
                · have hmi : (m : Int) < (x.type.length : Int) := by omega
                  have hy : x.type[m]? = some x.type[m] := List.getElem?_eq_getElem hlm
                  generalize x.type[m] = nd at *
                  obtain ⟨b4, o4, c8, hv, _, hns, g0, g1, g2, g3⟩ := (unhide HRU _ hch).at_ hy
                  injection hv with hv1 hv2 hv3
                  subst hv1 hv3
                  unfold ndOk at hns
                  have HALL2 := hide hall
                  have HY := hide hy
                  have HCZ := hide hch
                  clear hall hy hch hv2 g0 g2 g3
                  by_cases h1 : 100 < nd.text.size
                  · have h1' : (100 : Int) < (nd.text.size : Int) := by omega
                    go_wp2_with fail
                    go_ret
                    exact ⟨false, rfl, fun h => (by cases h), (unhide H0).trans' ((unhide HCH).trans' (unhide HCZ))⟩
                  · have h1' : ¬ (100 : Int) < (nd.text.size : Int) := by omega
                    have HT := hide (show nd.text.size ≤ 100 by omega)
                    go_wp2_with fail
                    go_roundw
                    case rel => exact ⟨m + 1, by go_num, by omega, upto_step (unhide HALL2) (unhide HY) (unhide HT), unhide HCZ⟩
                    case measure => simp [intOf]; omega
                · obtain rfl : m = x.type.length := by omega
                  have hmi : ¬ (x.type.length : Int) < (x.type.length : Int) := by omega
                  have HSG := hide (show x.name.size ≤ 100 ∧ x.type.length ≤ 40 ∧ ∀ n ∈ x.type, n.text.size ≤ 100 from ⟨unhide HT1, unhide HT2, mem_all hall⟩)
                  have HCZ := hide ((unhide HCH).trans' hch)
                  clear hall hch
                  go_wp2_with fail
                  go_roundw
                  case rel => exact ⟨k + 1, by go_num, by omega, upto_step (P := fun x => x.name.size ≤ 100 ∧ x.type.length ≤ 40 ∧ ∀ n ∈ x.type, n.text.size ≤ 100) (unhide HALL) (unhide HX) (unhide HSG), unhide HCZ⟩
                  case measure => simp [intOf]; omega
            · obtain rfl : k = i.sigs.length := by omega
              have hki : ¬ (i.sigs.length : Int) < (i.sigs.length : Int) := by omega
              have HIF := hide (show IfF i from ⟨by have := unhide Cn; omega, ⟨by have := unhide Co; omega, unhide HALLopens⟩, ⟨by have := unhide Cf; omega, unhide HALLfixes⟩, ⟨by have := unhide Cs; omega, mem_all hall⟩, unhide HBL⟩)
              have HDs := hide hch
              clear hall hch
              go_wp2_with fail
              go_ret
              exact ⟨true, rfl, fun _ => unhide HIF, (unhide H0).trans' (unhide HDs)⟩
end Go.Proofs.YtinekmjengckdaaGreatDoor
