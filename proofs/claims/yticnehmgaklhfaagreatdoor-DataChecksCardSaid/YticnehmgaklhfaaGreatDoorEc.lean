/-
  Layer 10, the document's side: where a constructor stands; whether declarations are few.
-/
import Derived.Test.YticnehmgaklhfaaGreatDoorEb
import Derived.Test.YticnehmgaklhfaaGreatDoorDtf
namespace Go.Proofs.YticnehmgaklhfaaGreatDoor
open Go.RowKit
set_option maxHeartbeats 4000000
set_option maxRecDepth 100000
def BC (c : Ct) : Prop := c.args.length ≤ 10 ∧ ∀ t ∈ c.args, t.length ≤ 60
def BD (d : Dt) : Prop := d.cons.length ≤ 70 ∧ ∀ c ∈ d.cons, BC c
def BL (l : List Dt) : Prop := l.length ≤ 70 ∧ ∀ d ∈ l, BD d
theorem mem_all {α : Type} {P : α → Prop} {l : List α} (h : ∀ j x, j < l.length → l[j]? = some x → P x) : ∀ x ∈ l, P x := fun x hx => by
  obtain ⟨j, hj⟩ := List.mem_iff_getElem?.1 hx
  exact h j x (List.getElem?_eq_some_iff.1 hj).1 hj
theorem upto_step {α : Type} {P : α → Prop} {l : List α} {k : Nat} {x : α} (h : ∀ j y, j < k → l[j]? = some y → P y) (hx : l[k]? = some x) (hp : P x) : ∀ j y, j < k + 1 → l[j]? = some y → P y := fun j y hj hy => by
  rcases Nat.lt_or_ge j k with h1 | h1
  · exact h j y h1 hy
  · obtain rfl : j = k := by omega
    have := hx.symm.trans hy
    injection this with this
    subst this
    exact hp
/-- Declarations that aren't too many or great. -/
def FewOut (l : List Dt) (w : World) (e : Ending) (w' : World) : Prop := ∃ r : Bool, e = .returned (.bool r) ∧ (r = true → BL l) ∧ Chg (fun _ => False) w w'
theorem few_d (l : List Dt) (v : Value) (T : Nat → Prop) (w : World) (hr : RdD T w v l) :
    Calls Tryz.prog 6 #[v] w (FewOut l w) := by
  have hbig := hr.big
  obtain ⟨A, c, rfl⟩ := hr.val
  have HR := hide hr
  clear hr
  by_cases h70 : 70 < l.length
  · have h70' : (70 : Int) < (l.length : Int) := by omega
    clear HR h70
    go_enter Tryz.func6, Tryz.ntmps6
    go_wp2_with fail
    go_ret
    exact ⟨false, rfl, fun h => (by cases h), Chg.refl _ _⟩
  have h70' : ¬ (70 : Int) < (l.length : Int) := by omega
  go_enter Tryz.func6, Tryz.ntmps6
  go_wp2_with fail
  go_loopw [3, 4] (fun s i wr => ∃ k n : Nat, s = .int .i64 (n : Int) ∧ n ≤ 300 ∧ i = .int .i64 (k : Int) ∧ k ≤ l.length ∧ (∀ j d, j < k → l[j]? = some d → BD d) ∧ Chg (fun _ => False) w wr) (fun _ i _ => l.length - (intOf i).toNat)
  case atStart => exact ⟨0, 0, rfl, by omega, rfl, Nat.zero_le _, fun j _ h => absurd h (Nat.not_lt_zero _), Chg.refl _ _⟩
  case round =>
    obtain ⟨wq, rfl⟩ : ∃ wq : World, wq = wr := ⟨_, rfl⟩
    obtain ⟨i, n, rfl, hnn, rfl, hi, hall, hch⟩ := hrel
    by_cases hlt : i < l.length
    · have hki : (i : Int) < (l.length : Int) := by omega
      have hx : l[i]? = some l[i] := List.getElem?_eq_getElem hlt
      generalize l[i] = d at *
      obtain ⟨b, o, c2, u, hv, _, hru, hns, c0, c1, c3⟩ := (unhide HR).at_ hx
      injection hv with hv1 hv2 hv3
      subst hv1 hv3
      have hcb := hru.big
      obtain ⟨B, c5, rfl⟩ := hru.val
      have d0 := (hch.cell (World.block_lt_of_cell? w _ c0) id).trans c0
      have d3 := (hch.cell (World.block_lt_of_cell? w _ c3) id).trans c3
      have HX := hide hx
      have HALL := hide hall
      have HRU := hide hru
      have HC3 := hide c3
      have HCH := hide hch
      clear hx hall hru hch c0 c1 c3 hv2
      by_cases hc70 : 70 < d.cons.length
      · have hc' : (70 : Int) < (d.cons.length : Int) := by omega
        go_wp2_with fail
        go_ret
        exact ⟨false, rfl, fun h => (by cases h), unhide HCH⟩
      have hc' : ¬ (70 : Int) < (d.cons.length : Int) := by omega
      by_cases hs60 : 60 < d.name.size
      · have hs' : (60 : Int) < (d.name.size : Int) := by omega
        go_wp2_with fail
        go_ret
        exact ⟨false, rfl, fun h => (by cases h), unhide HCH⟩
      have hs' : ¬ (60 : Int) < (d.name.size : Int) := by omega
      go_wp2_with fail
      go_loopw [3, 5] (fun s i wr => ∃ k n : Nat, s = .int .i64 (n : Int) ∧ n ≤ 300 ∧ i = .int .i64 (k : Int) ∧ k ≤ d.cons.length ∧ (∀ j c, j < k → d.cons[j]? = some c → BC c) ∧ Chg (fun _ => False) w wr) (fun _ i _ => d.cons.length - (intOf i).toNat)
      case atStart => exact ⟨0, n, rfl, hnn, rfl, Nat.zero_le _, fun j _ h => absurd h (Nat.not_lt_zero _), unhide HCH⟩
      case round =>
        clear d0 d3 HCH
        obtain ⟨wy, rfl⟩ : ∃ wy : World, wy = wr := ⟨_, rfl⟩
        obtain ⟨k, n, rfl, hnn, rfl, hk, hall, hch⟩ := hrel
        have d3 := (hch.cell (World.block_lt_of_cell? w _ (unhide HC3)) id).trans (unhide HC3)
        by_cases hlk : k < d.cons.length
        · have hkk : (k : Int) < (d.cons.length : Int) := by omega
          have hy : d.cons[k]? = some d.cons[k] := List.getElem?_eq_getElem hlk
          generalize d.cons[k] = x at *
          obtain ⟨b2, o2, c4, u2, hv, _, hra, hxs, e0w, e1w⟩ := (unhide HRU).at_ hy
          injection hv with hv1 hv2 hv3
          subst hv1 hv3
          have e0 := (hch.cell (World.block_lt_of_cell? w _ e0w) id).trans e0w
          have e1 := (hch.cell (World.block_lt_of_cell? w _ e1w) id).trans e1w
          clear e0w e1w
          have hab := hra.big
          obtain ⟨B2, c6, rfl⟩ := hra.val
          have HY := hide hy
          have HALL2 := hide hall
          have HCH := hide hch
          have HRA := hide hra
          clear hy hall hch hv2 hra
          go_upto_region 13 with fail
          have bk := Blk.new wy 53 #[.string x.name, .slice B2 x.args.length c6]
          have hc3 : Chg (fun _ => False) wy (wy.alloc (.cells #[.string x.name, .slice B2 x.args.length c6] 53)) := (Chg.refl _ wy).alloc _
          generalize wy.alloc (.cells #[.string x.name, .slice B2 x.args.length c6] 53) = w3 at *
          generalize wy.heap.size = nb at *
          have z0 := bk.cell 0
          have z1 := bk.cell 1
          simp only [List.getElem?_toArray, List.getElem?_cons_zero, List.getElem?_cons_succ] at z0 z1
          have HBK := hide bk
          have HCH3 := hide ((unhide HCH).trans' hc3)
          clear bk hc3 d3 e0 e1 HCH
          by_cases hs60 : 60 < x.name.size
          · have hs' : (60 : Int) < (x.name.size : Int) := by omega
            go_wp2_with fail
            go_ret
            exact ⟨false, rfl, fun h => (by cases h), unhide HCH3⟩
          have hs' : ¬ (60 : Int) < (x.name.size : Int) := by omega
          by_cases ha10 : 10 < x.args.length
          · have ha' : (10 : Int) < (x.args.length : Int) := by omega
            go_wp2_with fail
            go_ret
            exact ⟨false, rfl, fun h => (by cases h), unhide HCH3⟩
          have ha' : ¬ (10 : Int) < (x.args.length : Int) := by omega
          go_wp2_with fail
          go_loopw [3, 7] (fun s i wr => ∃ m n : Nat, s = .int .i64 (n : Int) ∧ n ≤ 300 ∧ i = .int .i64 (m : Int) ∧ m ≤ x.args.length ∧ (∀ j t, j < m → x.args[j]? = some t → t.length ≤ 60) ∧ Chg (fun _ => False) w wr ∧ Chg (fun _ => False) w3 wr) (fun _ i _ => x.args.length - (intOf i).toNat)
          case atStart => exact ⟨0, n, rfl, hnn, rfl, Nat.zero_le _, fun j _ h => absurd h (Nat.not_lt_zero _), unhide HCH3, Chg.refl _ _⟩
          case round =>
            clear z0 z1 HCH3
            obtain ⟨wz, rfl⟩ : ∃ wz : World, wz = wr := ⟨_, rfl⟩
            obtain ⟨m, n, rfl, hnn, rfl, hm, hall, hch, hcz⟩ := hrel
            have z1 := ((unhide HBK).chg hcz id).cell 1
            simp only [List.getElem?_toArray, List.getElem?_cons_zero, List.getElem?_cons_succ] at z1
            by_cases hlm : m < x.args.length
            · have hmk : (m : Int) < (x.args.length : Int) := by omega
              have hw : x.args[m]? = some x.args[m] := List.getElem?_eq_getElem hlm
              generalize x.args[m] = t at *
              obtain ⟨b3, o3, c7, u3, hv, _, hrt, f0⟩ := (unhide HRA).at_ hw
              injection hv with hv1 hv2 hv3
              subst hv1 hv3
              have htb := hrt.big
              obtain ⟨B3, c9, rfl⟩ := hrt.val
              have HRT := hide hrt
              have HF0 := hide f0
              have f0 := (hch.cell (World.block_lt_of_cell? w _ f0) id).trans f0
              have HW := hide hw
              have HALL3 := hide hall
              have HCH := hide hch
              have HCZ := hide hcz
              clear hw hall hch hcz hv2 hrt
              by_cases ht60 : t.length ≤ 60
              · have ht' : ¬ (60 : Int) < (t.length : Int) := by omega
                have HT6 := hide ht60
                go_wp2_with fail
                go_loopw [8] (fun j wr => ∃ h : Nat, j = .int .i64 (h : Int) ∧ h ≤ t.length ∧ h ≤ 61 ∧ Chg (fun _ => False) w wr ∧ Chg (fun _ => False) w3 wr) (fun j _ => t.length - (intOf j).toNat)
                case atStart => exact ⟨0, rfl, Nat.zero_le _, by omega, unhide HCH, unhide HCZ⟩
                case round =>
                  clear z1 f0 HCH HCZ
                  obtain ⟨wu, rfl⟩ : ∃ wu : World, wu = wr := ⟨_, rfl⟩
                  obtain ⟨h, rfl, hh, hh61, hch, hcz⟩ := hrel
                  have z1 := ((unhide HBK).chg hcz id).cell 1
                  simp only [List.getElem?_toArray, List.getElem?_cons_zero, List.getElem?_cons_succ] at z1
                  have f0 := (hch.cell (World.block_lt_of_cell? w _ (unhide HF0)) id).trans (unhide HF0)
                  by_cases hlh : h < t.length
                  · have hhk : (h : Int) < (t.length : Int) := by omega
                    by_cases h61 : h < 61
                    · have hh6 : (h : Int) < 61 := by omega
                      have hw : t[h]? = some t[h] := List.getElem?_eq_getElem hlh
                      generalize t[h] = nd at *
                      obtain ⟨b4, o4, c8, hv, _, hns, g0, g1, g2, g3⟩ := ((unhide HRT).chg hch (fun _ _ _ => id)).at_ hw
                      injection hv with hv1 hv2 hv3
                      subst hv1 hv3
                      unfold ndOk at hns
                      have HCH := hide hch
                      have HCZ := hide hcz
                      clear hch hcz hw hv2 g0 g2 g3
                      by_cases ht : 60 < nd.text.size
                      · have ht2 : (60 : Int) < (nd.text.size : Int) := by omega
                        go_wp2_with fail
                        go_ret
                        exact ⟨false, rfl, fun h => (by cases h), unhide HCH⟩
                      · have ht2 : ¬ (60 : Int) < (nd.text.size : Int) := by omega
                        go_wp2_with fail
                        go_roundw
                        case rel => exact ⟨h + 1, by go_num, by omega, by omega, unhide HCH, unhide HCZ⟩
                        case measure => simp [intOf]; omega
                    · exfalso
                      have := unhide HT6
                      omega
                  · obtain rfl : h = t.length := by omega
                    have hhk : ¬ (t.length : Int) < (t.length : Int) := by omega
                    have HCH := hide hch
                    have HCZ := hide hcz
                    clear hch hcz
                    by_cases h300 : 300 < n + t.length
                    · have h3' : (300 : Int) < (n : Int) + (t.length : Int) := by omega
                      have h3n : 300 < n + t.length := by omega
                      go_wp2_with fail
                      go_ret
                      exact ⟨false, rfl, fun h => (by cases h), unhide HCH⟩
                    · have h3' : ¬ (300 : Int) < (n : Int) + (t.length : Int) := by omega
                      have h3n : ¬ 300 < n + t.length := by omega
                      have HB := hide h300
                      clear h300
                      go_wp2_with fail
                      go_roundw
                      case rel => exact ⟨m + 1, n + t.length, by go_num, by have := unhide HB; omega, by go_num, by omega, upto_step (unhide HALL3) (unhide HW) (unhide HT6), unhide HCH, unhide HCZ⟩
                      case measure => simp [intOf]; omega
              · have ht' : (60 : Int) < (t.length : Int) := by omega
                go_wp2_with fail
                go_loopw [8] (fun j wr => ∃ h : Nat, j = .int .i64 (h : Int) ∧ h ≤ t.length ∧ h ≤ 61 ∧ Chg (fun _ => False) w wr ∧ Chg (fun _ => False) w3 wr) (fun j _ => t.length - (intOf j).toNat)
                case atStart => exact ⟨0, rfl, Nat.zero_le _, by omega, unhide HCH, unhide HCZ⟩
                case round =>
                  clear z1 f0 HCH HCZ
                  obtain ⟨wu, rfl⟩ : ∃ wu : World, wu = wr := ⟨_, rfl⟩
                  obtain ⟨h, rfl, hh, hh61, hch, hcz⟩ := hrel
                  have z1 := ((unhide HBK).chg hcz id).cell 1
                  simp only [List.getElem?_toArray, List.getElem?_cons_zero, List.getElem?_cons_succ] at z1
                  have f0 := (hch.cell (World.block_lt_of_cell? w _ (unhide HF0)) id).trans (unhide HF0)
                  by_cases hlh : h < t.length
                  · have hhk : (h : Int) < (t.length : Int) := by omega
                    by_cases h61 : h < 61
                    · have hh6 : (h : Int) < 61 := by omega
                      have hw : t[h]? = some t[h] := List.getElem?_eq_getElem hlh
                      generalize t[h] = nd at *
                      obtain ⟨b4, o4, c8, hv, _, hns, g0, g1, g2, g3⟩ := ((unhide HRT).chg hch (fun _ _ _ => id)).at_ hw
                      injection hv with hv1 hv2 hv3
                      subst hv1 hv3
                      unfold ndOk at hns
                      have HCH := hide hch
                      have HCZ := hide hcz
                      clear hch hcz hw hv2 g0 g2 g3
                      by_cases ht : 60 < nd.text.size
                      · have ht2 : (60 : Int) < (nd.text.size : Int) := by omega
                        go_wp2_with fail
                        go_ret
                        exact ⟨false, rfl, fun h => (by cases h), unhide HCH⟩
                      · have ht2 : ¬ (60 : Int) < (nd.text.size : Int) := by omega
                        go_wp2_with fail
                        go_roundw
                        case rel => exact ⟨h + 1, by go_num, by omega, by omega, unhide HCH, unhide HCZ⟩
                        case measure => simp [intOf]; omega
                    · have hh6 : ¬ (h : Int) < 61 := by omega
                      have HCH := hide hch
                      have HCZ := hide hcz
                      clear hch hcz
                      go_wp2_with fail
                      go_ret
                      exact ⟨false, rfl, fun h => (by cases h), unhide HCH⟩
                  · obtain rfl : h = t.length := by omega
                    have hhk : ¬ (t.length : Int) < (t.length : Int) := by omega
                    have HCH := hide hch
                    have HCZ := hide hcz
                    clear hch hcz
                    go_wp2_with fail
                    go_ret
                    exact ⟨false, rfl, fun h => (by cases h), unhide HCH⟩
            · obtain rfl : m = x.args.length := by omega
              have hmk : ¬ (x.args.length : Int) < (x.args.length : Int) := by omega
              have HBC := hide (show BC x from ⟨by omega, mem_all hall⟩)
              have HCH := hide hch
              clear hall hch hcz
              go_wp2_with fail
              go_roundw
              case rel => exact ⟨k + 1, n, rfl, hnn, by go_num, by omega, upto_step (unhide HALL2) (unhide HY) (unhide HBC), unhide HCH⟩
              case measure => simp [intOf]; omega
        · obtain rfl : k = d.cons.length := by omega
          have hkk : ¬ (d.cons.length : Int) < (d.cons.length : Int) := by omega
          have HBD := hide (show BD d from ⟨by omega, mem_all hall⟩)
          have HCH := hide hch
          clear hall hch
          go_wp2_with fail
          go_roundw
          case rel => exact ⟨i + 1, n, rfl, hnn, by go_num, by omega, upto_step (unhide HALL) (unhide HX) (unhide HBD), unhide HCH⟩
          case measure => simp [intOf]; omega
    · obtain rfl : i = l.length := by omega
      have hki : ¬ (l.length : Int) < (l.length : Int) := by omega
      have HBL := hide (show BL l from ⟨by omega, mem_all hall⟩)
      have HCH := hide hch
      clear hall hch
      go_wp2_with fail
      go_ret
      exact ⟨true, rfl, fun _ => unhide HBL, unhide HCH⟩
end Go.Proofs.YticnehmgaklhfaaGreatDoor
