/-
  Layer 10, the document's side: whether types are the same; whether a type is small. Layer 10, the document's side: where a constructor stands; whether declarations are few. Layer 23, the document's side: whether declarations are few, and what is short then. Layer 23: what was taken from bytes, and what the document calls few, is not too great.
-/
import Derived.Test.YtinekmjengckdaaGreatDoorM17
import Derived.Test.YtinekmjengckdaaGreatDoorM10
import Derived.Test.YtinekmjengckdaaGreatDoorM26
import Derived.Test.YtinekmjengckdaaGreatDoorM27
import Derived.Test.YtinekmjengckdaaGreatDoorM12
namespace Go.Proofs.YtinekmjengckdaaGreatDoor
open Go.RowKit
set_option maxHeartbeats 4000000
set_option maxRecDepth 100000
def sameNs : List (List Nd) → List (List Nd) → Bool
  | [], [] => true
  | a :: l, b :: m => sameN a b && sameNs l m
  | _, _ => false
theorem sameNs_iff : ∀ {l m : List (List Nd)}, sameNs l m = true ↔ l = m
  | [], [] => by simp [sameNs]
  | [], b :: m => by simp [sameNs]
  | a :: l, [] => by simp [sameNs]
  | a :: l, b :: m => by rw [sameNs, Bool.and_eq_true, sameN_iff, sameNs_iff, List.cons.injEq]
theorem sameNs_len {l m : List (List Nd)} (h : l.length ≠ m.length) : sameNs l m = false := by
  rw [← Bool.not_eq_true, sameNs_iff]
  rintro rfl
  exact h rfl
theorem sameNs_diff {l m : List (List Nd)} {k : Nat} {x y : List Nd} (hx : l[k]? = some x) (hy : m[k]? = some y) (h : sameN x y = false) : sameNs l m = false := by
  rw [← Bool.not_eq_true, sameNs_iff]
  rintro rfl
  have := hx.symm.trans hy
  injection this with this
  rw [sameN_iff.2 this] at h
  cases h
theorem sameNs_all {l m : List (List Nd)} (hl : l.length = m.length) (h : ∀ j, j < l.length → l[j]? = m[j]?) : sameNs l m = true := by
  rw [sameNs_iff]
  apply List.ext_getElem?
  intro j
  rcases Nat.lt_or_ge j l.length with hj | hj
  · exact h j hj
  · rw [List.getElem?_eq_none_iff.2 hj, List.getElem?_eq_none_iff.2 (by omega)]
theorem types_any (l m : List (List Nd)) (v1 v2 : Value) (T1 T2 : Nat → Prop) (w : World) (h1 : RdNs T1 w v1 l) (h2 : RdNs T2 w v2 m) (hn : l.length ≤ 1000000) (_hm : m.length ≤ 1000000) (hln : ∀ x ∈ l, x.length ≤ 1000000) (hmn : ∀ x ∈ m, x.length ≤ 1000000) :
    Calls Tryz.prog 83 #[v1, v2] w fun e w' => e = .returned (.bool (sameNs l m)) ∧ Chg (fun _ => False) w w' := by
  obtain ⟨A1, c1, rfl⟩ := h1.val
  obtain ⟨A2, c2, rfl⟩ := h2.val
  have H1 := hide h1
  have H2 := hide h2
  rcases Decidable.em (l.length = m.length) with hl | hl
  rotate_left
  · have HE := hide (sameNs_len hl)
    have hle : ¬ (l.length : Int) = (m.length : Int) := by omega
    generalize sameNs l m = E at *
    clear h1 h2 H1 H2
    go_enter Tryz.func83, Tryz.ntmps83
    go_wp2_with fail
    go_ret
    exact ⟨retv (boolv (unhide HE).symm), Chg.refl _ _⟩
  · have HA := hide (sameNs_all hl)
    have HD := hide (fun k x y => sameNs_diff (l := l) (m := m) (k := k) (x := x) (y := y))
    generalize sameNs l m = E at *
    have HL := hide hl
    have HLN := hide hln
    have HMN := hide hmn
    have hle : (l.length : Int) = (m.length : Int) := by omega
    clear h1 h2 hl hln hmn
    go_enter Tryz.func83, Tryz.ntmps83
    go_wp2_with fail
    go_loopw [5] (fun i wr => ∃ k : Nat, i = .int .i64 (k : Int) ∧ k ≤ l.length ∧ (∀ j, j < k → l[j]? = m[j]?) ∧ Chg (fun _ => False) w wr) (fun i _ => l.length - (intOf i).toNat)
    case atStart => exact ⟨0, rfl, Nat.zero_le _, fun j h => absurd h (Nat.not_lt_zero _), Chg.refl _ _⟩
    case round =>
      obtain ⟨wq, rfl⟩ : ∃ wq : World, wq = wr := ⟨_, rfl⟩
      obtain ⟨k, rfl, hk, hall, hch⟩ := hrel
      by_cases hlt : k < l.length
      · have hki : (k : Int) < (l.length : Int) := by omega
        have hkm : (k : Int) < (m.length : Int) := by omega
        have hx : l[k]? = some l[k] := List.getElem?_eq_getElem hlt
        have hlm : k < m.length := by omega
        have hy : m[k]? = some m[k] := List.getElem?_eq_getElem hlm
        have hxn := (unhide HLN) l[k] (List.getElem_mem hlt)
        have hyn := (unhide HMN) m[k] (List.getElem_mem hlm)
        generalize l[k] = x at *
        generalize m[k] = y at *
        obtain ⟨b, o, c3, u, hv, _, hru, d0⟩ := ((unhide H1).chg hch (fun _ _ _ => id)).at_ hx
        obtain ⟨b', o', c3', u', hv', _, hru', e0⟩ := ((unhide H2).chg hch (fun _ _ _ => id)).at_ hy
        injection hv with hv1 hv2 hv3
        injection hv' with hv1' hv2' hv3'
        subst hv1 hv3 hv1' hv3'
        have HS := hide (fun W (hW : Chg (fun _ => False) wq W) => same_any x y u u' T1 T2 W (hru.chg hW (fun _ _ _ => id)) (hru'.chg hW (fun _ _ _ => id)) hxn hyn)
        obtain ⟨B, c5, rfl⟩ := hru.val
        obtain ⟨B', c5', rfl⟩ := hru'.val
        have HALL := hide hall
        have HX := hide hx
        have HY := hide hy
        have HCH := hide hch
        have KSW := hide (show ∀ W, Chg (fun _ => False) wq W → W.cell? ⟨b, o + k, none⟩ = some (.slice B x.length c5) ∧ W.cell? ⟨b', o' + k, none⟩ = some (.slice B' y.length c5') from fun W hW => ⟨(hW.cell (World.block_lt_of_cell? wq _ d0) id).trans d0, (hW.cell (World.block_lt_of_cell? wq _ e0) id).trans e0⟩)
        have HCQ : Hid (Chg (fun _ => False) wq wq.drew) := hide (Chg.drew (Chg.refl _ _))
        have HKK := hide (unhide KSW _ (unhide HCQ))
        clear hall hx hy hch hv2 hv2' hru hru' d0 e0
        cases hq : sameN x y
        · have HE := hide (unhide HD k x y (unhide HX) (unhide HY) hq)
          rw [hq] at HS
          clear hq HALL HX HY
          go_wp2_with fail
          go_region_held3 (fun W => W.cell? ⟨b, o + k, none⟩ = some (.slice B x.length c5) ∧ W.cell? ⟨b', o' + k, none⟩ = some (.slice B' y.length c5')) (first | exact unhide HKK | go_keep) (first
            | (go_at_call 43; (with_reducible refine (unhide HS _ (unhide HCQ)).mono ?_); rintro e w2 ⟨rfl, hc2⟩; have HN_ := hide ((unhide HCQ).trans' hc2); clear HCQ; have HCQ := HN_; clear HN_ HKK; have HKK := hide (unhide KSW _ (unhide HCQ)); clear hc2))
          go_wp2_with fail
          go_ret
          exact ⟨retv (boolv (unhide HE).symm), (unhide HCH).trans' (unhide HCQ)⟩
        · have HE := hide (sameN_iff.1 hq)
          rw [hq] at HS
          clear hq
          go_wp2_with fail
          go_region_held3 (fun W => W.cell? ⟨b, o + k, none⟩ = some (.slice B x.length c5) ∧ W.cell? ⟨b', o' + k, none⟩ = some (.slice B' y.length c5')) (first | exact unhide HKK | go_keep) (first
            | (go_at_call 43; (with_reducible refine (unhide HS _ (unhide HCQ)).mono ?_); rintro e w2 ⟨rfl, hc2⟩; have HN_ := hide ((unhide HCQ).trans' hc2); clear HCQ; have HCQ := HN_; clear HN_ HKK; have HKK := hide (unhide KSW _ (unhide HCQ)); clear hc2))
          go_wp2_with fail
          go_roundw
          case rel =>
            exact ⟨k + 1, by go_num, by omega, fun j hj => by
              rcases Nat.lt_or_ge j k with h | h
              · exact (unhide HALL) j h
              · obtain rfl : j = k := by omega
                rw [unhide HX, unhide HY, unhide HE], (unhide HCH).trans' (unhide HCQ)⟩
          case measure => simp [intOf]; omega
      · obtain rfl : k = l.length := by omega
        have hki : ¬ (l.length : Int) < (l.length : Int) := by omega
        have HF := hide (unhide HA hall)
        have HCH := hide hch
        clear hall hch
        go_wp2_with fail
        go_ret
        exact ⟨retv (boolv (unhide HF).symm), unhide HCH⟩
/-- Is a type small? -/
def fewN (l : List Nd) : Bool := decide (l.length ≤ 60) && l.all fun n => decide (n.text.size ≤ 60)
theorem fewN_long {l : List Nd} (h : 60 < l.length) : fewN l = false := by
  unfold fewN
  rw [decide_eq_false (by omega)]
  rfl
theorem fewN_text {l : List Nd} {k : Nat} {x : Nd} (hx : l[k]? = some x) (h : 60 < x.text.size) : fewN l = false := by
  unfold fewN
  rw [Bool.and_eq_false_iff]
  right
  rw [List.all_eq_false]
  exact ⟨x, List.mem_of_getElem? hx, by rw [decide_eq_true_eq]; omega⟩
theorem fewN_yes {l : List Nd} (h : l.length ≤ 60) (ha : ∀ (j : Nat) (x : Nd), j < l.length → l[j]? = some x → x.text.size ≤ 60) : fewN l = true := by
  unfold fewN
  rw [Bool.and_eq_true, decide_eq_true_eq, List.all_eq_true]
  refine ⟨h, fun x hx => ?_⟩
  obtain ⟨j, hj⟩ := List.mem_iff_getElem?.1 hx
  exact decide_eq_true (ha j x (List.getElem?_eq_some_iff.1 hj).1 hj)
end Go.Proofs.YtinekmjengckdaaGreatDoor

namespace Go.Proofs.YtinekmjengckdaaGreatDoor
open Go.RowKit
set_option maxHeartbeats 4000000
set_option maxRecDepth 100000
def BC (c : Ct) : Prop := c.args.length ≤ 10 ∧ ∀ t ∈ c.args, t.length ≤ 60
def BD (d : Dt) : Prop := d.cons.length ≤ 70 ∧ ∀ c ∈ d.cons, BC c
def BL (l : List Dt) : Prop := l.length ≤ 70 ∧ ∀ d ∈ l, BD d
theorem mem_all {α : Type} {P : α → Prop} {l : List α} (h : ∀ j x, j < l.length → l[j]? = some x → P x) : ∀ x ∈ l, P x := fun x hx => by
  obtain ⟨j, hj⟩ := List.mem_iff_getElem?.1 hx
  exact h j x (List.getElem?_eq_some_iff.1 hj).1 hj
theorem upto_step {α : Type} {P : α → Prop} {l : List α} {k : Nat} {x : α} (h : ∀ j y, j < k → l[j]? = some y → P y) (hx : l[k]? = some x) (hp : P x) : ∀ j y, j < k + 1 → l[j]? = some y → P y := fun j y hj hy => by
  rcases Nat.lt_or_ge j k with h1 | h1
  · exact h j y h1 hy
  · obtain rfl : j = k := by omega
    have := hx.symm.trans hy
    injection this with this
    subst this
    exact hp
/-- Declarations that aren't too many or great. -/
def FewOut (l : List Dt) (w : World) (e : Ending) (w' : World) : Prop := ∃ r : Bool, e = .returned (.bool r) ∧ (r = true → BL l) ∧ Chg (fun _ => False) w w'
theorem few_d (l : List Dt) (v : Value) (T : Nat → Prop) (w : World) (hr : RdD T w v l) :
    Calls Tryz.prog 22 #[v] w (FewOut l w) := by
  have hbig := hr.big
  obtain ⟨A, c, rfl⟩ := hr.val
  have HR := hide hr
  clear hr
  by_cases h70 : 70 < l.length
  · have h70' : (70 : Int) < (l.length : Int) := by omega
    clear HR h70
    go_enter Tryz.func22, Tryz.ntmps22
    go_wp2_with fail
    go_ret
    exact ⟨false, rfl, fun h => (by cases h), Chg.refl _ _⟩
  have h70' : ¬ (70 : Int) < (l.length : Int) := by omega
  go_enter Tryz.func22, Tryz.ntmps22
  go_wp2_with fail
  go_loopw [3, 4] (fun s i wr => ∃ k n : Nat, s = .int .i64 (n : Int) ∧ n ≤ 300 ∧ i = .int .i64 (k : Int) ∧ k ≤ l.length ∧ (∀ j d, j < k → l[j]? = some d → BD d) ∧ Chg (fun _ => False) w wr) (fun _ i _ => l.length - (intOf i).toNat)
  case atStart => exact ⟨0, 0, rfl, by omega, rfl, Nat.zero_le _, fun j _ h => absurd h (Nat.not_lt_zero _), Chg.refl _ _⟩
  case round =>
    obtain ⟨wq, rfl⟩ : ∃ wq : World, wq = wr := ⟨_, rfl⟩
    obtain ⟨i, n, rfl, hnn, rfl, hi, hall, hch⟩ := hrel
    by_cases hlt : i < l.length
    · have hki : (i : Int) < (l.length : Int) := by omega
      have hx : l[i]? = some l[i] := List.getElem?_eq_getElem hlt
      generalize l[i] = d at *
      obtain ⟨b, o, c2, u, hv, _, hru, hns, c0, c1, c3⟩ := (unhide HR).at_ hx
      injection hv with hv1 hv2 hv3
      subst hv1 hv3
      have hcb := hru.big
      obtain ⟨B, c5, rfl⟩ := hru.val
      have d0 := (hch.cell (World.block_lt_of_cell? w _ c0) id).trans c0
      have d3 := (hch.cell (World.block_lt_of_cell? w _ c3) id).trans c3
      have HX := hide hx
      have HALL := hide hall
      have HRU := hide hru
      have HC3 := hide c3
      have HCH := hide hch
      clear hx hall hru hch c0 c1 c3 hv2
      by_cases hc70 : 70 < d.cons.length
      · have hc' : (70 : Int) < (d.cons.length : Int) := by omega
        go_wp2_with fail
        go_ret
        exact ⟨false, rfl, fun h => (by cases h), unhide HCH⟩
      have hc' : ¬ (70 : Int) < (d.cons.length : Int) := by omega
      by_cases hs60 : 60 < d.name.size
      · have hs' : (60 : Int) < (d.name.size : Int) := by omega
        go_wp2_with fail
        go_ret
        exact ⟨false, rfl, fun h => (by cases h), unhide HCH⟩
      have hs' : ¬ (60 : Int) < (d.name.size : Int) := by omega
      go_wp2_with fail
      go_loopw [3, 5] (fun s i wr => ∃ k n : Nat, s = .int .i64 (n : Int) ∧ n ≤ 300 ∧ i = .int .i64 (k : Int) ∧ k ≤ d.cons.length ∧ (∀ j c, j < k → d.cons[j]? = some c → BC c) ∧ Chg (fun _ => False) w wr) (fun _ i _ => d.cons.length - (intOf i).toNat)
      case atStart => exact ⟨0, n, rfl, hnn, rfl, Nat.zero_le _, fun j _ h => absurd h (Nat.not_lt_zero _), unhide HCH⟩
      case round =>
        clear d0 d3 HCH
        obtain ⟨wy, rfl⟩ : ∃ wy : World, wy = wr := ⟨_, rfl⟩
        obtain ⟨k, n, rfl, hnn, rfl, hk, hall, hch⟩ := hrel
        have d3 := (hch.cell (World.block_lt_of_cell? w _ (unhide HC3)) id).trans (unhide HC3)
        by_cases hlk : k < d.cons.length
        · have hkk : (k : Int) < (d.cons.length : Int) := by omega
          have hy : d.cons[k]? = some d.cons[k] := List.getElem?_eq_getElem hlk
          generalize d.cons[k] = x at *
          obtain ⟨b2, o2, c4, u2, hv, _, hra, hxs, e0w, e1w⟩ := (unhide HRU).at_ hy
          injection hv with hv1 hv2 hv3
          subst hv1 hv3
          have e0 := (hch.cell (World.block_lt_of_cell? w _ e0w) id).trans e0w
          have e1 := (hch.cell (World.block_lt_of_cell? w _ e1w) id).trans e1w
          clear e0w e1w
          have hab := hra.big
          obtain ⟨B2, c6, rfl⟩ := hra.val
          have HY := hide hy
          have HALL2 := hide hall
          have HCH := hide hch
          have HRA := hide hra
          clear hy hall hch hv2 hra
          go_upto_region 13 with fail
          have bk := Blk.new wy 64 #[.string x.name, .slice B2 x.args.length c6]
          have hc3 : Chg (fun _ => False) wy (wy.alloc (.cells #[.string x.name, .slice B2 x.args.length c6] 64)) := (Chg.refl _ wy).alloc _
          generalize wy.alloc (.cells #[.string x.name, .slice B2 x.args.length c6] 64) = w3 at *
          generalize wy.heap.size = nb at *
          have z0 := bk.cell 0
          have z1 := bk.cell 1
          simp only [List.getElem?_toArray, List.getElem?_cons_zero, List.getElem?_cons_succ] at z0 z1
          have HBK := hide bk
          have HCH3 := hide ((unhide HCH).trans' hc3)
          clear bk hc3 d3 e0 e1 HCH
          by_cases hs60 : 60 < x.name.size
          · have hs' : (60 : Int) < (x.name.size : Int) := by omega
            go_wp2_with fail
            go_ret
            exact ⟨false, rfl, fun h => (by cases h), unhide HCH3⟩
          have hs' : ¬ (60 : Int) < (x.name.size : Int) := by omega
          by_cases ha10 : 10 < x.args.length
          · have ha' : (10 : Int) < (x.args.length : Int) := by omega
            go_wp2_with fail
            go_ret
            exact ⟨false, rfl, fun h => (by cases h), unhide HCH3⟩
          have ha' : ¬ (10 : Int) < (x.args.length : Int) := by omega
          go_wp2_with fail
          go_loopw [3, 7] (fun s i wr => ∃ m n : Nat, s = .int .i64 (n : Int) ∧ n ≤ 300 ∧ i = .int .i64 (m : Int) ∧ m ≤ x.args.length ∧ (∀ j t, j < m → x.args[j]? = some t → t.length ≤ 60) ∧ Chg (fun _ => False) w wr ∧ Chg (fun _ => False) w3 wr) (fun _ i _ => x.args.length - (intOf i).toNat)
          case atStart => exact ⟨0, n, rfl, hnn, rfl, Nat.zero_le _, fun j _ h => absurd h (Nat.not_lt_zero _), unhide HCH3, Chg.refl _ _⟩
          case round =>
            clear z0 z1 HCH3
            obtain ⟨wz, rfl⟩ : ∃ wz : World, wz = wr := ⟨_, rfl⟩
            obtain ⟨m, n, rfl, hnn, rfl, hm, hall, hch, hcz⟩ := hrel
            have z1 := ((unhide HBK).chg hcz id).cell 1
            simp only [List.getElem?_toArray, List.getElem?_cons_zero, List.getElem?_cons_succ] at z1
            by_cases hlm : m < x.args.length
            · have hmk : (m : Int) < (x.args.length : Int) := by omega
              have hw : x.args[m]? = some x.args[m] := List.getElem?_eq_getElem hlm
              generalize x.args[m] = t at *
              obtain ⟨b3, o3, c7, u3, hv, _, hrt, f0⟩ := (unhide HRA).at_ hw
              injection hv with hv1 hv2 hv3
              subst hv1 hv3
              have htb := hrt.big
              obtain ⟨B3, c9, rfl⟩ := hrt.val
              have HRT := hide hrt
              have HF0 := hide f0
              have f0 := (hch.cell (World.block_lt_of_cell? w _ f0) id).trans f0
              have HW := hide hw
              have HALL3 := hide hall
              have HCH := hide hch
              have HCZ := hide hcz
              clear hw hall hch hcz hv2 hrt
              by_cases ht60 : t.length ≤ 60
              · have ht' : ¬ (60 : Int) < (t.length : Int) := by omega
                have HT6 := hide ht60
                go_wp2_with fail
                go_loopw [8] (fun j wr => ∃ h : Nat, j = .int .i64 (h : Int) ∧ h ≤ t.length ∧ h ≤ 61 ∧ Chg (fun _ => False) w wr ∧ Chg (fun _ => False) w3 wr) (fun j _ => t.length - (intOf j).toNat)
                case atStart => exact ⟨0, rfl, Nat.zero_le _, by omega, unhide HCH, unhide HCZ⟩
                case round =>
                  clear z1 f0 HCH HCZ
                  obtain ⟨wu, rfl⟩ : ∃ wu : World, wu = wr := ⟨_, rfl⟩
                  obtain ⟨h, rfl, hh, hh61, hch, hcz⟩ := hrel
                  have z1 := ((unhide HBK).chg hcz id).cell 1
                  simp only [List.getElem?_toArray, List.getElem?_cons_zero, List.getElem?_cons_succ] at z1
                  have f0 := (hch.cell (World.block_lt_of_cell? w _ (unhide HF0)) id).trans (unhide HF0)
                  by_cases hlh : h < t.length
                  · have hhk : (h : Int) < (t.length : Int) := by omega
                    by_cases h61 : h < 61
                    · have hh6 : (h : Int) < 61 := by omega
                      have hw : t[h]? = some t[h] := List.getElem?_eq_getElem hlh
                      generalize t[h] = nd at *
                      obtain ⟨b4, o4, c8, hv, _, hns, g0, g1, g2, g3⟩ := ((unhide HRT).chg hch (fun _ _ _ => id)).at_ hw
                      injection hv with hv1 hv2 hv3
                      subst hv1 hv3
                      unfold ndOk at hns
                      have HCH := hide hch
                      have HCZ := hide hcz
                      clear hch hcz hw hv2 g0 g2 g3
                      by_cases ht : 60 < nd.text.size
                      · have ht2 : (60 : Int) < (nd.text.size : Int) := by omega
                        go_wp2_with fail
                        go_ret
                        exact ⟨false, rfl, fun h => (by cases h), unhide HCH⟩
                      · have ht2 : ¬ (60 : Int) < (nd.text.size : Int) := by omega
                        go_wp2_with fail
                        go_roundw
                        case rel => exact ⟨h + 1, by go_num, by omega, by omega, unhide HCH, unhide HCZ⟩
                        case measure => simp [intOf]; omega
                    · exfalso
                      have := unhide HT6
                      omega
                  · obtain rfl : h = t.length := by omega
                    have hhk : ¬ (t.length : Int) < (t.length : Int) := by omega
                    have HCH := hide hch
                    have HCZ := hide hcz
                    clear hch hcz
                    by_cases h300 : 300 < n + t.length
                    · have h3' : (300 : Int) < (n : Int) + (t.length : Int) := by omega
                      have h3n : 300 < n + t.length := by omega
                      go_wp2_with fail
                      go_ret
                      exact ⟨false, rfl, fun h => (by cases h), unhide HCH⟩
                    · have h3' : ¬ (300 : Int) < (n : Int) + (t.length : Int) := by omega
                      have h3n : ¬ 300 < n + t.length := by omega
                      have HB := hide h300
                      clear h300
                      go_wp2_with fail
                      go_roundw
                      case rel => exact ⟨m + 1, n + t.length, by go_num, by have := unhide HB; omega, by go_num, by omega, upto_step (unhide HALL3) (unhide HW) (unhide HT6), unhide HCH, unhide HCZ⟩
                      case measure => simp [intOf]; omega
              · have ht' : (60 : Int) < (t.length : Int) := by omega
                go_wp2_with fail
                go_loopw [8] (fun j wr => ∃ h : Nat, j = .int .i64 (h : Int) ∧ h ≤ t.length ∧ h ≤ 61 ∧ Chg (fun _ => False) w wr ∧ Chg (fun _ => False) w3 wr) (fun j _ => t.length - (intOf j).toNat)
                case atStart => exact ⟨0, rfl, Nat.zero_le _, by omega, unhide HCH, unhide HCZ⟩
                case round =>
                  clear z1 f0 HCH HCZ
                  obtain ⟨wu, rfl⟩ : ∃ wu : World, wu = wr := ⟨_, rfl⟩
                  obtain ⟨h, rfl, hh, hh61, hch, hcz⟩ := hrel
                  have z1 := ((unhide HBK).chg hcz id).cell 1
                  simp only [List.getElem?_toArray, List.getElem?_cons_zero, List.getElem?_cons_succ] at z1
                  have f0 := (hch.cell (World.block_lt_of_cell? w _ (unhide HF0)) id).trans (unhide HF0)
                  by_cases hlh : h < t.length
                  · have hhk : (h : Int) < (t.length : Int) := by omega
                    by_cases h61 : h < 61
                    · have hh6 : (h : Int) < 61 := by omega
                      have hw : t[h]? = some t[h] := List.getElem?_eq_getElem hlh
                      generalize t[h] = nd at *
                      obtain ⟨b4, o4, c8, hv, _, hns, g0, g1, g2, g3⟩ := ((unhide HRT).chg hch (fun _ _ _ => id)).at_ hw
                      injection hv with hv1 hv2 hv3
                      subst hv1 hv3
                      unfold ndOk at hns
                      have HCH := hide hch
                      have HCZ := hide hcz
                      clear hch hcz hw hv2 g0 g2 g3
                      by_cases ht : 60 < nd.text.size
                      · have ht2 : (60 : Int) < (nd.text.size : Int) := by omega
                        go_wp2_with fail
                        go_ret
                        exact ⟨false, rfl, fun h => (by cases h), unhide HCH⟩
                      · have ht2 : ¬ (60 : Int) < (nd.text.size : Int) := by omega
                        go_wp2_with fail
                        go_roundw
                        case rel => exact ⟨h + 1, by go_num, by omega, by omega, unhide HCH, unhide HCZ⟩
                        case measure => simp [intOf]; omega
                    · have hh6 : ¬ (h : Int) < 61 := by omega
                      have HCH := hide hch
                      have HCZ := hide hcz
                      clear hch hcz
                      go_wp2_with fail
                      go_ret
                      exact ⟨false, rfl, fun h => (by cases h), unhide HCH⟩
                  · obtain rfl : h = t.length := by omega
                    have hhk : ¬ (t.length : Int) < (t.length : Int) := by omega
                    have HCH := hide hch
                    have HCZ := hide hcz
                    clear hch hcz
                    go_wp2_with fail
                    go_ret
                    exact ⟨false, rfl, fun h => (by cases h), unhide HCH⟩
            · obtain rfl : m = x.args.length := by omega
              have hmk : ¬ (x.args.length : Int) < (x.args.length : Int) := by omega
              have HBC := hide (show BC x from ⟨by omega, mem_all hall⟩)
              have HCH := hide hch
              clear hall hch hcz
              go_wp2_with fail
              go_roundw
              case rel => exact ⟨k + 1, n, rfl, hnn, by go_num, by omega, upto_step (unhide HALL2) (unhide HY) (unhide HBC), unhide HCH⟩
              case measure => simp [intOf]; omega
        · obtain rfl : k = d.cons.length := by omega
          have hkk : ¬ (d.cons.length : Int) < (d.cons.length : Int) := by omega
          have HBD := hide (show BD d from ⟨by omega, mem_all hall⟩)
          have HCH := hide hch
          clear hall hch
          go_wp2_with fail
          go_roundw
          case rel => exact ⟨i + 1, n, rfl, hnn, by go_num, by omega, upto_step (unhide HALL) (unhide HX) (unhide HBD), unhide HCH⟩
          case measure => simp [intOf]; omega
    · obtain rfl : i = l.length := by omega
      have hki : ¬ (l.length : Int) < (l.length : Int) := by omega
      have HBL := hide (show BL l from ⟨by omega, mem_all hall⟩)
      have HCH := hide hch
      clear hall hch
      go_wp2_with fail
      go_ret
      exact ⟨true, rfl, fun _ => unhide HBL, unhide HCH⟩
end Go.Proofs.YtinekmjengckdaaGreatDoor

namespace Go.Proofs.YtinekmjengckdaaGreatDoor
open Go.RowKit
set_option maxHeartbeats 4000000
set_option maxRecDepth 100000
def BNs (t : List Nd) : Prop := t.length ≤ 60 ∧ ∀ n ∈ t, n.text.size ≤ 60
def BCs (c : Ct) : Prop := c.name.size ≤ 60 ∧ c.args.length ≤ 10 ∧ ∀ t ∈ c.args, BNs t
def BDs (d : Dt) : Prop := d.name.size ≤ 60 ∧ d.cons.length ≤ 70 ∧ ∀ c ∈ d.cons, BCs c
def BLs (l : List Dt) : Prop := l.length ≤ 70 ∧ ∀ d ∈ l, BDs d
theorem BLs.bl {l : List Dt} (h : BLs l) : BL l := ⟨h.1, fun d hd => ⟨(h.2 d hd).2.1, fun c hc => ⟨((h.2 d hd).2.2 c hc).2.1, fun t ht => (((h.2 d hd).2.2 c hc).2.2 t ht).1⟩⟩⟩
/-- Declarations that aren't too many or great. -/
def FewOuts (l : List Dt) (w : World) (e : Ending) (w' : World) : Prop := ∃ r : Bool, e = .returned (.bool r) ∧ (r = true → BLs l) ∧ Chg (fun _ => False) w w'
theorem few_ds (l : List Dt) (v : Value) (T : Nat → Prop) (w : World) (hr : RdD T w v l) :
    Calls Tryz.prog 22 #[v] w (FewOuts l w) := by
  have hbig := hr.big
  obtain ⟨A, c, rfl⟩ := hr.val
  have HR := hide hr
  clear hr
  by_cases h70 : 70 < l.length
  · have h70' : (70 : Int) < (l.length : Int) := by omega
    clear HR h70
    go_enter Tryz.func22, Tryz.ntmps22
    go_wp2_with fail
    go_ret
    exact ⟨false, rfl, fun h => (by cases h), Chg.refl _ _⟩
  have h70' : ¬ (70 : Int) < (l.length : Int) := by omega
  go_enter Tryz.func22, Tryz.ntmps22
  go_wp2_with fail
  go_loopw [3, 4] (fun s i wr => ∃ k n : Nat, s = .int .i64 (n : Int) ∧ n ≤ 300 ∧ i = .int .i64 (k : Int) ∧ k ≤ l.length ∧ (∀ j d, j < k → l[j]? = some d → BDs d) ∧ Chg (fun _ => False) w wr) (fun _ i _ => l.length - (intOf i).toNat)
  case atStart => exact ⟨0, 0, rfl, by omega, rfl, Nat.zero_le _, fun j _ h => absurd h (Nat.not_lt_zero _), Chg.refl _ _⟩
  case round =>
    obtain ⟨wq, rfl⟩ : ∃ wq : World, wq = wr := ⟨_, rfl⟩
    obtain ⟨i, n, rfl, hnn, rfl, hi, hall, hch⟩ := hrel
    by_cases hlt : i < l.length
    · have hki : (i : Int) < (l.length : Int) := by omega
      have hx : l[i]? = some l[i] := List.getElem?_eq_getElem hlt
      generalize l[i] = d at *
      obtain ⟨b, o, c2, u, hv, _, hru, hns, c0, c1, c3⟩ := (unhide HR).at_ hx
      injection hv with hv1 hv2 hv3
      subst hv1 hv3
      have hcb := hru.big
      obtain ⟨B, c5, rfl⟩ := hru.val
      have d0 := (hch.cell (World.block_lt_of_cell? w _ c0) id).trans c0
      have d3 := (hch.cell (World.block_lt_of_cell? w _ c3) id).trans c3
      have HX := hide hx
      have HALL := hide hall
      have HRU := hide hru
      have HC3 := hide c3
      have HCH := hide hch
      clear hx hall hru hch c0 c1 c3 hv2
      by_cases hc70 : 70 < d.cons.length
      · have hc' : (70 : Int) < (d.cons.length : Int) := by omega
        go_wp2_with fail
        go_ret
        exact ⟨false, rfl, fun h => (by cases h), unhide HCH⟩
      have hc' : ¬ (70 : Int) < (d.cons.length : Int) := by omega
      by_cases hs60 : 60 < d.name.size
      · have hs' : (60 : Int) < (d.name.size : Int) := by omega
        go_wp2_with fail
        go_ret
        exact ⟨false, rfl, fun h => (by cases h), unhide HCH⟩
      have hs' : ¬ (60 : Int) < (d.name.size : Int) := by omega
      go_wp2_with fail
      go_loopw [3, 5] (fun s i wr => ∃ k n : Nat, s = .int .i64 (n : Int) ∧ n ≤ 300 ∧ i = .int .i64 (k : Int) ∧ k ≤ d.cons.length ∧ (∀ j c, j < k → d.cons[j]? = some c → BCs c) ∧ Chg (fun _ => False) w wr) (fun _ i _ => d.cons.length - (intOf i).toNat)
      case atStart => exact ⟨0, n, rfl, hnn, rfl, Nat.zero_le _, fun j _ h => absurd h (Nat.not_lt_zero _), unhide HCH⟩
      case round =>
        clear d0 d3 HCH
        obtain ⟨wy, rfl⟩ : ∃ wy : World, wy = wr := ⟨_, rfl⟩
        obtain ⟨k, n, rfl, hnn, rfl, hk, hall, hch⟩ := hrel
        have d3 := (hch.cell (World.block_lt_of_cell? w _ (unhide HC3)) id).trans (unhide HC3)
        by_cases hlk : k < d.cons.length
        · have hkk : (k : Int) < (d.cons.length : Int) := by omega
          have hy : d.cons[k]? = some d.cons[k] := List.getElem?_eq_getElem hlk
          generalize d.cons[k] = x at *
          obtain ⟨b2, o2, c4, u2, hv, _, hra, hxs, e0w, e1w⟩ := (unhide HRU).at_ hy
          injection hv with hv1 hv2 hv3
          subst hv1 hv3
          have e0 := (hch.cell (World.block_lt_of_cell? w _ e0w) id).trans e0w
          have e1 := (hch.cell (World.block_lt_of_cell? w _ e1w) id).trans e1w
          clear e0w e1w
          have hab := hra.big
          obtain ⟨B2, c6, rfl⟩ := hra.val
          have HY := hide hy
          have HALL2 := hide hall
          have HCH := hide hch
          have HRA := hide hra
          clear hy hall hch hv2 hra
          go_upto_region 13 with fail
          have bk := Blk.new wy 64 #[.string x.name, .slice B2 x.args.length c6]
          have hc3 : Chg (fun _ => False) wy (wy.alloc (.cells #[.string x.name, .slice B2 x.args.length c6] 64)) := (Chg.refl _ wy).alloc _
          generalize wy.alloc (.cells #[.string x.name, .slice B2 x.args.length c6] 64) = w3 at *
          generalize wy.heap.size = nb at *
          have z0 := bk.cell 0
          have z1 := bk.cell 1
          simp only [List.getElem?_toArray, List.getElem?_cons_zero, List.getElem?_cons_succ] at z0 z1
          have HBK := hide bk
          have HCH3 := hide ((unhide HCH).trans' hc3)
          clear bk hc3 d3 e0 e1 HCH
          by_cases hs60 : 60 < x.name.size
          · have hs' : (60 : Int) < (x.name.size : Int) := by omega
            go_wp2_with fail
            go_ret
            exact ⟨false, rfl, fun h => (by cases h), unhide HCH3⟩
          have hs' : ¬ (60 : Int) < (x.name.size : Int) := by omega
          by_cases ha10 : 10 < x.args.length
          · have ha' : (10 : Int) < (x.args.length : Int) := by omega
            go_wp2_with fail
            go_ret
            exact ⟨false, rfl, fun h => (by cases h), unhide HCH3⟩
          have ha' : ¬ (10 : Int) < (x.args.length : Int) := by omega
          go_wp2_with fail
          go_loopw [3, 7] (fun s i wr => ∃ m n : Nat, s = .int .i64 (n : Int) ∧ n ≤ 300 ∧ i = .int .i64 (m : Int) ∧ m ≤ x.args.length ∧ (∀ j t, j < m → x.args[j]? = some t → BNs t) ∧ Chg (fun _ => False) w wr ∧ Chg (fun _ => False) w3 wr) (fun _ i _ => x.args.length - (intOf i).toNat)
          case atStart => exact ⟨0, n, rfl, hnn, rfl, Nat.zero_le _, fun j _ h => absurd h (Nat.not_lt_zero _), unhide HCH3, Chg.refl _ _⟩
          case round =>
            clear z0 z1 HCH3
            obtain ⟨wz, rfl⟩ : ∃ wz : World, wz = wr := ⟨_, rfl⟩
            obtain ⟨m, n, rfl, hnn, rfl, hm, hall, hch, hcz⟩ := hrel
            have z1 := ((unhide HBK).chg hcz id).cell 1
            simp only [List.getElem?_toArray, List.getElem?_cons_zero, List.getElem?_cons_succ] at z1
            by_cases hlm : m < x.args.length
            · have hmk : (m : Int) < (x.args.length : Int) := by omega
              have hw : x.args[m]? = some x.args[m] := List.getElem?_eq_getElem hlm
              generalize x.args[m] = t at *
              obtain ⟨b3, o3, c7, u3, hv, _, hrt, f0⟩ := (unhide HRA).at_ hw
              injection hv with hv1 hv2 hv3
              subst hv1 hv3
              have htb := hrt.big
              obtain ⟨B3, c9, rfl⟩ := hrt.val
              have HRT := hide hrt
              have HF0 := hide f0
              have f0 := (hch.cell (World.block_lt_of_cell? w _ f0) id).trans f0
              have HW := hide hw
              have HALL3 := hide hall
              have HCH := hide hch
              have HCZ := hide hcz
              clear hw hall hch hcz hv2 hrt
              by_cases ht60 : t.length ≤ 60
              · have ht' : ¬ (60 : Int) < (t.length : Int) := by omega
                have HT6 := hide ht60
                go_wp2_with fail
                go_loopw [8] (fun j wr => ∃ h : Nat, j = .int .i64 (h : Int) ∧ h ≤ t.length ∧ h ≤ 61 ∧ (∀ j n, j < h → t[j]? = some n → n.text.size ≤ 60) ∧ Chg (fun _ => False) w wr ∧ Chg (fun _ => False) w3 wr) (fun j _ => t.length - (intOf j).toNat)
                case atStart => exact ⟨0, rfl, Nat.zero_le _, by omega, fun j _ h => absurd h (Nat.not_lt_zero _), unhide HCH, unhide HCZ⟩
                case round =>
                  clear z1 f0 HCH HCZ
                  obtain ⟨wu, rfl⟩ : ∃ wu : World, wu = wr := ⟨_, rfl⟩
                  obtain ⟨h, rfl, hh, hh61, hall4, hch, hcz⟩ := hrel
                  have HALL4 := hide hall4
                  clear hall4
                  have z1 := ((unhide HBK).chg hcz id).cell 1
                  simp only [List.getElem?_toArray, List.getElem?_cons_zero, List.getElem?_cons_succ] at z1
                  have f0 := (hch.cell (World.block_lt_of_cell? w _ (unhide HF0)) id).trans (unhide HF0)
                  by_cases hlh : h < t.length
                  · have hhk : (h : Int) < (t.length : Int) := by omega
                    by_cases h61 : h < 61
                    · have hh6 : (h : Int) < 61 := by omega
                      have hw : t[h]? = some t[h] := List.getElem?_eq_getElem hlh
                      generalize t[h] = nd at *
                      obtain ⟨b4, o4, c8, hv, _, hns, g0, g1, g2, g3⟩ := ((unhide HRT).chg hch (fun _ _ _ => id)).at_ hw
                      injection hv with hv1 hv2 hv3
                      subst hv1 hv3
                      unfold ndOk at hns
                      have HCH := hide hch
                      have HCZ := hide hcz
                      have HW4 := hide hw
                      clear hch hcz hw hv2 g0 g2 g3
                      by_cases ht : 60 < nd.text.size
                      · have ht2 : (60 : Int) < (nd.text.size : Int) := by omega
                        go_wp2_with fail
                        go_ret
                        exact ⟨false, rfl, fun h => (by cases h), unhide HCH⟩
                      · have ht2 : ¬ (60 : Int) < (nd.text.size : Int) := by omega
                        have HT4 := hide (show nd.text.size ≤ 60 by omega)
                        clear ht
                        go_wp2_with fail
                        go_roundw
                        case rel => exact ⟨h + 1, by go_num, by omega, by omega, upto_step (unhide HALL4) (unhide HW4) (unhide HT4), unhide HCH, unhide HCZ⟩
                        case measure => simp [intOf]; omega
                    · exfalso
                      have := unhide HT6
                      omega
                  · obtain rfl : h = t.length := by omega
                    have HBN := hide (show BNs t from ⟨unhide HT6, mem_all (unhide HALL4)⟩)
                    clear HALL4
                    have hhk : ¬ (t.length : Int) < (t.length : Int) := by omega
                    have HCH := hide hch
                    have HCZ := hide hcz
                    clear hch hcz
                    by_cases h300 : 300 < n + t.length
                    · have h3' : (300 : Int) < (n : Int) + (t.length : Int) := by omega
                      have h3n : 300 < n + t.length := by omega
                      go_wp2_with fail
                      go_ret
                      exact ⟨false, rfl, fun h => (by cases h), unhide HCH⟩
                    · have h3' : ¬ (300 : Int) < (n : Int) + (t.length : Int) := by omega
                      have h3n : ¬ 300 < n + t.length := by omega
                      have HB := hide h300
                      clear h300
                      go_wp2_with fail
                      go_roundw
                      case rel => exact ⟨m + 1, n + t.length, by go_num, by have := unhide HB; omega, by go_num, by omega, upto_step (unhide HALL3) (unhide HW) (unhide HBN), unhide HCH, unhide HCZ⟩
                      case measure => simp [intOf]; omega
              · have ht' : (60 : Int) < (t.length : Int) := by omega
                go_wp2_with fail
                go_loopw [8] (fun j wr => ∃ h : Nat, j = .int .i64 (h : Int) ∧ h ≤ t.length ∧ h ≤ 61 ∧ Chg (fun _ => False) w wr ∧ Chg (fun _ => False) w3 wr) (fun j _ => t.length - (intOf j).toNat)
                case atStart => exact ⟨0, rfl, Nat.zero_le _, by omega, unhide HCH, unhide HCZ⟩
                case round =>
                  clear z1 f0 HCH HCZ
                  obtain ⟨wu, rfl⟩ : ∃ wu : World, wu = wr := ⟨_, rfl⟩
                  obtain ⟨h, rfl, hh, hh61, hch, hcz⟩ := hrel
                  have z1 := ((unhide HBK).chg hcz id).cell 1
                  simp only [List.getElem?_toArray, List.getElem?_cons_zero, List.getElem?_cons_succ] at z1
                  have f0 := (hch.cell (World.block_lt_of_cell? w _ (unhide HF0)) id).trans (unhide HF0)
                  by_cases hlh : h < t.length
                  · have hhk : (h : Int) < (t.length : Int) := by omega
                    by_cases h61 : h < 61
                    · have hh6 : (h : Int) < 61 := by omega
                      have hw : t[h]? = some t[h] := List.getElem?_eq_getElem hlh
                      generalize t[h] = nd at *
                      obtain ⟨b4, o4, c8, hv, _, hns, g0, g1, g2, g3⟩ := ((unhide HRT).chg hch (fun _ _ _ => id)).at_ hw
                      injection hv with hv1 hv2 hv3
                      subst hv1 hv3
                      unfold ndOk at hns
                      have HCH := hide hch
                      have HCZ := hide hcz
                      clear hch hcz hw hv2 g0 g2 g3
                      by_cases ht : 60 < nd.text.size
                      · have ht2 : (60 : Int) < (nd.text.size : Int) := by omega
                        go_wp2_with fail
                        go_ret
                        exact ⟨false, rfl, fun h => (by cases h), unhide HCH⟩
                      · have ht2 : ¬ (60 : Int) < (nd.text.size : Int) := by omega
                        go_wp2_with fail
                        go_roundw
                        case rel => exact ⟨h + 1, by go_num, by omega, by omega, unhide HCH, unhide HCZ⟩
                        case measure => simp [intOf]; omega
                    · have hh6 : ¬ (h : Int) < 61 := by omega
                      have HCH := hide hch
                      have HCZ := hide hcz
                      clear hch hcz
                      go_wp2_with fail
                      go_ret
                      exact ⟨false, rfl, fun h => (by cases h), unhide HCH⟩
                  · obtain rfl : h = t.length := by omega
                    have hhk : ¬ (t.length : Int) < (t.length : Int) := by omega
                    have HCH := hide hch
                    have HCZ := hide hcz
                    clear hch hcz
                    go_wp2_with fail
                    go_ret
                    exact ⟨false, rfl, fun h => (by cases h), unhide HCH⟩
            · obtain rfl : m = x.args.length := by omega
              have hmk : ¬ (x.args.length : Int) < (x.args.length : Int) := by omega
              have HBC := hide (show BCs x from ⟨by omega, by omega, mem_all hall⟩)
              have HCH := hide hch
              clear hall hch hcz
              go_wp2_with fail
              go_roundw
              case rel => exact ⟨k + 1, n, rfl, hnn, by go_num, by omega, upto_step (unhide HALL2) (unhide HY) (unhide HBC), unhide HCH⟩
              case measure => simp [intOf]; omega
        · obtain rfl : k = d.cons.length := by omega
          have hkk : ¬ (d.cons.length : Int) < (d.cons.length : Int) := by omega
          have HBD := hide (show BDs d from ⟨by omega, by omega, mem_all hall⟩)
          have HCH := hide hch
          clear hall hch
          go_wp2_with fail
          go_roundw
          case rel => exact ⟨i + 1, n, rfl, hnn, by go_num, by omega, upto_step (unhide HALL) (unhide HX) (unhide HBD), unhide HCH⟩
          case measure => simp [intOf]; omega
    · obtain rfl : i = l.length := by omega
      have hki : ¬ (l.length : Int) < (l.length : Int) := by omega
      have HBL := hide (show BLs l from ⟨by omega, mem_all hall⟩)
      have HCH := hide hch
      clear hall hch
      go_wp2_with fail
      go_ret
      exact ⟨true, rfl, fun _ => unhide HBL, unhide HCH⟩
end Go.Proofs.YtinekmjengckdaaGreatDoor

namespace Go.Proofs.YtinekmjengckdaaGreatDoor
/-- What is taken has a property. -/
def Ens {α : Type} (p : Tk α) (P : α → Prop) : Prop := ∀ s x r, p s = some (x, r) → P x
section
variable {α β : Type} {P : α → Prop} {Q : β → Prop}
theorem seqT_ens {p : Tk α} {q : α → Tk β} (hp : Ens p P) (hq : ∀ a, P a → Ens (q a) Q) : Ens (seqT p q) Q := fun s x r h => by
  obtain ⟨y, t, h1, h2⟩ := seqT_some h
  exact hq y (hp _ _ _ h1) _ _ _ h2
theorem mapT_ens {p : Tk α} {f : α → β} (hp : Ens p P) (hf : ∀ x, P x → Q (f x)) : Ens (mapT f p) Q := fun s x r h => by
  obtain ⟨y, h1, rfl⟩ := mapT_some h
  exact hf y (hp _ _ _ h1)
theorem many_ens {p : Tk α} (hp : Ens p P) : ∀ n, Ens (pMany p n) (fun l => ∀ x ∈ l, P x)
  | 0 => fun s x r h => by
    unfold pMany at h
    injection h with h
    injection h with h1 _
    subst h1
    intro y hy
    cases hy
  | n + 1 => seqT_ens hp fun a ha => mapT_ens (many_ens hp n) fun l hl x hx => by
    rcases List.mem_cons.1 hx with rfl | hx
    · exact ha
    · exact hl x hx
theorem row_ens {p : Tk α} (hp : Ens p P) : Ens (pRow p) (fun l => l.length ≤ 4000 ∧ ∀ x ∈ l, P x) := fun s x r h => by
  obtain ⟨n, t, _, h2⟩ := seqT_some h
  obtain ⟨h3, h4⟩ := manyT_some h2
  exact ⟨by rw [many_count h4]; exact h3, many_ens hp n _ _ _ h4⟩
end
theorem num_ens (m : Nat) : Ens (pNum m) (fun n => n < 256 ^ m) := fun _ _ _ h => pNum_lt h
theorem text_ens : Ens pText (fun x => x.size < 65536) := seqT_ens (num_ens 2) fun n hn s x r h => by
  rw [(textT_some h).1]
  exact hn
theorem node_ens : Ens pNode (fun n => n.text.size < 65536) := seqT_ens (num_ens 1) fun n _ => by
  unfold nodeT
  split
  · exact mapT_ens (num_ens 4) fun _ _ => (by decide : (0 : Nat) < 65536)
  · exact seqT_ens text_ens fun t ht => mapT_ens (num_ens 1) fun _ _ => ht
def TypP (t : List Nd) : Prop := t.length ≤ 4000 ∧ ∀ n ∈ t, n.text.size < 65536
def CtP (c : Ct) : Prop := c.name.size < 65536 ∧ c.args.length ≤ 4000 ∧ ∀ t ∈ c.args, TypP t
def DtP (d : Dt) : Prop := d.name.size < 65536 ∧ d.cons.length ≤ 4000 ∧ ∀ c ∈ d.cons, CtP c
def SgP (s : Sg) : Prop := s.name.size < 65536 ∧ TypP s.type
structure IfcP (i : Ifc) : Prop where
  opens : i.opens.length ≤ 4000 ∧ ∀ o ∈ i.opens, o.name.size < 65536 ∧ 0 ≤ o.digest ∧ o.digest < 4294967296
  datas : i.datas.length ≤ 4000 ∧ ∀ d ∈ i.datas, DtP d
  fixes : i.fixes.length ≤ 4000 ∧ ∀ f ∈ i.fixes, f.op.size < 65536
  sigs : i.sigs.length ≤ 4000 ∧ ∀ s ∈ i.sigs, SgP s
theorem typ_ens : Ens pTyp TypP := row_ens node_ens
theorem ct_ens : Ens pCt CtP := seqT_ens text_ens fun _ ht => mapT_ens (row_ens typ_ens) fun _ hl => ⟨ht, hl⟩
theorem dt_ens : Ens pDt DtP := seqT_ens text_ens fun _ ht => seqT_ens (num_ens 1) fun _ _ => mapT_ens (row_ens ct_ens) fun _ hl => ⟨ht, hl⟩
theorem opn_ens : Ens pOpn (fun o => o.name.size < 65536 ∧ 0 ≤ o.digest ∧ o.digest < 4294967296) := seqT_ens text_ens fun _ ht => mapT_ens (num_ens 4) fun n hn => ⟨ht, by show (0 : Int) ≤ (n : Int); omega, by
  show (n : Int) < 4294967296
  have : n < 4294967296 := hn
  omega⟩
theorem fx_ens : Ens pFx (fun f => f.op.size < 65536) := seqT_ens text_ens fun _ ht => seqT_ens (num_ens 1) fun _ _ => mapT_ens (num_ens 1) fun _ _ => ht
theorem sg_ens : Ens pSg SgP := seqT_ens text_ens fun _ ht => mapT_ens typ_ens fun _ hl => ⟨ht, hl⟩
theorem ifc_ens : Ens pIfc IfcP := seqT_ens text_ens fun _ _ => seqT_ens (row_ens opn_ens) fun _ ho => seqT_ens (row_ens dt_ens) fun _ hd => seqT_ens (row_ens fx_ens) fun _ hf => mapT_ens (row_ens sg_ens) fun _ hs => ⟨ho, hd, hf, hs⟩
theorem IfcP.ifl {i : Ifc} (h : IfcP i) : IfL i := ⟨Nat.le_trans h.opens.1 (by decide), Nat.le_trans h.datas.1 (by decide), Nat.le_trans h.fixes.1 (by decide), Nat.le_trans h.sigs.1 (by decide),
  fun d hd => ⟨Nat.le_trans (h.datas.2 d hd).2.1 (by decide), fun c hc => ⟨Nat.le_trans ((h.datas.2 d hd).2.2 c hc).2.1 (by decide), fun t ht => Nat.le_trans (((h.datas.2 d hd).2.2 c hc).2.2 t ht).1 (by decide)⟩⟩,
  fun s hs => Nat.le_trans (h.sigs.2 s hs).2.1 (by decide)⟩
theorem IfcP.sz {i : Ifc} (h : IfcP i) (hl : (allP i).length ≤ 900000000) : Sz i := ⟨⟨h.opens.2, h.fixes.2, fun s hs => ⟨(h.sigs.2 s hs).1, (h.sigs.2 s hs).2.2⟩,
  fun d hd => ⟨(h.datas.2 d hd).1, fun c hc => ⟨((h.datas.2 d hd).2.2 c hc).1, fun t ht => (((h.datas.2 d hd).2.2 c hc).2.2 t ht).2⟩⟩⟩, hl, Nat.le_trans h.fixes.1 (by decide)⟩
/-- What bytes are is not too great. -/
theorem dec_ok {s : List UInt8} {i : Ifc} (h : decG (ifcB ltS) s = some i) (hs : s.length ≤ 900000000) : IfL i ∧ Sz i ∧ ifcB ltS i = true ∧ encP i = s := by
  obtain ⟨h1, h2, r, h3⟩ := dec_some h
  have hp := ifc_ens _ _ _ h3
  refine ⟨hp.ifl, hp.sz ?_, h1, h2⟩
  have := enc_len i
  rw [h2] at this
  omega
theorem empty_ifl : IfL ⟨⟨#[]⟩, [], [], [], []⟩ := ⟨by decide, by decide, by decide, by decide, fun _ h => (by cases h), fun _ h => (by cases h)⟩
/-- An interface that the document calls few. -/
structure IfF (i : Ifc) : Prop where
  name : i.name.size ≤ 100
  opens : i.opens.length ≤ 70 ∧ ∀ o ∈ i.opens, o.name.size ≤ 100
  fixes : i.fixes.length ≤ 70 ∧ ∀ f ∈ i.fixes, f.op.size ≤ 100
  sigs : i.sigs.length ≤ 40 ∧ ∀ s ∈ i.sigs, s.name.size ≤ 100 ∧ s.type.length ≤ 40 ∧ ∀ n ∈ s.type, n.text.size ≤ 100
  datas : BLs i.datas
theorem bflat_le {α : Type} {f : α → List UInt8} {B : Nat} : ∀ {l : List α}, (∀ x ∈ l, (f x).length ≤ B) → (l.flatMap f).length ≤ l.length * B
  | [], _ => by simp
  | x :: l, h => by
    have h1 := h x List.mem_cons_self
    have h2 := bflat_le (l := l) fun y hy => h y (List.mem_cons_of_mem _ hy)
    rw [List.flatMap_cons, List.length_append, List.length_cons, Nat.succ_mul]
    omega
theorem row_le {α : Type} {f : α → List UInt8} {l : List α} (B N : Nat) (hl : l.length ≤ N) (h : ∀ x ∈ l, (f x).length ≤ B) : (rowP f l).length ≤ 2 + N * B := by
  have h1 := bflat_le h
  have h2 : l.length * B ≤ N * B := Nat.mul_le_mul_right _ hl
  unfold rowP
  rw [List.length_append, low_len]
  omega
theorem node_le {n : Nd} {m : Nat} (h : n.text.size ≤ m) : (nodeP n).length ≤ m + 8 := by
  unfold nodeP
  split
  · rw [List.length_cons, low_len]; omega
  · rw [List.length_cons, List.length_append, low_len, text_plen]; omega
theorem IfF.len7 {i : Ifc} (h : IfF i) : (allP i).length ≤ 700000000 := by
  have h1 := row_le (f := opnP) (l := i.opens) 200 70 h.opens.1 fun o ho => by
    have := h.opens.2 o ho
    unfold opnP
    rw [List.length_append, low_len, text_plen]
    omega
  have h2 := row_le (f := fxP) (l := i.fixes) 200 70 h.fixes.1 fun f hf => by
    have := h.fixes.2 f hf
    unfold fxP
    rw [List.length_append, List.length_append, low_len, low_len, text_plen]
    omega
  have h3 := row_le (f := sgP) (l := i.sigs) 5000 40 h.sigs.1 fun s hs => by
    obtain ⟨a, b, c⟩ := h.sigs.2 s hs
    have := row_le (f := nodeP) (l := s.type) 108 40 b fun n hn => node_le (c n hn)
    unfold sgP typP
    rw [List.length_append, text_plen]
    omega
  have h4 := row_le (f := dtP) (l := i.datas) 4000000 70 h.datas.1 fun d hd => by
    obtain ⟨a, b, c⟩ := h.datas.2 d hd
    have := row_le (f := ctP) (l := d.cons) 50000 70 b fun x hx => by
      obtain ⟨a, b, c⟩ := c x hx
      have := row_le (f := typP) (l := x.args) 4100 10 b fun t ht => by
        obtain ⟨a, b⟩ := c t ht
        have := row_le (f := nodeP) (l := t) 68 60 a fun n hn => node_le (b n hn)
        unfold typP
        omega
      unfold ctP
      rw [List.length_append, text_plen]
      omega
    unfold dtP
    rw [List.length_append, List.length_append, low_len, text_plen]
    omega
  have h0 := h.name
  have hm : magicB.length = 4 := rfl
  unfold allP
  rw [List.length_append, List.length_append, List.length_append, List.length_append, List.length_append, text_plen, hm]
  omega
theorem IfF.len {i : Ifc} (h : IfF i) : (allP i).length ≤ 900000000 := Nat.le_trans h.len7 (by decide)
theorem IfF.ifl {i : Ifc} (h : IfF i) : IfL i := ⟨Nat.le_trans h.opens.1 (by decide), Nat.le_trans h.datas.1 (by decide), Nat.le_trans h.fixes.1 (by decide), Nat.le_trans h.sigs.1 (by decide),
  fun d hd => ⟨Nat.le_trans (h.datas.2 d hd).2.1 (by decide), fun c hc => ⟨Nat.le_trans ((h.datas.2 d hd).2.2 c hc).2.1 (by decide), fun t ht => Nat.le_trans (((h.datas.2 d hd).2.2 c hc).2.2 t ht).1 (by decide)⟩⟩,
  fun s hs => Nat.le_trans (h.sigs.2 s hs).2.1 (by decide)⟩
theorem RdIf.opens_ok {T : Nat → Prop} {w : World} {i : Ifc} {vo vd vf vs : Value} (h : RdIf T w i vo vd vf vs) : ∀ o ∈ i.opens, 0 ≤ o.digest ∧ o.digest < 4294967296 := fun o ho => by
  obtain ⟨k, hk⟩ := List.mem_iff_getElem?.1 ho
  obtain ⟨_, _, _, _, _, h1, _, _⟩ := h.opens.at_ hk
  exact h1.2
theorem IfF.sz {i : Ifc} (h : IfF i) {T : Nat → Prop} {w : World} {vo vd vf vs : Value} (hr : RdIf T w i vo vd vf vs) : Sz i := ⟨⟨fun o ho => ⟨Nat.lt_of_le_of_lt (h.opens.2 o ho) (by decide), hr.opens_ok o ho⟩, fun f hf => Nat.lt_of_le_of_lt (h.fixes.2 f hf) (by decide),
  fun s hs => ⟨Nat.lt_of_le_of_lt (h.sigs.2 s hs).1 (by decide), fun n hn => Nat.lt_of_le_of_lt ((h.sigs.2 s hs).2.2 n hn) (by decide)⟩,
  fun d hd => ⟨Nat.lt_of_le_of_lt (h.datas.2 d hd).1 (by decide), fun c hc => ⟨Nat.lt_of_le_of_lt ((h.datas.2 d hd).2.2 c hc).1 (by decide), fun t ht n hn => Nat.lt_of_le_of_lt ((((h.datas.2 d hd).2.2 c hc).2.2 t ht).2 n hn) (by decide)⟩⟩⟩, h.len, Nat.le_trans h.fixes.1 (by decide)⟩
end Go.Proofs.YtinekmjengckdaaGreatDoor
