/-
  Layer 10, the document's side: whether types are the same; whether a type is small.
-/
import Derived.Test.YticnehmgaklhfaaGreatDoorEa
namespace Go.Proofs.YticnehmgaklhfaaGreatDoor
open Go.RowKit
set_option maxHeartbeats 4000000
set_option maxRecDepth 100000
def sameNs : List (List Nd) → List (List Nd) → Bool
  | [], [] => true
  | a :: l, b :: m => sameN a b && sameNs l m
  | _, _ => false
theorem sameNs_iff : ∀ {l m : List (List Nd)}, sameNs l m = true ↔ l = m
  | [], [] => by simp [sameNs]
  | [], b :: m => by simp [sameNs]
  | a :: l, [] => by simp [sameNs]
  | a :: l, b :: m => by rw [sameNs, Bool.and_eq_true, sameN_iff, sameNs_iff, List.cons.injEq]
theorem sameNs_len {l m : List (List Nd)} (h : l.length ≠ m.length) : sameNs l m = false := by
  rw [← Bool.not_eq_true, sameNs_iff]
  rintro rfl
  exact h rfl
theorem sameNs_diff {l m : List (List Nd)} {k : Nat} {x y : List Nd} (hx : l[k]? = some x) (hy : m[k]? = some y) (h : sameN x y = false) : sameNs l m = false := by
  rw [← Bool.not_eq_true, sameNs_iff]
  rintro rfl
  have := hx.symm.trans hy
  injection this with this
  rw [sameN_iff.2 this] at h
  cases h
theorem sameNs_all {l m : List (List Nd)} (hl : l.length = m.length) (h : ∀ j, j < l.length → l[j]? = m[j]?) : sameNs l m = true := by
  rw [sameNs_iff]
  apply List.ext_getElem?
  intro j
  rcases Nat.lt_or_ge j l.length with hj | hj
  · exact h j hj
  · rw [List.getElem?_eq_none_iff.2 hj, List.getElem?_eq_none_iff.2 (by omega)]
theorem types_any (l m : List (List Nd)) (v1 v2 : Value) (T1 T2 : Nat → Prop) (w : World) (h1 : RdNs T1 w v1 l) (h2 : RdNs T2 w v2 m) (hn : l.length ≤ 1000000) (_hm : m.length ≤ 1000000) (hln : ∀ x ∈ l, x.length ≤ 1000000) (hmn : ∀ x ∈ m, x.length ≤ 1000000) :
    Calls Tryz.prog 19 #[v1, v2] w fun e w' => e = .returned (.bool (sameNs l m)) ∧ Chg (fun _ => False) w w' := by
  obtain ⟨A1, c1, rfl⟩ := h1.val
  obtain ⟨A2, c2, rfl⟩ := h2.val
  have H1 := hide h1
  have H2 := hide h2
  rcases Decidable.em (l.length = m.length) with hl | hl
  rotate_left
  · have HE := hide (sameNs_len hl)
    have hle : ¬ (l.length : Int) = (m.length : Int) := by omega
    generalize sameNs l m = E at *
    clear h1 h2 H1 H2
    go_enter Tryz.func19, Tryz.ntmps19
    go_wp2_with fail
    go_ret
    exact ⟨retv (boolv (unhide HE).symm), Chg.refl _ _⟩
  · have HA := hide (sameNs_all hl)
    have HD := hide (fun k x y => sameNs_diff (l := l) (m := m) (k := k) (x := x) (y := y))
    generalize sameNs l m = E at *
    have HL := hide hl
    have HLN := hide hln
    have HMN := hide hmn
    have hle : (l.length : Int) = (m.length : Int) := by omega
    clear h1 h2 hl hln hmn
    go_enter Tryz.func19, Tryz.ntmps19
    go_wp2_with fail
    go_loopw [5] (fun i wr => ∃ k : Nat, i = .int .i64 (k : Int) ∧ k ≤ l.length ∧ (∀ j, j < k → l[j]? = m[j]?) ∧ Chg (fun _ => False) w wr) (fun i _ => l.length - (intOf i).toNat)
    case atStart => exact ⟨0, rfl, Nat.zero_le _, fun j h => absurd h (Nat.not_lt_zero _), Chg.refl _ _⟩
    case round =>
      obtain ⟨wq, rfl⟩ : ∃ wq : World, wq = wr := ⟨_, rfl⟩
      obtain ⟨k, rfl, hk, hall, hch⟩ := hrel
      by_cases hlt : k < l.length
      · have hki : (k : Int) < (l.length : Int) := by omega
        have hkm : (k : Int) < (m.length : Int) := by omega
        have hx : l[k]? = some l[k] := List.getElem?_eq_getElem hlt
        have hlm : k < m.length := by omega
        have hy : m[k]? = some m[k] := List.getElem?_eq_getElem hlm
        have hxn := (unhide HLN) l[k] (List.getElem_mem hlt)
        have hyn := (unhide HMN) m[k] (List.getElem_mem hlm)
        generalize l[k] = x at *
        generalize m[k] = y at *
        obtain ⟨b, o, c3, u, hv, _, hru, d0⟩ := ((unhide H1).chg hch (fun _ _ _ => id)).at_ hx
        obtain ⟨b', o', c3', u', hv', _, hru', e0⟩ := ((unhide H2).chg hch (fun _ _ _ => id)).at_ hy
        injection hv with hv1 hv2 hv3
        injection hv' with hv1' hv2' hv3'
        subst hv1 hv3 hv1' hv3'
        have HS := hide (fun W (hW : Chg (fun _ => False) wq W) => same_any x y u u' T1 T2 W (hru.chg hW (fun _ _ _ => id)) (hru'.chg hW (fun _ _ _ => id)) hxn hyn)
        obtain ⟨B, c5, rfl⟩ := hru.val
        obtain ⟨B', c5', rfl⟩ := hru'.val
        have HALL := hide hall
        have HX := hide hx
        have HY := hide hy
        have HCH := hide hch
        have KSW := hide (show ∀ W, Chg (fun _ => False) wq W → W.cell? ⟨b, o + k, none⟩ = some (.slice B x.length c5) ∧ W.cell? ⟨b', o' + k, none⟩ = some (.slice B' y.length c5') from fun W hW => ⟨(hW.cell (World.block_lt_of_cell? wq _ d0) id).trans d0, (hW.cell (World.block_lt_of_cell? wq _ e0) id).trans e0⟩)
        have HCQ : Hid (Chg (fun _ => False) wq wq.drew) := hide (Chg.drew (Chg.refl _ _))
        have HKK := hide (unhide KSW _ (unhide HCQ))
        clear hall hx hy hch hv2 hv2' hru hru' d0 e0
        cases hq : sameN x y
        · have HE := hide (unhide HD k x y (unhide HX) (unhide HY) hq)
          rw [hq] at HS
          clear hq HALL HX HY
          go_wp2_with fail
          go_region_held3 (fun W => W.cell? ⟨b, o + k, none⟩ = some (.slice B x.length c5) ∧ W.cell? ⟨b', o' + k, none⟩ = some (.slice B' y.length c5')) (first | exact unhide HKK | go_keep) (first
            | (go_at_call 15; (with_reducible refine (unhide HS _ (unhide HCQ)).mono ?_); rintro e w2 ⟨rfl, hc2⟩; have HN_ := hide ((unhide HCQ).trans' hc2); clear HCQ; have HCQ := HN_; clear HN_ HKK; have HKK := hide (unhide KSW _ (unhide HCQ)); clear hc2))
          go_wp2_with fail
          go_ret
          exact ⟨retv (boolv (unhide HE).symm), (unhide HCH).trans' (unhide HCQ)⟩
        · have HE := hide (sameN_iff.1 hq)
          rw [hq] at HS
          clear hq
          go_wp2_with fail
          go_region_held3 (fun W => W.cell? ⟨b, o + k, none⟩ = some (.slice B x.length c5) ∧ W.cell? ⟨b', o' + k, none⟩ = some (.slice B' y.length c5')) (first | exact unhide HKK | go_keep) (first
            | (go_at_call 15; (with_reducible refine (unhide HS _ (unhide HCQ)).mono ?_); rintro e w2 ⟨rfl, hc2⟩; have HN_ := hide ((unhide HCQ).trans' hc2); clear HCQ; have HCQ := HN_; clear HN_ HKK; have HKK := hide (unhide KSW _ (unhide HCQ)); clear hc2))
          go_wp2_with fail
          go_roundw
          case rel =>
            exact ⟨k + 1, by go_num, by omega, fun j hj => by
              rcases Nat.lt_or_ge j k with h | h
              · exact (unhide HALL) j h
              · obtain rfl : j = k := by omega
                rw [unhide HX, unhide HY, unhide HE], (unhide HCH).trans' (unhide HCQ)⟩
          case measure => simp [intOf]; omega
      · obtain rfl : k = l.length := by omega
        have hki : ¬ (l.length : Int) < (l.length : Int) := by omega
        have HF := hide (unhide HA hall)
        have HCH := hide hch
        clear hall hch
        go_wp2_with fail
        go_ret
        exact ⟨retv (boolv (unhide HF).symm), unhide HCH⟩
/-- Is a type small? -/
def fewN (l : List Nd) : Bool := decide (l.length ≤ 60) && l.all fun n => decide (n.text.size ≤ 60)
theorem fewN_long {l : List Nd} (h : 60 < l.length) : fewN l = false := by
  unfold fewN
  rw [decide_eq_false (by omega)]
  rfl
theorem fewN_text {l : List Nd} {k : Nat} {x : Nd} (hx : l[k]? = some x) (h : 60 < x.text.size) : fewN l = false := by
  unfold fewN
  rw [Bool.and_eq_false_iff]
  right
  rw [List.all_eq_false]
  exact ⟨x, List.mem_of_getElem? hx, by rw [decide_eq_true_eq]; omega⟩
theorem fewN_yes {l : List Nd} (h : l.length ≤ 60) (ha : ∀ (j : Nat) (x : Nd), j < l.length → l[j]? = some x → x.text.size ≤ 60) : fewN l = true := by
  unfold fewN
  rw [Bool.and_eq_true, decide_eq_true_eq, List.all_eq_true]
  refine ⟨h, fun x hx => ?_⟩
  obtain ⟨j, hj⟩ := List.mem_iff_getElem?.1 hx
  exact decide_eq_true (ha j x (List.getElem?_eq_some_iff.1 hj).1 hj)
theorem few_n (l : List Nd) (v : Value) (T : Nat → Prop) (w : World) (hr : RdN T w v l) :
    Calls Tryz.prog 12 #[v] w fun e w' => e = .returned (.bool (fewN l)) ∧ Chg (fun _ => False) w w' := by
  have hbig := hr.big
  obtain ⟨A, c, rfl⟩ := hr.val
  have HR := hide hr
  have HLG := hide (fewN_long (l := l))
  have HTX := hide (fun k x => fewN_text (l := l) (k := k) (x := x))
  have HYS := hide (fewN_yes (l := l))
  generalize fewN l = E at *
  clear hr
  go_enter Tryz.func12, Tryz.ntmps12
  go_wp2_with fail
  go_loopw [3] (fun i wr => ∃ k : Nat, i = .int .i64 (k : Int) ∧ k ≤ l.length ∧ k ≤ 61 ∧ (∀ (j : Nat) (x : Nd), j < k → l[j]? = some x → x.text.size ≤ 60) ∧ Chg (fun _ => False) w wr) (fun i _ => l.length - (intOf i).toNat)
  case atStart => exact ⟨0, rfl, Nat.zero_le _, by omega, fun j _ h => absurd h (Nat.not_lt_zero _), Chg.refl _ _⟩
  case round =>
    obtain ⟨wq, rfl⟩ : ∃ wq : World, wq = wr := ⟨_, rfl⟩
    obtain ⟨k, rfl, hk, hk61, hall, hch⟩ := hrel
    by_cases hlt : k < l.length
    · by_cases h61 : k < 61
      · have hki : (k : Int) < (l.length : Int) := by omega
        have hk6 : (k : Int) < 61 := by omega
        have hx : l[k]? = some l[k] := List.getElem?_eq_getElem hlt
        generalize l[k] = x at *
        obtain ⟨b, o, c3, hv, _, hns, d0, d1, d2, d3⟩ := ((unhide HR).chg hch (fun _ _ _ => id)).at_ hx
        injection hv with hv1 hv2 hv3
        subst hv1 hv3
        unfold ndOk at hns
        have HALL := hide hall
        have HX := hide hx
        have HCH := hide hch
        clear hx hall hch hv2
        by_cases ht : 60 < x.text.size
        · have HE := hide (unhide HTX k x (unhide HX) ht)
          have ht2 : (60 : Int) < (x.text.size : Int) := by omega
          clear ht
          go_wp2_with fail
          go_ret
          exact ⟨retv (boolv (unhide HE).symm), unhide HCH⟩
        · have HT := hide (show x.text.size ≤ 60 by omega)
          have ht2 : ¬ (60 : Int) < (x.text.size : Int) := by omega
          clear ht
          go_wp2_with fail
          go_roundw
          case rel =>
            exact ⟨k + 1, by go_num, by omega, by omega, fun j y hj hy => by
              rcases Nat.lt_or_ge j k with h | h
              · exact (unhide HALL) j y h hy
              · obtain rfl : j = k := by omega
                have := (unhide HX).symm.trans hy
                injection this with this
                subst this
                exact unhide HT, unhide HCH⟩
          case measure => simp [intOf]; omega
      · have hki : (k : Int) < (l.length : Int) := by omega
        have hk6 : ¬ (k : Int) < 61 := by omega
        have hl6 : ¬ (l.length : Int) ≤ 60 := by omega
        have HE := hide (unhide HLG (by omega))
        have HCH := hide hch
        clear hall hch
        go_wp2_with fail
        go_ret
        exact ⟨retv (boolv (unhide HE).symm), unhide HCH⟩
    · obtain rfl : k = l.length := by omega
      have hki : ¬ (l.length : Int) < (l.length : Int) := by omega
      have HCH := hide hch
      by_cases h60 : l.length ≤ 60
      · have HE := hide (unhide HYS h60 hall)
        have hl6 : (l.length : Int) ≤ 60 := by omega
        clear hall hch h60
        go_wp2_with fail
        go_ret
        exact ⟨retv (boolv (unhide HE).symm), unhide HCH⟩
      · have HE := hide (unhide HLG (by omega))
        have hl6 : ¬ (l.length : Int) ≤ 60 := by omega
        clear hall hch h60
        go_wp2_with fail
        go_ret
        exact ⟨retv (boolv (unhide HE).symm), unhide HCH⟩
end Go.Proofs.YticnehmgaklhfaaGreatDoor
