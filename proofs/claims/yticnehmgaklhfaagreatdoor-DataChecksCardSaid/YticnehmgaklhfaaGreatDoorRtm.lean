/-
  Layer 10, the document's side: whether names with their types are the same.
-/
import Derived.Test.YticnehmgaklhfaaGreatDoorEb
namespace Go.Proofs.YticnehmgaklhfaaGreatDoor
open Go.RowKit
set_option maxHeartbeats 4000000
set_option maxRecDepth 100000
def sameS : List Sg → List Sg → Bool
  | [], [] => true
  | a :: l, b :: m => decide (a.name = b.name) && sameN a.type b.type && sameS l m
  | _, _ => false
theorem sameS_iff : ∀ {l m : List Sg}, sameS l m = true ↔ l = m
  | [], [] => by simp [sameS]
  | [], b :: m => by simp [sameS]
  | a :: l, [] => by simp [sameS]
  | ⟨n1, t1⟩ :: l, ⟨n2, t2⟩ :: m => by rw [sameS, Bool.and_eq_true, Bool.and_eq_true, decide_eq_true_eq, sameN_iff, sameS_iff, List.cons.injEq, Sg.mk.injEq]
theorem sameS_len {l m : List Sg} (h : l.length ≠ m.length) : sameS l m = false := by
  rw [← Bool.not_eq_true, sameS_iff]
  rintro rfl
  exact h rfl
theorem sameS_name {l m : List Sg} {k : Nat} {x y : Sg} (hx : l[k]? = some x) (hy : m[k]? = some y) (h : ¬ x.name = y.name) : sameS l m = false := by
  rw [← Bool.not_eq_true, sameS_iff]
  rintro rfl
  have := hx.symm.trans hy
  injection this with this
  exact h (by rw [this])
theorem sameS_type {l m : List Sg} {k : Nat} {x y : Sg} (hx : l[k]? = some x) (hy : m[k]? = some y) (h : sameN x.type y.type = false) : sameS l m = false := by
  rw [← Bool.not_eq_true, sameS_iff]
  rintro rfl
  have := hx.symm.trans hy
  injection this with this
  rw [sameN_iff.2 (by rw [this])] at h
  cases h
theorem sameS_all {l m : List Sg} (hl : l.length = m.length) (h : ∀ j, j < l.length → l[j]? = m[j]?) : sameS l m = true := by
  rw [sameS_iff]
  apply List.ext_getElem?
  intro j
  rcases Nat.lt_or_ge j l.length with hj | hj
  · exact h j hj
  · rw [List.getElem?_eq_none_iff.2 hj, List.getElem?_eq_none_iff.2 (by omega)]
theorem sameSigs_any (l m : List Sg) (v1 v2 : Value) (T1 T2 : Nat → Prop) (w : World) (h1 : RdS T1 w v1 l) (h2 : RdS T2 w v2 m) (hn : l.length ≤ 1000000) (_hm : m.length ≤ 1000000) (hln : ∀ x ∈ l, x.type.length ≤ 1000000) (hmn : ∀ x ∈ m, x.type.length ≤ 1000000) :
    Calls Tryz.prog 10 #[v1, v2] w fun e w' => e = .returned (.bool (sameS l m)) ∧ Chg (fun _ => False) w w' := by
  obtain ⟨A1, c1, rfl⟩ := RdR.val h1
  obtain ⟨A2, c2, rfl⟩ := RdR.val h2
  have H1 := hide h1
  have H2 := hide h2
  rcases Decidable.em (l.length = m.length) with hl | hl
  rotate_left
  · have HE := hide (sameS_len hl)
    have hle : ¬ (l.length : Int) = (m.length : Int) := by omega
    generalize sameS l m = E at *
    clear h1 h2 H1 H2
    go_enter Tryz.func10, Tryz.ntmps10
    go_wp2_with fail
    go_ret
    exact ⟨retv (boolv (unhide HE).symm), Chg.refl _ _⟩
  · have HA := hide (sameS_all hl)
    have HD := hide (fun k x y => sameS_name (l := l) (m := m) (k := k) (x := x) (y := y))
    have HT := hide (fun k x y => sameS_type (l := l) (m := m) (k := k) (x := x) (y := y))
    generalize sameS l m = E at *
    have HL := hide hl
    have HLN := hide hln
    have HMN := hide hmn
    have hle : (l.length : Int) = (m.length : Int) := by omega
    clear h1 h2 hl hln hmn
    go_enter Tryz.func10, Tryz.ntmps10
    go_wp2_with fail
    go_loopw [5] (fun i wr => ∃ k : Nat, i = .int .i64 (k : Int) ∧ k ≤ l.length ∧ (∀ j, j < k → l[j]? = m[j]?) ∧ Chg (fun _ => False) w wr) (fun i _ => l.length - (intOf i).toNat)
    case atStart => exact ⟨0, rfl, Nat.zero_le _, fun j h => absurd h (Nat.not_lt_zero _), Chg.refl _ _⟩
    case round =>
      obtain ⟨wq, rfl⟩ : ∃ wq : World, wq = wr := ⟨_, rfl⟩
      obtain ⟨k, rfl, hk, hall, hch⟩ := hrel
      by_cases hlt : k < l.length
      · have hki : (k : Int) < (l.length : Int) := by omega
        have hkm : (k : Int) < (m.length : Int) := by omega
        have hx : l[k]? = some l[k] := List.getElem?_eq_getElem hlt
        have hlm : k < m.length := by omega
        have hy : m[k]? = some m[k] := List.getElem?_eq_getElem hlm
        have hxn := (unhide HLN) l[k] (List.getElem_mem hlt)
        have hyn := (unhide HMN) m[k] (List.getElem_mem hlm)
        generalize l[k] = x at *
        generalize m[k] = y at *
        obtain ⟨b, o, c3, u, hv, _, hru, _, z0, d0⟩ := RdS.at_ (RdS.chg (unhide H1) hch (fun _ _ _ => id)) hx
        obtain ⟨b', o', c3', u', hv', _, hru', _, z1, e0⟩ := RdS.at_ (RdS.chg (unhide H2) hch (fun _ _ _ => id)) hy
        injection hv with hv1 hv2 hv3
        injection hv' with hv1' hv2' hv3'
        subst hv1 hv3 hv1' hv3'
        have HS := hide (fun W (hW : Chg (fun _ => False) wq W) => same_any x.type y.type u u' T1 T2 W (hru.chg hW (fun _ _ _ => id)) (hru'.chg hW (fun _ _ _ => id)) hxn hyn)
        obtain ⟨B, c5, rfl⟩ := hru.val
        obtain ⟨B', c5', rfl⟩ := hru'.val
        have HALL := hide hall
        have HX := hide hx
        have HY := hide hy
        have HCH := hide hch
        have KSW := hide (show ∀ W, Chg (fun _ => False) wq W → W.cell? ⟨b, o + k * 2, none⟩ = some (.string x.name) ∧ W.cell? ⟨b, o + k * 2 + 1, none⟩ = some (.slice B x.type.length c5) ∧ W.cell? ⟨b', o' + k * 2, none⟩ = some (.string y.name) ∧ W.cell? ⟨b', o' + k * 2 + 1, none⟩ = some (.slice B' y.type.length c5') from fun W hW => by
          have f : ∀ {p : Addr} {y : Value}, wq.cell? p = some y → W.cell? p = some y := fun {p y} h => (hW.cell (World.block_lt_of_cell? wq _ h) id).trans h
          exact ⟨f z0, f d0, f z1, f e0⟩)
        have HCQ : Hid (Chg (fun _ => False) wq wq.drew) := hide (Chg.drew (Chg.refl _ _))
        have HKK := hide (unhide KSW _ (unhide HCQ))
        clear hall hx hy hch hv2 hv2' hru hru' d0 e0 z0 z1
        rcases Decidable.em (x.name = y.name) with hnm | hnm
        rotate_left
        · have HE := hide (unhide HD k x y (unhide HX) (unhide HY) hnm)
          have hnb : (x.name.toList == y.name.toList) = false := by
            rw [beq_eq_false_iff_ne]
            exact fun e => hnm (bytes_eq e)
          clear HALL HX HY HS
          obtain ⟨z0, d0, z1, e0⟩ := unhide KSW _ (Chg.refl _ _)
          go_wp2_with fail
          go_quiet (fail)
          go_wp2_with fail
          go_ret
          exact ⟨retv (boolv (unhide HE).symm), (unhide HCH).drewN _⟩
        · have hnb : (x.name.toList == y.name.toList) = true := by rw [hnm]; exact beq_self_eq_true _
          have HNM := hide hnm
          clear hnm
          cases hq : sameN x.type y.type
          · have HE := hide (unhide HT k x y (unhide HX) (unhide HY) hq)
            rw [hq] at HS
            clear hq HALL HX HY
            go_wp2_with fail
            go_region_held3 (fun W => W.cell? ⟨b, o + k * 2, none⟩ = some (.string x.name) ∧ W.cell? ⟨b, o + k * 2 + 1, none⟩ = some (.slice B x.type.length c5) ∧ W.cell? ⟨b', o' + k * 2, none⟩ = some (.string y.name) ∧ W.cell? ⟨b', o' + k * 2 + 1, none⟩ = some (.slice B' y.type.length c5')) (first | exact unhide HKK | go_keep) (first
              | (go_at_call 15; (with_reducible refine (unhide HS _ (unhide HCQ)).mono ?_); rintro e w2 ⟨rfl, hc2⟩; have HN_ := hide ((unhide HCQ).trans' hc2); clear HCQ; have HCQ := HN_; clear HN_ HKK; have HKK := hide (unhide KSW _ (unhide HCQ)); clear hc2))
            go_wp2_with fail
            go_ret
            exact ⟨retv (boolv (unhide HE).symm), (unhide HCH).trans' (unhide HCQ)⟩
          · have HE := hide (sameN_iff.1 hq)
            rw [hq] at HS
            clear hq
            go_wp2_with fail
            go_region_held3 (fun W => W.cell? ⟨b, o + k * 2, none⟩ = some (.string x.name) ∧ W.cell? ⟨b, o + k * 2 + 1, none⟩ = some (.slice B x.type.length c5) ∧ W.cell? ⟨b', o' + k * 2, none⟩ = some (.string y.name) ∧ W.cell? ⟨b', o' + k * 2 + 1, none⟩ = some (.slice B' y.type.length c5')) (first | exact unhide HKK | go_keep) (first
              | (go_at_call 15; (with_reducible refine (unhide HS _ (unhide HCQ)).mono ?_); rintro e w2 ⟨rfl, hc2⟩; have HN_ := hide ((unhide HCQ).trans' hc2); clear HCQ; have HCQ := HN_; clear HN_ HKK; have HKK := hide (unhide KSW _ (unhide HCQ)); clear hc2))
            go_wp2_with fail
            go_roundw
            case rel =>
              exact ⟨k + 1, by go_num, by omega, fun j hj => by
                rcases Nat.lt_or_ge j k with h | h
                · exact (unhide HALL) j h
                · obtain rfl : j = k := by omega
                  rw [unhide HX, unhide HY]
                  have e1 := unhide HNM
                  have e2 := unhide HE
                  cases x
                  cases y
                  simp only at e1 e2
                  rw [e1, e2], (unhide HCH).trans' (unhide HCQ)⟩
            case measure => simp [intOf]; omega
      · obtain rfl : k = l.length := by omega
        have hki : ¬ (l.length : Int) < (l.length : Int) := by omega
        have HF := hide (unhide HA hall)
        have HCH := hide hch
        clear hall hch
        go_wp2_with fail
        go_ret
        exact ⟨retv (boolv (unhide HF).symm), unhide HCH⟩
end Go.Proofs.YticnehmgaklhfaaGreatDoor
