/-
  Layer 10, the document's side: whether names with their types are the same. Layer 23: the document's side: whether interfaces are the same.
-/
import Derived.Test.YtinekmjengckdaaGreatDoorA28
import Derived.Test.YtinekmjengckdaaGreatDoorA38
import Derived.Test.YtinekmjengckdaaGreatDoorA29
namespace Go.Proofs.YtinekmjengckdaaGreatDoor
open Go.RowKit
set_option maxHeartbeats 4000000
set_option maxRecDepth 100000
def sameS : List Sg → List Sg → Bool
  | [], [] => true
  | a :: l, b :: m => decide (a.name = b.name) && sameN a.type b.type && sameS l m
  | _, _ => false
theorem sameS_iff : ∀ {l m : List Sg}, sameS l m = true ↔ l = m
  | [], [] => by simp [sameS]
  | [], b :: m => by simp [sameS]
  | a :: l, [] => by simp [sameS]
  | ⟨n1, t1⟩ :: l, ⟨n2, t2⟩ :: m => by rw [sameS, Bool.and_eq_true, Bool.and_eq_true, decide_eq_true_eq, sameN_iff, sameS_iff, List.cons.injEq, Sg.mk.injEq]
theorem sameS_len {l m : List Sg} (h : l.length ≠ m.length) : sameS l m = false := by
  rw [← Bool.not_eq_true, sameS_iff]
  rintro rfl
  exact h rfl
theorem sameS_name {l m : List Sg} {k : Nat} {x y : Sg} (hx : l[k]? = some x) (hy : m[k]? = some y) (h : ¬ x.name = y.name) : sameS l m = false := by
  rw [← Bool.not_eq_true, sameS_iff]
  rintro rfl
  have := hx.symm.trans hy
  injection this with this
  exact h (by rw [this])
theorem sameS_type {l m : List Sg} {k : Nat} {x y : Sg} (hx : l[k]? = some x) (hy : m[k]? = some y) (h : sameN x.type y.type = false) : sameS l m = false := by
  rw [← Bool.not_eq_true, sameS_iff]
  rintro rfl
  have := hx.symm.trans hy
  injection this with this
  rw [sameN_iff.2 (by rw [this])] at h
  cases h
theorem sameS_all {l m : List Sg} (hl : l.length = m.length) (h : ∀ j, j < l.length → l[j]? = m[j]?) : sameS l m = true := by
  rw [sameS_iff]
  apply List.ext_getElem?
  intro j
  rcases Nat.lt_or_ge j l.length with hj | hj
  · exact h j hj
  · rw [List.getElem?_eq_none_iff.2 hj, List.getElem?_eq_none_iff.2 (by omega)]
theorem sameSigs_any (l m : List Sg) (v1 v2 : Value) (T1 T2 : Nat → Prop) (w : World) (h1 : RdS T1 w v1 l) (h2 : RdS T2 w v2 m) (hn : l.length ≤ 1000000) (_hm : m.length ≤ 1000000) (hln : ∀ x ∈ l, x.type.length ≤ 1000000) (hmn : ∀ x ∈ m, x.type.length ≤ 1000000) :
    Calls Tryz.prog 37 #[v1, v2] w fun e w' => e = .returned (.bool (sameS l m)) ∧ Chg (fun _ => False) w w' := by
  obtain ⟨A1, c1, rfl⟩ := RdR.val h1
  obtain ⟨A2, c2, rfl⟩ := RdR.val h2
  have H1 := hH h1
  have H2 := hH h2
  rcases Decidable.em (l.length = m.length) with hl | hl
  rotate_left
  · have HE := hH (sameS_len hl)
    have hle : ¬ (l.length : Int) = (m.length : Int) := by omega
    generalize sameS l m = E at *
    clear h1 h2 H1 H2
    go_enter Tryz.func37, Tryz.ntmps37
    go_wp2_with fail
    go_ret
    exact ⟨retv (boolv (uH HE).symm), Chg.refl _ _⟩
  · have HA := hH (sameS_all hl)
    have HD := hH (fun k x y => sameS_name (l := l) (m := m) (k := k) (x := x) (y := y))
    have HT := hH (fun k x y => sameS_type (l := l) (m := m) (k := k) (x := x) (y := y))
    generalize sameS l m = E at *
    have HL := hH hl
    have HLN := hH hln
    have HMN := hH hmn
    have hle : (l.length : Int) = (m.length : Int) := by omega
    clear h1 h2 hl hln hmn
    go_enter Tryz.func37, Tryz.ntmps37
    go_wp2_with fail
    go_loopw [5] (fun i wr => ∃ k : Nat, i = .int .i64 (k : Int) ∧ k ≤ l.length ∧ (∀ j, j < k → l[j]? = m[j]?) ∧ Chg (fun _ => False) w wr) (fun i _ => l.length - (intOf i).toNat)
    case atStart => exact ⟨0, rfl, Nat.zero_le _, fun j h => absurd h (Nat.not_lt_zero _), Chg.refl _ _⟩
    case round =>
      obtain ⟨wq, rfl⟩ : ∃ wq : World, wq = wr := ⟨_, rfl⟩
      obtain ⟨k, rfl, hk, hall, hch⟩ := hrel
      by_cases hlt : k < l.length
      · have hki : (k : Int) < (l.length : Int) := by omega
        have hkm : (k : Int) < (m.length : Int) := by omega
        have hx : l[k]? = some l[k] := List.getElem?_eq_getElem hlt
        have hlm : k < m.length := by omega
        have hy : m[k]? = some m[k] := List.getElem?_eq_getElem hlm
        have hxn := (uH HLN) l[k] (List.getElem_mem hlt)
        have hyn := (uH HMN) m[k] (List.getElem_mem hlm)
        generalize l[k] = x at *
        generalize m[k] = y at *
        obtain ⟨b, o, c3, u, hv, _, hru, _, z0, d0⟩ := RdS.at_ (RdS.chg (uH H1) hch (fun _ _ _ => id)) hx
        obtain ⟨b', o', c3', u', hv', _, hru', _, z1, e0⟩ := RdS.at_ (RdS.chg (uH H2) hch (fun _ _ _ => id)) hy
        injection hv with hv1 hv2 hv3
        injection hv' with hv1' hv2' hv3'
        subst hv1 hv3 hv1' hv3'
        have HS := hH (fun W (hW : Chg (fun _ => False) wq W) => same_any x.type y.type u u' T1 T2 W (hru.chg hW (fun _ _ _ => id)) (hru'.chg hW (fun _ _ _ => id)) hxn hyn)
        obtain ⟨B, c5, rfl⟩ := hru.val
        obtain ⟨B', c5', rfl⟩ := hru'.val
        have HALL := hH hall
        have HX := hH hx
        have HY := hH hy
        have HCH := hH hch
        have KSW := hH (show ∀ W, Chg (fun _ => False) wq W → W.cell? ⟨b, o + k * 2, none⟩ = some (.string x.name) ∧ W.cell? ⟨b, o + k * 2 + 1, none⟩ = some (.slice B x.type.length c5) ∧ W.cell? ⟨b', o' + k * 2, none⟩ = some (.string y.name) ∧ W.cell? ⟨b', o' + k * 2 + 1, none⟩ = some (.slice B' y.type.length c5') from fun W hW => by
          have f : ∀ {p : Addr} {y : Value}, wq.cell? p = some y → W.cell? p = some y := fun {p y} h => (hW.cell (World.block_lt_of_cell? wq _ h) id).trans h
          exact ⟨f z0, f d0, f z1, f e0⟩)
        have HCQ : Hid (Chg (fun _ => False) wq wq.drew) := hH (Chg.drew (Chg.refl _ _))
        have HKK := hH (uH KSW _ (uH HCQ))
        clear hall hx hy hch hv2 hv2' hru hru' d0 e0 z0 z1
        rcases Decidable.em (x.name = y.name) with hnm | hnm
        rotate_left
        · have HE := hH (uH HD k x y (uH HX) (uH HY) hnm)
          have hnb : (x.name.toList == y.name.toList) = false := by
            rw [beq_eq_false_iff_ne]
            exact fun e => hnm (bytes_eq e)
          clear HALL HX HY HS
          obtain ⟨z0, d0, z1, e0⟩ := uH KSW _ (Chg.refl _ _)
          go_wp2_with fail
          go_quiet (fail)
          go_wp2_with fail
          go_ret
          exact ⟨retv (boolv (uH HE).symm), (uH HCH).drewN _⟩
        · have hnb : (x.name.toList == y.name.toList) = true := by rw [hnm]; exact beq_self_eq_true _
          have HNM := hH hnm
          clear hnm
          cases hq : sameN x.type y.type
          · have HE := hH (uH HT k x y (uH HX) (uH HY) hq)
            rw [hq] at HS
            clear hq HALL HX HY
            go_wp2_with fail
            go_region_held3 (fun W => W.cell? ⟨b, o + k * 2, none⟩ = some (.string x.name) ∧ W.cell? ⟨b, o + k * 2 + 1, none⟩ = some (.slice B x.type.length c5) ∧ W.cell? ⟨b', o' + k * 2, none⟩ = some (.string y.name) ∧ W.cell? ⟨b', o' + k * 2 + 1, none⟩ = some (.slice B' y.type.length c5')) (first | exact uH HKK | go_keep) (first
              | (go_at_call 43; (with_reducible refine (uH HS _ (uH HCQ)).mono ?_); rintro e w2 ⟨rfl, hc2⟩; have HN_ := hH ((uH HCQ).trans' hc2); clear HCQ; have HCQ := HN_; clear HN_ HKK; have HKK := hH (uH KSW _ (uH HCQ)); clear hc2))
            go_wp2_with fail
            go_ret
            exact ⟨retv (boolv (uH HE).symm), (uH HCH).trans' (uH HCQ)⟩
          · have HE := hH (sameN_iff.1 hq)
            rw [hq] at HS
            clear hq
            go_wp2_with fail
            go_region_held3 (fun W => W.cell? ⟨b, o + k * 2, none⟩ = some (.string x.name) ∧ W.cell? ⟨b, o + k * 2 + 1, none⟩ = some (.slice B x.type.length c5) ∧ W.cell? ⟨b', o' + k * 2, none⟩ = some (.string y.name) ∧ W.cell? ⟨b', o' + k * 2 + 1, none⟩ = some (.slice B' y.type.length c5')) (first | exact uH HKK | go_keep) (first
              | (go_at_call 43; (with_reducible refine (uH HS _ (uH HCQ)).mono ?_); rintro e w2 ⟨rfl, hc2⟩; have HN_ := hH ((uH HCQ).trans' hc2); clear HCQ; have HCQ := HN_; clear HN_ HKK; have HKK := hH (uH KSW _ (uH HCQ)); clear hc2))
            go_wp2_with fail
            go_roundw
            case rel =>
              exact ⟨k + 1, by go_num, by omega, fun j hj => by
                rcases Nat.lt_or_ge j k with h | h
                · exact (uH HALL) j h
                · obtain rfl : j = k := by omega
                  rw [uH HX, uH HY]
                  have e1 := uH HNM
                  have e2 := uH HE
                  cases x
                  cases y
                  simp only at e1 e2
                  rw [e1, e2], (uH HCH).trans' (uH HCQ)⟩
            case measure => simp [intOf]; omega
      · obtain rfl : k = l.length := by omega
        have hki : ¬ (l.length : Int) < (l.length : Int) := by omega
        have HF := hH (uH HA hall)
        have HCH := hH hch
        clear hall hch
        go_wp2_with fail
        go_ret
        exact ⟨retv (boolv (uH HF).symm), uH HCH⟩
end Go.Proofs.YtinekmjengckdaaGreatDoor

namespace Go.Proofs.YtinekmjengckdaaGreatDoor
open Go.RowKit
set_option maxHeartbeats 4000000
set_option maxRecDepth 100000
theorem ifS_ne {i j : Ifc} (h : i ≠ j) : ifS i j = false := by
  rw [← Bool.not_eq_true, ifS_iff]
  exact h
theorem at_ne {α : Type} {l m : List α} {k : Nat} {x y : α} (hx : l[k]? = some x) (hy : m[k]? = some y) (h : ¬ x = y) : l ≠ m := by
  rintro rfl
  have := hx.symm.trans hy
  injection this with this
  exact h this
theorem at_eq {α : Type} {l m : List α} (hl : l.length = m.length) (h : ∀ j, j < l.length → l[j]? = m[j]?) : l = m := by
  apply List.ext_getElem?
  intro j
  rcases Nat.lt_or_ge j l.length with hj | hj
  · exact h j hj
  · rw [List.getElem?_eq_none_iff.2 hj, List.getElem?_eq_none_iff.2 (by omega)]
theorem refSame_any (i j : Ifc) (vo vd vf vs vo' vd' vf' vs' : Value) (T1 T2 : Nat → Prop) (w : World) (h1 : RdIf T1 w i vo vd vf vs) (h2 : RdIf T2 w j vo' vd' vf' vs') (l1 : IfL i) (l2 : IfL j) :
    Calls Tryz.prog 14 #[.agg #[.string i.name, vo, vd, vf, vs], .agg #[.string j.name, vo', vd', vf', vs']] w fun e w' => e = .returned (.bool (ifS i j)) ∧ Chg (fun _ => False) w w' := by
  obtain ⟨A1, a1, rfl⟩ := RdR.val h1.opens
  obtain ⟨A2, a2, rfl⟩ := RdR.val h1.datas
  obtain ⟨A3, a3, rfl⟩ := RdR.val h1.fixes
  obtain ⟨A4, a4, rfl⟩ := RdR.val h1.sigs
  obtain ⟨B1, b1, rfl⟩ := RdR.val h2.opens
  obtain ⟨B2, b2, rfl⟩ := RdR.val h2.datas
  obtain ⟨B3, b3, rfl⟩ := RdR.val h2.fixes
  obtain ⟨B4, b4, rfl⟩ := RdR.val h2.sigs
  have h0 : Chg (fun _ => False) w ((w.alloc (.cells #[.string i.name, .slice A1 i.opens.length a1, .slice A2 i.datas.length a2, .slice A3 i.fixes.length a3, .slice A4 i.sigs.length a4] 27)).alloc (.cells #[.string j.name, .slice B1 j.opens.length b1, .slice B2 j.datas.length b2, .slice B3 j.fixes.length b3, .slice B4 j.sigs.length b4] 27)) := ((Chg.refl _ w).alloc _).alloc _
  have hb1 : Blk ((w.alloc (.cells #[.string i.name, .slice A1 i.opens.length a1, .slice A2 i.datas.length a2, .slice A3 i.fixes.length a3, .slice A4 i.sigs.length a4] 27)).alloc (.cells #[.string j.name, .slice B1 j.opens.length b1, .slice B2 j.datas.length b2, .slice B3 j.fixes.length b3, .slice B4 j.sigs.length b4] 27)) w.heap.size 27 #[.string i.name, .slice A1 i.opens.length a1, .slice A2 i.datas.length a2, .slice A3 i.fixes.length a3, .slice A4 i.sigs.length a4] := (Blk.new w _ _).alloc _
  have hb2 : Blk ((w.alloc (.cells #[.string i.name, .slice A1 i.opens.length a1, .slice A2 i.datas.length a2, .slice A3 i.fixes.length a3, .slice A4 i.sigs.length a4] 27)).alloc (.cells #[.string j.name, .slice B1 j.opens.length b1, .slice B2 j.datas.length b2, .slice B3 j.fixes.length b3, .slice B4 j.sigs.length b4] 27)) (w.heap.size + 1) 27 #[.string j.name, .slice B1 j.opens.length b1, .slice B2 j.datas.length b2, .slice B3 j.fixes.length b3, .slice B4 j.sigs.length b4] := Blk.new_at (w.alloc (.cells #[.string i.name, .slice A1 i.opens.length a1, .slice A2 i.datas.length a2, .slice A3 i.fixes.length a3, .slice A4 i.sigs.length a4] 27)) _ _ _ (by rw [size_alloc])
  have KSW := hH (fun W' (hW : Chg (fun _ => False) ((w.alloc (.cells #[.string i.name, .slice A1 i.opens.length a1, .slice A2 i.datas.length a2, .slice A3 i.fixes.length a3, .slice A4 i.sigs.length a4] 27)).alloc (.cells #[.string j.name, .slice B1 j.opens.length b1, .slice B2 j.datas.length b2, .slice B3 j.fixes.length b3, .slice B4 j.sigs.length b4] 27)) W') => show W'.cell? ⟨w.heap.size, 0, none⟩ = some (.string i.name) ∧ W'.cell? ⟨w.heap.size, 1, none⟩ = some (.slice A1 i.opens.length a1) ∧ W'.cell? ⟨w.heap.size, 2, none⟩ = some (.slice A2 i.datas.length a2) ∧ W'.cell? ⟨w.heap.size, 3, none⟩ = some (.slice A3 i.fixes.length a3) ∧ W'.cell? ⟨w.heap.size, 4, none⟩ = some (.slice A4 i.sigs.length a4) ∧ W'.cell? ⟨w.heap.size + 1, 0, none⟩ = some (.string j.name) ∧ W'.cell? ⟨w.heap.size + 1, 1, none⟩ = some (.slice B1 j.opens.length b1) ∧ W'.cell? ⟨w.heap.size + 1, 2, none⟩ = some (.slice B2 j.datas.length b2) ∧ W'.cell? ⟨w.heap.size + 1, 3, none⟩ = some (.slice B3 j.fixes.length b3) ∧ W'.cell? ⟨w.heap.size + 1, 4, none⟩ = some (.slice B4 j.sigs.length b4) from ⟨(hb1.chg hW id).cell 0, (hb1.chg hW id).cell 1, (hb1.chg hW id).cell 2, (hb1.chg hW id).cell 3, (hb1.chg hW id).cell 4, (hb2.chg hW id).cell 0, (hb2.chg hW id).cell 1, (hb2.chg hW id).cell 2, (hb2.chg hW id).cell 3, (hb2.chg hW id).cell 4⟩)
  have HQ1 := hH (fun W (hW : Chg (fun _ => False) ((w.alloc (.cells #[.string i.name, .slice A1 i.opens.length a1, .slice A2 i.datas.length a2, .slice A3 i.fixes.length a3, .slice A4 i.sigs.length a4] 27)).alloc (.cells #[.string j.name, .slice B1 j.opens.length b1, .slice B2 j.datas.length b2, .slice B3 j.fixes.length b3, .slice B4 j.sigs.length b4] 27)) W) => refDatas_any i.datas j.datas _ _ T1 T2 W (h1.datas.chg (h0.trans' hW) (fun _ _ _ => id)) (h2.datas.chg (h0.trans' hW) (fun _ _ _ => id)) l1.datas l2.datas l1.data_ l2.data_)
  have HQ2 := hH (fun W (hW : Chg (fun _ => False) ((w.alloc (.cells #[.string i.name, .slice A1 i.opens.length a1, .slice A2 i.datas.length a2, .slice A3 i.fixes.length a3, .slice A4 i.sigs.length a4] 27)).alloc (.cells #[.string j.name, .slice B1 j.opens.length b1, .slice B2 j.datas.length b2, .slice B3 j.fixes.length b3, .slice B4 j.sigs.length b4] 27)) W) => sameSigs_any i.sigs j.sigs _ _ T1 T2 W (h1.sigs.rd.chg (h0.trans' hW) (fun _ _ _ => id)) (h2.sigs.rd.chg (h0.trans' hW) (fun _ _ _ => id)) l1.sigs l2.sigs l1.sig_ l2.sig_)
  have HO1 := hH (fun W (hW : Chg (fun _ => False) ((w.alloc (.cells #[.string i.name, .slice A1 i.opens.length a1, .slice A2 i.datas.length a2, .slice A3 i.fixes.length a3, .slice A4 i.sigs.length a4] 27)).alloc (.cells #[.string j.name, .slice B1 j.opens.length b1, .slice B2 j.datas.length b2, .slice B3 j.fixes.length b3, .slice B4 j.sigs.length b4] 27)) W) => h1.opens.chg (h0.trans' hW) (fun _ _ _ => id))
  have HO2 := hH (fun W (hW : Chg (fun _ => False) ((w.alloc (.cells #[.string i.name, .slice A1 i.opens.length a1, .slice A2 i.datas.length a2, .slice A3 i.fixes.length a3, .slice A4 i.sigs.length a4] 27)).alloc (.cells #[.string j.name, .slice B1 j.opens.length b1, .slice B2 j.datas.length b2, .slice B3 j.fixes.length b3, .slice B4 j.sigs.length b4] 27)) W) => h2.opens.chg (h0.trans' hW) (fun _ _ _ => id))
  have HF1 := hH (fun W (hW : Chg (fun _ => False) ((w.alloc (.cells #[.string i.name, .slice A1 i.opens.length a1, .slice A2 i.datas.length a2, .slice A3 i.fixes.length a3, .slice A4 i.sigs.length a4] 27)).alloc (.cells #[.string j.name, .slice B1 j.opens.length b1, .slice B2 j.datas.length b2, .slice B3 j.fixes.length b3, .slice B4 j.sigs.length b4] 27)) W) => h1.fixes.chg (h0.trans' hW) (fun _ _ _ => id))
  have HF2 := hH (fun W (hW : Chg (fun _ => False) ((w.alloc (.cells #[.string i.name, .slice A1 i.opens.length a1, .slice A2 i.datas.length a2, .slice A3 i.fixes.length a3, .slice A4 i.sigs.length a4] 27)).alloc (.cells #[.string j.name, .slice B1 j.opens.length b1, .slice B2 j.datas.length b2, .slice B3 j.fixes.length b3, .slice B4 j.sigs.length b4] 27)) W) => h2.fixes.chg (h0.trans' hW) (fun _ _ _ => id))
  have HD := hH (Chg.refl (fun _ => False) ((w.alloc (.cells #[.string i.name, .slice A1 i.opens.length a1, .slice A2 i.datas.length a2, .slice A3 i.fixes.length a3, .slice A4 i.sigs.length a4] 27)).alloc (.cells #[.string j.name, .slice B1 j.opens.length b1, .slice B2 j.datas.length b2, .slice B3 j.fixes.length b3, .slice B4 j.sigs.length b4] 27)))
  (obtain ⟨q0, q1, q2, q3, q4, r0, r1, r2, r3, r4⟩ := uH KSW _ (uH HD))
  have H0 := hH h0
  have hob := l1.opens
  have hfb := l1.fixes
  have HNE := hH (fun h : i ≠ j => ifS_ne h)
  have HYE := hH (fun h : i = j => (ifS_iff i j).2 h)
  generalize ifS i j = E at *
  clear hb1 hb2 h1 h2 l1 l2 h0
  cases hn : i.name.toList == j.name.toList
  · have HE := hH (uH HNE (fun e => by rw [e] at hn; simp at hn))
    go_enter Tryz.func14, Tryz.ntmps14
    go_wp2_with fail
    go_ret
    exact ⟨retv (boolv (uH HE).symm), (uH H0).trans' (uH HD)⟩
  · have HN := hH (bytes_eq (eq_of_beq hn))
    by_cases hol : i.opens.length = j.opens.length
    rotate_left
    · have HE := hH (uH HNE (fun e => hol (by rw [e])))
      have hoi : ¬ (i.opens.length : Int) = (j.opens.length : Int) := by omega
      clear hol
      go_enter Tryz.func14, Tryz.ntmps14
      go_wp2_with fail
      go_ret
      exact ⟨retv (boolv (uH HE).symm), (uH H0).trans' (uH HD)⟩
    · have hoi : (i.opens.length : Int) = (j.opens.length : Int) := by omega
      have HOL := hH hol
      clear hol
      by_cases hfl : i.fixes.length = j.fixes.length
      rotate_left
      · have HE := hH (uH HNE (fun e => hfl (by rw [e])))
        have hfi : ¬ (i.fixes.length : Int) = (j.fixes.length : Int) := by omega
        clear hfl
        go_enter Tryz.func14, Tryz.ntmps14
        go_wp2_with fail
        go_ret
        exact ⟨retv (boolv (uH HE).symm), (uH H0).trans' (uH HD)⟩
      · have hfi : (i.fixes.length : Int) = (j.fixes.length : Int) := by omega
        have HFL := hH hfl
        clear hfl
        cases hds : sameBy dtS i.datas j.datas
        · have HE := hH (uH HNE (fun e => by rw [e, (sameBy_iff _ dtS_iff).2 rfl] at hds; cases hds))
          rw [hds] at HQ1
          clear hds
          go_enter Tryz.func14, Tryz.ntmps14
          go_wp2_with (first
            | (go_at_call 36; (with_reducible refine (uH HQ1 _ (uH HD)).mono ?_); rintro e w4 ⟨rfl, hc2⟩; replace HD := hH ((uH HD).trans' hc2); clear hc2; clear q0 q1 q2 q3 q4 r0 r1 r2 r3 r4; (obtain ⟨q0, q1, q2, q3, q4, r0, r1, r2, r3, r4⟩ := uH KSW _ (uH HD))))
          go_ret
          exact ⟨retv (boolv (uH HE).symm), (uH H0).trans' (uH HD)⟩
        · have HDS := hH ((sameBy_iff _ dtS_iff).1 hds)
          rw [hds] at HQ1
          clear hds
          cases hss : sameS i.sigs j.sigs
          · have HE := hH (uH HNE (fun e => by rw [e, sameS_iff.2 rfl] at hss; cases hss))
            rw [hss] at HQ2
            clear hss
            go_enter Tryz.func14, Tryz.ntmps14
            go_wp2_with (first
              | (go_at_call 36; (with_reducible refine (uH HQ1 _ (uH HD)).mono ?_); rintro e w4 ⟨rfl, hc2⟩; replace HD := hH ((uH HD).trans' hc2); clear hc2; clear q0 q1 q2 q3 q4 r0 r1 r2 r3 r4; (obtain ⟨q0, q1, q2, q3, q4, r0, r1, r2, r3, r4⟩ := uH KSW _ (uH HD)))
              | (go_at_call 37; (with_reducible refine (uH HQ2 _ (uH HD)).mono ?_); rintro e w5 ⟨rfl, hc2⟩; replace HD := hH ((uH HD).trans' hc2); clear hc2; clear q0 q1 q2 q3 q4 r0 r1 r2 r3 r4; (obtain ⟨q0, q1, q2, q3, q4, r0, r1, r2, r3, r4⟩ := uH KSW _ (uH HD))))
            go_ret
            exact ⟨retv (boolv (uH HE).symm), (uH H0).trans' (uH HD)⟩
          · have HSS := hH (sameS_iff.1 hss)
            rw [hss] at HQ2
            clear hss
            go_enter Tryz.func14, Tryz.ntmps14
            go_upto_region 3 with (first
              | (go_at_call 36; (with_reducible refine (uH HQ1 _ (uH HD)).mono ?_); rintro e w4 ⟨rfl, hc2⟩; replace HD := hH ((uH HD).trans' hc2); clear hc2; clear q0 q1 q2 q3 q4 r0 r1 r2 r3 r4; (obtain ⟨q0, q1, q2, q3, q4, r0, r1, r2, r3, r4⟩ := uH KSW _ (uH HD)))
              | (go_at_call 37; (with_reducible refine (uH HQ2 _ (uH HD)).mono ?_); rintro e w5 ⟨rfl, hc2⟩; replace HD := hH ((uH HD).trans' hc2); clear hc2; clear q0 q1 q2 q3 q4 r0 r1 r2 r3 r4; (obtain ⟨q0, q1, q2, q3, q4, r0, r1, r2, r3, r4⟩ := uH KSW _ (uH HD))))
            clear HQ1 HQ2 q0 q1 q2 q3 q4 r0 r1 r2 r3 r4
            go_wp2_with fail
            go_loopw [5] (fun t wr => ∃ k : Nat, t = .int .i64 (k : Int) ∧ k ≤ i.opens.length ∧ (∀ n, n < k → i.opens[n]? = j.opens[n]?) ∧ Chg (fun _ => False) ((w.alloc (.cells #[.string i.name, .slice A1 i.opens.length a1, .slice A2 i.datas.length a2, .slice A3 i.fixes.length a3, .slice A4 i.sigs.length a4] 27)).alloc (.cells #[.string j.name, .slice B1 j.opens.length b1, .slice B2 j.datas.length b2, .slice B3 j.fixes.length b3, .slice B4 j.sigs.length b4] 27)) wr) (fun t _ => i.opens.length - (intOf t).toNat)
            case atStart => exact ⟨0, rfl, Nat.zero_le _, fun n h => absurd h (Nat.not_lt_zero _), uH HD⟩
            case round =>
              obtain ⟨wq, rfl⟩ : ∃ wq : World, wq = wr := ⟨_, rfl⟩
              obtain ⟨k, rfl, hk, hall, hch⟩ := hrel
              obtain ⟨q0, q1, q2, q3, q4, r0, r1, r2, r3, r4⟩ := uH KSW _ hch
              by_cases hlt : k < i.opens.length
              · have hki : (k : Int) < (i.opens.length : Int) := by omega
                have hkm : (k : Int) < (j.opens.length : Int) := by omega
                have hx : i.opens[k]? = some i.opens[k] := List.getElem?_eq_getElem hlt
                have hlm : k < j.opens.length := by omega
                have hy : j.opens[k]? = some j.opens[k] := List.getElem?_eq_getElem hlm
                generalize i.opens[k] = x at *
                generalize j.opens[k] = y at *
                obtain ⟨b, o, c3, hv, _, _, d0, d1⟩ := RdO.at_ (uH HO1 _ hch) hx
                obtain ⟨b', o', c3', hv', _, _, e0, e1⟩ := RdO.at_ (uH HO2 _ hch) hy
                injection hv with hv1 hv2 hv3
                injection hv' with hv1' hv2' hv3'
                subst hv1 hv3 hv1' hv3'
                have HALL := hH hall
                have HX := hH hx
                have HY := hH hy
                have HCH := hH hch
                clear hall hx hy hch hv2 hv2'
                have qn := fun w : World => run_neq_opn x y w
                cases hq : Opn.same x y
                · have HE := hH (uH HNE (fun e => at_ne (l := i.opens) (m := j.opens) (uH HX) (uH HY) (fun e2 => by rw [(Opn.same_iff x y).2 e2] at hq; cases hq) (by rw [e])))
                  rw [hq] at qn
                  clear hq HALL HX HY
                  go_wp2_with fail
                  go_quiet (fail)
                  go_wp2_with fail
                  go_ret
                  exact ⟨retv (boolv (uH HE).symm), (uH H0).trans' ((uH HCH).drewN _)⟩
                · rw [hq] at qn
                  have HQ := hH ((Opn.same_iff x y).1 hq)
                  clear hq
                  go_wp2_with fail
                  go_quiet (fail)
                  go_wp2_with fail
                  go_roundw
                  case rel =>
                    exact ⟨k + 1, by go_num, by omega, fun n hn => by
                      rcases Nat.lt_or_ge n k with h | h
                      · exact (uH HALL) n h
                      · obtain rfl : n = k := by omega
                        rw [uH HX, uH HY, uH HQ], (uH HCH).drewN _⟩
                  case measure => simp [intOf]; omega
              · obtain rfl : k = i.opens.length := by omega
                have hki : ¬ (i.opens.length : Int) < (i.opens.length : Int) := by omega
                have HALLopens := hH (at_eq (uH HOL) hall)
                have HDopens := hH hch
                clear hall hch
                go_wp2_with fail
                go_loopw [6] (fun t wr => ∃ k : Nat, t = .int .i64 (k : Int) ∧ k ≤ i.fixes.length ∧ (∀ n, n < k → i.fixes[n]? = j.fixes[n]?) ∧ Chg (fun _ => False) ((w.alloc (.cells #[.string i.name, .slice A1 i.opens.length a1, .slice A2 i.datas.length a2, .slice A3 i.fixes.length a3, .slice A4 i.sigs.length a4] 27)).alloc (.cells #[.string j.name, .slice B1 j.opens.length b1, .slice B2 j.datas.length b2, .slice B3 j.fixes.length b3, .slice B4 j.sigs.length b4] 27)) wr) (fun t _ => i.fixes.length - (intOf t).toNat)
                case atStart => exact ⟨0, rfl, Nat.zero_le _, fun n h => absurd h (Nat.not_lt_zero _), uH HDopens⟩
                case round =>
                  obtain ⟨wq, rfl⟩ : ∃ wq : World, wq = wr := ⟨_, rfl⟩
                  obtain ⟨k, rfl, hk, hall, hch⟩ := hrel
                  obtain ⟨q0, q1, q2, q3, q4, r0, r1, r2, r3, r4⟩ := uH KSW _ hch
                  by_cases hlt : k < i.fixes.length
                  · have hki : (k : Int) < (i.fixes.length : Int) := by omega
                    have hkm : (k : Int) < (j.fixes.length : Int) := by omega
                    have hx : i.fixes[k]? = some i.fixes[k] := List.getElem?_eq_getElem hlt
                    have hlm : k < j.fixes.length := by omega
                    have hy : j.fixes[k]? = some j.fixes[k] := List.getElem?_eq_getElem hlm
                    generalize i.fixes[k] = x at *
                    generalize j.fixes[k] = y at *
                    obtain ⟨b, o, c3, hv, _, _, d0, d1, d2⟩ := RdF.at_ (uH HF1 _ hch) hx
                    obtain ⟨b', o', c3', hv', _, _, e0, e1, e2⟩ := RdF.at_ (uH HF2 _ hch) hy
                    injection hv with hv1 hv2 hv3
                    injection hv' with hv1' hv2' hv3'
                    subst hv1 hv3 hv1' hv3'
                    have HALL := hH hall
                    have HX := hH hx
                    have HY := hH hy
                    have HCH := hH hch
                    clear hall hx hy hch hv2 hv2'
                    have qn := fun w : World => run_neq_fxs x y w
                    cases hq : Fx.same x y
                    · have HE := hH (uH HNE (fun e => at_ne (l := i.fixes) (m := j.fixes) (uH HX) (uH HY) (fun e2 => by rw [(Fx.same_iff x y).2 e2] at hq; cases hq) (by rw [e])))
                      rw [hq] at qn
                      clear hq HALL HX HY
                      go_wp2_with fail
                      go_quiet (fail)
                      go_wp2_with fail
                      go_ret
                      exact ⟨retv (boolv (uH HE).symm), (uH H0).trans' ((uH HCH).drewN _)⟩
                    · rw [hq] at qn
                      have HQ := hH ((Fx.same_iff x y).1 hq)
                      clear hq
                      go_wp2_with fail
                      go_quiet (fail)
                      go_wp2_with fail
                      go_roundw
                      case rel =>
                        exact ⟨k + 1, by go_num, by omega, fun n hn => by
                          rcases Nat.lt_or_ge n k with h | h
                          · exact (uH HALL) n h
                          · obtain rfl : n = k := by omega
                            rw [uH HX, uH HY, uH HQ], (uH HCH).drewN _⟩
                      case measure => simp [intOf]; omega
                  · obtain rfl : k = i.fixes.length := by omega
                    have hki : ¬ (i.fixes.length : Int) < (i.fixes.length : Int) := by omega
                    have HALLfixes := hH (at_eq (uH HFL) hall)
                    have HDfixes := hH hch
                    clear hall hch
                    go_wp2_with fail
                    go_ret
                    exact ⟨retv (boolv (uH HYE (by
                      have e1 := uH HN
                      have e2 := uH HALLopens
                      have e3 := uH HALLfixes
                      have e4 := uH HDS
                      have e5 := uH HSS
                      obtain ⟨i1, i2, i3, i4, i5⟩ := i
                      obtain ⟨j1, j2, j3, j4, j5⟩ := j
                      dsimp only at e1 e2 e3 e4 e5
                      rw [e1, e2, e3, e4, e5])).symm), (uH H0).trans' (uH HDfixes)⟩
end Go.Proofs.YtinekmjengckdaaGreatDoor
