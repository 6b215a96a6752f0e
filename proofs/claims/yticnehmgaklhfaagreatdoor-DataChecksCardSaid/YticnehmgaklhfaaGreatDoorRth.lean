/-
  Layer 10, the document's side: may a declaration be, by itself?
-/
import Derived.Test.YticnehmgaklhfaaGreatDoorRtf
import Derived.Test.YticnehmgaklhfaaGreatDoorRtg
import Derived.Test.YticnehmgaklhfaaGreatDoorSgs
import Derived.Test.YticnehmgaklhfaaGreatDoorEc
namespace Go.Proofs.YticnehmgaklhfaaGreatDoor
open Go.RowKit
set_option maxHeartbeats 4000000
set_option maxRecDepth 100000
theorem dtB_bad {d : Dt} {k : Nat} {x : Ct} (hx : d.cons[k]? = some x) (h : ctB d.params x = false) : dtB d = false := by
  unfold dtB
  have : d.cons.all (ctB d.params) = false := List.all_eq_false.2 ⟨x, List.mem_of_getElem? hx, by rw [h]; simp⟩
  rw [this, Bool.and_false]
theorem ctB_bad {p : Int} {c : Ct} {k : Nat} {t : List Nd} (hx : c.args[k]? = some t) (h : argB p t = false) : ctB p c = false := by
  unfold ctB
  have : c.args.all (argB p) = false := List.all_eq_false.2 ⟨t, List.mem_of_getElem? hx, by rw [h]; simp⟩
  rw [this, Bool.and_false]
theorem argB_bad {p : Int} {t : List Nd} {k : Nat} {v : Int} (hx : (varsL t)[k]? = some v) (h : p ≤ v) : argB p t = false := by
  unfold argB
  have : ((varsL t).all fun v => decide (v < p)) = false := List.all_eq_false.2 ⟨v, List.mem_of_getElem? hx, by simp; omega⟩
  rw [this, Bool.and_false]
theorem argB_typ {p : Int} {t : List Nd} (h : typB t = false) : argB p t = false := by unfold argB; rw [h]; rfl
theorem argB_good {p : Int} {t : List Nd} (h : typB t = true) (hv : ∀ (j : Nat) (v : Int), j < (varsL t).length → (varsL t)[j]? = some v → v < p) : argB p t = true := by
  unfold argB
  rw [h, Bool.true_and, List.all_eq_true]
  intro v hm
  obtain ⟨j, hj⟩ := List.mem_iff_getElem?.1 hm
  exact decide_eq_true (hv j v (List.getElem?_eq_some_iff.1 hj).1 hj)
theorem ctB_good {p : Int} {c : Ct} (hn : nameB 2 c.name = true) (h8 : c.args.length ≤ 8) (h : ∀ (j : Nat) (t : List Nd), j < c.args.length → c.args[j]? = some t → argB p t = true) : ctB p c = true := by
  unfold ctB
  rw [hn, decide_eq_true h8, Bool.true_and, Bool.true_and, List.all_eq_true]
  intro t ht
  obtain ⟨j, hj⟩ := List.mem_iff_getElem?.1 ht
  exact h j t (List.getElem?_eq_some_iff.1 hj).1 hj
theorem dtB_good {d : Dt} (hn : nameB 2 d.name = true) (h0 : 0 ≤ d.params) (h8 : d.params ≤ 8) (h1 : 1 ≤ d.cons.length) (h60 : d.cons.length ≤ 60) (h : ∀ (j : Nat) (c : Ct), j < d.cons.length → d.cons[j]? = some c → ctB d.params c = true) : dtB d = true := by
  unfold dtB
  rw [hn, decide_eq_true h0, decide_eq_true h8, decide_eq_true h1, decide_eq_true h60]
  simp only [Bool.true_and, List.all_eq_true]
  intro c hc
  obtain ⟨j, hj⟩ := List.mem_iff_getElem?.1 hc
  exact h j c (List.getElem?_eq_some_iff.1 hj).1 hj
theorem varsL_len (l : List Nd) : (varsL l).length ≤ l.length := by have := varsG_len l []; unfold varsL; simpa using this
theorem refDt_any (d : Dt) (u : Value) (T : Nat → Prop) (w : World) (hr : RdC T w u d.cons) (hs : d.name.size ≤ 9223372036854775807) :
    Calls Tryz.prog 24 #[.agg #[.string d.name, .int .i64 d.params, u]] w fun e w' => e = .returned (.bool (dtB d)) ∧ Chg (fun _ => False) w w' := by
  obtain ⟨B, cc, rfl⟩ := hr.val
  have b0 := Blk.new w 51 #[.string d.name, .int .i64 d.params, .slice B d.cons.length cc]
  have c0 : Chg (fun _ => False) w (w.alloc (.cells #[.string d.name, .int .i64 d.params, .slice B d.cons.length cc] 51)) := (Chg.refl _ w).alloc _
  have hr1 := hr.chg c0 (fun _ _ _ => id)
  have z0 := b0.cell 0
  have z1 := b0.cell 1
  have z2 := b0.cell 2
  simp only [List.getElem?_toArray, List.getElem?_cons_zero, List.getElem?_cons_succ] at z0 z1 z2
  have HC0 := hide c0
  clear hr c0
  go_enter Tryz.func24, Tryz.ntmps24
  go_upto_region 1 with fail
  generalize (w.alloc (.cells #[.string d.name, .int .i64 d.params, .slice B d.cons.length cc] 51)) = w1 at *
  generalize w.heap.size = nb at *
  have HN := hide (refNamed_any d.name w1 hs)
  have HR := hide hr1
  have HBK := hide b0
  clear hr1 b0
  have HDB := hide (fun k x => dtB_bad (d := d) (k := k) (x := x))
  have HDG := hide (dtB_good (d := d))
  have HKS := hide (fun W (hW : Chg (fun _ => False) w1 W) => show W.cell? ⟨nb, 0, none⟩ = some (.string d.name) ∧ W.cell? ⟨nb, 1, none⟩ = some (.int .i64 d.params) ∧ W.cell? ⟨nb, 2, none⟩ = some (.slice B d.cons.length cc) from by
    have h := (unhide HBK).chg hW id
    exact ⟨h.cell 0, h.cell 1, h.cell 2⟩)
  cases hnm : nameB 2 d.name with
  | false =>
    rw [hnm] at HN
    have hE : dtB d = false := by unfold dtB; rw [hnm]; rfl
    have HE := hide hE
    clear hE
    clear HDG HDB
    go_wp2_with (go_at_call 26; (with_reducible refine (unhide HN).mono ?_); rintro e w2 ⟨rfl, hch⟩; have HC := hide hch; obtain ⟨y0, y1, y2⟩ := unhide HKS _ hch; clear hch)
    go_ret
    exact ⟨retv (boolv (unhide HE).symm), (unhide HC0).trans' (unhide HC)⟩
  | true =>
  rw [hnm] at HN
  have HNM := hide hnm
  clear hnm
  by_cases hp0 : d.params < 0
  · have hpd : decide (d.params < 0) = true := decide_eq_true hp0
    have hE : dtB d = false := by
      unfold dtB
      have : ¬ 0 ≤ d.params := by omega
      simp [this]
    have HE := hide hE
    clear hE
    clear HDG HDB
    go_wp2_with (go_at_call 26; (with_reducible refine (unhide HN).mono ?_); rintro e w2 ⟨rfl, hch⟩; have HC := hide hch; obtain ⟨y0, y1, y2⟩ := unhide HKS _ hch; clear hch)
    go_ret
    exact ⟨retv (boolv (unhide HE).symm), (unhide HC0).trans' (unhide HC)⟩
  have hpd : decide (d.params < 0) = false := decide_eq_false hp0
  by_cases hp8 : 8 < d.params
  · have hpe : decide (8 < d.params) = true := decide_eq_true hp8
    have hE : dtB d = false := by
      unfold dtB
      have : ¬ d.params ≤ 8 := by omega
      simp [this]
    have HE := hide hE
    clear hE
    clear HDG HDB
    go_wp2_with (go_at_call 26; (with_reducible refine (unhide HN).mono ?_); rintro e w2 ⟨rfl, hch⟩; have HC := hide hch; obtain ⟨y0, y1, y2⟩ := unhide HKS _ hch; clear hch)
    go_ret
    exact ⟨retv (boolv (unhide HE).symm), (unhide HC0).trans' (unhide HC)⟩
  have hpe : decide (8 < d.params) = false := decide_eq_false hp8
  by_cases hc1 : d.cons.length < 1
  · have hci : decide ((d.cons.length : Int) < 1) = true := decide_eq_true (by omega)
    have hcj : (d.cons.length : Int) < 1 := by omega
    have hE : dtB d = false := by
      unfold dtB
      have : ¬ 1 ≤ d.cons.length := by omega
      simp [this]
    have HE := hide hE
    clear hE
    have hnil : d.cons = [] := List.eq_nil_of_length_eq_zero (by omega)
    clear HDG HDB
    go_wp2_with (go_at_call 26; (with_reducible refine (unhide HN).mono ?_); rintro e w2 ⟨rfl, hch⟩; have HC := hide hch; obtain ⟨y0, y1, y2⟩ := unhide HKS _ hch; clear hch)
    go_ret
    exact ⟨retv (boolv (unhide HE).symm), (unhide HC0).trans' (unhide HC)⟩
  have hci : decide ((d.cons.length : Int) < 1) = false := decide_eq_false (by omega)
  have hcj : ¬ (d.cons.length : Int) < 1 := by omega
  have hck : ¬ d.cons = [] := by intro e; rw [e] at hc1; simp at hc1
  by_cases h60 : 60 < d.cons.length
  · have h60i : decide ((60 : Int) < (d.cons.length : Int)) = true := decide_eq_true (by omega)
    have h60j : (60 : Int) < (d.cons.length : Int) := by omega
    have hE : dtB d = false := by
      unfold dtB
      have : ¬ d.cons.length ≤ 60 := by omega
      simp [this]
    have HE := hide hE
    clear hE
    clear HDG HDB
    go_wp2_with (go_at_call 26; (with_reducible refine (unhide HN).mono ?_); rintro e w2 ⟨rfl, hch⟩; have HC := hide hch; obtain ⟨y0, y1, y2⟩ := unhide HKS _ hch; clear hch)
    go_ret
    exact ⟨retv (boolv (unhide HE).symm), (unhide HC0).trans' (unhide HC)⟩
  have h60i : decide ((60 : Int) < (d.cons.length : Int)) = false := decide_eq_false (by omega)
  have h60j : ¬ (60 : Int) < (d.cons.length : Int) := by omega
  have HG2 := hide (fun h => (unhide HDG) (unhide HNM) (by omega) (by omega) (by omega) (by omega) h)
  clear HDG
  go_wp2_with (go_at_call 26; (with_reducible refine (unhide HN).mono ?_); rintro e w2 ⟨rfl, hch⟩; have HC := hide hch; obtain ⟨y0, y1, y2⟩ := unhide HKS _ hch; clear hch)
  go_loopw [3] (fun t wr => ∃ k : Nat, t = .int .i64 (k : Int) ∧ k ≤ d.cons.length ∧ (∀ j c, j < k → d.cons[j]? = some c → ctB d.params c = true) ∧ Chg (fun _ => False) w1 wr) (fun t _ => d.cons.length - (intOf t).toNat)
  case atStart => exact ⟨0, rfl, Nat.zero_le _, fun j _ h => absurd h (Nat.not_lt_zero _), unhide HC⟩
  case round =>
    clear y0 y1 y2 HC z0 z1 z2 hpd hpe hci hcj h60i h60j HN
    obtain ⟨wq, rfl⟩ : ∃ wq : World, wq = wr := ⟨_, rfl⟩
    obtain ⟨k, rfl, hk, hall, hch⟩ := hrel
    obtain ⟨y0, y1, y2⟩ := unhide HKS _ hch
    by_cases hlt : k < d.cons.length
    · have hki : (k : Int) < (d.cons.length : Int) := by omega
      have hx : d.cons[k]? = some d.cons[k] := List.getElem?_eq_getElem hlt
      generalize d.cons[k] = x at *
      obtain ⟨b, o, c2, u, hv, _, hru, hns, c0, c1⟩ := ((unhide HR).chg hch (fun _ _ _ => id)).at_ hx
      injection hv with hv1 hv2 hv3
      subst hv1 hv3
      have hcb := hru.big
      obtain ⟨B2, c6, rfl⟩ := hru.val
      have HX := hide hx
      have HALL := hide hall
      have HCH := hide hch
      have HRU := hide hru
      clear hx hall hch hru hv2
      go_upto_region 7 with fail
      have bk := Blk.new wq 53 #[.string x.name, .slice B2 x.args.length c6]
      have hc3 : Chg (fun _ => False) wq (wq.alloc (.cells #[.string x.name, .slice B2 x.args.length c6] 53)) := (Chg.refl _ wq).alloc _
      generalize (wq.alloc (.cells #[.string x.name, .slice B2 x.args.length c6] 53)) = w3 at *
      generalize wq.heap.size = nb2 at *
      have u0 := bk.cell 0
      have u1 := bk.cell 1
      simp only [List.getElem?_toArray, List.getElem?_cons_zero, List.getElem?_cons_succ] at u0 u1
      have HRV := hide ((unhide HRU).chg hc3 (fun _ _ _ => id))
      have HC13 := hide ((unhide HCH).trans' hc3)
      have HKT := hide (fun W (hW : Chg (fun _ => False) w3 W) => show W.cell? ⟨nb2, 0, none⟩ = some (.string x.name) ∧ W.cell? ⟨nb2, 1, none⟩ = some (.slice B2 x.args.length c6) from by
        have h := bk.chg hW id
        exact ⟨h.cell 0, h.cell 1⟩)
      have HN3 := hide (refNamed_any x.name w3 hns)
      have HDX := hide (unhide HDB k x (unhide HX))
      clear bk hc3 HCH HRU y0 y1 y2 c0 c1
      cases hnm : nameB 2 x.name with
      | false =>
        rw [hnm] at HN3
        have HE := hide (unhide HDX (by unfold ctB; rw [hnm]; rfl))
        clear HDX HDB HG2
        go_wp2_with (go_at_call 26; (with_reducible refine (unhide HN3).mono ?_); rintro e w4 ⟨rfl, hc4⟩; have HC4 := hide hc4; obtain ⟨u0, u1⟩ := unhide HKT _ hc4; clear hc4)
        go_ret
        exact ⟨retv (boolv (unhide HE).symm), (unhide HC0).trans' ((unhide HC13).trans' (unhide HC4))⟩
      | true =>
      rw [hnm] at HN3
      have HNX := hide hnm
      clear hnm
      by_cases ha8 : 8 < x.args.length
      · have ha8i : decide ((8 : Int) < (x.args.length : Int)) = true := decide_eq_true (by omega)
        have ha8j : (8 : Int) < (x.args.length : Int) := by omega
        have HE := hide (unhide HDX (by
          unfold ctB
          have : ¬ x.args.length ≤ 8 := by omega
          simp [this]))
        clear HDX HDB HG2
        go_wp2_with (go_at_call 26; (with_reducible refine (unhide HN3).mono ?_); rintro e w4 ⟨rfl, hc4⟩; have HC4 := hide hc4; obtain ⟨u0, u1⟩ := unhide HKT _ hc4; clear hc4)
        go_ret
        exact ⟨retv (boolv (unhide HE).symm), (unhide HC0).trans' ((unhide HC13).trans' (unhide HC4))⟩
      have ha8i : decide ((8 : Int) < (x.args.length : Int)) = false := decide_eq_false (by omega)
      have ha8j : ¬ (8 : Int) < (x.args.length : Int) := by omega
      have HCG := hide (fun h => ctB_good (p := d.params) (unhide HNX) (by omega) h)
      go_wp2_with (go_at_call 26; (with_reducible refine (unhide HN3).mono ?_); rintro e w4 ⟨rfl, hc4⟩; have HC4 := hide hc4; obtain ⟨u0, u1⟩ := unhide HKT _ hc4; clear hc4)
      go_loopw [5] (fun t wr => ∃ m : Nat, t = .int .i64 (m : Int) ∧ m ≤ x.args.length ∧ (∀ j t, j < m → x.args[j]? = some t → argB d.params t = true) ∧ Chg (fun _ => False) w3 wr) (fun t _ => x.args.length - (intOf t).toNat)
      case atStart => exact ⟨0, rfl, Nat.zero_le _, fun j _ h => absurd h (Nat.not_lt_zero _), unhide HC4⟩
      case round =>
        clear u0 u1 HC4 HN3 ha8i ha8j
        obtain ⟨wz, rfl⟩ : ∃ wz : World, wz = wr := ⟨_, rfl⟩
        obtain ⟨m, rfl, hm, hall, hch⟩ := hrel
        obtain ⟨u0, u1⟩ := unhide HKT _ hch
        by_cases hlm : m < x.args.length
        · have hmk : (m : Int) < (x.args.length : Int) := by omega
          have hw : x.args[m]? = some x.args[m] := List.getElem?_eq_getElem hlm
          generalize x.args[m] = t at *
          obtain ⟨b3, o3, c7, u3, hv, _, hrt, f0⟩ := ((unhide HRV).chg hch (fun _ _ _ => id)).at_ hw
          injection hv with hv1 hv2 hv3
          subst hv1 hv3
          obtain ⟨B3, c9, rfl⟩ := hrt.val
          have HRG := hide (refRight_t t _ _ wz hrt)
          have HW := hide hw
          have HALL2 := hide hall
          have HCZ := hide hch
          have HDT := hide (fun (h : argB d.params t = false) => unhide HDX (ctB_bad hw h))
          have HRT := hide hrt
          have hU1 := World.block_lt_of_cell? wz _ u1
          have hF0 := World.block_lt_of_cell? wz _ f0
          have HKM := hide (fun W (hW : Chg (fun _ => False) wz W) => show W.cell? ⟨nb2, 1, none⟩ = some (.slice (some ⟨b3, o3, none⟩) x.args.length c6) ∧ W.cell? ⟨b3, o3 + m, none⟩ = some (.slice B3 t.length c9) from ⟨(hW.cell hU1 id).trans u1, (hW.cell hF0 id).trans f0⟩)
          clear hw hall hch hrt hv2 hU1 hF0
          cases hty : typB t with
          | false =>
            rw [hty] at HRG
            have HE := hide (unhide HDT (argB_typ hty))
            clear HDX HDB HG2 HDT HCG
            go_wp2_with (go_at_call 17; (with_reducible refine (unhide HRG).mono ?_); rintro e w5 ⟨rfl, hc5⟩; have HC5 := hide hc5; obtain ⟨x1, x2⟩ := unhide HKM _ hc5; clear hc5)
            go_ret
            exact ⟨retv (boolv (unhide HE).symm), (unhide HC0).trans' ((unhide HC13).trans' ((unhide HCZ).trans' (unhide HC5)))⟩
          | true =>
          rw [hty] at HRG
          have h4 : t.length ≤ 4000 := by
            unfold typB at hty
            simp only [Bool.and_eq_true, decide_eq_true_eq] at hty
            exact hty.1.1
          have htl := varsL_len t
          obtain ⟨R, hR⟩ : ∃ R, R = varsL t := ⟨_, rfl⟩
          rw [← hR] at htl
          have hR4 : R.length ≤ 4000 := by omega
          have HVA := hide (fun W (hW : Chg (fun _ => False) wz W) => show Calls Tryz.prog 56 #[.slice B3 t.length c9] W fun e w' => ∃ A c, e = .returned (.slice A R.length c) ∧ Rd (fun k => W.heap.size ≤ k) w' A (R.map intl) ∧ Chg (fun _ => False) W w' from by
            rw [hR]
            exact refVars_any t _ _ W ((unhide HRT).chg hW (fun _ _ _ => id)) h4)
          have HAB := hide (fun (j : Nat) (v : Int) (hx : R[j]? = some v) (hv : d.params ≤ v) => unhide HDT (argB_bad (hR ▸ hx) hv))
          have HAG := hide (fun (hv : ∀ (j : Nat) (v : Int), j < R.length → R[j]? = some v → v < d.params) => argB_good (p := d.params) hty (by rw [← hR]; exact hv))
          clear htl hR hty h4 HRT HDT
          go_wp2_with (first | (go_at_call 17; (with_reducible refine (unhide HRG).mono ?_); rintro e w5 ⟨rfl, hc5⟩; have HC5 := hide hc5; obtain ⟨x1, x2⟩ := unhide HKM _ hc5; clear hc5) | (go_at_call 56; (with_reducible refine (unhide HVA _ (unhide HC5)).mono ?_); rintro e w6 ⟨A6, c6', rfl, hr6, hc6⟩; have HC6 := hide ((unhide HC5).trans' hc6); have HR6 := hide hr6; clear hc6 hr6))
          go_loopw [7] (fun t wr => ∃ q : Nat, t = .int .i64 (q : Int) ∧ q ≤ R.length ∧ (∀ (j : Nat) (v : Int), j < q → R[j]? = some v → v < d.params) ∧ Chg (fun _ => False) w6 wr) (fun t _ => R.length - (intOf t).toNat)
          case atStart => exact ⟨0, rfl, Nat.zero_le _, fun j _ h => absurd h (Nat.not_lt_zero _), Chg.refl _ _⟩
          case round =>
            clear u0 u1 f0 x1 x2 HRG HVA HC5 HKM
            obtain ⟨wu, rfl⟩ : ∃ wu : World, wu = wr := ⟨_, rfl⟩
            obtain ⟨q, rfl, hq, hall, hch⟩ := hrel
            have HCU := hide ((unhide HCZ).trans' ((unhide HC6).trans' hch))
            obtain ⟨_, y1, _⟩ := unhide HKS _ ((unhide HC13).trans' (unhide HCU))
            have HALL3 := hide hall
            have HC6U := hide hch
            by_cases hlq : q < R.length
            · have hqk : (q : Int) < (R.length : Int) := by omega
              have hx : R[q]? = some R[q] := List.getElem?_eq_getElem hlq
              generalize R[q] = y at *
              have hne : R.map intl ≠ [] := by
                intro e
                have := congrArg List.length e
                simp at this
                rw [this] at hlq
                simp at hlq
              obtain ⟨b6, o6, rfl, _, hc⟩ := ((unhide HR6).chg hch (fun _ _ _ => id)).flat hne
              have g0 : wu.cell? ⟨b6, o6 + q, none⟩ = some (.int .i64 y) := hc q _ (by rw [List.getElem?_map, hx]; rfl)
              have HXQ := hide hx
              clear hc hne hall hch hx
              by_cases hy : d.params ≤ y
              · have hyd : decide (d.params ≤ y) = true := decide_eq_true hy
                have hye : decide (y < d.params) = false := decide_eq_false (by omega)
                have HE := hide (unhide HAB q y (unhide HXQ) hy)
                clear HDX HDB HG2 HCG HAB HAG
                go_wp2_with fail
                go_quiet (fail)
                go_wp2_with fail
                go_ret
                exact ⟨retv (boolv (unhide HE).symm), (unhide HC0).trans' ((unhide HC13).trans' ((unhide HCU).drewN _))⟩
              · have hyd : decide (d.params ≤ y) = false := decide_eq_false hy
                have hye : decide (y < d.params) = true := decide_eq_true (by omega)
                have HY := hide (show y < d.params by omega)
                go_wp2_with fail
                go_quiet (fail)
                go_wp2_with fail
                go_roundw
                case rel => exact ⟨q + 1, by go_num, by omega, upto_step (P := fun v => v < d.params) (unhide HALL3) (unhide HXQ) (unhide HY), (unhide HC6U).drewN _⟩
                case measure => simp [intOf]; omega
            · obtain rfl : q = R.length := by omega
              have hqk : ¬ (R.length : Int) < (R.length : Int) := by omega
              have HAGT := hide (unhide HAG hall)
              clear hall hch
              go_wp2_with fail
              go_roundw
              case rel => exact ⟨m + 1, by go_num, by omega, upto_step (P := fun t => argB d.params t = true) (unhide HALL2) (unhide HW) (unhide HAGT), unhide HCU⟩
              case measure => simp [intOf]; omega
        · obtain rfl : m = x.args.length := by omega
          have hmk : ¬ (x.args.length : Int) < (x.args.length : Int) := by omega
          have HCT := hide (unhide HCG hall)
          have HCZ := hide hch
          clear hall hch
          go_wp2_with fail
          go_roundw
          case rel => exact ⟨k + 1, by go_num, by omega, upto_step (P := fun c => ctB d.params c = true) (unhide HALL) (unhide HX) (unhide HCT), (unhide HC13).trans' (unhide HCZ)⟩
          case measure => simp [intOf]; omega
    · obtain rfl : k = d.cons.length := by omega
      have hki : ¬ (d.cons.length : Int) < (d.cons.length : Int) := by omega
      have HE := hide (unhide HG2 hall)
      have HCH := hide hch
      clear hall hch
      go_wp2_with fail
      go_ret
      exact ⟨retv (boolv (unhide HE).symm), (unhide HC0).trans' (unhide HCH)⟩
end Go.Proofs.YticnehmgaklhfaaGreatDoor
