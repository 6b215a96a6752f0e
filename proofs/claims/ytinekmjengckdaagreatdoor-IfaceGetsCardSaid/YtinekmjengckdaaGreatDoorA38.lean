/-
  Layer 23: the document's side: whether declarations are the same.
-/
import Derived.Test.YtinekmjengckdaaGreatDoorA27
import Derived.Test.YtinekmjengckdaaGreatDoorA28
namespace Go.Proofs.YtinekmjengckdaaGreatDoor
open Go.RowKit
set_option maxHeartbeats 4000000
set_option maxRecDepth 100000
theorem types_eq (l m : List (List Nd)) : sameNs l m = sameBy (sameBy Nd.same) l m := by
  rw [Bool.eq_iff_iff, sameNs_iff, sameBy_iff _ (fun _ _ => sameBy_nds)]
theorem dtS_name {x y : Dt} (h : (x.name.toList == y.name.toList) = false) : dtS x y = false := by unfold dtS; rw [h]; rfl
theorem dtS_params {x y : Dt} (h : (x.params == y.params) = false) : dtS x y = false := by unfold dtS; rw [h, Bool.and_false]; rfl
theorem dtS_len {x y : Dt} (h : x.cons.length ≠ y.cons.length) : dtS x y = false := by unfold dtS; rw [sameBy_len _ h, Bool.and_false]
theorem dtS_con {x y : Dt} {k : Nat} {a b : Ct} (ha : x.cons[k]? = some a) (hb : y.cons[k]? = some b) (h : ctS a b = false) : dtS x y = false := by unfold dtS; rw [sameBy_diff _ ha hb h, Bool.and_false]
theorem dtS_yes {x y : Dt} (h1 : (x.name.toList == y.name.toList) = true) (h2 : (x.params == y.params) = true) (hl : x.cons.length = y.cons.length) (h : ∀ (j : Nat) (a b : Ct), x.cons[j]? = some a → y.cons[j]? = some b → ctS a b = true) : dtS x y = true := by unfold dtS; rw [h1, h2, sameBy_all _ hl h]; rfl
theorem ctS_name {x y : Ct} (h : (x.name.toList == y.name.toList) = false) : ctS x y = false := by unfold ctS; rw [h]; rfl
theorem ctS_args {x y : Ct} (h1 : (x.name.toList == y.name.toList) = true) {e : Bool} (h : sameBy (sameBy Nd.same) x.args y.args = e) : ctS x y = e := by unfold ctS; rw [h1, h]; rfl
theorem refDatas_any (l m : List Dt) (v1 v2 : Value) (T1 T2 : Nat → Prop) (w : World) (h1 : RdD T1 w v1 l) (h2 : RdD T2 w v2 m) (hn : l.length ≤ 1000000) (_hm : m.length ≤ 1000000) (hln : ∀ x ∈ l, DtL x) (hmn : ∀ x ∈ m, DtL x) :
    Calls Tryz.prog 36 #[v1, v2] w fun e w' => e = .returned (.bool (sameBy dtS l m)) ∧ Chg (fun _ => False) w w' := by
  obtain ⟨A1, c1, rfl⟩ := RdR.val h1
  obtain ⟨A2, c2, rfl⟩ := RdR.val h2
  have H1 := hH h1
  have H2 := hH h2
  by_cases hl : l.length = m.length
  rotate_left
  · have HE := hH (sameBy_len dtS hl)
    have hle : ¬ (l.length : Int) = (m.length : Int) := by omega
    generalize sameBy dtS l m = E at *
    clear h1 h2 H1 H2
    go_enter Tryz.func36, Tryz.ntmps36
    go_wp2_with fail
    go_ret
    exact ⟨retv (boolv (uH HE).symm), Chg.refl _ _⟩
  · have HA := hH (sameBy_all dtS hl)
    have HD := hH (fun k x y => sameBy_diff dtS (l := l) (m := m) (k := k) (x := x) (y := y))
    generalize sameBy dtS l m = E at *
    have HLN := hH hln
    have HMN := hH hmn
    have hle : (l.length : Int) = (m.length : Int) := by omega
    clear h1 h2 hln hmn hl
    go_enter Tryz.func36, Tryz.ntmps36
    go_wp2_with fail
    go_loopw [5] (fun i wr => ∃ k : Nat, i = .int .i64 (k : Int) ∧ k ≤ l.length ∧ (∀ j x y, j < k → l[j]? = some x → m[j]? = some y → dtS x y = true) ∧ Chg (fun _ => False) w wr) (fun i _ => l.length - (intOf i).toNat)
    case atStart => exact ⟨0, rfl, Nat.zero_le _, fun j x y h => absurd h (Nat.not_lt_zero _), Chg.refl _ _⟩
    case round =>
      obtain ⟨wq, rfl⟩ : ∃ wq : World, wq = wr := ⟨_, rfl⟩
      obtain ⟨k, rfl, hk, hall, hch⟩ := hrel
      by_cases hlt : k < l.length
      · have hki : (k : Int) < (l.length : Int) := by omega
        have hkm : (k : Int) < (m.length : Int) := by omega
        have hx : l[k]? = some l[k] := List.getElem?_eq_getElem hlt
        have hlm : k < m.length := by omega
        have hy : m[k]? = some m[k] := List.getElem?_eq_getElem hlm
        have hxn := (uH HLN) l[k] (List.getElem_mem hlt)
        have hyn := (uH HMN) m[k] (List.getElem_mem hlm)
        generalize l[k] = x at *
        generalize m[k] = y at *
        obtain ⟨b, o, c3, u, hv, _, hru, _, d0, d1, d2⟩ := RdD.at_ (RdD.chg (uH H1) hch (fun _ _ _ => id)) hx
        obtain ⟨b', o', c3', u', hv', _, hru', _, e0, e1, e2⟩ := RdD.at_ (RdD.chg (uH H2) hch (fun _ _ _ => id)) hy
        injection hv with hv1 hv2 hv3
        injection hv' with hv1' hv2' hv3'
        subst hv1 hv3 hv1' hv3'
        obtain ⟨B5, c5, rfl⟩ := RdR.val hru
        obtain ⟨B6, c6, rfl⟩ := RdR.val hru'
        have HALL := hH hall
        have HX := hH hx
        have HY := hH hy
        have HCH := hH hch
        have HXN := hH hxn
        have HYN := hH hyn
        clear hall hx hy hch hv2 hv2' hru hru' hxn hyn
        cases hnm : x.name.toList == y.name.toList
        · have HE := hH (uH HD k x y (uH HX) (uH HY) (dtS_name hnm))
          clear HALL HX HY
          go_wp2_with fail
          go_quiet (fail)
          go_wp2_with fail
          go_ret
          exact ⟨retv (boolv (uH HE).symm), (uH HCH).drewN _⟩
        · cases hpm : x.params == y.params
          · have HE := hH (uH HD k x y (uH HX) (uH HY) (dtS_params hpm))
            have hpn : (x.params != y.params) = true := by rw [bne, hpm]; rfl
            clear HALL HX HY
            go_wp2_with fail
            go_quiet (fail)
            go_wp2_with fail
            go_ret
            exact ⟨retv (boolv (uH HE).symm), (uH HCH).drewN _⟩
          · have hpn : (x.params != y.params) = false := by rw [bne, hpm]; rfl
            by_cases hcl : x.cons.length = y.cons.length
            rotate_left
            · have HE := hH (uH HD k x y (uH HX) (uH HY) (dtS_len hcl))
              have hci : ¬ (x.cons.length : Int) = (y.cons.length : Int) := by omega
              clear HALL HX HY
              go_wp2_with fail
              go_quiet (fail)
              go_wp2_with fail
              go_ret
              exact ⟨retv (boolv (uH HE).symm), (uH HCH).drewN _⟩
            · have hci : (x.cons.length : Int) = (y.cons.length : Int) := by omega
              have HYES := hH (fun h => dtS_yes (x := x) (y := y) hnm hpm hcl h)
              clear hcl
              go_wp2_with fail
              go_quiet (fail)
              go_wp2_with fail
              clear d0 d1 d2 e0 e1 e2
              go_loopw [6] (fun i wr => ∃ n : Nat, i = .int .i64 (n : Int) ∧ n ≤ x.cons.length ∧ (∀ j a d, j < n → x.cons[j]? = some a → y.cons[j]? = some d → ctS a d = true) ∧ Chg (fun _ => False) w wr) (fun i _ => x.cons.length - (intOf i).toNat)
              case atStart => exact ⟨0, rfl, Nat.zero_le _, fun j a d h => absurd h (Nat.not_lt_zero _), (uH HCH).drewN _⟩
              case round =>
                obtain ⟨wz, rfl⟩ : ∃ wz : World, wz = wr := ⟨_, rfl⟩
                obtain ⟨n, rfl, hn2, hall2, hch2⟩ := hrel
                obtain ⟨b2, o2, c32, u, hv, _, hru, _, _, _, d2⟩ := RdD.at_ (RdD.chg (uH H1) hch2 (fun _ _ _ => id)) (uH HX)
                obtain ⟨b2', o2', c32', u', hv', _, hru', _, _, _, e2⟩ := RdD.at_ (RdD.chg (uH H2) hch2 (fun _ _ _ => id)) (uH HY)
                injection hv with hv1 hv2 hv3
                injection hv1 with hv1
                injection hv1 with hv4 hv5
                injection hv' with hv1' hv2' hv3'
                injection hv1' with hv1'
                injection hv1' with hv4' hv5'
                subst hv4 hv5 hv4' hv5'
                clear hv2 hv2' hv3 hv3'
                by_cases hlt2 : n < x.cons.length
                · have hni : (n : Int) < (x.cons.length : Int) := by omega
                  have hnb : n < 1000000 := by have := (uH HXN).1; omega
                  have hnm2 : (n : Int) < (y.cons.length : Int) := by omega
                  have ha : x.cons[n]? = some x.cons[n] := List.getElem?_eq_getElem hlt2
                  have hlm2 : n < y.cons.length := by omega
                  have hd : y.cons[n]? = some y.cons[n] := List.getElem?_eq_getElem hlm2
                  have han := (uH HXN).2 x.cons[n] (List.getElem_mem hlt2)
                  have hdn := (uH HYN).2 y.cons[n] (List.getElem_mem hlm2)
                  generalize x.cons[n] = a at *
                  generalize y.cons[n] = d at *
                  obtain ⟨g, p, c5, t, hz, _, hrt, _, z0, z1⟩ := RdC.at_ hru ha
                  obtain ⟨g', p', c6, t', hz', _, hrt', _, z2, z3⟩ := RdC.at_ hru' hd
                  subst hz hz'
                  have HS := hH (fun W (hW : Chg (fun _ => False) wz W) => types_any a.args d.args t t' T1 T2 W (hrt.chg hW (fun _ _ _ => id)) (hrt'.chg hW (fun _ _ _ => id)) han.1 hdn.1 han.2 hdn.2)
                  rw [types_eq] at HS
                  obtain ⟨B7, c7, rfl⟩ := RdR.val hrt
                  obtain ⟨B8, c8, rfl⟩ := RdR.val hrt'
                  have HALL2 := hH hall2
                  have HAX := hH ha
                  have HDX := hH hd
                  have HCH2 := hH hch2
                  have KSW := hH (show ∀ W, Chg (fun _ => False) wz W → W.cell? ⟨b, o + k * 3 + 2, none⟩ = some (.slice (some ⟨g, p, none⟩) x.cons.length c5) ∧ W.cell? ⟨b', o' + k * 3 + 2, none⟩ = some (.slice (some ⟨g', p', none⟩) y.cons.length c6) ∧ W.cell? ⟨g, p + n * 2, none⟩ = some (.string a.name) ∧ W.cell? ⟨g, p + n * 2 + 1, none⟩ = some (.slice B7 a.args.length c7) ∧ W.cell? ⟨g', p' + n * 2, none⟩ = some (.string d.name) ∧ W.cell? ⟨g', p' + n * 2 + 1, none⟩ = some (.slice B8 d.args.length c8) from fun W hW => by
                    have f : ∀ {p : Addr} {y : Value}, wz.cell? p = some y → W.cell? p = some y := fun {p y} h => (hW.cell (World.block_lt_of_cell? wz _ h) id).trans h
                    exact ⟨f d2, f e2, f z0, f z1, f z2, f z3⟩)
                  have HCQ : Hid (Chg (fun _ => False) wz wz.drew) := hH (Chg.drew (Chg.refl _ _))
                  have HKK := hH (uH KSW _ (uH HCQ))
                  clear hall2 ha hd hch2 hru hru' hrt hrt' d2 e2 z0 z1 z2 z3 han hdn
                  cases hcn : a.name.toList == d.name.toList
                  · have HE := hH (uH HD k x y (uH HX) (uH HY) (dtS_con (uH HAX) (uH HDX) (ctS_name hcn)))
                    clear HALL HX HY HS HALL2 HAX HDX HYES
                    obtain ⟨d2, e2, z0, z1, z2, z3⟩ := uH KSW _ (Chg.refl _ _)
                    go_wp2_with fail
                    go_quiet (fail)
                    go_wp2_with fail
                    go_ret
                    exact ⟨retv (boolv (uH HE).symm), (uH HCH2).drewN _⟩
                  · cases hts : sameBy (sameBy Nd.same) a.args d.args
                    · have HE := hH (uH HD k x y (uH HX) (uH HY) (dtS_con (uH HAX) (uH HDX) (ctS_args hcn hts)))
                      rw [hts] at HS
                      clear hts HALL HX HY HALL2 HAX HDX HYES
                      have d2 := (uH KSW _ (Chg.refl _ _)).1
                      go_wp2_with fail
                      go_region_held3 (fun W => W.cell? ⟨b, o + k * 3 + 2, none⟩ = some (.slice (some ⟨g, p, none⟩) x.cons.length c5) ∧ W.cell? ⟨b', o' + k * 3 + 2, none⟩ = some (.slice (some ⟨g', p', none⟩) y.cons.length c6) ∧ W.cell? ⟨g, p + n * 2, none⟩ = some (.string a.name) ∧ W.cell? ⟨g, p + n * 2 + 1, none⟩ = some (.slice B7 a.args.length c7) ∧ W.cell? ⟨g', p' + n * 2, none⟩ = some (.string d.name) ∧ W.cell? ⟨g', p' + n * 2 + 1, none⟩ = some (.slice B8 d.args.length c8)) (first | exact uH HKK | go_keep) (first
                  | (go_at_call 83; (with_reducible refine (uH HS _ (uH HCQ)).mono ?_); rintro e w2 ⟨rfl, hc2⟩; have HN_ := hH ((uH HCQ).trans' hc2); clear HCQ; have HCQ := HN_; clear HN_ HKK; have HKK := hH (uH KSW _ (uH HCQ)); clear hc2))
                      go_wp2_with fail
                      go_ret
                      exact ⟨retv (boolv (uH HE).symm), (uH HCH2).trans' (uH HCQ)⟩
                    · have HEC := hH (ctS_args hcn hts)
                      rw [hts] at HS
                      clear hts
                      have d2 := (uH KSW _ (Chg.refl _ _)).1
                      go_wp2_with fail
                      go_region_held3 (fun W => W.cell? ⟨b, o + k * 3 + 2, none⟩ = some (.slice (some ⟨g, p, none⟩) x.cons.length c5) ∧ W.cell? ⟨b', o' + k * 3 + 2, none⟩ = some (.slice (some ⟨g', p', none⟩) y.cons.length c6) ∧ W.cell? ⟨g, p + n * 2, none⟩ = some (.string a.name) ∧ W.cell? ⟨g, p + n * 2 + 1, none⟩ = some (.slice B7 a.args.length c7) ∧ W.cell? ⟨g', p' + n * 2, none⟩ = some (.string d.name) ∧ W.cell? ⟨g', p' + n * 2 + 1, none⟩ = some (.slice B8 d.args.length c8)) (first | exact uH HKK | go_keep) (first
                  | (go_at_call 83; (with_reducible refine (uH HS _ (uH HCQ)).mono ?_); rintro e w2 ⟨rfl, hc2⟩; have HN_ := hH ((uH HCQ).trans' hc2); clear HCQ; have HCQ := HN_; clear HN_ HKK; have HKK := hH (uH KSW _ (uH HCQ)); clear hc2))
                      go_wp2_with fail
                      go_roundw
                      case rel =>
                        exact ⟨n + 1, by go_num, by omega, fun j x' y' hj hx' hy' => by
                          rcases Nat.lt_or_ge j n with h | h
                          · exact (uH HALL2) j x' y' h hx' hy'
                          · obtain rfl : j = n := by omega
                            have e1 := (uH HAX).symm.trans hx'
                            have e2 := (uH HDX).symm.trans hy'
                            injection e1 with e1
                            injection e2 with e2
                            rw [← e1, ← e2]
                            exact uH HEC, (uH HCH2).trans' (uH HCQ)⟩
                      case measure => simp [intOf]; omega
                · obtain rfl : n = x.cons.length := by omega
                  have hni : ¬ (x.cons.length : Int) < (x.cons.length : Int) := by omega
                  have HQ := hH (uH HYES (fun j a d ha hd => hall2 j a d (List.getElem?_eq_some_iff.1 ha).1 ha hd))
                  have HCH2 := hH hch2
                  obtain ⟨B5, c5, rfl⟩ := RdR.val hru
                  clear hall2 hch2 hru hru' e2 HYES
                  go_wp2_with fail
                  go_roundw
                  case rel =>
                    exact ⟨k + 1, by go_num, by omega, fun j x' y' hj hx' hy' => by
                      rcases Nat.lt_or_ge j k with h | h
                      · exact (uH HALL) j x' y' h hx' hy'
                      · obtain rfl : j = k := by omega
                        have e1 := (uH HX).symm.trans hx'
                        have e2 := (uH HY).symm.trans hy'
                        injection e1 with e1
                        injection e2 with e2
                        rw [← e1, ← e2]
                        exact uH HQ, uH HCH2⟩
                  case measure => simp [intOf]; omega
      · obtain rfl : k = l.length := by omega
        have hki : ¬ (l.length : Int) < (l.length : Int) := by omega
        have HF := hH (uH HA (fun j x y hx hy => hall j x y (List.getElem?_eq_some_iff.1 hx).1 hx hy))
        have HCH := hH hch
        clear hall hch
        go_wp2_with fail
        go_ret
        exact ⟨retv (boolv (uH HF).symm), uH HCH⟩
end Go.Proofs.YtinekmjengckdaaGreatDoor
