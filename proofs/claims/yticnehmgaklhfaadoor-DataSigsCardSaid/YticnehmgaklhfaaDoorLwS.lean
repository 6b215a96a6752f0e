/-
  Layer 10, the law on what constructors are: it is true of all declarations.
-/
import Derived.Test.YticnehmgaklhfaaDoorAwk2
import Derived.Test.YticnehmgaklhfaaDoorSga
import Derived.Test.YticnehmgaklhfaaDoorEc
namespace Go.Proofs.YticnehmgaklhfaaDoor
open Go.RowKit
set_option maxHeartbeats 2000000
set_option maxRecDepth 100000
theorem notF {b : Bool} (h : (!b) = false) : b = true := by cases b <;> simp_all
theorem wrapP (p : Nat) (d : Dt) (h : d.params = (p : Int)) (h8 : d.params ≤ 8) : wrap64 (1 + (p : Int)) = 1 + (p : Int) := w64 _ (by omega)
theorem wrapI (x : Int) (h : -9223372036854775808 ≤ x ∧ x ≤ 9223372036854775807) : IntKind.i64.wrap x = x := by
  have := h.1
  have := h.2
  simp only [IntKind.wrap, IntKind.bits, IntKind.signed]
  simp
  omega
theorem wrapQ (p : Nat) (d : Dt) (h : d.params = (p : Int)) (h8 : d.params ≤ 8) : IntKind.i64.wrap (1 + (p : Int)) = 1 + (p : Int) := wrapI _ (by omega)
theorem posP (p : Nat) : (0 : Int) < 1 + (p : Int) := by omega
theorem posQ (p : Nat) : (0 : Int) < ((1 + p : Nat) : Int) := by omega
theorem sigs_law (l : List Dt) (v : Value) (T : Nat → Prop) (w : World) (hr : RdD T w v l) (lay : Lay w) :
    Calls Tryd.prog 5 #[v] w fun e w' => e = .returned (.bool true) ∧ Chg (fun _ => False) w w' := by
  have HA := hide (fun W (hW : Chg (fun _ => False) w W) => awake_any W (lay.chg hW (fun _ _ => id)))
  have HF := hide (fun W (hW : Chg (fun _ => False) w W) => show Calls Tryd.prog 8 #[v] W fun e w' => ∃ r : Bool, e = .returned (.bool r) ∧ (r = true → BL l) ∧ Chg (fun _ => False) W w' from few_d l v T W (hr.chg hW (fun _ _ _ => id)))
  have HRW := hide (fun W (hW : Chg (fun _ => False) w W) => hr.chg hW (fun _ _ _ => id))
  have HLN := hide (fun (hb : BL l) => show l.length ≤ 1000000 from by have := hb.1; omega)
  have HLY := hide (fun W (hW : Chg (fun _ => False) w W) => lay.chg hW (fun _ _ => id))
  have HC := hide (Chg.refl (fun _ => False) w)
  by_cases hE : datasE l = 0
  rotate_left
  · have HSG := hide (fun W v' T' (hW : Chg (fun _ => False) w W) (h : RdD T' W v' l) => show Calls Tryd.prog 18 #[v'] W fun e w' => e = .returned (.tuple #[.slice none 0 0, .int .i64 (datasE l)]) ∧ Chg (fun _ => False) W w' from
      (sigs_any l v' T' W h (lay.chg hW (fun _ _ => id))).mono fun e w' h => by
        obtain ⟨v2, h1, _, h3, h4⟩ := h
        rw [h3 hE] at h1
        exact ⟨h1, h4⟩)
    obtain ⟨A, c, rfl⟩ := hr.val
    have hE' : ¬ datasE l = 0 := hE
    clear hr lay
    generalize datasE l = E at *
    go_enter Tryd.func5, Tryd.ntmps5
    go_wp2_with (first
      | (go_at_call 7; with_reducible refine (unhide HA _ (unhide HC)).mono ?_; rintro e w2 ⟨rfl, hch⟩; have HN_ := hide ((unhide HC).trans' hch); clear HC; have HC := HN_; clear HN_ hch)
      | (go_at_call 8; with_reducible refine (unhide HF _ (unhide HC)).mono ?_; rintro e w3 ⟨rb, rfl, hb, hch⟩; have HB := hide hb; clear hb; have HN_ := hide ((unhide HC).trans' hch); clear HC; have HC := HN_; clear HN_ hch)
      | (at_builtin; refine cpyD _ (by kernel_rfl) (.tmp 22) (.tmp 23) rfl _ rfl rfl (unhide HRW _ (unhide HC)) (unhide HLN (unhide HB (notF (by assumption)))) ?_; intro vq wq hq hcap hch; have HQ := hide hq; (obtain ⟨Aq, cq, rfl⟩ := hq.val); have HN_ := hide ((unhide HC).trans' hch); clear HC; have HC := HN_; clear HN_ hch; clear hq hcap)
      | (go_at_call 18; with_reducible refine (unhide HSG _ _ _ (unhide HC) (unhide HQ)).mono ?_; rintro e w4 ⟨rfl, hch⟩; have HN_ := hide ((unhide HC).trans' hch); clear HC; have HC := HN_; clear HN_ hch; clear HQ))
    all_goals (go_ret; exact ⟨rfl, unhide HC⟩)
  have HSG := hide (fun W v' T' (hW : Chg (fun _ => False) w W) (h : RdD T' W v' l) => show Calls Tryd.prog 18 #[v'] W fun e w' => ∃ A c, e = .returned (.tuple #[.slice A (sigsL l).length c, .int .i64 0]) ∧ RdSc (fun _ => True) w' (.slice A (sigsL l).length c) (sigsL l) ∧ Chg (fun _ => False) W w' from
      (sigs_any l v' T' W h (lay.chg hW (fun _ _ => id))).mono fun e w' h => by
        obtain ⟨v2, h1, h2, _, h4⟩ := h
        have h2 := h2 hE
        rw [hE] at h1
        obtain ⟨A, c, rfl⟩ := RdR.val h2
        exact ⟨A, c, h1, h2.mono (fun _ _ => trivial), h4⟩)
  have HDD := hide (datas_ok hE)
  have HFO := hide (fun i k d x => find_own (l := l) hE (i := i) (k := k) (d := d) (x := x))
  have HIX := hide (fun i k d x => sigs_index (l := l) (i := i) (k := k) (d := d) (x := x))
  have HST := hide (fun i k d x => sigsTo_len_step (l := l) (i := i) (k := k) (d := d) (x := x))
  have HNX := hide (fun i d => sigsTo_next (l := l) (i := i) (d := d))
  have HEN := hide (sigsTo_end l)
  have hs00 : (sigsTo l 0 0).length = 0 := by cases l <;> rfl
  have HS0 := hide hs00
  obtain ⟨A, c, rfl⟩ := hr.val
  clear hr lay hE hs00
  generalize hsl : sigsL l = sl at *
  go_enter Tryd.func5, Tryd.ntmps5
  go_upto_region 8 with (first
    | (go_at_call 7; with_reducible refine (unhide HA _ (unhide HC)).mono ?_; rintro e w2 ⟨rfl, hch⟩; have HN_ := hide ((unhide HC).trans' hch); clear HC; have HC := HN_; clear HN_ hch)
    | (go_at_call 8; with_reducible refine (unhide HF _ (unhide HC)).mono ?_; rintro e w3 ⟨rb, rfl, hb, hch⟩; have HB := hide hb; clear hb; have HN_ := hide ((unhide HC).trans' hch); clear HC; have HC := HN_; clear HN_ hch)
    | (at_builtin; refine cpyD _ (by kernel_rfl) (.tmp 22) (.tmp 23) rfl _ rfl rfl (unhide HRW _ (unhide HC)) (unhide HLN (unhide HB (notF (by assumption)))) ?_; intro vq wq hq hcap hch; have HQ := hide hq; (obtain ⟨Aq, cq, rfl⟩ := hq.val); have HN_ := hide ((unhide HC).trans' hch); clear HC; have HC := HN_; clear HN_ hch; clear hq hcap)
    | (go_at_call 18; with_reducible refine (unhide HSG _ _ _ (unhide HC) (unhide HQ)).mono ?_; rintro e w4 ⟨As, cs, rfl, hs, hch⟩; have HS := hide hs; have HN_ := hide ((unhide HC).trans' hch); clear HC; have HC := HN_; clear HN_ hch; clear HQ hs))
  · go_ret
    exact ⟨rfl, unhide HC⟩
  have HBL := hide (unhide HB (notF (by assumption)))
  have HW0 := HC
  go_loopw [5, 6] (fun n t wr => ∃ i : Nat, n = .int .i64 ((sigsTo l i 0).length : Int) ∧ t = .int .i64 (i : Int) ∧ i ≤ l.length ∧ Chg (fun _ => False) w4 wr) (fun _ t _ => l.length - (intOf t).toNat)
  case atStart => exact ⟨0, by rw [unhide HS0]; rfl, rfl, Nat.zero_le _, Chg.refl _ _⟩
  case round =>
    obtain ⟨wy, rfl⟩ : ∃ wy : World, wy = wr := ⟨_, rfl⟩
    obtain ⟨i, rfl, rfl, hi, hch⟩ := hrel
    by_cases hlt : i < l.length
    · have hii : (i : Int) < (l.length : Int) := by omega
      have hx : l[i]? = some l[i] := List.getElem?_eq_getElem hlt
      have HDB := hide ((unhide HDD).2 l[i] (List.getElem_mem hlt))
      have HBD := hide ((unhide HBL).2 l[i] (List.getElem_mem hlt))
      generalize l[i] = d at *
      have HD := hide hx
      have HIY := hide hch
      clear hx hch
      go_upto_region 11 with fail
      go_loopw [5, 7] (fun n t wr => ∃ k : Nat, n = .int .i64 ((sigsTo l i k).length : Int) ∧ t = .int .i64 (k : Int) ∧ k ≤ d.cons.length ∧ Chg (fun _ => False) w4 wr) (fun _ t _ => d.cons.length - (intOf t).toNat)
      case atStart => exact ⟨0, rfl, rfl, Nat.zero_le _, unhide HIY⟩
      case round =>
        clear HIY
        obtain ⟨wq, rfl⟩ : ∃ wq : World, wq = wr := ⟨_, rfl⟩
        obtain ⟨k, rfl, rfl, hk, hch⟩ := hrel
        have HCH := hide hch
        have HIZ := hide hch
        clear HC
        have HC := hide ((unhide HW0).trans' hch)
        obtain ⟨b, o, c2, u, hv, _, hru, hdn, z0, z1, z2⟩ := (unhide HRW _ (unhide HC)).at_ (unhide HD)
        injection hv with hv1 hv2 hv3
        subst hv1 hv3
        clear hv2
        obtain ⟨hnm, hp0, hp8, hc1, hc60, hcts⟩ := dt_ok (unhide HDB)
        obtain ⟨p, hp⟩ : ∃ p : Nat, d.params = (p : Int) := ⟨d.params.toNat, by omega⟩
        by_cases hlk : k < d.cons.length
        · have hkk : (k : Int) < (d.cons.length : Int) := by omega
          have hy : d.cons[k]? = some d.cons[k] := List.getElem?_eq_getElem hlk
          have hxm := List.getElem_mem hlk
          generalize d.cons[k] = x at *
          obtain ⟨b2, o2, c5, u2, hv, _, hra, hxn, g0, g1⟩ := hru.at_ hy
          subst hv
          have hq := unhide HIX i k d x (unhide HD) hy
          have HSTP := hide (unhide HST i k d x (unhide HD) hy)
          have HFOX := hide (unhide HFO i k d x (unhide HD) hy)
          have HQN := hide (show (sigsTo l i k).length = (sigsTo l i k).length from rfl)
          generalize (sigsTo l i k).length = q at *
          have hql := (List.getElem?_eq_some_iff.1 hq).1
          have hqq : (q : Int) < (sl.length : Int) := by omega
          have hqd : decide ((sl.length : Int) ≤ (q : Int)) = false := decide_eq_false (by omega)
          have hqe : decide (sl.length ≤ q) = false := decide_eq_false (by omega)
          obtain ⟨sb, so, c6, u7, hv7, _, hr7, _, hcap7, s0, s1⟩ := ((unhide HS).chg hch (fun _ _ _ => id)).at_ hq
          injection hv7 with hw1 hw2 hw3
          subst hw1 hw3
          clear hw2 hq hql
          have hbx := (unhide HBD).2 x hxm
          obtain ⟨ft, fp, fv⟩ := sig_facts (unhide HDB) hxm hbx.1 hbx.2
          have hpn : d.params.toNat = p := by omega
          rw [hpn] at fv
          rw [hp] at z1
          have HTL := hide (of_len d)
          have hfe : typE (arrowL x.args (ofL d)) = 0 := typE_zero.2 ft
          have HCK := hide (fun W (hW : Chg (fun _ => False) wq W) => check_any (arrowL x.args (ofL d)) u7 _ W (hr7.chg hW (fun _ _ _ => id)) (unhide HLY W ((unhide HC).trans' hW)))
          rw [hfe] at HCK
          have HPA := hide (fun W (hW : Chg (fun _ => False) wq W) => show Calls Tryd.prog 15 #[u7] W fun e w' => ∃ A1 c1 A2 c2, e = .returned (.tuple #[.slice A1 x.args.length c1, .slice A2 (1 + p) c2]) ∧ RdNs (fun _ => True) w' (.slice A1 x.args.length c1) x.args ∧ RdN (fun _ => True) w' (.slice A2 (1 + p) c2) (ofL d) ∧ Chg (fun _ => False) W w' from
            (parts_any _ u7 _ W (hr7.chg hW (fun _ _ _ => id)) hcap7 (unhide HLY W ((unhide HC).trans' hW))).mono fun e w' h => by
              obtain ⟨v1, v2, h1, h2, h3, h4⟩ := h
              rw [fp] at h2 h3
              obtain ⟨A1, c1, rfl⟩ := RdR.val h2
              obtain ⟨A2, c2, hv2⟩ := RdR.val h3
              rw [unhide HTL, hpn] at hv2
              subst hv2
              exact ⟨A1, c1, A2, c2, h1, h2.mono (fun _ _ => trivial), h3.mono (fun _ _ => trivial), h4⟩)
          have HVA := hide (fun W (hW : Chg (fun _ => False) wq W) => show Calls Tryd.prog 19 #[u7] W fun e w' => ∃ A c, e = .returned (.slice A p c) ∧ Chg (fun _ => False) W w' from
            (vars_any _ u7 _ W (hr7.chg hW (fun _ _ _ => id)) (unhide HLY W ((unhide HC).trans' hW))).mono fun e w' h => by
              obtain ⟨A, c, h1, _, h3⟩ := h
              rw [fv] at h1
              exact ⟨A, c, h1, h3⟩)
          have HFI := hide (fun W v' T' (h : RdD T' W v' l) => show Calls Tryd.prog 9 #[v', .string x.name] W fun e w' => e = .returned (.tuple #[.int .i64 (i : Int), .int .i64 (k : Int), .bool true]) ∧ Chg (fun _ => False) W w' from by
            have := findL_any l v' x.name T' W h (by have := (unhide HBL).1; omega) (fun d hd => by have := ((unhide HBL).2 d hd).1; omega)
            rw [fX_some (unhide HFOX), fY_some (unhide HFOX), unhide HFOX] at this
            exact this)
          have HTY := hide (fun W v' T' (hW : Chg (fun _ => False) wq W) (h : RdNs T' W v' x.args) => show Calls Tryd.prog 12 #[v', u2] W fun e w' => e = .returned (.bool true) ∧ Chg (fun _ => False) W w' from by
            have := types_any x.args x.args v' u2 T' _ W h (hra.chg hW (fun _ _ _ => id)) (by have := hbx.1; omega) (by have := hbx.1; omega) (fun t ht => by have := hbx.2 t ht; omega) (fun t ht => by have := hbx.2 t ht; omega)
            rw [show sameNs x.args x.args = true from sameNs_iff.2 rfl] at this
            exact this)
          obtain ⟨A7, c7, hu7⟩ := hr7.val
          obtain ⟨M, hM⟩ : ∃ M, M = (arrowL x.args (ofL d)).length := ⟨_, rfl⟩
          rw [← hM] at hu7
          subst hu7
          obtain ⟨A8, c8, rfl⟩ := hra.val
          have HOF := hide (show (ofL d)[0]? = some ⟨32, d.name, 0, d.params⟩ from rfl)
          have hwp := wrapP p d hp hp8
          have hwi := wrapQ p d hp hp8
          have hp1 := posP p
          have hp2 := posQ p
          have KSW := hide (show ∀ W', Chg (fun _ => False) wq W' → W'.cell? ⟨sb, so + q * 2, none⟩ = some (.string x.name) ∧ W'.cell? ⟨sb, so + q * 2 + 1, none⟩ = some (.slice A7 M c7) ∧ W'.cell? ⟨b, o + i * 3, none⟩ = some (.string d.name) ∧ W'.cell? ⟨b, o + i * 3 + 1, none⟩ = some (.int .i64 (p : Int)) ∧ W'.cell? ⟨b, o + i * 3 + 2, none⟩ = some (.slice (some ⟨b2, o2, none⟩) d.cons.length c5) ∧ W'.cell? ⟨b2, o2 + k * 2, none⟩ = some (.string x.name) ∧ W'.cell? ⟨b2, o2 + k * 2 + 1, none⟩ = some (.slice A8 x.args.length c8) from fun W' hW => by
            have f : ∀ {p : Addr} {y : Value}, wq.cell? p = some y → W'.cell? p = some y := fun {p y} h => (hW.cell (World.block_lt_of_cell? wq _ h) id).trans h
            exact ⟨f s0, f s1, f z0, f z1, f z2, f g0, f g1⟩)
          have HX := hide ((Chg.refl (fun _ => False) wq).drew)
          have HN_ := hide ((unhide HC).drew)
          clear HC
          have HC := HN_
          have HKK := hide (unhide KSW _ (unhide HX))
          clear HN_ HCH hch hr7 hra hru hy hxm hbx ft fp fv hfe hM hcap7 s0 s1 z0 z1 g0 g1 hcts hnm hp HTL hpn HQN
          go_upto_region 13 with fail
          clear z2
          go_region_held3 (fun W' => W'.cell? ⟨sb, so + q * 2, none⟩ = some (.string x.name) ∧ W'.cell? ⟨sb, so + q * 2 + 1, none⟩ = some (.slice A7 M c7) ∧ W'.cell? ⟨b, o + i * 3, none⟩ = some (.string d.name) ∧ W'.cell? ⟨b, o + i * 3 + 1, none⟩ = some (.int .i64 (p : Int)) ∧ W'.cell? ⟨b, o + i * 3 + 2, none⟩ = some (.slice (some ⟨b2, o2, none⟩) d.cons.length c5) ∧ W'.cell? ⟨b2, o2 + k * 2, none⟩ = some (.string x.name) ∧ W'.cell? ⟨b2, o2 + k * 2 + 1, none⟩ = some (.slice A8 x.args.length c8)) (first | exact unhide HKK | go_keep) (first
            | (go_at_call 14; with_reducible refine (unhide HCK _ (unhide HX)).mono ?_; rintro e w5 ⟨rfl, hch⟩; have HN_ := hide ((unhide HX).trans' hch); clear HX; have HX := HN_; clear HN_; have HN_ := hide ((unhide HC).trans' hch); clear HC; have HC := HN_; clear HN_ hch; clear HKK; have HKK := hide (unhide KSW _ (unhide HX))))
          have kk := unhide HKK
          obtain ⟨k1, k2, k3, k4, k5, k6, k7⟩ := kk
          go_upto_region 16 with (go_at_call 15; with_reducible refine (unhide HPA _ (unhide HX)).mono ?_; rintro e w6 ⟨A1, c1, A2, c9, rfl, hp3, hp4, hch⟩; have HN_ := hide ((unhide HX).trans' hch); clear HX; have HX := HN_; clear HN_; have HN_ := hide ((unhide HC).trans' hch); clear HC; have HC := HN_; clear HN_ hch; clear HKK; have HKK := hide (unhide KSW _ (unhide HX)); have HP1 := hide hp3; have HP2 := hide hp4; clear hp3 hp4)
          have HL6 := hide (show l.length ≤ 1000000 from by have := (unhide HBL).1; omega)
          clear HKK
          have HKK := hide (unhide KSW _ ((unhide HX).drew))
          have HKA := hide (unhide KSW _ (((unhide HX).alloc (.cells #[] 30)).drew))
          go_region_held3 (fun W' => W'.cell? ⟨sb, so + q * 2, none⟩ = some (.string x.name) ∧ W'.cell? ⟨sb, so + q * 2 + 1, none⟩ = some (.slice A7 M c7) ∧ W'.cell? ⟨b, o + i * 3, none⟩ = some (.string d.name) ∧ W'.cell? ⟨b, o + i * 3 + 1, none⟩ = some (.int .i64 (p : Int)) ∧ W'.cell? ⟨b, o + i * 3 + 2, none⟩ = some (.slice (some ⟨b2, o2, none⟩) d.cons.length c5) ∧ W'.cell? ⟨b2, o2 + k * 2, none⟩ = some (.string x.name) ∧ W'.cell? ⟨b2, o2 + k * 2 + 1, none⟩ = some (.slice A8 x.args.length c8)) (first | exact unhide HKK | exact unhide HKA) (first
            | (refine step_copyD _ rfl (.tmp 89) (.tmp 90) rfl _ rfl rfl (unhide HRW _ (unhide HC)) (unhide HL6) ?_; intro vp wp hq hch; have HQ := hide hq; (obtain ⟨Ap, cp, rfl⟩ := hq.val); (have HN_ := hide ((unhide HP1).chg hch (fun _ _ _ => id)); clear HP1; have HP1 := HN_; clear HN_); (have HN_ := hide ((unhide HP2).chg hch (fun _ _ _ => id)); clear HP2; have HP2 := HN_; clear HN_); have HN_ := hide ((unhide HX).trans' hch); clear HX; have HX := HN_; clear HN_; have HN_ := hide ((unhide HC).trans' hch); clear HC; have HC := HN_; clear HN_ hch; clear HKK; have HKK := hide (unhide KSW _ (unhide HX)); clear hq)
            | (go_at_call 9; with_reducible refine (unhide HFI _ _ _ (unhide HQ)).mono ?_; rintro e w7 ⟨rfl, hch⟩; (have HN_ := hide ((unhide HP1).chg hch (fun _ _ _ => id)); clear HP1; have HP1 := HN_; clear HN_); (have HN_ := hide ((unhide HP2).chg hch (fun _ _ _ => id)); clear HP2; have HP2 := HN_; clear HN_); have HN_ := hide ((unhide HX).trans' hch); clear HX; have HX := HN_; clear HN_; have HN_ := hide ((unhide HC).trans' hch); clear HC; have HC := HN_; clear HN_ hch; clear HKK; have HKK := hide (unhide KSW _ (unhide HX)); clear HQ))
          go_upto_region 17 with fail
          obtain ⟨tb, tq, tc, hv5, _, _, _, y1, _, _⟩ := (unhide HP2).at_ (k := 0) (unhide HOF)
          injection hv5 with hv6 hv7 hv8
          subst hv6 hv8
          clear hv7
          rw [Nat.zero_mul, Nat.add_zero] at y1
          have KSW2 := hide (fun W' (hW : Chg (fun _ => False) w7 W') => (hW.cell (World.block_lt_of_cell? w7 _ y1) id).trans y1)
          have HY := hide ((Chg.refl (fun _ => False) w7).drew)
          have HN_ := hide ((unhide HX).drew)
          clear HX
          have HX := HN_
          clear HN_
          have HN_ := hide ((unhide HC).drew)
          clear HC
          have HC := HN_
          clear HN_
          have HN_ := hide ((unhide HP1).chg ((Chg.refl (fun _ => False) w7).drew) (fun _ _ _ => id))
          clear HP1
          have HP1 := HN_
          clear HN_ HKK y1
          have HKK := hide (And.intro (unhide KSW _ (unhide HX)) (unhide KSW2 _ (unhide HY)))
          go_region_held3 (fun W' => (W'.cell? ⟨sb, so + q * 2, none⟩ = some (.string x.name) ∧ W'.cell? ⟨sb, so + q * 2 + 1, none⟩ = some (.slice A7 M c7) ∧ W'.cell? ⟨b, o + i * 3, none⟩ = some (.string d.name) ∧ W'.cell? ⟨b, o + i * 3 + 1, none⟩ = some (.int .i64 (p : Int)) ∧ W'.cell? ⟨b, o + i * 3 + 2, none⟩ = some (.slice (some ⟨b2, o2, none⟩) d.cons.length c5) ∧ W'.cell? ⟨b2, o2 + k * 2, none⟩ = some (.string x.name) ∧ W'.cell? ⟨b2, o2 + k * 2 + 1, none⟩ = some (.slice A8 x.args.length c8)) ∧ W'.cell? ⟨tb, tq + 1, none⟩ = some (.string d.name)) (first | exact unhide HKK | go_keep) (first
            | (go_at_call 12; with_reducible refine (unhide HTY _ _ _ (unhide HX) (unhide HP1)).mono ?_; rintro e w8 ⟨rfl, hch⟩; have HN_ := hide ((unhide HY).trans' hch); clear HY; have HY := HN_; clear HN_; have HN_ := hide ((unhide HX).trans' hch); clear HX; have HX := HN_; clear HN_; have HN_ := hide ((unhide HC).trans' hch); clear HC; have HC := HN_; clear HN_ hch; clear HKK; have HKK := hide (And.intro (unhide KSW _ (unhide HX)) (unhide KSW2 _ (unhide HY))))
            | (go_at_call 19; with_reducible refine (unhide HVA _ (unhide HX)).mono ?_; rintro e w9 ⟨A9, c10, rfl, hch⟩; have HN_ := hide ((unhide HY).trans' hch); clear HY; have HY := HN_; clear HN_; have HN_ := hide ((unhide HX).trans' hch); clear HX; have HX := HN_; clear HN_; have HN_ := hide ((unhide HC).trans' hch); clear HC; have HC := HN_; clear HN_ hch; clear HKK; have HKK := hide (And.intro (unhide KSW _ (unhide HX)) (unhide KSW2 _ (unhide HY)))))
          go_wp2_with fail
          go_roundw
          case rel => exact ⟨k + 1, by rw [unhide HSTP]; exact intv (by rw [w64 _ (by have := RdR.big (unhide HS); omega)]; omega), by go_num, by omega, (unhide HIZ).trans' (unhide HX)⟩
          case measure => simp [intOf]; omega
        · obtain rfl : k = d.cons.length := by omega
          have hkk : ¬ (d.cons.length : Int) < (d.cons.length : Int) := by omega
          have HLQ := hide (congrArg List.length (unhide HNX i d (unhide HD)))
          obtain ⟨B9, c9, rfl⟩ := hru.val
          clear hch hru hp hcts hnm z0 z1
          have hl60 := (unhide HDD).1
          go_wp2_with fail
          go_roundw
          case rel => exact ⟨i + 1, by rw [unhide HLQ], by have := (unhide HDD).1; go_num, by omega, unhide HCH⟩
          case measure => simp [intOf]; omega
    · obtain rfl : i = l.length := by omega
      have hii : ¬ (l.length : Int) < (l.length : Int) := by omega
      have HLQ := hide (congrArg List.length (unhide HEN))
      have HCH := hide hch
      clear hch
      go_wp2_with fail
      go_ret
      exact ⟨retv (boolv (by rw [unhide HLQ]; simp)), (unhide HW0).trans' (unhide HCH)⟩
end Go.Proofs.YticnehmgaklhfaaDoor
