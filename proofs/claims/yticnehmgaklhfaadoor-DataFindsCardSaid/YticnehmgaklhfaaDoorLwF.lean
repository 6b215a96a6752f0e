/-
  Layer 10, the law on finding: it is true of all declarations and of all names.
-/
import Derived.Test.YticnehmgaklhfaaDoorAwk2
import Derived.Test.YticnehmgaklhfaaDoorCpy
import Derived.Test.YticnehmgaklhfaaDoorEc
namespace Go.Proofs.YticnehmgaklhfaaDoor
open Go.RowKit
set_option maxHeartbeats 1000000
set_option maxRecDepth 100000
theorem finds_law (l : List Dt) (v : Value) (con : ByteArray) (T : Nat → Prop) (w : World) (hr : RdD T w v l) (lay : Lay w) :
    Calls Tryd.prog 3 #[v, .string con] w fun e w' => e = .returned (.bool true) ∧ Chg (fun _ => False) w w' := by
  have HA := hide (fun W (hW : Chg (fun _ => False) w W) => awake_any W (lay.chg hW (fun _ _ => id)))
  have HF := hide (fun W (hW : Chg (fun _ => False) w W) => show Calls Tryd.prog 8 #[v] W fun e w' => ∃ r : Bool, e = .returned (.bool r) ∧ (r = true → BL l) ∧ Chg (fun _ => False) W w' from few_d l v T W (hr.chg hW (fun _ _ _ => id)))
  have HRF := hide (fun W (hW : Chg (fun _ => False) w W) (hb : BL l) => refFind_any l v con T W (hr.chg hW (fun _ _ _ => id)) (by have := hb.1; omega) (fun d hd => by have := (hb.2 d hd).1; omega))
  have HFI := hide (fun W v' T' (hb : BL l) (h : RdD T' W v' l) => findL_any l v' con T' W h (by have := hb.1; omega) (fun d hd => by have := (hb.2 d hd).1; omega))
  have HFA := hide (fun W v' T' (hb : BL l) (h : RdD T' W v' l) => family_any l v' con T' W h (by have := hb.1; omega) (fun d hd => by have := (hb.2 d hd).1; omega))
  have HRW := hide (fun W (hW : Chg (fun _ => False) w W) => hr.chg hW (fun _ _ _ => id))
  have HLN := hide (fun (hb : BL l) => show l.length ≤ 1000000 from by have := hb.1; omega)
  have HC := hide (Chg.refl (fun _ => False) w)
  by_cases h60 : 60 < con.size
  · have h60' : (60 : Int) < (con.size : Int) := by omega
    obtain ⟨A, c, rfl⟩ := hr.val
    clear hr lay
    go_enter Tryd.func3, Tryd.ntmps3
    go_wp2_with (first
      | (go_at_call 7; with_reducible refine (unhide HA _ (unhide HC)).mono ?_; rintro e w2 ⟨rfl, hch⟩; have HN_ := hide ((unhide HC).trans' hch); clear HC; have HC := HN_; clear HN_ hch)
      | (go_at_call 8; with_reducible refine (unhide HF _ (unhide HC)).mono ?_; rintro e w3 ⟨rb, rfl, hb, hch⟩; have HB := hide hb; clear hb; have HN_ := hide ((unhide HC).trans' hch); clear HC; have HC := HN_; clear HN_ hch))
    all_goals (go_ret; exact ⟨rfl, unhide HC⟩)
  have h60' : ¬ (60 : Int) < (con.size : Int) := by omega
  cases hf : findL l con with
  | none =>
    rw [famL_none hf] at HFA
    rw [hf, fX_none hf, fY_none hf] at HFI HRF
    simp only [Option.isSome_none] at HFI HRF
    obtain ⟨A, c, rfl⟩ := hr.val
    clear hr lay hf
    go_enter Tryd.func3, Tryd.ntmps3
    go_wp2_with (first
      | (go_at_call 7; with_reducible refine (unhide HA _ (unhide HC)).mono ?_; rintro e w2 ⟨rfl, hch⟩; have HN_ := hide ((unhide HC).trans' hch); clear HC; have HC := HN_; clear HN_ hch)
      | (go_at_call 8; with_reducible refine (unhide HF _ (unhide HC)).mono ?_; rintro e w3 ⟨rb, rfl, hb, hch⟩; have HB := hide hb; clear hb; have HN_ := hide ((unhide HC).trans' hch); clear HC; have HC := HN_; clear HN_ hch)
      | (at_builtin; first | (refine cpyD _ rfl (.tmp 27) (.tmp 28) rfl _ rfl rfl (unhide HRW _ (unhide HC)) (unhide HLN (unhide HB (by assumption))) ?_; intro vq wq hq hcap hch; have HQ := hide hq; (obtain ⟨Aq, cq, rfl⟩ := hq.val); have HN_ := hide ((unhide HC).trans' hch); clear HC; have HC := HN_; clear HN_ hch; clear hq hcap) | (refine cpyD _ rfl (.tmp 42) (.tmp 43) rfl _ rfl rfl (unhide HRW _ (unhide HC)) (unhide HLN (unhide HB (by assumption))) ?_; intro vq wq hq hcap hch; have HQ := hide hq; (obtain ⟨Aq, cq, rfl⟩ := hq.val); have HN_ := hide ((unhide HC).trans' hch); clear HC; have HC := HN_; clear HN_ hch; clear hq hcap))
      | (go_at_call 9; with_reducible refine (unhide HFI _ _ _ (unhide HB (by assumption)) (unhide HQ)).mono ?_; rintro e w4 ⟨rfl, hch⟩; have HN_ := hide ((unhide HC).trans' hch); clear HC; have HC := HN_; clear HN_ hch; clear HQ)
      | (go_at_call 10; with_reducible refine (unhide HRF _ (unhide HC) (unhide HB (by assumption))).mono ?_; rintro e w5 ⟨rfl, hch⟩; have HN_ := hide ((unhide HC).trans' hch); clear HC; have HC := HN_; clear HN_ hch)
      | (go_at_call 11; go_loud (with_reducible refine (unhide HFA _ _ _ (unhide HB (by assumption)) (unhide HQ)).mono ?_; rintro e w6 ⟨vf, rfl, hv, hch⟩); go_loud (have HV := hide hv; (obtain ⟨Af, cf, rfl⟩ := hv.val); have HN_ := hide ((unhide HC).trans' hch); clear HC; have HC := HN_; clear HN_ hch; have HCF := HC; clear HQ hv)))
    all_goals (go_ret; exact ⟨rfl, unhide HC⟩)
  | some r =>
    obtain ⟨i, k⟩ := r
    obtain ⟨d, x0, hd, hk, _⟩ := findL_at hf
    rw [famL_some hf hd] at HFA
    rw [hf, fX_some hf, fY_some hf] at HFI HRF
    simp only [Option.isSome_some] at HFI HRF
    have hi : (i : Int) < (l.length : Int) := by have := (List.getElem?_eq_some_iff.1 hd).1; omega
    have HBD := hide (fun (hb : BL l) => hb.2 d (List.mem_of_getElem? hd))
    obtain ⟨b, o, c2, u, rfl, _, hru, hns, c0, c1, c3⟩ := hr.at_ hd
    have HU := hide (fun W (hW : Chg (fun _ => False) w W) => hru.chg hW (fun _ _ _ => id))
    have HK := hide (fun W (hW : Chg (fun _ => False) w W) => (hW.cell (World.block_lt_of_cell? w _ c3) id).trans c3)
    obtain ⟨b2, o2, c5, u5, rfl, _⟩ := hru.at_ hk
    clear hr lay hf hd hru c0 c1 c3
    go_enter Tryd.func3, Tryd.ntmps3
    go_upto_region 10 with (first
      | (go_at_call 7; with_reducible refine (unhide HA _ (unhide HC)).mono ?_; rintro e w2 ⟨rfl, hch⟩; have HN_ := hide ((unhide HC).trans' hch); clear HC; have HC := HN_; clear HN_ hch)
      | (go_at_call 8; with_reducible refine (unhide HF _ (unhide HC)).mono ?_; rintro e w3 ⟨rb, rfl, hb, hch⟩; have HB := hide hb; clear hb; have HN_ := hide ((unhide HC).trans' hch); clear HC; have HC := HN_; clear HN_ hch)
      | (at_builtin; first | (refine cpyD _ rfl (.tmp 27) (.tmp 28) rfl _ rfl rfl (unhide HRW _ (unhide HC)) (unhide HLN (unhide HB (by assumption))) ?_; intro vq wq hq hcap hch; have HQ := hide hq; (obtain ⟨Aq, cq, rfl⟩ := hq.val); have HN_ := hide ((unhide HC).trans' hch); clear HC; have HC := HN_; clear HN_ hch; clear hq hcap) | (refine cpyD _ rfl (.tmp 42) (.tmp 43) rfl _ rfl rfl (unhide HRW _ (unhide HC)) (unhide HLN (unhide HB (by assumption))) ?_; intro vq wq hq hcap hch; have HQ := hide hq; (obtain ⟨Aq, cq, rfl⟩ := hq.val); have HN_ := hide ((unhide HC).trans' hch); clear HC; have HC := HN_; clear HN_ hch; clear hq hcap))
      | (go_at_call 9; with_reducible refine (unhide HFI _ _ _ (unhide HB (by assumption)) (unhide HQ)).mono ?_; rintro e w4 ⟨rfl, hch⟩; have HN_ := hide ((unhide HC).trans' hch); clear HC; have HC := HN_; clear HN_ hch; clear HQ)
      | (go_at_call 10; with_reducible refine (unhide HRF _ (unhide HC) (unhide HB (by assumption))).mono ?_; rintro e w5 ⟨rfl, hch⟩; have HN_ := hide ((unhide HC).trans' hch); clear HC; have HC := HN_; clear HN_ hch)
      | (go_at_call 11; go_loud (with_reducible refine (unhide HFA _ _ _ (unhide HB (by assumption)) (unhide HQ)).mono ?_; rintro e w6 ⟨vf, rfl, hv, hch⟩); go_loud (have HV := hide hv; (obtain ⟨Af, cf, rfl⟩ := hv.val); have HN_ := hide ((unhide HC).trans' hch); clear HC; have HC := HN_; clear HN_ hch; have HCF := HC; clear HQ hv)))
    rotate_left
    · go_ret
      exact ⟨rfl, unhide HC⟩
    have HBD2 := hide (unhide HBD (unhide HB (by assumption)))
    have hd70 := (unhide HBD2).1
    have c3 := unhide HK _ (unhide HC)
    go_upto_region 13 with fail
    go_loopw [12] (fun t wr => ∃ j : Nat, t = .int .i64 (j : Int) ∧ j ≤ d.cons.length ∧ Chg (fun _ => False) w6 wr) (fun t _ => d.cons.length - (intOf t).toNat)
    case atStart => exact ⟨0, rfl, Nat.zero_le _, Chg.refl _ _⟩
    case round =>
      obtain ⟨wq, rfl⟩ : ∃ wq : World, wq = wr := ⟨_, rfl⟩
      obtain ⟨j, rfl, hj, hch⟩ := hrel
      by_cases hlt : j < d.cons.length
      · have hjj : (j : Int) < (d.cons.length : Int) := by omega
        have hx : d.cons[j]? = some d.cons[j] := List.getElem?_eq_getElem hlt
        have hbc := (unhide HBD2).2 d.cons[j] (List.getElem_mem hlt)
        generalize d.cons[j] = x at *
        obtain ⟨fb, fo, fc, u7, hv7, _, hr7, _, f0, f1⟩ := ((unhide HV).chg hch (fun _ _ _ => id)).at_ hx
        injection hv7 with hv1 hv2 hv3
        subst hv1 hv3
        have hcw := (unhide HC).trans' hch
        have c3q := unhide HK _ hcw
        obtain ⟨b8, o8, c8, u8, hv8, _, hr8, _, g0, g1⟩ := (unhide HU _ hcw).at_ hx
        injection hv8 with hw1 hw2 hw3
        injection hw1 with hw1
        injection hw1 with hw1 hw4
        subst hw1 hw4 hw3
        have HT := hide (fun W (hW : Chg (fun _ => False) wq W) => types_any x.args x.args u7 u8 _ _ W (hr7.chg hW (fun _ _ _ => id)) (hr8.chg hW (fun _ _ _ => id)) (by have := hbc.1; omega) (by have := hbc.1; omega) (fun t ht => by have := hbc.2 t ht; omega) (fun t ht => by have := hbc.2 t ht; omega))
        rw [show sameNs x.args x.args = true from sameNs_iff.2 rfl] at HT
        obtain ⟨A7, c7, rfl⟩ := hr7.val
        obtain ⟨A8, c8, rfl⟩ := hr8.val
        have KSW := hide (show ∀ W', Chg (fun _ => False) wq W' → W'.cell? ⟨fb, fo + j * 2, none⟩ = some (.string x.name) ∧ W'.cell? ⟨fb, fo + j * 2 + 1, none⟩ = some (.slice A7 x.args.length c7) ∧ W'.cell? ⟨b, o + i * 3 + 2, none⟩ = some (.slice (some ⟨b2, o2, none⟩) d.cons.length c5) ∧ W'.cell? ⟨b2, o2 + j * 2, none⟩ = some (.string x.name) ∧ W'.cell? ⟨b2, o2 + j * 2 + 1, none⟩ = some (.slice A8 x.args.length c8) from fun W' hW => by
          have f : ∀ {p : Addr} {y : Value}, wq.cell? p = some y → W'.cell? p = some y := fun {p y} h => (hW.cell (World.block_lt_of_cell? wq _ h) id).trans h
          exact ⟨f f0, f f1, f c3q, f g0, f g1⟩)
        have HCQ : Hid (Chg (fun _ => False) wq wq.drew) := hide (Chg.drew (Chg.refl _ _))
        have HKK := hide (unhide KSW _ (unhide HCQ))
        have HCH := hide hch
        clear f0 f1 c3q g0 g1 hr7 hr8 hcw hch c3 hv2 hw2 hx
        go_upto_region 15 with fail
        go_region_held3 (fun W' => W'.cell? ⟨fb, fo + j * 2, none⟩ = some (.string x.name) ∧ W'.cell? ⟨fb, fo + j * 2 + 1, none⟩ = some (.slice A7 x.args.length c7) ∧ W'.cell? ⟨b, o + i * 3 + 2, none⟩ = some (.slice (some ⟨b2, o2, none⟩) d.cons.length c5) ∧ W'.cell? ⟨b2, o2 + j * 2, none⟩ = some (.string x.name) ∧ W'.cell? ⟨b2, o2 + j * 2 + 1, none⟩ = some (.slice A8 x.args.length c8)) (first | exact unhide HKK | go_keep) (first
          | (go_at_call 12; (with_reducible refine (unhide HT _ (unhide HCQ)).mono ?_); rintro e w7 ⟨rfl, hc7⟩; have HN_ := hide ((unhide HCQ).trans' hc7); clear HCQ; have HCQ := HN_; clear HN_ HKK; have HKK := hide (unhide KSW _ (unhide HCQ)); clear hc7))
        go_wp2_with fail
        go_roundw
        case rel => exact ⟨j + 1, by go_num, by omega, (unhide HCH).trans' (unhide HCQ)⟩
        case measure => simp [intOf]; omega
      · obtain rfl : j = d.cons.length := by omega
        have hjj : ¬ (d.cons.length : Int) < (d.cons.length : Int) := by omega
        have HCH := hide hch
        clear hch
        go_wp2_with fail
        go_ret
        exact ⟨rfl, (unhide HC).trans' (unhide HCH)⟩
end Go.Proofs.YticnehmgaklhfaaDoor
