/-
  Layer 10, the law on the type of a function: it is true of all things.
-/
import Derived.Test.YticnehmgaklhfaaGreatDoorAwk2
import Derived.Test.YticnehmgaklhfaaGreatDoorCpy
import Derived.Test.YticnehmgaklhfaaGreatDoorRte
import Derived.Test.YticnehmgaklhfaaGreatDoorRtf
namespace Go.Proofs.YticnehmgaklhfaaGreatDoor
open Go.RowKit
set_option maxHeartbeats 2000000
set_option maxRecDepth 100000
theorem partsG_sizes : ∀ (f : Nat) (t : List Nd), (∀ x ∈ (partsG f t).1, x.length ≤ t.length) ∧ (partsG f t).2.length ≤ t.length
  | 0, t => by simp [partsG]
  | f + 1, t => by
    unfold partsG
    cases t with
    | nil => simp
    | cons n l =>
      dsimp only
      split
      · cases eat l 1 with
        | none => simp
        | some k =>
          dsimp only
          have h := partsG_sizes f (l.drop k)
          rw [List.length_drop] at h
          rw [List.length_cons]
          refine ⟨fun x hx => ?_, by have := h.2; omega⟩
          rcases List.mem_cons.1 hx with rfl | hx
          · rw [List.length_take]; omega
          · have := h.1 x hx; omega
      · simp
theorem parts_sizes (t : List Nd) : (∀ x ∈ (partsL t).1, x.length ≤ t.length) ∧ (partsL t).2.length ≤ t.length := partsG_sizes t.length t
theorem arrows_law (args : List (List Nd)) (l : List Nd) (v1 v2 : Value) (T1 T2 : Nat → Prop) (w : World) (hr1 : RdNs T1 w v1 args) (hcap : capOk v1) (hr2 : RdN T2 w v2 l) (lay : Lay w) :
    Calls Tryz.prog 4 #[v1, v2] w fun e w' => e = .returned (.bool true) ∧ Chg (fun _ => False) w w' := by
  have HA := hide (fun W (hW : Chg (fun _ => False) w W) => awake_any W (lay.chg hW (fun _ _ => id)))
  have HF := hide (fun W (hW : Chg (fun _ => False) w W) => few_n l v2 T2 W (hr2.chg hW (fun _ _ _ => id)))
  have HRT := hide (fun W (hW : Chg (fun _ => False) w W) => hr2.chg hW (fun _ _ _ => id))
  have HRA := hide (fun W (hW : Chg (fun _ => False) w W) => hr1.chg hW (fun _ _ _ => id))
  have HC := hide (Chg.refl (fun _ => False) w)
  have HLY := hide lay
  have HCP := hide hcap
  obtain ⟨A1, c1, rfl⟩ := hr1.val
  obtain ⟨A2, c2, rfl⟩ := hr2.val
  by_cases h10 : 10 < args.length
  · have h10' : (10 : Int) < (args.length : Int) := by omega
    clear hr1 hr2 lay hcap
    go_enter Tryz.func4, Tryz.ntmps4
    go_wp2_with (go_at_call 5; (with_reducible refine (unhide HA _ (unhide HC)).mono ?_); rintro e w2 ⟨rfl, hch⟩; have HN_ := hide ((unhide HC).trans' hch); clear HC; have HC := HN_; clear HN_; clear hch)
    all_goals (go_ret; exact ⟨rfl, unhide HC⟩)
  have h10' : ¬ (10 : Int) < (args.length : Int) := by omega
  have hd10 : decide ((10 : Int) < (args.length : Int)) = false := decide_eq_false h10'
  cases hf : fewN l with
  | false =>
    rw [hf] at HF
    clear hr1 hr2 lay hcap
    go_enter Tryz.func4, Tryz.ntmps4
    go_wp2_with (first
      | (go_at_call 5; (with_reducible refine (unhide HA _ (unhide HC)).mono ?_); rintro e w2 ⟨rfl, hch⟩; have HN_ := hide ((unhide HC).trans' hch); clear HC; have HC := HN_; clear HN_; clear hch)
      | (go_at_call 12; (with_reducible refine (unhide HF _ (unhide HC)).mono ?_); rintro e w3 ⟨rfl, hch⟩; have HN_ := hide ((unhide HC).trans' hch); clear HC; have HC := HN_; clear HN_; clear hch))
    all_goals (go_ret; exact ⟨rfl, unhide HC⟩)
  | true =>
  rw [hf] at HF
  have HLN := hide (show l.length ≤ 1000000 by have := few_len hf; omega)
  have HFEW := hide (few_len hf)
  have HLA := hide (show args.length ≤ 1000000 by omega)
  clear hr1 hr2 lay hcap hf
  go_enter Tryz.func4, Tryz.ntmps4
  go_upto_region 4 with (first
    | (go_at_call 5; (with_reducible refine (unhide HA _ (unhide HC)).mono ?_); rintro e w2 ⟨rfl, hch⟩; have HN_ := hide ((unhide HC).trans' hch); clear HC; have HC := HN_; clear HN_; clear hch)
    | (go_at_call 12; (with_reducible refine (unhide HF _ (unhide HC)).mono ?_); rintro e w3 ⟨rfl, hch⟩; have HN_ := hide ((unhide HC).trans' hch); clear HC; have HC := HN_; clear HN_; clear hch))
  go_loopw [5] (fun t wr => ∃ k : Nat, t = .int .i64 (k : Int) ∧ k ≤ args.length ∧ (∀ j a, j < k → args[j]? = some a → a.length ≤ 60) ∧ Chg (fun _ => False) w wr) (fun t _ => args.length - (intOf t).toNat)
  case atStart => exact ⟨0, rfl, Nat.zero_le _, fun j _ h => absurd h (Nat.not_lt_zero _), unhide HC⟩
  case round =>
    clear HC
    obtain ⟨wq, rfl⟩ : ∃ wq : World, wq = wr := ⟨_, rfl⟩
    obtain ⟨k, rfl, hk, hall, hch⟩ := hrel
    have HALL := hide hall
    have HC := hide hch
    have HX := hide (Chg.refl (fun _ => False) wq)
    clear hall hch
    by_cases hlt : k < args.length
    · have hki : (k : Int) < (args.length : Int) := by omega
      have hx : args[k]? = some args[k] := List.getElem?_eq_getElem hlt
      generalize args[k] = x at *
      obtain ⟨b1, o1, c3, u, hv, _, hru, f0⟩ := (unhide HRA _ (unhide HC)).at_ hx
      injection hv with hv1 hv2 hv3
      subst hv1 hv3
      have HFX := hide (fun W (hW : Chg (fun _ => False) wq W) => few_n x u T1 W (hru.chg hW (fun _ _ _ => id)))
      obtain ⟨B, c5, rfl⟩ := hru.val
      have HX0 := hide hx
      clear hru hx hv2
      cases hfx : fewN x with
      | false =>
        rw [hfx] at HFX
        clear hfx
        go_wp2_with (go_at_call 12; (with_reducible refine (unhide HFX _ (unhide HX)).mono ?_); rintro e w3 ⟨rfl, hch⟩; have HN_ := hide ((unhide HX).trans' hch); clear HX; have HX := HN_; clear HN_; have HN_ := hide ((unhide HC).trans' hch); clear HC; have HC := HN_; clear HN_; clear hch)
        go_ret
        exact ⟨rfl, unhide HC⟩
      | true =>
        have HFL := hide (few_len hfx)
        rw [hfx] at HFX
        clear hfx
        go_wp2_with (go_at_call 12; (with_reducible refine (unhide HFX _ (unhide HX)).mono ?_); rintro e w3 ⟨rfl, hch⟩; have HN_ := hide ((unhide HX).trans' hch); clear HX; have HX := HN_; clear HN_; have HN_ := hide ((unhide HC).trans' hch); clear HC; have HC := HN_; clear HN_; clear hch)
        go_roundw
        case rel =>
          exact ⟨k + 1, by go_num, by omega, fun j a hj ha => by
            rcases Nat.lt_or_ge j k with h | h
            · exact (unhide HALL) j a h ha
            · obtain rfl : j = k := by omega
              have := (unhide HX0).symm.trans ha
              injection this with this
              subst this
              exact unhide HFL, unhide HC⟩
        case measure => simp [intOf]; omega
    · obtain rfl : k = args.length := by omega
      have hki : ¬ (args.length : Int) < (args.length : Int) := by omega
      have hall : ∀ a ∈ args, a.length ≤ 60 := fun a ha => by
        obtain ⟨j, hj⟩ := List.mem_iff_getElem?.1 ha
        exact (unhide HALL) j a (List.getElem?_eq_some_iff.1 hj).1 hj
      have hfl := unhide HFEW
      have hsz := arrow_size args l 60 hall
      have hsz2 : args.length * (60 + 1) ≤ 10 * 61 := Nat.mul_le_mul_right _ (by omega)
      obtain ⟨R, hR⟩ : ∃ R, R = arrowL args l := ⟨_, rfl⟩
      have HAR := hide (fun W v1 v2 T1 T2 (h1 : RdNs T1 W v1 args) (h2 : RdN T2 W v2 l) => arrow_any args l v1 v2 T1 T2 W h1 h2 (by omega) (fun a ha => by have := hall a ha; omega) (by omega))
      have HRR := hide (fun W (hW : Chg (fun _ => False) w W) => refArrow_any args.length args l _ _ _ _ W rfl (unhide HRA W hW) (unhide HCP) (unhide HRT W hW) (by omega) hall (by omega))
      rw [← hR] at HAR HRR hsz
      have hRl : R.length ≤ 1000 := by omega
      have HLR := hide (show R.length ≤ 1000000 by omega)
      have HSA := hide (fun W v1 v2 T1 T2 (h1 : RdN T1 W v1 R) (h2 : RdN T2 W v2 R) => same_any R R v1 v2 T1 T2 W h1 h2 (by omega) (by omega))
      rw [show sameN R R = true from sameN_iff.2 rfl] at HSA
      have HRG := hide (fun W v T (h : RdN T W v R) => refRight_t R v T W h)
      have HPA := hide (fun W v T (hW : Chg (fun _ => False) w W) (h : RdN T W v R) (hc : capOk v) => parts_any R v T W h hc ((unhide HLY).chg hW (fun _ _ => id)))
      cases ht : typB R with
      | false =>
        have hP : partsR R = ([], []) := by unfold partsR; rw [ht]; rfl
        rw [hP] at HPA
        rw [ht] at HRG
        clear hall hfl hsz hsz2 hR HALL hRl ht hP
        go_wp2_with (first
          | (at_builtin; refine cpyNs _ (by kernel_rfl) (.tmp 36) (.tmp 37) rfl _ rfl rfl (unhide HRA _ (unhide HC)) (unhide HLA) ?_; intro vq wp hq hcap hch; have HQ1 := hide hq; (obtain ⟨Aq, cq, rfl⟩ := hq.val); have HN_ := hide ((unhide HC).trans' hch); clear HC; have HC := HN_; clear HN_; clear hq hcap hch)
          | (at_builtin; refine cpyN _ (by kernel_rfl) (.tmp 39) (.tmp 40) rfl _ rfl rfl (unhide HRT _ (unhide HC)) (unhide HLN) ?_; intro vp wp2 hq hcap hch; have HQ2 := hide hq; (obtain ⟨Ap, cp, rfl⟩ := hq.val); (have HN_ := hide ((unhide HQ1).chg hch (fun _ _ _ => id)); clear HQ1; have HQ1 := HN_; clear HN_); have HN_ := hide ((unhide HC).trans' hch); clear HC; have HC := HN_; clear HN_; clear hq hcap hch)
          | (go_at_call 13; (with_reducible refine (unhide HAR _ _ _ _ _ (unhide HQ1) (unhide HQ2)).mono ?_); rintro e w5 ⟨va, rfl, hva, hcap, hch⟩; (obtain ⟨At, ct, rfl⟩ := hva.val); have HV := hide hva; have HCAP := hide hcap; have HN_ := hide ((unhide HC).trans' hch); clear HC; have HC := HN_; clear HN_; clear hva hcap hch)
          | (at_builtin; refine cpyN _ (by kernel_rfl) (.tmp 44) (.tmp 45) rfl _ rfl rfl (unhide HV) (unhide HLR) ?_; intro vs wp3 hq hcap hch; have HQ3 := hide hq; have HC3 := hide hcap; (obtain ⟨As, cs, rfl⟩ := hq.val); (have HN_ := hide ((unhide HV).chg hch (fun _ _ _ => id)); clear HV; have HV := HN_; clear HN_); have HN_ := hide ((unhide HC).trans' hch); clear HC; have HC := HN_; clear HN_; clear hq hcap hch)
          | (go_at_call 14; (with_reducible refine (unhide HPA _ _ _ (unhide HC) (unhide HQ3) (unhide HC3)).mono ?_); rintro e w6 ⟨va1, va2, rfl, hp1, hp2, hch⟩; (obtain ⟨A1', c1', rfl⟩ := hp1.val); (obtain ⟨A2', c2', rfl⟩ := hp2.val); have HP1 := hide hp1; have HP2 := hide hp2; (have HN_ := hide ((unhide HV).chg hch (fun _ _ _ => id)); clear HV; have HV := HN_; clear HN_); have HN_ := hide ((unhide HC).trans' hch); clear HC; have HC := HN_; clear HN_; clear hp1 hp2 hch)
          | (go_at_call 16; (with_reducible refine (unhide HRR _ (unhide HC)).mono ?_); rintro e w7 ⟨vr, rfl, hvr, hch⟩; (obtain ⟨Ar, cr, rfl⟩ := hvr.val); have HVR := hide hvr; (have HN_ := hide ((unhide HV).chg hch (fun _ _ _ => id)); clear HV; have HV := HN_; clear HN_); (have HN_ := hide ((unhide HP1).chg hch (fun _ _ _ => id)); clear HP1; have HP1 := HN_; clear HN_); (have HN_ := hide ((unhide HP2).chg hch (fun _ _ _ => id)); clear HP2; have HP2 := HN_; clear HN_); have HN_ := hide ((unhide HC).trans' hch); clear HC; have HC := HN_; clear HN_; clear hvr hch)
          | (go_at_call 15; (with_reducible refine (unhide HSA _ _ _ _ _ (unhide HV) (unhide HVR)).mono ?_); rintro e w8 ⟨rfl, hch⟩; (have HN_ := hide ((unhide HV).chg hch (fun _ _ _ => id)); clear HV; have HV := HN_; clear HN_); (have HN_ := hide ((unhide HP1).chg hch (fun _ _ _ => id)); clear HP1; have HP1 := HN_; clear HN_); (have HN_ := hide ((unhide HP2).chg hch (fun _ _ _ => id)); clear HP2; have HP2 := HN_; clear HN_); have HN_ := hide ((unhide HC).trans' hch); clear HC; have HC := HN_; clear HN_; clear hch)
          | (go_at_call 17; (with_reducible refine (unhide HRG _ _ _ (unhide HV)).mono ?_); rintro e w9 ⟨rfl, hch⟩; (have HN_ := hide ((unhide HV).chg hch (fun _ _ _ => id)); clear HV; have HV := HN_; clear HN_); (have HN_ := hide ((unhide HP1).chg hch (fun _ _ _ => id)); clear HP1; have HP1 := HN_; clear HN_); (have HN_ := hide ((unhide HP2).chg hch (fun _ _ _ => id)); clear HP2; have HP2 := HN_; clear HN_); have HN_ := hide ((unhide HC).trans' hch); clear HC; have HC := HN_; clear HN_; clear hch))
        go_ret
        exact ⟨rfl, unhide HC⟩
      | true =>
        have hP : partsR R = partsL R := by unfold partsR; rw [ht]; rfl
        obtain ⟨ht4, htw, htn⟩ := typ_ok ht
        have hps := parts_sizes R
        have hpc := partsG_count R.length R
        have HRP := hide (fun W v T (h : RdN T W v R) (hc : capOk v) => refParts_any R.length R v T W (Nat.le_refl _) h hc ht4 (whole_iff.1 htw).2 htn)
        rw [hP] at HPA
        rw [ht] at HRG
        have hpc2 : (partsL R).1.length ≤ R.length := hpc
        generalize partsL R = PR at *
        obtain ⟨P1, P2⟩ := PR
        dsimp only at HPA HRP hps hpc2
        have HTY := hide (fun W v1 v2 T1 T2 (h1 : RdNs T1 W v1 P1) (h2 : RdNs T2 W v2 P1) => types_any P1 P1 v1 v2 T1 T2 W h1 h2 (by omega) (by omega) (fun a ha => by have := hps.1 a ha; omega) (fun a ha => by have := hps.1 a ha; omega))
        rw [show sameNs P1 P1 = true from sameNs_iff.2 rfl] at HTY
        have HSD := hide (fun W v1 v2 T1 T2 (h1 : RdN T1 W v1 P2) (h2 : RdN T2 W v2 P2) => same_any P2 P2 v1 v2 T1 T2 W h1 h2 (by have := hps.2; omega) (by have := hps.2; omega))
        rw [show sameN P2 P2 = true from sameN_iff.2 rfl] at HSD
        clear hall hfl hsz hsz2 hR HALL hRl ht hP ht4 htw htn hps hpc hpc2
        go_wp2_with (first
          | (at_builtin; refine cpyNs _ (by kernel_rfl) (.tmp 36) (.tmp 37) rfl _ rfl rfl (unhide HRA _ (unhide HC)) (unhide HLA) ?_; intro vq wp hq hcap hch; have HQ1 := hide hq; (obtain ⟨Aq, cq, rfl⟩ := hq.val); have HN_ := hide ((unhide HC).trans' hch); clear HC; have HC := HN_; clear HN_; clear hq hcap hch)
          | (at_builtin; refine cpyN _ (by kernel_rfl) (.tmp 39) (.tmp 40) rfl _ rfl rfl (unhide HRT _ (unhide HC)) (unhide HLN) ?_; intro vp wp2 hq hcap hch; have HQ2 := hide hq; (obtain ⟨Ap, cp, rfl⟩ := hq.val); (have HN_ := hide ((unhide HQ1).chg hch (fun _ _ _ => id)); clear HQ1; have HQ1 := HN_; clear HN_); have HN_ := hide ((unhide HC).trans' hch); clear HC; have HC := HN_; clear HN_; clear hq hcap hch)
          | (go_at_call 13; (with_reducible refine (unhide HAR _ _ _ _ _ (unhide HQ1) (unhide HQ2)).mono ?_); rintro e w5 ⟨va, rfl, hva, hcap, hch⟩; (obtain ⟨At, ct, rfl⟩ := hva.val); have HV := hide hva; have HCAP := hide hcap; have HN_ := hide ((unhide HC).trans' hch); clear HC; have HC := HN_; clear HN_; clear hva hcap hch)
          | (at_builtin; refine cpyN _ (by kernel_rfl) (.tmp 44) (.tmp 45) rfl _ rfl rfl (unhide HV) (unhide HLR) ?_; intro vs wp3 hq hcap hch; have HQ3 := hide hq; have HC3 := hide hcap; (obtain ⟨As, cs, rfl⟩ := hq.val); (have HN_ := hide ((unhide HV).chg hch (fun _ _ _ => id)); clear HV; have HV := HN_; clear HN_); have HN_ := hide ((unhide HC).trans' hch); clear HC; have HC := HN_; clear HN_; clear hq hcap hch)
          | (go_at_call 14; (with_reducible refine (unhide HPA _ _ _ (unhide HC) (unhide HQ3) (unhide HC3)).mono ?_); rintro e w6 ⟨va1, va2, rfl, hp1, hp2, hch⟩; (obtain ⟨A1', c1', rfl⟩ := hp1.val); (obtain ⟨A2', c2', rfl⟩ := hp2.val); have HP1 := hide hp1; have HP2 := hide hp2; (have HN_ := hide ((unhide HV).chg hch (fun _ _ _ => id)); clear HV; have HV := HN_; clear HN_); have HN_ := hide ((unhide HC).trans' hch); clear HC; have HC := HN_; clear HN_; clear hp1 hp2 hch)
          | (go_at_call 16; (with_reducible refine (unhide HRR _ (unhide HC)).mono ?_); rintro e w7 ⟨vr, rfl, hvr, hch⟩; (obtain ⟨Ar, cr, rfl⟩ := hvr.val); have HVR := hide hvr; (have HN_ := hide ((unhide HV).chg hch (fun _ _ _ => id)); clear HV; have HV := HN_; clear HN_); (have HN_ := hide ((unhide HP1).chg hch (fun _ _ _ => id)); clear HP1; have HP1 := HN_; clear HN_); (have HN_ := hide ((unhide HP2).chg hch (fun _ _ _ => id)); clear HP2; have HP2 := HN_; clear HN_); have HN_ := hide ((unhide HC).trans' hch); clear HC; have HC := HN_; clear HN_; clear hvr hch)
          | (go_at_call 15; (with_reducible refine (unhide HSA _ _ _ _ _ (unhide HV) (unhide HVR)).mono ?_); rintro e w8 ⟨rfl, hch⟩; (have HN_ := hide ((unhide HV).chg hch (fun _ _ _ => id)); clear HV; have HV := HN_; clear HN_); (have HN_ := hide ((unhide HP1).chg hch (fun _ _ _ => id)); clear HP1; have HP1 := HN_; clear HN_); (have HN_ := hide ((unhide HP2).chg hch (fun _ _ _ => id)); clear HP2; have HP2 := HN_; clear HN_); have HN_ := hide ((unhide HC).trans' hch); clear HC; have HC := HN_; clear HN_; clear hch)
          | (go_at_call 17; (with_reducible refine (unhide HRG _ _ _ (unhide HV)).mono ?_); rintro e w9 ⟨rfl, hch⟩; (have HN_ := hide ((unhide HV).chg hch (fun _ _ _ => id)); clear HV; have HV := HN_; clear HN_); (have HN_ := hide ((unhide HP1).chg hch (fun _ _ _ => id)); clear HP1; have HP1 := HN_; clear HN_); (have HN_ := hide ((unhide HP2).chg hch (fun _ _ _ => id)); clear HP2; have HP2 := HN_; clear HN_); have HN_ := hide ((unhide HC).trans' hch); clear HC; have HC := HN_; clear HN_; clear hch)
          | (go_at_call 18; (with_reducible refine (unhide HRP _ _ _ (unhide HV) (unhide HCAP)).mono ?_); rintro e wa ⟨vc, vd, rfl, hr1, hr2, hch⟩; (obtain ⟨A3', c3', rfl⟩ := hr1.val); (obtain ⟨A4', c4', rfl⟩ := hr2.val); have HR1 := hide hr1; have HR2 := hide hr2; (have HN_ := hide ((unhide HP1).chg hch (fun _ _ _ => id)); clear HP1; have HP1 := HN_; clear HN_); (have HN_ := hide ((unhide HP2).chg hch (fun _ _ _ => id)); clear HP2; have HP2 := HN_; clear HN_); have HN_ := hide ((unhide HC).trans' hch); clear HC; have HC := HN_; clear HN_; clear hr1 hr2 hch)
          | (go_at_call 19; (with_reducible refine (unhide HTY _ _ _ _ _ (unhide HP1) (unhide HR1)).mono ?_); rintro e wb ⟨rfl, hch⟩; (have HN_ := hide ((unhide HP2).chg hch (fun _ _ _ => id)); clear HP2; have HP2 := HN_; clear HN_); (have HN_ := hide ((unhide HR2).chg hch (fun _ _ _ => id)); clear HR2; have HR2 := HN_; clear HN_); have HN_ := hide ((unhide HC).trans' hch); clear HC; have HC := HN_; clear HN_; clear hch)
          | (go_at_call 15; (with_reducible refine (unhide HSD _ _ _ _ _ (unhide HP2) (unhide HR2)).mono ?_); rintro e wc ⟨rfl, hch⟩; have HN_ := hide ((unhide HC).trans' hch); clear HC; have HC := HN_; clear HN_; clear hch))
        go_ret
        exact ⟨rfl, unhide HC⟩
end Go.Proofs.YticnehmgaklhfaaGreatDoor
