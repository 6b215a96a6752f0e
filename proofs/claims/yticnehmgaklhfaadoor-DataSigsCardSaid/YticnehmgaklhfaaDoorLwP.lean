/-
  Layer 10, the law on the parts of a type of a function: it is true of all types.
-/
import Derived.Test.YticnehmgaklhfaaDoorAwk2
import Derived.Test.YticnehmgaklhfaaDoorCpy
namespace Go.Proofs.YticnehmgaklhfaaDoor
open Go.RowKit
set_option maxHeartbeats 1000000
set_option maxRecDepth 100000
theorem typE_zero {l : List Nd} : typE l = 0 ↔ typB l = true := by
  unfold typE
  cases typB l <;> simp
theorem few_len {l : List Nd} (h : fewN l = true) : l.length ≤ 60 := by
  unfold fewN at h
  rw [Bool.and_eq_true, decide_eq_true_eq] at h
  exact h.1
theorem typB_cons {l : List Nd} (h : typB l = true) : ∃ n m, l = n :: m := by
  have := (typ_ok h).2.1
  cases l with
  | nil => cases this
  | cons n m => exact ⟨n, m, rfl⟩
theorem arrow_size : ∀ (args : List (List Nd)) (to_ : List Nd) (k : Nat), (∀ a ∈ args, a.length ≤ k) → (arrowL args to_).length ≤ args.length * (k + 1) + to_.length
  | [], _, _, _ => by simp [arrowL]
  | a :: args, to_, k, h => by
    have e : arrowL (a :: args) to_ = ⟨32, ArrowT, 0, 2⟩ :: (a ++ arrowL args to_) := rfl
    have h1 := arrow_size args to_ k (fun b hb => h b (List.mem_cons_of_mem _ hb))
    have h2 := h a List.mem_cons_self
    rw [e, List.length_cons, List.length_append, List.length_cons, Nat.succ_mul]
    omega
/-- The parts of an arrow of types that may be. -/
theorem parts_back {args : List (List Nd)} {n : Nd} {l : List Nd} (h10 : args.length ≤ 10) (ha : ∀ a ∈ args, a.length ≤ 60 ∧ typB a = true) (h0 : l[0]? = some n) (ht : typB l = true) (hl : l.length ≤ 60) (hn : n.text ≠ ArrowT) : partsR (arrowL args l) = (args, l) := by
  obtain ⟨n', m, rfl⟩ := typB_cons ht
  obtain rfl : n' = n := by simpa using h0
  have hw : typB (arrowL args (n' :: m)) = true := by
    unfold typB
    rw [arrow_whole args _ (fun a h => (typ_ok (ha a h).2).2.1) (typ_ok ht).2.1, arrow_nodes (fun a h => (typ_ok (ha a h).2).2.2) (typ_ok ht).2.2, decide_eq_true]
    · rfl
    · have h1 := arrow_size args (n' :: m) 60 (fun a h => (ha a h).1)
      have h2 : args.length * (60 + 1) ≤ 10 * 61 := Nat.mul_le_mul_right _ h10
      omega
  unfold partsR
  rw [hw, if_pos rfl]
  exact parts_arrow args n' m (fun a h => (typ_ok (ha a h).2).2.1) hn
theorem parts_law (args : List (List Nd)) (l : List Nd) (v1 v2 : Value) (T1 T2 : Nat → Prop) (w : World) (hr1 : RdNs T1 w v1 args) (hr2 : RdN T2 w v2 l) (lay : Lay w) :
    Calls Tryd.prog 4 #[v1, v2] w fun e w' => e = .returned (.bool true) ∧ Chg (fun _ => False) w w' := by
  have HA := hide (fun W (hW : Chg (fun _ => False) w W) => awake_any W (lay.chg hW (fun _ _ => id)))
  have HF := hide (fun W (hW : Chg (fun _ => False) w W) => few_n l v2 T2 W (hr2.chg hW (fun _ _ _ => id)))
  have HCK := hide (fun W v T (hW : Chg (fun _ => False) w W) (h : RdN T W v l) => check_any l v T W h (lay.chg hW (fun _ _ => id)))
  have HRT := hide (fun W (hW : Chg (fun _ => False) w W) => hr2.chg hW (fun _ _ _ => id))
  have HRA := hide (fun W (hW : Chg (fun _ => False) w W) => hr1.chg hW (fun _ _ _ => id))
  have HC := hide (Chg.refl (fun _ => False) w)
  have HLY := hide lay
  obtain ⟨A1, c1, rfl⟩ := hr1.val
  by_cases h10 : 10 < args.length
  · have h10' : (10 : Int) < (args.length : Int) := by omega
    obtain ⟨A2, c2, rfl⟩ := hr2.val
    clear hr1 hr2 lay
    go_enter Tryd.func4, Tryd.ntmps4
    go_wp2_with (go_at_call 7; with_reducible refine (unhide HA _ (unhide HC)).mono ?_; rintro e w2 ⟨rfl, hch⟩; have HN_ := hide ((unhide HC).trans' hch); clear HC; have HC := HN_; clear HN_ hch)
    all_goals (go_ret; exact ⟨rfl, unhide HC⟩)
  have h10' : ¬ (10 : Int) < (args.length : Int) := by omega
  have hd10 : decide ((10 : Int) < (args.length : Int)) = false := decide_eq_false h10'
  cases hf : fewN l with
  | false =>
    rw [hf] at HF
    obtain ⟨A2, c2, rfl⟩ := hr2.val
    clear hr1 hr2 lay
    go_enter Tryd.func4, Tryd.ntmps4
    go_wp2_with (first
      | (go_at_call 7; with_reducible refine (unhide HA _ (unhide HC)).mono ?_; rintro e w2 ⟨rfl, hch⟩; have HN_ := hide ((unhide HC).trans' hch); clear HC; have HC := HN_; clear HN_ hch)
      | (go_at_call 13; with_reducible refine (unhide HF _ (unhide HC)).mono ?_; rintro e w3 ⟨rfl, hch⟩; have HN_ := hide ((unhide HC).trans' hch); clear HC; have HC := HN_; clear HN_ hch))
    all_goals (go_ret; exact ⟨rfl, unhide HC⟩)
  | true =>
  rw [hf] at HF
  have HLN := hide (show l.length ≤ 1000000 by have := few_len hf; omega)
  cases ht : typB l with
  | false =>
    have hE : typE l = 90 := by unfold typE; rw [ht]; rfl
    rw [hE] at HCK
    obtain ⟨A2, c2, rfl⟩ := hr2.val
    clear hr1 hr2 lay
    go_enter Tryd.func4, Tryd.ntmps4
    go_wp2_with (first
      | (go_at_call 7; with_reducible refine (unhide HA _ (unhide HC)).mono ?_; rintro e w2 ⟨rfl, hch⟩; have HN_ := hide ((unhide HC).trans' hch); clear HC; have HC := HN_; clear HN_ hch)
      | (go_at_call 13; with_reducible refine (unhide HF _ (unhide HC)).mono ?_; rintro e w3 ⟨rfl, hch⟩; have HN_ := hide ((unhide HC).trans' hch); clear HC; have HC := HN_; clear HN_ hch)
      | (at_builtin; refine cpyN _ (by kernel_rfl) (.tmp 21) (.tmp 22) rfl _ rfl rfl (unhide HRT _ (unhide HC)) (unhide HLN) ?_; intro vq wq hq hcap hch; have HQ := hide hq; (obtain ⟨Aq, cq, rfl⟩ := hq.val); have HN_ := hide ((unhide HC).trans' hch); clear HC; have HC := HN_; clear HN_ hch; clear hq hcap)
      | (go_at_call 14; with_reducible refine (unhide HCK _ _ _ (unhide HC) (unhide HQ)).mono ?_; rintro e w4 ⟨rfl, hch⟩; have HN_ := hide ((unhide HC).trans' hch); clear HC; have HC := HN_; clear HN_ hch; clear HQ))
    all_goals (go_ret; exact ⟨rfl, unhide HC⟩)
  | true =>
  have hE : typE l = 0 := typE_zero.2 ht
  rw [hE] at HCK
  obtain ⟨n, m, hnm⟩ := typB_cons ht
  have h0 : l[0]? = some n := by rw [hnm]; rfl
  obtain ⟨b, o, c2, rfl, _, hns, d0, d1, d2, d3⟩ := hr2.at_ (k := 0) (n := n) h0
  rw [Nat.zero_mul, Nat.add_zero] at d0 d1 d2 d3
  have HD1 := hide (fun W (hW : Chg (fun _ => False) w W) => (hW.cell (World.block_lt_of_cell? w _ d1) id).trans d1)
  have hlen : (0 : Int) < (l.length : Int) := by rw [hnm, List.length_cons]; omega
  have H0 := hide h0
  clear hnm h0
  have htx := text_eq n.text [45, 62]
  have HCX := hide (fun x W v T (hW : Chg (fun _ => False) w W) (h : RdN T W v x) => check_any x v T W h (lay.chg hW (fun _ _ => id)))
  by_cases hn : n.text = ArrowT
  · rw [decide_eq_true (show n.text = ⟨[45, 62].toArray⟩ from hn)] at htx
    have htx2 := htx.symm
    clear hr1 hr2 lay htx hn d0 d1 d2 d3
    go_enter Tryd.func4, Tryd.ntmps4
    go_wp2_with (first
      | (go_at_call 7; with_reducible refine (unhide HA _ (unhide HC)).mono ?_; rintro e w2 ⟨rfl, hch⟩; have HN_ := hide ((unhide HC).trans' hch); clear HC; have HC := HN_; clear HN_ hch)
      | (go_at_call 13; with_reducible refine (unhide HF _ (unhide HC)).mono ?_; rintro e w3 ⟨rfl, hch⟩; have HN_ := hide ((unhide HC).trans' hch); clear HC; have HC := HN_; clear HN_ hch)
      | (at_builtin; refine cpyN _ (by kernel_rfl) (.tmp 21) (.tmp 22) rfl _ rfl rfl (unhide HRT _ (unhide HC)) (unhide HLN) ?_; intro vq wq hq hcap hch; have HQ := hide hq; (obtain ⟨Aq, cq, rfl⟩ := hq.val); have HN_ := hide ((unhide HC).trans' hch); clear HC; have HC := HN_; clear HN_ hch; clear hq hcap)
      | (go_at_call 14; with_reducible refine (unhide HCK _ _ _ (unhide HC) (unhide HQ)).mono ?_; rintro e w4 ⟨rfl, hch⟩; have HN_ := hide ((unhide HC).trans' hch); clear HC; have HC := HN_; clear HN_ hch; have e1 := unhide HD1 _ (unhide HC); clear HQ))
    all_goals (go_ret; exact ⟨rfl, unhide HC⟩)
  rw [decide_eq_false (show ¬ n.text = ⟨[45, 62].toArray⟩ from hn)] at htx
  have htx2 := htx.symm
  have HN := hide hn
  have HT := hide ht
  have HFEW := hide (few_len hf)
  have HLA := hide (show args.length ≤ 1000000 by omega)
  clear hr1 hr2 lay htx hn d0 d1 d2 d3 ht hf hE
  go_enter Tryd.func4, Tryd.ntmps4
  go_upto_region 4 with (first
      | (go_at_call 7; with_reducible refine (unhide HA _ (unhide HC)).mono ?_; rintro e w2 ⟨rfl, hch⟩; have HN_ := hide ((unhide HC).trans' hch); clear HC; have HC := HN_; clear HN_ hch)
      | (go_at_call 13; with_reducible refine (unhide HF _ (unhide HC)).mono ?_; rintro e w3 ⟨rfl, hch⟩; have HN_ := hide ((unhide HC).trans' hch); clear HC; have HC := HN_; clear HN_ hch)
      | (at_builtin; refine cpyN _ (by kernel_rfl) (.tmp 21) (.tmp 22) rfl _ rfl rfl (unhide HRT _ (unhide HC)) (unhide HLN) ?_; intro vq wq hq hcap hch; have HQ := hide hq; (obtain ⟨Aq, cq, rfl⟩ := hq.val); have HN_ := hide ((unhide HC).trans' hch); clear HC; have HC := HN_; clear HN_ hch; clear hq hcap)
      | (go_at_call 14; with_reducible refine (unhide HCK _ _ _ (unhide HC) (unhide HQ)).mono ?_; rintro e w4 ⟨rfl, hch⟩; have HN_ := hide ((unhide HC).trans' hch); clear HC; have HC := HN_; clear HN_ hch; have e1 := unhide HD1 _ (unhide HC); clear HQ))
  go_loopw [5] (fun t wr => ∃ k : Nat, t = .int .i64 (k : Int) ∧ k ≤ args.length ∧ (∀ j a, j < k → args[j]? = some a → a.length ≤ 60 ∧ typB a = true) ∧ Chg (fun _ => False) w wr) (fun t _ => args.length - (intOf t).toNat)
  case atStart => exact ⟨0, rfl, Nat.zero_le _, fun j _ h => absurd h (Nat.not_lt_zero _), unhide HC⟩
  case round =>
    clear HC e1
    obtain ⟨wq, rfl⟩ : ∃ wq : World, wq = wr := ⟨_, rfl⟩
    obtain ⟨k, rfl, hk, hall, hch⟩ := hrel
    have HALL := hide hall
    have HC := hide hch
    have HX := hide (Chg.refl (fun _ => False) wq)
    clear hall hch
    by_cases hlt : k < args.length
    · have hki : (k : Int) < (args.length : Int) := by omega
      have hx : args[k]? = some args[k] := List.getElem?_eq_getElem hlt
      generalize args[k] = x at *
      obtain ⟨b1, o1, c3, u, hv, _, hru, f0⟩ := (unhide HRA _ (unhide HC)).at_ hx
      injection hv with hv1 hv2 hv3
      subst hv1 hv3
      have HFX := hide (fun W (hW : Chg (fun _ => False) wq W) => few_n x u T1 W (hru.chg hW (fun _ _ _ => id)))
      have HRX := hide (fun W (hW : Chg (fun _ => False) wq W) => hru.chg hW (fun _ _ _ => id))
      obtain ⟨B, c5, rfl⟩ := hru.val
      have KSW := hide (fun W (hW : Chg (fun _ => False) wq W) => (hW.cell (World.block_lt_of_cell? wq _ f0) id).trans f0)
      have HX0 := hide hx
      clear hru hx hv2
      cases hfx : fewN x with
      | false =>
        rw [hfx] at HFX
        clear hfx
        go_wp2_with (go_at_call 13; with_reducible refine (unhide HFX _ (unhide HX)).mono ?_; rintro e w3 ⟨rfl, hch⟩; have HN_ := hide ((unhide HX).trans' hch); clear HX; have HX := HN_; clear HN_; have HN_ := hide ((unhide HC).trans' hch); clear HC; have HC := HN_; clear HN_ hch; have f2 := unhide KSW _ (unhide HX); have f3 := cell_alloc f2 (.cells #[] 42))
        go_ret
        exact ⟨rfl, unhide HC⟩
      | true =>
      have HFL := hide (few_len hfx)
      have HLX := hide (show x.length ≤ 1000000 by have := few_len hfx; omega)
      rw [hfx] at HFX
      have HCX2 := hide (fun W v T hW h => unhide HCX x W v T hW h)
      clear HCX
      have HCX := HCX2
      clear HCX2 hfx
      cases htx : typB x with
      | false =>
        have hE : typE x = 90 := by unfold typE; rw [htx]; rfl
        rw [hE] at HCX
        clear htx hE
        go_wp2_with (first
          | (go_at_call 13; with_reducible refine (unhide HFX _ (unhide HX)).mono ?_; rintro e w3 ⟨rfl, hch⟩; have HN_ := hide ((unhide HX).trans' hch); clear HX; have HX := HN_; clear HN_; have HN_ := hide ((unhide HC).trans' hch); clear HC; have HC := HN_; clear HN_ hch; have f2 := unhide KSW _ (unhide HX); have f3 := cell_alloc f2 (.cells #[] 42))
          | (at_builtin; refine cpyN _ (by kernel_rfl) (.tmp 48) (.tmp 52) rfl _ rfl rfl (unhide HRX _ (unhide HX)) (unhide HLX) ?_; intro vq wp hq hcap hch; have HQ := hide hq; (obtain ⟨Aq, cq, rfl⟩ := hq.val); have HN_ := hide ((unhide HX).trans' hch); clear HX; have HX := HN_; clear HN_; have HN_ := hide ((unhide HC).trans' hch); clear HC; have HC := HN_; clear HN_ hch; clear hq hcap)
          | (go_at_call 14; with_reducible refine (unhide HCX _ _ _ (unhide HC) (unhide HQ)).mono ?_; rintro e w4 ⟨rfl, hch⟩; have HN_ := hide ((unhide HX).trans' hch); clear HX; have HX := HN_; clear HN_; have HN_ := hide ((unhide HC).trans' hch); clear HC; have HC := HN_; clear HN_ hch; clear HQ))
        go_ret
        exact ⟨rfl, unhide HC⟩
      | true =>
        have hE : typE x = 0 := typE_zero.2 htx
        rw [hE] at HCX
        have HTX := hide htx
        clear htx hE
        go_wp2_with (first
          | (go_at_call 13; with_reducible refine (unhide HFX _ (unhide HX)).mono ?_; rintro e w3 ⟨rfl, hch⟩; have HN_ := hide ((unhide HX).trans' hch); clear HX; have HX := HN_; clear HN_; have HN_ := hide ((unhide HC).trans' hch); clear HC; have HC := HN_; clear HN_ hch; have f2 := unhide KSW _ (unhide HX); have f3 := cell_alloc f2 (.cells #[] 42))
          | (at_builtin; refine cpyN _ (by kernel_rfl) (.tmp 48) (.tmp 52) rfl _ rfl rfl (unhide HRX _ (unhide HX)) (unhide HLX) ?_; intro vq wp hq hcap hch; have HQ := hide hq; (obtain ⟨Aq, cq, rfl⟩ := hq.val); have HN_ := hide ((unhide HX).trans' hch); clear HX; have HX := HN_; clear HN_; have HN_ := hide ((unhide HC).trans' hch); clear HC; have HC := HN_; clear HN_ hch; clear hq hcap)
          | (go_at_call 14; with_reducible refine (unhide HCX _ _ _ (unhide HC) (unhide HQ)).mono ?_; rintro e w4 ⟨rfl, hch⟩; have HN_ := hide ((unhide HX).trans' hch); clear HX; have HX := HN_; clear HN_; have HN_ := hide ((unhide HC).trans' hch); clear HC; have HC := HN_; clear HN_ hch; clear HQ))
        go_roundw
        case rel =>
          exact ⟨k + 1, by go_num, by omega, fun j a hj ha => by
            rcases Nat.lt_or_ge j k with h | h
            · exact (unhide HALL) j a h ha
            · obtain rfl : j = k := by omega
              have := (unhide HX0).symm.trans ha
              injection this with this
              subst this
              exact ⟨unhide HFL, unhide HTX⟩, unhide HC⟩
        case measure => simp [intOf]; omega
    · obtain rfl : k = args.length := by omega
      have hki : ¬ (args.length : Int) < (args.length : Int) := by omega
      have hall : ∀ a ∈ args, a.length ≤ 60 ∧ typB a = true := fun a ha => by
        obtain ⟨j, hj⟩ := List.mem_iff_getElem?.1 ha
        exact (unhide HALL) j a (List.getElem?_eq_some_iff.1 hj).1 hj
      have hpb := parts_back (by omega) hall (unhide H0) (unhide HT) (unhide HFEW) (unhide HN)
      have hfl := unhide HFEW
      have HAR := hide (fun W v1 v2 T1 T2 (h1 : RdNs T1 W v1 args) (h2 : RdN T2 W v2 l) => arrow_any args l v1 v2 T1 T2 W h1 h2 (by omega) (fun a ha => by have := (hall a ha).1; omega) (by omega))
      have HPA := hide (fun W v T (hW : Chg (fun _ => False) w W) (h : RdN T W v (arrowL args l)) (hc : capOk v) => parts_any _ v T W h hc ((unhide HLY).chg hW (fun _ _ => id)))
      rw [hpb] at HPA
      have HTY := hide (fun W v T (hW : Chg (fun _ => False) w W) (h : RdNs T W v args) => types_any args args v _ T T1 W h (unhide HRA W hW) (by omega) (by omega) (fun a ha => by have := (hall a ha).1; omega) (fun a ha => by have := (hall a ha).1; omega))
      rw [show sameNs args args = true from sameNs_iff.2 rfl] at HTY
      have HSA := hide (fun W v T (hW : Chg (fun _ => False) w W) (h : RdN T W v l) => same_any l l v _ T T2 W h (unhide HRT W hW) (by omega) (by omega))
      rw [show sameN l l = true from sameN_iff.2 rfl] at HSA
      clear hall hpb hfl HALL
      go_wp2_with (first
        | (at_builtin; refine cpyNs _ (by kernel_rfl) (.tmp 58) (.tmp 59) rfl _ rfl rfl (unhide HRA _ (unhide HC)) (unhide HLA) ?_; intro vq wp hq hcap hch; have HQ1 := hide hq; (obtain ⟨Aq, cq, rfl⟩ := hq.val); have HN_ := hide ((unhide HC).trans' hch); clear HC; have HC := HN_; clear HN_ hch; clear hq hcap)
        | (at_builtin; refine cpyN _ (by kernel_rfl) (.tmp 61) (.tmp 62) rfl _ rfl rfl (unhide HRT _ (unhide HC)) (unhide HLN) ?_; intro vp wp2 hq hcap hch; have HQ2 := hide hq; (obtain ⟨Ap, cp, rfl⟩ := hq.val); (have HN_ := hide ((unhide HQ1).chg hch (fun _ _ _ => id)); clear HQ1; have HQ1 := HN_; clear HN_); have HN_ := hide ((unhide HC).trans' hch); clear HC; have HC := HN_; clear HN_ hch; clear hq hcap)
        | (go_at_call 16; with_reducible refine (unhide HAR _ _ _ _ _ (unhide HQ1) (unhide HQ2)).mono ?_; rintro e w5 ⟨va, rfl, hva, hcap, hch⟩; have HV := hide hva; have HCAP := hide hcap; have HN_ := hide ((unhide HC).trans' hch); clear HC; have HC := HN_; clear HN_ hch; clear hva hcap)
        | (go_at_call 15; with_reducible refine (unhide HPA _ _ _ (unhide HC) (unhide HV) (unhide HCAP)).mono ?_; rintro e w6 ⟨va1, va2, rfl, hp1, hp2, hch⟩; have HP1 := hide hp1; have HP2 := hide hp2; have HN_ := hide ((unhide HC).trans' hch); clear HC; have HC := HN_; clear HN_ hch; clear hp1 hp2)
        | (go_at_call 12; with_reducible refine (unhide HTY _ _ _ (unhide HC) (unhide HP1)).mono ?_; rintro e w7 ⟨rfl, hch⟩; (have HN_ := hide ((unhide HP2).chg hch (fun _ _ _ => id)); clear HP2; have HP2 := HN_; clear HN_); have HN_ := hide ((unhide HC).trans' hch); clear HC; have HC := HN_; clear HN_ hch)
        | (go_at_call 17; with_reducible refine (unhide HSA _ _ _ (unhide HC) (unhide HP2)).mono ?_; rintro e w8 ⟨rfl, hch⟩; have HN_ := hide ((unhide HC).trans' hch); clear HC; have HC := HN_; clear HN_ hch))
      go_ret
      exact ⟨rfl, unhide HC⟩
end Go.Proofs.YticnehmgaklhfaaDoor
