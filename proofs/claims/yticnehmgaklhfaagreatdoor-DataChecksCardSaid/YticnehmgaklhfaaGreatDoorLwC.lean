/-
  Layer 10, the law on the check of declarations, and on what constructors are: it is true of all declarations.
-/
import Derived.Test.YticnehmgaklhfaaGreatDoorAwk2
import Derived.Test.YticnehmgaklhfaaGreatDoorRtl
import Derived.Test.YticnehmgaklhfaaGreatDoorRtm
namespace Go.Proofs.YticnehmgaklhfaaGreatDoor
open Go.RowKit
set_option maxHeartbeats 2000000
set_option maxRecDepth 100000
theorem notF {b : Bool} (h : (!b) = false) : b = true := by cases b <;> simp_all
theorem sigs_count : ∀ (l : List Dt), (∀ d ∈ l, d.cons.length ≤ 70) → (sigsL l).length ≤ 70 * l.length
  | [], _ => Nat.le_refl _
  | d :: l, h => by
    have e : sigsL (d :: l) = (d.cons.map fun c => (⟨c.name, arrowL c.args (ofL d)⟩ : Sg)) ++ sigsL l := rfl
    have h1 := h d List.mem_cons_self
    have h2 := sigs_count l (fun x hx => h x (List.mem_cons_of_mem _ hx))
    rw [e, List.length_append, List.length_map, List.length_cons]
    omega
theorem sigs_types {l : List Dt} (hb : BL l) (hp : ∀ d ∈ l, dtB d = true) : ∀ x ∈ sigsL l, x.type.length ≤ 1000000 := fun x hx => by
  obtain ⟨d, hd, hx⟩ := List.mem_flatMap.1 hx
  obtain ⟨c, hc, rfl⟩ := List.mem_map.1 hx
  have h1 := (hb.2 d hd).2 c hc
  obtain ⟨_, h0, h8, _⟩ := dt_ok (hp d hd)
  have h2 := arrow_size c.args (ofL d) 60 h1.2
  have h3 : c.args.length * (60 + 1) ≤ 10 * 61 := Nat.mul_le_mul_right _ h1.1
  rw [of_len] at h2
  show (arrowL c.args (ofL d)).length ≤ 1000000
  omega
theorem checks_law (l : List Dt) (v : Value) (T : Nat → Prop) (w : World) (hr : RdDq T w v l) (lay : Lay w) :
    Calls Tryz.prog 3 #[v] w fun e w' => e = .returned (.bool true) ∧ Chg (fun _ => False) w w' := by
  have HA := hide (fun W (hW : Chg (fun _ => False) w W) => awake_any W (lay.chg hW (fun _ _ => id)))
  have HF := hide (fun W (hW : Chg (fun _ => False) w W) => show Calls Tryz.prog 6 #[v] W fun e w' => ∃ r : Bool, e = .returned (.bool r) ∧ (r = true → BL l) ∧ Chg (fun _ => False) W w' from few_d l v T W (hr.rd.chg hW (fun _ _ _ => id)))
  have HRW := hide (fun W (hW : Chg (fun _ => False) w W) => hr.rd.chg hW (fun _ _ _ => id))
  have HLN := hide (fun (hb : BL l) => show l.length ≤ 1000000 from by have := hb.1; omega)
  have HRC := hide (fun (hb : BL l) W (hW : Chg (fun _ => False) w W) => refCheck_any l v T W (hr.rd.chg hW (fun _ _ _ => id)) hb)
  have HCK := hide (fun W v' T' (hW : Chg (fun _ => False) w W) (h : RdD T' W v' l) => check_data l v' T' W h (lay.chg hW (fun _ _ => id)))
  have HC := hide (Chg.refl (fun _ => False) w)
  by_cases hE : datasE l = 0
  rotate_left
  · have HSG := hide (fun W v' T' (hW : Chg (fun _ => False) w W) (h : RdD T' W v' l) => show Calls Tryz.prog 8 #[v'] W fun e w' => e = .returned (.tuple #[.slice none 0 0, .int .i64 (datasE l)]) ∧ Chg (fun _ => False) W w' from
      (sigs_any l v' T' W h (lay.chg hW (fun _ _ => id))).mono fun e w' h => by
        obtain ⟨v2, h1, _, h3, h4⟩ := h
        rw [h3 hE] at h1
        exact ⟨h1, h4⟩)
    obtain ⟨A, c, rfl⟩ := hr.rd.val
    have hE' : ¬ datasE l = 0 := hE
    clear hr lay
    generalize datasE l = E at *
    go_enter Tryz.func3, Tryz.ntmps3
    go_wp2_with (first
      | (go_at_call 5; (with_reducible refine (unhide HA _ (unhide HC)).mono ?_); rintro e w2 ⟨rfl, hch⟩; have HN_ := hide ((unhide HC).trans' hch); clear HC; have HC := HN_; clear HN_ hch)
      | (go_at_call 6; (with_reducible refine (unhide HF _ (unhide HC)).mono ?_); rintro e w3 ⟨rb, rfl, hb, hch⟩; have HB := hide hb; clear hb; have HN_ := hide ((unhide HC).trans' hch); clear HC; have HC := HN_; clear HN_ hch)
      | (go_at_call 7; (with_reducible refine (unhide HRC (unhide HB (notF (by assumption))) _ (unhide HC)).mono ?_); rintro e w4 ⟨rfl, hch⟩; have HN_ := hide ((unhide HC).trans' hch); clear HC; have HC := HN_; clear HN_ hch)
      | (at_builtin; refine cpyD _ (by kernel_rfl) (.tmp 17) (.tmp 18) rfl _ rfl rfl (unhide HRW _ (unhide HC)) (unhide HLN (unhide HB (notF (by assumption)))) ?_; intro vq wq hq hcap hch; have HQ := hide hq; (obtain ⟨Aq, cq, rfl⟩ := hq.val); have HN_ := hide ((unhide HC).trans' hch); clear HC; have HC := HN_; clear HN_ hch; clear hq hcap)
      | (go_at_call 8; (with_reducible refine (unhide HSG _ _ _ (unhide HC) (unhide HQ)).mono ?_); rintro e w5 ⟨rfl, hch⟩; have HN_ := hide ((unhide HC).trans' hch); clear HC; have HC := HN_; clear HN_ hch; clear HQ)
      | (at_builtin; refine cpyD _ (by kernel_rfl) (.tmp 23) (.tmp 24) rfl _ rfl rfl (unhide HRW _ (unhide HC)) (unhide HLN (unhide HB (notF (by assumption)))) ?_; intro vq wq hq hcap hch; have HP := hide hq; (obtain ⟨Aq, cq, rfl⟩ := hq.val); have HN_ := hide ((unhide HC).trans' hch); clear HC; have HC := HN_; clear HN_ hch; clear hq hcap)
      | (go_at_call 9; (with_reducible refine (unhide HCK _ _ _ (unhide HC) (unhide HP)).mono ?_); rintro e w6 ⟨rfl, hch⟩; have HN_ := hide ((unhide HC).trans' hch); clear HC; have HC := HN_; clear HN_ hch; clear HP))
    all_goals (go_ret; exact ⟨rfl, unhide HC⟩)
  have HSG := hide (fun W v' T' (hW : Chg (fun _ => False) w W) (h : RdD T' W v' l) => show Calls Tryz.prog 8 #[v'] W fun e w' => ∃ A c, e = .returned (.tuple #[.slice A (sigsL l).length c, .int .i64 0]) ∧ RdS (fun _ => True) w' (.slice A (sigsL l).length c) (sigsL l) ∧ Chg (fun _ => False) W w' from
      (sigs_any l v' T' W h (lay.chg hW (fun _ _ => id))).mono fun e w' h => by
        obtain ⟨v2, h1, h2, _, h4⟩ := h
        have h2 := h2 hE
        rw [hE] at h1
        obtain ⟨A, c, rfl⟩ := RdR.val h2
        exact ⟨A, c, h1, h2.rd.mono (fun _ _ => trivial), h4⟩)
  have hdd := datas_ok hE
  have HRS := hide (fun (hb : BL l) W (hW : Chg (fun _ => False) w W) => refSigs_any l v T W (hr.chg hW (fun _ _ _ => id)) hb hdd.1 hdd.2)
  have HSS := hide (fun (hb : BL l) W v1 v2 T1 T2 (h1 : RdS T1 W v1 (sigsL l)) (h2 : RdS T2 W v2 (sigsL l)) => show Calls Tryz.prog 10 #[v1, v2] W fun e w' => e = .returned (.bool true) ∧ Chg (fun _ => False) W w' from by
    have hc := sigs_count l (fun d hd => (hb.2 d hd).1)
    have hl := hb.1
    have ht := sigs_types hb hdd.2
    have := sameSigs_any (sigsL l) (sigsL l) v1 v2 T1 T2 W h1 h2 (by omega) (by omega) ht ht
    rw [sameS_iff.2 rfl] at this
    exact this)
  rw [hE] at HRC HCK
  obtain ⟨A, c, rfl⟩ := hr.rd.val
  clear hr lay hE hdd
  generalize sigsL l = sl at *
  go_enter Tryz.func3, Tryz.ntmps3
  go_wp2_with (first
    | (go_at_call 5; (with_reducible refine (unhide HA _ (unhide HC)).mono ?_); rintro e w2 ⟨rfl, hch⟩; have HN_ := hide ((unhide HC).trans' hch); clear HC; have HC := HN_; clear HN_ hch)
    | (go_at_call 6; (with_reducible refine (unhide HF _ (unhide HC)).mono ?_); rintro e w3 ⟨rb, rfl, hb, hch⟩; have HB := hide hb; clear hb; have HN_ := hide ((unhide HC).trans' hch); clear HC; have HC := HN_; clear HN_ hch)
    | (go_at_call 7; (with_reducible refine (unhide HRC (unhide HB (notF (by assumption))) _ (unhide HC)).mono ?_); rintro e w4 ⟨rfl, hch⟩; have HN_ := hide ((unhide HC).trans' hch); clear HC; have HC := HN_; clear HN_ hch)
    | (at_builtin; refine cpyD _ (by kernel_rfl) (.tmp 17) (.tmp 18) rfl _ rfl rfl (unhide HRW _ (unhide HC)) (unhide HLN (unhide HB (notF (by assumption)))) ?_; intro vq wq hq hcap hch; have HQ := hide hq; (obtain ⟨Aq, cq, rfl⟩ := hq.val); have HN_ := hide ((unhide HC).trans' hch); clear HC; have HC := HN_; clear HN_ hch; clear hq hcap)
    | (go_at_call 8; (with_reducible refine (unhide HSG _ _ _ (unhide HC) (unhide HQ)).mono ?_); rintro e w5 ⟨As, cs, rfl, hs, hch⟩; have HS := hide hs; have HN_ := hide ((unhide HC).trans' hch); clear HC; have HC := HN_; clear HN_ hch; clear HQ hs)
    | (at_builtin; refine cpyD _ (by kernel_rfl) (.tmp 23) (.tmp 24) rfl _ rfl rfl (unhide HRW _ (unhide HC)) (unhide HLN (unhide HB (notF (by assumption)))) ?_; intro vq wq hq hcap hch; have HP := hide hq; (obtain ⟨Aq, cq, rfl⟩ := hq.val); (have HN_ := hide (RdS.chg (unhide HS) hch (fun _ _ _ => id)); clear HS; have HS := HN_; clear HN_); have HN_ := hide ((unhide HC).trans' hch); clear HC; have HC := HN_; clear HN_ hch; clear hq hcap)
    | (go_at_call 9; (with_reducible refine (unhide HCK _ _ _ (unhide HC) (unhide HP)).mono ?_); rintro e w6 ⟨rfl, hch⟩; (have HN_ := hide (RdS.chg (unhide HS) hch (fun _ _ _ => id)); clear HS; have HS := HN_; clear HN_); have HN_ := hide ((unhide HC).trans' hch); clear HC; have HC := HN_; clear HN_ hch; clear HP)
    | (go_at_call 11; (with_reducible refine (unhide HRS (unhide HB (notF (by assumption))) _ (unhide HC)).mono ?_); rintro e w7 ⟨vr, rfl, hvr, hch⟩; have HR := hide hvr; (obtain ⟨Ar, cr, rfl⟩ := RdR.val hvr); (have HN_ := hide (RdS.chg (unhide HS) hch (fun _ _ _ => id)); clear HS; have HS := HN_; clear HN_); have HN_ := hide ((unhide HC).trans' hch); clear HC; have HC := HN_; clear HN_ hch; clear hvr)
    | (go_at_call 10; (with_reducible refine (unhide HSS (unhide HB (notF (by assumption))) _ _ _ _ _ (unhide HS) (unhide HR)).mono ?_); rintro e w8 ⟨rfl, hch⟩; have HN_ := hide ((unhide HC).trans' hch); clear HC; have HC := HN_; clear HN_ hch))
  all_goals (go_ret; exact ⟨rfl, unhide HC⟩)
end Go.Proofs.YticnehmgaklhfaaGreatDoor
