/-
  Layer 10: the chapter's example holds.
-/
import Derived.Test.YticnehmgaklhfaaGreatDoorAwk
namespace Go.Proofs.YticnehmgaklhfaaGreatDoor
open Go.RowKit
set_option maxHeartbeats 1000000
set_option maxRecDepth 100000
theorem awake_any (w : World) (lay : Lay w) : Calls Tryz.prog 5 #[] w fun e w' => e = .returned (.bool true) ∧ Chg (fun _ => False) w w' := by
  have HLI := hide (fun W => list_any W)
  have HSG := hide (fun W (hW : Chg (fun _ => False) w W) v T (hr : RdD T W v exL) => show Calls Tryz.prog 8 #[v] W fun e w' => ∃ A c, e = .returned (.tuple #[.slice A 2 c, .int .i64 0]) ∧ RdSc (fun _ => True) w' (.slice A 2 c) [⟨NilT, [liN, v0N]⟩, ⟨ConsT, exT⟩] ∧ Chg (fun _ => False) W w' from
    (sigs_any exL v T W hr (lay.chg hW (fun _ _ => id))).mono fun e w' h => by
      obtain ⟨v', h1, h2, _, h4⟩ := h
      rw [exL_ok] at h1
      have h2 := h2 exL_ok
      rw [exL_sigs] at h2
      obtain ⟨A, c, rfl⟩ := RdR.val h2
      exact ⟨A, c, h1, h2.mono (fun _ _ => trivial), h4⟩)
  have HFI := hide (fun W v T (hr : RdD T W v exL) => show Calls Tryz.prog 21 #[v, .string ⟨#[67, 111, 110, 115]⟩] W fun e w' => e = .returned (.tuple #[.int .i64 0, .int .i64 1, .bool true]) ∧ Chg (fun _ => False) W w' from by
    have := findL_any exL v ConsT T W hr (by decide) (by decide)
    rw [exL_find.1, exL_find.2.1, exL_find.2.2] at this
    exact this)
  have HSH := hide (fun W (hW : Chg (fun _ => False) w W) v T (hr : RdN T W v exT) => show_any exT v _ 7 T W hr exT_ok exT_shows (lay.chg hW (fun _ _ => id)))
  have HPA := hide (fun W (hW : Chg (fun _ => False) w W) v T (hr : RdN T W v exT) (hc : capOk v) => show Calls Tryz.prog 14 #[v] W fun e w' => ∃ A1 c1 A2 c2, e = .returned (.tuple #[.slice A1 2 c1, .slice A2 2 c2]) ∧ RdNs (fun _ => True) w' (.slice A1 2 c1) [[v0N], [liN, v0N]] ∧ RdN (fun _ => True) w' (.slice A2 2 c2) [liN, v0N] ∧ Chg (fun _ => False) W w' from
    (parts_any exT v T W hr hc (lay.chg hW (fun _ _ => id))).mono fun e w' h => by
      obtain ⟨v1, v2, h1, h2, h3, h4⟩ := h
      rw [exT_parts] at h2 h3
      obtain ⟨A1, c1, rfl⟩ := RdR.val h2
      obtain ⟨A2, c2, rfl⟩ := RdR.val h3
      exact ⟨A1, c1, A2, c2, h1, h2.mono (fun _ _ => trivial), h3.mono (fun _ _ => trivial), h4⟩)
  have HFA := hide (fun W v T (hr : RdD T W v exL) => show Calls Tryz.prog 23 #[v, .string ⟨#[78, 105, 108]⟩] W fun e w' => ∃ A c, e = .returned (.slice A 2 c) ∧ Chg (fun _ => False) W w' from
    (family_any exL v NilT T W hr (by decide) (by decide)).mono fun e w' h => by
      obtain ⟨v', h1, h2, h3⟩ := h
      obtain ⟨A, c, hv⟩ := RdR.val h2
      rw [exL_fam] at hv
      exact ⟨A, c, by rw [h1, hv], h3⟩)
  have HCK := hide (fun W (hW : Chg (fun _ => False) w W) v T (hr : RdD T W v exL) => show Calls Tryz.prog 9 #[v] W fun e w' => e = .returned (.int .i64 0) ∧ Chg (fun _ => False) W w' from by
    have := check_data exL v T W hr (lay.chg hW (fun _ _ => id))
    rw [exL_ok] at this
    exact this)
  have HAR := hide (fun W v1 v2 T1 T2 (h1 : RdNs T1 W v1 [[v0N], [liN, v0N]]) (h2 : RdN T2 W v2 [liN, v0N]) => show Calls Tryz.prog 13 #[v1, v2] W fun e w' => ∃ v', e = .returned v' ∧ RdN (fun _ => True) w' v' exT ∧ Chg (fun _ => False) W w' from
    (arrow_any _ _ v1 v2 T1 T2 W h1 h2 (by decide) (by decide) (by decide)).mono fun e w' h => by
      obtain ⟨v', h1, h2, _, h4⟩ := h
      rw [exT_arrow] at h2
      exact ⟨v', h1, h2.mono (fun _ _ => trivial), h4⟩)
  have HSM := hide (fun W v1 v2 T1 T2 (h1 : RdN T1 W v1 exT) (h2 : RdN T2 W v2 exT) => show Calls Tryz.prog 15 #[v1, v2] W fun e w' => e = .returned (.bool true) ∧ Chg (fun _ => False) W w' from by
    have := same_any exT exT v1 v2 T1 T2 W h1 h2 (by decide) (by decide)
    rw [show sameN exT exT = true by kernel_rfl] at this
    exact this)
  have HCQ := hide (Chg.refl (fun _ => False) w)
  clear lay
  go_enter Tryz.func5, Tryz.ntmps5
  go_upto_region 5 with (first
    | (go_at_call 20; with_reducible refine (unhide HLI _).mono ?_; rintro e w2 ⟨v2, rfl, hr2, hch⟩; have HR := hide hr2; (first | (have HN_ := hide ((unhide HS).chg hch (fun _ _ _ => id)); clear HS; have HS := HN_; clear HN_) | skip); (first | (have HN_ := hide ((unhide HP1).chg hch (fun _ _ _ => id)); clear HP1; have HP1 := HN_; clear HN_) | skip); (first | (have HN_ := hide ((unhide HP2).chg hch (fun _ _ _ => id)); clear HP2; have HP2 := HN_; clear HN_) | skip); have HN_ := hide ((unhide HCQ).trans' hch); clear HCQ; have HCQ := HN_; clear HN_ hch; clear hr2)
    | (go_at_call 8; with_reducible refine (unhide HSG _ (unhide HCQ) _ _ (unhide HR)).mono ?_; rintro e w3 ⟨As, cs, rfl, hs, hch⟩; have HS := hide hs; (first | (have HN_ := hide ((unhide HS).chg hch (fun _ _ _ => id)); clear HS; have HS := HN_; clear HN_) | skip); (first | (have HN_ := hide ((unhide HP1).chg hch (fun _ _ _ => id)); clear HP1; have HP1 := HN_; clear HN_) | skip); (first | (have HN_ := hide ((unhide HP2).chg hch (fun _ _ _ => id)); clear HP2; have HP2 := HN_; clear HN_) | skip); have HN_ := hide ((unhide HCQ).trans' hch); clear HCQ; have HCQ := HN_; clear HN_ hch; clear hs HR)
    | (go_at_call 21; with_reducible refine (unhide HFI _ _ _ (unhide HR)).mono ?_; rintro e w4 ⟨rfl, hch⟩; (first | (have HN_ := hide ((unhide HS).chg hch (fun _ _ _ => id)); clear HS; have HS := HN_; clear HN_) | skip); (first | (have HN_ := hide ((unhide HP1).chg hch (fun _ _ _ => id)); clear HP1; have HP1 := HN_; clear HN_) | skip); (first | (have HN_ := hide ((unhide HP2).chg hch (fun _ _ _ => id)); clear HP2; have HP2 := HN_; clear HN_) | skip); have HN_ := hide ((unhide HCQ).trans' hch); clear HCQ; have HCQ := HN_; clear HN_ hch; clear HR))
  obtain ⟨b, o, c, u, hv, _, hu, _, hcp, _, d1⟩ := (unhide HS).at_ (k := 1) rfl
  injection hv with hv1 _ _
  subst hv1
  have HU := hide hu
  have HCP := hide hcp
  obtain ⟨A6, c6, hu6⟩ := hu.val
  have hu7 : u = .slice A6 7 c6 := hu6
  subst hu7
  clear hu hcp hu6
  have HSR := hide (fun W (hW : Chg (fun _ => False) w4 W) => (hW.cell (World.block_lt_of_cell? w4 _ d1) id).trans d1)
  have HUR := hide (fun W (hW : Chg (fun _ => False) w4 W) => (unhide HU).chg hW (fun _ _ _ => id))
  have HX := hide (Chg.refl (fun _ => False) w4)
  go_upto_region 7 with (first
    | (go_at_call 22; with_reducible refine (unhide HSH _ (unhide HCQ) _ _ (unhide HUR _ (unhide HX))).mono ?_; rintro e w5 ⟨rfl, hch⟩; have HY := hide hch; (first | (have HN_ := hide ((unhide HS).chg hch (fun _ _ _ => id)); clear HS; have HS := HN_; clear HN_) | skip); (first | (have HN_ := hide ((unhide HP1).chg hch (fun _ _ _ => id)); clear HP1; have HP1 := HN_; clear HN_) | skip); (first | (have HN_ := hide ((unhide HP2).chg hch (fun _ _ _ => id)); clear HP2; have HP2 := HN_; clear HN_) | skip); have HN_ := hide ((unhide HCQ).trans' hch); clear HCQ; have HCQ := HN_; clear HN_ hch; have d5 := unhide HSR _ (unhide HY))
    | (go_at_call 14; with_reducible refine (unhide HPA _ (unhide HCQ) _ _ (unhide HUR _ (unhide HY)) (unhide HCP)).mono ?_; rintro e w6 ⟨A1, c1, A2, c2, rfl, hp1, hp2, hch⟩; have HZ := hide ((unhide HY).trans' hch); (first | (have HN_ := hide ((unhide HS).chg hch (fun _ _ _ => id)); clear HS; have HS := HN_; clear HN_) | skip); (first | (have HN_ := hide ((unhide HP1).chg hch (fun _ _ _ => id)); clear HP1; have HP1 := HN_; clear HN_) | skip); (first | (have HN_ := hide ((unhide HP2).chg hch (fun _ _ _ => id)); clear HP2; have HP2 := HN_; clear HN_) | skip); have HN_ := hide ((unhide HCQ).trans' hch); clear HCQ; have HCQ := HN_; clear HN_ hch; have d6 := unhide HSR _ (unhide HZ); have HP1 := hide hp1; have HP2 := hide hp2; clear hp1 hp2))
  have z6 : w6.cell? ⟨b, o + 2 + 1, none⟩ = some (.slice A6 7 c6) := d6
  clear HX HY
  have HY := hide ((Chg.refl (fun _ => False) w6).drew)
  have HN_ := hide ((unhide HCQ).drew); clear HCQ; have HCQ := HN_; clear HN_
  have HN_ := hide ((unhide HP1).chg ((Chg.refl (fun _ => False) w6).drew) (fun _ _ _ => id)); clear HP1; have HP1 := HN_; clear HN_
  have HN_ := hide ((unhide HP2).chg ((Chg.refl (fun _ => False) w6).drew) (fun _ _ _ => id)); clear HP2; have HP2 := HN_; clear HN_
  have KSW := hide (show ∀ W, Chg (fun _ => False) w6 W → W.cell? ⟨b, o + 2 + 1, none⟩ = some (.slice A6 7 c6) from fun W hW => (hW.cell (World.block_lt_of_cell? w6 _ z6) id).trans z6)
  have HZ6 := hide (unhide HZ)
  have UR6 := hide (fun W (hW : Chg (fun _ => False) w6 W) => unhide HUR _ ((unhide HZ).trans' hW))
  have HKK := hide (unhide KSW _ ((Chg.refl _ _).drew))
  go_region_held3 (fun W' => W'.cell? ⟨b, o + 2 + 1, none⟩ = some (.slice A6 7 c6)) (first | exact unhide HKK | go_keep) (first
    | (go_at_call 20; with_reducible refine (unhide HLI _).mono ?_; rintro e w7 ⟨v7, rfl, hr7, hch⟩; (try clear HR); have HR := hide hr7; (have HN_ := hide ((unhide HY).trans' hch); clear HY; have HY := HN_; clear HN_); (first | (have HN_ := hide ((unhide HS).chg hch (fun _ _ _ => id)); clear HS; have HS := HN_; clear HN_) | skip); (first | (have HN_ := hide ((unhide HP1).chg hch (fun _ _ _ => id)); clear HP1; have HP1 := HN_; clear HN_) | skip); (first | (have HN_ := hide ((unhide HP2).chg hch (fun _ _ _ => id)); clear HP2; have HP2 := HN_; clear HN_) | skip); have HN_ := hide ((unhide HCQ).trans' hch); clear HCQ; have HCQ := HN_; clear HN_ hch; clear HKK; have HKK := hide (unhide KSW _ (unhide HY)); clear hr7)
    | (go_at_call 23; with_reducible refine (unhide HFA _ _ _ (unhide HR)).mono ?_; rintro e w8 ⟨A8, c8, rfl, hch⟩; (have HN_ := hide ((unhide HY).trans' hch); clear HY; have HY := HN_; clear HN_); (first | (have HN_ := hide ((unhide HS).chg hch (fun _ _ _ => id)); clear HS; have HS := HN_; clear HN_) | skip); (first | (have HN_ := hide ((unhide HP1).chg hch (fun _ _ _ => id)); clear HP1; have HP1 := HN_; clear HN_) | skip); (first | (have HN_ := hide ((unhide HP2).chg hch (fun _ _ _ => id)); clear HP2; have HP2 := HN_; clear HN_) | skip); have HN_ := hide ((unhide HCQ).trans' hch); clear HCQ; have HCQ := HN_; clear HN_ hch; clear HKK; have HKK := hide (unhide KSW _ (unhide HY)))
    | (go_at_call 9; with_reducible refine (unhide HCK _ (unhide HCQ) _ _ (unhide HR)).mono ?_; rintro e w9 ⟨rfl, hch⟩; (have HN_ := hide ((unhide HY).trans' hch); clear HY; have HY := HN_; clear HN_); (first | (have HN_ := hide ((unhide HS).chg hch (fun _ _ _ => id)); clear HS; have HS := HN_; clear HN_) | skip); (first | (have HN_ := hide ((unhide HP1).chg hch (fun _ _ _ => id)); clear HP1; have HP1 := HN_; clear HN_) | skip); (first | (have HN_ := hide ((unhide HP2).chg hch (fun _ _ _ => id)); clear HP2; have HP2 := HN_; clear HN_) | skip); have HN_ := hide ((unhide HCQ).trans' hch); clear HCQ; have HCQ := HN_; clear HN_ hch; clear HKK; have HKK := hide (unhide KSW _ (unhide HY)))
    | (go_at_call 13; with_reducible refine (unhide HAR _ _ _ _ _ (unhide HP1) (unhide HP2)).mono ?_; rintro e wa ⟨va, rfl, hra, hch⟩; have HRA := hide hra; (have HN_ := hide ((unhide HY).trans' hch); clear HY; have HY := HN_; clear HN_); (first | (have HN_ := hide ((unhide HS).chg hch (fun _ _ _ => id)); clear HS; have HS := HN_; clear HN_) | skip); (first | (have HN_ := hide ((unhide HP1).chg hch (fun _ _ _ => id)); clear HP1; have HP1 := HN_; clear HN_) | skip); (first | (have HN_ := hide ((unhide HP2).chg hch (fun _ _ _ => id)); clear HP2; have HP2 := HN_; clear HN_) | skip); have HN_ := hide ((unhide HCQ).trans' hch); clear HCQ; have HCQ := HN_; clear HN_ hch; clear HKK; have HKK := hide (unhide KSW _ (unhide HY)); clear hra)
    | (go_at_call 15; with_reducible refine (unhide HSM _ _ _ _ _ (unhide HRA) (unhide UR6 _ (unhide HY))).mono ?_; rintro e wb ⟨rfl, hch⟩; (have HN_ := hide ((unhide HY).trans' hch); clear HY; have HY := HN_; clear HN_); (first | (have HN_ := hide ((unhide HS).chg hch (fun _ _ _ => id)); clear HS; have HS := HN_; clear HN_) | skip); (first | (have HN_ := hide ((unhide HP1).chg hch (fun _ _ _ => id)); clear HP1; have HP1 := HN_; clear HN_) | skip); (first | (have HN_ := hide ((unhide HP2).chg hch (fun _ _ _ => id)); clear HP2; have HP2 := HN_; clear HN_) | skip); have HN_ := hide ((unhide HCQ).trans' hch); clear HCQ; have HCQ := HN_; clear HN_ hch; clear HKK; have HKK := hide (unhide KSW _ (unhide HY))))
  go_wp2_with fail
  go_ret
  exact ⟨rfl, unhide HCQ⟩
end Go.Proofs.YticnehmgaklhfaaGreatDoor
