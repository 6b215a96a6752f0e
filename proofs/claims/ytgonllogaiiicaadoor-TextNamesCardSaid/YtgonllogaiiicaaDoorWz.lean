/-
  Layer 17: the law TextNames.
-/
import Derived.Test.YtgonllogaiiicaaDoorWy
namespace Go.Proofs.YtgonllogaiiicaaDoor
open Go.RowKit
set_option maxHeartbeats 4000000
set_option maxRecDepth 100000
theorem renT_len {s a b : Bs} (hs : s.length ≤ 600) (hb : b.length ≤ 40) : (renT s a b).length ≤ 400000 := by
  have h1 := lines_le s
  have h2 := joinL_len 640 ((linesL s).map (renLine a b)) (fun y hy => by
    obtain ⟨x, hx, rfl⟩ := List.mem_map.1 hy
    have h3 := renLine_len a b x
    have h4 := line_len hx
    omega)
  rw [List.length_map] at h2
  unfold renT
  omega
theorem textNames_any (s a b : Bs) (w : World) (hl : Lay w) : Calls Tryd.prog 8 #[.string ⟨s.toArray⟩, .string ⟨a.toArray⟩, .string ⟨b.toArray⟩] w fun e w' => e = .returned (.bool true) ∧ Chg (fun _ => False) w w' := by
  have HAW := hide (fun W (hW : Chg (fun _ => False) w W) => awake_any W (hl.chg hW (fun _ _ => id)))
  by_cases h1 : s.length ≤ 600
  · have hl1 : ¬ (600 : Int) < (s.length : Int) := by omega
    by_cases h2 : a.length ≤ 40
    · have hl2 : ¬ (40 : Int) < (a.length : Int) := by omega
      by_cases h3 : b.length ≤ 40
      · have hl3 : ¬ (40 : Int) < (b.length : Int) := by omega
        have hd : (ByteArray.data ⟨s.toArray⟩).toList = s := by simp
        have hln := lines_le s
        have hra := fun W (hW : Chg (fun _ => False) w W) => readAll_any ⟨s.toArray⟩ W (hl.chg hW (fun _ _ => id)) (by rw [bs_size]; omega) (by rw [hd]; omega)
        rw [hd] at hra
        cases hR : readT s with
        | line k =>
          rw [hR] at hra
          have HRA := hide (fun W hW => show Calls Tryd.prog 14 #[.string ⟨s.toArray⟩] W fun e w' => e = .returned (.tuple #[.slice none 0 0, .int .i64 (k : Int), .int .i64 170]) ∧ Chg (fun _ => False) W w' from hra W hW)
          clear hra hR hl hln hd
          go_enter Tryd.func8, Tryd.ntmps8
          go_wp2_with (first
            | (go_at_call 9; (with_reducible refine (unhide HAW _ (Chg.refl _ _)).mono ?_); rintro e w1 ⟨rfl, hc1⟩; have HC1 := hide hc1; clear hc1)
            | (go_at_call 14; (with_reducible refine (unhide HRA _ (unhide HC1)).mono ?_); rintro e w2 ⟨rfl, hc2⟩; have HC2 := hide ((unhide HC1).trans' hc2); clear hc2))
          go_ret
          exact ⟨rfl, unhide HC2⟩
        | label k =>
          rw [hR] at hra
          have HRA := hide (fun W hW => show Calls Tryd.prog 14 #[.string ⟨s.toArray⟩] W fun e w' => e = .returned (.tuple #[.slice none 0 0, .int .i64 (k : Int), .int .i64 171]) ∧ Chg (fun _ => False) W w' from hra W hW)
          clear hra hR hl hln hd
          go_enter Tryd.func8, Tryd.ntmps8
          go_wp2_with (first
            | (go_at_call 9; (with_reducible refine (unhide HAW _ (Chg.refl _ _)).mono ?_); rintro e w1 ⟨rfl, hc1⟩; have HC1 := hide hc1; clear hc1)
            | (go_at_call 14; (with_reducible refine (unhide HRA _ (unhide HC1)).mono ?_); rintro e w2 ⟨rfl, hc2⟩; have HC2 := hide ((unhide HC1).trans' hc2); clear hc2))
          go_ret
          exact ⟨rfl, unhide HC2⟩
        | ok l =>
          have hll := read_len hR
          rw [hR] at hra
          have HRA := hide (fun W hW => show Calls Tryd.prog 14 #[.string ⟨s.toArray⟩] W fun e w' => (∃ A c, e = .returned (.tuple #[.slice A l.length c, .int .i64 0, .int .i64 0]) ∧ Rd (fun k => W.heap.size ≤ k) w' A (l.flatMap insv)) ∧ Chg (fun _ => False) W w' from hra W hW)
          have HNM := hide (fun W => named_any b W (by omega))
          have hus := fun W => uses_any ⟨s.toArray⟩ b W (by rw [bs_size]; omega)
          rw [hd] at hus
          cases hnm : namedB b with
          | false =>
            rw [hnm] at HNM
            clear hra hus hd hR hl hln hll
            go_enter Tryd.func8, Tryd.ntmps8
            go_wp2_with (first
              | (go_at_call 9; (with_reducible refine (unhide HAW _ (Chg.refl _ _)).mono ?_); rintro e w1 ⟨rfl, hc1⟩; have HC1 := hide hc1; clear hc1)
              | (go_at_call 14; (refine (unhide HRA _ (unhide HC1)).mono ?_); rintro e w2 ⟨⟨A2, c2, rfl, hr2⟩, hc2⟩; have HR2 := hide hr2.low; have HC2 := hide ((unhide HC1).trans' hc2); clear hc2 hr2)
              | (go_at_call 23; (with_reducible refine (unhide HNM _).mono ?_); rintro e w3 ⟨rfl, hc3⟩; have HC3 := hide ((unhide HC2).trans' hc3); have HR3 := hide ((unhide HR2).chg hc3 (fun _ _ _ => id)).low; clear hc3))
            go_ret
            exact ⟨rfl, unhide HC3⟩
          | true =>
            rw [hnm] at HNM
            cases hue : usesB ((linesL s).map readL) b ((linesL s).map readL).length with
            | true =>
              rw [hue] at hus
              have HUS := hide hus
              clear hra hus hd hR hl hln hll
              go_enter Tryd.func8, Tryd.ntmps8
              go_wp2_with (first
                | (go_at_call 9; (with_reducible refine (unhide HAW _ (Chg.refl _ _)).mono ?_); rintro e w1 ⟨rfl, hc1⟩; have HC1 := hide hc1; clear hc1)
                | (go_at_call 14; (refine (unhide HRA _ (unhide HC1)).mono ?_); rintro e w2 ⟨⟨A2, c2, rfl, hr2⟩, hc2⟩; have HR2 := hide hr2.low; have HC2 := hide ((unhide HC1).trans' hc2); clear hc2 hr2)
                | (go_at_call 23; (with_reducible refine (unhide HNM _).mono ?_); rintro e w3 ⟨rfl, hc3⟩; have HC3 := hide ((unhide HC2).trans' hc3); have HR3 := hide ((unhide HR2).chg hc3 (fun _ _ _ => id)).low; clear hc3)
                | (go_at_call 24; (with_reducible refine (unhide HUS _).mono ?_); rintro e w4 ⟨rfl, hc4⟩; have HC4 := hide ((unhide HC3).trans' hc4); have HR4 := hide ((unhide HR3).chg hc4 (fun _ _ _ => id)).low; clear hc4))
              go_ret
              exact ⟨rfl, unhide HC4⟩
            | false =>
              rw [hue] at hus
              have HUS := hide hus
              have hlab := named_label hnm
              have hnn := names (a := a) hlab (uses_none hue)
              have hlr := lines_ren s a b hlab
              have hlr2 := congrArg List.length hlr
              rw [List.length_map, List.length_map, List.length_map] at hlr2
              have hrl := renT_len (a := a) h1 h3
              have hd2 : (ByteArray.data ⟨(renT s a b).toArray⟩).toList = renT s a b := by simp
              have hrb := fun W (hW : Chg (fun _ => False) w W) => readAll_any ⟨(renT s a b).toArray⟩ W (hl.chg hW (fun _ _ => id)) (by rw [bs_size]; omega) (by rw [hd2]; omega)
              rw [hd2, hnn, hR] at hrb
              have HRB := hide (fun W hW => show Calls Tryd.prog 14 #[.string ⟨(renT s a b).toArray⟩] W fun e w' => (∃ A c, e = .returned (.tuple #[.slice A l.length c, .int .i64 0, .int .i64 0]) ∧ Rd (fun k => W.heap.size ≤ k) w' A (l.flatMap insv)) ∧ Chg (fun _ => False) W w' from hrb W hW)
              have HRN := hide (fun W (hW : Chg (fun _ => False) w W) bm n (hm : MapS W bm n (fun z => if z = a then some b else none)) => rename_any s a b W (hl.chg hW (fun _ _ => id)) (by omega) (by omega) (by omega) bm n hm)
              have HMO := hide (fun W => map_one W a b (by omega) (by omega))
              have HSM := hide (fun A B c d T T' W (h1 : Rd T W A (l.flatMap insv)) (h2 : Rd T' W B (l.flatMap insv)) => same_self l A B c d T T' W (by omega) h1 h2)
              clear hra hus hrb hd hd2 hR hl hln hll hlab hnn hlr hlr2 hrl hnm hue
              go_enter Tryd.func8, Tryd.ntmps8
              go_upto_region 4 with (first
                | (go_at_call 9; (with_reducible refine (unhide HAW _ (Chg.refl _ _)).mono ?_); rintro e w1 ⟨rfl, hc1⟩; have HC1 := hide hc1; clear hc1)
                | (go_at_call 14; (refine (unhide HRA _ (unhide HC1)).mono ?_); rintro e w2 ⟨⟨A2, c2, rfl, hr2⟩, hc2⟩; have HR2 := hide hr2.low; have HC2 := hide ((unhide HC1).trans' hc2); clear hc2 hr2))
              go_upto_region 6 with (first
                | (go_at_call 23; (with_reducible refine (unhide HNM _).mono ?_); rintro e w3 ⟨rfl, hc3⟩; have HC3 := hide ((unhide HC2).trans' hc3); have HR3 := hide ((unhide HR2).chg hc3 (fun _ _ _ => id)).low; clear hc3)
                | (go_at_call 24; (with_reducible refine (unhide HUS _).mono ?_); rintro e w4 ⟨rfl, hc4⟩; have HC4 := hide ((unhide HC3).trans' hc4); have HR4 := hide ((unhide HR3).chg hc4 (fun _ _ _ => id)).low; clear hc4))
              have hmm := @run_makeMap Tryd.prog
              obtain ⟨w5, hins, hm5, hc5⟩ := unhide HMO w4
              have HM5 := hide hm5
              have HC5 := hide ((unhide HC4).trans' hc5)
              have HR5 := hide ((unhide HR4).chg hc5 (fun _ _ _ => id)).low
              clear hm5 hc5
              go_wp2_with (first
                | (go_at_call 22; (with_reducible refine (unhide HRN _ (unhide HC5) _ _ (unhide HM5)).mono ?_); rintro e w6 ⟨rfl, hc6⟩; have HC6 := hide ((unhide HC5).trans' hc6); have HR6 := hide ((unhide HR5).chg hc6 (fun _ _ _ => id)).low; clear hc6)
                | (go_at_call 14; (refine (unhide HRB _ (unhide HC6)).mono ?_); rintro e w7 ⟨⟨A7, c7, rfl, hr7⟩, hc7⟩; have HR7 := hide hr7.low; have HC7 := hide ((unhide HC6).trans' hc7); have HR27 := hide ((unhide HR6).chg hc7 (fun _ _ _ => id)).low; clear hc7 hr7)
                | (go_at_call 16; (with_reducible refine (unhide HSM _ _ _ _ _ _ _ (unhide HR27) (unhide HR7)).mono ?_); rintro e w8 ⟨rfl, hc8⟩; have HC8 := hide ((unhide HC7).trans' hc8); clear hc8))
              go_ret
              exact ⟨rfl, unhide HC8⟩
      · have hl3 : (40 : Int) < (b.length : Int) := by omega
        clear hl
        go_enter Tryd.func8, Tryd.ntmps8
        go_wp2_with (go_at_call 9; first
          | ((with_reducible refine (unhide HAW _ (unhide HC1)).mono ?_); rintro e w2 ⟨rfl, hc2⟩; have HC2 := hide ((unhide HC1).trans' hc2); clear hc2)
          | ((with_reducible refine (unhide HAW _ (Chg.refl _ _)).mono ?_); rintro e w1 ⟨rfl, hc1⟩; have HC1 := hide hc1; clear hc1))
        go_ret
        exact ⟨rfl, unhide HC2⟩
    · have hl2 : (40 : Int) < (a.length : Int) := by omega
      clear hl
      go_enter Tryd.func8, Tryd.ntmps8
      go_wp2_with (go_at_call 9; first
        | ((with_reducible refine (unhide HAW _ (unhide HC1)).mono ?_); rintro e w2 ⟨rfl, hc2⟩; have HC2 := hide ((unhide HC1).trans' hc2); clear hc2)
        | ((with_reducible refine (unhide HAW _ (Chg.refl _ _)).mono ?_); rintro e w1 ⟨rfl, hc1⟩; have HC1 := hide hc1; clear hc1))
      go_ret
      exact ⟨rfl, unhide HC2⟩
  · have hl1 : (600 : Int) < (s.length : Int) := by omega
    clear hl
    go_enter Tryd.func8, Tryd.ntmps8
    go_wp2_with (go_at_call 9; first
      | ((with_reducible refine (unhide HAW _ (unhide HC1)).mono ?_); rintro e w2 ⟨rfl, hc2⟩; have HC2 := hide ((unhide HC1).trans' hc2); clear hc2)
      | ((with_reducible refine (unhide HAW _ (Chg.refl _ _)).mono ?_); rintro e w1 ⟨rfl, hc1⟩; have HC1 := hide hc1; clear hc1))
    go_ret
    exact ⟨rfl, unhide HC2⟩
end Go.Proofs.YtgonllogaiiicaaDoor
