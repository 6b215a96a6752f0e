/-
  Layer 23: the law: what is decoded, encoded, is what it was.
-/
import Derived.Test.YtinekmjengckdaaGreatDoorM36
import Derived.Test.YtinekmjengckdaaGreatDoorM37
import Derived.Test.YtinekmjengckdaaGreatDoorM39
namespace Go.Proofs.YtinekmjengckdaaGreatDoor
open Go.RowKit
set_option maxHeartbeats 4000000
set_option maxRecDepth 100000
theorem only_law (s : ByteArray) (w : World) (hs : s.size ≤ 9223372036854775807) (lay : Lay w) :
    Calls Tryz.prog 6 #[.string s] w fun e w' => e = .returned (.bool true) ∧ Chg (fun _ => False) w w' := by
  have HA := hide (fun W (hW : Chg (fun _ => False) w W) => awake_any W (lay.chg hW (fun _ _ => id)))
  have HD := hide (Chg.refl (fun _ => False) w)
  by_cases h6 : 600 < s.size
  · have h6' : (600 : Int) < (s.size : Int) := by omega
    clear lay
    go_enter Tryz.func6, Tryz.ntmps6
    go_wp2_with (go_at_call 9; (with_reducible refine (unhide HA _ (unhide HD)).mono ?_); rintro e w2 ⟨rfl, hc2⟩; have HN_ := hide ((unhide HD).trans' hc2); clear HD; have HD := HN_; clear HN_ hc2)
    go_ret
    exact ⟨rfl, unhide HD⟩
  have h6' : ¬ (600 : Int) < (s.size : Int) := by omega
  cases hg : decG (ifcB ltS) s.data.toList with
  | none =>
    have HDE := hide (fun W (hW : Chg (fun _ => False) w W) => show Calls Tryz.prog 20 #[.string s] W fun e w' => ∃ B1 b1 B2 b2 B3 b3 B4 b4, e = .returned (.tuple #[.agg #[.string ⟨#[]⟩, .slice B1 0 b1, .slice B2 0 b2, .slice B3 0 b3, .slice B4 0 b4], .int .i64 231]) ∧ RdIf (fun _ => True) w' ⟨⟨#[]⟩, [], [], [], []⟩ (.slice B1 0 b1) (.slice B2 0 b2) (.slice B3 0 b3) (.slice B4 0 b4) ∧ Chg (fun _ => False) W w' from
      (decode_any s W (by omega) (lay.chg hW (fun _ _ => id))).mono fun e w' h => by
        obtain ⟨j, vo, vd, vf, vs, g1, g2, g3, g4, _⟩ := h
        rw [hg] at g1 g3
        obtain rfl : j = ⟨⟨#[]⟩, [], [], [], []⟩ := g3
        obtain ⟨A1, a1, hv1⟩ := RdR.val g4.opens
        obtain ⟨A2, a2, hv2⟩ := RdR.val g4.datas
        obtain ⟨A3, a3, hv3⟩ := RdR.val g4.fixes
        obtain ⟨A4, a4, hv4⟩ := RdR.val g4.sigs
        subst hv1 hv2 hv3 hv4
        exact ⟨A1, a1, A2, a2, A3, a3, A4, a4, g1, g4.mono (fun _ _ => trivial), g2⟩)
    have HSM := hide (fun W B1 b1 B2 b2 B3 b3 B4 b4 (h : RdIf (fun _ => True) W ⟨⟨#[]⟩, [], [], [], []⟩ (.slice B1 0 b1) (.slice B2 0 b2) (.slice B3 0 b3) (.slice B4 0 b4)) => show Calls Tryz.prog 14 #[.agg #[.string ⟨#[]⟩, .slice B1 0 b1, .slice B2 0 b2, .slice B3 0 b3, .slice B4 0 b4], .agg #[.string ⟨#[]⟩, .slice none 0 0, .slice none 0 0, .slice none 0 0, .slice none 0 0]] W fun e w' => e = .returned (.bool true) ∧ Chg (fun _ => False) W w' from by
      have := refSame_any _ _ _ _ _ _ _ _ _ _ _ _ W h (ex0_rd W) empty_ifl empty_ifl
      rw [(ifS_iff _ _).2 rfl] at this
      exact this)
    clear lay hg h6
    go_enter Tryz.func6, Tryz.ntmps6
    go_upto_region 4 with (first
      | (go_at_call 9; (with_reducible refine (unhide HA _ (unhide HD)).mono ?_); rintro e w2 ⟨rfl, hc2⟩; have HN_ := hide ((unhide HD).trans' hc2); clear HD; have HD := HN_; clear HN_ hc2)
      | (go_at_call 20; (with_reducible refine (unhide HDE _ (unhide HD)).mono ?_); rintro e w3 ⟨B1, b1, B2, b2, B3, b3, B4, b4, rfl, hd, hc2⟩; have HN_ := hide ((unhide HD).trans' hc2); clear HD; have HD := HN_; clear HN_ hc2; have HDR := hide hd; clear hd))
    have bk := Blk.new w3 27 #[.string ⟨#[]⟩, .slice B1 0 b1, .slice B2 0 b2, .slice B3 0 b3, .slice B4 0 b4]
    have hc0 : Chg (fun _ => False) w3 (w3.alloc (.cells #[.string ⟨#[]⟩, .slice B1 0 b1, .slice B2 0 b2, .slice B3 0 b3, .slice B4 0 b4] 27)) := (Chg.refl _ w3).alloc _
    generalize w3.alloc (.cells #[.string ⟨#[]⟩, .slice B1 0 b1, .slice B2 0 b2, .slice B3 0 b3, .slice B4 0 b4] 27) = w4 at *
    generalize w3.heap.size = g2 at *
    have KSW := hide (fun W' (hW : Chg (fun _ => False) w4 W') => show W'.cell? ⟨g2, 0, none⟩ = some (.string ⟨#[]⟩) ∧ W'.cell? ⟨g2, 1, none⟩ = some (.slice B1 0 b1) ∧ W'.cell? ⟨g2, 2, none⟩ = some (.slice B2 0 b2) ∧ W'.cell? ⟨g2, 3, none⟩ = some (.slice B3 0 b3) ∧ W'.cell? ⟨g2, 4, none⟩ = some (.slice B4 0 b4) from ⟨(bk.chg hW id).cell 0, (bk.chg hW id).cell 1, (bk.chg hW id).cell 2, (bk.chg hW id).cell 3, (bk.chg hW id).cell 4⟩)
    have HC1 := hide ((unhide HD).trans' hc0)
    have HRR := hide (fun W' (hW : Chg (fun _ => False) w4 W') => (unhide HDR).chg (hc0.trans' hW) (fun _ _ _ => id))
    clear HD HDR hc0 bk
    have HD := hide (Chg.refl (fun _ => False) w4)
    (obtain ⟨q0, q1, q2, q3, q4⟩ := unhide KSW _ (unhide HD))
    go_wp2_with (go_at_call 14; (with_reducible refine (unhide HSM _ _ _ _ _ _ _ _ _ (unhide HRR _ (unhide HD))).mono ?_); rintro e w6 ⟨rfl, hc2⟩; have HN_ := hide ((unhide HD).trans' hc2); clear HD; have HD := HN_; clear HN_ hc2; clear q0 q1 q2 q3 q4; (obtain ⟨q0, q1, q2, q3, q4⟩ := unhide KSW _ (unhide HD)))
    go_ret
    exact ⟨rfl, (unhide HC1).trans' (unhide HD)⟩
  | some i =>
    have hok := dec_ok hg (by have : s.data.toList.length = s.size := toList_size s; omega)
    have HDE := hide (fun W (hW : Chg (fun _ => False) w W) => show Calls Tryz.prog 20 #[.string s] W fun e w' => ∃ B1 b1 B2 b2 B3 b3 B4 b4, e = .returned (.tuple #[.agg #[.string i.name, .slice B1 i.opens.length b1, .slice B2 i.datas.length b2, .slice B3 i.fixes.length b3, .slice B4 i.sigs.length b4], .int .i64 0]) ∧ RdIf (fun _ => True) w' i (.slice B1 i.opens.length b1) (.slice B2 i.datas.length b2) (.slice B3 i.fixes.length b3) (.slice B4 i.sigs.length b4) ∧ Chg (fun _ => False) W w' from
      (decode_any s W (by omega) (lay.chg hW (fun _ _ => id))).mono fun e w' h => by
        obtain ⟨j, vo, vd, vf, vs, g1, g2, g3, g4, _⟩ := h
        rw [hg] at g1 g3
        obtain rfl : j = i := g3
        obtain ⟨A1, a1, hv1⟩ := RdR.val g4.opens
        obtain ⟨A2, a2, hv2⟩ := RdR.val g4.datas
        obtain ⟨A3, a3, hv3⟩ := RdR.val g4.fixes
        obtain ⟨A4, a4, hv4⟩ := RdR.val g4.sigs
        subst hv1 hv2 hv3 hv4
        exact ⟨A1, a1, A2, a2, A3, a3, A4, a4, g1, g4.mono (fun _ _ => trivial), g2⟩)
    have hse : encS i = s := by
      unfold encS
      rw [hok.2.2.1, hok.2.2.2]
      rfl
    have hie : ifE i = 0 := by unfold ifE; rw [hok.2.2.1]; rfl
    have HEN := hide (fun W B1 b1 B2 b2 B3 b3 B4 b4 (hW : Chg (fun _ => False) w W) (h : RdIf (fun _ => True) W i (.slice B1 i.opens.length b1) (.slice B2 i.datas.length b2) (.slice B3 i.fixes.length b3) (.slice B4 i.sigs.length b4)) => show Calls Tryz.prog 11 #[.agg #[.string i.name, .slice B1 i.opens.length b1, .slice B2 i.datas.length b2, .slice B3 i.fixes.length b3, .slice B4 i.sigs.length b4]] W fun e w' => e = .returned (.tuple #[.string s, .int .i64 0]) ∧ Chg (fun _ => False) W w' from by
      have := encode_any i _ _ _ _ _ W h hok.2.1 (lay.chg hW (fun _ _ => id))
      rw [hse, hie] at this
      exact this)
    have HCK := hide (fun W B1 b1 B2 b2 B3 b3 B4 b4 (hW : Chg (fun _ => False) w W) (h : RdIf (fun _ => True) W i (.slice B1 i.opens.length b1) (.slice B2 i.datas.length b2) (.slice B3 i.fixes.length b3) (.slice B4 i.sigs.length b4)) => show Calls Tryz.prog 16 #[.agg #[.string i.name, .slice B1 i.opens.length b1, .slice B2 i.datas.length b2, .slice B3 i.fixes.length b3, .slice B4 i.sigs.length b4]] W fun e w' => e = .returned (.int .i64 0) ∧ Chg (fun _ => False) W w' from by
      have := ifCheck_any i _ _ _ _ _ W h hok.2.1.fx (lay.chg hW (fun _ _ => id))
      rw [hie] at this
      exact this)
    clear lay hg h6 hok hse hie
    go_enter Tryz.func6, Tryz.ntmps6
    go_upto_region 4 with (first
      | (go_at_call 9; (with_reducible refine (unhide HA _ (unhide HD)).mono ?_); rintro e w2 ⟨rfl, hc2⟩; have HN_ := hide ((unhide HD).trans' hc2); clear HD; have HD := HN_; clear HN_ hc2)
      | (go_at_call 20; (with_reducible refine (unhide HDE _ (unhide HD)).mono ?_); rintro e w3 ⟨B1, b1, B2, b2, B3, b3, B4, b4, rfl, hd, hc2⟩; have HN_ := hide ((unhide HD).trans' hc2); clear HD; have HD := HN_; clear HN_ hc2; have HDR := hide hd; clear hd))
    have bk := Blk.new w3 27 #[.string i.name, .slice B1 i.opens.length b1, .slice B2 i.datas.length b2, .slice B3 i.fixes.length b3, .slice B4 i.sigs.length b4]
    have hc0 : Chg (fun _ => False) w3 (w3.alloc (.cells #[.string i.name, .slice B1 i.opens.length b1, .slice B2 i.datas.length b2, .slice B3 i.fixes.length b3, .slice B4 i.sigs.length b4] 27)) := (Chg.refl _ w3).alloc _
    generalize w3.alloc (.cells #[.string i.name, .slice B1 i.opens.length b1, .slice B2 i.datas.length b2, .slice B3 i.fixes.length b3, .slice B4 i.sigs.length b4] 27) = w4 at *
    generalize w3.heap.size = g2 at *
    have KSW := hide (fun W' (hW : Chg (fun _ => False) w4 W') => show W'.cell? ⟨g2, 0, none⟩ = some (.string i.name) ∧ W'.cell? ⟨g2, 1, none⟩ = some (.slice B1 i.opens.length b1) ∧ W'.cell? ⟨g2, 2, none⟩ = some (.slice B2 i.datas.length b2) ∧ W'.cell? ⟨g2, 3, none⟩ = some (.slice B3 i.fixes.length b3) ∧ W'.cell? ⟨g2, 4, none⟩ = some (.slice B4 i.sigs.length b4) from ⟨(bk.chg hW id).cell 0, (bk.chg hW id).cell 1, (bk.chg hW id).cell 2, (bk.chg hW id).cell 3, (bk.chg hW id).cell 4⟩)
    have HC1 := hide ((unhide HD).trans' hc0)
    have HRR := hide (fun W' (hW : Chg (fun _ => False) w4 W') => (unhide HDR).chg (hc0.trans' hW) (fun _ _ _ => id))
    clear HD HDR hc0 bk
    have HD := hide (Chg.refl (fun _ => False) w4)
    (obtain ⟨q0, q1, q2, q3, q4⟩ := unhide KSW _ (unhide HD))
    go_wp2_with (first
      | (go_at_call 11; (with_reducible refine (unhide HEN _ _ _ _ _ _ _ _ _ ((unhide HC1).trans' (unhide HD)) (unhide HRR _ (unhide HD))).mono ?_); rintro e w5 ⟨rfl, hc2⟩; have HN_ := hide ((unhide HD).trans' hc2); clear HD; have HD := HN_; clear HN_ hc2; clear q0 q1 q2 q3 q4; (obtain ⟨q0, q1, q2, q3, q4⟩ := unhide KSW _ (unhide HD)))
      | (go_at_call 16; (with_reducible refine (unhide HCK _ _ _ _ _ _ _ _ _ ((unhide HC1).trans' (unhide HD)) (unhide HRR _ (unhide HD))).mono ?_); rintro e w6 ⟨rfl, hc2⟩; have HN_ := hide ((unhide HD).trans' hc2); clear HD; have HD := HN_; clear HN_ hc2; clear q0 q1 q2 q3 q4; (obtain ⟨q0, q1, q2, q3, q4⟩ := unhide KSW _ (unhide HD))))
    go_ret
    exact ⟨rfl, (unhide HC1).trans' (unhide HD)⟩
end Go.Proofs.YtinekmjengckdaaGreatDoor
