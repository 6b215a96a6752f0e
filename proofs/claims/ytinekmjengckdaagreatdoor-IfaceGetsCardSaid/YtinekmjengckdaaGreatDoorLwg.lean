/-
  Layer 23: the law: the interface that any bytes are is the document's.
-/
import Derived.Test.YtinekmjengckdaaGreatDoorA36
import Derived.Test.YtinekmjengckdaaGreatDoorA39
import Derived.Test.YtinekmjengckdaaGreatDoorA54
namespace Go.Proofs.YtinekmjengckdaaGreatDoor
open Go.RowKit
set_option maxHeartbeats 4000000
set_option maxRecDepth 100000
theorem gets_law (s : ByteArray) (w : World) (hs : s.size ≤ 9223372036854775807) (lay : Lay w) :
    Calls Tryz.prog 4 #[.string s] w fun e w' => e = .returned (.bool true) ∧ Chg (fun _ => False) w w' := by
  have HA := hH (fun W (hW : Chg (fun _ => False) w W) => awake_any W (lay.chg hW (fun _ _ => id)))
  have HD := hH (Chg.refl (fun _ => False) w)
  by_cases h6 : 600 < s.size
  · have h6' : (600 : Int) < (s.size : Int) := by omega
    clear lay
    go_enter Tryz.func4, Tryz.ntmps4
    go_wp2_with (go_at_call 9; (with_reducible refine (uH HA _ (uH HD)).mono ?_); rintro e w2 ⟨rfl, hc2⟩; replace HD := hH ((uH HD).trans' hc2); clear hc2)
    go_ret
    exact ⟨rfl, uH HD⟩
  have h6' : ¬ (600 : Int) < (s.size : Int) := by omega
  cases hg : decG (ifcB ltS) s.data.toList with
  | none =>
    have HDE := hH (fun W (hW : Chg (fun _ => False) w W) => show Calls Tryz.prog 20 #[.string s] W fun e w' => ∃ B1 b1 B2 b2 B3 b3 B4 b4, e = .returned (.tuple #[.agg #[.string ⟨#[]⟩, .slice B1 0 b1, .slice B2 0 b2, .slice B3 0 b3, .slice B4 0 b4], .int .i64 231]) ∧ RdIf (fun _ => True) w' ⟨⟨#[]⟩, [], [], [], []⟩ (.slice B1 0 b1) (.slice B2 0 b2) (.slice B3 0 b3) (.slice B4 0 b4) ∧ Chg (fun _ => False) W w' from
      (decode_any s W (by omega) (lay.chg hW (fun _ _ => id))).mono fun e w' h => by
        obtain ⟨j, vo, vd, vf, vs, g1, g2, g3, g4, _⟩ := h
        rw [hg] at g1 g3
        obtain rfl : j = ⟨⟨#[]⟩, [], [], [], []⟩ := g3
        obtain ⟨A1, a1, hv1⟩ := RdR.val g4.opens
        obtain ⟨A2, a2, hv2⟩ := RdR.val g4.datas
        obtain ⟨A3, a3, hv3⟩ := RdR.val g4.fixes
        obtain ⟨A4, a4, hv4⟩ := RdR.val g4.sigs
        subst hv1 hv2 hv3 hv4
        exact ⟨A1, a1, A2, a2, A3, a3, A4, a4, g1, g4.mono (fun _ _ => trivial), g2⟩)
    have HDD := hH (fun W => show Calls Tryz.prog 21 #[.string s] W fun e w' => ∃ D1 d1 D2 d2 D3 d3 D4 d4, e = .returned (.tuple #[.agg #[.string ⟨#[]⟩, .slice D1 0 d1, .slice D2 0 d2, .slice D3 0 d3, .slice D4 0 d4], .bool false]) ∧ RdIf (fun _ => True) w' ⟨⟨#[]⟩, [], [], [], []⟩ (.slice D1 0 d1) (.slice D2 0 d2) (.slice D3 0 d3) (.slice D4 0 d4) ∧ Chg (fun _ => False) W w' from
      (refDecode_any s W (by omega)).mono fun e w' h => by
        obtain ⟨j, vo, vd, vf, vs, g1, g3, g4, g2⟩ := h
        rw [hg] at g1 g3
        obtain rfl : j = ⟨⟨#[]⟩, [], [], [], []⟩ := g3
        obtain ⟨A1, a1, hv1⟩ := RdR.val g4.opens
        obtain ⟨A2, a2, hv2⟩ := RdR.val g4.datas
        obtain ⟨A3, a3, hv3⟩ := RdR.val g4.fixes
        obtain ⟨A4, a4, hv4⟩ := RdR.val g4.sigs
        subst hv1 hv2 hv3 hv4
        exact ⟨A1, a1, A2, a2, A3, a3, A4, a4, g1, g4, g2⟩)
    have HSM := hH (fun W B1 b1 B2 b2 B3 b3 B4 b4 D1 d1 D2 d2 D3 d3 D4 d4 (h : RdIf (fun _ => True) W ⟨⟨#[]⟩, [], [], [], []⟩ (.slice B1 0 b1) (.slice B2 0 b2) (.slice B3 0 b3) (.slice B4 0 b4)) (h2 : RdIf (fun _ => True) W ⟨⟨#[]⟩, [], [], [], []⟩ (.slice D1 0 d1) (.slice D2 0 d2) (.slice D3 0 d3) (.slice D4 0 d4)) => show Calls Tryz.prog 14 #[.agg #[.string ⟨#[]⟩, .slice B1 0 b1, .slice B2 0 b2, .slice B3 0 b3, .slice B4 0 b4], .agg #[.string ⟨#[]⟩, .slice D1 0 d1, .slice D2 0 d2, .slice D3 0 d3, .slice D4 0 d4]] W fun e w' => e = .returned (.bool true) ∧ Chg (fun _ => False) W w' from by
      have := refSame_any _ _ _ _ _ _ _ _ _ _ _ _ W h h2 empty_ifl empty_ifl
      rw [(ifS_iff _ _).2 rfl] at this
      exact this)
    clear lay hg h6
    go_enter Tryz.func4, Tryz.ntmps4
    go_upto_region 4 with (first
      | (go_at_call 9; (with_reducible refine (uH HA _ (uH HD)).mono ?_); rintro e w2 ⟨rfl, hc2⟩; replace HD := hH ((uH HD).trans' hc2); clear hc2)
      | (go_at_call 20; (with_reducible refine (uH HDE _ (uH HD)).mono ?_); rintro e w3 ⟨B1, b1, B2, b2, B3, b3, B4, b4, rfl, hd, hc2⟩; replace HD := hH ((uH HD).trans' hc2); clear hc2; have HDR := hH hd; clear hd))
    have bk := Blk.new w3 27 #[.string ⟨#[]⟩, .slice B1 0 b1, .slice B2 0 b2, .slice B3 0 b3, .slice B4 0 b4]
    have hc0 : Chg (fun _ => False) w3 (w3.alloc (.cells #[.string ⟨#[]⟩, .slice B1 0 b1, .slice B2 0 b2, .slice B3 0 b3, .slice B4 0 b4] 27)) := (Chg.refl _ w3).alloc _
    generalize w3.alloc (.cells #[.string ⟨#[]⟩, .slice B1 0 b1, .slice B2 0 b2, .slice B3 0 b3, .slice B4 0 b4] 27) = w4 at *
    generalize w3.heap.size = g2 at *
    have HBK := hH bk
    have HC1 := hH ((uH HD).trans' hc0)
    have HRR := hH ((uH HDR).chg hc0 (fun _ _ _ => id))
    clear HD HDR hc0 bk
    go_upto_region 5 with (go_at_call 21; (with_reducible refine (uH HDD _).mono ?_); rintro e w5 ⟨D1, d1, D2, d2, D3, d3, D4, d4, rfl, hd, hc2⟩; have HD2 := hH hc2; have HDR2 := hH hd; clear hc2 hd)
    have bk2 := Blk.new w5 27 #[.string ⟨#[]⟩, .slice D1 0 d1, .slice D2 0 d2, .slice D3 0 d3, .slice D4 0 d4]
    have hc5 : Chg (fun _ => False) w5 (w5.alloc (.cells #[.string ⟨#[]⟩, .slice D1 0 d1, .slice D2 0 d2, .slice D3 0 d3, .slice D4 0 d4] 27)) := (Chg.refl _ w5).alloc _
    generalize w5.alloc (.cells #[.string ⟨#[]⟩, .slice D1 0 d1, .slice D2 0 d2, .slice D3 0 d3, .slice D4 0 d4] 27) = w6 at *
    generalize w5.heap.size = g3 at *
    have hb1 := ((uH HBK).chg (uH HD2) id).chg hc5 id
    have KSW := hH (fun W' (hW : Chg (fun _ => False) w6 W') => show W'.cell? ⟨g2, 0, none⟩ = some (.string ⟨#[]⟩) ∧ W'.cell? ⟨g2, 1, none⟩ = some (.slice B1 0 b1) ∧ W'.cell? ⟨g2, 2, none⟩ = some (.slice B2 0 b2) ∧ W'.cell? ⟨g2, 3, none⟩ = some (.slice B3 0 b3) ∧ W'.cell? ⟨g2, 4, none⟩ = some (.slice B4 0 b4) ∧ W'.cell? ⟨g3, 0, none⟩ = some (.string ⟨#[]⟩) ∧ W'.cell? ⟨g3, 1, none⟩ = some (.slice D1 0 d1) ∧ W'.cell? ⟨g3, 2, none⟩ = some (.slice D2 0 d2) ∧ W'.cell? ⟨g3, 3, none⟩ = some (.slice D3 0 d3) ∧ W'.cell? ⟨g3, 4, none⟩ = some (.slice D4 0 d4) from ⟨(hb1.chg hW id).cell 0, (hb1.chg hW id).cell 1, (hb1.chg hW id).cell 2, (hb1.chg hW id).cell 3, (hb1.chg hW id).cell 4, (bk2.chg hW id).cell 0, (bk2.chg hW id).cell 1, (bk2.chg hW id).cell 2, (bk2.chg hW id).cell 3, (bk2.chg hW id).cell 4⟩)
    have HC6 := hH (((uH HC1).trans' (uH HD2)).trans' hc5)
    have HR1 := hH (fun W' (hW : Chg (fun _ => False) w6 W') => (((uH HRR).chg (uH HD2) (fun _ _ _ => id)).chg hc5 (fun _ _ _ => id)).chg hW (fun _ _ _ => id))
    have HR2 := hH (fun W' (hW : Chg (fun _ => False) w6 W') => ((uH HDR2).chg hc5 (fun _ _ _ => id)).chg hW (fun _ _ _ => id))
    clear HRR HDR2 HD2 HC1 hc5 bk2 hb1 HBK
    have HD := hH (Chg.refl (fun _ => False) w6)
    (obtain ⟨q0, q1, q2, q3, q4, r0, r1, r2, r3, r4⟩ := uH KSW _ (uH HD))
    go_wp2_with (go_at_call 14; (with_reducible refine (uH HSM _ _ _ _ _ _ _ _ _ _ _ _ _ _ _ _ _ (uH HR1 _ (uH HD)) (uH HR2 _ (uH HD))).mono ?_); rintro e w7 ⟨rfl, hc2⟩; have HC7 := hH ((uH HC6).trans' ((uH HD).trans' hc2)); clear hc2)
    go_ret
    exact ⟨rfl, uH HC7⟩
  | some i =>
    have hok := dec_ok hg (by have : s.data.toList.length = s.size := toList_size s; omega)
    have HDE := hH (fun W (hW : Chg (fun _ => False) w W) => show Calls Tryz.prog 20 #[.string s] W fun e w' => ∃ B1 b1 B2 b2 B3 b3 B4 b4, e = .returned (.tuple #[.agg #[.string i.name, .slice B1 i.opens.length b1, .slice B2 i.datas.length b2, .slice B3 i.fixes.length b3, .slice B4 i.sigs.length b4], .int .i64 0]) ∧ RdIf (fun _ => True) w' i (.slice B1 i.opens.length b1) (.slice B2 i.datas.length b2) (.slice B3 i.fixes.length b3) (.slice B4 i.sigs.length b4) ∧ Chg (fun _ => False) W w' from
      (decode_any s W (by omega) (lay.chg hW (fun _ _ => id))).mono fun e w' h => by
        obtain ⟨j, vo, vd, vf, vs, g1, g2, g3, g4, _⟩ := h
        rw [hg] at g1 g3
        obtain rfl : j = i := g3
        obtain ⟨A1, a1, hv1⟩ := RdR.val g4.opens
        obtain ⟨A2, a2, hv2⟩ := RdR.val g4.datas
        obtain ⟨A3, a3, hv3⟩ := RdR.val g4.fixes
        obtain ⟨A4, a4, hv4⟩ := RdR.val g4.sigs
        subst hv1 hv2 hv3 hv4
        exact ⟨A1, a1, A2, a2, A3, a3, A4, a4, g1, g4.mono (fun _ _ => trivial), g2⟩)
    have HDD := hH (fun W => show Calls Tryz.prog 21 #[.string s] W fun e w' => ∃ D1 d1 D2 d2 D3 d3 D4 d4, e = .returned (.tuple #[.agg #[.string i.name, .slice D1 i.opens.length d1, .slice D2 i.datas.length d2, .slice D3 i.fixes.length d3, .slice D4 i.sigs.length d4], .bool true]) ∧ RdIf (fun _ => True) w' i (.slice D1 i.opens.length d1) (.slice D2 i.datas.length d2) (.slice D3 i.fixes.length d3) (.slice D4 i.sigs.length d4) ∧ Chg (fun _ => False) W w' from
      (refDecode_any s W (by omega)).mono fun e w' h => by
        obtain ⟨j, vo, vd, vf, vs, g1, g3, g4, g2⟩ := h
        rw [hg] at g1 g3
        obtain rfl : j = i := g3
        obtain ⟨A1, a1, hv1⟩ := RdR.val g4.opens
        obtain ⟨A2, a2, hv2⟩ := RdR.val g4.datas
        obtain ⟨A3, a3, hv3⟩ := RdR.val g4.fixes
        obtain ⟨A4, a4, hv4⟩ := RdR.val g4.sigs
        subst hv1 hv2 hv3 hv4
        exact ⟨A1, a1, A2, a2, A3, a3, A4, a4, g1, g4, g2⟩)
    have HSM := hH (fun W B1 b1 B2 b2 B3 b3 B4 b4 D1 d1 D2 d2 D3 d3 D4 d4 (h : RdIf (fun _ => True) W i (.slice B1 i.opens.length b1) (.slice B2 i.datas.length b2) (.slice B3 i.fixes.length b3) (.slice B4 i.sigs.length b4)) (h2 : RdIf (fun _ => True) W i (.slice D1 i.opens.length d1) (.slice D2 i.datas.length d2) (.slice D3 i.fixes.length d3) (.slice D4 i.sigs.length d4)) => show Calls Tryz.prog 14 #[.agg #[.string i.name, .slice B1 i.opens.length b1, .slice B2 i.datas.length b2, .slice B3 i.fixes.length b3, .slice B4 i.sigs.length b4], .agg #[.string i.name, .slice D1 i.opens.length d1, .slice D2 i.datas.length d2, .slice D3 i.fixes.length d3, .slice D4 i.sigs.length d4]] W fun e w' => e = .returned (.bool true) ∧ Chg (fun _ => False) W w' from by
      have := refSame_any _ _ _ _ _ _ _ _ _ _ _ _ W h h2 hok.1 hok.1
      rw [(ifS_iff _ _).2 rfl] at this
      exact this)
    clear lay hg h6 hok
    go_enter Tryz.func4, Tryz.ntmps4
    go_upto_region 4 with (first
      | (go_at_call 9; (with_reducible refine (uH HA _ (uH HD)).mono ?_); rintro e w2 ⟨rfl, hc2⟩; replace HD := hH ((uH HD).trans' hc2); clear hc2)
      | (go_at_call 20; (with_reducible refine (uH HDE _ (uH HD)).mono ?_); rintro e w3 ⟨B1, b1, B2, b2, B3, b3, B4, b4, rfl, hd, hc2⟩; replace HD := hH ((uH HD).trans' hc2); clear hc2; have HDR := hH hd; clear hd))
    have bk := Blk.new w3 27 #[.string i.name, .slice B1 i.opens.length b1, .slice B2 i.datas.length b2, .slice B3 i.fixes.length b3, .slice B4 i.sigs.length b4]
    have hc0 : Chg (fun _ => False) w3 (w3.alloc (.cells #[.string i.name, .slice B1 i.opens.length b1, .slice B2 i.datas.length b2, .slice B3 i.fixes.length b3, .slice B4 i.sigs.length b4] 27)) := (Chg.refl _ w3).alloc _
    generalize w3.alloc (.cells #[.string i.name, .slice B1 i.opens.length b1, .slice B2 i.datas.length b2, .slice B3 i.fixes.length b3, .slice B4 i.sigs.length b4] 27) = w4 at *
    generalize w3.heap.size = g2 at *
    have HBK := hH bk
    have HC1 := hH ((uH HD).trans' hc0)
    have HRR := hH ((uH HDR).chg hc0 (fun _ _ _ => id))
    clear HD HDR hc0 bk
    go_upto_region 5 with (go_at_call 21; (with_reducible refine (uH HDD _).mono ?_); rintro e w5 ⟨D1, d1, D2, d2, D3, d3, D4, d4, rfl, hd, hc2⟩; have HD2 := hH hc2; have HDR2 := hH hd; clear hc2 hd)
    have bk2 := Blk.new w5 27 #[.string i.name, .slice D1 i.opens.length d1, .slice D2 i.datas.length d2, .slice D3 i.fixes.length d3, .slice D4 i.sigs.length d4]
    have hc5 : Chg (fun _ => False) w5 (w5.alloc (.cells #[.string i.name, .slice D1 i.opens.length d1, .slice D2 i.datas.length d2, .slice D3 i.fixes.length d3, .slice D4 i.sigs.length d4] 27)) := (Chg.refl _ w5).alloc _
    generalize w5.alloc (.cells #[.string i.name, .slice D1 i.opens.length d1, .slice D2 i.datas.length d2, .slice D3 i.fixes.length d3, .slice D4 i.sigs.length d4] 27) = w6 at *
    generalize w5.heap.size = g3 at *
    have hb1 := ((uH HBK).chg (uH HD2) id).chg hc5 id
    have KSW := hH (fun W' (hW : Chg (fun _ => False) w6 W') => show W'.cell? ⟨g2, 0, none⟩ = some (.string i.name) ∧ W'.cell? ⟨g2, 1, none⟩ = some (.slice B1 i.opens.length b1) ∧ W'.cell? ⟨g2, 2, none⟩ = some (.slice B2 i.datas.length b2) ∧ W'.cell? ⟨g2, 3, none⟩ = some (.slice B3 i.fixes.length b3) ∧ W'.cell? ⟨g2, 4, none⟩ = some (.slice B4 i.sigs.length b4) ∧ W'.cell? ⟨g3, 0, none⟩ = some (.string i.name) ∧ W'.cell? ⟨g3, 1, none⟩ = some (.slice D1 i.opens.length d1) ∧ W'.cell? ⟨g3, 2, none⟩ = some (.slice D2 i.datas.length d2) ∧ W'.cell? ⟨g3, 3, none⟩ = some (.slice D3 i.fixes.length d3) ∧ W'.cell? ⟨g3, 4, none⟩ = some (.slice D4 i.sigs.length d4) from ⟨(hb1.chg hW id).cell 0, (hb1.chg hW id).cell 1, (hb1.chg hW id).cell 2, (hb1.chg hW id).cell 3, (hb1.chg hW id).cell 4, (bk2.chg hW id).cell 0, (bk2.chg hW id).cell 1, (bk2.chg hW id).cell 2, (bk2.chg hW id).cell 3, (bk2.chg hW id).cell 4⟩)
    have HC6 := hH (((uH HC1).trans' (uH HD2)).trans' hc5)
    have HR1 := hH (fun W' (hW : Chg (fun _ => False) w6 W') => (((uH HRR).chg (uH HD2) (fun _ _ _ => id)).chg hc5 (fun _ _ _ => id)).chg hW (fun _ _ _ => id))
    have HR2 := hH (fun W' (hW : Chg (fun _ => False) w6 W') => ((uH HDR2).chg hc5 (fun _ _ _ => id)).chg hW (fun _ _ _ => id))
    clear HRR HDR2 HD2 HC1 hc5 bk2 hb1 HBK
    have HD := hH (Chg.refl (fun _ => False) w6)
    (obtain ⟨q0, q1, q2, q3, q4, r0, r1, r2, r3, r4⟩ := uH KSW _ (uH HD))
    go_wp2_with (go_at_call 14; (with_reducible refine (uH HSM _ _ _ _ _ _ _ _ _ _ _ _ _ _ _ _ _ (uH HR1 _ (uH HD)) (uH HR2 _ (uH HD))).mono ?_); rintro e w7 ⟨rfl, hc2⟩; have HC7 := hH ((uH HC6).trans' ((uH HD).trans' hc2)); clear hc2)
    go_ret
    exact ⟨rfl, uH HC7⟩
end Go.Proofs.YtinekmjengckdaaGreatDoor
