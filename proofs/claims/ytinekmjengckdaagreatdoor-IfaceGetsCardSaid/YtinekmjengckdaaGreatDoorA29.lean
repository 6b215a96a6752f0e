/-
  Layer 23: whether interfaces are the same.
-/
import Derived.Test.YtinekmjengckdaaGreatDoorA27
namespace Go.Proofs.YtinekmjengckdaaGreatDoor
open Go.RowKit
set_option maxHeartbeats 4000000
set_option maxRecDepth 100000
theorem ifSame_any (i j : Ifc) (vo vd vf vs vo' vd' vf' vs' : Value) (T1 T2 : Nat → Prop) (w : World) (h1 : RdIf T1 w i vo vd vf vs) (h2 : RdIf T2 w j vo' vd' vf' vs') (l1 : IfL i) (l2 : IfL j) :
    Calls Tryz.prog 13 #[.agg #[.string i.name, vo, vd, vf, vs], .agg #[.string j.name, vo', vd', vf', vs']] w fun e w' => e = .returned (.bool (ifS i j)) ∧ Chg (fun _ => False) w w' := by
  obtain ⟨A1, a1, rfl⟩ := RdR.val h1.opens
  obtain ⟨A2, a2, rfl⟩ := RdR.val h1.datas
  obtain ⟨A3, a3, rfl⟩ := RdR.val h1.fixes
  obtain ⟨A4, a4, rfl⟩ := RdR.val h1.sigs
  obtain ⟨B1, b1, rfl⟩ := RdR.val h2.opens
  obtain ⟨B2, b2, rfl⟩ := RdR.val h2.datas
  obtain ⟨B3, b3, rfl⟩ := RdR.val h2.fixes
  obtain ⟨B4, b4, rfl⟩ := RdR.val h2.sigs
  have h0 : Chg (fun _ => False) w (((w.alloc (.cells #[.string i.name, .slice A1 i.opens.length a1, .slice A2 i.datas.length a2, .slice A3 i.fixes.length a3, .slice A4 i.sigs.length a4] 27)).alloc (.cells #[.string j.name, .slice B1 j.opens.length b1, .slice B2 j.datas.length b2, .slice B3 j.fixes.length b3, .slice B4 j.sigs.length b4] 27)).alloc (.cells #[.func (.func 26) #[] #[]] 67)) := (((Chg.refl _ w).alloc _).alloc _).alloc _
  have hb1 : Blk (((w.alloc (.cells #[.string i.name, .slice A1 i.opens.length a1, .slice A2 i.datas.length a2, .slice A3 i.fixes.length a3, .slice A4 i.sigs.length a4] 27)).alloc (.cells #[.string j.name, .slice B1 j.opens.length b1, .slice B2 j.datas.length b2, .slice B3 j.fixes.length b3, .slice B4 j.sigs.length b4] 27)).alloc (.cells #[.func (.func 26) #[] #[]] 67)) w.heap.size 27 #[.string i.name, .slice A1 i.opens.length a1, .slice A2 i.datas.length a2, .slice A3 i.fixes.length a3, .slice A4 i.sigs.length a4] := ((Blk.new w _ _).alloc _).alloc _
  have hb2 : Blk (((w.alloc (.cells #[.string i.name, .slice A1 i.opens.length a1, .slice A2 i.datas.length a2, .slice A3 i.fixes.length a3, .slice A4 i.sigs.length a4] 27)).alloc (.cells #[.string j.name, .slice B1 j.opens.length b1, .slice B2 j.datas.length b2, .slice B3 j.fixes.length b3, .slice B4 j.sigs.length b4] 27)).alloc (.cells #[.func (.func 26) #[] #[]] 67)) (w.heap.size + 1) 27 #[.string j.name, .slice B1 j.opens.length b1, .slice B2 j.datas.length b2, .slice B3 j.fixes.length b3, .slice B4 j.sigs.length b4] := (Blk.new_at (w.alloc (.cells #[.string i.name, .slice A1 i.opens.length a1, .slice A2 i.datas.length a2, .slice A3 i.fixes.length a3, .slice A4 i.sigs.length a4] 27)) _ _ _ (by rw [size_alloc])).alloc _
  have hb3 : Blk (((w.alloc (.cells #[.string i.name, .slice A1 i.opens.length a1, .slice A2 i.datas.length a2, .slice A3 i.fixes.length a3, .slice A4 i.sigs.length a4] 27)).alloc (.cells #[.string j.name, .slice B1 j.opens.length b1, .slice B2 j.datas.length b2, .slice B3 j.fixes.length b3, .slice B4 j.sigs.length b4] 27)).alloc (.cells #[.func (.func 26) #[] #[]] 67)) (w.heap.size + 2) 67 #[.func (.func 26) #[] #[]] := Blk.new_at ((w.alloc (.cells #[.string i.name, .slice A1 i.opens.length a1, .slice A2 i.datas.length a2, .slice A3 i.fixes.length a3, .slice A4 i.sigs.length a4] 27)).alloc (.cells #[.string j.name, .slice B1 j.opens.length b1, .slice B2 j.datas.length b2, .slice B3 j.fixes.length b3, .slice B4 j.sigs.length b4] 27)) _ _ _ (by rw [size_alloc, size_alloc])
  have KSW := hH (fun W' (hW : Chg (fun _ => False) (((w.alloc (.cells #[.string i.name, .slice A1 i.opens.length a1, .slice A2 i.datas.length a2, .slice A3 i.fixes.length a3, .slice A4 i.sigs.length a4] 27)).alloc (.cells #[.string j.name, .slice B1 j.opens.length b1, .slice B2 j.datas.length b2, .slice B3 j.fixes.length b3, .slice B4 j.sigs.length b4] 27)).alloc (.cells #[.func (.func 26) #[] #[]] 67)) W') => show W'.cell? ⟨w.heap.size, 0, none⟩ = some (.string i.name) ∧ W'.cell? ⟨w.heap.size, 1, none⟩ = some (.slice A1 i.opens.length a1) ∧ W'.cell? ⟨w.heap.size, 2, none⟩ = some (.slice A2 i.datas.length a2) ∧ W'.cell? ⟨w.heap.size, 3, none⟩ = some (.slice A3 i.fixes.length a3) ∧ W'.cell? ⟨w.heap.size, 4, none⟩ = some (.slice A4 i.sigs.length a4) ∧ W'.cell? ⟨w.heap.size + 1, 0, none⟩ = some (.string j.name) ∧ W'.cell? ⟨w.heap.size + 1, 1, none⟩ = some (.slice B1 j.opens.length b1) ∧ W'.cell? ⟨w.heap.size + 1, 2, none⟩ = some (.slice B2 j.datas.length b2) ∧ W'.cell? ⟨w.heap.size + 1, 3, none⟩ = some (.slice B3 j.fixes.length b3) ∧ W'.cell? ⟨w.heap.size + 1, 4, none⟩ = some (.slice B4 j.sigs.length b4) ∧ W'.cell? ⟨w.heap.size + 2, 0, none⟩ = some (.func (.func 26) #[] #[]) from ⟨(hb1.chg hW id).cell 0, (hb1.chg hW id).cell 1, (hb1.chg hW id).cell 2, (hb1.chg hW id).cell 3, (hb1.chg hW id).cell 4, (hb2.chg hW id).cell 0, (hb2.chg hW id).cell 1, (hb2.chg hW id).cell 2, (hb2.chg hW id).cell 3, (hb2.chg hW id).cell 4, (hb3.chg hW id).cell 0⟩)
  have HQ1 := hH (fun W (hW : Chg (fun _ => False) (((w.alloc (.cells #[.string i.name, .slice A1 i.opens.length a1, .slice A2 i.datas.length a2, .slice A3 i.fixes.length a3, .slice A4 i.sigs.length a4] 27)).alloc (.cells #[.string j.name, .slice B1 j.opens.length b1, .slice B2 j.datas.length b2, .slice B3 j.fixes.length b3, .slice B4 j.sigs.length b4] 27)).alloc (.cells #[.func (.func 26) #[] #[]] 67)) W) => equalO_any i.opens j.opens _ _ T1 T2 W (h1.opens.chg (h0.trans' hW) (fun _ _ _ => id)) (h2.opens.chg (h0.trans' hW) (fun _ _ _ => id)) l1.opens l2.opens)
  have HQ2 := hH (fun W (hW : Chg (fun _ => False) (((w.alloc (.cells #[.string i.name, .slice A1 i.opens.length a1, .slice A2 i.datas.length a2, .slice A3 i.fixes.length a3, .slice A4 i.sigs.length a4] 27)).alloc (.cells #[.string j.name, .slice B1 j.opens.length b1, .slice B2 j.datas.length b2, .slice B3 j.fixes.length b3, .slice B4 j.sigs.length b4] 27)).alloc (.cells #[.func (.func 26) #[] #[]] 67)) W) => eqfD_any dtS i.datas j.datas _ _ T1 T2 (w.heap.size + 2) W (h1.datas.chg (h0.trans' hW) (fun _ _ _ => id)) (h2.datas.chg (h0.trans' hW) (fun _ _ _ => id)) l1.datas l2.datas (fun W2 hW2 x hx y hy u u' hu hu' _ _ => dtS_any x y u u' T1 T2 (w.heap.size + 2) W2 hu hu' (l1.data_ x hx) (l2.data_ y hy) ((uH KSW W2 (hW.trans' hW2)).2.2.2.2.2.2.2.2.2.2)))
  have HQ3 := hH (fun W (hW : Chg (fun _ => False) (((w.alloc (.cells #[.string i.name, .slice A1 i.opens.length a1, .slice A2 i.datas.length a2, .slice A3 i.fixes.length a3, .slice A4 i.sigs.length a4] 27)).alloc (.cells #[.string j.name, .slice B1 j.opens.length b1, .slice B2 j.datas.length b2, .slice B3 j.fixes.length b3, .slice B4 j.sigs.length b4] 27)).alloc (.cells #[.func (.func 26) #[] #[]] 67)) W) => equalX_any i.fixes j.fixes _ _ T1 T2 W (h1.fixes.chg (h0.trans' hW) (fun _ _ _ => id)) (h2.fixes.chg (h0.trans' hW) (fun _ _ _ => id)) l1.fixes l2.fixes)
  have HQ4 := hH (fun W (hW : Chg (fun _ => False) (((w.alloc (.cells #[.string i.name, .slice A1 i.opens.length a1, .slice A2 i.datas.length a2, .slice A3 i.fixes.length a3, .slice A4 i.sigs.length a4] 27)).alloc (.cells #[.string j.name, .slice B1 j.opens.length b1, .slice B2 j.datas.length b2, .slice B3 j.fixes.length b3, .slice B4 j.sigs.length b4] 27)).alloc (.cells #[.func (.func 26) #[] #[]] 67)) W) => eqfS_any sgS i.sigs j.sigs _ _ T1 T2 W (h1.sigs.rd.chg (h0.trans' hW) (fun _ _ _ => id)) (h2.sigs.rd.chg (h0.trans' hW) (fun _ _ _ => id)) l1.sigs l2.sigs (fun W2 _ x hx y hy u u' hu hu' _ _ => sgS_any x y u u' T1 T2 W2 hu hu' (l1.sig_ x hx) (l2.sig_ y hy)))
  have HD := hH (Chg.refl (fun _ => False) (((w.alloc (.cells #[.string i.name, .slice A1 i.opens.length a1, .slice A2 i.datas.length a2, .slice A3 i.fixes.length a3, .slice A4 i.sigs.length a4] 27)).alloc (.cells #[.string j.name, .slice B1 j.opens.length b1, .slice B2 j.datas.length b2, .slice B3 j.fixes.length b3, .slice B4 j.sigs.length b4] 27)).alloc (.cells #[.func (.func 26) #[] #[]] 67)))
  (obtain ⟨q0, q1, q2, q3, q4, r0, r1, r2, r3, r4, z0⟩ := uH KSW _ (uH HD))
  have H0 := hH h0
  have hE : ifS i j = (i.name.toList == j.name.toList && sameBy Opn.same i.opens j.opens && sameBy dtS i.datas j.datas && sameBy Fx.same i.fixes j.fixes && sameBy sgS i.sigs j.sigs) := rfl
  rw [hE]
  clear hE hb1 hb2 hb3 h1 h2 l1 l2 h0
  generalize sameBy Opn.same i.opens j.opens = E1 at *
  generalize sameBy dtS i.datas j.datas = E2 at *
  generalize sameBy Fx.same i.fixes j.fixes = E3 at *
  generalize sameBy sgS i.sigs j.sigs = E4 at *
  cases hn : i.name.toList == j.name.toList
  · go_enter Tryz.func13, Tryz.ntmps13
    go_wp2_with fail
    go_ret
    exact ⟨retv (boolv (by simp [*])), (uH H0).trans' (uH HD)⟩
  · cases E1
    · go_enter Tryz.func13, Tryz.ntmps13
      go_wp2_with (first
        | (go_at_call 32; (with_reducible refine (uH HQ1 _ (uH HD)).mono ?_); rintro e w4 ⟨rfl, hc2⟩; replace HD := hH ((uH HD).trans' hc2); clear hc2; clear q0 q1 q2 q3 q4 r0 r1 r2 r3 r4 z0; (obtain ⟨q0, q1, q2, q3, q4, r0, r1, r2, r3, r4, z0⟩ := uH KSW _ (uH HD))))
      go_ret
      exact ⟨retv (boolv (by simp [*])), (uH H0).trans' (uH HD)⟩
    · cases E2
      · go_enter Tryz.func13, Tryz.ntmps13
        go_wp2_with (first
          | (go_at_call 32; (with_reducible refine (uH HQ1 _ (uH HD)).mono ?_); rintro e w4 ⟨rfl, hc2⟩; replace HD := hH ((uH HD).trans' hc2); clear hc2; clear q0 q1 q2 q3 q4 r0 r1 r2 r3 r4 z0; (obtain ⟨q0, q1, q2, q3, q4, r0, r1, r2, r3, r4, z0⟩ := uH KSW _ (uH HD)))
          | (go_at_call 33; (with_reducible refine (uH HQ2 _ (uH HD)).mono ?_); rintro e w5 ⟨rfl, hc2⟩; replace HD := hH ((uH HD).trans' hc2); clear hc2; clear q0 q1 q2 q3 q4 r0 r1 r2 r3 r4 z0; (obtain ⟨q0, q1, q2, q3, q4, r0, r1, r2, r3, r4, z0⟩ := uH KSW _ (uH HD))))
        go_ret
        exact ⟨retv (boolv (by simp [*])), (uH H0).trans' (uH HD)⟩
      · cases E3
        · go_enter Tryz.func13, Tryz.ntmps13
          go_wp2_with (first
            | (go_at_call 32; (with_reducible refine (uH HQ1 _ (uH HD)).mono ?_); rintro e w4 ⟨rfl, hc2⟩; replace HD := hH ((uH HD).trans' hc2); clear hc2; clear q0 q1 q2 q3 q4 r0 r1 r2 r3 r4 z0; (obtain ⟨q0, q1, q2, q3, q4, r0, r1, r2, r3, r4, z0⟩ := uH KSW _ (uH HD)))
            | (go_at_call 33; (with_reducible refine (uH HQ2 _ (uH HD)).mono ?_); rintro e w5 ⟨rfl, hc2⟩; replace HD := hH ((uH HD).trans' hc2); clear hc2; clear q0 q1 q2 q3 q4 r0 r1 r2 r3 r4 z0; (obtain ⟨q0, q1, q2, q3, q4, r0, r1, r2, r3, r4, z0⟩ := uH KSW _ (uH HD)))
            | (go_at_call 34; (with_reducible refine (uH HQ3 _ (uH HD)).mono ?_); rintro e w6 ⟨rfl, hc2⟩; replace HD := hH ((uH HD).trans' hc2); clear hc2; clear q0 q1 q2 q3 q4 r0 r1 r2 r3 r4 z0; (obtain ⟨q0, q1, q2, q3, q4, r0, r1, r2, r3, r4, z0⟩ := uH KSW _ (uH HD))))
          go_ret
          exact ⟨retv (boolv (by simp [*])), (uH H0).trans' (uH HD)⟩
        · go_enter Tryz.func13, Tryz.ntmps13
          go_wp2_with (first
            | (go_at_call 32; (with_reducible refine (uH HQ1 _ (uH HD)).mono ?_); rintro e w4 ⟨rfl, hc2⟩; replace HD := hH ((uH HD).trans' hc2); clear hc2; clear q0 q1 q2 q3 q4 r0 r1 r2 r3 r4 z0; (obtain ⟨q0, q1, q2, q3, q4, r0, r1, r2, r3, r4, z0⟩ := uH KSW _ (uH HD)))
            | (go_at_call 33; (with_reducible refine (uH HQ2 _ (uH HD)).mono ?_); rintro e w5 ⟨rfl, hc2⟩; replace HD := hH ((uH HD).trans' hc2); clear hc2; clear q0 q1 q2 q3 q4 r0 r1 r2 r3 r4 z0; (obtain ⟨q0, q1, q2, q3, q4, r0, r1, r2, r3, r4, z0⟩ := uH KSW _ (uH HD)))
            | (go_at_call 34; (with_reducible refine (uH HQ3 _ (uH HD)).mono ?_); rintro e w6 ⟨rfl, hc2⟩; replace HD := hH ((uH HD).trans' hc2); clear hc2; clear q0 q1 q2 q3 q4 r0 r1 r2 r3 r4 z0; (obtain ⟨q0, q1, q2, q3, q4, r0, r1, r2, r3, r4, z0⟩ := uH KSW _ (uH HD)))
            | (go_at_call 35; (with_reducible refine (uH HQ4 _ (uH HD)).mono ?_); rintro e w7 ⟨rfl, hc2⟩; replace HD := hH ((uH HD).trans' hc2); clear hc2; clear q0 q1 q2 q3 q4 r0 r1 r2 r3 r4 z0; (obtain ⟨q0, q1, q2, q3, q4, r0, r1, r2, r3, r4, z0⟩ := uH KSW _ (uH HD))))
          go_ret
          exact ⟨retv (boolv (by simp [*])), (uH H0).trans' (uH HD)⟩
end Go.Proofs.YtinekmjengckdaaGreatDoor
