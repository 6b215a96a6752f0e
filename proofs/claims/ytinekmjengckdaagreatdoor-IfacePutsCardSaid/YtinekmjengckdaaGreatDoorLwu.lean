/-
  Layer 23: the law: whether any interface may be, its bytes and its digest, are the document's.
-/
import Derived.Test.YtinekmjengckdaaGreatDoorM36
import Derived.Test.YtinekmjengckdaaGreatDoorM37
import Derived.Test.YtinekmjengckdaaGreatDoorM39
import Derived.Test.YtinekmjengckdaaGreatDoorM51
import Derived.Test.YtinekmjengckdaaGreatDoorM50
namespace Go.Proofs.YtinekmjengckdaaGreatDoor
open Go.RowKit
set_option maxHeartbeats 4000000
set_option maxRecDepth 100000
theorem puts_law (i j : Ifc) (vo vd vf vs vo' vd' vf' vs' : Value) (T1 T2 : Nat → Prop) (w : World) (h1 : RdIf T1 w i vo vd vf vs) (h2 : RdIf T2 w j vo' vd' vf' vs') (lay : Lay w) :
    Calls Tryz.prog 3 #[.agg #[.string i.name, vo, vd, vf, vs], .agg #[.string j.name, vo', vd', vf', vs']] w fun e w' => e = .returned (.bool true) ∧ Chg (fun _ => False) w w' := by
  obtain ⟨A1, a1, rfl⟩ := RdR.val h1.opens
  obtain ⟨A2, a2, rfl⟩ := RdR.val h1.datas
  obtain ⟨A3, a3, rfl⟩ := RdR.val h1.fixes
  obtain ⟨A4, a4, rfl⟩ := RdR.val h1.sigs
  obtain ⟨B1, b1, rfl⟩ := RdR.val h2.opens
  obtain ⟨B2, b2, rfl⟩ := RdR.val h2.datas
  obtain ⟨B3, b3, rfl⟩ := RdR.val h2.fixes
  obtain ⟨B4, b4, rfl⟩ := RdR.val h2.sigs
  have h01 : Chg (fun _ => False) (w.alloc (.cells #[.string i.name, .slice A1 i.opens.length a1, .slice A2 i.datas.length a2, .slice A3 i.fixes.length a3, .slice A4 i.sigs.length a4] 27)) ((w.alloc (.cells #[.string i.name, .slice A1 i.opens.length a1, .slice A2 i.datas.length a2, .slice A3 i.fixes.length a3, .slice A4 i.sigs.length a4] 27)).alloc (.cells #[.string j.name, .slice B1 j.opens.length b1, .slice B2 j.datas.length b2, .slice B3 j.fixes.length b3, .slice B4 j.sigs.length b4] 27)) := (Chg.refl _ _).alloc _
  have h0 : Chg (fun _ => False) w ((w.alloc (.cells #[.string i.name, .slice A1 i.opens.length a1, .slice A2 i.datas.length a2, .slice A3 i.fixes.length a3, .slice A4 i.sigs.length a4] 27)).alloc (.cells #[.string j.name, .slice B1 j.opens.length b1, .slice B2 j.datas.length b2, .slice B3 j.fixes.length b3, .slice B4 j.sigs.length b4] 27)) := ((Chg.refl _ w).alloc _).alloc _
  have hx1 : Blk (w.alloc (.cells #[.string i.name, .slice A1 i.opens.length a1, .slice A2 i.datas.length a2, .slice A3 i.fixes.length a3, .slice A4 i.sigs.length a4] 27)) w.heap.size 27 #[.string i.name, .slice A1 i.opens.length a1, .slice A2 i.datas.length a2, .slice A3 i.fixes.length a3, .slice A4 i.sigs.length a4] := Blk.new w _ _
  have hb1 : Blk ((w.alloc (.cells #[.string i.name, .slice A1 i.opens.length a1, .slice A2 i.datas.length a2, .slice A3 i.fixes.length a3, .slice A4 i.sigs.length a4] 27)).alloc (.cells #[.string j.name, .slice B1 j.opens.length b1, .slice B2 j.datas.length b2, .slice B3 j.fixes.length b3, .slice B4 j.sigs.length b4] 27)) w.heap.size 27 #[.string i.name, .slice A1 i.opens.length a1, .slice A2 i.datas.length a2, .slice A3 i.fixes.length a3, .slice A4 i.sigs.length a4] := hx1.chg h01 id
  have hb2 : Blk ((w.alloc (.cells #[.string i.name, .slice A1 i.opens.length a1, .slice A2 i.datas.length a2, .slice A3 i.fixes.length a3, .slice A4 i.sigs.length a4] 27)).alloc (.cells #[.string j.name, .slice B1 j.opens.length b1, .slice B2 j.datas.length b2, .slice B3 j.fixes.length b3, .slice B4 j.sigs.length b4] 27)) (w.heap.size + 1) 27 #[.string j.name, .slice B1 j.opens.length b1, .slice B2 j.datas.length b2, .slice B3 j.fixes.length b3, .slice B4 j.sigs.length b4] := Blk.new_at _ _ _ _ (size_alloc _ _).symm
  have KSW := hide (fun W' (hW : Chg (fun _ => False) ((w.alloc (.cells #[.string i.name, .slice A1 i.opens.length a1, .slice A2 i.datas.length a2, .slice A3 i.fixes.length a3, .slice A4 i.sigs.length a4] 27)).alloc (.cells #[.string j.name, .slice B1 j.opens.length b1, .slice B2 j.datas.length b2, .slice B3 j.fixes.length b3, .slice B4 j.sigs.length b4] 27)) W') => show W'.cell? ⟨w.heap.size, 0, none⟩ = some (.string i.name) ∧ W'.cell? ⟨w.heap.size, 1, none⟩ = some (.slice A1 i.opens.length a1) ∧ W'.cell? ⟨w.heap.size, 2, none⟩ = some (.slice A2 i.datas.length a2) ∧ W'.cell? ⟨w.heap.size, 3, none⟩ = some (.slice A3 i.fixes.length a3) ∧ W'.cell? ⟨w.heap.size, 4, none⟩ = some (.slice A4 i.sigs.length a4) ∧ W'.cell? ⟨w.heap.size + 1, 0, none⟩ = some (.string j.name) ∧ W'.cell? ⟨w.heap.size + 1, 1, none⟩ = some (.slice B1 j.opens.length b1) ∧ W'.cell? ⟨w.heap.size + 1, 2, none⟩ = some (.slice B2 j.datas.length b2) ∧ W'.cell? ⟨w.heap.size + 1, 3, none⟩ = some (.slice B3 j.fixes.length b3) ∧ W'.cell? ⟨w.heap.size + 1, 4, none⟩ = some (.slice B4 j.sigs.length b4) from ⟨(hb1.chg hW id).cell 0, (hb1.chg hW id).cell 1, (hb1.chg hW id).cell 2, (hb1.chg hW id).cell 3, (hb1.chg hW id).cell 4, (hb2.chg hW id).cell 0, (hb2.chg hW id).cell 1, (hb2.chg hW id).cell 2, (hb2.chg hW id).cell 3, (hb2.chg hW id).cell 4⟩)
  have HA := hide (fun W (hW : Chg (fun _ => False) ((w.alloc (.cells #[.string i.name, .slice A1 i.opens.length a1, .slice A2 i.datas.length a2, .slice A3 i.fixes.length a3, .slice A4 i.sigs.length a4] 27)).alloc (.cells #[.string j.name, .slice B1 j.opens.length b1, .slice B2 j.datas.length b2, .slice B3 j.fixes.length b3, .slice B4 j.sigs.length b4] 27)) W) => awake_any W (lay.chg (h0.trans' hW) (fun _ _ => id)))
  have HW := hide (fun W (hW : Chg (fun _ => False) ((w.alloc (.cells #[.string i.name, .slice A1 i.opens.length a1, .slice A2 i.datas.length a2, .slice A3 i.fixes.length a3, .slice A4 i.sigs.length a4] 27)).alloc (.cells #[.string j.name, .slice B1 j.opens.length b1, .slice B2 j.datas.length b2, .slice B3 j.fixes.length b3, .slice B4 j.sigs.length b4] 27)) W) => few_if i _ _ _ _ T1 W (h1.chg (h0.trans' hW) (fun _ _ _ => id)))
  have HWJ := hide (fun W (hW : Chg (fun _ => False) ((w.alloc (.cells #[.string i.name, .slice A1 i.opens.length a1, .slice A2 i.datas.length a2, .slice A3 i.fixes.length a3, .slice A4 i.sigs.length a4] 27)).alloc (.cells #[.string j.name, .slice B1 j.opens.length b1, .slice B2 j.datas.length b2, .slice B3 j.fixes.length b3, .slice B4 j.sigs.length b4] 27)) W) => few_if j _ _ _ _ T2 W (h2.chg (h0.trans' hW) (fun _ _ _ => id)))
  have HRI := hide (fun W (hW : Chg (fun _ => False) ((w.alloc (.cells #[.string i.name, .slice A1 i.opens.length a1, .slice A2 i.datas.length a2, .slice A3 i.fixes.length a3, .slice A4 i.sigs.length a4] 27)).alloc (.cells #[.string j.name, .slice B1 j.opens.length b1, .slice B2 j.datas.length b2, .slice B3 j.fixes.length b3, .slice B4 j.sigs.length b4] 27)) W) => h1.chg (h0.trans' hW) (fun _ _ _ => id))
  have HRJ := hide (fun W (hW : Chg (fun _ => False) ((w.alloc (.cells #[.string i.name, .slice A1 i.opens.length a1, .slice A2 i.datas.length a2, .slice A3 i.fixes.length a3, .slice A4 i.sigs.length a4] 27)).alloc (.cells #[.string j.name, .slice B1 j.opens.length b1, .slice B2 j.datas.length b2, .slice B3 j.fixes.length b3, .slice B4 j.sigs.length b4] 27)) W) => h2.chg (h0.trans' hW) (fun _ _ _ => id))
  have HLY := hide (fun W (hW : Chg (fun _ => False) ((w.alloc (.cells #[.string i.name, .slice A1 i.opens.length a1, .slice A2 i.datas.length a2, .slice A3 i.fixes.length a3, .slice A4 i.sigs.length a4] 27)).alloc (.cells #[.string j.name, .slice B1 j.opens.length b1, .slice B2 j.datas.length b2, .slice B3 j.fixes.length b3, .slice B4 j.sigs.length b4] 27)) W) => lay.chg (h0.trans' hW) (fun _ _ => id))
  have HSA := hide (fun (hf : IfF i) (hg : IfF j) W (hW : Chg (fun _ => False) ((w.alloc (.cells #[.string i.name, .slice A1 i.opens.length a1, .slice A2 i.datas.length a2, .slice A3 i.fixes.length a3, .slice A4 i.sigs.length a4] 27)).alloc (.cells #[.string j.name, .slice B1 j.opens.length b1, .slice B2 j.datas.length b2, .slice B3 j.fixes.length b3, .slice B4 j.sigs.length b4] 27)) W) => ifSame_any i j _ _ _ _ _ _ _ _ T1 T2 W (unhide HRI _ hW) (unhide HRJ _ hW) hf.ifl hg.ifl)
  have HSB := hide (fun (hf : IfF i) (hg : IfF j) W (hW : Chg (fun _ => False) ((w.alloc (.cells #[.string i.name, .slice A1 i.opens.length a1, .slice A2 i.datas.length a2, .slice A3 i.fixes.length a3, .slice A4 i.sigs.length a4] 27)).alloc (.cells #[.string j.name, .slice B1 j.opens.length b1, .slice B2 j.datas.length b2, .slice B3 j.fixes.length b3, .slice B4 j.sigs.length b4] 27)) W) => refSame_any i j _ _ _ _ _ _ _ _ T1 T2 W (unhide HRI _ hW) (unhide HRJ _ hW) hf.ifl hg.ifl)
  have HRC := hide (fun (hf : IfF i) W (hW : Chg (fun _ => False) ((w.alloc (.cells #[.string i.name, .slice A1 i.opens.length a1, .slice A2 i.datas.length a2, .slice A3 i.fixes.length a3, .slice A4 i.sigs.length a4] 27)).alloc (.cells #[.string j.name, .slice B1 j.opens.length b1, .slice B2 j.datas.length b2, .slice B3 j.fixes.length b3, .slice B4 j.sigs.length b4] 27)) W) => refIf_any i _ _ _ _ T1 W (unhide HRI _ hW) (by have := hf.fixes.1; omega))
  have HCK := hide (fun (hf : IfF i) W (hW : Chg (fun _ => False) ((w.alloc (.cells #[.string i.name, .slice A1 i.opens.length a1, .slice A2 i.datas.length a2, .slice A3 i.fixes.length a3, .slice A4 i.sigs.length a4] 27)).alloc (.cells #[.string j.name, .slice B1 j.opens.length b1, .slice B2 j.datas.length b2, .slice B3 j.fixes.length b3, .slice B4 j.sigs.length b4] 27)) W) => ifCheck_any i _ _ _ _ T1 W (unhide HRI _ hW) (by have := hf.fixes.1; omega) (unhide HLY _ hW))
  have HEN := hide (fun (hf : IfF i) W (hW : Chg (fun _ => False) ((w.alloc (.cells #[.string i.name, .slice A1 i.opens.length a1, .slice A2 i.datas.length a2, .slice A3 i.fixes.length a3, .slice A4 i.sigs.length a4] 27)).alloc (.cells #[.string j.name, .slice B1 j.opens.length b1, .slice B2 j.datas.length b2, .slice B3 j.fixes.length b3, .slice B4 j.sigs.length b4] 27)) W) => encode_any i _ _ _ _ T1 W (unhide HRI _ hW) (hf.sz (unhide HRI _ hW)) (unhide HLY _ hW))
  have HDG := hide (fun (hf : IfF i) W (hW : Chg (fun _ => False) ((w.alloc (.cells #[.string i.name, .slice A1 i.opens.length a1, .slice A2 i.datas.length a2, .slice A3 i.fixes.length a3, .slice A4 i.sigs.length a4] 27)).alloc (.cells #[.string j.name, .slice B1 j.opens.length b1, .slice B2 j.datas.length b2, .slice B3 j.fixes.length b3, .slice B4 j.sigs.length b4] 27)) W) => digest_any i _ _ _ _ T1 W (unhide HRI _ hW) (hf.sz (unhide HRI _ hW)) (unhide HLY _ hW))
  have HD := hide (Chg.refl (fun _ => False) ((w.alloc (.cells #[.string i.name, .slice A1 i.opens.length a1, .slice A2 i.datas.length a2, .slice A3 i.fixes.length a3, .slice A4 i.sigs.length a4] 27)).alloc (.cells #[.string j.name, .slice B1 j.opens.length b1, .slice B2 j.datas.length b2, .slice B3 j.fixes.length b3, .slice B4 j.sigs.length b4] 27)))
  (obtain ⟨q0, q1, q2, q3, q4, r0, r1, r2, r3, r4⟩ := unhide KSW _ (unhide HD))
  have H0 := hide h0
  generalize ifS i j = SM at *
  cases hb : ifcB ltS i
  · have e1 : encS i = ⟨#[]⟩ := by unfold encS; rw [hb]; rfl
    have e2 : ifE i = 230 := by unfold ifE; rw [hb]; rfl
    have e3 : digI i = 0 := by unfold digI; rw [hb]; rfl
    rw [e1, e2] at HEN
    rw [e3, e2] at HDG
    rw [e2] at HCK
    rw [hb] at HRC
    clear h1 h2 lay h0 h01 hx1 hb1 hb2 hb e1 e2 e3
    go_enter Tryz.func3, Tryz.ntmps3
    go_upto_region 5 with (first
      | (go_at_call 9; (with_reducible refine (unhide HA _ (unhide HD)).mono ?_); rintro e w2 ⟨rfl, hc2⟩; have HN_ := hide ((unhide HD).trans' hc2); clear HD; have HD := HN_; clear HN_ hc2; clear q0 q1 q2 q3 q4 r0 r1 r2 r3 r4; (obtain ⟨q0, q1, q2, q3, q4, r0, r1, r2, r3, r4⟩ := unhide KSW _ (unhide HD)))
      | (go_at_call 10; (with_reducible refine (unhide HW _ (unhide HD)).mono ?_); rintro e w3 ⟨rb, rfl, hb, hc2⟩; cases rb; all_goals ((first | (have HB := hide (hb rfl); clear hb) | clear hb); have HN_ := hide ((unhide HD).trans' hc2); clear HD; have HD := HN_; clear HN_ hc2; clear q0 q1 q2 q3 q4 r0 r1 r2 r3 r4; (obtain ⟨q0, q1, q2, q3, q4, r0, r1, r2, r3, r4⟩ := unhide KSW _ (unhide HD))))
      | (go_at_call 10; (with_reducible refine (unhide HWJ _ (unhide HD)).mono ?_); rintro e w3 ⟨rb, rfl, hb, hc2⟩; cases rb; all_goals ((first | (have HC := hide (hb rfl); clear hb) | clear hb); have HN_ := hide ((unhide HD).trans' hc2); clear HD; have HD := HN_; clear HN_ hc2; clear q0 q1 q2 q3 q4 r0 r1 r2 r3 r4; (obtain ⟨q0, q1, q2, q3, q4, r0, r1, r2, r3, r4⟩ := unhide KSW _ (unhide HD))))
      | (go_at_call 11; (with_reducible refine (unhide HEN (unhide HB) _ (unhide HD)).mono ?_); rintro e w4 ⟨rfl, hc2⟩; have HN_ := hide ((unhide HD).trans' hc2); clear HD; have HD := HN_; clear HN_ hc2; clear q0 q1 q2 q3 q4 r0 r1 r2 r3 r4; (obtain ⟨q0, q1, q2, q3, q4, r0, r1, r2, r3, r4⟩ := unhide KSW _ (unhide HD)))
      | (go_at_call 12; (with_reducible refine (unhide HDG (unhide HB) _ (unhide HD)).mono ?_); rintro e w4 ⟨rfl, hc2⟩; have HN_ := hide ((unhide HD).trans' hc2); clear HD; have HD := HN_; clear HN_ hc2; clear q0 q1 q2 q3 q4 r0 r1 r2 r3 r4; (obtain ⟨q0, q1, q2, q3, q4, r0, r1, r2, r3, r4⟩ := unhide KSW _ (unhide HD))))
    all_goals first
      | (go_ret; exact ⟨rfl, (unhide H0).trans' (unhide HD)⟩)
      | (have HN_ := hide ((unhide HD).drew)
         clear HD
         have HD := HN_
         clear HN_ q0 q1 q2 q3 q4 r0 r1 r2 r3 r4
         have HKK := hide (unhide KSW _ (unhide HD))
         go_region_held3 (fun W => W.cell? ⟨w.heap.size, 0, none⟩ = some (.string i.name) ∧ W.cell? ⟨w.heap.size, 1, none⟩ = some (.slice A1 i.opens.length a1) ∧ W.cell? ⟨w.heap.size, 2, none⟩ = some (.slice A2 i.datas.length a2) ∧ W.cell? ⟨w.heap.size, 3, none⟩ = some (.slice A3 i.fixes.length a3) ∧ W.cell? ⟨w.heap.size, 4, none⟩ = some (.slice A4 i.sigs.length a4) ∧ W.cell? ⟨w.heap.size + 1, 0, none⟩ = some (.string j.name) ∧ W.cell? ⟨w.heap.size + 1, 1, none⟩ = some (.slice B1 j.opens.length b1) ∧ W.cell? ⟨w.heap.size + 1, 2, none⟩ = some (.slice B2 j.datas.length b2) ∧ W.cell? ⟨w.heap.size + 1, 3, none⟩ = some (.slice B3 j.fixes.length b3) ∧ W.cell? ⟨w.heap.size + 1, 4, none⟩ = some (.slice B4 j.sigs.length b4)) (first | exact unhide HKK | go_keep) (first
           | (go_at_call 13; (with_reducible refine (unhide HSA (unhide HB) (unhide HC) _ (unhide HD)).mono ?_); rintro e w5 ⟨rfl, hc2⟩; have HN_ := hide ((unhide HD).trans' hc2); clear HD; have HD := HN_; clear HN_ HKK; have HKK := hide (unhide KSW _ (unhide HD)); clear hc2)
           | (go_at_call 14; (with_reducible refine (unhide HSB (unhide HB) (unhide HC) _ (unhide HD)).mono ?_); rintro e w6 ⟨rfl, hc2⟩; have HN_ := hide ((unhide HD).trans' hc2); clear HD; have HD := HN_; clear HN_ HKK; have HKK := hide (unhide KSW _ (unhide HD)); clear hc2))
         (obtain ⟨q0, q1, q2, q3, q4, r0, r1, r2, r3, r4⟩ := unhide KSW _ (unhide HD))
         go_wp2_with (first
           | (go_at_call 15; (with_reducible refine (unhide HRC (unhide HB) _ (unhide HD)).mono ?_); rintro e w4 ⟨rfl, hc2⟩; have HN_ := hide ((unhide HD).trans' hc2); clear HD; have HD := HN_; clear HN_ hc2; clear q0 q1 q2 q3 q4 r0 r1 r2 r3 r4; (obtain ⟨q0, q1, q2, q3, q4, r0, r1, r2, r3, r4⟩ := unhide KSW _ (unhide HD)))
           | (go_at_call 16; (with_reducible refine (unhide HCK (unhide HB) _ (unhide HD)).mono ?_); rintro e w4 ⟨rfl, hc2⟩; have HN_ := hide ((unhide HD).trans' hc2); clear HD; have HD := HN_; clear HN_ hc2; clear q0 q1 q2 q3 q4 r0 r1 r2 r3 r4; (obtain ⟨q0, q1, q2, q3, q4, r0, r1, r2, r3, r4⟩ := unhide KSW _ (unhide HD))))
         go_ret
         exact ⟨rfl, (unhide H0).trans' (unhide HD)⟩)
  · have e1 : encS i = ⟨(encP i).toArray⟩ := by unfold encS; rw [hb]; rfl
    have e2 : ifE i = 0 := by unfold ifE; rw [hb]; rfl
    have e3 : digI i = sumB (allP i) := by unfold digI; rw [hb]; rfl
    have HEC := hide (fun (hf : IfF i) W (hW : Chg (fun _ => False) ((w.alloc (.cells #[.string i.name, .slice A1 i.opens.length a1, .slice A2 i.datas.length a2, .slice A3 i.fixes.length a3, .slice A4 i.sigs.length a4] 27)).alloc (.cells #[.string j.name, .slice B1 j.opens.length b1, .slice B2 j.datas.length b2, .slice B3 j.fixes.length b3, .slice B4 j.sigs.length b4] 27)) W) => refEnc_any i _ _ _ _ T1 W (unhide HRI _ hW) (ifc_fit hb (hf.sz (unhide HRI _ hW)).short) hf.len)
    have HAL := hide (fun (hf : IfF i) W (hW : Chg (fun _ => False) ((w.alloc (.cells #[.string i.name, .slice A1 i.opens.length a1, .slice A2 i.datas.length a2, .slice A3 i.fixes.length a3, .slice A4 i.sigs.length a4] 27)).alloc (.cells #[.string j.name, .slice B1 j.opens.length b1, .slice B2 j.datas.length b2, .slice B3 j.fixes.length b3, .slice B4 j.sigs.length b4] 27)) W) => refAll_any i _ _ _ _ T1 W (unhide HRI _ hW) (ifc_fit hb (hf.sz (unhide HRI _ hW)).short) hf.len)
    have HSM := hide (fun (hf : IfF i) W => show Calls Tryz.prog 18 #[.string ⟨(allP i).toArray⟩] W fun e w' => e = .returned (.int .u32 (sumB (allP i) : Int)) ∧ W = w' from by
      have h7 := hf.len
      have := refSum_any ⟨(allP i).toArray⟩ W (by show (allP i).toArray.size ≤ _; simp; omega)
      simpa using this)
    rw [e1, e2] at HEN
    rw [e3, e2] at HDG
    rw [e2] at HCK
    rw [hb] at HRC
    generalize (⟨(encP i).toArray⟩ : ByteArray) = EN at *
    generalize (⟨(allP i).toArray⟩ : ByteArray) = AL at *
    generalize sumB (allP i) = SU at *
    clear h1 h2 lay h0 h01 hx1 hb1 hb2 hb e1 e2 e3
    go_enter Tryz.func3, Tryz.ntmps3
    go_upto_region 5 with (first
      | (go_at_call 9; (with_reducible refine (unhide HA _ (unhide HD)).mono ?_); rintro e w2 ⟨rfl, hc2⟩; have HN_ := hide ((unhide HD).trans' hc2); clear HD; have HD := HN_; clear HN_ hc2; clear q0 q1 q2 q3 q4 r0 r1 r2 r3 r4; (obtain ⟨q0, q1, q2, q3, q4, r0, r1, r2, r3, r4⟩ := unhide KSW _ (unhide HD)))
      | (go_at_call 10; (with_reducible refine (unhide HW _ (unhide HD)).mono ?_); rintro e w3 ⟨rb, rfl, hb, hc2⟩; cases rb; all_goals ((first | (have HB := hide (hb rfl); clear hb) | clear hb); have HN_ := hide ((unhide HD).trans' hc2); clear HD; have HD := HN_; clear HN_ hc2; clear q0 q1 q2 q3 q4 r0 r1 r2 r3 r4; (obtain ⟨q0, q1, q2, q3, q4, r0, r1, r2, r3, r4⟩ := unhide KSW _ (unhide HD))))
      | (go_at_call 10; (with_reducible refine (unhide HWJ _ (unhide HD)).mono ?_); rintro e w3 ⟨rb, rfl, hb, hc2⟩; cases rb; all_goals ((first | (have HC := hide (hb rfl); clear hb) | clear hb); have HN_ := hide ((unhide HD).trans' hc2); clear HD; have HD := HN_; clear HN_ hc2; clear q0 q1 q2 q3 q4 r0 r1 r2 r3 r4; (obtain ⟨q0, q1, q2, q3, q4, r0, r1, r2, r3, r4⟩ := unhide KSW _ (unhide HD))))
      | (go_at_call 11; (with_reducible refine (unhide HEN (unhide HB) _ (unhide HD)).mono ?_); rintro e w4 ⟨rfl, hc2⟩; have HN_ := hide ((unhide HD).trans' hc2); clear HD; have HD := HN_; clear HN_ hc2; clear q0 q1 q2 q3 q4 r0 r1 r2 r3 r4; (obtain ⟨q0, q1, q2, q3, q4, r0, r1, r2, r3, r4⟩ := unhide KSW _ (unhide HD)))
      | (go_at_call 12; (with_reducible refine (unhide HDG (unhide HB) _ (unhide HD)).mono ?_); rintro e w4 ⟨rfl, hc2⟩; have HN_ := hide ((unhide HD).trans' hc2); clear HD; have HD := HN_; clear HN_ hc2; clear q0 q1 q2 q3 q4 r0 r1 r2 r3 r4; (obtain ⟨q0, q1, q2, q3, q4, r0, r1, r2, r3, r4⟩ := unhide KSW _ (unhide HD))))
    all_goals first
      | (go_ret; exact ⟨rfl, (unhide H0).trans' (unhide HD)⟩)
      | (have HN_ := hide ((unhide HD).drew)
         clear HD
         have HD := HN_
         clear HN_ q0 q1 q2 q3 q4 r0 r1 r2 r3 r4
         have HKK := hide (unhide KSW _ (unhide HD))
         go_region_held3 (fun W => W.cell? ⟨w.heap.size, 0, none⟩ = some (.string i.name) ∧ W.cell? ⟨w.heap.size, 1, none⟩ = some (.slice A1 i.opens.length a1) ∧ W.cell? ⟨w.heap.size, 2, none⟩ = some (.slice A2 i.datas.length a2) ∧ W.cell? ⟨w.heap.size, 3, none⟩ = some (.slice A3 i.fixes.length a3) ∧ W.cell? ⟨w.heap.size, 4, none⟩ = some (.slice A4 i.sigs.length a4) ∧ W.cell? ⟨w.heap.size + 1, 0, none⟩ = some (.string j.name) ∧ W.cell? ⟨w.heap.size + 1, 1, none⟩ = some (.slice B1 j.opens.length b1) ∧ W.cell? ⟨w.heap.size + 1, 2, none⟩ = some (.slice B2 j.datas.length b2) ∧ W.cell? ⟨w.heap.size + 1, 3, none⟩ = some (.slice B3 j.fixes.length b3) ∧ W.cell? ⟨w.heap.size + 1, 4, none⟩ = some (.slice B4 j.sigs.length b4)) (first | exact unhide HKK | go_keep) (first
           | (go_at_call 13; (with_reducible refine (unhide HSA (unhide HB) (unhide HC) _ (unhide HD)).mono ?_); rintro e w5 ⟨rfl, hc2⟩; have HN_ := hide ((unhide HD).trans' hc2); clear HD; have HD := HN_; clear HN_ HKK; have HKK := hide (unhide KSW _ (unhide HD)); clear hc2)
           | (go_at_call 14; (with_reducible refine (unhide HSB (unhide HB) (unhide HC) _ (unhide HD)).mono ?_); rintro e w6 ⟨rfl, hc2⟩; have HN_ := hide ((unhide HD).trans' hc2); clear HD; have HD := HN_; clear HN_ HKK; have HKK := hide (unhide KSW _ (unhide HD)); clear hc2))
         (obtain ⟨q0, q1, q2, q3, q4, r0, r1, r2, r3, r4⟩ := unhide KSW _ (unhide HD))
         go_wp2_with (first
           | (go_at_call 15; (with_reducible refine (unhide HRC (unhide HB) _ (unhide HD)).mono ?_); rintro e w4 ⟨rfl, hc2⟩; have HN_ := hide ((unhide HD).trans' hc2); clear HD; have HD := HN_; clear HN_ hc2; clear q0 q1 q2 q3 q4 r0 r1 r2 r3 r4; (obtain ⟨q0, q1, q2, q3, q4, r0, r1, r2, r3, r4⟩ := unhide KSW _ (unhide HD)))
           | (go_at_call 16; (with_reducible refine (unhide HCK (unhide HB) _ (unhide HD)).mono ?_); rintro e w4 ⟨rfl, hc2⟩; have HN_ := hide ((unhide HD).trans' hc2); clear HD; have HD := HN_; clear HN_ hc2; clear q0 q1 q2 q3 q4 r0 r1 r2 r3 r4; (obtain ⟨q0, q1, q2, q3, q4, r0, r1, r2, r3, r4⟩ := unhide KSW _ (unhide HD)))
           | (go_at_call 17; (with_reducible refine (unhide HEC (unhide HB) _ (unhide HD)).mono ?_); rintro e w4 ⟨rfl, hc2⟩; have HN_ := hide ((unhide HD).trans' hc2); clear HD; have HD := HN_; clear HN_ hc2; clear q0 q1 q2 q3 q4 r0 r1 r2 r3 r4; (obtain ⟨q0, q1, q2, q3, q4, r0, r1, r2, r3, r4⟩ := unhide KSW _ (unhide HD)))
           | (go_at_call 19; (with_reducible refine (unhide HAL (unhide HB) _ (unhide HD)).mono ?_); rintro e w4 ⟨rfl, hc2⟩; have HN_ := hide ((unhide HD).trans' hc2); clear HD; have HD := HN_; clear HN_ hc2; clear q0 q1 q2 q3 q4 r0 r1 r2 r3 r4; (obtain ⟨q0, q1, q2, q3, q4, r0, r1, r2, r3, r4⟩ := unhide KSW _ (unhide HD)))
           | (go_at_call 18; (with_reducible refine (unhide HSM (unhide HB) _).mono ?_); rintro e w5 ⟨rfl, rfl⟩))
         go_ret
         exact ⟨rfl, (unhide H0).trans' (unhide HD)⟩)
end Go.Proofs.YtinekmjengckdaaGreatDoor
