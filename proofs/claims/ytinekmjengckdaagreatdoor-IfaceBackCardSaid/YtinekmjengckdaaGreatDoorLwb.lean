/-
  Layer 23: the law: what is encoded is decoded again.
-/
import Derived.Test.YtinekmjengckdaaGreatDoorM36
import Derived.Test.YtinekmjengckdaaGreatDoorM37
import Derived.Test.YtinekmjengckdaaGreatDoorM39
namespace Go.Proofs.YtinekmjengckdaaGreatDoor
open Go.RowKit
set_option maxHeartbeats 4000000
set_option maxRecDepth 100000
theorem back_law (i : Ifc) (vo vd vf vs : Value) (T : Nat → Prop) (w : World) (h1 : RdIf T w i vo vd vf vs) (lay : Lay w) :
    Calls Tryz.prog 5 #[.agg #[.string i.name, vo, vd, vf, vs]] w fun e w' => e = .returned (.bool true) ∧ Chg (fun _ => False) w w' := by
  obtain ⟨A1, a1, rfl⟩ := RdR.val h1.opens
  obtain ⟨A2, a2, rfl⟩ := RdR.val h1.datas
  obtain ⟨A3, a3, rfl⟩ := RdR.val h1.fixes
  obtain ⟨A4, a4, rfl⟩ := RdR.val h1.sigs
  have h0 : Chg (fun _ => False) w (w.alloc (.cells #[.string i.name, .slice A1 i.opens.length a1, .slice A2 i.datas.length a2, .slice A3 i.fixes.length a3, .slice A4 i.sigs.length a4] 27)) := (Chg.refl _ w).alloc _
  have hb1 : Blk (w.alloc (.cells #[.string i.name, .slice A1 i.opens.length a1, .slice A2 i.datas.length a2, .slice A3 i.fixes.length a3, .slice A4 i.sigs.length a4] 27)) w.heap.size 27 #[.string i.name, .slice A1 i.opens.length a1, .slice A2 i.datas.length a2, .slice A3 i.fixes.length a3, .slice A4 i.sigs.length a4] := Blk.new w _ _
  have KSW := hide (fun W' (hW : Chg (fun _ => False) (w.alloc (.cells #[.string i.name, .slice A1 i.opens.length a1, .slice A2 i.datas.length a2, .slice A3 i.fixes.length a3, .slice A4 i.sigs.length a4] 27)) W') => show W'.cell? ⟨w.heap.size, 0, none⟩ = some (.string i.name) ∧ W'.cell? ⟨w.heap.size, 1, none⟩ = some (.slice A1 i.opens.length a1) ∧ W'.cell? ⟨w.heap.size, 2, none⟩ = some (.slice A2 i.datas.length a2) ∧ W'.cell? ⟨w.heap.size, 3, none⟩ = some (.slice A3 i.fixes.length a3) ∧ W'.cell? ⟨w.heap.size, 4, none⟩ = some (.slice A4 i.sigs.length a4) from ⟨(hb1.chg hW id).cell 0, (hb1.chg hW id).cell 1, (hb1.chg hW id).cell 2, (hb1.chg hW id).cell 3, (hb1.chg hW id).cell 4⟩)
  have HA := hide (fun W (hW : Chg (fun _ => False) (w.alloc (.cells #[.string i.name, .slice A1 i.opens.length a1, .slice A2 i.datas.length a2, .slice A3 i.fixes.length a3, .slice A4 i.sigs.length a4] 27)) W) => awake_any W (lay.chg (h0.trans' hW) (fun _ _ => id)))
  have HW := hide (fun W (hW : Chg (fun _ => False) (w.alloc (.cells #[.string i.name, .slice A1 i.opens.length a1, .slice A2 i.datas.length a2, .slice A3 i.fixes.length a3, .slice A4 i.sigs.length a4] 27)) W) => few_if i _ _ _ _ T W (h1.chg (h0.trans' hW) (fun _ _ _ => id)))
  have HRI := hide (fun W (hW : Chg (fun _ => False) (w.alloc (.cells #[.string i.name, .slice A1 i.opens.length a1, .slice A2 i.datas.length a2, .slice A3 i.fixes.length a3, .slice A4 i.sigs.length a4] 27)) W) => h1.chg (h0.trans' hW) (fun _ _ _ => id))
  have HD := hide (Chg.refl (fun _ => False) (w.alloc (.cells #[.string i.name, .slice A1 i.opens.length a1, .slice A2 i.datas.length a2, .slice A3 i.fixes.length a3, .slice A4 i.sigs.length a4] 27)))
  (obtain ⟨q0, q1, q2, q3, q4⟩ := unhide KSW _ (unhide HD))
  have H0 := hide h0
  cases hb : ifcB ltS i
  · have HEN := hide (fun (hf : IfF i) W (hW : Chg (fun _ => False) (w.alloc (.cells #[.string i.name, .slice A1 i.opens.length a1, .slice A2 i.datas.length a2, .slice A3 i.fixes.length a3, .slice A4 i.sigs.length a4] 27)) W) => show Calls Tryz.prog 11 #[.agg #[.string i.name, .slice A1 i.opens.length a1, .slice A2 i.datas.length a2, .slice A3 i.fixes.length a3, .slice A4 i.sigs.length a4]] W fun e w' => e = .returned (.tuple #[.string ⟨#[]⟩, .int .i64 230]) ∧ Chg (fun _ => False) W w' from by
      have hr := unhide HRI _ hW
      have := encode_any i _ _ _ _ _ W hr (hf.sz hr) (lay.chg (h0.trans' hW) (fun _ _ => id))
      unfold encS ifE at this
      rw [hb] at this
      exact this)
    clear h1 lay h0 hb1 hb HRI
    go_enter Tryz.func5, Tryz.ntmps5
    go_wp2_with (first
      | (go_at_call 9; (with_reducible refine (unhide HA _ (unhide HD)).mono ?_); rintro e w2 ⟨rfl, hc2⟩; have HN_ := hide ((unhide HD).trans' hc2); clear HD; have HD := HN_; clear HN_ hc2; clear q0 q1 q2 q3 q4; (obtain ⟨q0, q1, q2, q3, q4⟩ := unhide KSW _ (unhide HD)))
      | (go_at_call 10; (with_reducible refine (unhide HW _ (unhide HD)).mono ?_); rintro e w3 ⟨rb, rfl, hb, hc2⟩; have HB := hide hb; clear hb; have HN_ := hide ((unhide HD).trans' hc2); clear HD; have HD := HN_; clear HN_ hc2; clear q0 q1 q2 q3 q4; (obtain ⟨q0, q1, q2, q3, q4⟩ := unhide KSW _ (unhide HD)))
      | (go_at_call 11; (with_reducible refine (unhide HEN (unhide HB (nF (by assumption))) _ (unhide HD)).mono ?_); rintro e w4 ⟨rfl, hc2⟩; have HN_ := hide ((unhide HD).trans' hc2); clear HD; have HD := HN_; clear HN_ hc2; clear q0 q1 q2 q3 q4; (obtain ⟨q0, q1, q2, q3, q4⟩ := unhide KSW _ (unhide HD))))
    all_goals (go_ret; exact ⟨rfl, (unhide H0).trans' (unhide HD)⟩)
  · have HEN := hide (fun (hf : IfF i) W (hW : Chg (fun _ => False) (w.alloc (.cells #[.string i.name, .slice A1 i.opens.length a1, .slice A2 i.datas.length a2, .slice A3 i.fixes.length a3, .slice A4 i.sigs.length a4] 27)) W) => show Calls Tryz.prog 11 #[.agg #[.string i.name, .slice A1 i.opens.length a1, .slice A2 i.datas.length a2, .slice A3 i.fixes.length a3, .slice A4 i.sigs.length a4]] W fun e w' => e = .returned (.tuple #[.string ⟨(encP i).toArray⟩, .int .i64 0]) ∧ Chg (fun _ => False) W w' from by
      have hr := unhide HRI _ hW
      have := encode_any i _ _ _ _ _ W hr (hf.sz hr) (lay.chg (h0.trans' hW) (fun _ _ => id))
      unfold encS ifE at this
      rw [hb] at this
      exact this)
    have HDE := hide (fun (hf : IfF i) W (hW : Chg (fun _ => False) (w.alloc (.cells #[.string i.name, .slice A1 i.opens.length a1, .slice A2 i.datas.length a2, .slice A3 i.fixes.length a3, .slice A4 i.sigs.length a4] 27)) W) => show Calls Tryz.prog 20 #[.string ⟨(encP i).toArray⟩] W fun e w' => ∃ B1 b1 B2 b2 B3 b3 B4 b4, e = .returned (.tuple #[.agg #[.string i.name, .slice B1 i.opens.length b1, .slice B2 i.datas.length b2, .slice B3 i.fixes.length b3, .slice B4 i.sigs.length b4], .int .i64 0]) ∧ RdIf (fun _ => True) w' i (.slice B1 i.opens.length b1) (.slice B2 i.datas.length b2) (.slice B3 i.fixes.length b3) (.slice B4 i.sigs.length b4) ∧ Chg (fun _ => False) W w' from by
      have hz := hf.sz h1
      have hl := hz.len
      have hle := enc_len i
      have hl7 : (allP i).length ≤ 700000000 := hf.len7
      refine (decode_any ⟨(encP i).toArray⟩ W (by show (encP i).toArray.size ≤ _; rw [List.size_toArray]; omega) (lay.chg (h0.trans' hW) (fun _ _ => id))).mono fun e w' h => ?_
      obtain ⟨j, vo, vd, vf, vs, g1, g2, g3, g4, _⟩ := h
      have e0 : decG (ifcB ltS) (ByteArray.data ⟨(encP i).toArray⟩).toList = some i := dec_enc hb (ifc_fit hb hz.short)
      rw [e0] at g1 g3
      obtain rfl : j = i := g3
      obtain ⟨A1, a1, hv1⟩ := RdR.val g4.opens
      obtain ⟨A2, a2, hv2⟩ := RdR.val g4.datas
      obtain ⟨A3, a3, hv3⟩ := RdR.val g4.fixes
      obtain ⟨A4, a4, hv4⟩ := RdR.val g4.sigs
      subst hv1 hv2 hv3 hv4
      exact ⟨A1, a1, A2, a2, A3, a3, A4, a4, g1, g4.mono (fun _ _ => trivial), g2⟩)
    have HSM := hide (fun (hf : IfF i) W B1 b1 B2 b2 B3 b3 B4 b4 (hW : Chg (fun _ => False) (w.alloc (.cells #[.string i.name, .slice A1 i.opens.length a1, .slice A2 i.datas.length a2, .slice A3 i.fixes.length a3, .slice A4 i.sigs.length a4] 27)) W) (h : RdIf (fun _ => True) W i (.slice B1 i.opens.length b1) (.slice B2 i.datas.length b2) (.slice B3 i.fixes.length b3) (.slice B4 i.sigs.length b4)) => show Calls Tryz.prog 14 #[.agg #[.string i.name, .slice A1 i.opens.length a1, .slice A2 i.datas.length a2, .slice A3 i.fixes.length a3, .slice A4 i.sigs.length a4], .agg #[.string i.name, .slice B1 i.opens.length b1, .slice B2 i.datas.length b2, .slice B3 i.fixes.length b3, .slice B4 i.sigs.length b4]] W fun e w' => e = .returned (.bool true) ∧ Chg (fun _ => False) W w' from by
      have := refSame_any i i _ _ _ _ _ _ _ _ _ _ W (unhide HRI _ hW) h hf.ifl hf.ifl
      rw [(ifS_iff i i).2 rfl] at this
      exact this)
    clear h1 lay h0 hb1 hb HRI
    go_enter Tryz.func5, Tryz.ntmps5
    go_wp2_with (first
      | (go_at_call 9; (with_reducible refine (unhide HA _ (unhide HD)).mono ?_); rintro e w2 ⟨rfl, hc2⟩; have HN_ := hide ((unhide HD).trans' hc2); clear HD; have HD := HN_; clear HN_ hc2; clear q0 q1 q2 q3 q4; (obtain ⟨q0, q1, q2, q3, q4⟩ := unhide KSW _ (unhide HD)))
      | (go_at_call 10; (with_reducible refine (unhide HW _ (unhide HD)).mono ?_); rintro e w3 ⟨rb, rfl, hb, hc2⟩; have HB := hide hb; clear hb; have HN_ := hide ((unhide HD).trans' hc2); clear HD; have HD := HN_; clear HN_ hc2; clear q0 q1 q2 q3 q4; (obtain ⟨q0, q1, q2, q3, q4⟩ := unhide KSW _ (unhide HD)))
      | (go_at_call 11; (with_reducible refine (unhide HEN (unhide HB (nF (by assumption))) _ (unhide HD)).mono ?_); rintro e w4 ⟨rfl, hc2⟩; have HN_ := hide ((unhide HD).trans' hc2); clear HD; have HD := HN_; clear HN_ hc2; clear q0 q1 q2 q3 q4; (obtain ⟨q0, q1, q2, q3, q4⟩ := unhide KSW _ (unhide HD)))
      | (go_at_call 20; (with_reducible refine (unhide HDE (unhide HB (nF (by assumption))) _ (unhide HD)).mono ?_); rintro e w5 ⟨B1, b1, B2, b2, B3, b3, B4, b4, rfl, hd, hc2⟩; have HN_ := hide ((unhide HD).trans' hc2); clear HD; have HD := HN_; clear HN_ hc2; clear q0 q1 q2 q3 q4; (obtain ⟨q0, q1, q2, q3, q4⟩ := unhide KSW _ (unhide HD)); have HX := hide ((unhide HD).alloc (.cells #[.string i.name, .slice B1 i.opens.length b1, .slice B2 i.datas.length b2, .slice B3 i.fixes.length b3, .slice B4 i.sigs.length b4] 27)); have HDR := hide (hd.chg ((Chg.refl (fun _ => False) w5).alloc (.cells #[.string i.name, .slice B1 i.opens.length b1, .slice B2 i.datas.length b2, .slice B3 i.fixes.length b3, .slice B4 i.sigs.length b4] 27)) (fun _ _ _ => id)); clear hd; (obtain ⟨p0, p1, p2, p3, p4⟩ := unhide KSW _ (unhide HX)); have s0 := (Blk.new w5 27 #[.string i.name, .slice B1 i.opens.length b1, .slice B2 i.datas.length b2, .slice B3 i.fixes.length b3, .slice B4 i.sigs.length b4]).cell 0; have s1 := (Blk.new w5 27 #[.string i.name, .slice B1 i.opens.length b1, .slice B2 i.datas.length b2, .slice B3 i.fixes.length b3, .slice B4 i.sigs.length b4]).cell 1; have s2 := (Blk.new w5 27 #[.string i.name, .slice B1 i.opens.length b1, .slice B2 i.datas.length b2, .slice B3 i.fixes.length b3, .slice B4 i.sigs.length b4]).cell 2; have s3 := (Blk.new w5 27 #[.string i.name, .slice B1 i.opens.length b1, .slice B2 i.datas.length b2, .slice B3 i.fixes.length b3, .slice B4 i.sigs.length b4]).cell 3; have s4 := (Blk.new w5 27 #[.string i.name, .slice B1 i.opens.length b1, .slice B2 i.datas.length b2, .slice B3 i.fixes.length b3, .slice B4 i.sigs.length b4]).cell 4; simp only [List.getElem?_toArray, List.getElem?_cons_zero, List.getElem?_cons_succ] at s0 s1 s2 s3 s4)
      | (go_at_call 14; (with_reducible refine (unhide HSM (unhide HB (nF (by assumption))) _ _ _ _ _ _ _ _ _ (unhide HX) (unhide HDR)).mono ?_); rintro e w6 ⟨rfl, hc2⟩; have HZ := hide ((unhide HX).trans' hc2)))
    · go_ret
      exact ⟨rfl, (unhide H0).trans' (unhide HD)⟩
    · go_ret
      exact ⟨rfl, (unhide H0).trans' (unhide HZ)⟩
end Go.Proofs.YtinekmjengckdaaGreatDoor
