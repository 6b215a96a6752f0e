/-
  Layer 23: the chapter's example holds.
-/
import Derived.Test.YtinekmjengckdaaGreatDoorA28
import Derived.Test.YtinekmjengckdaaGreatDoorA29
import Derived.Test.YtinekmjengckdaaGreatDoorA35
namespace Go.Proofs.YtinekmjengckdaaGreatDoor
open Go.RowKit
set_option maxHeartbeats 4000000
set_option maxRecDepth 100000
def exM : Ifc := ⟨⟨#[77]⟩, [], [], [], []⟩
theorem exM_ok : ifcB ltS exM = true := by kernel_rfl
theorem exM_sum : sumB (allP exM) = 3929639449 := by kernel_rfl
theorem exM_encP : encP exM = [84, 82, 71, 73, 1, 0, 77, 0, 0, 0, 0, 0, 0, 0, 0, 25, 138, 57, 234] := by kernel_rfl
theorem exM_enc : encS exM = ⟨#[84, 82, 71, 73, 1, 0, 77, 0, 0, 0, 0, 0, 0, 0, 0, 25, 138, 57, 234]⟩ := by unfold encS; rw [exM_ok, exM_encP]; rfl
theorem exM_err : ifE exM = 0 := by unfold ifE; rw [exM_ok]; rfl
theorem exM_dig : digI exM = 3929639449 := by unfold digI; rw [exM_ok, exM_sum]; rfl
theorem exM_ifl : IfL exM := ⟨by decide, by decide, by decide, by decide, fun _ h => (by cases h), fun _ h => (by cases h)⟩
theorem exM_sz : Sz exM := ⟨⟨fun _ h => (by cases h), fun _ h => (by cases h), fun _ h => (by cases h), fun _ h => (by cases h)⟩, by decide, by decide⟩
theorem exM_dec : decG (ifcB ltS) [84, 82, 71, 73, 1, 0, 77, 0, 0, 0, 0, 0, 0, 0, 0, 25, 138, 57, 234] = some exM := by
  have := dec_enc (ok := ifcB ltS) exM_ok (ifc_fit exM_ok exM_sz.short)
  rw [exM_encP] at this
  exact this
theorem exM_same : ifS exM exM = true := (ifS_iff _ _).2 rfl
theorem exM_not : ifS exM ⟨⟨#[]⟩, [], [], [], []⟩ = false := by kernel_rfl
theorem cap_nil : capOk (.slice none 0 0) := ⟨none, 0, 0, rfl, Nat.le_refl _, Nat.zero_le _⟩
theorem exM_rd (W : World) : RdIf (fun _ => True) W exM (.slice none 0 0) (.slice none 0 0) (.slice none 0 0) (.slice none 0 0) := ⟨by decide, RdR.nil_ _ _ _ _, RdR.nil_ _ _ _ _, RdR.nil_ _ _ _ _, RdR.nil_ _ _ _ _, cap_nil, cap_nil⟩
theorem ex0_rd (W : World) : RdIf (fun _ => True) W ⟨⟨#[]⟩, [], [], [], []⟩ (.slice none 0 0) (.slice none 0 0) (.slice none 0 0) (.slice none 0 0) := ⟨by decide, RdR.nil_ _ _ _ _, RdR.nil_ _ _ _ _, RdR.nil_ _ _ _ _, RdR.nil_ _ _ _ _, cap_nil, cap_nil⟩
theorem awake_any (w : World) (lay : Lay w) : Calls Tryz.prog 9 #[] w fun e w' => e = .returned (.bool true) ∧ Chg (fun _ => False) w w' := by
  have HEN := hH (fun W (hW : Chg (fun _ => False) w W) => show Calls Tryz.prog 11 #[.agg #[.string ⟨#[77]⟩, .slice none 0 0, .slice none 0 0, .slice none 0 0, .slice none 0 0]] W fun e w' => e = .returned (.tuple #[.string ⟨#[84, 82, 71, 73, 1, 0, 77, 0, 0, 0, 0, 0, 0, 0, 0, 25, 138, 57, 234]⟩, .int .i64 0]) ∧ Chg (fun _ => False) W w' from by
    have := encode_any exM _ _ _ _ _ W (exM_rd W) exM_sz (lay.chg hW (fun _ _ => id))
    rw [exM_enc, exM_err] at this
    exact this)
  have HDE := hH (fun W (hW : Chg (fun _ => False) w W) => show Calls Tryz.prog 20 #[.string ⟨#[84, 82, 71, 73, 1, 0, 77, 0, 0, 0, 0, 0, 0, 0, 0, 25, 138, 57, 234]⟩] W fun e w' => ∃ A1 a1 A2 a2 A3 a3 A4 a4, e = .returned (.tuple #[.agg #[.string ⟨#[77]⟩, .slice A1 0 a1, .slice A2 0 a2, .slice A3 0 a3, .slice A4 0 a4], .int .i64 0]) ∧ RdIf (fun _ => True) w' exM (.slice A1 0 a1) (.slice A2 0 a2) (.slice A3 0 a3) (.slice A4 0 a4) ∧ Chg (fun _ => False) W w' from
    (decode_any ⟨#[84, 82, 71, 73, 1, 0, 77, 0, 0, 0, 0, 0, 0, 0, 0, 25, 138, 57, 234]⟩ W (by decide) (lay.chg hW (fun _ _ => id))).mono fun e w' h => by
      obtain ⟨j, vo, vd, vf, vs, h1, h2, h3, h4, _⟩ := h
      have e0 : decG (ifcB ltS) (ByteArray.data ⟨#[84, 82, 71, 73, 1, 0, 77, 0, 0, 0, 0, 0, 0, 0, 0, 25, 138, 57, 234]⟩).toList = some exM := exM_dec
      rw [e0] at h1 h3
      obtain rfl : j = exM := h3
      obtain ⟨A1, a1, hv1⟩ := RdR.val h4.opens
      obtain ⟨A2, a2, hv2⟩ := RdR.val h4.datas
      obtain ⟨A3, a3, hv3⟩ := RdR.val h4.fixes
      obtain ⟨A4, a4, hv4⟩ := RdR.val h4.sigs
      subst hv1 hv2 hv3 hv4
      exact ⟨A1, a1, A2, a2, A3, a3, A4, a4, h1, h4.mono (fun _ _ => trivial), h2⟩)
  have HDG := hH (fun W (hW : Chg (fun _ => False) w W) => show Calls Tryz.prog 12 #[.agg #[.string ⟨#[77]⟩, .slice none 0 0, .slice none 0 0, .slice none 0 0, .slice none 0 0]] W fun e w' => e = .returned (.tuple #[.int .u32 3929639449, .int .i64 0]) ∧ Chg (fun _ => False) W w' from by
    have := digest_any exM _ _ _ _ _ W (exM_rd W) exM_sz (lay.chg hW (fun _ _ => id))
    rw [exM_dig, exM_err] at this
    exact this)
  have HS1 := hH (fun W A1 a1 A2 a2 A3 a3 A4 a4 (h : RdIf (fun _ => True) W exM (.slice A1 0 a1) (.slice A2 0 a2) (.slice A3 0 a3) (.slice A4 0 a4)) => show Calls Tryz.prog 13 #[.agg #[.string ⟨#[77]⟩, .slice none 0 0, .slice none 0 0, .slice none 0 0, .slice none 0 0], .agg #[.string ⟨#[77]⟩, .slice A1 0 a1, .slice A2 0 a2, .slice A3 0 a3, .slice A4 0 a4]] W fun e w' => e = .returned (.bool true) ∧ Chg (fun _ => False) W w' from by
    have := ifSame_any exM exM _ _ _ _ _ _ _ _ _ _ W (exM_rd W) h exM_ifl exM_ifl
    rw [exM_same] at this
    exact this)
  have HS2 := hH (fun W => show Calls Tryz.prog 13 #[.agg #[.string ⟨#[77]⟩, .slice none 0 0, .slice none 0 0, .slice none 0 0, .slice none 0 0], .agg #[.string ⟨#[]⟩, .slice none 0 0, .slice none 0 0, .slice none 0 0, .slice none 0 0]] W fun e w' => e = .returned (.bool false) ∧ Chg (fun _ => False) W w' from by
    have := ifSame_any exM ⟨⟨#[]⟩, [], [], [], []⟩ _ _ _ _ _ _ _ _ _ _ W (exM_rd W) (ex0_rd W) exM_ifl empty_ifl
    rw [exM_not] at this
    exact this)
  have HSU := hH (fun W => show Calls Tryz.prog 18 #[.string ((⟨#[84, 82, 71, 73, 1, 0, 77, 0, 0, 0, 0, 0, 0, 0, 0, 25, 138, 57, 234]⟩ : ByteArray).extract 0 15)] W fun e w' => e = .returned (.int .u32 3929639449) ∧ W = w' from by
    have he : (⟨#[84, 82, 71, 73, 1, 0, 77, 0, 0, 0, 0, 0, 0, 0, 0, 25, 138, 57, 234]⟩ : ByteArray).extract 0 15 = ⟨#[84, 82, 71, 73, 1, 0, 77, 0, 0, 0, 0, 0, 0, 0, 0]⟩ := by kernel_rfl
    rw [he]
    have := refSum_any ⟨#[84, 82, 71, 73, 1, 0, 77, 0, 0, 0, 0, 0, 0, 0, 0]⟩ W (by decide)
    have hs : sumB (ByteArray.data ⟨#[84, 82, 71, 73, 1, 0, 77, 0, 0, 0, 0, 0, 0, 0, 0]⟩).toList = 3929639449 := by kernel_rfl
    rw [hs] at this
    exact this)
  have HC1' := hH (fun W (hW : Chg (fun _ => False) w W) => show Calls Tryz.prog 16 #[.agg #[.string ⟨#[77]⟩, .slice none 0 0, .slice none 0 0, .slice none 0 0, .slice none 0 0]] W fun e w' => e = .returned (.int .i64 0) ∧ Chg (fun _ => False) W w' from by
    have := ifCheck_any exM _ _ _ _ _ W (exM_rd W) (by decide) (lay.chg hW (fun _ _ => id))
    rw [exM_err] at this
    exact this)
  have HC2 := hH (fun W A1 a1 A2 a2 A3 a3 A4 a4 (hW : Chg (fun _ => False) w W) (h : RdIf (fun _ => True) W exM (.slice A1 0 a1) (.slice A2 0 a2) (.slice A3 0 a3) (.slice A4 0 a4)) => show Calls Tryz.prog 16 #[.agg #[.string ⟨#[77]⟩, .slice A1 0 a1, .slice A2 0 a2, .slice A3 0 a3, .slice A4 0 a4]] W fun e w' => e = .returned (.int .i64 0) ∧ Chg (fun _ => False) W w' from by
    have := ifCheck_any exM _ _ _ _ _ W h (by decide) (lay.chg hW (fun _ _ => id))
    rw [exM_err] at this
    exact this)
  clear lay
  have hx : (((⟨#[84, 82, 71, 73, 1, 0, 77, 0, 0, 0, 0, 0, 0, 0, 0, 25, 138, 57, 234]⟩ : ByteArray).extract 0 15).toList == [84, 82, 71, 73, 1, 0, 77, 0, 0, 0, 0, 0, 0, 0, 0]) = true := by kernel_rfl
  go_enter Tryz.func9, Tryz.ntmps9
  go_upto_region 2 with fail
  have bk := Blk.new w 27 #[.string ⟨#[77]⟩, .slice none 0 0, .slice none 0 0, .slice none 0 0, .slice none 0 0]
  have hc0 : Chg (fun _ => False) w (w.alloc (.cells #[.string ⟨#[77]⟩, .slice none 0 0, .slice none 0 0, .slice none 0 0, .slice none 0 0] 27)) := (Chg.refl _ w).alloc _
  generalize w.alloc (.cells #[.string ⟨#[77]⟩, .slice none 0 0, .slice none 0 0, .slice none 0 0, .slice none 0 0] 27) = w1 at *
  generalize w.heap.size = g at *
  have KSW := hH (fun W' (hW : Chg (fun _ => False) w1 W') => show W'.cell? ⟨g, 0, none⟩ = some (.string ⟨#[77]⟩) ∧ W'.cell? ⟨g, 1, none⟩ = some (.slice none 0 0) ∧ W'.cell? ⟨g, 2, none⟩ = some (.slice none 0 0) ∧ W'.cell? ⟨g, 3, none⟩ = some (.slice none 0 0) ∧ W'.cell? ⟨g, 4, none⟩ = some (.slice none 0 0) from ⟨(bk.chg hW id).cell 0, (bk.chg hW id).cell 1, (bk.chg hW id).cell 2, (bk.chg hW id).cell 3, (bk.chg hW id).cell 4⟩)
  have HD := hH (Chg.refl (fun _ => False) w1)
  have HC0 := hH hc0
  clear bk hc0
  (obtain ⟨q0, q1, q2, q3, q4⟩ := uH KSW _ (uH HD))
  go_upto_region 4 with (first
    | (go_at_call 11; (with_reducible refine (uH HEN _ ((uH HC0).trans' (uH HD))).mono ?_); rintro e w2 ⟨rfl, hc2⟩; replace HD := hH ((uH HD).trans' hc2); clear hc2; clear q0 q1 q2 q3 q4; (obtain ⟨q0, q1, q2, q3, q4⟩ := uH KSW _ (uH HD)))
    | (go_at_call 20; (with_reducible refine (uH HDE _ ((uH HC0).trans' (uH HD))).mono ?_); rintro e w3 ⟨A1, a1, A2, a2, A3, a3, A4, a4, rfl, hd, hc2⟩; have HDR := hH hd; clear hd; replace HD := hH ((uH HD).trans' hc2); clear hc2; clear q0 q1 q2 q3 q4; (obtain ⟨q0, q1, q2, q3, q4⟩ := uH KSW _ (uH HD))))
  have bk := Blk.new w3 27 #[.string ⟨#[77]⟩, .slice A1 0 a1, .slice A2 0 a2, .slice A3 0 a3, .slice A4 0 a4]
  have hc0 : Chg (fun _ => False) w3 (w3.alloc (.cells #[.string ⟨#[77]⟩, .slice A1 0 a1, .slice A2 0 a2, .slice A3 0 a3, .slice A4 0 a4] 27)) := (Chg.refl _ w3).alloc _
  generalize w3.alloc (.cells #[.string ⟨#[77]⟩, .slice A1 0 a1, .slice A2 0 a2, .slice A3 0 a3, .slice A4 0 a4] 27) = w4 at *
  generalize w3.heap.size = g2 at *
  have KSW2 := hH (fun W' (hW : Chg (fun _ => False) w4 W') => show W'.cell? ⟨g2, 0, none⟩ = some (.string ⟨#[77]⟩) ∧ W'.cell? ⟨g2, 1, none⟩ = some (.slice A1 0 a1) ∧ W'.cell? ⟨g2, 2, none⟩ = some (.slice A2 0 a2) ∧ W'.cell? ⟨g2, 3, none⟩ = some (.slice A3 0 a3) ∧ W'.cell? ⟨g2, 4, none⟩ = some (.slice A4 0 a4) from ⟨(bk.chg hW id).cell 0, (bk.chg hW id).cell 1, (bk.chg hW id).cell 2, (bk.chg hW id).cell 3, (bk.chg hW id).cell 4⟩)
  have KSW1 := hH (fun W' (hW : Chg (fun _ => False) w4 W') => uH KSW W' ((uH HD).trans' (hc0.trans' hW)))
  have HC1 := hH ((uH HC0).trans' ((uH HD).trans' hc0))
  have HRR := hH (fun W' (hW : Chg (fun _ => False) w4 W') => (uH HDR).chg (hc0.trans' hW) (fun _ _ _ => id))
  clear q0 q1 q2 q3 q4 HD KSW HC0 HDR hc0 bk HEN HDE
  have HD := hH (Chg.refl (fun _ => False) w4)
  (obtain ⟨q0, q1, q2, q3, q4⟩ := uH KSW1 _ (uH HD)); (obtain ⟨r0, r1, r2, r3, r4⟩ := uH KSW2 _ (uH HD))
  go_wp2_with (first
    | (go_at_call 12; (with_reducible refine (uH HDG _ ((uH HC1).trans' (uH HD))).mono ?_); rintro e w5 ⟨rfl, hc2⟩; replace HD := hH ((uH HD).trans' hc2); clear hc2; clear q0 q1 q2 q3 q4 r0 r1 r2 r3 r4; (obtain ⟨q0, q1, q2, q3, q4⟩ := uH KSW1 _ (uH HD)); (obtain ⟨r0, r1, r2, r3, r4⟩ := uH KSW2 _ (uH HD)))
    | (go_at_call 13; (with_reducible refine (uH HS1 _ _ _ _ _ _ _ _ _ (uH HRR _ (uH HD))).mono ?_); rintro e w6 ⟨rfl, hc2⟩; replace HD := hH ((uH HD).trans' hc2); clear hc2; clear q0 q1 q2 q3 q4 r0 r1 r2 r3 r4; (obtain ⟨q0, q1, q2, q3, q4⟩ := uH KSW1 _ (uH HD)); (obtain ⟨r0, r1, r2, r3, r4⟩ := uH KSW2 _ (uH HD)))
    | (go_at_call 13; (with_reducible refine (uH HS2 _).mono ?_); rintro e w7 ⟨rfl, hc2⟩; replace HD := hH ((uH HD).trans' hc2); clear hc2; clear q0 q1 q2 q3 q4 r0 r1 r2 r3 r4; (obtain ⟨q0, q1, q2, q3, q4⟩ := uH KSW1 _ (uH HD)); (obtain ⟨r0, r1, r2, r3, r4⟩ := uH KSW2 _ (uH HD)))
    | (go_at_call 18; (with_reducible refine (uH HSU _).mono ?_); rintro e w8 ⟨rfl, rfl⟩)
    | (go_at_call 16; (with_reducible refine (uH HC1' _ ((uH HC1).trans' (uH HD))).mono ?_); rintro e w9 ⟨rfl, hc2⟩; replace HD := hH ((uH HD).trans' hc2); clear hc2; clear q0 q1 q2 q3 q4 r0 r1 r2 r3 r4; (obtain ⟨q0, q1, q2, q3, q4⟩ := uH KSW1 _ (uH HD)); (obtain ⟨r0, r1, r2, r3, r4⟩ := uH KSW2 _ (uH HD)))
    | (go_at_call 16; (with_reducible refine (uH HC2 _ _ _ _ _ _ _ _ _ ((uH HC1).trans' (uH HD)) (uH HRR _ (uH HD))).mono ?_); rintro e w10 ⟨rfl, hc2⟩; replace HD := hH ((uH HD).trans' hc2); clear hc2; clear q0 q1 q2 q3 q4 r0 r1 r2 r3 r4; (obtain ⟨q0, q1, q2, q3, q4⟩ := uH KSW1 _ (uH HD)); (obtain ⟨r0, r1, r2, r3, r4⟩ := uH KSW2 _ (uH HD))))
  go_ret
  exact ⟨rfl, (uH HC1).trans' (uH HD)⟩
end Go.Proofs.YtinekmjengckdaaGreatDoor
