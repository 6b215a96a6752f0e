/-
  Layer 11, the document's side: may names with their types be, together?
-/
import Derived.Test.YtinekmjengckdaaGreatDoorA45
import Derived.Test.YtinekmjengckdaaGreatDoorA46
import Derived.Test.YtinekmjengckdaaGreatDoorA44
import Derived.Test.YtinekmjengckdaaGreatDoorA16
import Derived.Test.YtinekmjengckdaaGreatDoorA47
namespace Go.Proofs.YtinekmjengckdaaGreatDoor
open Go.RowKit
set_option maxHeartbeats 4000000
set_option maxRecDepth 100000
theorem sgB_eq (s : Sg) : sgB s = (((nameB 1 s.name || opB s.name) || nameB 2 s.name) && typB s.type && (!nameB 2 s.name || nameB 2 (headText (partsL s.type).2))) := rfl
theorem any_no {l : List Sg} {k : Nat} {x : Sg} (h : ∀ (j : Nat) (y : Sg), j < k → l[j]? = some y → ¬ y.name = x.name) : ((l.take k).any fun y => decide (y.name = x.name)) = false := by
  rw [List.any_eq_false]
  intro y hy
  obtain ⟨j, hj⟩ := List.mem_iff_getElem?.1 hy
  have hk : j < k := by
    have := (List.getElem?_eq_some_iff.1 hj).1
    rw [List.length_take] at this
    omega
  rw [List.getElem?_take_of_lt hk] at hj
  simp only [decide_eq_true_eq]
  exact h j y hk hj
theorem any_yes {l : List Sg} {k j : Nat} {x y : Sg} (hj : j < k) (hy : l[j]? = some y) (h : y.name = x.name) : ((l.take k).any fun y => decide (y.name = x.name)) = true := by
  rw [List.any_eq_true]
  refine ⟨y, List.mem_of_getElem? (i := j) (by rw [List.getElem?_take_of_lt hj]; exact hy), by simp [h]⟩
theorem refEnv_any (l : List Sg) (v : Value) (T : Nat → Prop) (w : World) (hr : RdSc T w v l) (hl : l.length ≤ 1000000) :
    Calls Tryz.prog 40 #[v] w fun e w' => e = .returned (.bool (envB l)) ∧ Chg (fun _ => False) w w' := by
  obtain ⟨A, c, rfl⟩ := RdR.val hr
  have HR := hH hr
  have HB := hH (fun k x (hx : l[k]? = some x) (h : ¬ sgGood l k x) => env_bad hx h)
  have HG := hH (fun (h : ∀ k x, l[k]? = some x → sgGood l k x) => env_good h)
  generalize envB l = E at *
  clear hr
  go_enter Tryz.func40, Tryz.ntmps40
  go_wp2_with fail
  go_loopw [3, 4, 5, 6, 7, 8] (fun i _ _ _ _ _ wr => ∃ k : Nat, i = .int .i64 (k : Int) ∧ k ≤ l.length ∧ (∀ (j : Nat) (x : Sg), j < k → l[j]? = some x → sgGood l j x) ∧ Chg (fun _ => False) w wr) (fun i _ _ _ _ _ _ => l.length - (intOf i).toNat)
  case atStart => exact ⟨0, rfl, Nat.zero_le _, fun j x h => absurd h (Nat.not_lt_zero _), Chg.refl _ _⟩
  case round =>
    obtain ⟨wq, rfl⟩ : ∃ wq : World, wq = wr := ⟨_, rfl⟩
    obtain ⟨k, rfl, hk, hall, hch⟩ := hrel
    by_cases hlt : k < l.length
    · have hki : (k : Int) < (l.length : Int) := by omega
      have hx : l[k]? = some l[k] := List.getElem?_eq_getElem hlt
      generalize l[k] = x at *
      obtain ⟨b, o, c3, u, hv, _, hru, hns, hcap, d0, d1⟩ := RdSc.at_ (RdSc.chg (uH HR) hch (fun _ _ _ => id)) hx
      injection hv with hv1 hv2 hv3
      subst hv1 hv3
      clear hv2
      obtain ⟨B, c7, rfl⟩ := hru.val
      have hbx := Blk.new wq 56 #[.string x.name, .slice B x.type.length c7]
      have hcx : Chg (fun _ => False) wq (wq.alloc (.cells #[.string x.name, .slice B x.type.length c7] 56)) := (Chg.refl _ _).alloc _
      have KSW := hH (fun W (hW : Chg (fun _ => False) (wq.alloc (.cells #[.string x.name, .slice B x.type.length c7] 56)) W) => show W.cell? ⟨wq.heap.size, 0, none⟩ = some (.string x.name) ∧ W.cell? ⟨wq.heap.size, 1, none⟩ = some (.slice B x.type.length c7) from ⟨(hbx.chg hW id).cell 0, (hbx.chg hW id).cell 1⟩)
      have HRU := hH (fun W (hW : Chg (fun _ => False) (wq.alloc (.cells #[.string x.name, .slice B x.type.length c7] 56)) W) => hru.chg (hcx.trans' hW) (fun _ _ _ => id))
      have HNC := hH (fun W => refCon_any x.name W hns)
      have HNN := hH (fun W => refName_any x.name W hns)
      have HTY := hH (fun W hW => refRight_t x.type _ T W (uH HRU W hW))
      have HPA := hH (fun (ht : typB x.type = true) W hW => refParts_any x.type.length x.type _ T W (Nat.le_refl _) (uH HRU W hW) hcap (typ_ok ht).1 (whole_iff.1 (typ_ok ht).2.1).2 (typ_ok ht).2.2)
      have HHD := hH (fun (ht : typB x.type = true) => head_at ht)
      have HALL := hH hall
      have HX := hH hx
      have HCH := hH (hch.trans' hcx)
      have HBX := hH (uH HB k x hx)
      have HSG := hH (sgB_eq x)
      have HD := hH (Chg.refl (fun _ => False) (wq.alloc (.cells #[.string x.name, .slice B x.type.length c7] 56)))
      obtain ⟨q0, q1⟩ := uH KSW _ (uH HD)
      clear hall hch hx hru hns hcap hbx hcx
      generalize (nameB 1 x.name || opB x.name) = n1 at *
      generalize nameB 2 x.name = n2 at *
      cases hty : typB x.type
      · rw [hty] at HTY HSG
        have HE := hH (uH HBX (fun h => by have h1 := h.1; rw [uH HSG] at h1; simp at h1))
        clear hty HPA HHD HSG HBX
        cases n1 <;> cases n2
        all_goals
          go_wp2_with (first
            | (go_at_call 84; (with_reducible refine (uH HNC _).mono ?_); rintro e w2 ⟨rfl, hc2⟩; replace HD := hH ((uH HD).trans' hc2); clear hc2; clear q0 q1; (obtain ⟨q0, q1⟩ := uH KSW _ (uH HD)))
            | (go_at_call 42; (with_reducible refine (uH HNN _).mono ?_); rintro e w3 ⟨rfl, hc2⟩; replace HD := hH ((uH HD).trans' hc2); clear hc2; clear q0 q1; (obtain ⟨q0, q1⟩ := uH KSW _ (uH HD)))
            | (go_at_call 86; (with_reducible refine (uH HTY _ (uH HD)).mono ?_); rintro e w4 ⟨rfl, hc2⟩; replace HD := hH ((uH HD).trans' hc2); clear hc2; clear q0 q1; (obtain ⟨q0, q1⟩ := uH KSW _ (uH HD))))
          go_ret
          exact ⟨retv (boolv (uH HE).symm), (uH HCH).trans' (uH HD)⟩
      · have HTT := hH hty
        rw [hty] at HTY HSG
        clear hty
        cases hg : (n1 || n2)
        · rw [hg] at HSG
          have HE := hH (uH HBX (fun h => by have h1 := h.1; rw [uH HSG] at h1; simp at h1))
          clear HPA HHD HSG HBX
          cases n1 <;> cases n2
          all_goals first
            | (exfalso; revert hg; decide)
            | (clear hg
               go_wp2_with (first
                 | (go_at_call 84; (with_reducible refine (uH HNC _).mono ?_); rintro e w2 ⟨rfl, hc2⟩; replace HD := hH ((uH HD).trans' hc2); clear hc2; clear q0 q1; (obtain ⟨q0, q1⟩ := uH KSW _ (uH HD)))
                 | (go_at_call 42; (with_reducible refine (uH HNN _).mono ?_); rintro e w3 ⟨rfl, hc2⟩; replace HD := hH ((uH HD).trans' hc2); clear hc2; clear q0 q1; (obtain ⟨q0, q1⟩ := uH KSW _ (uH HD))))
               go_ret
               exact ⟨retv (boolv (uH HE).symm), (uH HCH).trans' (uH HD)⟩)
        · rw [hg] at HSG
          have HPA2 := hH (uH HPA (uH HTT))
          obtain ⟨n0, r0, hp0, hh0⟩ := uH HHD (uH HTT)
          rw [hh0] at HSG
          have HP0 := hH hp0
          clear HPA HHD hp0 hh0
          cases n1 <;> cases n2
          all_goals first
            | (exfalso; revert hg; decide)
            | (clear hg
               go_wp2_with (first
                 | (go_at_call 84; (with_reducible refine (uH HNC _).mono ?_); rintro e w2 ⟨rfl, hc2⟩; replace HD := hH ((uH HD).trans' hc2); clear hc2; clear q0 q1; (obtain ⟨q0, q1⟩ := uH KSW _ (uH HD)))
                 | (go_at_call 42; (with_reducible refine (uH HNN _).mono ?_); rintro e w3 ⟨rfl, hc2⟩; replace HD := hH ((uH HD).trans' hc2); clear hc2; clear q0 q1; (obtain ⟨q0, q1⟩ := uH KSW _ (uH HD)))
                 | (go_at_call 86; (with_reducible refine (uH HTY _ (uH HD)).mono ?_); rintro e w4 ⟨rfl, hc2⟩; replace HD := hH ((uH HD).trans' hc2); clear hc2; clear q0 q1; (obtain ⟨q0, q1⟩ := uH KSW _ (uH HD))))
               go_loopw [6] (fun t wr => ∃ n : Nat, t = .int .i64 (n : Int) ∧ n ≤ k ∧ (∀ (j : Nat) (y : Sg), j < n → l[j]? = some y → ¬ y.name = x.name) ∧ Chg (fun _ => False) (wq.alloc (.cells #[.string x.name, .slice B x.type.length c7] 56)) wr) (fun t _ => k - (intOf t).toNat)
               case atStart => exact ⟨0, rfl, Nat.zero_le _, fun j y h => absurd h (Nat.not_lt_zero _), uH HD⟩
               case round =>
                 clear HD q0 q1
                 obtain ⟨wy, rfl⟩ : ∃ wy : World, wy = wr := ⟨_, rfl⟩
                 obtain ⟨n, rfl, hn, hno, hch⟩ := hrel
                 obtain ⟨q0, q1⟩ := uH KSW _ hch
                 by_cases hln : n < k
                 · have hnk : (n : Int) < (k : Int) := by omega
                   have hnl : (n : Int) < (l.length : Int) := by omega
                   have hn3 : n < l.length := by omega
                   have hy : l[n]? = some l[n] := List.getElem?_eq_getElem hn3
                   generalize l[n] = y at *
                   obtain ⟨b', o', c4, u', hv, _, _, _, _, e0, _⟩ := RdSc.at_ (RdSc.chg (uH HR) ((uH HCH).trans' hch) (fun _ _ _ => id)) hy
                   injection hv with hv1 hv2 hv3
                   injection hv1 with hv1
                   injection hv1 with hv1a hv1b
                   subst hv1a hv1b
                   have HD := hH hch
                   have HNO := hH hno
                   have HY := hH hy
                   clear hv2 hv3 hch hno hy
                   by_cases hnm : y.name = x.name
                   · have hnb : (y.name.toList == x.name.toList) = true := name_same.2 hnm
                     have HE := hH (uH HBX (fun h => by have h1 := h.2; rw [any_yes hln (uH HY) hnm] at h1; cases h1))
                     clear hnm
                     go_wp2_with fail
                     go_quiet (fail)
                     go_wp2_with fail
                     go_ret
                     exact ⟨retv (boolv (uH HE).symm), (uH HCH).trans' ((uH HD).drewN _)⟩
                   · have hnb : (y.name.toList == x.name.toList) = false := same_not hnm
                     have HNM := hH hnm
                     clear hnm
                     go_wp2_with fail
                     go_quiet (fail)
                     go_wp2_with fail
                     go_roundw
                     case rel => exact ⟨n + 1, by go_num, by omega, fun j z hj hz => by
                       rcases Nat.lt_or_ge j n with h | h
                       · exact uH HNO j z h hz
                       · obtain rfl : j = n := by omega
                         rw [uH HY] at hz
                         injection hz with hz
                         rw [← hz]
                         exact uH HNM, (uH HD).drewN _⟩
                     case measure => simp [intOf]; omega
                 · obtain rfl : n = k := by omega
                   have hnk : ¬ (n : Int) < (n : Int) := by omega
                   have HD := hH hch
                   have HNO := hH (any_no hno)
                   clear hch hno
                   generalize hhb : nameB 2 n0.text = hb at *
                   have HHB := hH hhb
                   clear hhb
                   cases hb
                   all_goals
                     go_wp2_with (first
                       | (go_at_call 87; ((with_reducible refine (uH HPA2 _ (uH HD)).mono ?_); rintro e w5 ⟨v1, v2, rfl, hto1, hto, hc2⟩; (obtain ⟨A6, c6, rfl⟩ := RdR.val hto1); rw [uH HP0] at hto; (obtain ⟨b5, o5, c5, rfl, _, hok5, _, t1, _, _⟩ := RdN.at_ hto (k := 0) (n := n0) rfl); rw [Nat.zero_mul, Nat.add_zero] at t1; have HNH := hH (fun W => refCon_any n0.text W hok5); rw [uH HHB] at HNH; have hl5 : (0 : Int) < ((n0 :: r0).length : Int) := (by simp only [List.length_cons]; omega); generalize (n0 :: r0).length = L5 at *; clear hto hto1 hok5; replace HD := hH ((uH HD).trans' hc2); clear hc2; clear q0 q1; (obtain ⟨q0, q1⟩ := uH KSW _ (uH HD))))
                       | (go_at_call 84; (with_reducible refine (uH HNH _).mono ?_); rintro e w6 ⟨rfl, hc2⟩; replace HD := hH ((uH HD).trans' hc2); clear hc2; clear q0 q1; (obtain ⟨q0, q1⟩ := uH KSW _ (uH HD))))
                     first
                       | (go_roundw
                          case rel =>
                            refine ⟨n + 1, by go_num, by omega, fun j z hj hz => ?_, (uH HCH).trans' (uH HD)⟩
                            rcases Nat.lt_or_ge j n with h | h
                            · exact uH HALL j z h hz
                            · obtain rfl : j = n := by omega
                              rw [uH HX] at hz
                              injection hz with hz
                              rw [← hz]
                              exact ⟨by rw [uH HSG]; rfl, uH HNO⟩
                          case measure => simp [intOf]; omega)
                       | (go_ret
                          exact ⟨retv (boolv (uH HBX (fun h => by have h1 := h.1; rw [uH HSG] at h1; cases h1)).symm), (uH HCH).trans' (uH HD)⟩))
    · obtain rfl : k = l.length := by omega
      have hki : ¬ (l.length : Int) < (l.length : Int) := by omega
      have HE := hH (uH HG (fun j x hj => hall j x (List.getElem?_eq_some_iff.1 hj).1 hj))
      have HCH := hH hch
      clear hall hch
      go_wp2_with fail
      go_ret
      exact ⟨retv (boolv (uH HE).symm), uH HCH⟩
end Go.Proofs.YtinekmjengckdaaGreatDoor
