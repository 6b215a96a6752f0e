/-
  Layer 23, the document's side: whether an interface may be.
-/
import Derived.Test.YtinekmjengckdaaGreatDoorA44
import Derived.Test.YtinekmjengckdaaGreatDoorA48
import Derived.Test.YtinekmjengckdaaGreatDoorA49
import Derived.Test.YtinekmjengckdaaGreatDoorA47
import Derived.Test.YtinekmjengckdaaGreatDoorA20
import Derived.Deep.RegionHeld3
import Derived.Deep.QuietTactic
import Derived.BigQuiet
namespace Go.Proofs.YtinekmjengckdaaGreatDoor
open Go.RowKit
set_option maxHeartbeats 4000000
set_option maxRecDepth 100000
theorem refIf_any (i : Ifc) (vo vd vf vs : Value) (T : Nat → Prop) (w : World) (hr : RdIf T w i vo vd vf vs) (hfx : i.fixes.length ≤ 1000000) :
    Calls Tryz.prog 15 #[.agg #[.string i.name, vo, vd, vf, vs]] w fun e w' => e = .returned (.bool (ifcB ltS i)) ∧ Chg (fun _ => False) w w' := by
  obtain ⟨A1, c1, rfl⟩ := RdR.val hr.opens
  obtain ⟨A2, c2, rfl⟩ := RdR.val hr.datas
  obtain ⟨A3, c3, rfl⟩ := RdR.val hr.fixes
  obtain ⟨A4, c4, rfl⟩ := RdR.val hr.sigs
  have h0 := (Chg.refl (fun _ => False) w).alloc (.cells #[.string i.name, .slice A1 i.opens.length c1, .slice A2 i.datas.length c2, .slice A3 i.fixes.length c3, .slice A4 i.sigs.length c4] 27)
  have hbx := Blk.new w 27 #[.string i.name, .slice A1 i.opens.length c1, .slice A2 i.datas.length c2, .slice A3 i.fixes.length c3, .slice A4 i.sigs.length c4]
  have KSW := hH (fun W' (hW : Chg (fun _ => False) (w.alloc (.cells #[.string i.name, .slice A1 i.opens.length c1, .slice A2 i.datas.length c2, .slice A3 i.fixes.length c3, .slice A4 i.sigs.length c4] 27)) W') => show W'.cell? ⟨w.heap.size, 0, none⟩ = some (.string i.name) ∧ W'.cell? ⟨w.heap.size, 1, none⟩ = some (.slice A1 i.opens.length c1) ∧ W'.cell? ⟨w.heap.size, 2, none⟩ = some (.slice A2 i.datas.length c2) ∧ W'.cell? ⟨w.heap.size, 3, none⟩ = some (.slice A3 i.fixes.length c3) ∧ W'.cell? ⟨w.heap.size, 4, none⟩ = some (.slice A4 i.sigs.length c4) from ⟨(hbx.chg hW id).cell 0, (hbx.chg hW id).cell 1, (hbx.chg hW id).cell 2, (hbx.chg hW id).cell 3, (hbx.chg hW id).cell 4⟩)
  have HMN := hH (fun W (_ : Chg (fun _ => False) (w.alloc (.cells #[.string i.name, .slice A1 i.opens.length c1, .slice A2 i.datas.length c2, .slice A3 i.fixes.length c3, .slice A4 i.sigs.length c4] 27)) W) => refMod_any i.name W hr.name)
  have HRI := hH (fun W (hW : Chg (fun _ => False) (w.alloc (.cells #[.string i.name, .slice A1 i.opens.length c1, .slice A2 i.datas.length c2, .slice A3 i.fixes.length c3, .slice A4 i.sigs.length c4] 27)) W) => hr.chg (h0.trans' hW) (fun _ _ _ => id))
  have HDC := hH (fun W (hW : Chg (fun _ => False) (w.alloc (.cells #[.string i.name, .slice A1 i.opens.length c1, .slice A2 i.datas.length c2, .slice A3 i.fixes.length c3, .slice A4 i.sigs.length c4] 27)) W) => refCheck_any i.datas _ T W ((uH HRI) W hW).datas)
  have HFC := hH (fun W (hW : Chg (fun _ => False) (w.alloc (.cells #[.string i.name, .slice A1 i.opens.length c1, .slice A2 i.datas.length c2, .slice A3 i.fixes.length c3, .slice A4 i.sigs.length c4] 27)) W) => refFix_any i.fixes _ T W ((uH HRI) W hW).fixes hfx)
  have HIC0 := hH (fun (hn : i.sigs.length ≤ 200) W (hW : Chg (fun _ => False) (w.alloc (.cells #[.string i.name, .slice A1 i.opens.length c1, .slice A2 i.datas.length c2, .slice A3 i.fixes.length c3, .slice A4 i.sigs.length c4] 27)) W) => refEnv_any i.sigs _ T W ((uH HRI) W hW).sigs (by omega))
  have H0 := hH h0
  have HD := hH (Chg.refl (fun _ => False) (w.alloc (.cells #[.string i.name, .slice A1 i.opens.length c1, .slice A2 i.datas.length c2, .slice A3 i.fixes.length c3, .slice A4 i.sigs.length c4] 27)))
  (obtain ⟨q0, q1, q2, q3, q4⟩ := uH KSW _ (uH HD))
  have hE : ifcB ltS i = (modB i.name && decide (i.opens.length ≤ 60) && decide (i.sigs.length ≤ 200) && opensB ltS i.name i.opens && (datasE i.datas == 0 || datasE i.datas == 102) && fixE i.fixes == 0 && envB i.sigs && i.sigs.all sigB) := rfl
  generalize ifcB ltS i = E at *
  clear hr hbx h0 hfx
  cases hm : modB i.name
  · have HB := hH (show E = false by rw [hE, hm]; simp)
    rw [hm] at HMN
    clear hE hm
    go_enter Tryz.func15, Tryz.ntmps15
    go_wp2_with (first
      | (go_at_call 38; (with_reducible refine (uH HMN _ (uH HD)).mono ?_); rintro e w2 ⟨rfl, hc2⟩; replace HD := hH ((uH HD).trans' hc2); clear hc2; clear q0 q1 q2 q3 q4; (obtain ⟨q0, q1, q2, q3, q4⟩ := uH KSW _ (uH HD))))
    go_ret
    exact ⟨retv (boolv (uH HB).symm), (uH H0).trans' (uH HD)⟩
  rw [hm] at HMN hE
  clear hm
  by_cases ho : i.opens.length ≤ 60
  rotate_left
  · have HB := hH (show E = false by rw [hE]; simp [ho])
    have ho' : (60 : Int) < (i.opens.length : Int) := by omega
    clear hE
    go_enter Tryz.func15, Tryz.ntmps15
    go_wp2_with (first
      | (go_at_call 38; (with_reducible refine (uH HMN _ (uH HD)).mono ?_); rintro e w2 ⟨rfl, hc2⟩; replace HD := hH ((uH HD).trans' hc2); clear hc2; clear q0 q1 q2 q3 q4; (obtain ⟨q0, q1, q2, q3, q4⟩ := uH KSW _ (uH HD))))
    go_ret
    exact ⟨retv (boolv (uH HB).symm), (uH H0).trans' (uH HD)⟩
  by_cases hs : i.sigs.length ≤ 200
  rotate_left
  · have HB := hH (show E = false by rw [hE]; simp [hs])
    have ho' : ¬ (60 : Int) < (i.opens.length : Int) := by omega
    have hs' : (200 : Int) < (i.sigs.length : Int) := by omega
    clear hE
    go_enter Tryz.func15, Tryz.ntmps15
    go_wp2_with (first
      | (go_at_call 38; (with_reducible refine (uH HMN _ (uH HD)).mono ?_); rintro e w2 ⟨rfl, hc2⟩; replace HD := hH ((uH HD).trans' hc2); clear hc2; clear q0 q1 q2 q3 q4; (obtain ⟨q0, q1, q2, q3, q4⟩ := uH KSW _ (uH HD))))
    go_ret
    exact ⟨retv (boolv (uH HB).symm), (uH H0).trans' (uH HD)⟩
  have ho' : ¬ (60 : Int) < (i.opens.length : Int) := by omega
  have hs' : ¬ (200 : Int) < (i.sigs.length : Int) := by omega
  have HIC := hH (uH HIC0 hs)
  clear HIC0
  rw [decide_eq_true ho, decide_eq_true hs] at hE
  have HTY := hH (fun (he : envB i.sigs = true) => env_typ he)
  generalize fixE i.fixes = F at *
  by_cases hf : F = 0
  rotate_left
  · have hf1 : (F != 0) = true := bne_iff_ne.2 hf
    have HB := hH (show E = false by rw [hE, beq_eq_false_iff_ne.2 hf]; simp)
    clear hE hf
    go_enter Tryz.func15, Tryz.ntmps15
    go_wp2_with (first
      | (go_at_call 38; (with_reducible refine (uH HMN _ (uH HD)).mono ?_); rintro e w2 ⟨rfl, hc2⟩; replace HD := hH ((uH HD).trans' hc2); clear hc2; clear q0 q1 q2 q3 q4; (obtain ⟨q0, q1, q2, q3, q4⟩ := uH KSW _ (uH HD)))
      | (go_at_call 39; (with_reducible refine (uH HFC _ (uH HD)).mono ?_); rintro e w2 ⟨rfl, hc2⟩; replace HD := hH ((uH HD).trans' hc2); clear hc2; clear q0 q1 q2 q3 q4; (obtain ⟨q0, q1, q2, q3, q4⟩ := uH KSW _ (uH HD))))
    go_ret
    exact ⟨retv (boolv (uH HB).symm), (uH H0).trans' (uH HD)⟩
  subst hf
  cases he : envB i.sigs
  · have HB := hH (show E = false by rw [hE, he]; simp)
    rw [he] at HIC
    clear hE he
    go_enter Tryz.func15, Tryz.ntmps15
    go_wp2_with (first
      | (go_at_call 38; (with_reducible refine (uH HMN _ (uH HD)).mono ?_); rintro e w2 ⟨rfl, hc2⟩; replace HD := hH ((uH HD).trans' hc2); clear hc2; clear q0 q1 q2 q3 q4; (obtain ⟨q0, q1, q2, q3, q4⟩ := uH KSW _ (uH HD)))
      | (go_at_call 39; (with_reducible refine (uH HFC _ (uH HD)).mono ?_); rintro e w2 ⟨rfl, hc2⟩; replace HD := hH ((uH HD).trans' hc2); clear hc2; clear q0 q1 q2 q3 q4; (obtain ⟨q0, q1, q2, q3, q4⟩ := uH KSW _ (uH HD)))
      | (go_at_call 40; (with_reducible refine (uH HIC _ (uH HD)).mono ?_); rintro e w2 ⟨rfl, hc2⟩; replace HD := hH ((uH HD).trans' hc2); clear hc2; clear q0 q1 q2 q3 q4; (obtain ⟨q0, q1, q2, q3, q4⟩ := uH KSW _ (uH HD))))
    go_ret
    exact ⟨retv (boolv (uH HB).symm), (uH H0).trans' (uH HD)⟩
  have HTT := hH (uH HTY he)
  rw [he] at HIC hE
  clear he HTY
  generalize datasE i.datas = D at *
  cases hd : (D == 0 || D == 102)
  · have HB := hH (show E = false by rw [hE, hd]; simp)
    have hd1 : (D != 0) = true := by rw [bne_iff_ne]; intro e; subst e; cases hd
    have hd2 : (D != 102) = true := by rw [bne_iff_ne]; intro e; subst e; cases hd
    clear hE hd
    go_enter Tryz.func15, Tryz.ntmps15
    go_wp2_with (first
      | (go_at_call 38; (with_reducible refine (uH HMN _ (uH HD)).mono ?_); rintro e w2 ⟨rfl, hc2⟩; replace HD := hH ((uH HD).trans' hc2); clear hc2; clear q0 q1 q2 q3 q4; (obtain ⟨q0, q1, q2, q3, q4⟩ := uH KSW _ (uH HD)))
      | (go_at_call 39; (with_reducible refine (uH HFC _ (uH HD)).mono ?_); rintro e w2 ⟨rfl, hc2⟩; replace HD := hH ((uH HD).trans' hc2); clear hc2; clear q0 q1 q2 q3 q4; (obtain ⟨q0, q1, q2, q3, q4⟩ := uH KSW _ (uH HD)))
      | (go_at_call 40; (with_reducible refine (uH HIC _ (uH HD)).mono ?_); rintro e w2 ⟨rfl, hc2⟩; replace HD := hH ((uH HD).trans' hc2); clear hc2; clear q0 q1 q2 q3 q4; (obtain ⟨q0, q1, q2, q3, q4⟩ := uH KSW _ (uH HD)))
      | (go_at_call 41; (with_reducible refine (uH HDC _ (uH HD)).mono ?_); rintro e w2 ⟨rfl, hc2⟩; replace HD := hH ((uH HD).trans' hc2); clear hc2; clear q0 q1 q2 q3 q4; (obtain ⟨q0, q1, q2, q3, q4⟩ := uH KSW _ (uH HD))))
    go_ret
    exact ⟨retv (boolv (uH HB).symm), (uH H0).trans' (uH HD)⟩
  rw [hd] at hE
  have HE := hH (show E = (opensB ltS i.name i.opens && i.sigs.all sigB) by rw [hE]; simp)
  clear hE
  have hd3 : D = 0 ∨ D = 102 := by simpa using hd
  clear hd
  rcases hd3 with rfl | rfl
  all_goals
    go_enter Tryz.func15, Tryz.ntmps15
    go_wp2_with (first
      | (go_at_call 38; (with_reducible refine (uH HMN _ (uH HD)).mono ?_); rintro e w2 ⟨rfl, hc2⟩; replace HD := hH ((uH HD).trans' hc2); clear hc2; clear q0 q1 q2 q3 q4; (obtain ⟨q0, q1, q2, q3, q4⟩ := uH KSW _ (uH HD)))
      | (go_at_call 39; (with_reducible refine (uH HFC _ (uH HD)).mono ?_); rintro e w2 ⟨rfl, hc2⟩; replace HD := hH ((uH HD).trans' hc2); clear hc2; clear q0 q1 q2 q3 q4; (obtain ⟨q0, q1, q2, q3, q4⟩ := uH KSW _ (uH HD)))
      | (go_at_call 40; (with_reducible refine (uH HIC _ (uH HD)).mono ?_); rintro e w2 ⟨rfl, hc2⟩; replace HD := hH ((uH HD).trans' hc2); clear hc2; clear q0 q1 q2 q3 q4; (obtain ⟨q0, q1, q2, q3, q4⟩ := uH KSW _ (uH HD)))
      | (go_at_call 41; (with_reducible refine (uH HDC _ (uH HD)).mono ?_); rintro e w2 ⟨rfl, hc2⟩; replace HD := hH ((uH HD).trans' hc2); clear hc2; clear q0 q1 q2 q3 q4; (obtain ⟨q0, q1, q2, q3, q4⟩ := uH KSW _ (uH HD))))
    clear q0 q1 q2 q3 q4
    go_loopw [4, 5] (fun t _ wr => ∃ k : Nat, t = .int .i64 (k : Int) ∧ k ≤ i.opens.length ∧ (∀ j y, j < k → i.opens[j]? = some y → opGood i.name i.opens j y) ∧ Chg (fun _ => False) (w.alloc (.cells #[.string i.name, .slice A1 i.opens.length c1, .slice A2 i.datas.length c2, .slice A3 i.fixes.length c3, .slice A4 i.sigs.length c4] 27)) wr) (fun t _ _ => i.opens.length - (intOf t).toNat)
    case atStart => exact ⟨0, rfl, Nat.zero_le _, fun j y h => absurd h (Nat.not_lt_zero _), uH HD⟩
    case round =>
      clear HD
      obtain ⟨wq, rfl⟩ : ∃ wq : World, wq = wr := ⟨_, rfl⟩
      obtain ⟨k, rfl, hk, hall, hch⟩ := hrel
      obtain ⟨q0, q1, q2, q3, q4⟩ := uH KSW _ hch
      by_cases hlt : k < i.opens.length
      · have hki : (k : Int) < (i.opens.length : Int) := by omega
        have hx : i.opens[k]? = some i.opens[k] := List.getElem?_eq_getElem hlt
        generalize i.opens[k] = x at *
        have hro := ((uH HRI) wq hch).opens
        obtain ⟨b, o, cc, hv, _, hok, d0, d1⟩ := hro.at_ hx
        injection hv with hv1 hv2 hv3
        subst hv1 hv3
        clear hv2
        have HB0 := hH (fun (h : ¬ opGood i.name i.opens k x) => show E = false by rw [uH HE, opens_bad hx h]; rfl)
        have hbq := Blk.new wq 51 #[.string x.name, .int .u32 x.digest]
        have cq : Chg (fun _ => False) wq (wq.alloc (.cells #[.string x.name, .int .u32 x.digest] 51)) := (Chg.refl _ _).alloc _
        have HMO := hH (fun W => refMod_any x.name W hok.1)
        have z0 := hbq.cell 0
        simp only [List.getElem?_toArray, List.getElem?_cons_zero] at z0
        have z1 := (cq.cell (World.block_lt_of_cell? wq _ q0) id).trans q0
        have z2 := (cq.cell (World.block_lt_of_cell? wq _ q1) id).trans q1
        have HPR := hH (fun (k' : Nat) (p : Opn) (hp : i.opens[k']? = some p) => show (wq.alloc (.cells #[.string x.name, .int .u32 x.digest] 51)).cell? ⟨b, o + k' * 2, none⟩ = some (.string p.name) from by
          obtain ⟨b', o', c', hv', _, _, e0, _⟩ := hro.at_ hp
          injection hv' with hv1' _ _
          injection hv1' with hv1'
          injection hv1' with g1 g2
          subst g1 g2
          exact (cq.cell (World.block_lt_of_cell? wq _ e0) id).trans e0)
        have HCQ := hH (hch.trans' cq)
        have HALL := hH hall
        have HX := hH hx
        have r0 := fun d os => cell_regrown z0 d os
        have r1 := fun d os => cell_regrown z1 d os
        have r2 := fun d os => cell_regrown z2 d os
        clear hch hall hx hro hok hbq cq
        go_upto_region 10 with fail
        generalize (wq.alloc (.cells #[.string x.name, .int .u32 x.digest] 51)) = W2 at *
        clear q0 q1 q2 q3 q4 d0 d1
        cases hmx : modB x.name
        · rw [hmx] at HMO
          have HB := hH (uH HB0 (fun h => by have h1 := h.1; rw [hmx] at h1; cases h1))
          clear hmx z0 z1 z2
          refine wp_region_quiet_below (by kernel_rfl) (by kernel_rfl) ?_
          repeat (any_goals (first | go_big_quiet_step (exact Calls.regrown_of (rq ((uH HMO) _))) | quiet_step (exact Calls.regrown_of (rq ((uH HMO) _)))))
          refine wpQuiet_nil ?_
          intro _ hw'
          obtain ⟨⟨dq, osq⟩, hw''⟩ := hw'
          subst hw''
          have HQ := hH (chg_regrown W2 dq osq)
          generalize Go.Sort.grow (redrawn W2 dq) osq = w5 at *
          clear r0 r1 r2
          try dsimp only
          go_wp2_with fail
          go_ret
          exact ⟨retv (boolv (uH HB).symm), ((uH H0).trans' (uH HCQ)).trans' (uH HQ)⟩
        · rw [hmx] at HMO
          by_cases hen : x.name = i.name
          · have hnb : (x.name.toList == i.name.toList) = true := name_same.2 hen
            have HB := hH (uH HB0 (fun h => h.2.1 hen))
            clear hmx hen z0 z1 z2
            refine wp_region_quiet_below (by kernel_rfl) (by kernel_rfl) ?_
            repeat (any_goals (first | go_big_quiet_step (exact Calls.regrown_of (rq ((uH HMO) _))) | quiet_step (exact Calls.regrown_of (rq ((uH HMO) _)))))
            refine wpQuiet_nil ?_
            intro _ hw'
            obtain ⟨⟨dq, osq⟩, hw''⟩ := hw'
            subst hw''
            have HQ := hH (chg_regrown W2 dq osq)
            generalize Go.Sort.grow (redrawn W2 dq) osq = w5 at *
            clear r0 r1 r2
            try dsimp only
            go_wp2_with fail
            go_ret
            exact ⟨retv (boolv (uH HB).symm), ((uH H0).trans' (uH HCQ)).trans' (uH HQ)⟩
          · have hnb : (x.name.toList == i.name.toList) = false := same_not hen
            have HG := hH (And.intro hmx hen)
            clear hmx hen
            rcases k with _ | k'
            · have hk0 : ¬ (0 : Int) < ((0 : Nat) : Int) := by omega
              clear z0 z1 z2
              refine wp_region_quiet_below (by kernel_rfl) (by kernel_rfl) ?_
              repeat (any_goals (first | go_big_quiet_step (exact Calls.regrown_of (rq ((uH HMO) _))) | quiet_step (exact Calls.regrown_of (rq ((uH HMO) _)))))
              refine wpQuiet_nil ?_
              intro _ hw'
              obtain ⟨⟨dq, osq⟩, hw''⟩ := hw'
              subst hw''
              have HQ := hH (chg_regrown W2 dq osq)
              generalize Go.Sort.grow (redrawn W2 dq) osq = w5 at *
              clear r0 r1 r2
              try dsimp only
              go_wp2_with fail
              go_roundw
              case rel =>
                refine ⟨1, by go_num, by omega, fun j y hj hy => ?_, (uH HCQ).trans' (uH HQ)⟩
                rcases Nat.lt_or_ge j 0 with h | h
                · exact uH HALL j y h hy
                · obtain rfl : j = 0 := by omega
                  rw [uH HX] at hy
                  injection hy with hy
                  rw [← hy]
                  exact ⟨(uH HG).1, (uH HG).2, fun p hk0 => absurd rfl hk0⟩
              case measure => simp [intOf]; omega
            · have hp : i.opens[k']? = some (i.opens[k']'(by omega)) := List.getElem?_eq_getElem (by omega)
              generalize (i.opens[k']'(by omega)) = p at *
              have z3 := uH HPR k' p hp
              have r3 := fun d os => cell_regrown z3 d os
              have hk0 : (0 : Int) < ((k' + 1 : Nat) : Int) := by omega
              have hkp : (0 : Int) < (k' : Int) + 1 := by omega
              have hk1 : IntKind.i64.wrap (((k' + 1 : Nat) : Int) - 1) = (k' : Int) := by rw [show ((k' + 1 : Nat) : Int) - 1 = (k' : Int) by omega]; exact IntWalk.i64_in _ (by omega)
              have hk2 : IntKind.i64.wrap ((k' : Int) + 1 - 1) = (k' : Int) := by rw [show (k' : Int) + 1 - 1 = (k' : Int) by omega]; exact IntWalk.i64_in _ (by omega)
              have hk4 : (k' : Int) < (i.opens.length : Int) := by omega
              have hk5 : k' < i.opens.length := by omega
              have hk6 : (0 : Int) ≤ (k' : Int) := by omega
              have hk7 : ((k' : Int)).toNat = k' := by omega
              have HP := hH hp
              clear hp z0 z1 z2 z3
              cases hls : ltS p.name x.name
              · have HB := hH (uH HB0 (fun h => by have h1 := h.2.2 p (by omega) (uH HP); rw [hls] at h1; cases h1))
                have hlb : Op.bytesLess p.name.toList x.name.toList = false := hls
                clear hls
                refine wp_region_quiet_below (by kernel_rfl) (by kernel_rfl) ?_
                repeat (any_goals (first | go_big_quiet_step (exact Calls.regrown_of (rq ((uH HMO) _))) | quiet_step (exact Calls.regrown_of (rq ((uH HMO) _)))))
                refine wpQuiet_nil ?_
                intro _ hw'
                obtain ⟨⟨dq, osq⟩, hw''⟩ := hw'
                subst hw''
                have HQ := hH (chg_regrown W2 dq osq)
                generalize Go.Sort.grow (redrawn W2 dq) osq = w5 at *
                clear r0 r1 r2 r3
                try dsimp only
                go_wp2_with fail
                go_ret
                exact ⟨retv (boolv (uH HB).symm), ((uH H0).trans' (uH HCQ)).trans' (uH HQ)⟩
              · have HL := hH hls
                have hlb : Op.bytesLess p.name.toList x.name.toList = true := hls
                clear hls
                refine wp_region_quiet_below (by kernel_rfl) (by kernel_rfl) ?_
                repeat (any_goals (first | go_big_quiet_step (exact Calls.regrown_of (rq ((uH HMO) _))) | quiet_step (exact Calls.regrown_of (rq ((uH HMO) _)))))
                refine wpQuiet_nil ?_
                intro _ hw'
                obtain ⟨⟨dq, osq⟩, hw''⟩ := hw'
                subst hw''
                have HQ := hH (chg_regrown W2 dq osq)
                generalize Go.Sort.grow (redrawn W2 dq) osq = w5 at *
                clear r0 r1 r2 r3
                try dsimp only
                go_wp2_with fail
                go_roundw
                case rel =>
                  refine ⟨k' + 1 + 1, by go_num, by omega, fun j y hj hy => ?_, (uH HCQ).trans' (uH HQ)⟩
                  rcases Nat.lt_or_ge j (k' + 1) with h | h
                  · exact uH HALL j y h hy
                  · obtain rfl : j = k' + 1 := by omega
                    rw [uH HX] at hy
                    injection hy with hy
                    rw [← hy]
                    exact ⟨(uH HG).1, (uH HG).2, fun q _ hq => by have hq2 : i.opens[k']? = some q := hq; rw [uH HP] at hq2; injection hq2 with hq2; rw [← hq2]; exact uH HL⟩
                case measure => simp [intOf]; omega
      · obtain rfl : k = i.opens.length := by omega
        have hki : ¬ (i.opens.length : Int) < (i.opens.length : Int) := by omega
        have HOG := hH (opens_good (nm := i.name) (l := i.opens) (fun j y hj => hall j y (List.getElem?_eq_some_iff.1 hj).1 hj))
        have HD := hH hch
        clear hall hch
        have HE2 := hH (show E = i.sigs.all sigB by rw [uH HE, uH HOG]; rfl)
        have HB0 := hH (fun (k : Nat) (x : Sg) (hx : i.sigs[k]? = some x) (h : sigB x = false) => show E = false by rw [uH HE2]; exact List.all_eq_false.2 ⟨x, List.mem_of_getElem? hx, by rw [h]; simp⟩)
        obtain ⟨q0, q1, q2, q3, q4⟩ := uH KSW _ (uH HD)
        go_wp2_with fail
        go_loopw [6, 7] (fun t _ wr => ∃ k : Nat, t = .int .i64 (k : Int) ∧ k ≤ i.sigs.length ∧ (∀ j y, j < k → i.sigs[j]? = some y → sigB y = true) ∧ Chg (fun _ => False) (w.alloc (.cells #[.string i.name, .slice A1 i.opens.length c1, .slice A2 i.datas.length c2, .slice A3 i.fixes.length c3, .slice A4 i.sigs.length c4] 27)) wr) (fun t _ _ => i.sigs.length - (intOf t).toNat)
        case atStart => exact ⟨0, rfl, Nat.zero_le _, fun j y h => absurd h (Nat.not_lt_zero _), uH HD⟩
        case round =>
          clear HD q0 q1 q2 q3 q4
          obtain ⟨wq, rfl⟩ : ∃ wq : World, wq = wr := ⟨_, rfl⟩
          obtain ⟨k, rfl, hk, hall, hch⟩ := hrel
          obtain ⟨q0, q1, q2, q3, q4⟩ := uH KSW _ hch
          by_cases hlt : k < i.sigs.length
          · have hki : (k : Int) < (i.sigs.length : Int) := by omega
            have hx : i.sigs[k]? = some i.sigs[k] := List.getElem?_eq_getElem hlt
            generalize i.sigs[k] = x at *
            have ht4 : x.type.length ≤ 4000 := (typ_ok (uH HTT x (List.mem_of_getElem? hx))).1
            have hro := ((uH HRI) wq hch).sigs
            obtain ⟨b, o, cc, u, hv, _, hru, hns, hcap, d0, d1⟩ := RdSc.at_ hro hx
            injection hv with hv1 hv2 hv3
            subst hv1 hv3
            clear hv2
            obtain ⟨B, c7, rfl⟩ := hru.val
            have HBB := hH (uH HB0 k x hx)
            have hbq := Blk.new wq 56 #[.string x.name, .slice B x.type.length c7]
            have cq : Chg (fun _ => False) wq (wq.alloc (.cells #[.string x.name, .slice B x.type.length c7] 56)) := (Chg.refl _ _).alloc _
            have HRU := hH (fun W (hW : Chg (fun _ => False) (wq.alloc (.cells #[.string x.name, .slice B x.type.length c7] 56)) W) => hru.chg (cq.trans' hW) (fun _ _ _ => id))
            have HNN := hH (fun W => refName_any x.name W hns)
            have HCQ0 := hH (hch.trans' cq)
            have HALL := hH hall
            have HX := hH hx
            have HSG := hH (show sigB x = ((nameB 1 x.name || opB x.name) && sameN (canonL x.type) x.type) from rfl)
            have z0 := hbq.cell 0
            have z1 := hbq.cell 1
            simp only [List.getElem?_toArray, List.getElem?_cons_zero, List.getElem?_cons_succ] at z0 z1
            have r0 := fun d os => cell_regrown z0 d os
            have r1 := fun d os => cell_regrown z1 d os
            have KSW2 := hH (fun W (hW : Chg (fun _ => False) (wq.alloc (.cells #[.string x.name, .slice B x.type.length c7] 56)) W) => show W.cell? ⟨wq.heap.size, 0, none⟩ = some (.string x.name) ∧ W.cell? ⟨wq.heap.size, 1, none⟩ = some (.slice B x.type.length c7) from ⟨(hbq.chg hW id).cell 0, (hbq.chg hW id).cell 1⟩)
            clear hch hall hx hro hru hns hcap hbq cq
            generalize (nameB 1 x.name || opB x.name) = n1 at *
            go_upto_region 16 with fail
            generalize hW2 : (wq.alloc (.cells #[.string x.name, .slice B x.type.length c7] 56)) = W2 at *
            clear hW2 q0 q1 q2 q3 q4 d0 d1
            cases n1
            · have HB := hH (uH HBB (uH HSG))
              have HCQ := HCQ0
              clear z0 z1 HSG HBB
              refine wp_region_quiet_below (by kernel_rfl) (by kernel_rfl) ?_
              repeat (any_goals (first | go_big_quiet_step (exact Calls.regrown_of (rq ((uH HNN) _))) | quiet_step (exact Calls.regrown_of (rq ((uH HNN) _)))))
              refine wpQuiet_nil ?_
              intro _ hw'
              obtain ⟨⟨dq, osq⟩, hw''⟩ := hw'
              subst hw''
              have HQ := hH (chg_regrown W2 dq osq)
              generalize Go.Sort.grow (redrawn W2 dq) osq = w5 at *
              clear r0 r1
              try dsimp only
              go_wp2_with fail
              go_ret
              exact ⟨retv (boolv (uH HB).symm), ((uH H0).trans' (uH HCQ)).trans' (uH HQ)⟩
            · clear r0 r1
              have HCN := hH (fun W (hW : Chg (fun _ => False) W2 W) => refCanon_any x.type _ T W (uH HRU W hW) ht4)
              have HCQ : Hid (Chg (fun _ => False) W2 W2.drew) := hH (Chg.drew (Chg.refl _ _))
              have HKK := hH (uH KSW2 _ (uH HCQ))
              have hcl : (canonL x.type).length = x.type.length := by unfold canonL; rw [List.length_map]
              cases hsm : sameN (canonL x.type) x.type
              all_goals
                have HSM := hH hsm
                rw [hsm] at HSG
                clear hsm
                go_region_held3 (fun W => W.cell? ⟨wq.heap.size, 0, none⟩ = some (.string x.name) ∧ W.cell? ⟨wq.heap.size, 1, none⟩ = some (.slice B x.type.length c7)) (first | exact uH HKK | go_keep) (first
                  | (go_at_call 42; (with_reducible refine (uH HNN _).mono ?_); rintro e w2 ⟨rfl, hc2⟩; have HN_ := hH ((uH HCQ).trans' hc2); clear HCQ; have HCQ := HN_; clear HN_ HKK; have HKK := hH (uH KSW2 _ (uH HCQ)); clear hc2)
                  | (go_at_call 44; (with_reducible refine (uH HCN _ (uH HCQ)).mono ?_); rintro e w3 ⟨A9, c9, rfl, hrn, hc2⟩; have HSA := hH (fun W (hW : Chg (fun _ => False) w3 W) => same_any (canonL x.type) x.type _ _ _ T W (hrn.chg hW (fun _ _ _ => id)) (uH HRU W (((uH HCQ).trans' hc2).trans' hW)) (by omega) (by omega)); rw [uH HSM] at HSA; clear hrn; have HN_ := hH ((uH HCQ).trans' hc2); clear HCQ; have HCQ := HN_; clear HN_ HKK; have HKK := hH (uH KSW2 _ (uH HCQ)); clear hc2)
                  | (go_at_call 43; (with_reducible refine (uH HSA _ (Chg.refl _ _)).mono ?_); rintro e w4 ⟨rfl, hc2⟩; have HN_ := hH ((uH HCQ).trans' hc2); clear HCQ; have HCQ := HN_; clear HN_ HKK; have HKK := hH (uH KSW2 _ (uH HCQ)); clear hc2))
                go_wp2_with fail
                first
                  | (go_roundw
                     case rel =>
                       refine ⟨k + 1, by go_num, by omega, fun j y hj hy => ?_, (uH HCQ0).trans' (uH HCQ)⟩
                       rcases Nat.lt_or_ge j k with h | h
                       · exact uH HALL j y h hy
                       · obtain rfl : j = k := by omega
                         rw [uH HX] at hy
                         injection hy with hy
                         rw [← hy]
                         exact uH HSG
                     case measure => simp [intOf]; omega)
                  | (go_ret
                     exact ⟨retv (boolv (uH HBB (uH HSG)).symm), ((uH H0).trans' (uH HCQ0)).trans' (uH HCQ)⟩)
          · obtain rfl : k = i.sigs.length := by omega
            have hki : ¬ (i.sigs.length : Int) < (i.sigs.length : Int) := by omega
            have HB := hH (show E = true by rw [uH HE2, List.all_eq_true]; exact mem_all (P := fun y => sigB y = true) hall)
            have HD := hH hch
            clear hall hch
            go_wp2_with fail
            go_ret
            exact ⟨retv (boolv (uH HB).symm), (uH H0).trans' (uH HD)⟩
end Go.Proofs.YtinekmjengckdaaGreatDoor
