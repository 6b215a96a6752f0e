/-
  Layer 10, the program's side: which things a constructor may have.
-/
import Derived.Test.YticnehmgaklhfaaGreatDoorVars
namespace Go.Proofs.YticnehmgaklhfaaGreatDoor
open Go.RowKit
set_option maxHeartbeats 4000000
set_option maxRecDepth 100000
theorem idx_high (l : List Int) (A : Option Addr) (c : Nat) (T : Nat → Prop) (w : World) (g : Nat) (p : Int → Bool) (hr : Rd T w A (l.map intl)) (hn : l.length ≤ 1000000) (hcl : ∀ W, Chg (fun _ => False) w W → ∀ x ∈ l, Calls Tryz.prog 58 #[.int .i64 x, .pointer (some ⟨g, 0, none⟩)] W fun e w' => e = .returned (.bool (p x)) ∧ Chg (fun _ => False) W w') :
    Calls Tryz.prog 80 #[.slice A l.length c, .func (.func 58) #[] #[.pointer (some ⟨g, 0, none⟩)]] w fun e w' => e = .returned (.int .i64 (idxP p l)) ∧ Chg (fun _ => False) w w' := by
  have HR := hide hr
  have HCL := hide hcl
  have HNO := hide (idxP_none (p := p) (l := l))
  have HHE := hide (fun k x => idxP_here (p := p) (l := l) (k := k) (x := x))
  generalize idxP p l = R at *
  clear hr hcl
  go_enter Tryz.func80, Tryz.ntmps80
  go_wp2_with fail
  go_loopw [8] (fun i wr => ∃ k : Nat, i = .int .i64 (k : Int) ∧ k ≤ l.length ∧ (∀ j y, j < k → l[j]? = some y → p y = false) ∧ Chg (fun _ => False) w wr) (fun i _ => l.length - (intOf i).toNat)
  case atStart => exact ⟨0, rfl, Nat.zero_le _, fun j y h => absurd h (Nat.not_lt_zero _), Chg.refl _ _⟩
  case round =>
    obtain ⟨wq, rfl⟩ : ∃ wq : World, wq = wr := ⟨_, rfl⟩
    obtain ⟨k, rfl, hk, hall, hch⟩ := hrel
    by_cases hlt : k < l.length
    · have hki : (k : Int) < (l.length : Int) := by omega
      have hx : l[k]? = some l[k] := List.getElem?_eq_getElem hlt
      obtain ⟨b, o, rfl, _, hat⟩ := ((unhide HR).chg hch (fun _ _ _ => id)).flat (by intro e; have := congrArg List.length e; rw [List.length_map, List.length_nil] at this; omega)
      have c0 := hat k (intl l[k]) (by rw [List.getElem?_map, hx]; rfl)
      unfold intl at c0
      have hcx := (unhide HCL) wq hch l[k] (List.getElem_mem hlt)
      generalize l[k] = x at *
      have HALL := hide hall
      have HX := hide hx
      have HCH := hide hch
      clear hat
      cases hp : p x
      · rw [hp] at hcx
        have HC := hide hcx
        have HP := hide hp
        clear hcx hall hx hch hp
        go_wp2_with (go_at_call 58; refine (unhide HC).mono ?_; rintro e w2 ⟨rfl, hc2⟩; have HC2 := hide hc2; clear hc2)
        go_roundw
        case rel =>
          exact ⟨k + 1, by go_num, by omega, fun j y hj hy => by
            rcases Nat.lt_or_ge j k with h | h
            · exact (unhide HALL) j y h hy
            · obtain rfl : j = k := by omega
              have := (unhide HX).symm.trans hy
              injection this with this
              rw [← this]
              exact unhide HP, (unhide HCH).trans' (unhide HC2)⟩
        case measure => simp [intOf]; omega
      · rw [hp] at hcx
        have HC := hide hcx
        have HF := hide ((unhide HHE) k x hx hp hall)
        clear hcx hall hx hch hp
        go_wp2_with (go_at_call 58; refine (unhide HC).mono ?_; rintro e w2 ⟨rfl, hc2⟩; have HC2 := hide hc2; clear hc2)
        go_ret
        exact ⟨retv (intv (unhide HF).symm), (unhide HCH).trans' (unhide HC2)⟩
    · obtain rfl : k = l.length := by omega
      have hki : ¬ (l.length : Int) < (l.length : Int) := by omega
      have HF := hide ((unhide HNO) (fun j y hy => hall j y (List.getElem?_eq_some_iff.1 hy).1 hy))
      have HCH := hide hch
      clear hall hch
      go_wp2_with fail
      go_ret
      exact ⟨retv (intv (unhide HF).symm), unhide HCH⟩
theorem has_high (l : List Int) (A : Option Addr) (c : Nat) (T : Nat → Prop) (w : World) (g : Nat) (p : Int → Bool) (hr : Rd T w A (l.map intl)) (hn : l.length ≤ 1000000) (hcl : ∀ W, Chg (fun _ => False) w W → ∀ x ∈ l, Calls Tryz.prog 58 #[.int .i64 x, .pointer (some ⟨g, 0, none⟩)] W fun e w' => e = .returned (.bool (p x)) ∧ Chg (fun _ => False) W w') :
    Calls Tryz.prog 59 #[.slice A l.length c, .func (.func 58) #[] #[.pointer (some ⟨g, 0, none⟩)]] w fun e w' => e = .returned (.bool (l.any p)) ∧ Chg (fun _ => False) w w' := by
  have HI := hide (idx_high l A c T w g p hr hn hcl)
  have ha := idxP_any p l
  generalize idxP p l = R at *
  generalize l.any p = B at *
  clear hr hcl
  have HA := hide ha
  clear ha
  go_enter Tryz.func59, Tryz.ntmps59
  go_wp2_with (go_at_call 80; refine (unhide HI).mono ?_; rintro e w2 ⟨rfl, hc2⟩; have HC2 := hide hc2; clear hc2)
  go_ret
  exact ⟨retv (boolv (unhide HA)), unhide HC2⟩
theorem high_any (x p : Int) (g : Nat) (nm cv : Value) (w : World) (hb : Blk w g 51 #[nm, .int .i64 p, cv]) : Calls Tryz.prog 58 #[.int .i64 x, .pointer (some ⟨g, 0, none⟩)] w fun e w' => e = .returned (.bool (decide (p ≤ x))) ∧ Chg (fun _ => False) w w' := by
  have x1 := hb.cell 1
  simp only [List.getElem?_toArray, List.getElem?_cons_zero, List.getElem?_cons_succ] at x1
  clear hb
  go_enter Tryz.func58, Tryz.ntmps58
  go_wp2_with fail
  go_ret
  exact ⟨rfl, Chg.refl _ _⟩
theorem argB_eq (p : Int) (t : List Nd) : argB p t = ((typE t == 0) && !((varsR t).any fun v => decide (p ≤ v))) := by
  unfold argB typE varsR
  cases typB t with
  | false => rfl
  | true =>
    rw [if_pos rfl, if_pos rfl]
    have : ((varsL t).any fun v => decide (p ≤ v)) = !((varsL t).all fun v => decide (v < p)) := by
      rw [← any_not]
      congr 1
      funext v
      rw [Bool.eq_iff_iff]
      simp
    rw [this]
    simp
theorem arg_any (t : List Nd) (u : Value) (p : Int) (g : Nat) (nm cv : Value) (T : Nat → Prop) (w : World) (hr : RdN T w u t) (hb : Blk w g 51 #[nm, .int .i64 p, cv]) (hl : Lay w) :
    Calls Tryz.prog 57 #[u, .pointer (some ⟨g, 0, none⟩)] w fun e w' => e = .returned (.bool (argB p t)) ∧ Chg (fun _ => False) w w' := by
  have hE := argB_eq p t
  have HC := hide (check_any t u T w hr hl)
  have HV := hide (fun W (hW : Chg (fun _ => False) w W) => vars_any t u T W (hr.chg hW (fun _ _ _ => id)) (hl.chg hW (fun _ _ => id)))
  have hvl : (varsR t).length ≤ 4000 := by
    unfold varsR
    split
    · rename_i h
      unfold typB at h
      simp only [Bool.and_eq_true, decide_eq_true_eq] at h
      have := varsG_len t []
      unfold varsL
      rw [List.length_nil] at this
      omega
    · simp
  have HH := hide (fun W (hW : Chg (fun _ => False) w W) A c T2 (h : Rd T2 W A ((varsR t).map intl)) => has_high (varsR t) A c T2 W g (fun v => decide (p ≤ v)) h (by omega) (fun W2 hW2 x _ => high_any x p g nm cv W2 ((hb.chg hW id).chg hW2 id)))
  obtain ⟨A, c, rfl⟩ := hr.val
  generalize argB p t = E at *
  generalize varsR t = R at *
  generalize R.any (fun v => decide (p ≤ v)) = B at *
  clear hr hl hb
  cases ht : typB t
  · have h90 : typE t = 90 := by unfold typE; rw [ht]; rfl
    rw [h90] at HC hE
    have HE := hide (show E = false by rw [hE]; rfl)
    clear hE h90 ht
    go_enter Tryz.func57, Tryz.ntmps57
    go_wp2_with (go_at_call 45; refine (unhide HC).mono ?_; rintro e w2 ⟨rfl, hc2⟩; have HC2 := hide hc2; clear hc2)
    go_ret
    exact ⟨retv (boolv (unhide HE).symm), unhide HC2⟩
  · have h0 : typE t = 0 := by unfold typE; rw [ht]; rfl
    rw [h0] at HC hE
    have HE := hide (show E = !B by rw [hE]; rfl)
    clear hE h0 ht
    go_enter Tryz.func57, Tryz.ntmps57
    go_wp2_with (first
      | (go_at_call 45; refine (unhide HC).mono ?_; rintro e w2 ⟨rfl, hc2⟩; have HC2 := hide hc2; clear hc2)
      | (go_at_call 60; refine ((unhide HV) _ (unhide HC2)).mono ?_; rintro e w3 ⟨A3, c3, rfl, hr3, hc3⟩; have HC3 := hide ((unhide HC2).trans' hc3); have HR3 := hide hr3; clear hc3 hr3)
      | (go_at_call 59; refine ((unhide HH) _ (unhide HC3) _ _ _ (unhide HR3)).mono ?_; rintro e w4 ⟨rfl, hc4⟩; have HC4 := hide ((unhide HC3).trans' hc4); clear hc4))
    go_ret
    exact ⟨retv (boolv (unhide HE).symm), unhide HC4⟩
theorem idx_args (l : List (List Nd)) (v : Value) (T : Nat → Prop) (w : World) (g : Nat) (p : List Nd → Bool) (hr : RdNs T w v l) (hn : l.length ≤ 1000000) (hcl : ∀ W, Chg (fun _ => False) w W → ∀ x ∈ l, ∀ u, RdN T W u x → Calls Tryz.prog 61 #[u, .pointer (some ⟨g, 0, none⟩)] W fun e w' => e = .returned (.bool (p x)) ∧ Chg (fun _ => False) W w') :
    Calls Tryz.prog 63 #[v, .func (.func 61) #[] #[.pointer (some ⟨g, 0, none⟩)]] w fun e w' => e = .returned (.int .i64 (idxP p l)) ∧ Chg (fun _ => False) w w' := by
  obtain ⟨A, c, rfl⟩ := hr.val
  have HR := hide hr
  have HCL := hide hcl
  have HNO := hide (idxP_none (p := p) (l := l))
  have HHE := hide (fun k x => idxP_here (p := p) (l := l) (k := k) (x := x))
  generalize idxP p l = R at *
  clear hr hcl
  go_enter Tryz.func63, Tryz.ntmps63
  go_wp2_with fail
  go_loopw [8] (fun i wr => ∃ k : Nat, i = .int .i64 (k : Int) ∧ k ≤ l.length ∧ (∀ j y, j < k → l[j]? = some y → p y = false) ∧ Chg (fun _ => False) w wr) (fun i _ => l.length - (intOf i).toNat)
  case atStart => exact ⟨0, rfl, Nat.zero_le _, fun j y h => absurd h (Nat.not_lt_zero _), Chg.refl _ _⟩
  case round =>
    obtain ⟨wq, rfl⟩ : ∃ wq : World, wq = wr := ⟨_, rfl⟩
    obtain ⟨k, rfl, hk, hall, hch⟩ := hrel
    by_cases hlt : k < l.length
    · have hki : (k : Int) < (l.length : Int) := by omega
      have hx : l[k]? = some l[k] := List.getElem?_eq_getElem hlt
      obtain ⟨b, o, c2, u, hv, _, hru, c0⟩ := ((unhide HR).chg hch (fun _ _ _ => id)).at_ hx
      injection hv with hv1 hv2 hv3
      subst hv1 hv3
      have hcx := (unhide HCL) wq hch l[k] (List.getElem_mem hlt) u hru
      generalize l[k] = x at *
      have HALL := hide hall
      have HX := hide hx
      have HCH := hide hch
      cases hp : p x
      · rw [hp] at hcx
        have HC := hide hcx
        have HP := hide hp
        clear hcx hall hx hch hp
        go_wp2_with (go_at_call 61; refine (unhide HC).mono ?_; rintro e w2 ⟨rfl, hc2⟩; have HC2 := hide hc2; clear hc2)
        go_roundw
        case rel =>
          exact ⟨k + 1, by go_num, by omega, fun j y hj hy => by
            rcases Nat.lt_or_ge j k with h | h
            · exact (unhide HALL) j y h hy
            · obtain rfl : j = k := by omega
              have := (unhide HX).symm.trans hy
              injection this with this
              rw [← this]
              exact unhide HP, (unhide HCH).trans' (unhide HC2)⟩
        case measure => simp [intOf]; omega
      · rw [hp] at hcx
        have HC := hide hcx
        have HF := hide ((unhide HHE) k x hx hp hall)
        clear hcx hall hx hch hp
        go_wp2_with (go_at_call 61; refine (unhide HC).mono ?_; rintro e w2 ⟨rfl, hc2⟩; have HC2 := hide hc2; clear hc2)
        go_ret
        exact ⟨retv (intv (unhide HF).symm), (unhide HCH).trans' (unhide HC2)⟩
    · obtain rfl : k = l.length := by omega
      have hki : ¬ (l.length : Int) < (l.length : Int) := by omega
      have HF := hide ((unhide HNO) (fun j y hy => hall j y (List.getElem?_eq_some_iff.1 hy).1 hy))
      have HCH := hide hch
      clear hall hch
      go_wp2_with fail
      go_ret
      exact ⟨retv (intv (unhide HF).symm), unhide HCH⟩
theorem has_args (l : List (List Nd)) (v : Value) (T : Nat → Prop) (w : World) (g : Nat) (p : List Nd → Bool) (hr : RdNs T w v l) (hn : l.length ≤ 1000000) (hcl : ∀ W, Chg (fun _ => False) w W → ∀ x ∈ l, ∀ u, RdN T W u x → Calls Tryz.prog 61 #[u, .pointer (some ⟨g, 0, none⟩)] W fun e w' => e = .returned (.bool (p x)) ∧ Chg (fun _ => False) W w') :
    Calls Tryz.prog 41 #[v, .func (.func 61) #[] #[.pointer (some ⟨g, 0, none⟩)]] w fun e w' => e = .returned (.bool (l.any p)) ∧ Chg (fun _ => False) w w' := by
  have HI := hide (idx_args l v T w g p hr hn hcl)
  have ha := idxP_any p l
  obtain ⟨A, c, rfl⟩ := hr.val
  generalize idxP p l = R at *
  generalize l.any p = B at *
  clear hr hcl
  have HA := hide ha
  clear ha
  go_enter Tryz.func41, Tryz.ntmps41
  go_wp2_with (go_at_call 63; refine (unhide HI).mono ?_; rintro e w2 ⟨rfl, hc2⟩; have HC2 := hide hc2; clear hc2)
  go_ret
  exact ⟨retv (boolv (unhide HA)), unhide HC2⟩
end Go.Proofs.YticnehmgaklhfaaGreatDoor
