/-
  Layer 10, the program's side: whether a type is told; whether a constructor is told twice, or lacks one.
-/
import Derived.Test.YticnehmgaklhfaaGreatDoorDtf
namespace Go.Proofs.YticnehmgaklhfaaGreatDoor
open Go.RowKit
set_option maxHeartbeats 4000000
set_option maxRecDepth 100000
theorem idx_dk (l : List Dt) (v : Value) (T : Nat → Prop) (w : World) (g : Nat) (p : Dt → Bool) (hr : RdD T w v l) (hn : l.length ≤ 1000000) (hcl : ∀ W, Chg (fun _ => False) w W → ∀ x ∈ l, ∀ u, RdC T W u x.cons → x.name.size ≤ 9223372036854775807 → Calls Tryz.prog 39 #[.agg #[.string x.name, .int .i64 x.params, u], .pointer (some ⟨g, 0, none⟩)] W fun e w' => e = .returned (.bool (p x)) ∧ Chg (fun _ => False) W w') :
    Calls Tryz.prog 34 #[v, .func (.func 39) #[] #[.pointer (some ⟨g, 0, none⟩)]] w fun e w' => e = .returned (.int .i64 (idxP p l)) ∧ Chg (fun _ => False) w w' := by
  obtain ⟨A, c, rfl⟩ := hr.val
  have HR := hide hr
  have HCL := hide hcl
  have HNO := hide (idxP_none (p := p) (l := l))
  have HHE := hide (fun k x => idxP_here (p := p) (l := l) (k := k) (x := x))
  generalize idxP p l = R at *
  clear hr hcl
  go_enter Tryz.func34, Tryz.ntmps34
  go_wp2_with fail
  go_loopw [8] (fun i wr => ∃ k : Nat, i = .int .i64 (k : Int) ∧ k ≤ l.length ∧ (∀ j y, j < k → l[j]? = some y → p y = false) ∧ Chg (fun _ => False) w wr) (fun i _ => l.length - (intOf i).toNat)
  case atStart => exact ⟨0, rfl, Nat.zero_le _, fun j y h => absurd h (Nat.not_lt_zero _), Chg.refl _ _⟩
  case round =>
    obtain ⟨wq, rfl⟩ : ∃ wq : World, wq = wr := ⟨_, rfl⟩
    obtain ⟨k, rfl, hk, hall, hch⟩ := hrel
    by_cases hlt : k < l.length
    · have hki : (k : Int) < (l.length : Int) := by omega
      have hx : l[k]? = some l[k] := List.getElem?_eq_getElem hlt
      obtain ⟨b, o, c2, u, hv, _, hru, hxs, c0, c1, c3⟩ := ((unhide HR).chg hch (fun _ _ _ => id)).at_ hx
      injection hv with hv1 hv2 hv3
      subst hv1 hv3
      have hcx := (unhide HCL) wq hch l[k] (List.getElem_mem hlt) u hru hxs
      generalize l[k] = x at *
      have HALL := hide hall
      have HX := hide hx
      have HCH := hide hch
      cases hp : p x
      · rw [hp] at hcx
        have HC := hide hcx
        have HP := hide hp
        clear hcx hall hx hch hp
        go_wp2_with (go_at_call 39; refine (unhide HC).mono ?_; rintro e w2 ⟨rfl, hc2⟩; have HC2 := hide hc2; clear hc2)
        go_roundw
        case rel =>
          exact ⟨k + 1, by go_num, by omega, fun j y hj hy => by
            rcases Nat.lt_or_ge j k with h | h
            · exact (unhide HALL) j y h hy
            · obtain rfl : j = k := by omega
              have := (unhide HX).symm.trans hy
              injection this with this
              rw [← this]
              exact unhide HP, (unhide HCH).trans' (unhide HC2)⟩
        case measure => simp [intOf]; omega
      · rw [hp] at hcx
        have HC := hide hcx
        have HF := hide ((unhide HHE) k x hx hp hall)
        clear hcx hall hx hch hp
        go_wp2_with (go_at_call 39; refine (unhide HC).mono ?_; rintro e w2 ⟨rfl, hc2⟩; have HC2 := hide hc2; clear hc2)
        go_ret
        exact ⟨retv (intv (unhide HF).symm), (unhide HCH).trans' (unhide HC2)⟩
    · obtain rfl : k = l.length := by omega
      have hki : ¬ (l.length : Int) < (l.length : Int) := by omega
      have HF := hide ((unhide HNO) (fun j y hy => hall j y (List.getElem?_eq_some_iff.1 hy).1 hy))
      have HCH := hide hch
      clear hall hch
      go_wp2_with fail
      go_ret
      exact ⟨retv (intv (unhide HF).symm), unhide HCH⟩
theorem has_dk (l : List Dt) (v : Value) (T : Nat → Prop) (w : World) (g : Nat) (p : Dt → Bool) (hr : RdD T w v l) (hn : l.length ≤ 1000000) (hcl : ∀ W, Chg (fun _ => False) w W → ∀ x ∈ l, ∀ u, RdC T W u x.cons → x.name.size ≤ 9223372036854775807 → Calls Tryz.prog 39 #[.agg #[.string x.name, .int .i64 x.params, u], .pointer (some ⟨g, 0, none⟩)] W fun e w' => e = .returned (.bool (p x)) ∧ Chg (fun _ => False) W w') :
    Calls Tryz.prog 31 #[v, .func (.func 39) #[] #[.pointer (some ⟨g, 0, none⟩)]] w fun e w' => e = .returned (.bool (l.any p)) ∧ Chg (fun _ => False) w w' := by
  have HI := hide (idx_dk l v T w g p hr hn hcl)
  have ha := idxP_any p l
  obtain ⟨A, c, rfl⟩ := hr.val
  generalize idxP p l = R at *
  generalize l.any p = B at *
  clear hr hcl
  have HA := hide ha
  clear ha
  go_enter Tryz.func31, Tryz.ntmps31
  go_wp2_with (go_at_call 34; refine (unhide HI).mono ?_; rintro e w2 ⟨rfl, hc2⟩; have HC2 := hide hc2; clear hc2)
  go_ret
  exact ⟨retv (boolv (unhide HA)), unhide HC2⟩
theorem idx_nn (l : List Nd) (v : Value) (T : Nat → Prop) (w : World) (g : Nat) (p : Nd → Bool) (hr : RdN T w v l) (hn : l.length ≤ 1000000) (hcl : ∀ W, Chg (fun _ => False) w W → ∀ x ∈ l, Calls Tryz.prog 37 #[ndV x, .pointer (some ⟨g, 0, none⟩)] W fun e w' => e = .returned (.bool (p x)) ∧ Chg (fun _ => False) W w') :
    Calls Tryz.prog 64 #[v, .func (.func 37) #[] #[.pointer (some ⟨g, 0, none⟩)]] w fun e w' => e = .returned (.int .i64 (idxP p l)) ∧ Chg (fun _ => False) w w' := by
  obtain ⟨A, c, rfl⟩ := hr.val
  have HR := hide hr
  have HCL := hide hcl
  have HNO := hide (idxP_none (p := p) (l := l))
  have HHE := hide (fun k x => idxP_here (p := p) (l := l) (k := k) (x := x))
  generalize idxP p l = R at *
  clear hr hcl
  go_enter Tryz.func64, Tryz.ntmps64
  go_wp2_with fail
  go_loopw [8] (fun i wr => ∃ k : Nat, i = .int .i64 (k : Int) ∧ k ≤ l.length ∧ (∀ j y, j < k → l[j]? = some y → p y = false) ∧ Chg (fun _ => False) w wr) (fun i _ => l.length - (intOf i).toNat)
  case atStart => exact ⟨0, rfl, Nat.zero_le _, fun j y h => absurd h (Nat.not_lt_zero _), Chg.refl _ _⟩
  case round =>
    obtain ⟨wq, rfl⟩ : ∃ wq : World, wq = wr := ⟨_, rfl⟩
    obtain ⟨k, rfl, hk, hall, hch⟩ := hrel
    by_cases hlt : k < l.length
    · have hki : (k : Int) < (l.length : Int) := by omega
      have hx : l[k]? = some l[k] := List.getElem?_eq_getElem hlt
      have hcx := (unhide HCL) wq hch l[k] (List.getElem_mem hlt)
      generalize l[k] = x at *
      obtain ⟨b, o, c2, hv, _, _, c0, c1, c3, c4⟩ := ((unhide HR).chg hch (fun _ _ _ => id)).at_ hx
      injection hv with hv1 hv2 hv3
      subst hv1 hv3
      have HALL := hide hall
      have HX := hide hx
      have HCH := hide hch
      unfold ndV at hcx
      cases hp : p x
      · rw [hp] at hcx
        have HC := hide hcx
        have HP := hide hp
        clear hcx hall hx hch hp
        go_wp2_with (go_at_call 37; refine (unhide HC).mono ?_; rintro e w2 ⟨rfl, hc2⟩; have HC2 := hide hc2; clear hc2)
        go_roundw
        case rel =>
          exact ⟨k + 1, by go_num, by omega, fun j y hj hy => by
            rcases Nat.lt_or_ge j k with h | h
            · exact (unhide HALL) j y h hy
            · obtain rfl : j = k := by omega
              have := (unhide HX).symm.trans hy
              injection this with this
              rw [← this]
              exact unhide HP, (unhide HCH).trans' (unhide HC2)⟩
        case measure => simp [intOf]; omega
      · rw [hp] at hcx
        have HC := hide hcx
        have HF := hide ((unhide HHE) k x hx hp hall)
        clear hcx hall hx hch hp
        go_wp2_with (go_at_call 37; refine (unhide HC).mono ?_; rintro e w2 ⟨rfl, hc2⟩; have HC2 := hide hc2; clear hc2)
        go_ret
        exact ⟨retv (intv (unhide HF).symm), (unhide HCH).trans' (unhide HC2)⟩
    · obtain rfl : k = l.length := by omega
      have hki : ¬ (l.length : Int) < (l.length : Int) := by omega
      have HF := hide ((unhide HNO) (fun j y hy => hall j y (List.getElem?_eq_some_iff.1 hy).1 hy))
      have HCH := hide hch
      clear hall hch
      go_wp2_with fail
      go_ret
      exact ⟨retv (intv (unhide HF).symm), unhide HCH⟩
theorem has_nn (l : List Nd) (v : Value) (T : Nat → Prop) (w : World) (g : Nat) (p : Nd → Bool) (hr : RdN T w v l) (hn : l.length ≤ 1000000) (hcl : ∀ W, Chg (fun _ => False) w W → ∀ x ∈ l, Calls Tryz.prog 37 #[ndV x, .pointer (some ⟨g, 0, none⟩)] W fun e w' => e = .returned (.bool (p x)) ∧ Chg (fun _ => False) W w') :
    Calls Tryz.prog 43 #[v, .func (.func 37) #[] #[.pointer (some ⟨g, 0, none⟩)]] w fun e w' => e = .returned (.bool (l.any p)) ∧ Chg (fun _ => False) w w' := by
  have HI := hide (idx_nn l v T w g p hr hn hcl)
  have ha := idxP_any p l
  obtain ⟨A, c, rfl⟩ := hr.val
  generalize idxP p l = R at *
  generalize l.any p = B at *
  clear hr hcl
  have HA := hide ha
  clear ha
  go_enter Tryz.func43, Tryz.ntmps43
  go_wp2_with (go_at_call 64; refine (unhide HI).mono ?_; rintro e w2 ⟨rfl, hc2⟩; have HC2 := hide hc2; clear hc2)
  go_ret
  exact ⟨retv (boolv (unhide HA)), unhide HC2⟩
theorem idx_al (l : List (List Nd)) (v : Value) (T : Nat → Prop) (w : World) (g : Nat) (p : List Nd → Bool) (hr : RdNs T w v l) (hn : l.length ≤ 1000000) (hcl : ∀ W, Chg (fun _ => False) w W → ∀ x ∈ l, ∀ u, RdN T W u x → Calls Tryz.prog 42 #[u, .pointer (some ⟨g, 0, none⟩)] W fun e w' => e = .returned (.bool (p x)) ∧ Chg (fun _ => False) W w') :
    Calls Tryz.prog 63 #[v, .func (.func 42) #[] #[.pointer (some ⟨g, 0, none⟩)]] w fun e w' => e = .returned (.int .i64 (idxP p l)) ∧ Chg (fun _ => False) w w' := by
  obtain ⟨A, c, rfl⟩ := hr.val
  have HR := hide hr
  have HCL := hide hcl
  have HNO := hide (idxP_none (p := p) (l := l))
  have HHE := hide (fun k x => idxP_here (p := p) (l := l) (k := k) (x := x))
  generalize idxP p l = R at *
  clear hr hcl
  go_enter Tryz.func63, Tryz.ntmps63
  go_wp2_with fail
  go_loopw [8] (fun i wr => ∃ k : Nat, i = .int .i64 (k : Int) ∧ k ≤ l.length ∧ (∀ j y, j < k → l[j]? = some y → p y = false) ∧ Chg (fun _ => False) w wr) (fun i _ => l.length - (intOf i).toNat)
  case atStart => exact ⟨0, rfl, Nat.zero_le _, fun j y h => absurd h (Nat.not_lt_zero _), Chg.refl _ _⟩
  case round =>
    obtain ⟨wq, rfl⟩ : ∃ wq : World, wq = wr := ⟨_, rfl⟩
    obtain ⟨k, rfl, hk, hall, hch⟩ := hrel
    by_cases hlt : k < l.length
    · have hki : (k : Int) < (l.length : Int) := by omega
      have hx : l[k]? = some l[k] := List.getElem?_eq_getElem hlt
      obtain ⟨b, o, c2, u, hv, _, hru, c0⟩ := ((unhide HR).chg hch (fun _ _ _ => id)).at_ hx
      injection hv with hv1 hv2 hv3
      subst hv1 hv3
      have hcx := (unhide HCL) wq hch l[k] (List.getElem_mem hlt) u hru
      generalize l[k] = x at *
      have HALL := hide hall
      have HX := hide hx
      have HCH := hide hch
      cases hp : p x
      · rw [hp] at hcx
        have HC := hide hcx
        have HP := hide hp
        clear hcx hall hx hch hp
        go_wp2_with (go_at_call 42; refine (unhide HC).mono ?_; rintro e w2 ⟨rfl, hc2⟩; have HC2 := hide hc2; clear hc2)
        go_roundw
        case rel =>
          exact ⟨k + 1, by go_num, by omega, fun j y hj hy => by
            rcases Nat.lt_or_ge j k with h | h
            · exact (unhide HALL) j y h hy
            · obtain rfl : j = k := by omega
              have := (unhide HX).symm.trans hy
              injection this with this
              rw [← this]
              exact unhide HP, (unhide HCH).trans' (unhide HC2)⟩
        case measure => simp [intOf]; omega
      · rw [hp] at hcx
        have HC := hide hcx
        have HF := hide ((unhide HHE) k x hx hp hall)
        clear hcx hall hx hch hp
        go_wp2_with (go_at_call 42; refine (unhide HC).mono ?_; rintro e w2 ⟨rfl, hc2⟩; have HC2 := hide hc2; clear hc2)
        go_ret
        exact ⟨retv (intv (unhide HF).symm), (unhide HCH).trans' (unhide HC2)⟩
    · obtain rfl : k = l.length := by omega
      have hki : ¬ (l.length : Int) < (l.length : Int) := by omega
      have HF := hide ((unhide HNO) (fun j y hy => hall j y (List.getElem?_eq_some_iff.1 hy).1 hy))
      have HCH := hide hch
      clear hall hch
      go_wp2_with fail
      go_ret
      exact ⟨retv (intv (unhide HF).symm), unhide HCH⟩
theorem has_al (l : List (List Nd)) (v : Value) (T : Nat → Prop) (w : World) (g : Nat) (p : List Nd → Bool) (hr : RdNs T w v l) (hn : l.length ≤ 1000000) (hcl : ∀ W, Chg (fun _ => False) w W → ∀ x ∈ l, ∀ u, RdN T W u x → Calls Tryz.prog 42 #[u, .pointer (some ⟨g, 0, none⟩)] W fun e w' => e = .returned (.bool (p x)) ∧ Chg (fun _ => False) W w') :
    Calls Tryz.prog 41 #[v, .func (.func 42) #[] #[.pointer (some ⟨g, 0, none⟩)]] w fun e w' => e = .returned (.bool (l.any p)) ∧ Chg (fun _ => False) w w' := by
  have HI := hide (idx_al l v T w g p hr hn hcl)
  have ha := idxP_any p l
  obtain ⟨A, c, rfl⟩ := hr.val
  generalize idxP p l = R at *
  generalize l.any p = B at *
  clear hr hcl
  have HA := hide ha
  clear ha
  go_enter Tryz.func41, Tryz.ntmps41
  go_wp2_with (go_at_call 63; refine (unhide HI).mono ?_; rintro e w2 ⟨rfl, hc2⟩; have HC2 := hide hc2; clear hc2)
  go_ret
  exact ⟨retv (boolv (unhide HA)), unhide HC2⟩
theorem told_any (x : Dt) (n : Nd) (B : Option Addr) (m c : Nat) (g : Nat) (w : World) (hb : Blk w g 56 #[.int .i64 n.kind, .string n.text, .int .i64 n.num, .int .i64 n.kids]) :
    Calls Tryz.prog 39 #[.agg #[.string x.name, .int .i64 x.params, .slice B m c], .pointer (some ⟨g, 0, none⟩)] w fun e w' => e = .returned (.bool (decide (x.name = n.text) && x.params == n.kids)) ∧ Chg (fun _ => False) w w' := by
  have hd : decide (x.name = n.text) = (x.name.toList == n.text.toList) := by rw [Bool.eq_iff_iff, decide_eq_true_eq, name_same]
  rw [hd]
  have hb2 := hb.alloc (.cells #[.string x.name, .int .i64 x.params, .slice B m c] 51)
  have x1 := hb2.cell 1
  have x3 := hb2.cell 3
  have hlt := hb.lt
  simp only [List.getElem?_toArray, List.getElem?_cons_zero, List.getElem?_cons_succ] at x1 x3
  clear hb hb2 hd
  cases hq : (x.name.toList == n.text.toList) <;> go_enter Tryz.func39, Tryz.ntmps39 <;> (go_wp2_with fail) <;> go_ret <;> exact ⟨rfl, (Chg.refl _ _).alloc _⟩
end Go.Proofs.YticnehmgaklhfaaGreatDoor
