/-
  Layer 23: whether rows are the same, one by one. Layer 23: whether rows are the same, one by one (more). Layer 23: whether constructors, declarations, signatures are the same.
-/
import Derived.Test.YtinekmjengckdaaGreatDoorA18
import Derived.Test.YtinekmjengckdaaGreatDoorA19
import Derived.Test.YtinekmjengckdaaGreatDoorA26
import Derived.Test.YtinekmjengckdaaGreatDoorA20
namespace Go.Proofs.YtinekmjengckdaaGreatDoor
open Go.RowKit
set_option maxHeartbeats 4000000
set_option maxRecDepth 100000
def Fx.same (x y : Fx) : Bool := x.op.toList == y.op.toList && x.level == y.level && x.side == y.side
def Opn.same (x y : Opn) : Bool := x.name.toList == y.name.toList && x.digest == y.digest
theorem run_neq_fxs (x y : Fx) (w : World) : (binOp .neq 53 (.agg #[.string x.op, .int .i64 x.level, .int .i64 x.side]) (.agg #[.string y.op, .int .i64 y.level, .int .i64 y.side])).run Tryz.prog w = .ok (.bool (!(Fx.same x y))) w := run_neq_fx x y w
theorem run_neq_opn (x y : Opn) (w : World) : (binOp .neq 51 (.agg #[.string x.name, .int .u32 x.digest]) (.agg #[.string y.name, .int .u32 y.digest])).run Tryz.prog w = .ok (.bool (!(Opn.same x y))) w := by
  unfold Opn.same
  cases h2 : x.name.toList == y.name.toList <;> cases h3 : x.digest == y.digest <;> go_simp
theorem text_iff {a b : ByteArray} : a.toList = b.toList ↔ a = b := ⟨bytes_eq, fun h => by rw [h]⟩
theorem Fx.same_iff (x y : Fx) : Fx.same x y = true ↔ x = y := by
  obtain ⟨a, b, c⟩ := x
  obtain ⟨a', b', c'⟩ := y
  unfold Fx.same
  simp only [Bool.and_eq_true, beq_iff_eq, text_iff, Fx.mk.injEq, and_assoc]
theorem Opn.same_iff (x y : Opn) : Opn.same x y = true ↔ x = y := by
  obtain ⟨a, b⟩ := x
  obtain ⟨a', b'⟩ := y
  unfold Opn.same
  simp only [Bool.and_eq_true, beq_iff_eq, text_iff, Opn.mk.injEq]
theorem equalO_any (l m : List Opn) (v1 v2 : Value) (T1 T2 : Nat → Prop) (w : World) (h1 : RdO T1 w v1 l) (h2 : RdO T2 w v2 m) (hn : l.length ≤ 1000000) (_hm : m.length ≤ 1000000) :
    Calls Tryz.prog 32 #[v1, v2] w fun e w' => e = .returned (.bool (sameBy Opn.same l m)) ∧ Chg (fun _ => False) w w' := by
  obtain ⟨A1, c1, rfl⟩ := RdR.val h1
  obtain ⟨A2, c2, rfl⟩ := RdR.val h2
  have H1 := hH h1
  have H2 := hH h2
  by_cases hl : l.length = m.length
  rotate_left
  · have HE := hH (sameBy_len Opn.same hl)
    have hle : ¬ (l.length : Int) = (m.length : Int) := by omega
    generalize sameBy Opn.same l m = E at *
    clear h1 h2 H1 H2
    go_enter Tryz.func32, Tryz.ntmps32
    go_wp2_with fail
    go_ret
    exact ⟨retv (boolv (uH HE).symm), Chg.refl _ _⟩
  · have HA := hH (sameBy_all Opn.same hl)
    have HD := hH (fun k x y => sameBy_diff Opn.same (l := l) (m := m) (k := k) (x := x) (y := y))
    generalize sameBy Opn.same l m = E at *
    have hle : (l.length : Int) = (m.length : Int) := by omega
    clear h1 h2
    go_enter Tryz.func32, Tryz.ntmps32
    go_wp2_with fail
    go_loopw [13] (fun i wr => ∃ k : Nat, i = .int .i64 (k : Int) ∧ k ≤ l.length ∧ (∀ j x y, j < k → l[j]? = some x → m[j]? = some y → Opn.same x y = true) ∧ Chg (fun _ => False) w wr) (fun i _ => l.length - (intOf i).toNat)
    case atStart => exact ⟨0, rfl, Nat.zero_le _, fun j x y h => absurd h (Nat.not_lt_zero _), Chg.refl _ _⟩
    case round =>
      obtain ⟨wq, rfl⟩ : ∃ wq : World, wq = wr := ⟨_, rfl⟩
      obtain ⟨k, rfl, hk, hall, hch⟩ := hrel
      by_cases hlt : k < l.length
      · have hki : (k : Int) < (l.length : Int) := by omega
        have hkm : (k : Int) < (m.length : Int) := by omega
        have hx : l[k]? = some l[k] := List.getElem?_eq_getElem hlt
        have hlm : k < m.length := by omega
        have hy : m[k]? = some m[k] := List.getElem?_eq_getElem hlm
        generalize l[k] = x at *
        generalize m[k] = y at *
        obtain ⟨b, o, c3, hv, _, _, d0, d1⟩ := RdO.at_ (RdO.chg (uH H1) hch (fun _ _ _ => id)) hx
        obtain ⟨b', o', c3', hv', _, _, e0, e1⟩ := RdO.at_ (RdO.chg (uH H2) hch (fun _ _ _ => id)) hy
        injection hv with hv1 hv2 hv3
        injection hv' with hv1' hv2' hv3'
        subst hv1 hv3 hv1' hv3'
        have HALL := hH hall
        have HX := hH hx
        have HY := hH hy
        have HCH := hH hch
        clear hall hx hy hch hv2 hv2'
        have qn := fun w : World => run_neq_opn x y w
        cases hq : Opn.same x y
        · have HE := hH (uH HD k x y (uH HX) (uH HY) hq)
          rw [hq] at qn
          clear hq HALL HX HY
          go_wp2_with fail
          go_quiet (fail)
          go_wp2_with fail
          go_ret
          exact ⟨retv (boolv (uH HE).symm), (uH HCH).drewN _⟩
        · rw [hq] at qn
          have HQ := hH hq
          clear hq
          go_wp2_with fail
          go_quiet (fail)
          go_wp2_with fail
          go_roundw
          case rel =>
            exact ⟨k + 1, by go_num, by omega, fun j x' y' hj hx' hy' => by
              rcases Nat.lt_or_ge j k with h | h
              · exact (uH HALL) j x' y' h hx' hy'
              · obtain rfl : j = k := by omega
                have e1 := (uH HX).symm.trans hx'
                have e2 := (uH HY).symm.trans hy'
                injection e1 with e1
                injection e2 with e2
                rw [← e1, ← e2]
                exact uH HQ, (uH HCH).drewN _⟩
          case measure => simp [intOf]; omega
      · obtain rfl : k = l.length := by omega
        have hki : ¬ (l.length : Int) < (l.length : Int) := by omega
        have HF := hH (uH HA (fun j x y hx hy => hall j x y (List.getElem?_eq_some_iff.1 hx).1 hx hy))
        have HCH := hH hch
        clear hall hch
        go_wp2_with fail
        go_ret
        exact ⟨retv (boolv (uH HF).symm), uH HCH⟩
theorem equalX_any (l m : List Fx) (v1 v2 : Value) (T1 T2 : Nat → Prop) (w : World) (h1 : RdF T1 w v1 l) (h2 : RdF T2 w v2 m) (hn : l.length ≤ 1000000) (_hm : m.length ≤ 1000000) :
    Calls Tryz.prog 34 #[v1, v2] w fun e w' => e = .returned (.bool (sameBy Fx.same l m)) ∧ Chg (fun _ => False) w w' := by
  obtain ⟨A1, c1, rfl⟩ := RdR.val h1
  obtain ⟨A2, c2, rfl⟩ := RdR.val h2
  have H1 := hH h1
  have H2 := hH h2
  by_cases hl : l.length = m.length
  rotate_left
  · have HE := hH (sameBy_len Fx.same hl)
    have hle : ¬ (l.length : Int) = (m.length : Int) := by omega
    generalize sameBy Fx.same l m = E at *
    clear h1 h2 H1 H2
    go_enter Tryz.func34, Tryz.ntmps34
    go_wp2_with fail
    go_ret
    exact ⟨retv (boolv (uH HE).symm), Chg.refl _ _⟩
  · have HA := hH (sameBy_all Fx.same hl)
    have HD := hH (fun k x y => sameBy_diff Fx.same (l := l) (m := m) (k := k) (x := x) (y := y))
    generalize sameBy Fx.same l m = E at *
    have hle : (l.length : Int) = (m.length : Int) := by omega
    clear h1 h2
    go_enter Tryz.func34, Tryz.ntmps34
    go_wp2_with fail
    go_loopw [13] (fun i wr => ∃ k : Nat, i = .int .i64 (k : Int) ∧ k ≤ l.length ∧ (∀ j x y, j < k → l[j]? = some x → m[j]? = some y → Fx.same x y = true) ∧ Chg (fun _ => False) w wr) (fun i _ => l.length - (intOf i).toNat)
    case atStart => exact ⟨0, rfl, Nat.zero_le _, fun j x y h => absurd h (Nat.not_lt_zero _), Chg.refl _ _⟩
    case round =>
      obtain ⟨wq, rfl⟩ : ∃ wq : World, wq = wr := ⟨_, rfl⟩
      obtain ⟨k, rfl, hk, hall, hch⟩ := hrel
      by_cases hlt : k < l.length
      · have hki : (k : Int) < (l.length : Int) := by omega
        have hkm : (k : Int) < (m.length : Int) := by omega
        have hx : l[k]? = some l[k] := List.getElem?_eq_getElem hlt
        have hlm : k < m.length := by omega
        have hy : m[k]? = some m[k] := List.getElem?_eq_getElem hlm
        generalize l[k] = x at *
        generalize m[k] = y at *
        obtain ⟨b, o, c3, hv, _, _, d0, d1, d2⟩ := RdF.at_ (RdF.chg (uH H1) hch (fun _ _ _ => id)) hx
        obtain ⟨b', o', c3', hv', _, _, e0, e1, e2⟩ := RdF.at_ (RdF.chg (uH H2) hch (fun _ _ _ => id)) hy
        injection hv with hv1 hv2 hv3
        injection hv' with hv1' hv2' hv3'
        subst hv1 hv3 hv1' hv3'
        have HALL := hH hall
        have HX := hH hx
        have HY := hH hy
        have HCH := hH hch
        clear hall hx hy hch hv2 hv2'
        have qn := fun w : World => run_neq_fxs x y w
        cases hq : Fx.same x y
        · have HE := hH (uH HD k x y (uH HX) (uH HY) hq)
          rw [hq] at qn
          clear hq HALL HX HY
          go_wp2_with fail
          go_quiet (fail)
          go_wp2_with fail
          go_ret
          exact ⟨retv (boolv (uH HE).symm), (uH HCH).drewN _⟩
        · rw [hq] at qn
          have HQ := hH hq
          clear hq
          go_wp2_with fail
          go_quiet (fail)
          go_wp2_with fail
          go_roundw
          case rel =>
            exact ⟨k + 1, by go_num, by omega, fun j x' y' hj hx' hy' => by
              rcases Nat.lt_or_ge j k with h | h
              · exact (uH HALL) j x' y' h hx' hy'
              · obtain rfl : j = k := by omega
                have e1 := (uH HX).symm.trans hx'
                have e2 := (uH HY).symm.trans hy'
                injection e1 with e1
                injection e2 with e2
                rw [← e1, ← e2]
                exact uH HQ, (uH HCH).drewN _⟩
          case measure => simp [intOf]; omega
      · obtain rfl : k = l.length := by omega
        have hki : ¬ (l.length : Int) < (l.length : Int) := by omega
        have HF := hH (uH HA (fun j x y hx hy => hall j x y (List.getElem?_eq_some_iff.1 hx).1 hx hy))
        have HCH := hH hch
        clear hall hch
        go_wp2_with fail
        go_ret
        exact ⟨retv (boolv (uH HF).symm), uH HCH⟩
theorem eqfN_any (s : List Nd → List Nd → Bool) (l m : List (List Nd)) (v1 v2 : Value) (T1 T2 : Nat → Prop) (w : World) (h1 : RdNs T1 w v1 l) (h2 : RdNs T2 w v2 m) (hn : l.length ≤ 1000000) (_hm : m.length ≤ 1000000)
    (HCL : ∀ W, Chg (fun _ => False) w W → ∀ x ∈ l, ∀ y ∈ m, ∀ u u', RdN T1 W u x → RdN T2 W u' y → Calls Tryz.prog 28 #[u, u'] W fun e w' => e = .returned (.bool (s x y)) ∧ Chg (fun _ => False) W w') :
    Calls Tryz.prog 27 #[v1, v2, .func (.func 28) #[] #[]] w fun e w' => e = .returned (.bool (sameBy s l m)) ∧ Chg (fun _ => False) w w' := by
  obtain ⟨A1, c1, rfl⟩ := RdR.val h1
  obtain ⟨A2, c2, rfl⟩ := RdR.val h2
  have H1 := hH h1
  have H2 := hH h2
  have HC := hH HCL
  clear HCL
  by_cases hl : l.length = m.length
  rotate_left
  · have HE := hH (sameBy_len s hl)
    have hle : ¬ (l.length : Int) = (m.length : Int) := by omega
    generalize sameBy s l m = E at *
    clear h1 h2 H1 H2 HC
    go_enter Tryz.func27, Tryz.ntmps27
    go_wp2_with fail
    go_ret
    exact ⟨retv (boolv (uH HE).symm), Chg.refl _ _⟩
  · have HA := hH (sameBy_all s hl)
    have HD := hH (fun k x y => sameBy_diff s (l := l) (m := m) (k := k) (x := x) (y := y))
    generalize sameBy s l m = E at *
    have hle : (l.length : Int) = (m.length : Int) := by omega
    clear h1 h2
    go_enter Tryz.func27, Tryz.ntmps27
    go_wp2_with fail
    go_loopw [17] (fun i wr => ∃ k : Nat, i = .int .i64 (k : Int) ∧ k ≤ l.length ∧ (∀ j x y, j < k → l[j]? = some x → m[j]? = some y → s x y = true) ∧ Chg (fun _ => False) w wr) (fun i _ => l.length - (intOf i).toNat)
    case atStart => exact ⟨0, rfl, Nat.zero_le _, fun j x y h => absurd h (Nat.not_lt_zero _), Chg.refl _ _⟩
    case round =>
      obtain ⟨wq, rfl⟩ : ∃ wq : World, wq = wr := ⟨_, rfl⟩
      obtain ⟨k, rfl, hk, hall, hch⟩ := hrel
      by_cases hlt : k < l.length
      · have hki : (k : Int) < (l.length : Int) := by omega
        have hkm : (k : Int) < (m.length : Int) := by omega
        have hx : l[k]? = some l[k] := List.getElem?_eq_getElem hlt
        have hlm : k < m.length := by omega
        have hy : m[k]? = some m[k] := List.getElem?_eq_getElem hlm
        generalize l[k] = x at *
        generalize m[k] = y at *
        have h1q := RdNs.chg (uH H1) hch (fun _ _ _ => id)
        have h2q := RdNs.chg (uH H2) hch (fun _ _ _ => id)
        obtain ⟨b, o, c3, u, hv, _, hru, d0⟩ := RdNs.at_ h1q hx
        injection hv with hv1 hv2 hv3
        subst hv1 hv3
        obtain ⟨B7, c7, rfl⟩ := RdR.val hru
        obtain ⟨b', o', c3', u', hv', _, hru', e0⟩ := RdNs.at_ h2q hy
        injection hv' with hv1' hv2' hv3'
        subst hv1' hv3'
        obtain ⟨B8, c8, rfl⟩ := RdR.val hru'
        have HALL := hH hall
        have HX := hH hx
        have HY := hH hy
        have HCH := hH hch
        have HCC := hH (uH HC wq hch x (List.mem_of_getElem? hx) y (List.mem_of_getElem? hy) _ _ hru hru')
        clear hall hx hy hch hv2 hv2' h1q h2q hru hru' 
        cases hq : s x y
        · have HE := hH (uH HD k x y (uH HX) (uH HY) hq)
          rw [hq] at HCC
          clear hq HALL HX HY
          go_wp2_with (go_at_call 28; refine (uH HCC).mono ?_; rintro e w2 ⟨rfl, hc2⟩; have HC2 := hH hc2; clear hc2)
          go_ret
          exact ⟨retv (boolv (uH HE).symm), (uH HCH).trans' (uH HC2)⟩
        · rw [hq] at HCC
          have HQ := hH hq
          clear hq
          go_wp2_with (go_at_call 28; refine (uH HCC).mono ?_; rintro e w2 ⟨rfl, hc2⟩; have HC2 := hH hc2; clear hc2)
          go_roundw
          case rel =>
            exact ⟨k + 1, by go_num, by omega, fun j x' y' hj hx' hy' => by
              rcases Nat.lt_or_ge j k with h | h
              · exact (uH HALL) j x' y' h hx' hy'
              · obtain rfl : j = k := by omega
                have e1 := (uH HX).symm.trans hx'
                have e2 := (uH HY).symm.trans hy'
                injection e1 with e1
                injection e2 with e2
                rw [← e1, ← e2]
                exact uH HQ, (uH HCH).trans' (uH HC2)⟩
          case measure => simp [intOf]; omega
      · obtain rfl : k = l.length := by omega
        have hki : ¬ (l.length : Int) < (l.length : Int) := by omega
        have HF := hH (uH HA (fun j x y hx hy => hall j x y (List.getElem?_eq_some_iff.1 hx).1 hx hy))
        have HCH := hH hch
        clear hall hch
        go_wp2_with fail
        go_ret
        exact ⟨retv (boolv (uH HF).symm), uH HCH⟩
end Go.Proofs.YtinekmjengckdaaGreatDoor

namespace Go.Proofs.YtinekmjengckdaaGreatDoor
open Go.RowKit
set_option maxHeartbeats 4000000
set_option maxRecDepth 100000
theorem eqfC_any (s : Ct → Ct → Bool) (l m : List (Ct)) (v1 v2 : Value) (T1 T2 : Nat → Prop) (w : World) (h1 : RdC T1 w v1 l) (h2 : RdC T2 w v2 m) (hn : l.length ≤ 1000000) (_hm : m.length ≤ 1000000)
    (HCL : ∀ W, Chg (fun _ => False) w W → ∀ x ∈ l, ∀ y ∈ m, ∀ u u', RdNs T1 W u x.args → RdNs T2 W u' y.args → x.name.size ≤ 9223372036854775807 → y.name.size ≤ 9223372036854775807 → Calls Tryz.prog 26 #[.agg #[.string x.name, u], .agg #[.string y.name, u']] W fun e w' => e = .returned (.bool (s x y)) ∧ Chg (fun _ => False) W w') :
    Calls Tryz.prog 30 #[v1, v2, .func (.func 26) #[] #[]] w fun e w' => e = .returned (.bool (sameBy s l m)) ∧ Chg (fun _ => False) w w' := by
  obtain ⟨A1, c1, rfl⟩ := RdR.val h1
  obtain ⟨A2, c2, rfl⟩ := RdR.val h2
  have H1 := hH h1
  have H2 := hH h2
  have HC := hH HCL
  clear HCL
  by_cases hl : l.length = m.length
  rotate_left
  · have HE := hH (sameBy_len s hl)
    have hle : ¬ (l.length : Int) = (m.length : Int) := by omega
    generalize sameBy s l m = E at *
    clear h1 h2 H1 H2 HC
    go_enter Tryz.func30, Tryz.ntmps30
    go_wp2_with fail
    go_ret
    exact ⟨retv (boolv (uH HE).symm), Chg.refl _ _⟩
  · have HA := hH (sameBy_all s hl)
    have HD := hH (fun k x y => sameBy_diff s (l := l) (m := m) (k := k) (x := x) (y := y))
    generalize sameBy s l m = E at *
    have hle : (l.length : Int) = (m.length : Int) := by omega
    clear h1 h2
    go_enter Tryz.func30, Tryz.ntmps30
    go_wp2_with fail
    go_loopw [17] (fun i wr => ∃ k : Nat, i = .int .i64 (k : Int) ∧ k ≤ l.length ∧ (∀ j x y, j < k → l[j]? = some x → m[j]? = some y → s x y = true) ∧ Chg (fun _ => False) w wr) (fun i _ => l.length - (intOf i).toNat)
    case atStart => exact ⟨0, rfl, Nat.zero_le _, fun j x y h => absurd h (Nat.not_lt_zero _), Chg.refl _ _⟩
    case round =>
      obtain ⟨wq, rfl⟩ : ∃ wq : World, wq = wr := ⟨_, rfl⟩
      obtain ⟨k, rfl, hk, hall, hch⟩ := hrel
      by_cases hlt : k < l.length
      · have hki : (k : Int) < (l.length : Int) := by omega
        have hkm : (k : Int) < (m.length : Int) := by omega
        have hx : l[k]? = some l[k] := List.getElem?_eq_getElem hlt
        have hlm : k < m.length := by omega
        have hy : m[k]? = some m[k] := List.getElem?_eq_getElem hlm
        generalize l[k] = x at *
        generalize m[k] = y at *
        have h1q := RdC.chg (uH H1) hch (fun _ _ _ => id)
        have h2q := RdC.chg (uH H2) hch (fun _ _ _ => id)
        obtain ⟨b, o, c3, u, hv, _, hru, hsz, d0, d1⟩ := RdC.at_ h1q hx
        injection hv with hv1 hv2 hv3
        subst hv1 hv3
        obtain ⟨B7, c7, rfl⟩ := RdR.val hru
        have h2q := RdC.chg h2q ((Chg.refl (fun _ => False) wq).alloc (.cells #[.string x.name, .slice B7 x.args.length c7] 64)) (fun _ _ _ => id)
        obtain ⟨b', o', c3', u', hv', _, hru', hsz', e0, e1⟩ := RdC.at_ h2q hy
        injection hv' with hv1' hv2' hv3'
        subst hv1' hv3'
        obtain ⟨B8, c8, rfl⟩ := RdR.val hru'
        have HALL := hH hall
        have HX := hH hx
        have HY := hH hy
        have HCH := hH hch
        have hal := ((Chg.refl (fun _ => False) wq).alloc (.cells #[.string x.name, .slice B7 x.args.length c7] 64)).alloc (.cells #[.string y.name, .slice B8 y.args.length c8] 64)
        have HCC := hH (uH HC _ ((hch.alloc (.cells #[.string x.name, .slice B7 x.args.length c7] 64)).alloc (.cells #[.string y.name, .slice B8 y.args.length c8] 64)) x (List.mem_of_getElem? hx) y (List.mem_of_getElem? hy) _ _ (hru.chg hal (fun _ _ _ => id)) (hru'.chg ((Chg.refl (fun _ => False) _).alloc (.cells #[.string y.name, .slice B8 y.args.length c8] 64)) (fun _ _ _ => id)) hsz hsz')
        clear hal
        clear hall hx hy hch hv2 hv2' h1q h2q hru hru' hsz hsz'
        cases hq : s x y
        · have HE := hH (uH HD k x y (uH HX) (uH HY) hq)
          rw [hq] at HCC
          clear hq HALL HX HY
          go_wp2_with (go_at_call 26; refine (uH HCC).mono ?_; rintro e w2 ⟨rfl, hc2⟩; have HC2 := hH hc2; clear hc2)
          go_ret
          exact ⟨retv (boolv (uH HE).symm), (((uH HCH).alloc (.cells #[.string x.name, .slice B7 x.args.length c7] 64)).alloc (.cells #[.string y.name, .slice B8 y.args.length c8] 64)).trans' (uH HC2)⟩
        · rw [hq] at HCC
          have HQ := hH hq
          clear hq
          go_wp2_with (go_at_call 26; refine (uH HCC).mono ?_; rintro e w2 ⟨rfl, hc2⟩; have HC2 := hH hc2; clear hc2)
          go_roundw
          case rel =>
            exact ⟨k + 1, by go_num, by omega, fun j x' y' hj hx' hy' => by
              rcases Nat.lt_or_ge j k with h | h
              · exact (uH HALL) j x' y' h hx' hy'
              · obtain rfl : j = k := by omega
                have e1 := (uH HX).symm.trans hx'
                have e2 := (uH HY).symm.trans hy'
                injection e1 with e1
                injection e2 with e2
                rw [← e1, ← e2]
                exact uH HQ, (((uH HCH).alloc (.cells #[.string x.name, .slice B7 x.args.length c7] 64)).alloc (.cells #[.string y.name, .slice B8 y.args.length c8] 64)).trans' (uH HC2)⟩
          case measure => simp [intOf]; omega
      · obtain rfl : k = l.length := by omega
        have hki : ¬ (l.length : Int) < (l.length : Int) := by omega
        have HF := hH (uH HA (fun j x y hx hy => hall j x y (List.getElem?_eq_some_iff.1 hx).1 hx hy))
        have HCH := hH hch
        clear hall hch
        go_wp2_with fail
        go_ret
        exact ⟨retv (boolv (uH HF).symm), uH HCH⟩
theorem eqfS_any (s : Sg → Sg → Bool) (l m : List (Sg)) (v1 v2 : Value) (T1 T2 : Nat → Prop) (w : World) (h1 : RdS T1 w v1 l) (h2 : RdS T2 w v2 m) (hn : l.length ≤ 1000000) (_hm : m.length ≤ 1000000)
    (HCL : ∀ W, Chg (fun _ => False) w W → ∀ x ∈ l, ∀ y ∈ m, ∀ u u', RdN T1 W u x.type → RdN T2 W u' y.type → x.name.size ≤ 9223372036854775807 → y.name.size ≤ 9223372036854775807 → Calls Tryz.prog 31 #[.agg #[.string x.name, u], .agg #[.string y.name, u']] W fun e w' => e = .returned (.bool (s x y)) ∧ Chg (fun _ => False) W w') :
    Calls Tryz.prog 35 #[v1, v2, .func (.func 31) #[] #[]] w fun e w' => e = .returned (.bool (sameBy s l m)) ∧ Chg (fun _ => False) w w' := by
  obtain ⟨A1, c1, rfl⟩ := RdR.val h1
  obtain ⟨A2, c2, rfl⟩ := RdR.val h2
  have H1 := hH h1
  have H2 := hH h2
  have HC := hH HCL
  clear HCL
  by_cases hl : l.length = m.length
  rotate_left
  · have HE := hH (sameBy_len s hl)
    have hle : ¬ (l.length : Int) = (m.length : Int) := by omega
    generalize sameBy s l m = E at *
    clear h1 h2 H1 H2 HC
    go_enter Tryz.func35, Tryz.ntmps35
    go_wp2_with fail
    go_ret
    exact ⟨retv (boolv (uH HE).symm), Chg.refl _ _⟩
  · have HA := hH (sameBy_all s hl)
    have HD := hH (fun k x y => sameBy_diff s (l := l) (m := m) (k := k) (x := x) (y := y))
    generalize sameBy s l m = E at *
    have hle : (l.length : Int) = (m.length : Int) := by omega
    clear h1 h2
    go_enter Tryz.func35, Tryz.ntmps35
    go_wp2_with fail
    go_loopw [17] (fun i wr => ∃ k : Nat, i = .int .i64 (k : Int) ∧ k ≤ l.length ∧ (∀ j x y, j < k → l[j]? = some x → m[j]? = some y → s x y = true) ∧ Chg (fun _ => False) w wr) (fun i _ => l.length - (intOf i).toNat)
    case atStart => exact ⟨0, rfl, Nat.zero_le _, fun j x y h => absurd h (Nat.not_lt_zero _), Chg.refl _ _⟩
    case round =>
      obtain ⟨wq, rfl⟩ : ∃ wq : World, wq = wr := ⟨_, rfl⟩
      obtain ⟨k, rfl, hk, hall, hch⟩ := hrel
      by_cases hlt : k < l.length
      · have hki : (k : Int) < (l.length : Int) := by omega
        have hkm : (k : Int) < (m.length : Int) := by omega
        have hx : l[k]? = some l[k] := List.getElem?_eq_getElem hlt
        have hlm : k < m.length := by omega
        have hy : m[k]? = some m[k] := List.getElem?_eq_getElem hlm
        generalize l[k] = x at *
        generalize m[k] = y at *
        have h1q := RdS.chg (uH H1) hch (fun _ _ _ => id)
        have h2q := RdS.chg (uH H2) hch (fun _ _ _ => id)
        obtain ⟨b, o, c3, u, hv, _, hru, hsz, d0, d1⟩ := RdS.at_ h1q hx
        injection hv with hv1 hv2 hv3
        subst hv1 hv3
        obtain ⟨B7, c7, rfl⟩ := RdR.val hru
        have h2q := RdS.chg h2q ((Chg.refl (fun _ => False) wq).alloc (.cells #[.string x.name, .slice B7 x.type.length c7] 56)) (fun _ _ _ => id)
        obtain ⟨b', o', c3', u', hv', _, hru', hsz', e0, e1⟩ := RdS.at_ h2q hy
        injection hv' with hv1' hv2' hv3'
        subst hv1' hv3'
        obtain ⟨B8, c8, rfl⟩ := RdR.val hru'
        have HALL := hH hall
        have HX := hH hx
        have HY := hH hy
        have HCH := hH hch
        have hal := ((Chg.refl (fun _ => False) wq).alloc (.cells #[.string x.name, .slice B7 x.type.length c7] 56)).alloc (.cells #[.string y.name, .slice B8 y.type.length c8] 56)
        have HCC := hH (uH HC _ ((hch.alloc (.cells #[.string x.name, .slice B7 x.type.length c7] 56)).alloc (.cells #[.string y.name, .slice B8 y.type.length c8] 56)) x (List.mem_of_getElem? hx) y (List.mem_of_getElem? hy) _ _ (hru.chg hal (fun _ _ _ => id)) (hru'.chg ((Chg.refl (fun _ => False) _).alloc (.cells #[.string y.name, .slice B8 y.type.length c8] 56)) (fun _ _ _ => id)) hsz hsz')
        clear hal
        clear hall hx hy hch hv2 hv2' h1q h2q hru hru' hsz hsz'
        cases hq : s x y
        · have HE := hH (uH HD k x y (uH HX) (uH HY) hq)
          rw [hq] at HCC
          clear hq HALL HX HY
          go_wp2_with (go_at_call 31; refine (uH HCC).mono ?_; rintro e w2 ⟨rfl, hc2⟩; have HC2 := hH hc2; clear hc2)
          go_ret
          exact ⟨retv (boolv (uH HE).symm), (((uH HCH).alloc (.cells #[.string x.name, .slice B7 x.type.length c7] 56)).alloc (.cells #[.string y.name, .slice B8 y.type.length c8] 56)).trans' (uH HC2)⟩
        · rw [hq] at HCC
          have HQ := hH hq
          clear hq
          go_wp2_with (go_at_call 31; refine (uH HCC).mono ?_; rintro e w2 ⟨rfl, hc2⟩; have HC2 := hH hc2; clear hc2)
          go_roundw
          case rel =>
            exact ⟨k + 1, by go_num, by omega, fun j x' y' hj hx' hy' => by
              rcases Nat.lt_or_ge j k with h | h
              · exact (uH HALL) j x' y' h hx' hy'
              · obtain rfl : j = k := by omega
                have e1 := (uH HX).symm.trans hx'
                have e2 := (uH HY).symm.trans hy'
                injection e1 with e1
                injection e2 with e2
                rw [← e1, ← e2]
                exact uH HQ, (((uH HCH).alloc (.cells #[.string x.name, .slice B7 x.type.length c7] 56)).alloc (.cells #[.string y.name, .slice B8 y.type.length c8] 56)).trans' (uH HC2)⟩
          case measure => simp [intOf]; omega
      · obtain rfl : k = l.length := by omega
        have hki : ¬ (l.length : Int) < (l.length : Int) := by omega
        have HF := hH (uH HA (fun j x y hx hy => hall j x y (List.getElem?_eq_some_iff.1 hx).1 hx hy))
        have HCH := hH hch
        clear hall hch
        go_wp2_with fail
        go_ret
        exact ⟨retv (boolv (uH HF).symm), uH HCH⟩
theorem eqfD_any (s : Dt → Dt → Bool) (l m : List (Dt)) (v1 v2 : Value) (T1 T2 : Nat → Prop) (g : Nat) (w : World) (h1 : RdD T1 w v1 l) (h2 : RdD T2 w v2 m) (hn : l.length ≤ 1000000) (_hm : m.length ≤ 1000000)
    (HCL : ∀ W, Chg (fun _ => False) w W → ∀ x ∈ l, ∀ y ∈ m, ∀ u u', RdC T1 W u x.cons → RdC T2 W u' y.cons → x.name.size ≤ 9223372036854775807 → y.name.size ≤ 9223372036854775807 → Calls Tryz.prog 29 #[.agg #[.string x.name, .int .i64 x.params, u], .agg #[.string y.name, .int .i64 y.params, u'], .pointer (some ⟨g, 0, none⟩)] W fun e w' => e = .returned (.bool (s x y)) ∧ Chg (fun _ => False) W w') :
    Calls Tryz.prog 33 #[v1, v2, .func (.func 29) #[] #[.pointer (some ⟨g, 0, none⟩)]] w fun e w' => e = .returned (.bool (sameBy s l m)) ∧ Chg (fun _ => False) w w' := by
  obtain ⟨A1, c1, rfl⟩ := RdR.val h1
  obtain ⟨A2, c2, rfl⟩ := RdR.val h2
  have H1 := hH h1
  have H2 := hH h2
  have HC := hH HCL
  clear HCL
  by_cases hl : l.length = m.length
  rotate_left
  · have HE := hH (sameBy_len s hl)
    have hle : ¬ (l.length : Int) = (m.length : Int) := by omega
    generalize sameBy s l m = E at *
    clear h1 h2 H1 H2 HC
    go_enter Tryz.func33, Tryz.ntmps33
    go_wp2_with fail
    go_ret
    exact ⟨retv (boolv (uH HE).symm), Chg.refl _ _⟩
  · have HA := hH (sameBy_all s hl)
    have HD := hH (fun k x y => sameBy_diff s (l := l) (m := m) (k := k) (x := x) (y := y))
    generalize sameBy s l m = E at *
    have hle : (l.length : Int) = (m.length : Int) := by omega
    clear h1 h2
    go_enter Tryz.func33, Tryz.ntmps33
    go_wp2_with fail
    go_loopw [17] (fun i wr => ∃ k : Nat, i = .int .i64 (k : Int) ∧ k ≤ l.length ∧ (∀ j x y, j < k → l[j]? = some x → m[j]? = some y → s x y = true) ∧ Chg (fun _ => False) w wr) (fun i _ => l.length - (intOf i).toNat)
    case atStart => exact ⟨0, rfl, Nat.zero_le _, fun j x y h => absurd h (Nat.not_lt_zero _), Chg.refl _ _⟩
    case round =>
      obtain ⟨wq, rfl⟩ : ∃ wq : World, wq = wr := ⟨_, rfl⟩
      obtain ⟨k, rfl, hk, hall, hch⟩ := hrel
      by_cases hlt : k < l.length
      · have hki : (k : Int) < (l.length : Int) := by omega
        have hkm : (k : Int) < (m.length : Int) := by omega
        have hx : l[k]? = some l[k] := List.getElem?_eq_getElem hlt
        have hlm : k < m.length := by omega
        have hy : m[k]? = some m[k] := List.getElem?_eq_getElem hlm
        generalize l[k] = x at *
        generalize m[k] = y at *
        have h1q := RdD.chg (uH H1) hch (fun _ _ _ => id)
        have h2q := RdD.chg (uH H2) hch (fun _ _ _ => id)
        obtain ⟨b, o, c3, u, hv, _, hru, hsz, d0, d1, d2⟩ := RdD.at_ h1q hx
        injection hv with hv1 hv2 hv3
        subst hv1 hv3
        obtain ⟨B7, c7, rfl⟩ := RdR.val hru
        have h2q := RdD.chg h2q ((Chg.refl (fun _ => False) wq).alloc (.cells #[.string x.name, .int .i64 x.params, .slice B7 x.cons.length c7] 70)) (fun _ _ _ => id)
        obtain ⟨b', o', c3', u', hv', _, hru', hsz', e0, e1, e2⟩ := RdD.at_ h2q hy
        injection hv' with hv1' hv2' hv3'
        subst hv1' hv3'
        obtain ⟨B8, c8, rfl⟩ := RdR.val hru'
        have HALL := hH hall
        have HX := hH hx
        have HY := hH hy
        have HCH := hH hch
        have hal := ((Chg.refl (fun _ => False) wq).alloc (.cells #[.string x.name, .int .i64 x.params, .slice B7 x.cons.length c7] 70)).alloc (.cells #[.string y.name, .int .i64 y.params, .slice B8 y.cons.length c8] 70)
        have HCC := hH (uH HC _ ((hch.alloc (.cells #[.string x.name, .int .i64 x.params, .slice B7 x.cons.length c7] 70)).alloc (.cells #[.string y.name, .int .i64 y.params, .slice B8 y.cons.length c8] 70)) x (List.mem_of_getElem? hx) y (List.mem_of_getElem? hy) _ _ (hru.chg hal (fun _ _ _ => id)) (hru'.chg ((Chg.refl (fun _ => False) _).alloc (.cells #[.string y.name, .int .i64 y.params, .slice B8 y.cons.length c8] 70)) (fun _ _ _ => id)) hsz hsz')
        clear hal
        clear hall hx hy hch hv2 hv2' h1q h2q hru hru' hsz hsz'
        cases hq : s x y
        · have HE := hH (uH HD k x y (uH HX) (uH HY) hq)
          rw [hq] at HCC
          clear hq HALL HX HY
          go_wp2_with (go_at_call 29; refine (uH HCC).mono ?_; rintro e w2 ⟨rfl, hc2⟩; have HC2 := hH hc2; clear hc2)
          go_ret
          exact ⟨retv (boolv (uH HE).symm), (((uH HCH).alloc (.cells #[.string x.name, .int .i64 x.params, .slice B7 x.cons.length c7] 70)).alloc (.cells #[.string y.name, .int .i64 y.params, .slice B8 y.cons.length c8] 70)).trans' (uH HC2)⟩
        · rw [hq] at HCC
          have HQ := hH hq
          clear hq
          go_wp2_with (go_at_call 29; refine (uH HCC).mono ?_; rintro e w2 ⟨rfl, hc2⟩; have HC2 := hH hc2; clear hc2)
          go_roundw
          case rel =>
            exact ⟨k + 1, by go_num, by omega, fun j x' y' hj hx' hy' => by
              rcases Nat.lt_or_ge j k with h | h
              · exact (uH HALL) j x' y' h hx' hy'
              · obtain rfl : j = k := by omega
                have e1 := (uH HX).symm.trans hx'
                have e2 := (uH HY).symm.trans hy'
                injection e1 with e1
                injection e2 with e2
                rw [← e1, ← e2]
                exact uH HQ, (((uH HCH).alloc (.cells #[.string x.name, .int .i64 x.params, .slice B7 x.cons.length c7] 70)).alloc (.cells #[.string y.name, .int .i64 y.params, .slice B8 y.cons.length c8] 70)).trans' (uH HC2)⟩
          case measure => simp [intOf]; omega
      · obtain rfl : k = l.length := by omega
        have hki : ¬ (l.length : Int) < (l.length : Int) := by omega
        have HF := hH (uH HA (fun j x y hx hy => hall j x y (List.getElem?_eq_some_iff.1 hx).1 hx hy))
        have HCH := hH hch
        clear hall hch
        go_wp2_with fail
        go_ret
        exact ⟨retv (boolv (uH HF).symm), uH HCH⟩
end Go.Proofs.YtinekmjengckdaaGreatDoor

namespace Go.Proofs.YtinekmjengckdaaGreatDoor
open Go.RowKit
set_option maxHeartbeats 4000000
set_option maxRecDepth 100000
def ctS (x y : Ct) : Bool := x.name.toList == y.name.toList && sameBy (sameBy Nd.same) x.args y.args
def dtS (x y : Dt) : Bool := x.name.toList == y.name.toList && x.params == y.params && sameBy ctS x.cons y.cons
def sgS (x y : Sg) : Bool := x.name.toList == y.name.toList && sameBy Nd.same x.type y.type
def ifS (i j : Ifc) : Bool := i.name.toList == j.name.toList && sameBy Opn.same i.opens j.opens && sameBy dtS i.datas j.datas && sameBy Fx.same i.fixes j.fixes && sameBy sgS i.sigs j.sigs
theorem sameBy_nds {l m : List Nd} : sameBy Nd.same l m = true ↔ l = m := sameBy_iff _ (fun _ _ => Nd.same_iff)
theorem ctS_iff (x y : Ct) : ctS x y = true ↔ x = y := by
  obtain ⟨a, b⟩ := x
  obtain ⟨a', b'⟩ := y
  unfold ctS
  simp only [Bool.and_eq_true, beq_iff_eq, text_iff, sameBy_iff _ (fun _ _ => sameBy_nds), Ct.mk.injEq]
theorem dtS_iff (x y : Dt) : dtS x y = true ↔ x = y := by
  obtain ⟨a, b, c⟩ := x
  obtain ⟨a', b', c'⟩ := y
  unfold dtS
  simp only [Bool.and_eq_true, beq_iff_eq, text_iff, sameBy_iff _ ctS_iff, Dt.mk.injEq, and_assoc]
theorem sgS_iff (x y : Sg) : sgS x y = true ↔ x = y := by
  obtain ⟨a, b⟩ := x
  obtain ⟨a', b'⟩ := y
  unfold sgS
  simp only [Bool.and_eq_true, beq_iff_eq, text_iff, sameBy_nds, Sg.mk.injEq]
theorem ifS_iff (x y : Ifc) : ifS x y = true ↔ x = y := by
  obtain ⟨a, b, c, d, e⟩ := x
  obtain ⟨a', b', c', d', e'⟩ := y
  unfold ifS
  simp only [Bool.and_eq_true, beq_iff_eq, text_iff, sameBy_iff _ Opn.same_iff, sameBy_iff _ Fx.same_iff, sameBy_iff _ dtS_iff, sameBy_iff _ sgS_iff, Ifc.mk.injEq, and_assoc]
def CtL (c : Ct) : Prop := c.args.length ≤ 1000000 ∧ ∀ t ∈ c.args, t.length ≤ 1000000
def DtL (d : Dt) : Prop := d.cons.length ≤ 1000000 ∧ ∀ c ∈ d.cons, CtL c
structure IfL (i : Ifc) : Prop where
  opens : i.opens.length ≤ 1000000
  datas : i.datas.length ≤ 1000000
  fixes : i.fixes.length ≤ 1000000
  sigs : i.sigs.length ≤ 1000000
  data_ : ∀ d ∈ i.datas, DtL d
  sig_ : ∀ s ∈ i.sigs, s.type.length ≤ 1000000
theorem ctS_any (x y : Ct) (u u' : Value) (T1 T2 : Nat → Prop) (w : World) (hru : RdNs T1 w u x.args) (hru' : RdNs T2 w u' y.args) (h1 : CtL x) (h2 : CtL y) :
    Calls Tryz.prog 26 #[.agg #[.string x.name, u], .agg #[.string y.name, u']] w fun e w' => e = .returned (.bool (ctS x y)) ∧ Chg (fun _ => False) w w' := by
  obtain ⟨B7, c7, rfl⟩ := RdR.val hru
  obtain ⟨B8, c8, rfl⟩ := RdR.val hru'
  have hc : Chg (fun _ => False) w ((w.alloc (.cells #[.string x.name, .slice B7 x.args.length c7] 64)).alloc (.cells #[.string y.name, .slice B8 y.args.length c8] 64)) := ((Chg.refl _ w).alloc _).alloc _
  have hb1 : Blk ((w.alloc (.cells #[.string x.name, .slice B7 x.args.length c7] 64)).alloc (.cells #[.string y.name, .slice B8 y.args.length c8] 64)) w.heap.size 64 #[.string x.name, .slice B7 x.args.length c7] := (Blk.new w _ _).alloc _
  have hb2 : Blk ((w.alloc (.cells #[.string x.name, .slice B7 x.args.length c7] 64)).alloc (.cells #[.string y.name, .slice B8 y.args.length c8] 64)) (w.alloc (.cells #[.string x.name, .slice B7 x.args.length c7] 64)).heap.size 64 #[.string y.name, .slice B8 y.args.length c8] := Blk.new _ _ _
  rw [size_alloc] at hb2
  have q0 := hb1.cell 0
  have r0 := hb2.cell 0
  have q1 := hb1.cell 1
  have r1 := hb2.cell 1
  simp only [List.getElem?_toArray, List.getElem?_cons_zero, List.getElem?_cons_succ] at q0 r0 q1 r1
  have HCC := hH (eqfN_any (sameBy Nd.same) x.args y.args _ _ T1 T2 ((w.alloc (.cells #[.string x.name, .slice B7 x.args.length c7] 64)).alloc (.cells #[.string y.name, .slice B8 y.args.length c8] 64)) (hru.chg hc (fun _ _ _ => id)) (hru'.chg hc (fun _ _ _ => id)) h1.1 h2.1 (fun W hW a ha b hb u u' hu hu' => equalN_any a b u u' T1 T2 W hu hu' (h1.2 a ha) (h2.2 b hb)))
  have HC := hH hc
  have hE : ctS x y = (x.name.toList == y.name.toList && sameBy (sameBy Nd.same) x.args y.args) := rfl
  rw [hE]
  clear hE hb1 hb2 hru hru' hc h1 h2
  generalize sameBy (sameBy Nd.same) x.args y.args = E at *
  cases hn : x.name.toList == y.name.toList
  · go_enter Tryz.func26, Tryz.ntmps26
    go_wp2_with fail
    go_ret
    exact ⟨retv (boolv (by simp [*])), uH HC⟩
  · go_enter Tryz.func26, Tryz.ntmps26
    go_wp2_with (go_at_call 27; refine (uH HCC).mono ?_; rintro e w2 ⟨rfl, hc2⟩; have HC2 := hH hc2; clear hc2)
    go_ret
    exact ⟨retv (boolv (by simp [*])), (uH HC).trans' (uH HC2)⟩
theorem sgS_any (x y : Sg) (u u' : Value) (T1 T2 : Nat → Prop) (w : World) (hru : RdN T1 w u x.type) (hru' : RdN T2 w u' y.type) (h1 : x.type.length ≤ 1000000) (h2 : y.type.length ≤ 1000000) :
    Calls Tryz.prog 31 #[.agg #[.string x.name, u], .agg #[.string y.name, u']] w fun e w' => e = .returned (.bool (sgS x y)) ∧ Chg (fun _ => False) w w' := by
  obtain ⟨B7, c7, rfl⟩ := RdR.val hru
  obtain ⟨B8, c8, rfl⟩ := RdR.val hru'
  have hc : Chg (fun _ => False) w ((w.alloc (.cells #[.string x.name, .slice B7 x.type.length c7] 56)).alloc (.cells #[.string y.name, .slice B8 y.type.length c8] 56)) := ((Chg.refl _ w).alloc _).alloc _
  have hb1 : Blk ((w.alloc (.cells #[.string x.name, .slice B7 x.type.length c7] 56)).alloc (.cells #[.string y.name, .slice B8 y.type.length c8] 56)) w.heap.size 56 #[.string x.name, .slice B7 x.type.length c7] := (Blk.new w _ _).alloc _
  have hb2 : Blk ((w.alloc (.cells #[.string x.name, .slice B7 x.type.length c7] 56)).alloc (.cells #[.string y.name, .slice B8 y.type.length c8] 56)) (w.alloc (.cells #[.string x.name, .slice B7 x.type.length c7] 56)).heap.size 56 #[.string y.name, .slice B8 y.type.length c8] := Blk.new _ _ _
  rw [size_alloc] at hb2
  have q0 := hb1.cell 0
  have r0 := hb2.cell 0
  have q1 := hb1.cell 1
  have r1 := hb2.cell 1
  simp only [List.getElem?_toArray, List.getElem?_cons_zero, List.getElem?_cons_succ] at q0 r0 q1 r1
  have HCC := hH (equalN_any x.type y.type _ _ T1 T2 ((w.alloc (.cells #[.string x.name, .slice B7 x.type.length c7] 56)).alloc (.cells #[.string y.name, .slice B8 y.type.length c8] 56)) (hru.chg hc (fun _ _ _ => id)) (hru'.chg hc (fun _ _ _ => id)) h1 h2)
  have HC := hH hc
  have hE : sgS x y = (x.name.toList == y.name.toList && sameBy Nd.same x.type y.type) := rfl
  rw [hE]
  clear hE hb1 hb2 hru hru' hc h1 h2
  generalize sameBy Nd.same x.type y.type = E at *
  cases hn : x.name.toList == y.name.toList
  · go_enter Tryz.func31, Tryz.ntmps31
    go_wp2_with fail
    go_ret
    exact ⟨retv (boolv (by simp [*])), uH HC⟩
  · go_enter Tryz.func31, Tryz.ntmps31
    go_wp2_with (go_at_call 28; refine (uH HCC).mono ?_; rintro e w2 ⟨rfl, hc2⟩; have HC2 := hH hc2; clear hc2)
    go_ret
    exact ⟨retv (boolv (by simp [*])), (uH HC).trans' (uH HC2)⟩
theorem dtS_any (x y : Dt) (u u' : Value) (T1 T2 : Nat → Prop) (g : Nat) (w : World) (hru : RdC T1 w u x.cons) (hru' : RdC T2 w u' y.cons) (h1 : DtL x) (h2 : DtL y) (hg : w.cell? ⟨g, 0, none⟩ = some (.func (.func 26) #[] #[])) :
    Calls Tryz.prog 29 #[.agg #[.string x.name, .int .i64 x.params, u], .agg #[.string y.name, .int .i64 y.params, u'], .pointer (some ⟨g, 0, none⟩)] w fun e w' => e = .returned (.bool (dtS x y)) ∧ Chg (fun _ => False) w w' := by
  obtain ⟨B7, c7, rfl⟩ := RdR.val hru
  obtain ⟨B8, c8, rfl⟩ := RdR.val hru'
  have hc : Chg (fun _ => False) w ((w.alloc (.cells #[.string x.name, .int .i64 x.params, .slice B7 x.cons.length c7] 70)).alloc (.cells #[.string y.name, .int .i64 y.params, .slice B8 y.cons.length c8] 70)) := ((Chg.refl _ w).alloc _).alloc _
  have hb1 : Blk ((w.alloc (.cells #[.string x.name, .int .i64 x.params, .slice B7 x.cons.length c7] 70)).alloc (.cells #[.string y.name, .int .i64 y.params, .slice B8 y.cons.length c8] 70)) w.heap.size 70 #[.string x.name, .int .i64 x.params, .slice B7 x.cons.length c7] := (Blk.new w _ _).alloc _
  have hb2 : Blk ((w.alloc (.cells #[.string x.name, .int .i64 x.params, .slice B7 x.cons.length c7] 70)).alloc (.cells #[.string y.name, .int .i64 y.params, .slice B8 y.cons.length c8] 70)) (w.alloc (.cells #[.string x.name, .int .i64 x.params, .slice B7 x.cons.length c7] 70)).heap.size 70 #[.string y.name, .int .i64 y.params, .slice B8 y.cons.length c8] := Blk.new _ _ _
  rw [size_alloc] at hb2
  have q0 := hb1.cell 0
  have r0 := hb2.cell 0
  have q1 := hb1.cell 1
  have r1 := hb2.cell 1
  have q2 := hb1.cell 2
  have r2 := hb2.cell 2
  simp only [List.getElem?_toArray, List.getElem?_cons_zero, List.getElem?_cons_succ] at q0 r0 q1 r1 q2 r2
  have g0 := (hc.cell (World.block_lt_of_cell? w _ hg) id).trans hg
  have HCC := hH (eqfC_any ctS x.cons y.cons _ _ T1 T2 ((w.alloc (.cells #[.string x.name, .int .i64 x.params, .slice B7 x.cons.length c7] 70)).alloc (.cells #[.string y.name, .int .i64 y.params, .slice B8 y.cons.length c8] 70)) (hru.chg hc (fun _ _ _ => id)) (hru'.chg hc (fun _ _ _ => id)) h1.1 h2.1 (fun W hW a ha b hb u u' hu hu' _ _ => ctS_any a b u u' T1 T2 W hu hu' (h1.2 a ha) (h2.2 b hb)))
  have HC := hH hc
  have hE : dtS x y = (x.name.toList == y.name.toList && x.params == y.params && sameBy ctS x.cons y.cons) := rfl
  rw [hE]
  clear hE hb1 hb2 hru hru' hc h1 h2 hg
  generalize sameBy ctS x.cons y.cons = E at *
  cases hn : x.name.toList == y.name.toList
  · go_enter Tryz.func29, Tryz.ntmps29
    go_wp2_with fail
    go_ret
    exact ⟨retv (boolv (by simp [*])), uH HC⟩
  · cases hp : x.params == y.params
    · go_enter Tryz.func29, Tryz.ntmps29
      go_wp2_with fail
      go_ret
      exact ⟨retv (boolv (by simp [*])), uH HC⟩
    · go_enter Tryz.func29, Tryz.ntmps29
      go_wp2_with (go_at_call 30; refine (uH HCC).mono ?_; rintro e w2 ⟨rfl, hc2⟩; have HC2 := hH hc2; clear hc2)
      go_ret
      exact ⟨retv (boolv (by simp [*])), (uH HC).trans' (uH HC2)⟩
end Go.Proofs.YtinekmjengckdaaGreatDoor
