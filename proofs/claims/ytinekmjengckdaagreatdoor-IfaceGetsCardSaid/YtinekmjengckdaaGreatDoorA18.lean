/-
  Layer 23: whether types are the same; whether a name may be an interface's.
-/
import Derived.Test.YtinekmjengckdaaGreatDoorA17
namespace Go.Proofs.YtinekmjengckdaaGreatDoor
open Go.RowKit
set_option maxHeartbeats 4000000
set_option maxRecDepth 100000
def sameBy {α : Type} (s : α → α → Bool) : List α → List α → Bool
  | [], [] => true
  | a :: l, b :: m => s a b && sameBy s l m
  | _, _ => false
section
variable {α : Type} (s : α → α → Bool)
theorem sameBy_len : ∀ {l m : List α}, l.length ≠ m.length → sameBy s l m = false
  | [], [], h => absurd rfl h
  | [], _ :: _, _ => rfl
  | _ :: _, [], _ => rfl
  | a :: l, b :: m, h => by
    rw [sameBy, sameBy_len (fun e => h (by rw [List.length_cons, List.length_cons, e])), Bool.and_false]
theorem sameBy_diff : ∀ {l m : List α} {k : Nat} {x y : α}, l[k]? = some x → m[k]? = some y → s x y = false → sameBy s l m = false
  | [], _, _, _, _, h, _, _ => by simp at h
  | _ :: _, [], _, _, _, _, h, _ => by simp at h
  | a :: l, b :: m, 0, x, y, hx, hy, h => by
    rw [List.getElem?_cons_zero] at hx hy
    injection hx with hx
    injection hy with hy
    subst hx hy
    rw [sameBy, h, Bool.false_and]
  | a :: l, b :: m, k + 1, x, y, hx, hy, h => by
    rw [List.getElem?_cons_succ] at hx hy
    rw [sameBy, sameBy_diff hx hy h, Bool.and_false]
theorem sameBy_all : ∀ {l m : List α}, l.length = m.length → (∀ (j : Nat) (x y : α), l[j]? = some x → m[j]? = some y → s x y = true) → sameBy s l m = true
  | [], [], _, _ => rfl
  | [], _ :: _, h, _ => by simp at h
  | _ :: _, [], h, _ => by simp at h
  | a :: l, b :: m, h, ha => by
    rw [sameBy, ha 0 a b rfl rfl, Bool.true_and]
    exact sameBy_all (by simpa using h) (fun j x y hx hy => ha (j + 1) x y (by rw [List.getElem?_cons_succ]; exact hx) (by rw [List.getElem?_cons_succ]; exact hy))
theorem sameBy_iff (hs : ∀ a b, s a b = true ↔ a = b) : ∀ {l m : List α}, sameBy s l m = true ↔ l = m
  | [], [] => by simp [sameBy]
  | [], b :: m => by simp [sameBy]
  | a :: l, [] => by simp [sameBy]
  | a :: l, b :: m => by rw [sameBy, Bool.and_eq_true, hs, sameBy_iff hs, List.cons.injEq]
end
theorem sameBy_nd (l m : List Nd) : sameBy Nd.same l m = sameN l m := by
  rw [Bool.eq_iff_iff, sameBy_iff Nd.same (fun _ _ => Nd.same_iff), sameN_iff]
theorem equalN_any (l m : List Nd) (v1 v2 : Value) (T1 T2 : Nat → Prop) (w : World) (h1 : RdN T1 w v1 l) (h2 : RdN T2 w v2 m) (hn : l.length ≤ 1000000) (_hm : m.length ≤ 1000000) :
    Calls Tryz.prog 28 #[v1, v2] w fun e w' => e = .returned (.bool (sameBy Nd.same l m)) ∧ Chg (fun _ => False) w w' := by
  obtain ⟨A1, c1, rfl⟩ := RdR.val h1
  obtain ⟨A2, c2, rfl⟩ := RdR.val h2
  have H1 := hH h1
  have H2 := hH h2
  by_cases hl : l.length = m.length
  rotate_left
  · have HE := hH (sameBy_len Nd.same hl)
    have hle : ¬ (l.length : Int) = (m.length : Int) := by omega
    generalize sameBy Nd.same l m = E at *
    clear h1 h2 H1 H2
    go_enter Tryz.func28, Tryz.ntmps28
    go_wp2_with fail
    go_ret
    exact ⟨retv (boolv (uH HE).symm), Chg.refl _ _⟩
  · have HA := hH (sameBy_all Nd.same hl)
    have HD := hH (fun k x y => sameBy_diff Nd.same (l := l) (m := m) (k := k) (x := x) (y := y))
    generalize sameBy Nd.same l m = E at *
    have hle : (l.length : Int) = (m.length : Int) := by omega
    clear h1 h2
    go_enter Tryz.func28, Tryz.ntmps28
    go_wp2_with fail
    go_loopw [13] (fun i wr => ∃ k : Nat, i = .int .i64 (k : Int) ∧ k ≤ l.length ∧ (∀ j x y, j < k → l[j]? = some x → m[j]? = some y → Nd.same x y = true) ∧ Chg (fun _ => False) w wr) (fun i _ => l.length - (intOf i).toNat)
    case atStart => exact ⟨0, rfl, Nat.zero_le _, fun j x y h => absurd h (Nat.not_lt_zero _), Chg.refl _ _⟩
    case round =>
      obtain ⟨wq, rfl⟩ : ∃ wq : World, wq = wr := ⟨_, rfl⟩
      obtain ⟨k, rfl, hk, hall, hch⟩ := hrel
      by_cases hlt : k < l.length
      · have hki : (k : Int) < (l.length : Int) := by omega
        have hkm : (k : Int) < (m.length : Int) := by omega
        have hx : l[k]? = some l[k] := List.getElem?_eq_getElem hlt
        have hlm : k < m.length := by omega
        have hy : m[k]? = some m[k] := List.getElem?_eq_getElem hlm
        generalize l[k] = x at *
        generalize m[k] = y at *
        obtain ⟨b, o, c3, hv, _, _, d0, d1, d2, d3⟩ := RdN.at_ (RdN.chg (uH H1) hch (fun _ _ _ => id)) hx
        obtain ⟨b', o', c3', hv', _, _, e0, e1, e2, e3⟩ := RdN.at_ (RdN.chg (uH H2) hch (fun _ _ _ => id)) hy
        injection hv with hv1 hv2 hv3
        injection hv' with hv1' hv2' hv3'
        subst hv1 hv3 hv1' hv3'
        have HALL := hH hall
        have HX := hH hx
        have HY := hH hy
        have HCH := hH hch
        clear hall hx hy hch hv2 hv2'
        have qn := fun w : World => run_neq_nd x y w
        cases hq : Nd.same x y
        · have HE := hH (uH HD k x y (uH HX) (uH HY) hq)
          rw [hq] at qn
          clear hq HALL HX HY
          go_wp2_with fail
          go_quiet (fail)
          go_wp2_with fail
          go_ret
          exact ⟨retv (boolv (uH HE).symm), (uH HCH).drewN _⟩
        · rw [hq] at qn
          have HQ := hH hq
          clear hq
          go_wp2_with fail
          go_quiet (fail)
          go_wp2_with fail
          go_roundw
          case rel =>
            exact ⟨k + 1, by go_num, by omega, fun j x' y' hj hx' hy' => by
              rcases Nat.lt_or_ge j k with h | h
              · exact (uH HALL) j x' y' h hx' hy'
              · obtain rfl : j = k := by omega
                have e1 := (uH HX).symm.trans hx'
                have e2 := (uH HY).symm.trans hy'
                injection e1 with e1
                injection e2 with e2
                rw [← e1, ← e2]
                exact uH HQ, (uH HCH).drewN _⟩
          case measure => simp [intOf]; omega
      · obtain rfl : k = l.length := by omega
        have hki : ¬ (l.length : Int) < (l.length : Int) := by omega
        have HF := hH (uH HA (fun j x y hx hy => hall j x y (List.getElem?_eq_some_iff.1 hx).1 hx hy))
        have HCH := hH hch
        clear hall hch
        go_wp2_with fail
        go_ret
        exact ⟨retv (boolv (uH HF).symm), uH HCH⟩
theorem sigOdd_any (x : Sg) (u : Value) (T : Nat → Prop) (w : World) (hru : RdN T w u x.type) (hs : x.name.size ≤ 9223372036854775807) (ht : typB x.type = true) (lay : Lay w) :
    Calls Tryz.prog 46 #[.agg #[.string x.name, u]] w fun e w' => e = .returned (.bool (!sigB x)) ∧ Chg (fun _ => False) w w' := by
  obtain ⟨B7, c7, rfl⟩ := hru.val
  have h0 := (Chg.refl (fun _ => False) w).alloc (.cells #[.string x.name, .slice B7 x.type.length c7] 56)
  have hbx := Blk.new w 56 #[.string x.name, .slice B7 x.type.length c7]
  have KSW := hH (fun W' (hW : Chg (fun _ => False) (w.alloc (.cells #[.string x.name, .slice B7 x.type.length c7] 56)) W') => show W'.cell? ⟨w.heap.size, 0, none⟩ = some (.string x.name) ∧ W'.cell? ⟨w.heap.size, 1, none⟩ = some (.slice B7 x.type.length c7) from ⟨(hbx.chg hW id).cell 0, (hbx.chg hW id).cell 1⟩)
  have HD := hH ((Chg.refl (fun _ => False) (w.alloc (.cells #[.string x.name, .slice B7 x.type.length c7] 56))).drew)
  have HK := hH (uH KSW _ (uH HD))
  have hl4 := (typ_ok ht).1
  have HNA := hH (fun W (hW : Chg (fun _ => False) (w.alloc (.cells #[.string x.name, .slice B7 x.type.length c7] 56)) W) => name_any x.name W hs (lay.chg (h0.trans' hW) (fun _ _ => id)))
  have HCA := hH (fun W (hW : Chg (fun _ => False) (w.alloc (.cells #[.string x.name, .slice B7 x.type.length c7] 56)) W) => canon_any x.type _ T W (hru.chg (h0.trans' hW) (fun _ _ _ => id)) (lay.chg (h0.trans' hW) (fun _ _ => id)))
  have hcr : canR x.type = canonL x.type := by unfold canR; rw [if_pos ht]
  rw [hcr] at HCA
  have hcl : (canonL x.type).length ≤ 1000000 := by unfold canonL; rw [List.length_map]; omega
  have HEQ := hH (fun W v3 T3 (hW : Chg (fun _ => False) (w.alloc (.cells #[.string x.name, .slice B7 x.type.length c7] 56)) W) (h3 : RdN T3 W v3 (canonL x.type)) => equalN_any (canonL x.type) x.type v3 _ T3 T W h3 (hru.chg (h0.trans' hW) (fun _ _ _ => id)) hcl (by omega))
  rw [sameBy_nd] at HEQ
  have hE : sigB x = ((nameB 1 x.name || opB x.name) && sameN (canonL x.type) x.type) := rfl
  rw [hE]
  have H0 := hH h0
  generalize (nameB 1 x.name || opB x.name) = na at *
  generalize sameN (canonL x.type) x.type = sn at *
  generalize canonL x.type = cl at *
  clear hru h0 hbx lay hE hcr ht
  cases na
  · go_enter Tryz.func46, Tryz.ntmps46
    go_wp2_with fail
    refine wp_region_ab (fun W' => W'.cell? ⟨w.heap.size, 0, none⟩ = some (.string x.name) ∧ W'.cell? ⟨w.heap.size, 1, none⟩ = some (.slice B7 x.type.length c7)) 13 14 (by kernel_rfl) (by kernel_rfl) ?_
    refine AB.tk (i := 0) (v := ?_) rfl (by kernel_rfl) (by kernel_rfl) (fun _ _ _ h => h) ?_ (uH HK) ?_
    rotate_left
    · intro W' hS'; (try dsimp only at hS'); go_simp; try with_reducible rfl
    try simp only [Act.put, List.setIfInBounds_toArray]
    refine AB.tk (i := 1) (v := ?_) rfl (by kernel_rfl) (by kernel_rfl) (fun _ _ _ h => h) ?_ (uH HK) ?_
    rotate_left
    · intro W' hS'; (try dsimp only at hS'); go_simp; try with_reducible rfl
    try simp only [Act.put]
    refine AB.step (i := 2) (by kernel_rfl) rfl (fun K hK => ?_)
    go_simp
    go_at_call 47
    refine (uH HNA _ (uH HD)).mono ?_
    rintro e w2 ⟨rfl, hc2⟩
    have HN_ := hH ((uH HD).trans' hc2)
    clear HD
    have HD := HN_
    clear HN_ HK
    have HK := hH (uH KSW _ (uH HD))
    clear hc2
    go_wp2_with fail
    refine hK.out _ _ (fun _ => uH HK) ?_
    clear hK K
    try simp only [Act.put, List.setIfInBounds_toArray, List.set_cons_zero, List.set_cons_succ]
    refine AB.tk (i := 3) (v := ?_) rfl (by kernel_rfl) (by kernel_rfl) (fun _ _ _ h => h) ?_ (uH HK) ?_
    rotate_left
    · intro W' hS'; (try dsimp only at hS'); go_simp; try with_reducible rfl
    try simp only [Act.put, List.setIfInBounds_toArray]
    refine AB.tk (i := 4) (v := ?_) rfl (by kernel_rfl) (by kernel_rfl) (fun _ _ _ h => h) ?_ (uH HK) ?_
    rotate_left
    · intro W' hS'; (try dsimp only at hS'); go_simp; try with_reducible rfl
    try simp only [Act.put]
    refine AB.ot (i := 5) rfl (by kernel_rfl) (by kernel_rfl) (fun _ _ _ h => h) (uH HK) ?_
    try simp only [Act.put]
    refine AB.ot (i := 6) rfl (by kernel_rfl) (by kernel_rfl) (fun _ _ _ h => h) (uH HK) ?_
    try simp only [Act.put]
    refine AB.ot (i := 7) rfl (by kernel_rfl) (by kernel_rfl) (fun _ _ _ h => h) (uH HK) ?_
    try simp only [Act.put]
    refine AB.ot (i := 8) rfl (by kernel_rfl) (by kernel_rfl) (fun _ _ _ h => h) (uH HK) ?_
    try simp only [Act.put]
    refine AB.ot (i := 9) rfl (by kernel_rfl) (by kernel_rfl) (fun _ _ _ h => h) (uH HK) ?_
    try simp only [Act.put]
    refine AB.ot (i := 10) rfl (by kernel_rfl) (by kernel_rfl) (fun _ _ _ h => h) (uH HK) ?_
    try simp only [Act.put]
    refine AB.ot (i := 11) rfl (by kernel_rfl) (by kernel_rfl) (fun _ _ _ h => h) (uH HK) ?_
    try simp only [Act.put]
    refine AB.tk (i := 12) (v := ?_) rfl (by kernel_rfl) (by kernel_rfl) (fun _ _ _ h => h) ?_ (uH HK) ?_
    rotate_left
    · intro W' hS'; (try dsimp only at hS'); go_simp; try with_reducible rfl
    try simp only [Act.put]
    refine AB.step (i := 13) (by kernel_rfl) rfl (fun K hK => ?_)
    go_simp
    refine hK.out _ _ (fun h => absurd rfl h) ?_
    clear hK K
    try simp only [Act.put, List.setIfInBounds_toArray, List.set_cons_zero, List.set_cons_succ]
    refine AB.done (by kernel_rfl) ?_ _
    go_wp2_with fail
    go_ret
    exact ⟨rfl, (uH H0).trans' (uH HD)⟩
  · go_enter Tryz.func46, Tryz.ntmps46
    go_wp2_with fail
    refine wp_region_ab (fun W' => W'.cell? ⟨w.heap.size, 0, none⟩ = some (.string x.name) ∧ W'.cell? ⟨w.heap.size, 1, none⟩ = some (.slice B7 x.type.length c7)) 13 14 (by kernel_rfl) (by kernel_rfl) ?_
    refine AB.tk (i := 0) (v := ?_) rfl (by kernel_rfl) (by kernel_rfl) (fun _ _ _ h => h) ?_ (uH HK) ?_
    rotate_left
    · intro W' hS'; (try dsimp only at hS'); go_simp; try with_reducible rfl
    try simp only [Act.put, List.setIfInBounds_toArray]
    refine AB.tk (i := 1) (v := ?_) rfl (by kernel_rfl) (by kernel_rfl) (fun _ _ _ h => h) ?_ (uH HK) ?_
    rotate_left
    · intro W' hS'; (try dsimp only at hS'); go_simp; try with_reducible rfl
    try simp only [Act.put]
    refine AB.step (i := 2) (by kernel_rfl) rfl (fun K hK => ?_)
    go_simp
    go_at_call 47
    refine (uH HNA _ (uH HD)).mono ?_
    rintro e w2 ⟨rfl, hc2⟩
    have HN_ := hH ((uH HD).trans' hc2)
    clear HD
    have HD := HN_
    clear HN_ HK
    have HK := hH (uH KSW _ (uH HD))
    clear hc2
    go_wp2_with fail
    refine hK.out _ _ (fun _ => uH HK) ?_
    clear hK K
    try simp only [Act.put, List.setIfInBounds_toArray, List.set_cons_zero, List.set_cons_succ]
    refine AB.tk (i := 3) (v := ?_) rfl (by kernel_rfl) (by kernel_rfl) (fun _ _ _ h => h) ?_ (uH HK) ?_
    rotate_left
    · intro W' hS'; (try dsimp only at hS'); go_simp; try with_reducible rfl
    try simp only [Act.put, List.setIfInBounds_toArray]
    refine AB.tk (i := 4) (v := ?_) rfl (by kernel_rfl) (by kernel_rfl) (fun _ _ _ h => h) ?_ (uH HK) ?_
    rotate_left
    · intro W' hS'; (try dsimp only at hS'); go_simp; try with_reducible rfl
    try simp only [Act.put]
    refine AB.tk (i := 5) (v := ?_) rfl (by kernel_rfl) (by kernel_rfl) (fun _ _ _ h => h) ?_ (uH HK) ?_
    rotate_left
    · intro W' hS'; (try dsimp only at hS'); go_simp; try with_reducible rfl
    try simp only [Act.put]
    refine AB.tk (i := 6) (v := ?_) rfl (by kernel_rfl) (by kernel_rfl) (fun _ _ _ h => h) ?_ (uH HK) ?_
    rotate_left
    · intro W' hS'; (try dsimp only at hS'); go_simp; try with_reducible rfl
    try simp only [Act.put]
    refine AB.tk (i := 8) (v := ?_) rfl (by kernel_rfl) (by kernel_rfl) (fun _ _ _ h => h) ?_ (uH HK) ?_
    rotate_left
    · intro W' hS'; (try dsimp only at hS'); go_simp; try with_reducible rfl
    try simp only [Act.put]
    refine AB.tk (i := 9) (v := ?_) rfl (by kernel_rfl) (by kernel_rfl) (fun _ _ _ h => h) ?_ (uH HK) ?_
    rotate_left
    · intro W' hS'; (try dsimp only at hS'); go_simp; try with_reducible rfl
    try simp only [Act.put]
    refine AB.step (i := 7) (by kernel_rfl) rfl (fun K hK => ?_)
    go_simp
    go_at_call 48
    refine (uH HCA _ (uH HD)).mono ?_
    rintro e w3 ⟨v3, rfl, hv3, hc2⟩
    obtain ⟨A3, c3, rfl⟩ := RdR.val hv3
    have HV3 := hH hv3
    have HN_ := hH ((uH HD).trans' hc2)
    clear HD
    have HD := HN_
    clear HN_ HK
    have HK := hH (uH KSW _ (uH HD))
    clear hc2
    clear hv3
    go_wp2_with fail
    refine hK.out _ _ (fun _ => uH HK) ?_
    clear hK K
    try simp only [Act.put, List.setIfInBounds_toArray, List.set_cons_zero, List.set_cons_succ]
    refine AB.step (i := 10) (by kernel_rfl) rfl (fun K hK => ?_)
    go_simp
    go_at_call 28
    refine (uH HEQ _ _ _ (uH HD) (uH HV3)).mono ?_
    rintro e w4 ⟨rfl, hc2⟩
    have HN_ := hH ((uH HD).trans' hc2)
    clear HD
    have HD := HN_
    clear HN_ HK
    have HK := hH (uH KSW _ (uH HD))
    clear hc2
    go_wp2_with fail
    refine hK.out _ _ (fun _ => uH HK) ?_
    clear hK K
    try simp only [Act.put, List.setIfInBounds_toArray, List.set_cons_zero, List.set_cons_succ]
    refine AB.tk (i := 11) (v := ?_) rfl (by kernel_rfl) (by kernel_rfl) (fun _ _ _ h => h) ?_ (uH HK) ?_
    rotate_left
    · intro W' hS'; (try dsimp only at hS'); go_simp; try with_reducible rfl
    try simp only [Act.put, List.setIfInBounds_toArray]
    refine AB.tk (i := 12) (v := ?_) rfl (by kernel_rfl) (by kernel_rfl) (fun _ _ _ h => h) ?_ (uH HK) ?_
    rotate_left
    · intro W' hS'; (try dsimp only at hS'); go_simp; try with_reducible rfl
    try simp only [Act.put]
    refine AB.step (i := 13) (by kernel_rfl) rfl (fun K hK => ?_)
    go_simp
    refine hK.out _ _ (fun h => absurd rfl h) ?_
    clear hK K
    try simp only [Act.put, List.setIfInBounds_toArray, List.set_cons_zero, List.set_cons_succ]
    refine AB.done (by kernel_rfl) ?_ _
    go_wp2_with fail
    go_ret
    exact ⟨retv (boolv (by simp)), (uH H0).trans' (uH HD)⟩
theorem idx_so (l : List Sg) (v : Value) (T : Nat → Prop) (w : World) (p : Sg → Bool) (hr : RdSc T w v l) (hn : l.length ≤ 1000000) (hcl : ∀ W, Chg (fun _ => False) w W → ∀ x ∈ l, ∀ u, RdN T W u x.type → x.name.size ≤ 9223372036854775807 → Calls Tryz.prog 46 #[.agg #[.string x.name, u]] W fun e w' => e = .returned (.bool (p x)) ∧ Chg (fun _ => False) W w') :
    Calls Tryz.prog 122 #[v, .func (.func 46) #[] #[]] w fun e w' => e = .returned (.int .i64 (idxP p l)) ∧ Chg (fun _ => False) w w' := by
  obtain ⟨A, c, rfl⟩ := RdR.val hr
  have HR := hH hr
  have HCL := hH hcl
  have HNO := hH (idxP_none (p := p) (l := l))
  have HHE := hH (fun k x => idxP_here (p := p) (l := l) (k := k) (x := x))
  generalize idxP p l = R at *
  clear hr hcl
  go_enter Tryz.func122, Tryz.ntmps122
  go_wp2_with fail
  go_loopw [8] (fun i wr => ∃ k : Nat, i = .int .i64 (k : Int) ∧ k ≤ l.length ∧ (∀ j y, j < k → l[j]? = some y → p y = false) ∧ Chg (fun _ => False) w wr) (fun i _ => l.length - (intOf i).toNat)
  case atStart => exact ⟨0, rfl, Nat.zero_le _, fun j y h => absurd h (Nat.not_lt_zero _), Chg.refl _ _⟩
  case round =>
    obtain ⟨wq, rfl⟩ : ∃ wq : World, wq = wr := ⟨_, rfl⟩
    obtain ⟨k, rfl, hk, hall, hch⟩ := hrel
    by_cases hlt : k < l.length
    · have hki : (k : Int) < (l.length : Int) := by omega
      have hx : l[k]? = some l[k] := List.getElem?_eq_getElem hlt
      obtain ⟨b, o, c2, u, hv, _, hru, hxs, hcap, c0, c1⟩ := RdSc.at_ (RdSc.chg (uH HR) hch (fun _ _ _ => id)) hx
      injection hv with hv1 hv2 hv3
      subst hv1 hv3
      have hcx := (uH HCL) wq hch l[k] (List.getElem_mem hlt) u hru hxs
      generalize l[k] = x at *
      have HALL := hH hall
      have HX := hH hx
      have HCH := hH hch
      obtain ⟨B7, c7, rfl⟩ := hru.val
      cases hp : p x
      · rw [hp] at hcx
        have HC := hH hcx
        have HP := hH hp
        clear hcx hall hx hch hp
        go_wp2_with (go_at_call 46; refine (uH HC).mono ?_; rintro e w2 ⟨rfl, hc2⟩; have HC2 := hH hc2; clear hc2)
        go_roundw
        case rel =>
          exact ⟨k + 1, by go_num, by omega, fun j y hj hy => by
            rcases Nat.lt_or_ge j k with h | h
            · exact (uH HALL) j y h hy
            · obtain rfl : j = k := by omega
              have := (uH HX).symm.trans hy
              injection this with this
              rw [← this]
              exact uH HP, (uH HCH).trans' (uH HC2)⟩
        case measure => simp [intOf]; omega
      · rw [hp] at hcx
        have HC := hH hcx
        have HF := hH ((uH HHE) k x hx hp hall)
        clear hcx hall hx hch hp
        go_wp2_with (go_at_call 46; refine (uH HC).mono ?_; rintro e w2 ⟨rfl, hc2⟩; have HC2 := hH hc2; clear hc2)
        go_ret
        exact ⟨retv (intv (uH HF).symm), (uH HCH).trans' (uH HC2)⟩
    · obtain rfl : k = l.length := by omega
      have hki : ¬ (l.length : Int) < (l.length : Int) := by omega
      have HF := hH ((uH HNO) (fun j y hy => hall j y (List.getElem?_eq_some_iff.1 hy).1 hy))
      have HCH := hH hch
      clear hall hch
      go_wp2_with fail
      go_ret
      exact ⟨retv (intv (uH HF).symm), uH HCH⟩
theorem has_so (l : List Sg) (v : Value) (T : Nat → Prop) (w : World) (p : Sg → Bool) (hr : RdSc T w v l) (hn : l.length ≤ 1000000) (hcl : ∀ W, Chg (fun _ => False) w W → ∀ x ∈ l, ∀ u, RdN T W u x.type → x.name.size ≤ 9223372036854775807 → Calls Tryz.prog 46 #[.agg #[.string x.name, u]] W fun e w' => e = .returned (.bool (p x)) ∧ Chg (fun _ => False) W w') :
    Calls Tryz.prog 52 #[v, .func (.func 46) #[] #[]] w fun e w' => e = .returned (.bool (l.any p)) ∧ Chg (fun _ => False) w w' := by
  have HI := hH (idx_so l v T w  p hr hn hcl)
  have ha := idxP_any p l
  obtain ⟨A, c, rfl⟩ := RdR.val hr
  generalize idxP p l = R at *
  generalize l.any p = B at *
  clear hr hcl
  have HA := hH ha
  clear ha
  go_enter Tryz.func52, Tryz.ntmps52
  go_wp2_with (go_at_call 122; refine (uH HI).mono ?_; rintro e w2 ⟨rfl, hc2⟩; have HC2 := hH hc2; clear hc2)
  go_ret
  exact ⟨retv (boolv (uH HA)), uH HC2⟩
theorem modNamed_any (s : ByteArray) (w : World) (hs : s.size ≤ 9223372036854775807) (lay : Lay w) :
    Calls Tryz.prog 45 #[.string s] w fun e w' => e = .returned (.bool (modB s)) ∧ Chg (fun _ => False) w w' := by
  have HC := hH (con_any s w hs lay)
  have hE : modB s = (nameB 2 s && decide (s.size ≤ 60)) := rfl
  rw [hE]
  clear lay hE
  have hdd : decide ((s.size : Int) ≤ 60) = decide (s.size ≤ 60) := by
    rw [Bool.eq_iff_iff, decide_eq_true_eq, decide_eq_true_eq]
    omega
  generalize nameB 2 s = nb at *
  cases nb
  all_goals
    go_enter Tryz.func45, Tryz.ntmps45
    go_wp2_with (go_at_call 95; (with_reducible refine (uH HC).mono ?_); rintro e w2 ⟨rfl, hc2⟩; have HC2 := hH hc2; clear hc2)
    go_ret
    exact ⟨retv (boolv (by simp [])), uH HC2⟩
end Go.Proofs.YtinekmjengckdaaGreatDoor
