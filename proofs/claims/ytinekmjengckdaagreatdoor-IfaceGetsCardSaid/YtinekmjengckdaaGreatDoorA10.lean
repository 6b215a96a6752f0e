/-
  Layer 10, the program's side: whether declarations may be, each by itself; whether one has a name. Layer 10, the program's side: going through all constructors. Layer 10, the program's side: whether a constructor is the one that is looked for.
-/
import Derived.Test.YtinekmjengckdaaGreatDoorA09
namespace Go.Proofs.YtinekmjengckdaaGreatDoor
open Go.RowKit
set_option maxHeartbeats 4000000
set_option maxRecDepth 100000
theorem idx_dr (l : List Dt) (v : Value) (T : Nat → Prop) (w : World) (p : Dt → Bool) (hr : RdD T w v l) (hn : l.length ≤ 1000000) (hcl : ∀ W, Chg (fun _ => False) w W → ∀ x ∈ l, ∀ u, RdC T W u x.cons → x.name.size ≤ 9223372036854775807 → Calls Tryz.prog 102 #[.agg #[.string x.name, .int .i64 x.params, u]] W fun e w' => e = .returned (.bool (p x)) ∧ Chg (fun _ => False) W w') :
    Calls Tryz.prog 104 #[v, .func (.func 102) #[] #[]] w fun e w' => e = .returned (.int .i64 (idxP p l)) ∧ Chg (fun _ => False) w w' := by
  obtain ⟨A, c, rfl⟩ := hr.val
  have HR := hH hr
  have HCL := hH hcl
  have HNO := hH (idxP_none (p := p) (l := l))
  have HHE := hH (fun k x => idxP_here (p := p) (l := l) (k := k) (x := x))
  generalize idxP p l = R at *
  clear hr hcl
  go_enter Tryz.func104, Tryz.ntmps104
  go_wp2_with fail
  go_loopw [8] (fun i wr => ∃ k : Nat, i = .int .i64 (k : Int) ∧ k ≤ l.length ∧ (∀ j y, j < k → l[j]? = some y → p y = false) ∧ Chg (fun _ => False) w wr) (fun i _ => l.length - (intOf i).toNat)
  case atStart => exact ⟨0, rfl, Nat.zero_le _, fun j y h => absurd h (Nat.not_lt_zero _), Chg.refl _ _⟩
  case round =>
    obtain ⟨wq, rfl⟩ : ∃ wq : World, wq = wr := ⟨_, rfl⟩
    obtain ⟨k, rfl, hk, hall, hch⟩ := hrel
    by_cases hlt : k < l.length
    · have hki : (k : Int) < (l.length : Int) := by omega
      have hx : l[k]? = some l[k] := List.getElem?_eq_getElem hlt
      obtain ⟨b, o, c2, u, hv, _, hru, hxs, c0, c1, c3⟩ := ((uH HR).chg hch (fun _ _ _ => id)).at_ hx
      injection hv with hv1 hv2 hv3
      subst hv1 hv3
      have hcx := (uH HCL) wq hch l[k] (List.getElem_mem hlt) u hru hxs
      generalize l[k] = x at *
      have HALL := hH hall
      have HX := hH hx
      have HCH := hH hch
      cases hp : p x
      · rw [hp] at hcx
        have HC := hH hcx
        have HP := hH hp
        clear hcx hall hx hch hp
        go_wp2_with (go_at_call 102; refine (uH HC).mono ?_; rintro e w2 ⟨rfl, hc2⟩; have HC2 := hH hc2; clear hc2)
        go_roundw
        case rel =>
          exact ⟨k + 1, by go_num, by omega, fun j y hj hy => by
            rcases Nat.lt_or_ge j k with h | h
            · exact (uH HALL) j y h hy
            · obtain rfl : j = k := by omega
              have := (uH HX).symm.trans hy
              injection this with this
              rw [← this]
              exact uH HP, (uH HCH).trans' (uH HC2)⟩
        case measure => simp [intOf]; omega
      · rw [hp] at hcx
        have HC := hH hcx
        have HF := hH ((uH HHE) k x hx hp hall)
        clear hcx hall hx hch hp
        go_wp2_with (go_at_call 102; refine (uH HC).mono ?_; rintro e w2 ⟨rfl, hc2⟩; have HC2 := hH hc2; clear hc2)
        go_ret
        exact ⟨retv (intv (uH HF).symm), (uH HCH).trans' (uH HC2)⟩
    · obtain rfl : k = l.length := by omega
      have hki : ¬ (l.length : Int) < (l.length : Int) := by omega
      have HF := hH ((uH HNO) (fun j y hy => hall j y (List.getElem?_eq_some_iff.1 hy).1 hy))
      have HCH := hH hch
      clear hall hch
      go_wp2_with fail
      go_ret
      exact ⟨retv (intv (uH HF).symm), uH HCH⟩
theorem has_dr (l : List Dt) (v : Value) (T : Nat → Prop) (w : World) (p : Dt → Bool) (hr : RdD T w v l) (hn : l.length ≤ 1000000) (hcl : ∀ W, Chg (fun _ => False) w W → ∀ x ∈ l, ∀ u, RdC T W u x.cons → x.name.size ≤ 9223372036854775807 → Calls Tryz.prog 102 #[.agg #[.string x.name, .int .i64 x.params, u]] W fun e w' => e = .returned (.bool (p x)) ∧ Chg (fun _ => False) W w') :
    Calls Tryz.prog 101 #[v, .func (.func 102) #[] #[]] w fun e w' => e = .returned (.bool (l.any p)) ∧ Chg (fun _ => False) w w' := by
  have HI := hH (idx_dr l v T w  p hr hn hcl)
  have ha := idxP_any p l
  obtain ⟨A, c, rfl⟩ := hr.val
  generalize idxP p l = R at *
  generalize l.any p = B at *
  clear hr hcl
  have HA := hH ha
  clear ha
  go_enter Tryz.func101, Tryz.ntmps101
  go_wp2_with (go_at_call 104; refine (uH HI).mono ?_; rintro e w2 ⟨rfl, hc2⟩; have HC2 := hH hc2; clear hc2)
  go_ret
  exact ⟨retv (boolv (uH HA)), uH HC2⟩
theorem idx_dn (l : List Dt) (v : Value) (T : Nat → Prop) (w : World) (g : Nat) (p : Dt → Bool) (hr : RdD T w v l) (hn : l.length ≤ 1000000) (hcl : ∀ W, Chg (fun _ => False) w W → ∀ x ∈ l, ∀ u, RdC T W u x.cons → x.name.size ≤ 9223372036854775807 → Calls Tryz.prog 105 #[.agg #[.string x.name, .int .i64 x.params, u], .pointer (some ⟨g, 0, none⟩)] W fun e w' => e = .returned (.bool (p x)) ∧ Chg (fun _ => False) W w') :
    Calls Tryz.prog 104 #[v, .func (.func 105) #[] #[.pointer (some ⟨g, 0, none⟩)]] w fun e w' => e = .returned (.int .i64 (idxP p l)) ∧ Chg (fun _ => False) w w' := by
  obtain ⟨A, c, rfl⟩ := hr.val
  have HR := hH hr
  have HCL := hH hcl
  have HNO := hH (idxP_none (p := p) (l := l))
  have HHE := hH (fun k x => idxP_here (p := p) (l := l) (k := k) (x := x))
  generalize idxP p l = R at *
  clear hr hcl
  go_enter Tryz.func104, Tryz.ntmps104
  go_wp2_with fail
  go_loopw [8] (fun i wr => ∃ k : Nat, i = .int .i64 (k : Int) ∧ k ≤ l.length ∧ (∀ j y, j < k → l[j]? = some y → p y = false) ∧ Chg (fun _ => False) w wr) (fun i _ => l.length - (intOf i).toNat)
  case atStart => exact ⟨0, rfl, Nat.zero_le _, fun j y h => absurd h (Nat.not_lt_zero _), Chg.refl _ _⟩
  case round =>
    obtain ⟨wq, rfl⟩ : ∃ wq : World, wq = wr := ⟨_, rfl⟩
    obtain ⟨k, rfl, hk, hall, hch⟩ := hrel
    by_cases hlt : k < l.length
    · have hki : (k : Int) < (l.length : Int) := by omega
      have hx : l[k]? = some l[k] := List.getElem?_eq_getElem hlt
      obtain ⟨b, o, c2, u, hv, _, hru, hxs, c0, c1, c3⟩ := ((uH HR).chg hch (fun _ _ _ => id)).at_ hx
      injection hv with hv1 hv2 hv3
      subst hv1 hv3
      have hcx := (uH HCL) wq hch l[k] (List.getElem_mem hlt) u hru hxs
      generalize l[k] = x at *
      have HALL := hH hall
      have HX := hH hx
      have HCH := hH hch
      cases hp : p x
      · rw [hp] at hcx
        have HC := hH hcx
        have HP := hH hp
        clear hcx hall hx hch hp
        go_wp2_with (go_at_call 105; refine (uH HC).mono ?_; rintro e w2 ⟨rfl, hc2⟩; have HC2 := hH hc2; clear hc2)
        go_roundw
        case rel =>
          exact ⟨k + 1, by go_num, by omega, fun j y hj hy => by
            rcases Nat.lt_or_ge j k with h | h
            · exact (uH HALL) j y h hy
            · obtain rfl : j = k := by omega
              have := (uH HX).symm.trans hy
              injection this with this
              rw [← this]
              exact uH HP, (uH HCH).trans' (uH HC2)⟩
        case measure => simp [intOf]; omega
      · rw [hp] at hcx
        have HC := hH hcx
        have HF := hH ((uH HHE) k x hx hp hall)
        clear hcx hall hx hch hp
        go_wp2_with (go_at_call 105; refine (uH HC).mono ?_; rintro e w2 ⟨rfl, hc2⟩; have HC2 := hH hc2; clear hc2)
        go_ret
        exact ⟨retv (intv (uH HF).symm), (uH HCH).trans' (uH HC2)⟩
    · obtain rfl : k = l.length := by omega
      have hki : ¬ (l.length : Int) < (l.length : Int) := by omega
      have HF := hH ((uH HNO) (fun j y hy => hall j y (List.getElem?_eq_some_iff.1 hy).1 hy))
      have HCH := hH hch
      clear hall hch
      go_wp2_with fail
      go_ret
      exact ⟨retv (intv (uH HF).symm), uH HCH⟩
theorem notRight_any (d : Dt) (u : Value) (T : Nat → Prop) (w : World) (hr : RdC T w u d.cons) (hs : d.name.size ≤ 9223372036854775807) (hl : Lay w) :
    Calls Tryz.prog 102 #[.agg #[.string d.name, .int .i64 d.params, u]] w fun e w' => e = .returned (.bool (!dtB d)) ∧ Chg (fun _ => False) w w' := by
  obtain ⟨A, c, hu⟩ := hr.val
  subst hu
  have h0 := (Chg.refl (fun _ => False) w).alloc (.cells #[.string d.name, .int .i64 d.params, .slice A d.cons.length c] 70)
  have HC := hH (right_dt d (.slice A d.cons.length c) T _ (hr.chg h0 (fun _ _ _ => id)) hs (hl.chg h0 (fun _ _ => id)))
  generalize dtB d = E at *
  have H0 := hH h0
  clear h0 hl hr
  go_enter Tryz.func102, Tryz.ntmps102
  go_wp2_with (go_at_call 103; refine (uH HC).mono ?_; rintro e w2 ⟨rfl, hc2⟩; have HC2 := hH hc2; clear hc2)
  go_ret
  exact ⟨rfl, (uH H0).trans' (uH HC2)⟩
end Go.Proofs.YtinekmjengckdaaGreatDoor

namespace Go.Proofs.YtinekmjengckdaaGreatDoor
open Go.RowKit
set_option maxHeartbeats 4000000
set_option maxRecDepth 100000
theorem sameName_any (x : Dt) (B : Option Addr) (n c : Nat) (nm : ByteArray) (v1 v2 : Value) (g : Nat) (w : World) (hb : Blk w g 70 #[.string nm, v1, v2]) :
    Calls Tryz.prog 105 #[.agg #[.string x.name, .int .i64 x.params, .slice B n c], .pointer (some ⟨g, 0, none⟩)] w fun e w' => e = .returned (.bool (x.name.toList == nm.toList)) ∧ Chg (fun _ => False) w w' := by
  have x0 := (hb.alloc (.cells #[.string x.name, .int .i64 x.params, .slice B n c] 70)).cell 0
  have hlt := hb.lt
  simp only [List.getElem?_toArray, List.getElem?_cons_zero] at x0
  clear hb
  go_enter Tryz.func105, Tryz.ntmps105
  go_wp2_with fail
  go_ret
  exact ⟨rfl, (Chg.refl _ _).alloc _⟩
def EachOut (l : List Dt) (Inv Fin : Nat → Nat → World → Prop) (e : Ending) (w' : World) : Prop :=
  (e = .returned (.bool false) ∧ Inv l.length 0 w') ∨ (e = .returned (.bool true) ∧ ∃ i k, Fin i k w')
def CloOut (i k : Nat) (Inv Fin : Nat → Nat → World → Prop) (e : Ending) (w' : World) : Prop :=
  ∃ r : Bool, e = .returned (.bool r) ∧ (r = false → Inv i (k + 1) w') ∧ (r = true → Fin i k w')
theorem each_find (l : List Dt) (v : Value) (T S : Nat → Prop) (w : World) (g0 g1 g2 g3 : Nat) (Inv Fin : Nat → Nat → World → Prop) (hr : RdD T w v l) (hn : l.length ≤ 1000000) (hcn : ∀ d ∈ l, d.cons.length ≤ 1000000) (hTS : ∀ b, T b → ¬ S b)
    (hch : ∀ i k W, Inv i k W → Chg S w W) (hst : ∀ i k W W', Inv i k W → Chg (fun _ => False) W W' → Inv i k W') (h0 : Inv 0 0 w) (hnx : ∀ (i : Nat) (d : Dt) W, l[i]? = some d → Inv i d.cons.length W → Inv (i + 1) 0 W)
    (hcl : ∀ (i k : Nat) (d : Dt) (x : Ct) W, l[i]? = some d → d.cons[k]? = some x → Inv i k W → Calls Tryz.prog 153 #[.int .i64 (i : Int), .int .i64 (k : Int), .pointer (some ⟨g0, 0, none⟩), .pointer (some ⟨g1, 0, none⟩), .pointer (some ⟨g2, 0, none⟩), .pointer (some ⟨g3, 0, none⟩)] W (CloOut i k Inv Fin)) :
    Calls Tryz.prog 108 #[v, .func (.func 153) #[] #[.pointer (some ⟨g0, 0, none⟩), .pointer (some ⟨g1, 0, none⟩), .pointer (some ⟨g2, 0, none⟩), .pointer (some ⟨g3, 0, none⟩)]] w (EachOut l Inv Fin) := by
  obtain ⟨A, c, rfl⟩ := hr.val
  have HR := hH hr
  have HCL := hH hcl
  have HCH := hH hch
  have HST := hH hst
  have HNX := hH hnx
  have HTS := hH hTS
  have HCN := hH hcn
  have H0 := hH h0
  clear hr hcl hch hst hnx hTS h0 hcn
  go_enter Tryz.func108, Tryz.ntmps108
  go_wp2_with fail
  go_loopw [10] (fun i wr => ∃ k : Nat, i = .int .i64 (k : Int) ∧ k ≤ l.length ∧ Inv k 0 wr) (fun i _ => l.length - (intOf i).toNat)
  case atStart => exact ⟨0, rfl, Nat.zero_le _, uH H0⟩
  case round =>
    obtain ⟨wq, rfl⟩ : ∃ wq : World, wq = wr := ⟨_, rfl⟩
    obtain ⟨i, rfl, hi, hinv⟩ := hrel
    by_cases hlt : i < l.length
    · have hki : (i : Int) < (l.length : Int) := by omega
      have hx : l[i]? = some l[i] := List.getElem?_eq_getElem hlt
      have hdn := (uH HCN) l[i] (List.getElem_mem hlt)
      generalize l[i] = d at *
      obtain ⟨b, o, c2, u, hv, _, hru, hns, c0, c1, c3⟩ := ((uH HR).chg ((uH HCH) _ _ _ hinv) (fun b hb _ => (uH HTS) b hb)).at_ hx
      injection hv with hv1 hv2 hv3
      subst hv1 hv3
      obtain ⟨B, c5, rfl⟩ := hru.val
      have HX := hH hx
      have HIV := hH hinv
      clear hx hinv hru
      go_upto_region 4 with fail
      have bk := Blk.new wq 70 #[.string d.name, .int .i64 d.params, .slice B d.cons.length c5]
      have hc3 : Chg (fun _ => False) wq (wq.alloc (.cells #[.string d.name, .int .i64 d.params, .slice B d.cons.length c5] 70)) := (Chg.refl _ wq).alloc _
      generalize wq.alloc (.cells #[.string d.name, .int .i64 d.params, .slice B d.cons.length c5] 70) = w3 at *
      generalize wq.heap.size = nb at *
      have z2 := bk.cell 2
      simp only [List.getElem?_toArray, List.getElem?_cons_zero, List.getElem?_cons_succ] at z2
      have HI3 := hH ((uH HST) _ _ _ _ (uH HIV) hc3)
      clear bk hc3 c0 c1 c3 HIV
      go_wp2_with fail
      go_loopw [18] (fun j wr => ∃ k : Nat, j = .int .i64 (k : Int) ∧ k ≤ d.cons.length ∧ Inv i k wr) (fun j _ => d.cons.length - (intOf j).toNat)
      case atStart => exact ⟨0, rfl, Nat.zero_le _, uH HI3⟩
      case round =>
        obtain ⟨wy, rfl⟩ : ∃ wy : World, wy = wr := ⟨_, rfl⟩
        obtain ⟨k, rfl, hk, hinv⟩ := hrel
        by_cases hlk : k < d.cons.length
        · have hkk : (k : Int) < (d.cons.length : Int) := by omega
          have HC := hH ((uH HCL) i k d d.cons[k] wy (uH HX) (List.getElem?_eq_getElem hlk) hinv)
          clear hinv
          go_wp2_with (go_at_call 153; refine (uH HC).mono ?_; rintro e w4 ⟨r, rfl, h4⟩; have H4 := hH h4; clear h4)
          · go_ret
            exact .inr ⟨rfl, i, k, (uH H4).2 (by first | assumption | simp_all)⟩
          · refine ⟨⟨k + 1, by go_num, by omega, (uH H4).1 (by first | assumption | simp_all)⟩, ?_⟩
            simp [intOf]
            omega
        · obtain rfl : k = d.cons.length := by omega
          have hkk : ¬ (d.cons.length : Int) < (d.cons.length : Int) := by omega
          have HV := hH ((uH HNX) i d _ (uH HX) hinv)
          clear hinv
          go_wp2_with fail
          go_roundw
          case rel => exact ⟨i + 1, by go_num, by omega, uH HV⟩
          case measure => simp [intOf]; omega
    · obtain rfl : i = l.length := by omega
      have hki : ¬ (l.length : Int) < (l.length : Int) := by omega
      have HV := hH hinv
      clear hinv
      go_wp2_with fail
      go_ret
      exact .inl ⟨rfl, uH HV⟩
end Go.Proofs.YtinekmjengckdaaGreatDoor

namespace Go.Proofs.YtinekmjengckdaaGreatDoor
open Go.RowKit
set_option maxHeartbeats 4000000
set_option maxRecDepth 100000
theorem find_not (l : List Dt) (v : Value) (con : ByteArray) (i k : Nat) (d : Dt) (x : Ct) (T : Nat → Prop) (w : World) (gl gc gx gy : Nat) (hl : Blk w gl 23 #[v]) (hc : Blk w gc 9 #[.string con]) (hr : RdD T w v l) (hd : l[i]? = some d) (hk : d.cons[k]? = some x) (_hn : l.length ≤ 1000000) (_hcn : d.cons.length ≤ 1000000) (hq : (x.name.toList == con.toList) = false) :
    Calls Tryz.prog 153 #[.int .i64 (i : Int), .int .i64 (k : Int), .pointer (some ⟨gl, 0, none⟩), .pointer (some ⟨gc, 0, none⟩), .pointer (some ⟨gx, 0, none⟩), .pointer (some ⟨gy, 0, none⟩)] w fun e w' => e = .returned (.bool false) ∧ Chg (fun _ => False) w w' := by
  have hi : (i : Int) < (l.length : Int) := by have := (List.getElem?_eq_some_iff.1 hd).1; omega
  have hkk : (k : Int) < (d.cons.length : Int) := by have := (List.getElem?_eq_some_iff.1 hk).1; omega
  obtain ⟨b, o, c2, u, rfl, _, hru, hns, c0, c1, c3⟩ := hr.at_ hd
  obtain ⟨b2, o2, c4, u2, rfl, _, _, _, e0, e1⟩ := hru.at_ hk
  have l0 := hl.cell 0
  have n0 := hc.cell 0
  simp only [List.getElem?_toArray, List.getElem?_cons_zero] at l0 n0
  clear hl hc hr hd hk hru
  go_enter Tryz.func153, Tryz.ntmps153
  go_wp2_with fail
  go_quiet (fail)
  go_wp2_with fail
  go_ret
  exact ⟨rfl, (Chg.refl _ _).drewN _⟩
theorem find_yes (l : List Dt) (v : Value) (con : ByteArray) (i k : Nat) (d : Dt) (x : Ct) (T : Nat → Prop) (w : World) (gl gc gx gy : Nat) (hl : Blk w gl 23 #[v]) (hc : Blk w gc 9 #[.string con]) (hr : RdD T w v l) (hd : l[i]? = some d) (hk : d.cons[k]? = some x) (_hn : l.length ≤ 1000000) (_hcn : d.cons.length ≤ 1000000) (hq : (x.name.toList == con.toList) = true) (a1 a2 : Int) (hx : Blk w gx 3 #[.int .i64 a1]) (hy : Blk w gy 3 #[.int .i64 a2]) (hne : gx ≠ gy) :
    Calls Tryz.prog 153 #[.int .i64 (i : Int), .int .i64 (k : Int), .pointer (some ⟨gl, 0, none⟩), .pointer (some ⟨gc, 0, none⟩), .pointer (some ⟨gx, 0, none⟩), .pointer (some ⟨gy, 0, none⟩)] w fun e w' => e = .returned (.bool true) ∧ Blk w' gx 3 #[.int .i64 (i : Int)] ∧ Blk w' gy 3 #[.int .i64 (k : Int)] ∧ Chg (fun b => b = gx ∨ b = gy) w w' := by
  have hi : (i : Int) < (l.length : Int) := by have := (List.getElem?_eq_some_iff.1 hd).1; omega
  have hkk : (k : Int) < (d.cons.length : Int) := by have := (List.getElem?_eq_some_iff.1 hk).1; omega
  obtain ⟨b, o, c2, u, rfl, _, hru, hns, c0, c1, c3⟩ := hr.at_ hd
  obtain ⟨b2, o2, c4, u2, rfl, _, _, _, e0, e1⟩ := hru.at_ hk
  have l0 := hl.cell 0
  have n0 := hc.cell 0
  simp only [List.getElem?_toArray, List.getElem?_cons_zero] at l0 n0
  have X0 := hH (hx.cell 0)
  have f0 := hx.frozen 0
  have f1 := hy.frozen 0
  have q0 := hx.cell 0
  have q1 := hy.cell 0
  simp only [List.getElem?_toArray, List.getElem?_cons_zero] at q0 q1
  have HX := hH hx
  have HY := hH hy
  clear hl hc hr hd hk hru hx hy X0
  go_enter Tryz.func153, Tryz.ntmps153
  go_wp2_with fail
  go_quiet (fail)
  go_wp2_with fail
  go_ret
  exact ⟨rfl, (((uH HX).drewN nq).set_ 0 _).far (p := ⟨gy, 0, none⟩) hne _, (((uH HY).drewN nq).far (p := ⟨gx, 0, none⟩) (fun e => hne e.symm) _).set_ 0 _, (((Chg.refl (fun b => b = gx ∨ b = gy) w).drewN _).setCell (p := ⟨gx, 0, none⟩) (fun _ => .inl rfl) _).setCell (p := ⟨gy, 0, none⟩) (fun _ => .inr rfl) _⟩
end Go.Proofs.YtinekmjengckdaaGreatDoor
