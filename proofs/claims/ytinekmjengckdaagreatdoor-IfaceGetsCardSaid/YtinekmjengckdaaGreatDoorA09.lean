/-
  Layer 10, the program's side: which things a constructor may have. Layer 10, the program's side: whether a declaration may be, by itself.
-/
import Derived.Test.YtinekmjengckdaaGreatDoorA08
import Derived.Laws.EntriesVeiled
namespace Go.Proofs.YtinekmjengckdaaGreatDoor
open Go.RowKit
set_option maxHeartbeats 4000000
set_option maxRecDepth 100000
theorem idx_high (l : List Int) (A : Option Addr) (c : Nat) (T : Nat → Prop) (w : World) (g : Nat) (p : Int → Bool) (hr : Rd T w A (l.map intl)) (hn : l.length ≤ 1000000) (hcl : ∀ W, Chg (fun _ => False) w W → ∀ x ∈ l, Calls Tryz.prog 150 #[.int .i64 x, .pointer (some ⟨g, 0, none⟩)] W fun e w' => e = .returned (.bool (p x)) ∧ Chg (fun _ => False) W w') :
    Calls Tryz.prog 170 #[.slice A l.length c, .func (.func 150) #[] #[.pointer (some ⟨g, 0, none⟩)]] w fun e w' => e = .returned (.int .i64 (idxP p l)) ∧ Chg (fun _ => False) w w' := by
  have HR := hH hr
  have HCL := hH hcl
  have HNO := hH (idxP_none (p := p) (l := l))
  have HHE := hH (fun k x => idxP_here (p := p) (l := l) (k := k) (x := x))
  generalize idxP p l = R at *
  clear hr hcl
  go_enter Tryz.func170, Tryz.ntmps170
  go_wp2_with fail
  go_loopw [8] (fun i wr => ∃ k : Nat, i = .int .i64 (k : Int) ∧ k ≤ l.length ∧ (∀ j y, j < k → l[j]? = some y → p y = false) ∧ Chg (fun _ => False) w wr) (fun i _ => l.length - (intOf i).toNat)
  case atStart => exact ⟨0, rfl, Nat.zero_le _, fun j y h => absurd h (Nat.not_lt_zero _), Chg.refl _ _⟩
  case round =>
    obtain ⟨wq, rfl⟩ : ∃ wq : World, wq = wr := ⟨_, rfl⟩
    obtain ⟨k, rfl, hk, hall, hch⟩ := hrel
    by_cases hlt : k < l.length
    · have hki : (k : Int) < (l.length : Int) := by omega
      have hx : l[k]? = some l[k] := List.getElem?_eq_getElem hlt
      obtain ⟨b, o, rfl, _, hat⟩ := ((uH HR).chg hch (fun _ _ _ => id)).flat (by intro e; have := congrArg List.length e; rw [List.length_map, List.length_nil] at this; omega)
      have c0 := hat k (intl l[k]) (by rw [List.getElem?_map, hx]; rfl)
      unfold intl at c0
      have hcx := (uH HCL) wq hch l[k] (List.getElem_mem hlt)
      generalize l[k] = x at *
      have HALL := hH hall
      have HX := hH hx
      have HCH := hH hch
      clear hat
      cases hp : p x
      · rw [hp] at hcx
        have HC := hH hcx
        have HP := hH hp
        clear hcx hall hx hch hp
        go_wp2_with (go_at_call 150; refine (uH HC).mono ?_; rintro e w2 ⟨rfl, hc2⟩; have HC2 := hH hc2; clear hc2)
        go_roundw
        case rel =>
          exact ⟨k + 1, by go_num, by omega, fun j y hj hy => by
            rcases Nat.lt_or_ge j k with h | h
            · exact (uH HALL) j y h hy
            · obtain rfl : j = k := by omega
              have := (uH HX).symm.trans hy
              injection this with this
              rw [← this]
              exact uH HP, (uH HCH).trans' (uH HC2)⟩
        case measure => simp [intOf]; omega
      · rw [hp] at hcx
        have HC := hH hcx
        have HF := hH ((uH HHE) k x hx hp hall)
        clear hcx hall hx hch hp
        go_wp2_with (go_at_call 150; refine (uH HC).mono ?_; rintro e w2 ⟨rfl, hc2⟩; have HC2 := hH hc2; clear hc2)
        go_ret
        exact ⟨retv (intv (uH HF).symm), (uH HCH).trans' (uH HC2)⟩
    · obtain rfl : k = l.length := by omega
      have hki : ¬ (l.length : Int) < (l.length : Int) := by omega
      have HF := hH ((uH HNO) (fun j y hy => hall j y (List.getElem?_eq_some_iff.1 hy).1 hy))
      have HCH := hH hch
      clear hall hch
      go_wp2_with fail
      go_ret
      exact ⟨retv (intv (uH HF).symm), uH HCH⟩
theorem has_high (l : List Int) (A : Option Addr) (c : Nat) (T : Nat → Prop) (w : World) (g : Nat) (p : Int → Bool) (hr : Rd T w A (l.map intl)) (hn : l.length ≤ 1000000) (hcl : ∀ W, Chg (fun _ => False) w W → ∀ x ∈ l, Calls Tryz.prog 150 #[.int .i64 x, .pointer (some ⟨g, 0, none⟩)] W fun e w' => e = .returned (.bool (p x)) ∧ Chg (fun _ => False) W w') :
    Calls Tryz.prog 151 #[.slice A l.length c, .func (.func 150) #[] #[.pointer (some ⟨g, 0, none⟩)]] w fun e w' => e = .returned (.bool (l.any p)) ∧ Chg (fun _ => False) w w' := by
  have HI := hH (idx_high l A c T w g p hr hn hcl)
  have ha := idxP_any p l
  generalize idxP p l = R at *
  generalize l.any p = B at *
  clear hr hcl
  have HA := hH ha
  clear ha
  go_enter Tryz.func151, Tryz.ntmps151
  go_wp2_with (go_at_call 170; refine (uH HI).mono ?_; rintro e w2 ⟨rfl, hc2⟩; have HC2 := hH hc2; clear hc2)
  go_ret
  exact ⟨retv (boolv (uH HA)), uH HC2⟩
theorem high_any (x p : Int) (g : Nat) (nm cv : Value) (w : World) (hb : Blk w g 70 #[nm, .int .i64 p, cv]) : Calls Tryz.prog 150 #[.int .i64 x, .pointer (some ⟨g, 0, none⟩)] w fun e w' => e = .returned (.bool (decide (p ≤ x))) ∧ Chg (fun _ => False) w w' := by
  have x1 := hb.cell 1
  simp only [List.getElem?_toArray, List.getElem?_cons_zero, List.getElem?_cons_succ] at x1
  clear hb
  go_enter Tryz.func150, Tryz.ntmps150
  go_wp2_with fail
  go_ret
  exact ⟨rfl, Chg.refl _ _⟩
theorem argB_eq (p : Int) (t : List Nd) : argB p t = ((typE t == 0) && !((varsR t).any fun v => decide (p ≤ v))) := by
  unfold argB typE varsR
  cases typB t with
  | false => rfl
  | true =>
    rw [if_pos rfl, if_pos rfl]
    have : ((varsL t).any fun v => decide (p ≤ v)) = !((varsL t).all fun v => decide (v < p)) := by
      rw [← any_not]
      congr 1
      funext v
      rw [Bool.eq_iff_iff]
      simp
    rw [this]
    simp
theorem arg_any (t : List Nd) (u : Value) (p : Int) (g : Nat) (nm cv : Value) (T : Nat → Prop) (w : World) (hr : RdN T w u t) (hb : Blk w g 70 #[nm, .int .i64 p, cv]) (hl : Lay w) :
    Calls Tryz.prog 149 #[u, .pointer (some ⟨g, 0, none⟩)] w fun e w' => e = .returned (.bool (argB p t)) ∧ Chg (fun _ => False) w w' := by
  have hE := argB_eq p t
  have HC := hH (check_any t u T w hr hl)
  have HV := hH (fun W (hW : Chg (fun _ => False) w W) => vars_any t u T W (hr.chg hW (fun _ _ _ => id)) (hl.chg hW (fun _ _ => id)))
  have hvl : (varsR t).length ≤ 4000 := by
    unfold varsR
    split
    · rename_i h
      unfold typB at h
      simp only [Bool.and_eq_true, decide_eq_true_eq] at h
      have := varsG_len t []
      unfold varsL
      rw [List.length_nil] at this
      omega
    · simp
  have HH := hH (fun W (hW : Chg (fun _ => False) w W) A c T2 (h : Rd T2 W A ((varsR t).map intl)) => has_high (varsR t) A c T2 W g (fun v => decide (p ≤ v)) h (by omega) (fun W2 hW2 x _ => high_any x p g nm cv W2 ((hb.chg hW id).chg hW2 id)))
  obtain ⟨A, c, rfl⟩ := hr.val
  generalize argB p t = E at *
  generalize varsR t = R at *
  generalize R.any (fun v => decide (p ≤ v)) = B at *
  clear hr hl hb
  cases ht : typB t
  · have h90 : typE t = 90 := by unfold typE; rw [ht]; rfl
    rw [h90] at HC hE
    have HE := hH (show E = false by rw [hE]; rfl)
    clear hE h90 ht
    go_enter Tryz.func149, Tryz.ntmps149
    go_wp2_with (go_at_call 98; refine (uH HC).mono ?_; rintro e w2 ⟨rfl, hc2⟩; have HC2 := hH hc2; clear hc2)
    go_ret
    exact ⟨retv (boolv (uH HE).symm), uH HC2⟩
  · have h0 : typE t = 0 := by unfold typE; rw [ht]; rfl
    rw [h0] at HC hE
    have HE := hH (show E = !B by rw [hE]; rfl)
    clear hE h0 ht
    go_enter Tryz.func149, Tryz.ntmps149
    go_wp2_with (first
      | (go_at_call 98; refine (uH HC).mono ?_; rintro e w2 ⟨rfl, hc2⟩; have HC2 := hH hc2; clear hc2)
      | (go_at_call 97; refine ((uH HV) _ (uH HC2)).mono ?_; rintro e w3 ⟨A3, c3, rfl, hr3, hc3⟩; have HC3 := hH ((uH HC2).trans' hc3); have HR3 := hH hr3; clear hc3 hr3)
      | (go_at_call 151; refine ((uH HH) _ (uH HC3) _ _ _ (uH HR3)).mono ?_; rintro e w4 ⟨rfl, hc4⟩; have HC4 := hH ((uH HC3).trans' hc4); clear hc4))
    go_ret
    exact ⟨retv (boolv (uH HE).symm), uH HC4⟩
theorem idx_args (l : List (List Nd)) (v : Value) (T : Nat → Prop) (w : World) (g : Nat) (p : List Nd → Bool) (hr : RdNs T w v l) (hn : l.length ≤ 1000000) (hcl : ∀ W, Chg (fun _ => False) w W → ∀ x ∈ l, ∀ u, RdN T W u x → Calls Tryz.prog 152 #[u, .pointer (some ⟨g, 0, none⟩)] W fun e w' => e = .returned (.bool (p x)) ∧ Chg (fun _ => False) W w') :
    Calls Tryz.prog 154 #[v, .func (.func 152) #[] #[.pointer (some ⟨g, 0, none⟩)]] w fun e w' => e = .returned (.int .i64 (idxP p l)) ∧ Chg (fun _ => False) w w' := by
  obtain ⟨A, c, rfl⟩ := hr.val
  have HR := hH hr
  have HCL := hH hcl
  have HNO := hH (idxP_none (p := p) (l := l))
  have HHE := hH (fun k x => idxP_here (p := p) (l := l) (k := k) (x := x))
  generalize idxP p l = R at *
  clear hr hcl
  go_enter Tryz.func154, Tryz.ntmps154
  go_wp2_with fail
  go_loopw [8] (fun i wr => ∃ k : Nat, i = .int .i64 (k : Int) ∧ k ≤ l.length ∧ (∀ j y, j < k → l[j]? = some y → p y = false) ∧ Chg (fun _ => False) w wr) (fun i _ => l.length - (intOf i).toNat)
  case atStart => exact ⟨0, rfl, Nat.zero_le _, fun j y h => absurd h (Nat.not_lt_zero _), Chg.refl _ _⟩
  case round =>
    obtain ⟨wq, rfl⟩ : ∃ wq : World, wq = wr := ⟨_, rfl⟩
    obtain ⟨k, rfl, hk, hall, hch⟩ := hrel
    by_cases hlt : k < l.length
    · have hki : (k : Int) < (l.length : Int) := by omega
      have hx : l[k]? = some l[k] := List.getElem?_eq_getElem hlt
      obtain ⟨b, o, c2, u, hv, _, hru, c0⟩ := ((uH HR).chg hch (fun _ _ _ => id)).at_ hx
      injection hv with hv1 hv2 hv3
      subst hv1 hv3
      have hcx := (uH HCL) wq hch l[k] (List.getElem_mem hlt) u hru
      generalize l[k] = x at *
      have HALL := hH hall
      have HX := hH hx
      have HCH := hH hch
      cases hp : p x
      · rw [hp] at hcx
        have HC := hH hcx
        have HP := hH hp
        clear hcx hall hx hch hp
        go_wp2_with (go_at_call 152; refine (uH HC).mono ?_; rintro e w2 ⟨rfl, hc2⟩; have HC2 := hH hc2; clear hc2)
        go_roundw
        case rel =>
          exact ⟨k + 1, by go_num, by omega, fun j y hj hy => by
            rcases Nat.lt_or_ge j k with h | h
            · exact (uH HALL) j y h hy
            · obtain rfl : j = k := by omega
              have := (uH HX).symm.trans hy
              injection this with this
              rw [← this]
              exact uH HP, (uH HCH).trans' (uH HC2)⟩
        case measure => simp [intOf]; omega
      · rw [hp] at hcx
        have HC := hH hcx
        have HF := hH ((uH HHE) k x hx hp hall)
        clear hcx hall hx hch hp
        go_wp2_with (go_at_call 152; refine (uH HC).mono ?_; rintro e w2 ⟨rfl, hc2⟩; have HC2 := hH hc2; clear hc2)
        go_ret
        exact ⟨retv (intv (uH HF).symm), (uH HCH).trans' (uH HC2)⟩
    · obtain rfl : k = l.length := by omega
      have hki : ¬ (l.length : Int) < (l.length : Int) := by omega
      have HF := hH ((uH HNO) (fun j y hy => hall j y (List.getElem?_eq_some_iff.1 hy).1 hy))
      have HCH := hH hch
      clear hall hch
      go_wp2_with fail
      go_ret
      exact ⟨retv (intv (uH HF).symm), uH HCH⟩
theorem has_args (l : List (List Nd)) (v : Value) (T : Nat → Prop) (w : World) (g : Nat) (p : List Nd → Bool) (hr : RdNs T w v l) (hn : l.length ≤ 1000000) (hcl : ∀ W, Chg (fun _ => False) w W → ∀ x ∈ l, ∀ u, RdN T W u x → Calls Tryz.prog 152 #[u, .pointer (some ⟨g, 0, none⟩)] W fun e w' => e = .returned (.bool (p x)) ∧ Chg (fun _ => False) W w') :
    Calls Tryz.prog 113 #[v, .func (.func 152) #[] #[.pointer (some ⟨g, 0, none⟩)]] w fun e w' => e = .returned (.bool (l.any p)) ∧ Chg (fun _ => False) w w' := by
  have HI := hH (idx_args l v T w g p hr hn hcl)
  have ha := idxP_any p l
  obtain ⟨A, c, rfl⟩ := hr.val
  generalize idxP p l = R at *
  generalize l.any p = B at *
  clear hr hcl
  have HA := hH ha
  clear ha
  go_enter Tryz.func113, Tryz.ntmps113
  go_wp2_with (go_at_call 154; refine (uH HI).mono ?_; rintro e w2 ⟨rfl, hc2⟩; have HC2 := hH hc2; clear hc2)
  go_ret
  exact ⟨retv (boolv (uH HA)), uH HC2⟩
end Go.Proofs.YtinekmjengckdaaGreatDoor

namespace Go.Proofs.YtinekmjengckdaaGreatDoor
open Go.RowKit
set_option maxHeartbeats 4000000
set_option maxRecDepth 100000
theorem odd_any (t : List Nd) (u : Value) (p : Int) (g g2 : Nat) (nm cv : Value) (T : Nat → Prop) (w : World) (hr : RdN T w u t) (hb : Blk w g 70 #[nm, .int .i64 p, cv]) (hb2 : Blk w g2 128 #[.func (.func 149) #[] #[.pointer (some ⟨g, 0, none⟩)]]) (hl : Lay w) :
    Calls Tryz.prog 152 #[u, .pointer (some ⟨g2, 0, none⟩)] w fun e w' => e = .returned (.bool (!argB p t)) ∧ Chg (fun _ => False) w w' := by
  have HC := hH (arg_any t u p g nm cv T w hr hb hl)
  obtain ⟨A, c, rfl⟩ := hr.val
  have x0 := hb2.cell 0
  simp only [List.getElem?_toArray, List.getElem?_cons_zero] at x0
  generalize argB p t = E at *
  clear hr hb hb2 hl
  go_enter Tryz.func152, Tryz.ntmps152
  go_wp2_with (go_at_call 149; refine (uH HC).mono ?_; rintro e w2 ⟨rfl, hc2⟩; have HC2 := hH hc2; clear hc2)
  go_ret
  exact ⟨rfl, uH HC2⟩
theorem all_take_succ {α : Type} (p : α → Bool) (l : List α) (k : Nat) (h : k < l.length) : (l.take (k + 1)).all p = ((l.take k).all p && p l[k]) := by
  rw [List.take_succ_eq_append_getElem h, List.all_append]
  simp
theorem all_of_take {α : Type} {p : α → Bool} {l : List α} {k : Nat} {x : α} (hx : l[k]? = some x) (hp : p x = false) : l.all p = false := by
  rw [List.all_eq_false]
  exact ⟨x, List.mem_of_getElem? hx, by rw [hp]; exact Bool.false_ne_true⟩
theorem right_dt (d : Dt) (u : Value) (T : Nat → Prop) (w : World) (hr : RdC T w u d.cons) (hs : d.name.size ≤ 9223372036854775807) (hl : Lay w) :
    Calls Tryz.prog 103 #[.agg #[.string d.name, .int .i64 d.params, u]] w fun e w' => e = .returned (.bool (dtB d)) ∧ Chg (fun _ => False) w w' := by
  obtain ⟨nm, p, l⟩ := d
  dsimp only at *
  have hE : dtB ⟨nm, p, l⟩ = (nameB 2 nm && decide (0 ≤ p) && decide (p ≤ 8) && decide (1 ≤ l.length) && decide (l.length ≤ 60) && l.all (ctB p)) := rfl
  generalize dtB ⟨nm, p, l⟩ = E at *
  have hbig := hr.big
  obtain ⟨A, c, hu⟩ := hr.val
  subst hu
  have k1 := ((Blk.new w 70 #[.string nm, .int .i64 p, .slice A l.length c]).alloc (.cells #[.func (.func 149) #[] #[.pointer (some ⟨w.heap.size, 0, none⟩)]] 128))
  have k2 := Blk.new_at (w.alloc (.cells #[.string nm, .int .i64 p, .slice A l.length c] 70)) (w.heap.size + 1) 128 #[.func (.func 149) #[] #[.pointer (some ⟨w.heap.size, 0, none⟩)]] (by simp)
  have hc1 : Chg (fun _ => False) w ((w.alloc (.cells #[.string nm, .int .i64 p, .slice A l.length c] 70)).alloc (.cells #[.func (.func 149) #[] #[.pointer (some ⟨w.heap.size, 0, none⟩)]] 128)) := ((Chg.refl _ w).alloc _).alloc _
  have HR := hH hr
  have HL := hH hl
  have HE := hH hE
  clear hr hl hE
  go_enter Tryz.func103, Tryz.ntmps103
  go_upto_region 2 with fail
  generalize (w.alloc (.cells #[.string nm, .int .i64 p, .slice A l.length c] 70)).alloc (.cells #[.func (.func 149) #[] #[.pointer (some ⟨w.heap.size, 0, none⟩)]] 128) = w1 at *
  generalize w.heap.size + 1 = g2 at *
  generalize w.heap.size = g at *
  have x0 := k1.cell 0
  have x1 := k1.cell 1
  have x2 := k1.cell 2
  simp only [List.getElem?_toArray, List.getElem?_cons_zero, List.getElem?_cons_succ] at x0 x1 x2
  have HK1 := hH k1
  have HK2 := hH k2
  have HC1 := hH hc1
  have HN := hH (named_any nm w1 hs ((uH HL).chg hc1 (fun _ _ => id)))
  clear k1 k2 hc1
  by_cases hok : nameB 2 nm = true ∧ ¬ p < 0 ∧ ¬ 8 < p ∧ ¬ (l.length : Int) < 1 ∧ ¬ 60 < (l.length : Int)
  · obtain ⟨hnb, h1, h2, h3, h4⟩ := hok
    have HE2 := hH (show E = l.all (ctB p) from by
      rw [uH HE, hnb, decide_eq_true (show 0 ≤ p by omega), decide_eq_true (show p ≤ 8 by omega), decide_eq_true (show 1 ≤ l.length by omega), decide_eq_true (show l.length ≤ 60 by omega)]
      simp)
    rw [hnb] at HN
    clear hnb HE
    go_wp2_with (go_at_call 110; refine (uH HN).mono ?_; rintro e w2 ⟨rfl, hc2⟩; have HC2 := hH hc2; have kk := (uH HK1).chg hc2 id; have y1 := kk.cell 1; have y2 := kk.cell 2; simp only [List.getElem?_toArray, List.getElem?_cons_zero, List.getElem?_cons_succ] at y1 y2; clear kk hc2)
    clear x0 x1 x2 y1 y2
    go_loopw [37] (fun i wr => ∃ k : Nat, i = .int .i64 (k : Int) ∧ k ≤ l.length ∧ (l.take k).all (ctB p) = true ∧ Chg (fun _ => False) w1 wr) (fun i _ => l.length - (intOf i).toNat)
    case atStart => exact ⟨0, rfl, Nat.zero_le _, rfl, uH HC2⟩
    case round =>
      obtain ⟨wq, rfl⟩ : ∃ wq : World, wq = wr := ⟨_, rfl⟩
      obtain ⟨k, rfl, hk, hall, hch⟩ := hrel
      by_cases hlt : k < l.length
      · have hki : (k : Int) < (l.length : Int) := by omega
        have hx : l[k]? = some l[k] := List.getElem?_eq_getElem hlt
        have hsn := all_take_succ (ctB p) l k hlt
        generalize l[k] = x at *
        obtain ⟨b, o, c2, u, hv, _, hru, hns, c0, c3⟩ := ((uH HR).chg ((uH HC1).trans' hch) (fun _ _ _ => id)).at_ hx
        injection hv with hv1 hv2 hv3
        subst hv1 hv3
        obtain ⟨B, c5, rfl⟩ := hru.val
        have hCT : ctB p x = (nameB 2 x.name && decide (x.args.length ≤ 8) && x.args.all (argB p)) := rfl
        have HSN := hH hsn
        have HX := hH hx
        have HCH := hH hch
        have HRU := hH hru
        have HALL := hH hall
        clear hsn hx hch hall hru
        go_upto_region 8 with fail
        have bk := Blk.new wq 64 #[.string x.name, .slice B x.args.length c5]
        have hc3 : Chg (fun _ => False) wq (wq.alloc (.cells #[.string x.name, .slice B x.args.length c5] 64)) := (Chg.refl _ wq).alloc _
        generalize wq.alloc (.cells #[.string x.name, .slice B x.args.length c5] 64) = w3 at *
        generalize wq.heap.size = nb at *
        have z0 := bk.cell 0
        have z1 := bk.cell 1
        simp only [List.getElem?_toArray, List.getElem?_cons_zero, List.getElem?_cons_succ] at z0 z1
        have HBK := hH bk
        have HC3 := hH ((uH HCH).trans' hc3)
        have HRU3 := hH ((uH HRU).chg hc3 (fun _ _ _ => id))
        have HN3 := hH (named_any x.name w3 hns ((uH HL).chg ((uH HC1).trans' (uH HC3)) (fun _ _ => id)))
        clear bk hc3 c0 c3
        cases hcn : nameB 2 x.name
        · rw [hcn] at HN3 hCT
          have HF := hH (show E = false from by rw [uH HE2]; exact all_of_take (uH HX) (by rw [hCT]; rfl))
          clear hcn hCT
          go_wp2_with (go_at_call 110; refine (uH HN3).mono ?_; rintro e w4 ⟨rfl, hc4⟩; have HC4 := hH hc4; clear hc4)
          go_ret
          exact ⟨retv (boolv (uH HF).symm), (uH HC1).trans' ((uH HC3).trans' (uH HC4))⟩
        · rw [hcn] at HN3 hCT
          by_cases h8 : 8 < (x.args.length : Int)
          · have HF := hH (show E = false from by rw [uH HE2]; exact all_of_take (uH HX) (by rw [hCT, decide_eq_false (show ¬ x.args.length ≤ 8 by omega)]; rfl))
            clear hcn hCT
            go_wp2_with (go_at_call 110; refine (uH HN3).mono ?_; rintro e w4 ⟨rfl, hc4⟩; have HC4 := hH hc4; have q1 := ((uH HBK).chg hc4 id).cell 1; simp only [List.getElem?_toArray, List.getElem?_cons_zero, List.getElem?_cons_succ] at q1; clear hc4)
            go_ret
            exact ⟨retv (boolv (uH HF).symm), (uH HC1).trans' ((uH HC3).trans' (uH HC4))⟩
          · have HH := hH (fun W (hW : Chg (fun _ => False) w3 W) => has_args x.args (.slice B x.args.length c5) T W g2 (fun t => !argB p t) ((uH HRU3).chg hW (fun _ _ _ => id)) (by omega) (fun W2 hW2 t _ v hv => odd_any t v p g g2 _ _ T W2 hv ((uH HK1).chg ((uH HC3).trans' (hW.trans' hW2)) id) ((uH HK2).chg ((uH HC3).trans' (hW.trans' hW2)) id) ((uH HL).chg ((uH HC1).trans' ((uH HC3).trans' (hW.trans' hW2))) (fun _ _ => id))))
            rw [any_not] at HH
            rw [decide_eq_true (show x.args.length ≤ 8 by omega)] at hCT
            generalize x.args.all (argB p) = AB at *
            cases AB
            · have HF := hH (show E = false from by rw [uH HE2]; exact all_of_take (uH HX) (by rw [hCT]; rfl))
              clear hcn hCT
              go_wp2_with (first
                | (go_at_call 110; refine (uH HN3).mono ?_; rintro e w4 ⟨rfl, hc4⟩; have HC4 := hH hc4; have q1 := ((uH HBK).chg hc4 id).cell 1; simp only [List.getElem?_toArray, List.getElem?_cons_zero, List.getElem?_cons_succ] at q1; clear hc4)
                | (go_at_call 113; refine ((uH HH) _ (uH HC4)).mono ?_; rintro e w5 ⟨rfl, hc5⟩; have HC5 := hH hc5; clear hc5))
              go_ret
              exact ⟨retv (boolv (uH HF).symm), (uH HC1).trans' ((uH HC3).trans' ((uH HC4).trans' (uH HC5)))⟩
            · have HS := hH (show (l.take (k + 1)).all (ctB p) = true from by rw [uH HSN, uH HALL, hCT]; rfl)
              clear hcn hCT
              go_wp2_with (first
                | (go_at_call 110; refine (uH HN3).mono ?_; rintro e w4 ⟨rfl, hc4⟩; have HC4 := hH hc4; have q1 := ((uH HBK).chg hc4 id).cell 1; simp only [List.getElem?_toArray, List.getElem?_cons_zero, List.getElem?_cons_succ] at q1; clear hc4)
                | (go_at_call 113; refine ((uH HH) _ (uH HC4)).mono ?_; rintro e w5 ⟨rfl, hc5⟩; have HC5 := hH hc5; clear hc5))
              go_roundw
              case rel => exact ⟨k + 1, by go_num, by omega, uH HS, (uH HC3).trans' ((uH HC4).trans' (uH HC5))⟩
              case measure => simp [intOf]; omega
      · obtain rfl : k = l.length := by omega
        have hki : ¬ (l.length : Int) < (l.length : Int) := by omega
        have HF := hH (show E = true from by rw [uH HE2]; rw [List.take_length] at hall; exact hall)
        have HCH := hH hch
        clear hall hch
        go_wp2_with fail
        go_ret
        exact ⟨retv (boolv (uH HF).symm), (uH HC1).trans' (uH HCH)⟩
  · have HF := hH (show E = false from by
      rw [uH HE, ← Bool.not_eq_true]
      intro h
      simp only [Bool.and_eq_true, decide_eq_true_eq] at h
      exact hok ⟨h.1.1.1.1.1, by omega, by omega, by omega, by omega⟩)
    cases hnb : nameB 2 nm
    · rw [hnb] at HN
      clear hnb hok HE
      go_wp2_with (go_at_call 110; refine (uH HN).mono ?_; rintro e w2 ⟨rfl, hc2⟩; have HC2 := hH hc2; clear hc2)
      go_ret
      exact ⟨retv (boolv (uH HF).symm), (uH HC1).trans' (uH HC2)⟩
    · rw [hnb] at HN
      have hal : p < 0 ∨ (¬ p < 0 ∧ 8 < p) ∨ (¬ p < 0 ∧ ¬ 8 < p ∧ (l.length : Int) < 1) ∨ (¬ p < 0 ∧ ¬ 8 < p ∧ ¬ (l.length : Int) < 1 ∧ 60 < (l.length : Int)) := by
        by_cases a1 : p < 0
        · exact .inl a1
        · by_cases a2 : 8 < p
          · exact .inr (.inl ⟨a1, a2⟩)
          · by_cases a3 : (l.length : Int) < 1
            · exact .inr (.inr (.inl ⟨a1, a2, a3⟩))
            · by_cases a4 : 60 < (l.length : Int)
              · exact .inr (.inr (.inr ⟨a1, a2, a3, a4⟩))
              · exact absurd ⟨hnb, a1, a2, a3, a4⟩ hok
      clear hnb hok HE
      rcases hal with h1 | ⟨h1, h2⟩ | ⟨h1, h2, h3⟩ | ⟨h1, h2, h3, h4⟩
      all_goals
        go_wp2_with (go_at_call 110; refine (uH HN).mono ?_; rintro e w2 ⟨rfl, hc2⟩; have HC2 := hH hc2; have kk := (uH HK1).chg hc2 id; have y1 := kk.cell 1; have y2 := kk.cell 2; simp only [List.getElem?_toArray, List.getElem?_cons_zero, List.getElem?_cons_succ] at y1 y2; clear kk hc2)
        go_ret
        exact ⟨retv (boolv (uH HF).symm), (uH HC1).trans' (uH HC2)⟩
end Go.Proofs.YtinekmjengckdaaGreatDoor
