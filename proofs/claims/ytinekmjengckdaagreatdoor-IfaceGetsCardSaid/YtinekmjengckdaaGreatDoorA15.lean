/-
  Layer 23: fixities: whether one may be; the first of an operator. Layer 23: fixities: the first of an operator; whether they may be, together.
-/
import Derived.Test.YtinekmjengckdaaGreatDoorA12
import Derived.Test.YtinekmjengckdaaGreatDoorA14
import Derived.Test.YtinekmjengckdaaGreatDoorA03
namespace Go.Proofs.YtinekmjengckdaaGreatDoor
open Go.RowKit
set_option maxHeartbeats 4000000
set_option maxRecDepth 100000
theorem fixRight_any (x : Fx) (w : World) (hs : x.op.size ≤ 9223372036854775807) (lay : Lay w) :
    Calls Tryz.prog 118 #[.agg #[.string x.op, .int .i64 x.level, .int .i64 x.side]] w fun e w' => e = .returned (.bool (fxB x)) ∧ Chg (fun _ => False) w w' := by
  have c0 := ((Chg.refl (fun _ => False) w).alloc (.cells #[.string x.op, .int .i64 x.level, .int .i64 x.side] 53)).alloc (.cells #[.int .i64 5, .string x.op, .int .i64 0, .int .i64 0] 138)
  have b0 := (Blk.new w 53 #[.string x.op, .int .i64 x.level, .int .i64 x.side]).alloc (.cells #[.int .i64 5, .string x.op, .int .i64 0, .int .i64 0] 138)
  have HR := hH (right_op x.op _ hs (lay.chg c0 (fun _ _ => id)))
  have HC0 := hH c0
  have HB := hH b0
  have hE : fxB x = (opB x.op && decide (0 ≤ x.level) && decide (x.level ≤ 9) && decide (-1 ≤ x.side) && decide (x.side ≤ 1)) := rfl
  generalize fxB x = E at *
  generalize opB x.op = ob at *
  clear c0 b0 lay
  have fin : ∀ (b : Bool) (w2 : World), E = b → Chg (fun _ => False) ((w.alloc (.cells #[.string x.op, .int .i64 x.level, .int .i64 x.side] 53)).alloc (.cells #[.int .i64 5, .string x.op, .int .i64 0, .int .i64 0] 138)) w2 → Ending.returned (Value.bool b) = Ending.returned (Value.bool E) ∧ Chg (fun _ => False) w w2 := fun b w2 h hc => ⟨by rw [h], (uH HC0).trans' hc⟩
  have HFIN := hH fin
  clear fin
  cases ob
  · have HE := hH (show E = false from by rw [hE]; simp [*])
    clear hE
    go_enter Tryz.func118, Tryz.ntmps118
    go_wp2_with (go_at_call 96; refine (uH HR).mono ?_; rintro e w2 ⟨rfl, hc2⟩; have q1 := ((uH HB).chg hc2 id).cell 1; have q2 := ((uH HB).chg hc2 id).cell 2; simp only [List.getElem?_toArray, List.getElem?_cons_zero, List.getElem?_cons_succ] at q1 q2; have HC2 := hH hc2; clear hc2)
    go_ret
    exact uH HFIN _ _ (by first | exact uH HE | (rw [uH HE]; simp [*])) (uH HC2)
  · by_cases h0 : 0 ≤ x.level
    rotate_left
    · have HE := hH (show E = false from by rw [hE]; simp [*])
      clear hE
      go_enter Tryz.func118, Tryz.ntmps118
      go_wp2_with (go_at_call 96; refine (uH HR).mono ?_; rintro e w2 ⟨rfl, hc2⟩; have q1 := ((uH HB).chg hc2 id).cell 1; have q2 := ((uH HB).chg hc2 id).cell 2; simp only [List.getElem?_toArray, List.getElem?_cons_zero, List.getElem?_cons_succ] at q1 q2; have HC2 := hH hc2; clear hc2)
      go_ret
      exact uH HFIN _ _ (by first | exact uH HE | (rw [uH HE]; simp [*])) (uH HC2)
    by_cases h1 : x.level ≤ 9
    rotate_left
    · have HE := hH (show E = false from by rw [hE]; simp [*])
      clear hE
      go_enter Tryz.func118, Tryz.ntmps118
      go_wp2_with (go_at_call 96; refine (uH HR).mono ?_; rintro e w2 ⟨rfl, hc2⟩; have q1 := ((uH HB).chg hc2 id).cell 1; have q2 := ((uH HB).chg hc2 id).cell 2; simp only [List.getElem?_toArray, List.getElem?_cons_zero, List.getElem?_cons_succ] at q1 q2; have HC2 := hH hc2; clear hc2)
      go_ret
      exact uH HFIN _ _ (by first | exact uH HE | (rw [uH HE]; simp [*])) (uH HC2)
    by_cases h2 : -1 ≤ x.side
    rotate_left
    · have HE := hH (show E = false from by rw [hE]; simp [*])
      clear hE
      go_enter Tryz.func118, Tryz.ntmps118
      go_wp2_with (go_at_call 96; refine (uH HR).mono ?_; rintro e w2 ⟨rfl, hc2⟩; have q1 := ((uH HB).chg hc2 id).cell 1; have q2 := ((uH HB).chg hc2 id).cell 2; simp only [List.getElem?_toArray, List.getElem?_cons_zero, List.getElem?_cons_succ] at q1 q2; have HC2 := hH hc2; clear hc2)
      go_ret
      exact uH HFIN _ _ (by first | exact uH HE | (rw [uH HE]; simp [*])) (uH HC2)
    by_cases h3 : x.side ≤ 1
    rotate_left
    · have HE := hH (show E = false from by rw [hE]; simp [*])
      clear hE
      go_enter Tryz.func118, Tryz.ntmps118
      go_wp2_with (go_at_call 96; refine (uH HR).mono ?_; rintro e w2 ⟨rfl, hc2⟩; have q1 := ((uH HB).chg hc2 id).cell 1; have q2 := ((uH HB).chg hc2 id).cell 2; simp only [List.getElem?_toArray, List.getElem?_cons_zero, List.getElem?_cons_succ] at q1 q2; have HC2 := hH hc2; clear hc2)
      go_ret
      exact uH HFIN _ _ (by first | exact uH HE | (rw [uH HE]; simp [*])) (uH HC2)
    have HE := hH (show E = true from by rw [hE]; simp [*])
    clear hE
    go_enter Tryz.func118, Tryz.ntmps118
    go_wp2_with (go_at_call 96; refine (uH HR).mono ?_; rintro e w2 ⟨rfl, hc2⟩; have q1 := ((uH HB).chg hc2 id).cell 1; have q2 := ((uH HB).chg hc2 id).cell 2; simp only [List.getElem?_toArray, List.getElem?_cons_zero, List.getElem?_cons_succ] at q1 q2; have HC2 := hH hc2; clear hc2)
    go_ret
    exact uH HFIN _ _ (by first | exact uH HE | (rw [uH HE]; simp [*])) (uH HC2)
theorem idx_fr (l : List Fx) (v : Value) (T : Nat → Prop) (w : World) (p : Fx → Bool) (hr : RdF T w v l) (hn : l.length ≤ 1000000) (hcl : ∀ W, Chg (fun _ => False) w W → ∀ x ∈ l, x.op.size ≤ 9223372036854775807 → Calls Tryz.prog 117 #[.agg #[.string x.op, .int .i64 x.level, .int .i64 x.side]] W fun e w' => e = .returned (.bool (p x)) ∧ Chg (fun _ => False) W w') :
    Calls Tryz.prog 156 #[v, .func (.func 117) #[] #[]] w fun e w' => e = .returned (.int .i64 (idxP p l)) ∧ Chg (fun _ => False) w w' := by
  obtain ⟨A, c, rfl⟩ := RdR.val hr
  have HR := hH hr
  have HCL := hH hcl
  have HNO := hH (idxP_none (p := p) (l := l))
  have HHE := hH (fun k x => idxP_here (p := p) (l := l) (k := k) (x := x))
  generalize idxP p l = R at *
  clear hr hcl
  go_enter Tryz.func156, Tryz.ntmps156
  go_wp2_with fail
  go_loopw [8] (fun i wr => ∃ k : Nat, i = .int .i64 (k : Int) ∧ k ≤ l.length ∧ (∀ j y, j < k → l[j]? = some y → p y = false) ∧ Chg (fun _ => False) w wr) (fun i _ => l.length - (intOf i).toNat)
  case atStart => exact ⟨0, rfl, Nat.zero_le _, fun j y h => absurd h (Nat.not_lt_zero _), Chg.refl _ _⟩
  case round =>
    obtain ⟨wq, rfl⟩ : ∃ wq : World, wq = wr := ⟨_, rfl⟩
    obtain ⟨k, rfl, hk, hall, hch⟩ := hrel
    by_cases hlt : k < l.length
    · have hki : (k : Int) < (l.length : Int) := by omega
      have hx : l[k]? = some l[k] := List.getElem?_eq_getElem hlt
      obtain ⟨b, o, c2, hv, _, hxs, c0, c1, c3⟩ := RdF.at_ (RdF.chg (uH HR) hch (fun _ _ _ => id)) hx
      injection hv with hv1 hv2 hv3
      subst hv1 hv3
      have hcx := (uH HCL) wq hch l[k] (List.getElem_mem hlt) hxs
      generalize l[k] = x at *
      have HALL := hH hall
      have HX := hH hx
      have HCH := hH hch
      cases hp : p x
      · rw [hp] at hcx
        have HC := hH hcx
        have HP := hH hp
        clear hcx hall hx hch hp
        go_wp2_with (go_at_call 117; refine (uH HC).mono ?_; rintro e w2 ⟨rfl, hc2⟩; have HC2 := hH hc2; clear hc2)
        go_roundw
        case rel =>
          exact ⟨k + 1, by go_num, by omega, fun j y hj hy => by
            rcases Nat.lt_or_ge j k with h | h
            · exact (uH HALL) j y h hy
            · obtain rfl : j = k := by omega
              have := (uH HX).symm.trans hy
              injection this with this
              rw [← this]
              exact uH HP, (uH HCH).trans' (uH HC2)⟩
        case measure => simp [intOf]; omega
      · rw [hp] at hcx
        have HC := hH hcx
        have HF := hH ((uH HHE) k x hx hp hall)
        clear hcx hall hx hch hp
        go_wp2_with (go_at_call 117; refine (uH HC).mono ?_; rintro e w2 ⟨rfl, hc2⟩; have HC2 := hH hc2; clear hc2)
        go_ret
        exact ⟨retv (intv (uH HF).symm), (uH HCH).trans' (uH HC2)⟩
    · obtain rfl : k = l.length := by omega
      have hki : ¬ (l.length : Int) < (l.length : Int) := by omega
      have HF := hH ((uH HNO) (fun j y hy => hall j y (List.getElem?_eq_some_iff.1 hy).1 hy))
      have HCH := hH hch
      clear hall hch
      go_wp2_with fail
      go_ret
      exact ⟨retv (intv (uH HF).symm), uH HCH⟩
theorem has_fr (l : List Fx) (v : Value) (T : Nat → Prop) (w : World) (p : Fx → Bool) (hr : RdF T w v l) (hn : l.length ≤ 1000000) (hcl : ∀ W, Chg (fun _ => False) w W → ∀ x ∈ l, x.op.size ≤ 9223372036854775807 → Calls Tryz.prog 117 #[.agg #[.string x.op, .int .i64 x.level, .int .i64 x.side]] W fun e w' => e = .returned (.bool (p x)) ∧ Chg (fun _ => False) W w') :
    Calls Tryz.prog 116 #[v, .func (.func 117) #[] #[]] w fun e w' => e = .returned (.bool (l.any p)) ∧ Chg (fun _ => False) w w' := by
  have HI := hH (idx_fr l v T w  p hr hn hcl)
  have ha := idxP_any p l
  obtain ⟨A, c, rfl⟩ := RdR.val hr
  generalize idxP p l = R at *
  generalize l.any p = B at *
  clear hr hcl
  have HA := hH ha
  clear ha
  go_enter Tryz.func116, Tryz.ntmps116
  go_wp2_with (go_at_call 156; refine (uH HI).mono ?_; rintro e w2 ⟨rfl, hc2⟩; have HC2 := hH hc2; clear hc2)
  go_ret
  exact ⟨retv (boolv (uH HA)), uH HC2⟩
theorem idx_fn (l : List Fx) (v : Value) (T : Nat → Prop) (w : World) (g : Nat) (p : Fx → Bool) (hr : RdF T w v l) (hn : l.length ≤ 1000000) (hcl : ∀ W, Chg (fun _ => False) w W → ∀ x ∈ l, x.op.size ≤ 9223372036854775807 → Calls Tryz.prog 157 #[.agg #[.string x.op, .int .i64 x.level, .int .i64 x.side], .pointer (some ⟨g, 0, none⟩)] W fun e w' => e = .returned (.bool (p x)) ∧ Chg (fun _ => False) W w') :
    Calls Tryz.prog 156 #[v, .func (.func 157) #[] #[.pointer (some ⟨g, 0, none⟩)]] w fun e w' => e = .returned (.int .i64 (idxP p l)) ∧ Chg (fun _ => False) w w' := by
  obtain ⟨A, c, rfl⟩ := RdR.val hr
  have HR := hH hr
  have HCL := hH hcl
  have HNO := hH (idxP_none (p := p) (l := l))
  have HHE := hH (fun k x => idxP_here (p := p) (l := l) (k := k) (x := x))
  generalize idxP p l = R at *
  clear hr hcl
  go_enter Tryz.func156, Tryz.ntmps156
  go_wp2_with fail
  go_loopw [8] (fun i wr => ∃ k : Nat, i = .int .i64 (k : Int) ∧ k ≤ l.length ∧ (∀ j y, j < k → l[j]? = some y → p y = false) ∧ Chg (fun _ => False) w wr) (fun i _ => l.length - (intOf i).toNat)
  case atStart => exact ⟨0, rfl, Nat.zero_le _, fun j y h => absurd h (Nat.not_lt_zero _), Chg.refl _ _⟩
  case round =>
    obtain ⟨wq, rfl⟩ : ∃ wq : World, wq = wr := ⟨_, rfl⟩
    obtain ⟨k, rfl, hk, hall, hch⟩ := hrel
    by_cases hlt : k < l.length
    · have hki : (k : Int) < (l.length : Int) := by omega
      have hx : l[k]? = some l[k] := List.getElem?_eq_getElem hlt
      obtain ⟨b, o, c2, hv, _, hxs, c0, c1, c3⟩ := RdF.at_ (RdF.chg (uH HR) hch (fun _ _ _ => id)) hx
      injection hv with hv1 hv2 hv3
      subst hv1 hv3
      have hcx := (uH HCL) wq hch l[k] (List.getElem_mem hlt) hxs
      generalize l[k] = x at *
      have HALL := hH hall
      have HX := hH hx
      have HCH := hH hch
      cases hp : p x
      · rw [hp] at hcx
        have HC := hH hcx
        have HP := hH hp
        clear hcx hall hx hch hp
        go_wp2_with (go_at_call 157; refine (uH HC).mono ?_; rintro e w2 ⟨rfl, hc2⟩; have HC2 := hH hc2; clear hc2)
        go_roundw
        case rel =>
          exact ⟨k + 1, by go_num, by omega, fun j y hj hy => by
            rcases Nat.lt_or_ge j k with h | h
            · exact (uH HALL) j y h hy
            · obtain rfl : j = k := by omega
              have := (uH HX).symm.trans hy
              injection this with this
              rw [← this]
              exact uH HP, (uH HCH).trans' (uH HC2)⟩
        case measure => simp [intOf]; omega
      · rw [hp] at hcx
        have HC := hH hcx
        have HF := hH ((uH HHE) k x hx hp hall)
        clear hcx hall hx hch hp
        go_wp2_with (go_at_call 157; refine (uH HC).mono ?_; rintro e w2 ⟨rfl, hc2⟩; have HC2 := hH hc2; clear hc2)
        go_ret
        exact ⟨retv (intv (uH HF).symm), (uH HCH).trans' (uH HC2)⟩
    · obtain rfl : k = l.length := by omega
      have hki : ¬ (l.length : Int) < (l.length : Int) := by omega
      have HF := hH ((uH HNO) (fun j y hy => hall j y (List.getElem?_eq_some_iff.1 hy).1 hy))
      have HCH := hH hch
      clear hall hch
      go_wp2_with fail
      go_ret
      exact ⟨retv (intv (uH HF).symm), uH HCH⟩
theorem fixOdd_any (x : Fx) (w : World) (hs : x.op.size ≤ 9223372036854775807) (lay : Lay w) :
    Calls Tryz.prog 117 #[.agg #[.string x.op, .int .i64 x.level, .int .i64 x.side]] w fun e w' => e = .returned (.bool (!fxB x)) ∧ Chg (fun _ => False) w w' := by
  have h0 := (Chg.refl (fun _ => False) w).alloc (.cells #[.string x.op, .int .i64 x.level, .int .i64 x.side] 53)
  have HC := hH (fixRight_any x _ hs (lay.chg h0 (fun _ _ => id)))
  generalize fxB x = E at *
  have H0 := hH h0
  clear h0 lay
  go_enter Tryz.func117, Tryz.ntmps117
  go_wp2_with (go_at_call 118; refine (uH HC).mono ?_; rintro e w2 ⟨rfl, hc2⟩; have HC2 := hH hc2; clear hc2)
  go_ret
  exact ⟨rfl, (uH H0).trans' (uH HC2)⟩
theorem fixSame_any (x : Fx) (op : ByteArray) (g : Nat) (w : World) (hg : w.cell? ⟨g, 0, none⟩ = some (.string op)) :
    Calls Tryz.prog 157 #[.agg #[.string x.op, .int .i64 x.level, .int .i64 x.side], .pointer (some ⟨g, 0, none⟩)] w fun e w' => e = .returned (.bool (decide (x.op = op))) ∧ Chg (fun _ => False) w w' := by
  have h0 := (Chg.refl (fun _ => False) w).alloc (.cells #[.string x.op, .int .i64 x.level, .int .i64 x.side] 53)
  have q0 := (h0.cell (World.block_lt_of_cell? w _ hg) id).trans hg
  have hd : decide (x.op = op) = (x.op.toList == op.toList) := by
    rw [Bool.eq_iff_iff, decide_eq_true_eq, beq_iff_eq]
    exact ⟨fun h => by rw [h], bytes_eq⟩
  have H0 := hH h0
  have HD := hH hd
  clear h0 hd hg
  generalize hxo : x.op = xo at *
  go_enter Tryz.func157, Tryz.ntmps157
  go_wp2_with fail
  go_ret
  exact ⟨retv (boolv (uH HD).symm), uH H0⟩
end Go.Proofs.YtinekmjengckdaaGreatDoor

namespace Go.Proofs.YtinekmjengckdaaGreatDoor
open Go.RowKit
set_option maxHeartbeats 4000000
set_option maxRecDepth 100000
theorem idxP_some {α : Type} {p : α → Bool} {l : List α} (h : l.any p = true) : ∃ (k : Nat) (x : α), l[k]? = some x ∧ p x = true ∧ idxP p l = (k : Int) := by
  have h2 := idxP_any p l
  rw [h, decide_eq_true_eq] at h2
  unfold idxP at h2 ⊢
  cases e : l.findIdx? p with
  | none => rw [e] at h2; exact absurd h2 (by decide)
  | some k =>
    rw [List.findIdx?_eq_some_iff_getElem] at e
    obtain ⟨hk, h1, _⟩ := e
    exact ⟨k, l[k], List.getElem?_eq_getElem hk, h1, rfl⟩
theorem idxP_no {α : Type} {p : α → Bool} {l : List α} (h : l.any p = false) : idxP p l = -1 :=
  idxP_none fun j y hy => by
    have := List.any_eq_false.1 h y (List.mem_of_getElem? hy)
    simpa using this
theorem RdF.take {T : Nat → Prop} {w : World} {A : Option Addr} {n c : Nat} {l : List Fx} (h : RdF T w (.slice A n c) l) (k c' : Nat) (hk : k ≤ l.length) : RdF T w (.slice A k c') (l.take k) := by
  obtain ⟨A', c2, ps, e, h2, h3, h4, h5⟩ := h
  injection e with e1 e2 e3
  subst e1
  refine ⟨A, c', ps.take k, by rw [List.length_take, Nat.min_eq_left hk], by rw [List.map_take, h2], ?_, fun p hp => h4 p (List.mem_of_mem_take hp), by rw [List.length_take]; omega⟩
  have : (ps.take k).flatMap (fun p => [Value.string p.1.op, .int .i64 p.1.level, .int .i64 p.1.side]) = (ps.flatMap fun p => [Value.string p.1.op, .int .i64 p.1.level, .int .i64 p.1.side]).take (k * 3) := by
    clear h2 h3 h4 h5 hk
    induction ps generalizing k with
    | nil => simp
    | cons p ps ih =>
      cases k with
      | zero => simp
      | succ k =>
        rw [List.take_succ_cons, List.flatMap_cons, List.flatMap_cons, ih k, show (k + 1) * 3 = k * 3 + 1 + 1 + 1 by omega]
        rfl
  rw [this]
  exact h3.take _
theorem fixFind_any (l : List Fx) (v : Value) (op : ByteArray) (T : Nat → Prop) (w : World) (hr : RdF T w v l) (hn : l.length ≤ 1000000) :
    Calls Tryz.prog 119 #[v, .string op] w fun e w' => ∃ x : Fx, e = .returned (.tuple #[.agg #[.string x.op, .int .i64 x.level, .int .i64 x.side], .bool (l.any fun y => decide (y.op = op))]) ∧ ((l.any fun y => decide (y.op = op)) = true → x ∈ l ∧ x.op = op) ∧ ((l.any fun y => decide (y.op = op)) = false → x = ⟨⟨#[]⟩, 0, 0⟩) ∧ Chg (fun _ => False) w w' := by
  have c0 := ((Chg.refl (fun _ => False) w).alloc (.cells #[.string op] 9)).alloc (.cells #[.string ⟨#[]⟩, .int .i64 0, .int .i64 0] 53)
  have b0 := (Blk.new w 9 #[.string op]).alloc (.cells #[.string ⟨#[]⟩, .int .i64 0, .int .i64 0] 53)
  have z0 := Blk.new_at (w.alloc (.cells #[.string op] 9)) (w.heap.size + 1) 53 #[.string ⟨#[]⟩, .int .i64 0, .int .i64 0] (size_alloc _ _).symm
  have HI := hH (idx_fn l v T _ w.heap.size (fun y => decide (y.op = op)) (RdF.chg hr c0 (fun _ _ _ => id)) hn (fun W hW y _ _ => fixSame_any y op w.heap.size W ((b0.chg hW id).cell 0)))
  have HZ := hH z0
  have HC0 := hH c0
  have HR := hH (fun W (hW : Chg (fun _ => False) w W) => RdF.chg hr hW (fun _ _ _ => id))
  obtain ⟨A, c, rfl⟩ := RdR.val hr
  clear hr c0 b0 z0
  cases ha : l.any fun y => decide (y.op = op)
  · have hi := idxP_no ha
    rw [hi] at HI
    clear hi
    go_enter Tryz.func119, Tryz.ntmps119
    go_wp2_with (go_at_call 156; refine (uH HI).mono ?_; rintro e w2 ⟨rfl, hc2⟩; (have q0 := ((uH HZ).chg hc2 id).cell 0; have q1 := ((uH HZ).chg hc2 id).cell 1; have q2 := ((uH HZ).chg hc2 id).cell 2); (have f0 := ((uH HZ).chg hc2 id).frozen 0; have f1 := ((uH HZ).chg hc2 id).frozen 1; have f2 := ((uH HZ).chg hc2 id).frozen 2); simp only [List.getElem?_toArray, List.getElem?_cons_zero, List.getElem?_cons_succ] at q0 q1 q2; have HB2 := hH ((uH HZ).chg hc2 id); have HC2 := hH hc2; clear hc2)
    exact bodyPost_ret (v := .tuple #[.agg #[.string ⟨#[]⟩, .int .i64 0, .int .i64 0], .bool false]) (by simp [results, Tryz.results119, go_sem, q0, q1, q2]) rfl ⟨⟨⟨#[]⟩, 0, 0⟩, rfl, fun h => (by cases h), fun _ => rfl, (((((uH HC0).trans' (uH HC2)).setCell (fun h => by dsimp only at h; omega) _).setCell (fun h => by dsimp only at h; omega) _).setCell (fun h => by dsimp only at h; omega) _)⟩
  · obtain ⟨k, x, hx, hp, hi⟩ := idxP_some ha
    have hop : x.op = op := by simpa using hp
    have hkl := (List.getElem?_eq_some_iff.1 hx).1
    rw [hi] at HI
    clear hi ha hp
    have hk0 : ¬ (k : Int) < 0 := by omega
    have hki : (k : Int) < (l.length : Int) := by omega
    have HX := hH hx
    have HOP := hH hop
    clear hx hop
    go_enter Tryz.func119, Tryz.ntmps119
    go_wp2_with (go_at_call 156; refine (uH HI).mono ?_; rintro e w2 ⟨rfl, hc2⟩; (obtain ⟨b, o, c3, hv, _, hxs, d0, d1, d2⟩ := RdF.at_ (uH HR _ ((uH HC0).trans' hc2)) (uH HX)); (injection hv with hv1 hv2 hv3); subst hv1 hv3; clear hv2; (have q0 := ((uH HZ).chg hc2 id).cell 0; have q1 := ((uH HZ).chg hc2 id).cell 1; have q2 := ((uH HZ).chg hc2 id).cell 2); (have f0 := ((uH HZ).chg hc2 id).frozen 0; have f1 := ((uH HZ).chg hc2 id).frozen 1; have f2 := ((uH HZ).chg hc2 id).frozen 2); simp only [List.getElem?_toArray, List.getElem?_cons_zero, List.getElem?_cons_succ] at q0 q1 q2; have HC2 := hH hc2; clear hc2)
    exact bodyPost_ret (v := .tuple #[.agg #[.string x.op, .int .i64 x.level, .int .i64 x.side], .bool true]) (by simp [results, Tryz.results119, go_sem, q0, q1, q2]) rfl ⟨x, rfl, fun _ => ⟨List.mem_of_getElem? (uH HX), uH HOP⟩, fun h => (by cases h), (((((uH HC0).trans' (uH HC2)).setCell (fun h => by dsimp only at h; omega) _).setCell (fun h => by dsimp only at h; omega) _).setCell (fun h => by dsimp only at h; omega) _)⟩
end Go.Proofs.YtinekmjengckdaaGreatDoor
