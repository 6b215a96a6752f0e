/-
  Layer 10, the program's side: where a constructor stands. Layer 10, the program's side: whether a type is told; whether a constructor is told twice, or lacks one. Layer 10, the program's side: whether a constructor is told twice, or lacks a type.
-/
import Derived.Test.YtinekmjengckdaaGreatDoorA10
import Derived.Test.YtinekmjengckdaaGreatDoorA03
import Derived.Test.YtinekmjengckdaaGreatDoorA04
import Derived.Deep.RegionHeld3
namespace Go.Proofs.YtinekmjengckdaaGreatDoor
open Go.RowKit
set_option maxHeartbeats 4000000
set_option maxRecDepth 100000
def fX (l : List Dt) (con : ByteArray) : Int := match findL l con with
  | some r => (r.1 : Int)
  | none => 0
def fY (l : List Dt) (con : ByteArray) : Int := match findL l con with
  | some r => (r.2 : Int)
  | none => 0
theorem fX_some {l : List Dt} {con : ByteArray} {i k : Nat} (h : findL l con = some (i, k)) : fX l con = (i : Int) := by unfold fX; rw [h]
theorem fY_some {l : List Dt} {con : ByteArray} {i k : Nat} (h : findL l con = some (i, k)) : fY l con = (k : Int) := by unfold fY; rw [h]
theorem fX_none {l : List Dt} {con : ByteArray} (h : findL l con = none) : fX l con = 0 := by unfold fX; rw [h]
theorem fY_none {l : List Dt} {con : ByteArray} (h : findL l con = none) : fY l con = 0 := by unfold fY; rw [h]
theorem name_same {a b : ByteArray} : (a.toList == b.toList) = true ↔ a = b := by
  rw [beq_iff_eq]
  exact ⟨bytes_eq, fun h => by rw [h]⟩
theorem NoneB.start (l : List Dt) (con : ByteArray) : NoneB l con 0 0 := fun i' k' _ _ _ _ h => by omega
theorem NoneB.step {l : List Dt} {con : ByteArray} {i k : Nat} {d : Dt} {x : Ct} (h : NoneB l con i k) (hd : l[i]? = some d) (hk : d.cons[k]? = some x) (hx : x.name ≠ con) : NoneB l con i (k + 1) := fun i' k' d' x' h1 h2 h3 => by
  rcases h3 with h3 | ⟨rfl, h3⟩
  · exact h i' k' d' x' h1 h2 (.inl h3)
  · rcases Nat.lt_or_ge k' k with h4 | h4
    · exact h i' k' d' x' h1 h2 (.inr ⟨rfl, h4⟩)
    · obtain rfl : k' = k := by omega
      have := h1.symm.trans hd
      injection this with this
      subst this
      have := h2.symm.trans hk
      injection this with this
      subst this
      exact hx
theorem NoneB.next {l : List Dt} {con : ByteArray} {i : Nat} {d : Dt} (h : NoneB l con i d.cons.length) (hd : l[i]? = some d) : NoneB l con (i + 1) 0 := fun i' k' d' x' h1 h2 h3 => by
  rcases h3 with h3 | ⟨_, h3⟩
  · rcases Nat.lt_or_ge i' i with h4 | h4
    · exact h i' k' d' x' h1 h2 (.inl h4)
    · obtain rfl : i' = i := by omega
      have := h1.symm.trans hd
      injection this with this
      subst this
      exact h i' k' d' x' h1 h2 (.inr ⟨rfl, (List.getElem?_eq_some_iff.1 h2).1⟩)
  · omega
theorem find_each (l : List Dt) (v : Value) (con : ByteArray) (T : Nat → Prop) (w : World) (gl gc gx gy : Nat) (hl : Blk w gl 23 #[v]) (hc : Blk w gc 9 #[.string con]) (hx : Blk w gx 3 #[.int .i64 0]) (hy : Blk w gy 3 #[.int .i64 0]) (hne : gx ≠ gy)
    (hr : RdD T w v l) (hT : ∀ b, T b → ¬ (b = gx ∨ b = gy)) (hn : l.length ≤ 1000000) (hcn : ∀ d ∈ l, d.cons.length ≤ 1000000) :
    Calls Tryz.prog 108 #[v, .func (.func 153) #[] #[.pointer (some ⟨gl, 0, none⟩), .pointer (some ⟨gc, 0, none⟩), .pointer (some ⟨gx, 0, none⟩), .pointer (some ⟨gy, 0, none⟩)]] w fun e w' =>
      e = .returned (.bool (findL l con).isSome) ∧ Chg (fun b => b = gx ∨ b = gy) w w' ∧ Blk w' gx 3 #[.int .i64 (fX l con)] ∧ Blk w' gy 3 #[.int .i64 (fY l con)] := by
  have hlx : gl ≠ gx := hl.ne_ hx (by decide)
  have hly : gl ≠ gy := hl.ne_ hy (by decide)
  have hcx : gc ≠ gx := hc.ne_ hx (by decide)
  have hcy : gc ≠ gy := hc.ne_ hy (by decide)
  have hsl : ¬ (gl = gx ∨ gl = gy) := fun h => h.elim hlx hly
  have hsc : ¬ (gc = gx ∨ gc = gy) := fun h => h.elim hcx hcy
  refine (each_find l v T (fun b => b = gx ∨ b = gy) w gl gc gx gy
    (fun i k W => Chg (fun b => b = gx ∨ b = gy) w W ∧ Blk W gx 3 #[.int .i64 0] ∧ Blk W gy 3 #[.int .i64 0] ∧ NoneB l con i k)
    (fun i k W => Chg (fun b => b = gx ∨ b = gy) w W ∧ Blk W gx 3 #[.int .i64 (i : Int)] ∧ Blk W gy 3 #[.int .i64 (k : Int)] ∧ findL l con = some (i, k))
    hr hn hcn hT (fun _ _ _ h => h.1) (fun i k W W' h hW => ⟨h.1.trans hW (fun _ _ h => h.elim), h.2.1.chg hW id, h.2.2.1.chg hW id, h.2.2.2⟩) ⟨Chg.refl _ _, hx, hy, NoneB.start _ _⟩ (fun i d W hd h => ⟨h.1, h.2.1, h.2.2.1, h.2.2.2.next hd⟩)
    (fun i k d x W hd hk h => ?_)).mono ?_
  · cases hq : x.name.toList == con.toList
    · refine (find_not l v con i k d x T W gl gc gx gy (hl.chg h.1 hsl) (hc.chg h.1 hsc) (hr.chg h.1 (fun b hb _ => hT b hb)) hd hk hn (hcn d (List.mem_of_getElem? hd)) hq).mono ?_
      rintro e w2 ⟨rfl, hc2⟩
      exact ⟨false, rfl, fun _ => ⟨h.1.trans hc2 (fun _ _ h => h.elim), h.2.1.chg hc2 id, h.2.2.1.chg hc2 id, h.2.2.2.step hd hk (fun e => by rw [name_same.2 e] at hq; cases hq)⟩, fun h => by cases h⟩
    · refine (find_yes l v con i k d x T W gl gc gx gy (hl.chg h.1 hsl) (hc.chg h.1 hsc) (hr.chg h.1 (fun b hb _ => hT b hb)) hd hk hn (hcn d (List.mem_of_getElem? hd)) hq 0 0 h.2.1 h.2.2.1 hne).mono ?_
      rintro e w2 ⟨rfl, h1, h2, h3⟩
      refine ⟨true, rfl, fun h => (by cases h), fun _ => ⟨h.1.trans' h3, h1, h2, ?_⟩⟩
      have := findG_here con l 0 i k d x hd hk (name_same.1 hq) h.2.2.2
      rw [Nat.zero_add] at this
      exact this
  · rintro e w2 (⟨rfl, h⟩ | ⟨rfl, i, k, h⟩)
    · have hf : findL l con = none := findG_none con l 0 h.2.2.2
      rw [fX_none hf, fY_none hf, hf]
      exact ⟨rfl, h.1, h.2.1, h.2.2.1⟩
    · rw [fX_some h.2.2.2, fY_some h.2.2.2, h.2.2.2]
      exact ⟨rfl, h.1, h.2.1, h.2.2.1⟩
theorem findL_any (l : List Dt) (v : Value) (con : ByteArray) (T : Nat → Prop) (w : World) (hr : RdD T w v l) (hn : l.length ≤ 1000000) (hcn : ∀ d ∈ l, d.cons.length ≤ 1000000) :
    Calls Tryz.prog 107 #[v, .string con] w fun e w' => e = .returned (.tuple #[.int .i64 (fX l con), .int .i64 (fY l con), .bool (findL l con).isSome]) ∧ Chg (fun _ => False) w w' := by
  obtain ⟨A, c, rfl⟩ := hr.val
  have h1 : Chg (fun _ => False) w ((((w.alloc (.cells #[.slice A l.length c] 23)).alloc (.cells #[.string con] 9)).alloc (.cells #[.int .i64 0] 3)).alloc (.cells #[.int .i64 0] 3)) := ((((Chg.refl _ w).alloc _).alloc _).alloc _).alloc _
  have k1 := (((Blk.new w 23 #[.slice A l.length c]).alloc (.cells #[.string con] 9)).alloc (.cells #[.int .i64 0] 3)).alloc (.cells #[.int .i64 0] 3)
  have k2 := ((Blk.new_at (w.alloc (.cells #[.slice A l.length c] 23)) (w.heap.size + 1) 9 #[.string con] (by simp)).alloc (.cells #[.int .i64 0] 3)).alloc (.cells #[.int .i64 0] 3)
  have k3 := (Blk.new_at ((w.alloc (.cells #[.slice A l.length c] 23)).alloc (.cells #[.string con] 9)) (w.heap.size + 1 + 1) 3 #[.int .i64 0] (by simp)).alloc (.cells #[.int .i64 0] 3)
  have k4 := Blk.new_at (((w.alloc (.cells #[.slice A l.length c] 23)).alloc (.cells #[.string con] 9)).alloc (.cells #[.int .i64 0] 3)) (w.heap.size + 1 + 1 + 1) 3 #[.int .i64 0] (by simp)
  have HE := hH (find_each l _ con (fun b => T b ∧ b < w.heap.size) _ _ _ _ _ k1 k2 k3 k4 (by omega) (hr.low.chg h1 (fun _ _ _ => id)) (fun b hb => by have := hb.2; omega) hn hcn)
  have l0 := k1.cell 0
  simp only [List.getElem?_toArray, List.getElem?_cons_zero] at l0
  have H1 := hH h1
  clear hr k1 k2 k3 k4 h1 hcn
  generalize (findL l con).isSome = R at *
  generalize fX l con = X at *
  generalize fY l con = Y at *
  go_enter Tryz.func107, Tryz.ntmps107
  go_wp2_with (go_at_call 108; refine (uH HE).mono ?_; rintro e w2 ⟨rfl, hc2, hx2, hy2⟩; (have q0 := hx2.cell 0); (have q1 := hy2.cell 0); simp only [List.getElem?_toArray, List.getElem?_cons_zero] at q0 q1; have HC2 := hH hc2; clear hc2 hx2 hy2)
  go_quiet (fail)
  go_wp2_with fail
  go_ret3
  exact ⟨rfl, ((uH H1).trans (uH HC2) (fun i hi h => by omega)).drewN _⟩
end Go.Proofs.YtinekmjengckdaaGreatDoor

namespace Go.Proofs.YtinekmjengckdaaGreatDoor
open Go.RowKit
set_option maxHeartbeats 4000000
set_option maxRecDepth 100000
theorem idx_dk (l : List Dt) (v : Value) (T : Nat → Prop) (w : World) (g : Nat) (p : Dt → Bool) (hr : RdD T w v l) (hn : l.length ≤ 1000000) (hcl : ∀ W, Chg (fun _ => False) w W → ∀ x ∈ l, ∀ u, RdC T W u x.cons → x.name.size ≤ 9223372036854775807 → Calls Tryz.prog 111 #[.agg #[.string x.name, .int .i64 x.params, u], .pointer (some ⟨g, 0, none⟩)] W fun e w' => e = .returned (.bool (p x)) ∧ Chg (fun _ => False) W w') :
    Calls Tryz.prog 104 #[v, .func (.func 111) #[] #[.pointer (some ⟨g, 0, none⟩)]] w fun e w' => e = .returned (.int .i64 (idxP p l)) ∧ Chg (fun _ => False) w w' := by
  obtain ⟨A, c, rfl⟩ := hr.val
  have HR := hH hr
  have HCL := hH hcl
  have HNO := hH (idxP_none (p := p) (l := l))
  have HHE := hH (fun k x => idxP_here (p := p) (l := l) (k := k) (x := x))
  generalize idxP p l = R at *
  clear hr hcl
  go_enter Tryz.func104, Tryz.ntmps104
  go_wp2_with fail
  go_loopw [8] (fun i wr => ∃ k : Nat, i = .int .i64 (k : Int) ∧ k ≤ l.length ∧ (∀ j y, j < k → l[j]? = some y → p y = false) ∧ Chg (fun _ => False) w wr) (fun i _ => l.length - (intOf i).toNat)
  case atStart => exact ⟨0, rfl, Nat.zero_le _, fun j y h => absurd h (Nat.not_lt_zero _), Chg.refl _ _⟩
  case round =>
    obtain ⟨wq, rfl⟩ : ∃ wq : World, wq = wr := ⟨_, rfl⟩
    obtain ⟨k, rfl, hk, hall, hch⟩ := hrel
    by_cases hlt : k < l.length
    · have hki : (k : Int) < (l.length : Int) := by omega
      have hx : l[k]? = some l[k] := List.getElem?_eq_getElem hlt
      obtain ⟨b, o, c2, u, hv, _, hru, hxs, c0, c1, c3⟩ := ((uH HR).chg hch (fun _ _ _ => id)).at_ hx
      injection hv with hv1 hv2 hv3
      subst hv1 hv3
      have hcx := (uH HCL) wq hch l[k] (List.getElem_mem hlt) u hru hxs
      generalize l[k] = x at *
      have HALL := hH hall
      have HX := hH hx
      have HCH := hH hch
      cases hp : p x
      · rw [hp] at hcx
        have HC := hH hcx
        have HP := hH hp
        clear hcx hall hx hch hp
        go_wp2_with (go_at_call 111; refine (uH HC).mono ?_; rintro e w2 ⟨rfl, hc2⟩; have HC2 := hH hc2; clear hc2)
        go_roundw
        case rel =>
          exact ⟨k + 1, by go_num, by omega, fun j y hj hy => by
            rcases Nat.lt_or_ge j k with h | h
            · exact (uH HALL) j y h hy
            · obtain rfl : j = k := by omega
              have := (uH HX).symm.trans hy
              injection this with this
              rw [← this]
              exact uH HP, (uH HCH).trans' (uH HC2)⟩
        case measure => simp [intOf]; omega
      · rw [hp] at hcx
        have HC := hH hcx
        have HF := hH ((uH HHE) k x hx hp hall)
        clear hcx hall hx hch hp
        go_wp2_with (go_at_call 111; refine (uH HC).mono ?_; rintro e w2 ⟨rfl, hc2⟩; have HC2 := hH hc2; clear hc2)
        go_ret
        exact ⟨retv (intv (uH HF).symm), (uH HCH).trans' (uH HC2)⟩
    · obtain rfl : k = l.length := by omega
      have hki : ¬ (l.length : Int) < (l.length : Int) := by omega
      have HF := hH ((uH HNO) (fun j y hy => hall j y (List.getElem?_eq_some_iff.1 hy).1 hy))
      have HCH := hH hch
      clear hall hch
      go_wp2_with fail
      go_ret
      exact ⟨retv (intv (uH HF).symm), uH HCH⟩
theorem has_dk (l : List Dt) (v : Value) (T : Nat → Prop) (w : World) (g : Nat) (p : Dt → Bool) (hr : RdD T w v l) (hn : l.length ≤ 1000000) (hcl : ∀ W, Chg (fun _ => False) w W → ∀ x ∈ l, ∀ u, RdC T W u x.cons → x.name.size ≤ 9223372036854775807 → Calls Tryz.prog 111 #[.agg #[.string x.name, .int .i64 x.params, u], .pointer (some ⟨g, 0, none⟩)] W fun e w' => e = .returned (.bool (p x)) ∧ Chg (fun _ => False) W w') :
    Calls Tryz.prog 101 #[v, .func (.func 111) #[] #[.pointer (some ⟨g, 0, none⟩)]] w fun e w' => e = .returned (.bool (l.any p)) ∧ Chg (fun _ => False) w w' := by
  have HI := hH (idx_dk l v T w g p hr hn hcl)
  have ha := idxP_any p l
  obtain ⟨A, c, rfl⟩ := hr.val
  generalize idxP p l = R at *
  generalize l.any p = B at *
  clear hr hcl
  have HA := hH ha
  clear ha
  go_enter Tryz.func101, Tryz.ntmps101
  go_wp2_with (go_at_call 104; refine (uH HI).mono ?_; rintro e w2 ⟨rfl, hc2⟩; have HC2 := hH hc2; clear hc2)
  go_ret
  exact ⟨retv (boolv (uH HA)), uH HC2⟩
theorem idx_nn (l : List Nd) (v : Value) (T : Nat → Prop) (w : World) (g : Nat) (p : Nd → Bool) (hr : RdN T w v l) (hn : l.length ≤ 1000000) (hcl : ∀ W, Chg (fun _ => False) w W → ∀ x ∈ l, Calls Tryz.prog 109 #[ndV x, .pointer (some ⟨g, 0, none⟩)] W fun e w' => e = .returned (.bool (p x)) ∧ Chg (fun _ => False) W w') :
    Calls Tryz.prog 155 #[v, .func (.func 109) #[] #[.pointer (some ⟨g, 0, none⟩)]] w fun e w' => e = .returned (.int .i64 (idxP p l)) ∧ Chg (fun _ => False) w w' := by
  obtain ⟨A, c, rfl⟩ := hr.val
  have HR := hH hr
  have HCL := hH hcl
  have HNO := hH (idxP_none (p := p) (l := l))
  have HHE := hH (fun k x => idxP_here (p := p) (l := l) (k := k) (x := x))
  generalize idxP p l = R at *
  clear hr hcl
  go_enter Tryz.func155, Tryz.ntmps155
  go_wp2_with fail
  go_loopw [8] (fun i wr => ∃ k : Nat, i = .int .i64 (k : Int) ∧ k ≤ l.length ∧ (∀ j y, j < k → l[j]? = some y → p y = false) ∧ Chg (fun _ => False) w wr) (fun i _ => l.length - (intOf i).toNat)
  case atStart => exact ⟨0, rfl, Nat.zero_le _, fun j y h => absurd h (Nat.not_lt_zero _), Chg.refl _ _⟩
  case round =>
    obtain ⟨wq, rfl⟩ : ∃ wq : World, wq = wr := ⟨_, rfl⟩
    obtain ⟨k, rfl, hk, hall, hch⟩ := hrel
    by_cases hlt : k < l.length
    · have hki : (k : Int) < (l.length : Int) := by omega
      have hx : l[k]? = some l[k] := List.getElem?_eq_getElem hlt
      have hcx := (uH HCL) wq hch l[k] (List.getElem_mem hlt)
      generalize l[k] = x at *
      obtain ⟨b, o, c2, hv, _, _, c0, c1, c3, c4⟩ := ((uH HR).chg hch (fun _ _ _ => id)).at_ hx
      injection hv with hv1 hv2 hv3
      subst hv1 hv3
      have HALL := hH hall
      have HX := hH hx
      have HCH := hH hch
      unfold ndV at hcx
      cases hp : p x
      · rw [hp] at hcx
        have HC := hH hcx
        have HP := hH hp
        clear hcx hall hx hch hp
        go_wp2_with (go_at_call 109; refine (uH HC).mono ?_; rintro e w2 ⟨rfl, hc2⟩; have HC2 := hH hc2; clear hc2)
        go_roundw
        case rel =>
          exact ⟨k + 1, by go_num, by omega, fun j y hj hy => by
            rcases Nat.lt_or_ge j k with h | h
            · exact (uH HALL) j y h hy
            · obtain rfl : j = k := by omega
              have := (uH HX).symm.trans hy
              injection this with this
              rw [← this]
              exact uH HP, (uH HCH).trans' (uH HC2)⟩
        case measure => simp [intOf]; omega
      · rw [hp] at hcx
        have HC := hH hcx
        have HF := hH ((uH HHE) k x hx hp hall)
        clear hcx hall hx hch hp
        go_wp2_with (go_at_call 109; refine (uH HC).mono ?_; rintro e w2 ⟨rfl, hc2⟩; have HC2 := hH hc2; clear hc2)
        go_ret
        exact ⟨retv (intv (uH HF).symm), (uH HCH).trans' (uH HC2)⟩
    · obtain rfl : k = l.length := by omega
      have hki : ¬ (l.length : Int) < (l.length : Int) := by omega
      have HF := hH ((uH HNO) (fun j y hy => hall j y (List.getElem?_eq_some_iff.1 hy).1 hy))
      have HCH := hH hch
      clear hall hch
      go_wp2_with fail
      go_ret
      exact ⟨retv (intv (uH HF).symm), uH HCH⟩
theorem has_nn (l : List Nd) (v : Value) (T : Nat → Prop) (w : World) (g : Nat) (p : Nd → Bool) (hr : RdN T w v l) (hn : l.length ≤ 1000000) (hcl : ∀ W, Chg (fun _ => False) w W → ∀ x ∈ l, Calls Tryz.prog 109 #[ndV x, .pointer (some ⟨g, 0, none⟩)] W fun e w' => e = .returned (.bool (p x)) ∧ Chg (fun _ => False) W w') :
    Calls Tryz.prog 115 #[v, .func (.func 109) #[] #[.pointer (some ⟨g, 0, none⟩)]] w fun e w' => e = .returned (.bool (l.any p)) ∧ Chg (fun _ => False) w w' := by
  have HI := hH (idx_nn l v T w g p hr hn hcl)
  have ha := idxP_any p l
  obtain ⟨A, c, rfl⟩ := hr.val
  generalize idxP p l = R at *
  generalize l.any p = B at *
  clear hr hcl
  have HA := hH ha
  clear ha
  go_enter Tryz.func115, Tryz.ntmps115
  go_wp2_with (go_at_call 155; refine (uH HI).mono ?_; rintro e w2 ⟨rfl, hc2⟩; have HC2 := hH hc2; clear hc2)
  go_ret
  exact ⟨retv (boolv (uH HA)), uH HC2⟩
theorem idx_al (l : List (List Nd)) (v : Value) (T : Nat → Prop) (w : World) (g : Nat) (p : List Nd → Bool) (hr : RdNs T w v l) (hn : l.length ≤ 1000000) (hcl : ∀ W, Chg (fun _ => False) w W → ∀ x ∈ l, ∀ u, RdN T W u x → Calls Tryz.prog 114 #[u, .pointer (some ⟨g, 0, none⟩)] W fun e w' => e = .returned (.bool (p x)) ∧ Chg (fun _ => False) W w') :
    Calls Tryz.prog 154 #[v, .func (.func 114) #[] #[.pointer (some ⟨g, 0, none⟩)]] w fun e w' => e = .returned (.int .i64 (idxP p l)) ∧ Chg (fun _ => False) w w' := by
  obtain ⟨A, c, rfl⟩ := hr.val
  have HR := hH hr
  have HCL := hH hcl
  have HNO := hH (idxP_none (p := p) (l := l))
  have HHE := hH (fun k x => idxP_here (p := p) (l := l) (k := k) (x := x))
  generalize idxP p l = R at *
  clear hr hcl
  go_enter Tryz.func154, Tryz.ntmps154
  go_wp2_with fail
  go_loopw [8] (fun i wr => ∃ k : Nat, i = .int .i64 (k : Int) ∧ k ≤ l.length ∧ (∀ j y, j < k → l[j]? = some y → p y = false) ∧ Chg (fun _ => False) w wr) (fun i _ => l.length - (intOf i).toNat)
  case atStart => exact ⟨0, rfl, Nat.zero_le _, fun j y h => absurd h (Nat.not_lt_zero _), Chg.refl _ _⟩
  case round =>
    obtain ⟨wq, rfl⟩ : ∃ wq : World, wq = wr := ⟨_, rfl⟩
    obtain ⟨k, rfl, hk, hall, hch⟩ := hrel
    by_cases hlt : k < l.length
    · have hki : (k : Int) < (l.length : Int) := by omega
      have hx : l[k]? = some l[k] := List.getElem?_eq_getElem hlt
      obtain ⟨b, o, c2, u, hv, _, hru, c0⟩ := ((uH HR).chg hch (fun _ _ _ => id)).at_ hx
      injection hv with hv1 hv2 hv3
      subst hv1 hv3
      have hcx := (uH HCL) wq hch l[k] (List.getElem_mem hlt) u hru
      generalize l[k] = x at *
      have HALL := hH hall
      have HX := hH hx
      have HCH := hH hch
      cases hp : p x
      · rw [hp] at hcx
        have HC := hH hcx
        have HP := hH hp
        clear hcx hall hx hch hp
        go_wp2_with (go_at_call 114; refine (uH HC).mono ?_; rintro e w2 ⟨rfl, hc2⟩; have HC2 := hH hc2; clear hc2)
        go_roundw
        case rel =>
          exact ⟨k + 1, by go_num, by omega, fun j y hj hy => by
            rcases Nat.lt_or_ge j k with h | h
            · exact (uH HALL) j y h hy
            · obtain rfl : j = k := by omega
              have := (uH HX).symm.trans hy
              injection this with this
              rw [← this]
              exact uH HP, (uH HCH).trans' (uH HC2)⟩
        case measure => simp [intOf]; omega
      · rw [hp] at hcx
        have HC := hH hcx
        have HF := hH ((uH HHE) k x hx hp hall)
        clear hcx hall hx hch hp
        go_wp2_with (go_at_call 114; refine (uH HC).mono ?_; rintro e w2 ⟨rfl, hc2⟩; have HC2 := hH hc2; clear hc2)
        go_ret
        exact ⟨retv (intv (uH HF).symm), (uH HCH).trans' (uH HC2)⟩
    · obtain rfl : k = l.length := by omega
      have hki : ¬ (l.length : Int) < (l.length : Int) := by omega
      have HF := hH ((uH HNO) (fun j y hy => hall j y (List.getElem?_eq_some_iff.1 hy).1 hy))
      have HCH := hH hch
      clear hall hch
      go_wp2_with fail
      go_ret
      exact ⟨retv (intv (uH HF).symm), uH HCH⟩
theorem has_al (l : List (List Nd)) (v : Value) (T : Nat → Prop) (w : World) (g : Nat) (p : List Nd → Bool) (hr : RdNs T w v l) (hn : l.length ≤ 1000000) (hcl : ∀ W, Chg (fun _ => False) w W → ∀ x ∈ l, ∀ u, RdN T W u x → Calls Tryz.prog 114 #[u, .pointer (some ⟨g, 0, none⟩)] W fun e w' => e = .returned (.bool (p x)) ∧ Chg (fun _ => False) W w') :
    Calls Tryz.prog 113 #[v, .func (.func 114) #[] #[.pointer (some ⟨g, 0, none⟩)]] w fun e w' => e = .returned (.bool (l.any p)) ∧ Chg (fun _ => False) w w' := by
  have HI := hH (idx_al l v T w g p hr hn hcl)
  have ha := idxP_any p l
  obtain ⟨A, c, rfl⟩ := hr.val
  generalize idxP p l = R at *
  generalize l.any p = B at *
  clear hr hcl
  have HA := hH ha
  clear ha
  go_enter Tryz.func113, Tryz.ntmps113
  go_wp2_with (go_at_call 154; refine (uH HI).mono ?_; rintro e w2 ⟨rfl, hc2⟩; have HC2 := hH hc2; clear hc2)
  go_ret
  exact ⟨retv (boolv (uH HA)), uH HC2⟩
theorem told_any (x : Dt) (n : Nd) (B : Option Addr) (m c : Nat) (g : Nat) (w : World) (hb : Blk w g 59 #[.int .i64 n.kind, .string n.text, .int .i64 n.num, .int .i64 n.kids]) :
    Calls Tryz.prog 111 #[.agg #[.string x.name, .int .i64 x.params, .slice B m c], .pointer (some ⟨g, 0, none⟩)] w fun e w' => e = .returned (.bool (decide (x.name = n.text) && x.params == n.kids)) ∧ Chg (fun _ => False) w w' := by
  have hd : decide (x.name = n.text) = (x.name.toList == n.text.toList) := by rw [Bool.eq_iff_iff, decide_eq_true_eq, name_same]
  rw [hd]
  have hb2 := hb.alloc (.cells #[.string x.name, .int .i64 x.params, .slice B m c] 70)
  have x1 := hb2.cell 1
  have x3 := hb2.cell 3
  have hlt := hb.lt
  simp only [List.getElem?_toArray, List.getElem?_cons_zero, List.getElem?_cons_succ] at x1 x3
  clear hb hb2 hd
  cases hq : (x.name.toList == n.text.toList) <;> go_enter Tryz.func111, Tryz.ntmps111 <;> (go_wp2_with fail) <;> go_ret <;> exact ⟨rfl, (Chg.refl _ _).alloc _⟩
end Go.Proofs.YtinekmjengckdaaGreatDoor

namespace Go.Proofs.YtinekmjengckdaaGreatDoor
open Go.RowKit
set_option maxHeartbeats 4000000
set_option maxRecDepth 100000
theorem RdN.oks {T : Nat → Prop} {w : World} {v : Value} {l : List Nd} (h : RdN T w v l) : ∀ n ∈ l, ndOk n := fun n hn => by
  obtain ⟨A, c, ps, h1, h2, h3, h4, h5⟩ := h
  rw [← h2] at hn
  obtain ⟨p, hp, rfl⟩ := List.mem_map.1 hn
  exact h4 p hp
theorem again_any (l : List Dt) (v : Value) (i k : Nat) (d : Dt) (x : Ct) (T : Nat → Prop) (w : World) (gl : Nat) (hl : Blk w gl 23 #[v]) (hr : RdD T w v l) (hd : l[i]? = some d) (hk : d.cons[k]? = some x) (hn : l.length ≤ 1000000) (hcn : ∀ d ∈ l, d.cons.length ≤ 1000000) :
    Calls Tryz.prog 106 #[.int .i64 (i : Int), .int .i64 (k : Int), .pointer (some ⟨gl, 0, none⟩)] w fun e w' => e = .returned (.bool (!(fX l x.name == (i : Int)) || !(fY l x.name == (k : Int)))) ∧ Chg (fun _ => False) w w' := by
  have hi : (i : Int) < (l.length : Int) := by have := (List.getElem?_eq_some_iff.1 hd).1; omega
  have hkk : (k : Int) < (d.cons.length : Int) := by have := (List.getElem?_eq_some_iff.1 hk).1; omega
  have hdn := hcn d (List.mem_of_getElem? hd)
  have HF := hH (fun W (hW : Chg (fun _ => False) w W) => findL_any l v x.name T W (hr.chg hW (fun _ _ _ => id)) hn hcn)
  obtain ⟨b, o, c2, u, rfl, _, hru, hns, c0, c1, c3⟩ := hr.at_ hd
  obtain ⟨b2, o2, c4, u2, rfl, _, _, _, e0, e1⟩ := hru.at_ hk
  have l0 := hl.cell 0
  simp only [List.getElem?_toArray, List.getElem?_cons_zero] at l0
  have KSW := hH (show ∀ W, Chg (fun _ => False) w W → W.cell? ⟨gl, 0, none⟩ = some (.slice (some ⟨b, o, none⟩) l.length c2) ∧ W.cell? ⟨b, o + i * 3 + 2, none⟩ = some (.slice (some ⟨b2, o2, none⟩) d.cons.length c4) ∧ W.cell? ⟨b2, o2 + k * 2, none⟩ = some (.string x.name) from fun W hW => ⟨(hW.cell (World.block_lt_of_cell? w _ l0) id).trans l0, (hW.cell (World.block_lt_of_cell? w _ c3) id).trans c3, (hW.cell (World.block_lt_of_cell? w _ e0) id).trans e0⟩)
  generalize (findL l x.name).isSome = R at *
  generalize fX l x.name = X at *
  generalize fY l x.name = Y at *
  clear hl hr hd hk hru hcn
  go_enter Tryz.func106, Tryz.ntmps106
  go_wp2_with fail
  have HC2 : Hid (Chg (fun _ => False) w w.drew) := hH (Chg.drew (Chg.refl _ _))
  have HKK := hH (uH KSW _ (uH HC2))
  go_region_held3 (fun W' => W'.cell? ⟨gl, 0, none⟩ = some (.slice (some ⟨b, o, none⟩) l.length c2) ∧ W'.cell? ⟨b, o + i * 3 + 2, none⟩ = some (.slice (some ⟨b2, o2, none⟩) d.cons.length c4) ∧ W'.cell? ⟨b2, o2 + k * 2, none⟩ = some (.string x.name)) (first | exact uH HKK | go_keep) (first | (go_at_call 107; (with_reducible refine (uH HF _ (uH HC2)).mono ?_); rintro e w2 ⟨rfl, hc2⟩; have HN_ := hH ((uH HC2).trans' hc2); clear HC2; have HC2 := HN_; clear HN_ HKK; have HKK := hH (uH KSW _ (uH HC2)); clear hc2))
  cases hx : (X == (i : Int)) <;> (have hx2 := hx; simp only [beq_iff_eq, beq_eq_false_iff_ne] at hx2; have HX2 := hH hx2; clear hx2; have HX3 := hH hx) <;> (go_wp2_with fail) <;> go_ret <;> refine ⟨retv (boolv ?_), uH HC2⟩ <;> first | (simp [uH HX3]; done) | (simp [uH HX2, bne]; done)
theorem lackN_eq (l : List Dt) (n : Nd) : lackN l n = if n.kind = 32 then nameB 2 n.text && !knownB l n else false := by
  unfold lackN
  by_cases h : n.kind = 32
  · rw [if_pos h, h]; rfl
  · rw [if_neg h, beq_eq_false_iff_ne.2 h]; rfl
theorem none_any (l : List Dt) (v : Value) (n : Nd) (T : Nat → Prop) (w : World) (gl : Nat) (hl : Blk w gl 23 #[v]) (hr : RdD T w v l) (hn : l.length ≤ 1000000) (hs : ndOk n) (lay : Lay w) :
    Calls Tryz.prog 109 #[ndV n, .pointer (some ⟨gl, 0, none⟩)] w fun e w' => e = .returned (.bool (lackN l n)) ∧ Chg (fun _ => False) w w' := by
  rw [lackN_eq]
  unfold ndV
  obtain ⟨a, tx, nm, q⟩ := n
  dsimp only at *
  have h1 : Chg (fun _ => False) w (w.alloc (.cells #[.int .i64 a, .string tx, .int .i64 nm, .int .i64 q] 59)) := (Chg.refl _ w).alloc _
  have k1 := Blk.new w 59 #[.int .i64 a, .string tx, .int .i64 nm, .int .i64 q]
  have hl1 := hl.alloc (.cells #[.int .i64 a, .string tx, .int .i64 nm, .int .i64 q] 59)
  have x0 := k1.cell 0
  have x1 := k1.cell 1
  have l0 := hl1.cell 0
  simp only [List.getElem?_toArray, List.getElem?_cons_zero, List.getElem?_cons_succ] at x0 x1 l0
  have HN := hH (named_any tx _ hs (lay.chg h1 (fun _ _ => id)))
  have HD := hH (fun W (hW : Chg (fun _ => False) (w.alloc (.cells #[.int .i64 a, .string tx, .int .i64 nm, .int .i64 q] 59)) W) => has_dk l v T W w.heap.size (fun x => decide (x.name = tx) && x.params == q) (hr.chg (h1.trans' hW) (fun _ _ _ => id)) hn
    (fun W2 hW2 x _ u hu _ => by obtain ⟨B, c, rfl⟩ := hu.val; exact told_any x ⟨a, tx, nm, q⟩ B _ c w.heap.size W2 (k1.chg (hW.trans' hW2) id)))
  have HK : (l.any fun x => decide (x.name = tx) && x.params == q) = knownB l ⟨a, tx, nm, q⟩ := rfl
  have HL1 := hH hl1
  have HC1 := hH h1
  obtain ⟨A, c, rfl⟩ := hr.val
  rw [HK] at HD
  generalize knownB l ⟨a, tx, nm, q⟩ = E at *
  generalize nameB 2 tx = F at *
  clear hl hl1 hr k1 h1 lay hs HK
  by_cases h : a = 32
  · rw [if_pos h]
    subst h
    cases F
    · go_enter Tryz.func109, Tryz.ntmps109
      go_wp2_with (go_at_call 110; go_loud (refine (uH HN).mono ?_; rintro e w2 ⟨rfl, hc2⟩; have HC2 := hH hc2; clear hc2))
      go_ret
      exact ⟨rfl, (uH HC1).trans' (uH HC2)⟩
    · go_enter Tryz.func109, Tryz.ntmps109
      go_wp2_with (first
        | (go_at_call 110; refine (uH HN).mono ?_; rintro e w2 ⟨rfl, hc2⟩; (have l2 := ((uH HL1).chg hc2 id).cell 0); simp only [List.getElem?_toArray, List.getElem?_cons_zero] at l2; have HC2 := hH hc2; clear hc2)
        | (go_at_call 101; refine (uH HD _ (uH HC2)).mono ?_; rintro e w3 ⟨rfl, hc3⟩; have HC3 := hH hc3; clear hc3))
      go_ret
      exact ⟨rfl, ((uH HC1).trans' (uH HC2)).trans' (uH HC3)⟩
  · rw [if_neg h]
    go_enter Tryz.func109, Tryz.ntmps109
    go_wp2_with fail
    go_ret
    exact ⟨rfl, uH HC1⟩
theorem lackT_any (l : List Dt) (v : Value) (t : List Nd) (u : Value) (T T2 : Nat → Prop) (w : World) (gl gf : Nat) (hl : Blk w gl 23 #[v]) (hf : Blk w gf 149 #[.func (.func 109) #[] #[.pointer (some ⟨gl, 0, none⟩)]]) (hr : RdD T w v l) (ht : RdN T2 w u t) (hn : l.length ≤ 1000000) (htn : t.length ≤ 1000000) (hs : ∀ n ∈ t, ndOk n) (lay : Lay w) :
    Calls Tryz.prog 114 #[u, .pointer (some ⟨gf, 0, none⟩)] w fun e w' => e = .returned (.bool (t.any (lackN l))) ∧ Chg (fun _ => False) w w' := by
  have HH := hH (has_nn t u T2 w gl (lackN l) ht htn (fun W hW x hx => none_any l v x T W gl (hl.chg hW id) (hr.chg hW (fun _ _ _ => id)) hn (hs x hx) (lay.chg hW (fun _ _ => id))))
  obtain ⟨A, c, rfl⟩ := ht.val
  have f0 := hf.cell 0
  simp only [List.getElem?_toArray, List.getElem?_cons_zero] at f0
  generalize t.any (lackN l) = E at *
  clear hl hf hr ht lay hs
  go_enter Tryz.func114, Tryz.ntmps114
  go_wp2_with (go_at_call 115; refine (uH HH).mono ?_; rintro e w2 ⟨rfl, hc2⟩; have HC2 := hH hc2; clear hc2)
  go_ret
  exact ⟨rfl, uH HC2⟩
theorem lacks_any (l : List Dt) (v : Value) (i k : Nat) (d : Dt) (x : Ct) (T : Nat → Prop) (w : World) (gl gf : Nat) (hl : Blk w gl 23 #[v]) (hf : Blk w gf 149 #[.func (.func 109) #[] #[.pointer (some ⟨gl, 0, none⟩)]]) (hr : RdD T w v l) (hd : l[i]? = some d) (hk : d.cons[k]? = some x) (hn : l.length ≤ 1000000) (_hcn : d.cons.length ≤ 1000000) (han : x.args.length ≤ 1000000) (htn : ∀ t ∈ x.args, t.length ≤ 1000000) (lay : Lay w) :
    Calls Tryz.prog 112 #[.int .i64 (i : Int), .int .i64 (k : Int), .pointer (some ⟨gl, 0, none⟩), .pointer (some ⟨gf, 0, none⟩)] w fun e w' => e = .returned (.bool (x.args.any fun t => t.any (lackN l))) ∧ Chg (fun _ => False) w w' := by
  have hi : (i : Int) < (l.length : Int) := by have := (List.getElem?_eq_some_iff.1 hd).1; omega
  have hkk : (k : Int) < (d.cons.length : Int) := by have := (List.getElem?_eq_some_iff.1 hk).1; omega
  have HR := hH hr
  obtain ⟨b, o, c2, u, rfl, _, hru, hns, c0, c1, c3⟩ := hr.at_ hd
  obtain ⟨b2, o2, c4, u2, rfl, _, hru2, _, e0, e1⟩ := hru.at_ hk
  have HA := hH (has_al x.args u2 T w gf (fun t => t.any (lackN l)) hru2 han (fun W hW t ht u hu => lackT_any l _ t u T T W gl gf (hl.chg hW id) (hf.chg hW id) ((uH HR).chg hW (fun _ _ _ => id)) hu hn (htn t ht) hu.oks (lay.chg hW (fun _ _ => id))))
  obtain ⟨A3, c5, rfl⟩ := hru2.val
  have l0 := hl.cell 0
  simp only [List.getElem?_toArray, List.getElem?_cons_zero] at l0
  generalize (x.args.any fun t => t.any (lackN l)) = E at *
  clear hl hr hd hk hru hru2 htn hf HR lay
  go_enter Tryz.func112, Tryz.ntmps112
  go_wp2_with (go_at_call 113; refine (uH HA).mono ?_; rintro e w2 ⟨rfl, hc2⟩; have HC2 := hH hc2; clear hc2)
  go_ret
  exact ⟨rfl, uH HC2⟩
end Go.Proofs.YtinekmjengckdaaGreatDoor
