/-
  Layer 9, the program's side: which nodes, and which types, may be. Layer 9, the program's side: which types may be. Layer 9, the program's side: the variables of a type.
-/
import Derived.Test.YtinekmjengckdaaGreatDoorA05
import Derived.Test.YtinekmjengckdaaGreatDoorA07
namespace Go.Proofs.YtinekmjengckdaaGreatDoor
open Go.RowKit
set_option maxHeartbeats 4000000
set_option maxRecDepth 100000
theorem text_eq (s : ByteArray) (l : List UInt8) : decide (s = ⟨l.toArray⟩) = (s.toList == l) := by
  rw [Bool.eq_iff_iff, decide_eq_true_eq, beq_iff_eq, ByteArray.toList_eq]
  obtain ⟨⟨d⟩⟩ := s
  constructor
  · intro h
    injection h with h
    injection h
  · intro h
    have h : d = l := h
    rw [h]
theorem nodeB_var {n : Nd} (h : n.kind = 31) : nodeB n = (n.kids == 0 && n.text.toList.isEmpty && decide (0 ≤ n.num) && decide (n.num ≤ 1048576)) := by
  unfold nodeB
  rw [if_pos h, text_eq n.text []]
  congr 3
  cases n.text.toList <;> rfl
theorem nodeB_con {n : Nd} (h : n.kind = 32) (h0 : n.num = 0) : nodeB n = if (n.text.toList == [45, 62]) = true then n.kids == 2 else if (n.text.toList == [105, 110, 116]) = true ∨ (n.text.toList == [116, 101, 120, 116]) = true then n.kids == 0 else if (n.text.toList == [114, 101, 102]) = true then n.kids == 1 else nameB 2 n.text && decide (n.kids ≤ 8) := by
  have hh : ∀ l : List UInt8, (n.text = ⟨l.toArray⟩) = ((n.text.toList == l) = true) := fun l => by rw [← text_eq, decide_eq_true_eq]
  unfold nodeB
  rw [if_neg (by omega), if_neg (by omega)]
  unfold ArrowT IntT TextT RefT
  simp only [← hh]
def ndV (n : Nd) : Value := .agg #[.int .i64 n.kind, .string n.text, .int .i64 n.num, .int .i64 n.kids]
theorem right_any (n : Nd) (w : World) (hs : ndOk n) (hl : Lay w) : Calls Tryz.prog 148 #[ndV n] w fun e w' => e = .returned (.bool (nodeB n)) ∧ Chg (fun _ => False) w w' := by
  have hv := nodeB_var (n := n)
  have hc := nodeB_con (n := n)
  have hN := fun W (hW : Chg (fun _ => False) w W) => right_con n.text W hs (hl.chg hW (fun _ _ => id))
  have ho : n.kind ≠ 31 → (n.kind ≠ 32 ∨ n.num ≠ 0) → nodeB n = false := fun h h2 => by unfold nodeB; rw [if_neg h, if_pos h2]
  unfold ndV
  obtain ⟨k, t, m, q⟩ := n
  dsimp only at *
  generalize nodeB ⟨k, t, m, q⟩ = E at *
  have H0 := hH ((Chg.refl (fun _ => False) w).alloc (.cells #[.int .i64 k, .string t, .int .i64 m, .int .i64 q] 59))
  have HBK := hH (Blk.new w 59 #[.int .i64 k, .string t, .int .i64 m, .int .i64 q])
  have HNM := hH hN
  clear hN hl
  by_cases h31 : k = 31
  · subst h31
    have hE := hv rfl
    clear hv hc ho
    cases b1 : (q == 0) <;> cases b2 : t.toList.isEmpty <;> cases b3 : decide (0 ≤ m) <;> cases b4 : decide (m ≤ 1048576)
    all_goals
      have HE := hH hE
      rw [b1, b2, b3, b4] at HE
      clear hE
      go_enter Tryz.func148, Tryz.ntmps148
      go_wp2_with fail
      go_ret
      exact ⟨retv (boolv (uH HE).symm), uH H0⟩
  · by_cases h32 : k = 32 ∧ m = 0
    · obtain ⟨rfl, rfl⟩ := h32
      have hE := hc rfl rfl
      clear hv hc ho h31
      cases b1 : (t.toList == [45, 62])
      · cases b2 : (t.toList == [105, 110, 116])
        · cases b3 : (t.toList == [116, 101, 120, 116])
          · cases b4 : (t.toList == [114, 101, 102])
            · cases b5 : nameB 2 t <;> cases b6 : decide (q ≤ 8)
              all_goals
                have HE := hH hE
                rw [b1, b2, b3, b4, b5, b6] at HE
                rw [b5] at HNM
                clear hE b5
                go_enter Tryz.func148, Tryz.ntmps148
                go_wp2_with (go_at_call 96; refine ((uH HNM) _ (uH H0)).mono ?_; rintro e w2 ⟨rfl, hc2⟩; have HC2 := hH hc2; have y3 := ((uH HBK).chg hc2 id).cell 3; simp only [List.getElem?_toArray, List.getElem?_cons_zero, List.getElem?_cons_succ] at y3; clear hc2)
                go_ret
                exact ⟨retv (boolv (by rw [uH HE]; rfl)), (uH H0).trans' (uH HC2)⟩
            · have HE := hH hE
              rw [b1, b2, b3, b4] at HE
              clear hE HNM
              go_enter Tryz.func148, Tryz.ntmps148
              go_wp2_with fail
              go_ret
              exact ⟨retv (boolv (by rw [uH HE]; rfl)), uH H0⟩
          · have HE := hH hE
            rw [b1, b2, b3] at HE
            clear hE HNM
            go_enter Tryz.func148, Tryz.ntmps148
            go_wp2_with fail
            go_ret
            exact ⟨retv (boolv (by rw [uH HE]; rfl)), uH H0⟩
        · have HE := hH hE
          rw [b1, b2] at HE
          clear hE HNM
          go_enter Tryz.func148, Tryz.ntmps148
          go_wp2_with fail
          go_ret
          exact ⟨retv (boolv (by rw [uH HE]; rfl)), uH H0⟩
      · have HE := hH hE
        rw [b1] at HE
        clear hE HNM
        go_enter Tryz.func148, Tryz.ntmps148
        go_wp2_with fail
        go_ret
        exact ⟨retv (boolv (by rw [uH HE]; rfl)), uH H0⟩
    · have HE := hH (ho h31 (by omega))
      have d31 : (k == 31) = false := beq_eq_false_iff_ne.2 h31
      clear hv hc ho HNM
      by_cases hk : k = 32
      · subst hk
        have hm : (m != 0) = true := bne_iff_ne.2 (by omega)
        clear h31 h32 d31
        go_enter Tryz.func148, Tryz.ntmps148
        go_wp2_with fail
        go_ret
        exact ⟨retv (boolv (uH HE).symm), uH H0⟩
      · have hm : (k != 32) = true := bne_iff_ne.2 hk
        clear h31 h32
        go_enter Tryz.func148, Tryz.ntmps148
        go_wp2_with fail
        go_ret
        exact ⟨retv (boolv (uH HE).symm), uH H0⟩
end Go.Proofs.YtinekmjengckdaaGreatDoor

namespace Go.Proofs.YtinekmjengckdaaGreatDoor
open Go.RowKit
set_option maxHeartbeats 4000000
set_option maxRecDepth 100000
def idxP {α : Type} (p : α → Bool) (l : List α) : Int := match l.findIdx? p with
  | some k => (k : Int)
  | none => -1
theorem idxP_here {α : Type} {p : α → Bool} {l : List α} {k : Nat} {x : α} (hx : l[k]? = some x) (hp : p x = true) (ha : ∀ j y, j < k → l[j]? = some y → p y = false) : idxP p l = (k : Int) := by
  unfold idxP
  have : l.findIdx? p = some k := by
    rw [List.findIdx?_eq_some_iff_getElem]
    obtain ⟨hk, rfl⟩ := List.getElem?_eq_some_iff.1 hx
    refine ⟨hk, hp, fun j hj => ?_⟩
    rw [ha j _ hj (List.getElem?_eq_getElem (by omega))]
    exact Bool.false_ne_true
  rw [this]
theorem idxP_none {α : Type} {p : α → Bool} {l : List α} (ha : ∀ (j : Nat) (y : α), l[j]? = some y → p y = false) : idxP p l = -1 := by
  unfold idxP
  have : l.findIdx? p = none := by
    rw [List.findIdx?_eq_none_iff]
    intro x hx
    obtain ⟨j, hj⟩ := List.mem_iff_getElem?.1 hx
    exact ha j x hj
  rw [this]
theorem idxP_any {α : Type} (p : α → Bool) (l : List α) : decide (0 ≤ idxP p l) = l.any p := by
  unfold idxP
  cases h : l.findIdx? p with
  | some k =>
    rw [List.findIdx?_eq_some_iff_getElem] at h
    obtain ⟨hk, h1, _⟩ := h
    rw [List.any_eq_true.2 ⟨_, List.getElem_mem hk, h1⟩]
    exact decide_eq_true (by dsimp only; omega)
  | none =>
    rw [List.findIdx?_eq_none_iff] at h
    have : l.any p = false := by
      rw [List.any_eq_false]
      intro x hx
      rw [h x hx]
      exact Bool.false_ne_true
    rw [this]
    exact decide_eq_false (by dsimp only; omega)
theorem idx_tc (l : List Nd) (v : Value) (T : Nat → Prop) (w : World) (p : Nd → Bool) (hr : RdN T w v l) (hn : l.length ≤ 1000000) (hcl : ∀ W, Chg (fun _ => False) w W → ∀ x ∈ l, Calls Tryz.prog 147 #[ndV x] W fun e w' => e = .returned (.bool (p x)) ∧ Chg (fun _ => False) W w') :
    Calls Tryz.prog 155 #[v, .func (.func 147) #[] #[]] w fun e w' => e = .returned (.int .i64 (idxP p l)) ∧ Chg (fun _ => False) w w' := by
  obtain ⟨A, c, rfl⟩ := hr.val
  have HR := hH hr
  have HCL := hH hcl
  have HNO := hH (idxP_none (p := p) (l := l))
  have HHE := hH (fun k x => idxP_here (p := p) (l := l) (k := k) (x := x))
  generalize idxP p l = R at *
  clear hr hcl
  go_enter Tryz.func155, Tryz.ntmps155
  go_wp2_with fail
  go_loopw [8] (fun i wr => ∃ k : Nat, i = .int .i64 (k : Int) ∧ k ≤ l.length ∧ (∀ j y, j < k → l[j]? = some y → p y = false) ∧ Chg (fun _ => False) w wr) (fun i _ => l.length - (intOf i).toNat)
  case atStart => exact ⟨0, rfl, Nat.zero_le _, fun j y h => absurd h (Nat.not_lt_zero _), Chg.refl _ _⟩
  case round =>
    obtain ⟨wq, rfl⟩ : ∃ wq : World, wq = wr := ⟨_, rfl⟩
    obtain ⟨k, rfl, hk, hall, hch⟩ := hrel
    by_cases hlt : k < l.length
    · have hki : (k : Int) < (l.length : Int) := by omega
      have hx : l[k]? = some l[k] := List.getElem?_eq_getElem hlt
      have hcx := (uH HCL) wq hch l[k] (List.getElem_mem hlt)
      generalize l[k] = x at *
      obtain ⟨b, o, c2, hv, _, _, c0, c1, c3, c4⟩ := ((uH HR).chg hch (fun _ _ _ => id)).at_ hx
      injection hv with hv1 hv2 hv3
      subst hv1 hv3
      have HALL := hH hall
      have HX := hH hx
      have HCH := hH hch
      unfold ndV at hcx
      cases hp : p x
      · rw [hp] at hcx
        have HC := hH hcx
        have HP := hH hp
        clear hcx hall hx hch hp
        go_wp2_with (go_at_call 147; refine (uH HC).mono ?_; rintro e w2 ⟨rfl, hc2⟩; have HC2 := hH hc2; clear hc2)
        go_roundw
        case rel =>
          exact ⟨k + 1, by go_num, by omega, fun j y hj hy => by
            rcases Nat.lt_or_ge j k with h | h
            · exact (uH HALL) j y h hy
            · obtain rfl : j = k := by omega
              have := (uH HX).symm.trans hy
              injection this with this
              rw [← this]
              exact uH HP, (uH HCH).trans' (uH HC2)⟩
        case measure => simp [intOf]; omega
      · rw [hp] at hcx
        have HC := hH hcx
        have HF := hH ((uH HHE) k x hx hp hall)
        clear hcx hall hx hch hp
        go_wp2_with (go_at_call 147; refine (uH HC).mono ?_; rintro e w2 ⟨rfl, hc2⟩; have HC2 := hH hc2; clear hc2)
        go_ret
        exact ⟨retv (intv (uH HF).symm), (uH HCH).trans' (uH HC2)⟩
    · obtain rfl : k = l.length := by omega
      have hki : ¬ (l.length : Int) < (l.length : Int) := by omega
      have HF := hH ((uH HNO) (fun j y hy => hall j y (List.getElem?_eq_some_iff.1 hy).1 hy))
      have HCH := hH hch
      clear hall hch
      go_wp2_with fail
      go_ret
      exact ⟨retv (intv (uH HF).symm), uH HCH⟩
theorem has_tc (l : List Nd) (v : Value) (T : Nat → Prop) (w : World) (p : Nd → Bool) (hr : RdN T w v l) (hn : l.length ≤ 1000000) (hcl : ∀ W, Chg (fun _ => False) w W → ∀ x ∈ l, Calls Tryz.prog 147 #[ndV x] W fun e w' => e = .returned (.bool (p x)) ∧ Chg (fun _ => False) W w') :
    Calls Tryz.prog 115 #[v, .func (.func 147) #[] #[]] w fun e w' => e = .returned (.bool (l.any p)) ∧ Chg (fun _ => False) w w' := by
  have HI := hH (idx_tc l v T w  p hr hn hcl)
  have ha := idxP_any p l
  obtain ⟨A, c, rfl⟩ := hr.val
  generalize idxP p l = R at *
  generalize l.any p = B at *
  clear hr hcl
  have HA := hH ha
  clear ha
  go_enter Tryz.func115, Tryz.ntmps115
  go_wp2_with (go_at_call 155; refine (uH HI).mono ?_; rintro e w2 ⟨rfl, hc2⟩; have HC2 := hH hc2; clear hc2)
  go_ret
  exact ⟨retv (boolv (uH HA)), uH HC2⟩
theorem notNode_any (n : Nd) (w : World) (hs : ndOk n) (hl : Lay w) : Calls Tryz.prog 147 #[ndV n] w fun e w' => e = .returned (.bool (!nodeB n)) ∧ Chg (fun _ => False) w w' := by
  have h0 := (Chg.refl (fun _ => False) w).alloc (.cells #[.int .i64 n.kind, .string n.text, .int .i64 n.num, .int .i64 n.kids] 59)
  have HC := hH (right_any n _ hs (hl.chg h0 (fun _ _ => id)))
  generalize nodeB n = E at *
  have H0 := hH h0
  clear h0 hl hs
  unfold ndV at HC ⊢
  go_enter Tryz.func147, Tryz.ntmps147
  go_wp2_with (go_at_call 148; refine (uH HC).mono ?_; rintro e w2 ⟨rfl, hc2⟩; have HC2 := hH hc2; clear hc2)
  go_ret
  exact ⟨rfl, (uH H0).trans' (uH HC2)⟩
def typE (t : List Nd) : Int := if typB t then 0 else 90
theorem any_not {α : Type} (p : α → Bool) (l : List α) : (l.any fun x => !p x) = !(l.all p) := by
  induction l with
  | nil => rfl
  | cons x l ih => rw [List.any_cons, List.all_cons, ih, Bool.not_and]
theorem check_any (l : List Nd) (v : Value) (T : Nat → Prop) (w : World) (hr : RdN T w v l) (hl : Lay w) :
    Calls Tryz.prog 98 #[v] w fun e w' => e = .returned (.int .i64 (typE l)) ∧ Chg (fun _ => False) w w' := by
  have hE : typE l = if (decide (l.length ≤ 4000) && wholeB l && l.all nodeB) then 0 else 90 := rfl
  have hb := hr.big
  obtain ⟨A, c, hv⟩ := hr.val
  by_cases h4 : l.length ≤ 4000
  · have HW := hH (fun W (hW : Chg (fun _ => False) w W) => whole_any l v T W (hr.chg hW (fun _ _ _ => id)) h4)
    have HH := hH (fun W (hW : Chg (fun _ => False) w W) => has_tc l v T W (fun x => !nodeB x) (hr.chg hW (fun _ _ _ => id)) (by omega) (fun W2 hW2 x hx => by
      obtain ⟨k, hk⟩ := List.mem_iff_getElem?.1 hx
      obtain ⟨_, _, _, _, _, hok, _⟩ := hr.at_ hk
      exact notNode_any x W2 hok ((hl.chg hW (fun _ _ => id)).chg hW2 (fun _ _ => id))))
    rw [any_not] at HH
    rw [decide_eq_true h4, Bool.true_and] at hE
    generalize typE l = E at *
    generalize l.all nodeB = B at *
    have hd : ¬ (4000 : Int) < (l.length : Int) := by omega
    subst hv
    cases hw : wholeB l
    · rw [hw] at hE HW
      have HE := hH hE
      clear hE hr hl hw HH
      go_enter Tryz.func98, Tryz.ntmps98
      go_wp2_with (go_at_call 146; refine ((uH HW) _ (Chg.refl _ _)).mono ?_; rintro e w2 ⟨rfl, hc2⟩; have HC2 := hH hc2; clear hc2)
      go_ret
      exact ⟨retv (intv (by rw [uH HE]; rfl)), uH HC2⟩
    · cases B
      all_goals
        have HE := hH hE
        rw [hw] at HE HW
        have HH2 := hH (uH HH)
        clear hE hr hl hw HH
        go_enter Tryz.func98, Tryz.ntmps98
        go_wp2_with (first
          | (go_at_call 146; refine ((uH HW) _ (Chg.refl _ _)).mono ?_; rintro e w2 ⟨rfl, hc2⟩; have HC2 := hH hc2; clear hc2)
          | (go_at_call 115; refine ((uH HH2) _ (uH HC2)).mono ?_; rintro e w3 ⟨rfl, hc3⟩; have HC3 := hH hc3; clear hc3))
        go_ret
        exact ⟨retv (intv (by rw [uH HE]; rfl)), (uH HC2).trans' (uH HC3)⟩
  · have HE := hH (show typE l = 90 by rw [hE, decide_eq_false h4]; rfl)
    generalize typE l = E at *
    have hd : (4000 : Int) < (l.length : Int) := by omega
    subst hv
    clear hE hr hl
    go_enter Tryz.func98, Tryz.ntmps98
    go_wp2_with fail
    go_ret
    exact ⟨retv (intv (uH HE).symm), Chg.refl _ _⟩
end Go.Proofs.YtinekmjengckdaaGreatDoor

namespace Go.Proofs.YtinekmjengckdaaGreatDoor
open Go.RowKit
set_option maxHeartbeats 4000000
set_option maxRecDepth 100000
theorem index_int (l : List Int) (A : Option Addr) (c : Nat) (x : Int) (T : Nat → Prop) (w : World) (hr : Rd T w A (l.map intl)) (hn : l.length ≤ 1000000) :
    Calls Tryz.prog 100 #[.slice A l.length c, .int .i64 x] w fun e w' => e = .returned (.int .i64 (idxP (fun y => x == y) l)) ∧ Chg (fun _ => False) w w' := by
  have HR := hH hr
  have HNO := hH (idxP_none (p := fun y => x == y) (l := l))
  have HHE := hH (fun k z => idxP_here (p := fun y => x == y) (l := l) (k := k) (x := z))
  generalize idxP (fun y => x == y) l = R at *
  clear hr
  go_enter Tryz.func100, Tryz.ntmps100
  go_wp2_with fail
  go_loopw [8] (fun i wr => ∃ k : Nat, i = .int .i64 (k : Int) ∧ k ≤ l.length ∧ (∀ j y, j < k → l[j]? = some y → (x == y) = false) ∧ Chg (fun _ => False) w wr) (fun i _ => l.length - (intOf i).toNat)
  case atStart => exact ⟨0, rfl, Nat.zero_le _, fun j y h => absurd h (Nat.not_lt_zero _), Chg.refl _ _⟩
  case round =>
    obtain ⟨wq, rfl⟩ : ∃ wq : World, wq = wr := ⟨_, rfl⟩
    obtain ⟨k, rfl, hk, hall, hch⟩ := hrel
    by_cases hlt : k < l.length
    · have hki : (k : Int) < (l.length : Int) := by omega
      have hx : l[k]? = some l[k] := List.getElem?_eq_getElem hlt
      obtain ⟨b, o, rfl, _, hat⟩ := ((uH HR).chg hch (fun _ _ _ => id)).flat (by intro e; have := congrArg List.length e; rw [List.length_map, List.length_nil] at this; omega)
      have c0 := hat k (intl l[k]) (by rw [List.getElem?_map, hx]; rfl)
      unfold intl at c0
      generalize l[k] = z at *
      have HALL := hH hall
      have HX := hH hx
      have HCH := hH hch
      cases hp : (x == z)
      · have HP := hH hp
        clear hall hx hch hat
        go_wp2_with fail
        go_roundw
        case rel =>
          exact ⟨k + 1, by go_num, by omega, fun j y hj hy => by
            rcases Nat.lt_or_ge j k with h | h
            · exact (uH HALL) j y h hy
            · obtain rfl : j = k := by omega
              have := (uH HX).symm.trans hy
              injection this with this
              rw [← this]
              exact uH HP, uH HCH⟩
        case measure => simp [intOf]; omega
      · have HF := hH ((uH HHE) k z hx hp hall)
        clear hall hx hch hat
        go_wp2_with fail
        go_ret
        exact ⟨retv (intv (uH HF).symm), uH HCH⟩
    · obtain rfl : k = l.length := by omega
      have hki : ¬ (l.length : Int) < (l.length : Int) := by omega
      have HF := hH ((uH HNO) (fun j y hy => hall j y (List.getElem?_eq_some_iff.1 hy).1 hy))
      have HCH := hH hch
      clear hall hch
      go_wp2_with fail
      go_ret
      exact ⟨retv (intv (uH HF).symm), uH HCH⟩
theorem contains_int (l : List Int) (A : Option Addr) (c : Nat) (x : Int) (T : Nat → Prop) (w : World) (hr : Rd T w A (l.map intl)) (hn : l.length ≤ 1000000) :
    Calls Tryz.prog 145 #[.slice A l.length c, .int .i64 x] w fun e w' => e = .returned (.bool (l.any fun y => x == y)) ∧ Chg (fun _ => False) w w' := by
  have HI := hH (index_int l A c x T w hr hn)
  have ha := idxP_any (fun y => x == y) l
  generalize idxP (fun y => x == y) l = R at *
  generalize l.any (fun y => x == y) = B at *
  clear hr
  have HA := hH ha
  clear ha
  go_enter Tryz.func145, Tryz.ntmps145
  go_wp2_with (go_at_call 100; refine (uH HI).mono ?_; rintro e w2 ⟨rfl, hc2⟩; have HC2 := hH hc2; clear hc2)
  go_ret
  exact ⟨retv (boolv (uH HA)), uH HC2⟩
def varsR (l : List Nd) : List Int := if typB l then varsL l else []
theorem varsG_snoc (x : Nd) : ∀ (l : List Nd) (out : List Int), varsG out (l ++ [x]) = if x.kind = 31 ∧ x.num ∉ varsG out l then varsG out l ++ [x.num] else varsG out l
  | [], out => by
    rw [List.nil_append]
    unfold varsG varsG
    rfl
  | y :: l, out => by
    rw [List.cons_append, varsG, varsG]
    split
    · exact varsG_snoc x l _
    · exact varsG_snoc x l _
theorem varsG_len : ∀ (l : List Nd) (out : List Int), (varsG out l).length ≤ out.length + l.length
  | [], out => by simp [varsG]
  | y :: l, out => by
    unfold varsG
    split
    · have := varsG_len l (out ++ [y.num])
      rw [List.length_append, List.length_singleton] at this
      simp only [List.length_cons]
      omega
    · have := varsG_len l out
      simp only [List.length_cons]
      omega
theorem any_mem (l : List Int) (x : Int) : (l.any fun y => x == y) = decide (x ∈ l) := by
  rw [Bool.eq_iff_iff, List.any_eq_true, decide_eq_true_eq]
  constructor
  · rintro ⟨y, hy, h⟩
    rw [eq_of_beq h]
    exact hy
  · intro h
    exact ⟨x, h, beq_self_eq_true x⟩
theorem vars_any (l : List Nd) (v : Value) (T : Nat → Prop) (w : World) (hr : RdN T w v l) (hl : Lay w) :
    Calls Tryz.prog 97 #[v] w fun e w' => ∃ A c, e = .returned (.slice A (varsR l).length c) ∧ Rd (fun k => w.heap.size ≤ k) w' A ((varsR l).map intl) ∧ Chg (fun _ => False) w w' := by
  have HC := hH (check_any l v T w hr hl)
  have HV := hH (show varsR l = if typB l then varsL l else [] from rfl)
  cases ht : typB l
  · have hE : typE l = 90 := by unfold typE; rw [ht]; rfl
    rw [hE] at HC
    rw [ht] at HV
    obtain ⟨A, c, rfl⟩ := hr.val
    generalize varsR l = R at *
    obtain rfl : R = [] := uH HV
    clear hr hl hE ht
    go_enter Tryz.func97, Tryz.ntmps97
    go_wp2_with (go_at_call 98; refine (uH HC).mono ?_; rintro e w2 ⟨rfl, hc2⟩; have HC2 := hH hc2; clear hc2)
    go_ret
    exact ⟨none, 0, rfl, Rd.nil_ _ _ _, uH HC2⟩
  · have hE : typE l = 0 := by unfold typE; rw [ht]; rfl
    rw [hE] at HC
    rw [ht] at HV
    have h4 : l.length ≤ 4000 := by
      unfold typB at ht
      simp only [Bool.and_eq_true, decide_eq_true_eq] at ht
      exact ht.1.1
    obtain ⟨A, c, rfl⟩ := hr.val
    obtain ⟨i3, hi3, hz3', hs3, hb3⟩ := info_parts info3
    have HR := hH hr
    have HV2 := hH (show varsR l = varsL l from uH HV)
    generalize varsR l = R at *
    clear hr hl hE ht HV
    go_enter Tryz.func97, Tryz.ntmps97
    go_wp2_with (go_at_call 98; refine (uH HC).mono ?_; rintro e w2 ⟨rfl, hc2⟩; have HC2 := hH hc2; clear hc2)
    go_loopw [3, 11] (fun out i wr => ∃ k : Nat, i = .int .i64 (k : Int) ∧ k ≤ l.length ∧ wr.ownsRow w.heap.size 3 1 out (varsL (l.take k)).length ((varsL (l.take k)).map intl) ∧ Chg (fun _ => False) w wr) (fun _ i _ => l.length - (intOf i).toNat)
    case atStart => exact ⟨0, rfl, Nat.zero_le _, World.ownsRow_nil _ _ _ _, uH HC2⟩
    case round =>
      obtain ⟨wq, rfl⟩ : ∃ wq : World, wq = wr := ⟨_, rfl⟩
      obtain ⟨k, rfl, hk, hown, hch⟩ := hrel
      obtain ⟨B, c5, rfl⟩ := own_val hown
      by_cases hlt : k < l.length
      · have hki : (k : Int) < (l.length : Int) := by omega
        have hx : l[k]? = some l[k] := List.getElem?_eq_getElem hlt
        have hsn : varsL (l.take (k + 1)) = if l[k].kind = 31 ∧ l[k].num ∉ varsL (l.take k) then varsL (l.take k) ++ [l[k].num] else varsL (l.take k) := by
          rw [List.take_succ_eq_append_getElem hlt]
          exact varsG_snoc _ _ _
        have hvl : (varsL (l.take k)).length ≤ 4000 := by
          have := varsG_len (l.take k) []
          rw [List.length_take, List.length_nil] at this
          unfold varsL
          omega
        generalize l[k] = x at *
        obtain ⟨b, o, c2, hv, _, _, c0, c1, c3, c4⟩ := ((uH HR).chg hch (fun _ _ _ => id)).at_ hx
        injection hv with hv1 hv2 hv3
        subst hv1 hv3
        have HOWN := hH hown
        have HCH := hH hch
        have HSN := hH hsn
        generalize hvv : varsL (l.take k) = V at *
        have HVV := hH hvv
        clear hown hch hsn hx hvv
        go_upto_region 7 with fail
        have bk := Blk.new wq 59 #[.int .i64 x.kind, .string x.text, .int .i64 x.num, .int .i64 x.kids]
        have hc3 : Chg (fun _ => False) wq (wq.alloc (.cells #[.int .i64 x.kind, .string x.text, .int .i64 x.num, .int .i64 x.kids] 59)) := (Chg.refl _ wq).alloc _
        have ho3 := (uH HOWN).alloc (.cells #[.int .i64 x.kind, .string x.text, .int .i64 x.num, .int .i64 x.kids] 59)
        have hz3 := hc3.size
        generalize wq.alloc (.cells #[.int .i64 x.kind, .string x.text, .int .i64 x.num, .int .i64 x.kids] 59) = w3 at *
        generalize wq.heap.size = nb at *
        have x0 := bk.cell 0
        have x2 := bk.cell 2
        simp only [List.getElem?_toArray, List.getElem?_cons_zero, List.getElem?_cons_succ] at x0 x2
        have HBK := hH bk
        have HC3 := hH ((uH HCH).trans' hc3)
        have HO3 := hH ho3
        have HD := hH (contains_int V B c5 x.num _ w3 (own_rd ho3 (by omega)) (by omega))
        rw [any_mem] at HD
        clear bk hc3 ho3 c0 c1 c3 c4
        by_cases hkd : x.kind = 31
        · rw [hkd] at x0
          by_cases hm : x.num ∈ V
          · have HS2 := hH (show varsL (l.take (k + 1)) = V from by rw [uH HSN, if_neg (fun h => h.2 hm)])
            rw [decide_eq_true hm] at HD
            clear hm hkd
            go_wp2_with (go_at_call 145; refine (uH HD).mono ?_; rintro e w4 ⟨rfl, hc4⟩; have HC4 := hH hc4; clear hc4)
            go_roundw
            case rel => exact ⟨k + 1, by go_num, by omega, by rw [uH HS2]; exact own_chg (uH HO3) (uH HC4) (fun _ _ h => h), (uH HC3).trans' (uH HC4)⟩
            case measure => simp [intOf]; omega
          · have HS2 := hH (show varsL (l.take (k + 1)) = V ++ [x.num] from by rw [uH HSN, if_pos ⟨hkd, hm⟩])
            rw [decide_eq_false hm] at HD
            have hm1 : V.length + 1 ≤ maxLen := by simp only [maxLen]; omega
            have hm2 : (V.length + 1) * 8 ≤ 140737488355328 := by omega
            have ho1 : ∀ u ∈ [intl x.num], u.oneCell' = true := by intro u hu; simp at hu; subst hu; rfl
            have HRN := hH (fun W : World => (rd_new W W.heap.size 3 [intl x.num] rfl).mono (T' := fun _ => True) (fun _ _ => trivial))
            clear hm hkd
            go_wp2_with (first
              | (go_at_call 145; refine (uH HD).mono ?_; rintro e w4 ⟨rfl, hc4⟩; have HC4 := hH hc4; have y2 := ((uH HBK).chg hc4 id).cell 2; simp only [List.getElem?_toArray, List.getElem?_cons_zero, List.getElem?_cons_succ] at y2; have HO4 := hH (own_chg (uH HO3) hc4 (fun _ _ h => h)); (have hb4 : w.heap.size ≤ (w4.alloc (.cells #[.int .i64 x.num] 3)).heap.size := by (rw [size_alloc]; have h1 := (uH HC3).size; have h2 := hc4.size; omega)); clear hc4)
              | (at_builtin
                 refine wpList_append_rd _ rfl (.tmp 25) (.tmp 28) 139 rfl w.heap.size 3 i3 (.int .i64 0) 1 8 Tryz.underlying139 hi3 hz3' hs3 hb3 rfl (Nat.succ_pos 0) _ V.length _ rfl ((uH HO4).alloc _) (fun _ => True) (some ⟨w4.heap.size, 0, none⟩) 1 1 [intl x.num] rfl rfl ((uH HRN) w4) ho1 hm1 hm2 hb4 ?_
                 intro v5 w5 ho5 hc5 hat
                 have HO5 := hH ho5
                 have HC5 := hH (((uH HC3).trans' (uH HC4)).trans (((Chg.refl (fun k => (Value.slice B V.length c5).ownBlock = some k) w4).alloc (.cells #[.int .i64 x.num] 3)).trans hc5 (fun _ _ h => h)) (fun i hi e => by have := ((uH HO4).lt i e).1; omega))
                 clear ho5 hc5 hat))
            go_roundw
            case rel =>
              refine ⟨k + 1, by go_num, by omega, ?_, uH HC5⟩
              rw [uH HS2, List.map_append, List.length_append]
              exact uH HO5
            case measure => simp [intOf]; omega
        · have HS2 := hH (show varsL (l.take (k + 1)) = V from by rw [uH HSN, if_neg (fun h => hkd h.1)])
          have hkf : (x.kind == 31) = false := beq_eq_false_iff_ne.2 hkd
          clear hkd
          go_wp2_with fail
          go_roundw
          case rel => exact ⟨k + 1, by go_num, by omega, by rw [uH HS2]; exact uH HO3, uH HC3⟩
          case measure => simp [intOf]; omega
      · obtain rfl : k = l.length := by omega
        have hki : ¬ (l.length : Int) < (l.length : Int) := by omega
        have HOWN := hH hown
        have HCH := hH hch
        have ht : varsL (l.take l.length) = R := by rw [List.take_length]; exact (uH HV2).symm
        have HT := hH ht
        clear hown hch ht
        go_wp2_with fail
        go_ret
        have hT := uH HT
        have hO := uH HOWN
        rw [hT] at hO
        exact ⟨B, ⟨c5, by rw [← hT, List.take_length]; rfl⟩, (own_rd hO (by omega)).mono (fun k hk => (hO.lt k hk).1), uH HCH⟩
end Go.Proofs.YtinekmjengckdaaGreatDoor
