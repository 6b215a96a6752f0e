/-
  Layer 9, the program's side: which nodes, and which types, may be. Layer 9, the program's side: which types may be.
-/
import Derived.Test.YtinekmjengckdaaGreatDoorM03
import Derived.Test.YtinekmjengckdaaGreatDoorM05
namespace Go.Proofs.YtinekmjengckdaaGreatDoor
open Go.RowKit
set_option maxHeartbeats 4000000
set_option maxRecDepth 100000
theorem text_eq (s : ByteArray) (l : List UInt8) : decide (s = ⟨l.toArray⟩) = (s.toList == l) := by
  rw [Bool.eq_iff_iff, decide_eq_true_eq, beq_iff_eq, ByteArray.toList_eq]
  obtain ⟨⟨d⟩⟩ := s
  constructor
  · intro h
    injection h with h
    injection h
  · intro h
    have h : d = l := h
    rw [h]
theorem nodeB_var {n : Nd} (h : n.kind = 31) : nodeB n = (n.kids == 0 && n.text.toList.isEmpty && decide (0 ≤ n.num) && decide (n.num ≤ 1048576)) := by
  unfold nodeB
  rw [if_pos h, text_eq n.text []]
  congr 3
  cases n.text.toList <;> rfl
theorem nodeB_con {n : Nd} (h : n.kind = 32) (h0 : n.num = 0) : nodeB n = if (n.text.toList == [45, 62]) = true then n.kids == 2 else if (n.text.toList == [105, 110, 116]) = true ∨ (n.text.toList == [116, 101, 120, 116]) = true then n.kids == 0 else if (n.text.toList == [114, 101, 102]) = true then n.kids == 1 else nameB 2 n.text && decide (n.kids ≤ 8) := by
  have hh : ∀ l : List UInt8, (n.text = ⟨l.toArray⟩) = ((n.text.toList == l) = true) := fun l => by rw [← text_eq, decide_eq_true_eq]
  unfold nodeB
  rw [if_neg (by omega), if_neg (by omega)]
  unfold ArrowT IntT TextT RefT
  simp only [← hh]
def ndV (n : Nd) : Value := .agg #[.int .i64 n.kind, .string n.text, .int .i64 n.num, .int .i64 n.kids]
theorem right_any (n : Nd) (w : World) (hs : ndOk n) (hl : Lay w) : Calls Tryz.prog 148 #[ndV n] w fun e w' => e = .returned (.bool (nodeB n)) ∧ Chg (fun _ => False) w w' := by
  have hv := nodeB_var (n := n)
  have hc := nodeB_con (n := n)
  have hN := fun W (hW : Chg (fun _ => False) w W) => right_con n.text W hs (hl.chg hW (fun _ _ => id))
  have ho : n.kind ≠ 31 → (n.kind ≠ 32 ∨ n.num ≠ 0) → nodeB n = false := fun h h2 => by unfold nodeB; rw [if_neg h, if_pos h2]
  unfold ndV
  obtain ⟨k, t, m, q⟩ := n
  dsimp only at *
  generalize nodeB ⟨k, t, m, q⟩ = E at *
  have H0 := hide ((Chg.refl (fun _ => False) w).alloc (.cells #[.int .i64 k, .string t, .int .i64 m, .int .i64 q] 59))
  have HBK := hide (Blk.new w 59 #[.int .i64 k, .string t, .int .i64 m, .int .i64 q])
  have HNM := hide hN
  clear hN hl
  by_cases h31 : k = 31
  · subst h31
    have hE := hv rfl
    clear hv hc ho
    cases b1 : (q == 0) <;> cases b2 : t.toList.isEmpty <;> cases b3 : decide (0 ≤ m) <;> cases b4 : decide (m ≤ 1048576)
    all_goals
      have HE := hide hE
      rw [b1, b2, b3, b4] at HE
      clear hE
      go_enter Tryz.func148, Tryz.ntmps148
      go_wp2_with fail
      go_ret
      exact ⟨retv (boolv (unhide HE).symm), unhide H0⟩
  · by_cases h32 : k = 32 ∧ m = 0
    · obtain ⟨rfl, rfl⟩ := h32
      have hE := hc rfl rfl
      clear hv hc ho h31
      cases b1 : (t.toList == [45, 62])
      · cases b2 : (t.toList == [105, 110, 116])
        · cases b3 : (t.toList == [116, 101, 120, 116])
          · cases b4 : (t.toList == [114, 101, 102])
            · cases b5 : nameB 2 t <;> cases b6 : decide (q ≤ 8)
              all_goals
                have HE := hide hE
                rw [b1, b2, b3, b4, b5, b6] at HE
                rw [b5] at HNM
                clear hE b5
                go_enter Tryz.func148, Tryz.ntmps148
                go_wp2_with (go_at_call 96; refine ((unhide HNM) _ (unhide H0)).mono ?_; rintro e w2 ⟨rfl, hc2⟩; have HC2 := hide hc2; have y3 := ((unhide HBK).chg hc2 id).cell 3; simp only [List.getElem?_toArray, List.getElem?_cons_zero, List.getElem?_cons_succ] at y3; clear hc2)
                go_ret
                exact ⟨retv (boolv (by rw [unhide HE]; rfl)), (unhide H0).trans' (unhide HC2)⟩
            · have HE := hide hE
              rw [b1, b2, b3, b4] at HE
              clear hE HNM
              go_enter Tryz.func148, Tryz.ntmps148
              go_wp2_with fail
              go_ret
              exact ⟨retv (boolv (by rw [unhide HE]; rfl)), unhide H0⟩
          · have HE := hide hE
            rw [b1, b2, b3] at HE
            clear hE HNM
            go_enter Tryz.func148, Tryz.ntmps148
            go_wp2_with fail
            go_ret
            exact ⟨retv (boolv (by rw [unhide HE]; rfl)), unhide H0⟩
        · have HE := hide hE
          rw [b1, b2] at HE
          clear hE HNM
          go_enter Tryz.func148, Tryz.ntmps148
          go_wp2_with fail
          go_ret
          exact ⟨retv (boolv (by rw [unhide HE]; rfl)), unhide H0⟩
      · have HE := hide hE
        rw [b1] at HE
        clear hE HNM
        go_enter Tryz.func148, Tryz.ntmps148
        go_wp2_with fail
        go_ret
        exact ⟨retv (boolv (by rw [unhide HE]; rfl)), unhide H0⟩
    · have HE := hide (ho h31 (by omega))
      have d31 : (k == 31) = false := beq_eq_false_iff_ne.2 h31
      clear hv hc ho HNM
      by_cases hk : k = 32
      · subst hk
        have hm : (m != 0) = true := bne_iff_ne.2 (by omega)
        clear h31 h32 d31
        go_enter Tryz.func148, Tryz.ntmps148
        go_wp2_with fail
        go_ret
        exact ⟨retv (boolv (unhide HE).symm), unhide H0⟩
      · have hm : (k != 32) = true := bne_iff_ne.2 hk
        clear h31 h32
        go_enter Tryz.func148, Tryz.ntmps148
        go_wp2_with fail
        go_ret
        exact ⟨retv (boolv (unhide HE).symm), unhide H0⟩
end Go.Proofs.YtinekmjengckdaaGreatDoor

namespace Go.Proofs.YtinekmjengckdaaGreatDoor
open Go.RowKit
set_option maxHeartbeats 4000000
set_option maxRecDepth 100000
/-- The first place at which something holds, or -1. -/
def idxP {α : Type} (p : α → Bool) (l : List α) : Int := match l.findIdx? p with
  | some k => (k : Int)
  | none => -1
theorem idxP_here {α : Type} {p : α → Bool} {l : List α} {k : Nat} {x : α} (hx : l[k]? = some x) (hp : p x = true) (ha : ∀ j y, j < k → l[j]? = some y → p y = false) : idxP p l = (k : Int) := by
  unfold idxP
  have : l.findIdx? p = some k := by
    rw [List.findIdx?_eq_some_iff_getElem]
    obtain ⟨hk, rfl⟩ := List.getElem?_eq_some_iff.1 hx
    refine ⟨hk, hp, fun j hj => ?_⟩
    rw [ha j _ hj (List.getElem?_eq_getElem (by omega))]
    exact Bool.false_ne_true
  rw [this]
theorem idxP_none {α : Type} {p : α → Bool} {l : List α} (ha : ∀ (j : Nat) (y : α), l[j]? = some y → p y = false) : idxP p l = -1 := by
  unfold idxP
  have : l.findIdx? p = none := by
    rw [List.findIdx?_eq_none_iff]
    intro x hx
    obtain ⟨j, hj⟩ := List.mem_iff_getElem?.1 hx
    exact ha j x hj
  rw [this]
theorem idxP_any {α : Type} (p : α → Bool) (l : List α) : decide (0 ≤ idxP p l) = l.any p := by
  unfold idxP
  cases h : l.findIdx? p with
  | some k =>
    rw [List.findIdx?_eq_some_iff_getElem] at h
    obtain ⟨hk, h1, _⟩ := h
    rw [List.any_eq_true.2 ⟨_, List.getElem_mem hk, h1⟩]
    exact decide_eq_true (by dsimp only; omega)
  | none =>
    rw [List.findIdx?_eq_none_iff] at h
    have : l.any p = false := by
      rw [List.any_eq_false]
      intro x hx
      rw [h x hx]
      exact Bool.false_ne_true
    rw [this]
    exact decide_eq_false (by dsimp only; omega)
theorem idx_tc (l : List Nd) (v : Value) (T : Nat → Prop) (w : World) (p : Nd → Bool) (hr : RdN T w v l) (hn : l.length ≤ 1000000) (hcl : ∀ W, Chg (fun _ => False) w W → ∀ x ∈ l, Calls Tryz.prog 147 #[ndV x] W fun e w' => e = .returned (.bool (p x)) ∧ Chg (fun _ => False) W w') :
    Calls Tryz.prog 155 #[v, .func (.func 147) #[] #[]] w fun e w' => e = .returned (.int .i64 (idxP p l)) ∧ Chg (fun _ => False) w w' := by
  obtain ⟨A, c, rfl⟩ := hr.val
  have HR := hide hr
  have HCL := hide hcl
  have HNO := hide (idxP_none (p := p) (l := l))
  have HHE := hide (fun k x => idxP_here (p := p) (l := l) (k := k) (x := x))
  generalize idxP p l = R at *
  clear hr hcl
  go_enter Tryz.func155, Tryz.ntmps155
  go_wp2_with fail
  go_loopw [8] (fun i wr => ∃ k : Nat, i = .int .i64 (k : Int) ∧ k ≤ l.length ∧ (∀ j y, j < k → l[j]? = some y → p y = false) ∧ Chg (fun _ => False) w wr) (fun i _ => l.length - (intOf i).toNat)
  case atStart => exact ⟨0, rfl, Nat.zero_le _, fun j y h => absurd h (Nat.not_lt_zero _), Chg.refl _ _⟩
  case round =>
    obtain ⟨wq, rfl⟩ : ∃ wq : World, wq = wr := ⟨_, rfl⟩
    obtain ⟨k, rfl, hk, hall, hch⟩ := hrel
    by_cases hlt : k < l.length
    · have hki : (k : Int) < (l.length : Int) := by omega
      have hx : l[k]? = some l[k] := List.getElem?_eq_getElem hlt
      have hcx := (unhide HCL) wq hch l[k] (List.getElem_mem hlt)
      generalize l[k] = x at *
      obtain ⟨b, o, c2, hv, _, _, c0, c1, c3, c4⟩ := ((unhide HR).chg hch (fun _ _ _ => id)).at_ hx
      injection hv with hv1 hv2 hv3
      subst hv1 hv3
      have HALL := hide hall
      have HX := hide hx
      have HCH := hide hch
      unfold ndV at hcx
      cases hp : p x
      · rw [hp] at hcx
        have HC := hide hcx
        have HP := hide hp
        clear hcx hall hx hch hp
        go_wp2_with (go_at_call 147; refine (unhide HC).mono ?_; rintro e w2 ⟨rfl, hc2⟩; have HC2 := hide hc2; clear hc2)
        go_roundw
        case rel =>
          exact ⟨k + 1, by go_num, by omega, fun j y hj hy => by
            rcases Nat.lt_or_ge j k with h | h
            · exact (unhide HALL) j y h hy
            · obtain rfl : j = k := by omega
              have := (unhide HX).symm.trans hy
              injection this with this
              rw [← this]
              exact unhide HP, (unhide HCH).trans' (unhide HC2)⟩
        case measure => simp [intOf]; omega
      · rw [hp] at hcx
        have HC := hide hcx
        have HF := hide ((unhide HHE) k x hx hp hall)
        clear hcx hall hx hch hp
        go_wp2_with (go_at_call 147; refine (unhide HC).mono ?_; rintro e w2 ⟨rfl, hc2⟩; have HC2 := hide hc2; clear hc2)
        go_ret
        exact ⟨retv (intv (unhide HF).symm), (unhide HCH).trans' (unhide HC2)⟩
    · obtain rfl : k = l.length := by omega
      have hki : ¬ (l.length : Int) < (l.length : Int) := by omega
      have HF := hide ((unhide HNO) (fun j y hy => hall j y (List.getElem?_eq_some_iff.1 hy).1 hy))
      have HCH := hide hch
      clear hall hch
      go_wp2_with fail
      go_ret
      exact ⟨retv (intv (unhide HF).symm), unhide HCH⟩
theorem has_tc (l : List Nd) (v : Value) (T : Nat → Prop) (w : World) (p : Nd → Bool) (hr : RdN T w v l) (hn : l.length ≤ 1000000) (hcl : ∀ W, Chg (fun _ => False) w W → ∀ x ∈ l, Calls Tryz.prog 147 #[ndV x] W fun e w' => e = .returned (.bool (p x)) ∧ Chg (fun _ => False) W w') :
    Calls Tryz.prog 115 #[v, .func (.func 147) #[] #[]] w fun e w' => e = .returned (.bool (l.any p)) ∧ Chg (fun _ => False) w w' := by
  have HI := hide (idx_tc l v T w  p hr hn hcl)
  have ha := idxP_any p l
  obtain ⟨A, c, rfl⟩ := hr.val
  generalize idxP p l = R at *
  generalize l.any p = B at *
  clear hr hcl
  have HA := hide ha
  clear ha
  go_enter Tryz.func115, Tryz.ntmps115
  go_wp2_with (go_at_call 155; refine (unhide HI).mono ?_; rintro e w2 ⟨rfl, hc2⟩; have HC2 := hide hc2; clear hc2)
  go_ret
  exact ⟨retv (boolv (unhide HA)), unhide HC2⟩
theorem notNode_any (n : Nd) (w : World) (hs : ndOk n) (hl : Lay w) : Calls Tryz.prog 147 #[ndV n] w fun e w' => e = .returned (.bool (!nodeB n)) ∧ Chg (fun _ => False) w w' := by
  have h0 := (Chg.refl (fun _ => False) w).alloc (.cells #[.int .i64 n.kind, .string n.text, .int .i64 n.num, .int .i64 n.kids] 59)
  have HC := hide (right_any n _ hs (hl.chg h0 (fun _ _ => id)))
  generalize nodeB n = E at *
  have H0 := hide h0
  clear h0 hl hs
  unfold ndV at HC ⊢
  go_enter Tryz.func147, Tryz.ntmps147
  go_wp2_with (go_at_call 148; refine (unhide HC).mono ?_; rintro e w2 ⟨rfl, hc2⟩; have HC2 := hide hc2; clear hc2)
  go_ret
  exact ⟨rfl, (unhide H0).trans' (unhide HC2)⟩
def typE (t : List Nd) : Int := if typB t then 0 else 90
theorem any_not {α : Type} (p : α → Bool) (l : List α) : (l.any fun x => !p x) = !(l.all p) := by
  induction l with
  | nil => rfl
  | cons x l ih => rw [List.any_cons, List.all_cons, ih, Bool.not_and]
theorem check_any (l : List Nd) (v : Value) (T : Nat → Prop) (w : World) (hr : RdN T w v l) (hl : Lay w) :
    Calls Tryz.prog 98 #[v] w fun e w' => e = .returned (.int .i64 (typE l)) ∧ Chg (fun _ => False) w w' := by
  have hE : typE l = if (decide (l.length ≤ 4000) && wholeB l && l.all nodeB) then 0 else 90 := rfl
  have hb := hr.big
  obtain ⟨A, c, hv⟩ := hr.val
  by_cases h4 : l.length ≤ 4000
  · have HW := hide (fun W (hW : Chg (fun _ => False) w W) => whole_any l v T W (hr.chg hW (fun _ _ _ => id)) h4)
    have HH := hide (fun W (hW : Chg (fun _ => False) w W) => has_tc l v T W (fun x => !nodeB x) (hr.chg hW (fun _ _ _ => id)) (by omega) (fun W2 hW2 x hx => by
      obtain ⟨k, hk⟩ := List.mem_iff_getElem?.1 hx
      obtain ⟨_, _, _, _, _, hok, _⟩ := hr.at_ hk
      exact notNode_any x W2 hok ((hl.chg hW (fun _ _ => id)).chg hW2 (fun _ _ => id))))
    rw [any_not] at HH
    rw [decide_eq_true h4, Bool.true_and] at hE
    generalize typE l = E at *
    generalize l.all nodeB = B at *
    have hd : ¬ (4000 : Int) < (l.length : Int) := by omega
    subst hv
    cases hw : wholeB l
    · rw [hw] at hE HW
      have HE := hide hE
      clear hE hr hl hw HH
      go_enter Tryz.func98, Tryz.ntmps98
      go_wp2_with (go_at_call 146; refine ((unhide HW) _ (Chg.refl _ _)).mono ?_; rintro e w2 ⟨rfl, hc2⟩; have HC2 := hide hc2; clear hc2)
      go_ret
      exact ⟨retv (intv (by rw [unhide HE]; rfl)), unhide HC2⟩
    · cases B
      all_goals
        have HE := hide hE
        rw [hw] at HE HW
        have HH2 := hide (unhide HH)
        clear hE hr hl hw HH
        go_enter Tryz.func98, Tryz.ntmps98
        go_wp2_with (first
          | (go_at_call 146; refine ((unhide HW) _ (Chg.refl _ _)).mono ?_; rintro e w2 ⟨rfl, hc2⟩; have HC2 := hide hc2; clear hc2)
          | (go_at_call 115; refine ((unhide HH2) _ (unhide HC2)).mono ?_; rintro e w3 ⟨rfl, hc3⟩; have HC3 := hide hc3; clear hc3))
        go_ret
        exact ⟨retv (intv (by rw [unhide HE]; rfl)), (unhide HC2).trans' (unhide HC3)⟩
  · have HE := hide (show typE l = 90 by rw [hE, decide_eq_false h4]; rfl)
    generalize typE l = E at *
    have hd : (4000 : Int) < (l.length : Int) := by omega
    subst hv
    clear hE hr hl
    go_enter Tryz.func98, Tryz.ntmps98
    go_wp2_with fail
    go_ret
    exact ⟨retv (intv (unhide HE).symm), Chg.refl _ _⟩
end Go.Proofs.YtinekmjengckdaaGreatDoor
