/-
  Layer 2, the document's side: where a tree ends; whether nodes are one tree.
-/
import Derived.Test.YticnehmgaklhfaaGreatDoorTr
import Derived.Test.YticnehmgaklhfaaGreatDoorLow
namespace Go.Proofs.YticnehmgaklhfaaGreatDoor
open Go.RowKit
set_option maxHeartbeats 2000000
set_option maxRecDepth 100000
theorem endV_none {l : List Nd} {p : Nat} (h : eat (l.drop p) 1 = none) : endV l p = -1 := by unfold endV endAt; rw [h]; rfl
theorem endV_some {l : List Nd} {p n : Nat} (h : eat (l.drop p) 1 = some n) : endV l p = ((p + n : Nat) : Int) := by unfold endV endAt; rw [h]; rfl
theorem eat_at {l : List Nd} {p : Nat} {x : Nd} (hx : l[p]? = some x) (hk : 0 ≤ x.kids) : eat (l.drop p) 1 = (eat (l.drop (p + 1)) x.kids.toNat).map (1 + ·) := by
  obtain ⟨hp, rfl⟩ := List.getElem?_eq_some_iff.1 hx
  rw [List.drop_eq_getElem_cons hp, eat, if_neg (by omega), if_neg (by omega), show 1 - 1 + l[p].kids.toNat = l[p].kids.toNat by omega]
  congr 1
  funext q
  omega
theorem eat_neg {l : List Nd} {p : Nat} {x : Nd} (hx : l[p]? = some x) (hk : x.kids < 0) : eat (l.drop p) 1 = none := by
  obtain ⟨hp, rfl⟩ := List.getElem?_eq_some_iff.1 hx
  rw [List.drop_eq_getElem_cons hp, eat, if_neg (by omega), if_pos hk]
theorem eat_many {l : List Nd} {k : Nat} (h : l.length < k) : eat l k = none := by
  cases e : eat l k with
  | none => rfl
  | some n => have := eat_le e; omega
theorem eat_stop {l : List Nd} {K i q : Nat} (hi : i < K) (hq : eat l i = some q) (h : eat (l.drop q) 1 = none) : eat l K = none := by
  have h1 : eat l (i + 1) = none := by rw [eat_add, hq, Option.bind_some, h]; rfl
  rw [show K = i + 1 + (K - (i + 1)) by omega, eat_add, h1]
  rfl
theorem eat_succ {l : List Nd} {i q n : Nat} (hq : eat l i = some q) (h : eat (l.drop q) 1 = some n) : eat l (i + 1) = some (q + n) := by
  rw [eat_add, hq, Option.bind_some, h]
  rfl
theorem refEnd_any (l : List Nd) (hl : l.length ≤ 4000) : ∀ (d p : Nat) (v : Value) (T : Nat → Prop) (w : World), l.length - p ≤ d → p ≤ l.length → RdN T w v l →
    Calls Tryz.prog 69 #[v, .int .i64 (p : Int)] w fun e w' => e = .returned (.int .i64 (endV l p)) ∧ Chg (fun _ => False) w w' := by
  intro d
  induction d with
  | zero =>
    intro p v T w hd hp hr
    obtain rfl : p = l.length := by omega
    have hE : endV l l.length = -1 := endV_none (by rw [List.drop_length]; rfl)
    rw [hE]
    obtain ⟨A, c, rfl⟩ := hr.val
    clear hr
    go_enter Tryz.func69, Tryz.ntmps69
    go_wp2_with fail
    go_ret
    exact ⟨rfl, Chg.refl _ _⟩
  | succ d ih =>
    intro p v T w hd hp hr
    rcases Nat.lt_or_ge p l.length with hlt | hge
    rotate_left
    · obtain rfl : p = l.length := by omega
      have hE : endV l l.length = -1 := endV_none (by rw [List.drop_length]; rfl)
      rw [hE]
      obtain ⟨A, c, rfl⟩ := hr.val
      clear hr ih
      go_enter Tryz.func69, Tryz.ntmps69
      go_wp2_with fail
      go_ret
      exact ⟨rfl, Chg.refl _ _⟩
    have hpl : (p : Int) < (l.length : Int) := by omega
    have hpd : decide ((l.length : Int) ≤ (p : Int)) = false := decide_eq_false (by omega)
    have hpe : decide (l.length ≤ p) = false := decide_eq_false (by omega)
    have hx : l[p]? = some l[p] := List.getElem?_eq_getElem hlt
    generalize l[p] = x at *
    obtain ⟨b, o, c, rfl, _, _, c0, c1, c2, c3⟩ := hr.at_ hx
    obtain ⟨xk, xt, xn, kd⟩ := x
    dsimp only at c3
    clear c0 c1 c2
    by_cases hneg : kd < 0
    · have hE : endV l p = -1 := endV_none (eat_neg hx hneg)
      have hnd : decide (kd < 0) = true := decide_eq_true hneg
      rw [hE]
      clear hr ih hx
      go_enter Tryz.func69, Tryz.ntmps69
      go_wp2_with fail
      go_ret
      exact ⟨rfl, Chg.refl _ _⟩
    obtain ⟨K, rfl⟩ : ∃ K : Nat, kd = (K : Int) := ⟨kd.toNat, by omega⟩
    have hea := eat_at hx (by dsimp only; omega)
    dsimp only at hea
    rw [Int.toNat_natCast] at hea
    have hnd : decide ((K : Int) < 0) = false := decide_eq_false hneg
    by_cases hbig : l.length < K
    · have hE : endV l p = -1 := endV_none (by rw [hea, eat_many (by rw [List.length_drop]; omega)]; rfl)
      have hbd : decide ((l.length : Int) < (K : Int)) = true := decide_eq_true (by omega)
      have hbi : (l.length : Int) < (K : Int) := by omega
      rw [hE]
      clear hr ih hx hea hneg
      go_enter Tryz.func69, Tryz.ntmps69
      go_wp2_with fail
      go_ret
      exact ⟨rfl, Chg.refl _ _⟩
    have hbd : decide ((l.length : Int) < (K : Int)) = false := decide_eq_false (by omega)
    have hbe : decide (l.length < K) = false := decide_eq_false hbig
    have hbi : ¬ (l.length : Int) < (K : Int) := by omega
    have HEA := hide hea
    have HIH := hide (fun q (W : World) (hW : Chg (fun _ => False) w W) (h1 : p + 1 ≤ q) (h2 : q ≤ l.length) => ih q _ T W (by omega) h2 (hr.chg hW (fun _ _ _ => id)))
    have HK := hide (fun W (hW : Chg (fun _ => False) w W) => (hW.cell (World.block_lt_of_cell? w _ c3) id).trans c3)
    clear hr ih hx hea hneg
    go_enter Tryz.func69, Tryz.ntmps69
    go_upto_region 5 with fail
    clear c3
    go_loopw [5, 6] (fun t n wr => ∃ i r : Nat, t = .int .i64 (r : Int) ∧ n = .int .i64 (i : Int) ∧ i ≤ K ∧ p + 1 ≤ r ∧ eat (l.drop (p + 1)) i = some (r - (p + 1)) ∧ Chg (fun _ => False) w wr) (fun _ n _ => K - (intOf n).toNat)
    case atStart => exact ⟨0, p + 1, by go_num, rfl, Nat.zero_le _, Nat.le_refl _, by rw [Nat.sub_self]; exact eat_zero _, Chg.refl _ _⟩
    case round =>
      obtain ⟨wq, rfl⟩ : ∃ wq : World, wq = wr := ⟨_, rfl⟩
      obtain ⟨i, r, rfl, rfl, hi, hpr, hq, hch⟩ := hrel
      have c3 := unhide HK _ hch
      have hql := (eat_le hq).2
      rw [List.length_drop] at hql
      have hrl : r ≤ l.length := by omega
      have hdr : (l.drop (p + 1)).drop (r - (p + 1)) = l.drop r := by rw [List.drop_drop, show p + 1 + (r - (p + 1)) = r by omega]
      have HQ := hide hq
      have HDR := hide hdr
      have HCH := hide hch
      clear hq hdr hql
      by_cases hiK : i < K
      · have hik : (i : Int) < (K : Int) := by omega
        have HC := hide (unhide HIH r wq hch hpr hrl)
        cases hn : eat (l.drop r) 1 with
        | none =>
          rw [endV_none hn] at HC
          have hE : endV l p = -1 := endV_none (by rw [unhide HEA, eat_stop hiK (unhide HQ) (by rw [unhide HDR]; exact hn)]; rfl)
          have HE := hide hE
          clear hch hn hE
          go_wp2_with (go_at_call 69; with_reducible refine (unhide HC).mono ?_; rintro e w2 ⟨rfl, hc2⟩; have HC2 := hide hc2; clear hc2)
          go_ret
          exact ⟨retv (intv (unhide HE).symm), (unhide HCH).trans' (unhide HC2)⟩
        | some n =>
          obtain ⟨r2, hr2⟩ : ∃ r2, r2 = r + n := ⟨_, rfl⟩
          rw [endV_some hn, ← hr2] at HC
          have HN := hide (eat_succ (unhide HQ) (show eat ((l.drop (p + 1)).drop (r - (p + 1))) 1 = some n by rw [unhide HDR]; exact hn))
          have HR2 := hide hr2
          clear hch hn hr2
          go_wp2_with (go_at_call 69; with_reducible refine (unhide HC).mono ?_; rintro e w2 ⟨rfl, hc2⟩; have HC2 := hide hc2; clear hc2)
          go_roundw
          case rel => exact ⟨i + 1, r2, rfl, by go_num, by omega, by have := unhide HR2; omega, by rw [unhide HN]; have := unhide HR2; congr 1; omega, (unhide HCH).trans' (unhide HC2)⟩
          case measure => simp [intOf]; omega
      · obtain rfl : i = K := by omega
        have hik : ¬ (i : Int) < (i : Int) := by omega
        have hE : endV l p = (r : Int) := by
          have h2 : eat (l.drop p) 1 = some (1 + (r - (p + 1))) := by rw [unhide HEA, unhide HQ]; rfl
          rw [endV_some h2]
          omega
        have HE := hide hE
        clear hch hE
        go_wp2_with fail
        go_ret
        exact ⟨retv (intv (by rw [unhide HE])), unhide HCH⟩
theorem refWhole_any (l : List Nd) (v : Value) (T : Nat → Prop) (w : World) (hr : RdN T w v l) (hl : l.length ≤ 4000) :
    Calls Tryz.prog 48 #[v] w fun e w' => e = .returned (.bool (wholeB l)) ∧ Chg (fun _ => False) w w' := by
  have HC := hide (show Calls Tryz.prog 69 #[v, .int .i64 0] w fun e w' => e = .returned (.int .i64 (endV l 0)) ∧ Chg (fun _ => False) w w' from refEnd_any l hl l.length 0 v T w (by omega) (by omega) hr)
  obtain ⟨A, c, rfl⟩ := hr.val
  clear hr
  rcases Nat.eq_zero_or_pos l.length with h0 | h0
  · have hl0 : l = [] := List.eq_nil_of_length_eq_zero h0
    subst hl0
    go_enter Tryz.func48, Tryz.ntmps48
    go_wp2_with fail
    go_ret
    exact ⟨rfl, Chg.refl _ _⟩
  have hne : l.isEmpty = false := by
    cases l with
    | nil => simp at h0
    | cons x m => rfl
  have h0i : (0 : Int) < (l.length : Int) := by omega
  have h0d : decide ((0 : Int) < (l.length : Int)) = true := decide_eq_true h0i
  have h0e : decide (0 < l.length) = true := decide_eq_true h0
  cases he : eat l 1 with
  | none =>
    have hE : endV l 0 = -1 := endV_none (show eat (l.drop 0) 1 = none from he)
    have hW : wholeB l = false := by
      unfold wholeB
      rw [he, hne]
      rfl
    rw [hE] at HC
    rw [hW]
    have hq : ¬ (-1 : Int) = (l.length : Int) := by omega
    have hqd : ((-1 : Int) == (l.length : Int)) = false := by rw [beq_eq_false_iff_ne]; exact hq
    clear he hE hW hne
    go_enter Tryz.func48, Tryz.ntmps48
    go_wp2_with (go_at_call 69; with_reducible refine (unhide HC).mono ?_; rintro e w2 ⟨rfl, hc2⟩; have HC2 := hide hc2; clear hc2)
    go_ret
    exact ⟨rfl, unhide HC2⟩
  | some n =>
    have hE : endV l 0 = (n : Int) := by rw [endV_some (show eat (l.drop 0) 1 = some n from he), Nat.zero_add]
    rw [hE] at HC
    by_cases hn : n = l.length
    · have hW : wholeB l = true := by
        unfold wholeB
        rw [he, hne, hn]
        simp
      rw [hW]
      clear he hE hW hne
      subst hn
      go_enter Tryz.func48, Tryz.ntmps48
      go_wp2_with (go_at_call 69; with_reducible refine (unhide HC).mono ?_; rintro e w2 ⟨rfl, hc2⟩; have HC2 := hide hc2; clear hc2)
      go_ret
      exact ⟨rfl, unhide HC2⟩
    · have hW : wholeB l = false := by
        unfold wholeB
        rw [he, hne]
        simp [hn]
      rw [hW]
      have hqd : ((n : Int) == (l.length : Int)) = false := by rw [beq_eq_false_iff_ne]; omega
      have hqe : (n == l.length) = false := by rw [beq_eq_false_iff_ne]; exact hn
      clear he hE hW hne
      go_enter Tryz.func48, Tryz.ntmps48
      go_wp2_with (go_at_call 69; with_reducible refine (unhide HC).mono ?_; rintro e w2 ⟨rfl, hc2⟩; have HC2 := hide hc2; clear hc2)
      go_ret
      exact ⟨by first | rfl | exact retv (boolv (by simp [hn])), unhide HC2⟩
end Go.Proofs.YticnehmgaklhfaaGreatDoor
