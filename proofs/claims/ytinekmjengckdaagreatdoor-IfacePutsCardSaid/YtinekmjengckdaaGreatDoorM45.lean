/-
  Layer 2, the document's side: where a tree ends; whether nodes are one tree. Layer 2, the document's side: making a tree, a node's tree, where kids begin. Layer 2, the document's side: where a node's kids begin. Layer 10, the document's side: the type of a function. Layer 10, the document's side: what a type takes, and what it comes to.
-/
import Derived.Test.YtinekmjengckdaaGreatDoorM03
import Derived.Test.YtinekmjengckdaaGreatDoorM42
import Derived.Test.YtinekmjengckdaaGreatDoorM13
namespace Go.Proofs.YtinekmjengckdaaGreatDoor
open Go.RowKit
set_option maxHeartbeats 2000000
set_option maxRecDepth 100000
theorem endV_none {l : List Nd} {p : Nat} (h : eat (l.drop p) 1 = none) : endV l p = -1 := by unfold endV endAt; rw [h]; rfl
theorem endV_some {l : List Nd} {p n : Nat} (h : eat (l.drop p) 1 = some n) : endV l p = ((p + n : Nat) : Int) := by unfold endV endAt; rw [h]; rfl
theorem eat_at {l : List Nd} {p : Nat} {x : Nd} (hx : l[p]? = some x) (hk : 0 ≤ x.kids) : eat (l.drop p) 1 = (eat (l.drop (p + 1)) x.kids.toNat).map (1 + ·) := by
  obtain ⟨hp, rfl⟩ := List.getElem?_eq_some_iff.1 hx
  rw [List.drop_eq_getElem_cons hp, eat, if_neg (by omega), if_neg (by omega), show 1 - 1 + l[p].kids.toNat = l[p].kids.toNat by omega]
  congr 1
  funext q
  omega
theorem eat_neg {l : List Nd} {p : Nat} {x : Nd} (hx : l[p]? = some x) (hk : x.kids < 0) : eat (l.drop p) 1 = none := by
  obtain ⟨hp, rfl⟩ := List.getElem?_eq_some_iff.1 hx
  rw [List.drop_eq_getElem_cons hp, eat, if_neg (by omega), if_pos hk]
theorem eat_many {l : List Nd} {k : Nat} (h : l.length < k) : eat l k = none := by
  cases e : eat l k with
  | none => rfl
  | some n => have := eat_le e; omega
theorem eat_stop {l : List Nd} {K i q : Nat} (hi : i < K) (hq : eat l i = some q) (h : eat (l.drop q) 1 = none) : eat l K = none := by
  have h1 : eat l (i + 1) = none := by rw [eat_add, hq, Option.bind_some, h]; rfl
  rw [show K = i + 1 + (K - (i + 1)) by omega, eat_add, h1]
  rfl
theorem eat_succ {l : List Nd} {i q n : Nat} (hq : eat l i = some q) (h : eat (l.drop q) 1 = some n) : eat l (i + 1) = some (q + n) := by
  rw [eat_add, hq, Option.bind_some, h]
  rfl
theorem refEnd_any (l : List Nd) (hl : l.length ≤ 4000) : ∀ (d p : Nat) (v : Value) (T : Nat → Prop) (w : World), l.length - p ≤ d → p ≤ l.length → RdN T w v l →
    Calls Tryz.prog 162 #[v, .int .i64 (p : Int)] w fun e w' => e = .returned (.int .i64 (endV l p)) ∧ Chg (fun _ => False) w w' := by
  intro d
  induction d with
  | zero =>
    intro p v T w hd hp hr
    obtain rfl : p = l.length := by omega
    have hE : endV l l.length = -1 := endV_none (by rw [List.drop_length]; rfl)
    rw [hE]
    obtain ⟨A, c, rfl⟩ := hr.val
    clear hr
    go_enter Tryz.func162, Tryz.ntmps162
    go_wp2_with fail
    go_ret
    exact ⟨rfl, Chg.refl _ _⟩
  | succ d ih =>
    intro p v T w hd hp hr
    rcases Nat.lt_or_ge p l.length with hlt | hge
    rotate_left
    · obtain rfl : p = l.length := by omega
      have hE : endV l l.length = -1 := endV_none (by rw [List.drop_length]; rfl)
      rw [hE]
      obtain ⟨A, c, rfl⟩ := hr.val
      clear hr ih
      go_enter Tryz.func162, Tryz.ntmps162
      go_wp2_with fail
      go_ret
      exact ⟨rfl, Chg.refl _ _⟩
    have hpl : (p : Int) < (l.length : Int) := by omega
    have hpd : decide ((l.length : Int) ≤ (p : Int)) = false := decide_eq_false (by omega)
    have hpe : decide (l.length ≤ p) = false := decide_eq_false (by omega)
    have hx : l[p]? = some l[p] := List.getElem?_eq_getElem hlt
    generalize l[p] = x at *
    obtain ⟨b, o, c, rfl, _, _, c0, c1, c2, c3⟩ := hr.at_ hx
    obtain ⟨xk, xt, xn, kd⟩ := x
    dsimp only at c3
    clear c0 c1 c2
    by_cases hneg : kd < 0
    · have hE : endV l p = -1 := endV_none (eat_neg hx hneg)
      have hnd : decide (kd < 0) = true := decide_eq_true hneg
      rw [hE]
      clear hr ih hx
      go_enter Tryz.func162, Tryz.ntmps162
      go_wp2_with fail
      go_ret
      exact ⟨rfl, Chg.refl _ _⟩
    obtain ⟨K, rfl⟩ : ∃ K : Nat, kd = (K : Int) := ⟨kd.toNat, by omega⟩
    have hea := eat_at hx (by dsimp only; omega)
    dsimp only at hea
    rw [Int.toNat_natCast] at hea
    have hnd : decide ((K : Int) < 0) = false := decide_eq_false hneg
    by_cases hbig : l.length < K
    · have hE : endV l p = -1 := endV_none (by rw [hea, eat_many (by rw [List.length_drop]; omega)]; rfl)
      have hbd : decide ((l.length : Int) < (K : Int)) = true := decide_eq_true (by omega)
      have hbi : (l.length : Int) < (K : Int) := by omega
      rw [hE]
      clear hr ih hx hea hneg
      go_enter Tryz.func162, Tryz.ntmps162
      go_wp2_with fail
      go_ret
      exact ⟨rfl, Chg.refl _ _⟩
    have hbd : decide ((l.length : Int) < (K : Int)) = false := decide_eq_false (by omega)
    have hbe : decide (l.length < K) = false := decide_eq_false hbig
    have hbi : ¬ (l.length : Int) < (K : Int) := by omega
    have HEA := hide hea
    have HIH := hide (fun q (W : World) (hW : Chg (fun _ => False) w W) (h1 : p + 1 ≤ q) (h2 : q ≤ l.length) => ih q _ T W (by omega) h2 (hr.chg hW (fun _ _ _ => id)))
    have HK := hide (fun W (hW : Chg (fun _ => False) w W) => (hW.cell (World.block_lt_of_cell? w _ c3) id).trans c3)
    clear hr ih hx hea hneg
    go_enter Tryz.func162, Tryz.ntmps162
    go_upto_region 5 with fail
    clear c3
    go_loopw [5, 6] (fun t n wr => ∃ i r : Nat, t = .int .i64 (r : Int) ∧ n = .int .i64 (i : Int) ∧ i ≤ K ∧ p + 1 ≤ r ∧ eat (l.drop (p + 1)) i = some (r - (p + 1)) ∧ Chg (fun _ => False) w wr) (fun _ n _ => K - (intOf n).toNat)
    case atStart => exact ⟨0, p + 1, by go_num, rfl, Nat.zero_le _, Nat.le_refl _, by rw [Nat.sub_self]; exact eat_zero _, Chg.refl _ _⟩
    case round =>
      obtain ⟨wq, rfl⟩ : ∃ wq : World, wq = wr := ⟨_, rfl⟩
      obtain ⟨i, r, rfl, rfl, hi, hpr, hq, hch⟩ := hrel
      have c3 := unhide HK _ hch
      have hql := (eat_le hq).2
      rw [List.length_drop] at hql
      have hrl : r ≤ l.length := by omega
      have hdr : (l.drop (p + 1)).drop (r - (p + 1)) = l.drop r := by rw [List.drop_drop, show p + 1 + (r - (p + 1)) = r by omega]
      have HQ := hide hq
      have HDR := hide hdr
      have HCH := hide hch
      clear hq hdr hql
      by_cases hiK : i < K
      · have hik : (i : Int) < (K : Int) := by omega
        have HC := hide (unhide HIH r wq hch hpr hrl)
        cases hn : eat (l.drop r) 1 with
        | none =>
          rw [endV_none hn] at HC
          have hE : endV l p = -1 := endV_none (by rw [unhide HEA, eat_stop hiK (unhide HQ) (by rw [unhide HDR]; exact hn)]; rfl)
          have HE := hide hE
          clear hch hn hE
          go_wp2_with (go_at_call 162; with_reducible refine (unhide HC).mono ?_; rintro e w2 ⟨rfl, hc2⟩; have HC2 := hide hc2; clear hc2)
          go_ret
          exact ⟨retv (intv (unhide HE).symm), (unhide HCH).trans' (unhide HC2)⟩
        | some n =>
          obtain ⟨r2, hr2⟩ : ∃ r2, r2 = r + n := ⟨_, rfl⟩
          rw [endV_some hn, ← hr2] at HC
          have HN := hide (eat_succ (unhide HQ) (show eat ((l.drop (p + 1)).drop (r - (p + 1))) 1 = some n by rw [unhide HDR]; exact hn))
          have HR2 := hide hr2
          clear hch hn hr2
          go_wp2_with (go_at_call 162; with_reducible refine (unhide HC).mono ?_; rintro e w2 ⟨rfl, hc2⟩; have HC2 := hide hc2; clear hc2)
          go_roundw
          case rel => exact ⟨i + 1, r2, rfl, by go_num, by omega, by have := unhide HR2; omega, by rw [unhide HN]; have := unhide HR2; congr 1; omega, (unhide HCH).trans' (unhide HC2)⟩
          case measure => simp [intOf]; omega
      · obtain rfl : i = K := by omega
        have hik : ¬ (i : Int) < (i : Int) := by omega
        have hE : endV l p = (r : Int) := by
          have h2 : eat (l.drop p) 1 = some (1 + (r - (p + 1))) := by rw [unhide HEA, unhide HQ]; rfl
          rw [endV_some h2]
          omega
        have HE := hide hE
        clear hch hE
        go_wp2_with fail
        go_ret
        exact ⟨retv (intv (by rw [unhide HE])), unhide HCH⟩
theorem refWhole_any (l : List Nd) (v : Value) (T : Nat → Prop) (w : World) (hr : RdN T w v l) (hl : l.length ≤ 4000) :
    Calls Tryz.prog 130 #[v] w fun e w' => e = .returned (.bool (wholeB l)) ∧ Chg (fun _ => False) w w' := by
  have HC := hide (show Calls Tryz.prog 162 #[v, .int .i64 0] w fun e w' => e = .returned (.int .i64 (endV l 0)) ∧ Chg (fun _ => False) w w' from refEnd_any l hl l.length 0 v T w (by omega) (by omega) hr)
  obtain ⟨A, c, rfl⟩ := hr.val
  clear hr
  rcases Nat.eq_zero_or_pos l.length with h0 | h0
  · have hl0 : l = [] := List.eq_nil_of_length_eq_zero h0
    subst hl0
    go_enter Tryz.func130, Tryz.ntmps130
    go_wp2_with fail
    go_ret
    exact ⟨rfl, Chg.refl _ _⟩
  have hne : l.isEmpty = false := by
    cases l with
    | nil => simp at h0
    | cons x m => rfl
  have h0i : (0 : Int) < (l.length : Int) := by omega
  have h0d : decide ((0 : Int) < (l.length : Int)) = true := decide_eq_true h0i
  have h0e : decide (0 < l.length) = true := decide_eq_true h0
  cases he : eat l 1 with
  | none =>
    have hE : endV l 0 = -1 := endV_none (show eat (l.drop 0) 1 = none from he)
    have hW : wholeB l = false := by
      unfold wholeB
      rw [he, hne]
      rfl
    rw [hE] at HC
    rw [hW]
    have hq : ¬ (-1 : Int) = (l.length : Int) := by omega
    have hqd : ((-1 : Int) == (l.length : Int)) = false := by rw [beq_eq_false_iff_ne]; exact hq
    clear he hE hW hne
    go_enter Tryz.func130, Tryz.ntmps130
    go_wp2_with (go_at_call 162; with_reducible refine (unhide HC).mono ?_; rintro e w2 ⟨rfl, hc2⟩; have HC2 := hide hc2; clear hc2)
    go_ret
    exact ⟨rfl, unhide HC2⟩
  | some n =>
    have hE : endV l 0 = (n : Int) := by rw [endV_some (show eat (l.drop 0) 1 = some n from he), Nat.zero_add]
    rw [hE] at HC
    by_cases hn : n = l.length
    · have hW : wholeB l = true := by
        unfold wholeB
        rw [he, hne, hn]
        simp
      rw [hW]
      clear he hE hW hne
      subst hn
      go_enter Tryz.func130, Tryz.ntmps130
      go_wp2_with (go_at_call 162; with_reducible refine (unhide HC).mono ?_; rintro e w2 ⟨rfl, hc2⟩; have HC2 := hide hc2; clear hc2)
      go_ret
      exact ⟨rfl, unhide HC2⟩
    · have hW : wholeB l = false := by
        unfold wholeB
        rw [he, hne]
        simp [hn]
      rw [hW]
      have hqd : ((n : Int) == (l.length : Int)) = false := by rw [beq_eq_false_iff_ne]; omega
      have hqe : (n == l.length) = false := by rw [beq_eq_false_iff_ne]; exact hn
      clear he hE hW hne
      go_enter Tryz.func130, Tryz.ntmps130
      go_wp2_with (go_at_call 162; with_reducible refine (unhide HC).mono ?_; rintro e w2 ⟨rfl, hc2⟩; have HC2 := hide hc2; clear hc2)
      go_ret
      exact ⟨by first | rfl | exact retv (boolv (by simp [hn])), unhide HC2⟩
end Go.Proofs.YtinekmjengckdaaGreatDoor

namespace Go.Proofs.YtinekmjengckdaaGreatDoor
open Go.RowKit
set_option maxHeartbeats 2000000
set_option maxRecDepth 100000
def mkL (n : Nd) (ks : List (List Nd)) (k : Nat) : List Nd := n :: (ks.take k).flatten
theorem mkL_succ {n : Nd} {ks : List (List Nd)} {k : Nat} {x : List Nd} (h : ks[k]? = some x) : mkL n ks (k + 1) = mkL n ks k ++ x := by
  obtain ⟨hk, rfl⟩ := List.getElem?_eq_some_iff.1 h
  unfold mkL
  rw [List.take_succ_eq_append_getElem hk, List.flatten_append]
  simp
theorem flatten_len {M : Nat} : ∀ {ks : List (List Nd)}, (∀ a ∈ ks, a.length ≤ M) → ks.flatten.length ≤ ks.length * M
  | [], _ => by simp
  | a :: ks, h => by
    have h1 := flatten_len (ks := ks) (fun x hx => h x (List.mem_cons_of_mem _ hx))
    have h2 := h a List.mem_cons_self
    rw [List.flatten_cons, List.length_append, List.length_cons, Nat.succ_mul]
    omega
theorem nd_one (n : Nd) : ∀ u ∈ nd4 n, u.oneCell' = true := by
  intro u hu
  simp only [nd4, List.mem_cons, List.not_mem_nil, or_false] at hu
  rcases hu with rfl | rfl | rfl | rfl <;> rfl
theorem refSub_any (l : List Nd) (v : Value) (p n : Nat) (T : Nat → Prop) (w : World) (hr : RdN T w v l) (hcap : capOk v) (hl : l.length ≤ 4000) (hp : p ≤ l.length) (hn : eat (l.drop p) 1 = some n) :
    Calls Tryz.prog 132 #[v, .int .i64 (p : Int)] w fun e w' => ∃ v', e = .returned v' ∧ RdN (fun k => w.heap.size ≤ k) w' v' ((l.drop p).take n) ∧ capOk v' ∧ Chg (fun _ => False) w w' := by
  have hnl := eat_le hn
  rw [List.length_drop] at hnl
  obtain ⟨A, m, c, rfl, hcc, hcm⟩ := hcap
  obtain rfl := hr.rd.1
  have c0 : Chg (fun _ => False) w (w.alloc (.cells #[] 59)) := (Chg.refl _ w).alloc _
  have HE := hide (refEnd_any l hl l.length p _ T _ (by omega) hp (hr.chg c0 (fun _ _ _ => id)))
  rw [endV_some hn] at HE
  obtain ⟨i_, hi, hz, hs, hb⟩ := info_parts infoNd
  have hlen : ((l.drop p).take n).length = n := by rw [List.length_take, List.length_drop]; omega
  obtain ⟨q, hq⟩ : ∃ q, q = p + n := ⟨_, rfl⟩
  rw [← hq] at HE
  have hx1 := nd4_one ((l.drop p).take n)
  have hxl := nd4_len ((l.drop p).take n)
  rw [hlen] at hxl
  have hok : ∀ x ∈ (l.drop p).take n, ndOk x := fun x hx => hr.oks x (List.mem_of_mem_drop (List.mem_of_mem_take hx))
  have HO0 := hide (own_start (base := w.heap.size) (size := 4) (Blk.new w 59 #[]) (Nat.le_refl _))
  have HC0 := hide c0
  have h1 : (p : Int) ≤ (q : Int) := by omega
  have h2 : (q : Int) ≤ (c : Int) := by omega
  have h3 : p ≤ q := by omega
  have h4 : q ≤ c := by omega
  have hqn : q - p = n := by omega
  have hm3 : 0 + n ≤ maxLen := by simp only [maxLen]; omega
  have hm4 : (0 + n) * 40 ≤ 140737488355328 := by omega
  have HR := hide hr
  obtain ⟨b, o, rfl⟩ : ∃ b o, A = some ⟨b, o, none⟩ := by
    have hne : l ≠ [] := by
      rintro rfl
      simp [eat] at hn
    obtain ⟨x, l', hxl'⟩ := List.exists_cons_of_ne_nil hne
    obtain ⟨b, o, c', hv, _⟩ := hr.at_ (k := 0) (n := x) (by rw [hxl']; rfl)
    injection hv with hv _ _
    exact ⟨b, o, hv⟩
  have HSUB := hide (fun W (hW : Chg (fun _ => False) w W) => ((hr.chg hW (fun _ _ _ => id)).sub (c' := c - p) p n (by omega)).rd.2)
  clear hr c0 hn HR hq
  go_enter Tryz.func132, Tryz.ntmps132
  go_wp2_with (first
    | (go_at_call 162; with_reducible refine (unhide HE).mono ?_; rintro e w2 ⟨rfl, hc2⟩; have HO2 := hide (own_chg (unhide HO0) hc2 (fun _ _ h => h)); have HC2 := hide ((unhide HC0).trans' hc2); have hbs := (unhide HC2).size; have hrx := unhide HSUB _ (unhide HC2); clear hc2)
    | (at_builtin
       refine wpList_append_rd _ rfl (.tmp 5) (.tmp 11) 54 rfl w.heap.size 59 i_ _ 4 40 Tryz.underlying54 hi hz hs hb rfl (by decide) _ 0 [] rfl (unhide HO2) T (some ⟨b, o + p * 4, none⟩) n (c - p) (((l.drop p).take n).flatMap nd4) rfl hxl hrx hx1 hm3 hm4 hbs ?_
       intro v6 w6 ho6 hc6 hat
       have HO6 := hide ho6
       have HC6 := hide ((unhide HC2).trans hc6 (fun i hi e => by have := ((unhide HO2).lt i e).1; omega))
       clear ho6 hc6 hat))
  go_ret
  have hO := unhide HO6
  rw [Nat.zero_add, List.nil_append] at hO
  have hcp := own_cap hO
  obtain ⟨B6, c6, hv6⟩ := own_val hO
  refine ⟨_, rfl, ?_, hcp, unhide HC6⟩
  have h7 := RdN.mk (c := c6) ((own_rd (hv6 ▸ hO) (by omega)).mono (fun k hk => (hO.lt k (by rw [hv6]; exact hk)).1)) hok (by omega)
  rw [hlen] at h7
  rw [hv6]
  exact h7
end Go.Proofs.YtinekmjengckdaaGreatDoor

namespace Go.Proofs.YtinekmjengckdaaGreatDoor
open Go.RowKit
set_option maxHeartbeats 4000000
set_option maxRecDepth 100000
theorem refKids_any (l : List Nd) (v : Value) (p : Nat) (T : Nat → Prop) (w : World) (hr : RdN T w v l) (hl : l.length ≤ 4000) (n : Nd) (hn : l[p]? = some n) (hk0 : 0 ≤ n.kids) (a : Nat) (he : eat (l.drop (p + 1)) n.kids.toNat = some a) :
    Calls Tryz.prog 131 #[v, .int .i64 (p : Int)] w fun e w' => ∃ A c, e = .returned (.slice A n.kids.toNat c) ∧ Rd (fun k => w.heap.size ≤ k) w' A ((kidsL l p n.kids.toNat).map intl) ∧ Chg (fun _ => False) w w' := by
  have hp : p < l.length := (List.getElem?_eq_some_iff.1 hn).1
  have hEnd : endV l p = ((p + 1 + a : Nat) : Int) := by
    have := eat_step hn (k := 1) (by omega)
    rw [if_neg (by omega), show 1 - 1 + n.kids.toNat = n.kids.toNat by omega, he] at this
    unfold endV endAt
    rw [this]
    rfl
  have HEND := hide (fun W (hW : Chg (fun _ => False) w W) => refEnd_any l hl l.length p v T W (by omega) (by omega) (hr.chg hW (fun _ _ _ => id)))
  rw [hEnd] at HEND
  have HE2 := hide (fun W (hW : Chg (fun _ => False) w W) (q : Nat) (hq : q ≤ l.length) => refEnd_any l hl l.length q v T W (by omega) hq (hr.chg hW (fun _ _ _ => id)))
  obtain ⟨b, o, c, rfl, hTb, _, _, _, _, c3⟩ := hr.at_ hn
  obtain ⟨K, hK⟩ : ∃ K : Nat, n.kids = (K : Int) := ⟨n.kids.toNat, by omega⟩
  rw [hK] at c3 he ⊢
  have hKn : ((K : Nat) : Int).toNat = K := by omega
  rw [hKn] at he ⊢
  have hal := eat_le he
  rw [List.length_drop] at hal
  obtain ⟨i3, hi3, hz3, hs3, hb3⟩ := info_parts info3
  have HA := hide he
  have hb3w : b < w.heap.size := hat_lt c3
  have HK3 := hide (fun W (hW : Chg (fun _ => False) w W) => (hW.cell (p := ⟨b, o + p * 4 + 3, none⟩) hb3w id).trans c3)
  have hneg : ¬ ((p + 1 + a : Nat) : Int) < 0 := by omega
  clear hr hEnd he hK hk0 hn c3
  go_enter Tryz.func131, Tryz.ntmps131
  have HO0 := hide (own_start (base := w.heap.size) (size := 1) (Blk.new w 3 #[]) (Nat.le_refl _))
  have HC0 := hide ((Chg.refl (fun _ => False) w).alloc (.cells #[] 3))
  go_upto_region 6 with (go_at_call 162; refine ((unhide HEND) _ (unhide HC0)).mono ?_; rintro e w2 ⟨rfl, hc2⟩; have HC2 := hide ((unhide HC0).trans' hc2); have HO2 := hide (own_chg (unhide HO0) hc2 (fun _ _ h => h)); clear hc2)
  go_loopw [5, 6, 7] (fun out at_ ii wr => ∃ (j q : Nat), ii = .int .i64 (j : Int) ∧ at_ = .int .i64 ((p + 1 + q : Nat) : Int) ∧ j ≤ K ∧ eat (l.drop (p + 1)) j = some q ∧ wr.ownsRow w.heap.size 3 1 out j ((kidsL l p j).map intl) ∧ Chg (fun _ => False) w wr) (fun _ _ ii _ => K - (intOf ii).toNat)
  case atStart => exact ⟨0, 0, rfl, by first | rfl | go_num, Nat.zero_le _, eat_zero _, unhide HO2, unhide HC2⟩
  case round =>
    obtain ⟨wq, rfl⟩ : ∃ wq : World, wq = wr := ⟨_, rfl⟩
    obtain ⟨j, q, rfl, rfl, hj, hq, hown, hch⟩ := hrel
    have k3 := (unhide HK3) _ hch
    obtain ⟨A, c5, rfl⟩ := own_val hown
    have HOWN := hide hown
    have HCH := hide hch
    have hql := eat_le hq
    rw [List.length_drop] at hql
    by_cases hlt : j < K
    · have hji : (j : Int) < (K : Int) := by omega
      obtain ⟨d, hd, hd0, hnx⟩ := eat_next (unhide HA) hlt hq
      have hdl := eat_le hnx
      rw [List.length_drop] at hdl
      have hev : endV l (p + 1 + q) = ((p + 1 + (q + d) : Nat) : Int) := by
        unfold endV endAt
        rw [show l.drop (p + 1 + q) = (l.drop (p + 1)).drop q by rw [List.drop_drop], hd]
        show ((p + 1 + q + d : Nat) : Int) = _
        omega
      have HN := hide (fun W (hW : Chg (fun _ => False) w W) => (unhide HE2) W hW (p + 1 + q) (by omega))
      rw [hev] at HN
      have HNX := hide hnx
      have HKS := hide (kidsL_succ hq)
      have hm1 : j + 1 ≤ maxLen := by simp only [maxLen]; omega
      have hm2 : (j + 1) * 8 ≤ 140737488355328 := by omega
      have hsz := hch.size
      have hbs : w.heap.size ≤ (wq.alloc (.cells #[.int .i64 ((p + 1 + q : Nat) : Int)] 3)).heap.size := by rw [size_alloc]; omega
      have HW := hide (hown.alloc (.cells #[.int .i64 ((p + 1 + q : Nat) : Int)] 3))
      have HR := hide ((rd_new wq wq.heap.size 3 [intl ((p + 1 + q : Nat) : Int)] rfl).mono (T' := fun _ => True) (fun _ _ => trivial))
      have ho1 : ∀ u ∈ [intl ((p + 1 + q : Nat) : Int)], u.oneCell' = true := by intro u hu; simp at hu; subst hu; rfl
      have HLT := hide (fun k hk => hown.lt k hk)
      clear hown hch hq hd hnx hev
      generalize hs : p + 1 + q = s at *
      go_wp2_with (first
        | (at_builtin
           refine wpList_append_rd _ rfl (.tmp 25) (.tmp 27) 139 rfl w.heap.size 3 i3 (.int .i64 0) 1 8 Tryz.underlying139 hi3 hz3 hs3 hb3 rfl (Nat.succ_pos 0) _ j _ rfl (unhide HW) (fun _ => True) (some ⟨wq.heap.size, 0, none⟩) 1 1 [intl (s : Int)] rfl rfl (unhide HR) ho1 hm1 hm2 hbs ?_
           intro v3 w3 ho3 hc3 hat
           have HO3 := hide ho3
           have HC3 := hide ((unhide HCH).trans (((Chg.refl (fun k => (Value.slice A j c5).ownBlock = some k) wq).alloc (.cells #[.int .i64 (s : Int)] 3)).trans hc3 (fun _ _ h => h)) (fun i hi e => by have := ((unhide HLT) i e).1; omega))
           clear ho3 hc3 hat)
        | (go_at_call 162; refine ((unhide HN) _ (unhide HC3)).mono ?_; rintro e w4 ⟨rfl, hc4⟩; have HC4 := hide hc4; clear hc4))
      go_roundw
      case rel =>
        refine ⟨j + 1, q + d, by go_num, rfl, by omega, unhide HNX, ?_, (unhide HC3).trans' (unhide HC4)⟩
        rw [unhide HKS, List.map_append]
        exact own_chg (unhide HO3) (unhide HC4) (fun _ _ h => h)
      case measure => simp [intOf]; omega
    · obtain rfl : j = K := by omega
      have hji : ¬ (j : Int) < (j : Int) := by omega
      clear hown hch hq
      go_wp2_with fail
      go_ret
      exact ⟨A, ⟨c5, rfl⟩, (own_rd (unhide HOWN) (by omega)).mono (fun k hk => ((unhide HOWN).lt k hk).1), unhide HCH⟩
end Go.Proofs.YtinekmjengckdaaGreatDoor

namespace Go.Proofs.YtinekmjengckdaaGreatDoor
open Go.RowKit
set_option maxHeartbeats 2000000
set_option maxRecDepth 100000
theorem RdNs.tail {T : Nat → Prop} {w : World} {b o m c c' : Nat} {l : List (List Nd)} (h : RdNs T w (.slice (some ⟨b, o, none⟩) m c) l) : RdNs T w (.slice (some ⟨b, o + 1, none⟩) (m - 1) c') (l.drop 1) := by
  obtain ⟨A, c2, ps, e, h2, h3, h4, h5⟩ := h
  injection e with e1 e2 e3
  subst e1 e2
  have hl : (l.drop 1).length = l.length - 1 := List.length_drop
  refine ⟨_, c', ps.drop 1, by rw [hl], by rw [List.map_drop, h2], ?_, fun p hp => h4 p (List.mem_of_mem_drop hp), by omega⟩
  have h6 := h3.drop rfl 1
  rw [flat_sing Prod.snd] at h6 ⊢
  rw [List.map_drop]
  exact h6
end Go.Proofs.YtinekmjengckdaaGreatDoor

namespace Go.Proofs.YtinekmjengckdaaGreatDoor
open Go.RowKit
set_option maxHeartbeats 2000000
set_option maxRecDepth 100000
theorem partsG_count : ∀ (f : Nat) (t : List Nd), (partsG f t).1.length ≤ f
  | 0, t => by simp [partsG]
  | f + 1, t => by
    unfold partsG
    cases t with
    | nil => simp
    | cons n l =>
      dsimp only
      split
      · cases eat l 1 with
        | none => simp
        | some k =>
          dsimp only
          have := partsG_count f (l.drop k)
          rw [List.length_cons]
          omega
      · simp
theorem parts_count (t : List Nd) (h : t.length ≤ 4000) : (partsL t).1.length ≤ 4000 := by
  have := partsG_count t.length t
  unfold partsL
  omega
theorem refParts_any : ∀ (n : Nat) (l : List Nd) (v : Value) (T : Nat → Prop) (w : World), l.length ≤ n → RdN T w v l → capOk v → l.length ≤ 4000 → eat l 1 = some l.length → l.all nodeB = true →
    Calls Tryz.prog 87 #[v] w fun e w' => ∃ v1 v2, e = .returned (.tuple #[v1, v2]) ∧ RdNs (fun k => w.heap.size ≤ k) w' v1 (partsL l).1 ∧ RdN (fun k => T k ∨ w.heap.size ≤ k) w' v2 (partsL l).2 ∧ Chg (fun _ => False) w w' := by
  intro n
  induction n with
  | zero =>
    intro l v T w hn _ _ _ he _
    obtain rfl : l = [] := List.eq_nil_of_length_eq_zero (by omega)
    simp [eat] at he
  | succ n ih =>
    intro l v T w hn hr hcap hl he hall
    obtain ⟨x, m, hxm⟩ : ∃ x m, l = x :: m := by
      cases l with
      | nil => simp [eat] at he
      | cons x m => exact ⟨x, m, rfl⟩
    have hx : l[0]? = some x := by rw [hxm]; rfl
    have hxb : nodeB x = true := List.all_eq_true.1 hall x (by rw [hxm]; exact List.mem_cons_self)
    obtain ⟨b, o, c, rfl, _, _, _, c1, _, _⟩ := hr.at_ hx
    rw [Nat.zero_mul, Nat.add_zero] at c1
    have hlm : l.length = m.length + 1 := by rw [hxm]; rfl
    have hlp : (0 : Int) < (l.length : Int) := by omega
    have hln : 0 < l.length := by omega
    have hne : ¬ l = [] := by rw [hxm]; simp
    have htx := text_eq x.text [45, 62]
    by_cases ht : x.text = ArrowT
    rotate_left
    · rw [decide_eq_false (show ¬ x.text = ⟨[45, 62].toArray⟩ from ht)] at htx
      have htx2 := htx.symm
      have hp : partsL l = ([], l) := by rw [hxm]; exact parts_end ht
      have HR := hide hr
      have HP := hide hp
      clear hr hcap ih he hall hx hxb htx ht hp hxm hlm
      go_enter Tryz.func87, Tryz.ntmps87
      go_wp2_with fail
      go_ret2
      rw [unhide HP]
      exact ⟨_, _, rfl, RdR.nil_ _ _ _ _, (unhide HR).mono (fun _ h => .inl h), Chg.refl _ _⟩
    rw [decide_eq_true (show x.text = ⟨[45, 62].toArray⟩ from ht)] at htx
    have htx2 := htx.symm
    obtain ⟨_, _, hk2⟩ := node_arrow hxb ht
    obtain ⟨a, ha, ha0, hal, hwt, hea⟩ := arrow_split (n := x) (l := m) (by rw [← hxm, ← hlm]; exact he) hk2
    have hd1 : l.drop 1 = m := by rw [hxm]; rfl
    have hek : eat (l.drop (0 + 1)) x.kids.toNat = some m.length := by
      rw [hk2, show l.drop (0 + 1) = m from hd1]
      have := (whole_kids (n := x) (l := m) (by rw [← hxm, ← hlm]; exact he)).2
      rw [hk2] at this
      exact this
    have hpp : partsL l = (m.take a :: (partsL (m.drop a)).1, (partsL (m.drop a)).2) := by rw [hxm]; exact parts_arrow_step ht ha
    obtain ⟨s, hs⟩ : ∃ s, s = 1 + a := ⟨_, rfl⟩
    have hds : l.drop s = m.drop a := by rw [hs, hxm, Nat.add_comm, List.drop_succ_cons]
    have hmd : (m.drop a).length = m.length - a := List.length_drop
    have HKI := hide (show Calls Tryz.prog 131 #[.slice (some ⟨b, o, none⟩) l.length c, .int .i64 0] w fun e w' => ∃ kb ko cc, e = .returned (.slice (some ⟨kb, ko, none⟩) 2 cc) ∧ w'.cell? ⟨kb, ko, none⟩ = some (.int .i64 1) ∧ w'.cell? ⟨kb, ko + 1, none⟩ = some (.int .i64 (s : Int)) ∧ Chg (fun _ => False) w w' from
      (refKids_any l _ 0 T w hr hl x hx (by omega) m.length hek).mono fun e w' h => by
        obtain ⟨A, cc, h1, h2, h3⟩ := h
        rw [hk2, show (2 : Int).toNat = 2 from rfl, kids_two (by rw [hd1]; exact ha), ← hs] at h2
        obtain ⟨kb, ko, rfl, _, hc⟩ := h2.flat (by simp)
        exact ⟨kb, ko, cc, by rw [h1, hk2]; rfl, hc 0 _ rfl, hc 1 _ rfl, h3⟩)
    have HS1 := hide (fun W (hW : Chg (fun _ => False) w W) => show Calls Tryz.prog 132 #[.slice (some ⟨b, o, none⟩) l.length c, .int .i64 (s : Int)] W fun e w' => ∃ v', e = .returned v' ∧ RdN (fun k => W.heap.size ≤ k) w' v' (m.drop a) ∧ capOk v' ∧ Chg (fun _ => False) W w' from by
      have := refSub_any l _ s (m.drop a).length T W (hr.chg hW (fun _ _ _ => id)) hcap hl (by omega) (by rw [hds]; exact hea)
      rw [hds, List.take_length] at this
      exact this)
    have HS2 := hide (fun W (hW : Chg (fun _ => False) w W) => show Calls Tryz.prog 132 #[.slice (some ⟨b, o, none⟩) l.length c, .int .i64 1] W fun e w' => ∃ v', e = .returned v' ∧ RdN (fun k => W.heap.size ≤ k) w' v' (m.take a) ∧ capOk v' ∧ Chg (fun _ => False) W w' from by
      have := refSub_any l _ 1 a T W (hr.chg hW (fun _ _ _ => id)) hcap hl (by omega) (by rw [hd1]; exact ha)
      rw [hd1] at this
      exact this)
    have HIH := hide (fun W v' T' (h : RdN T' W v' (m.drop a)) (hc : capOk v') => ih (m.drop a) v' T' W (by omega) h hc (by omega) hea (by
      rw [List.all_eq_true]
      intro y hy
      exact List.all_eq_true.1 hall y (by rw [hxm]; exact List.mem_cons_of_mem _ (List.mem_of_mem_drop hy))))
    obtain ⟨mt, hmt⟩ : ∃ mt, mt = m.take a := ⟨_, rfl⟩
    rw [← hmt] at hpp HS2
    have HPP := hide hpp
    have HPL := hide (show (partsL (m.drop a)).1.length ≤ 4000 from parts_count (m.drop a) (by omega))
    have HX := hide (Chg.refl (fun _ => False) w)
    obtain ⟨i_, hi, hz, hsz, hb⟩ := info_parts infoRow
    clear hmt hr hcap ih he hall hx hxb htx ht hpp hxm hlm hds hmd hek hd1 hea hwt ha hk2 hs hal ha0
    go_enter Tryz.func87, Tryz.ntmps87
    go_upto_region 5 with (first
      | (go_at_call 131; (with_reducible refine (unhide HKI).mono ?_); rintro e w2 ⟨kb, ko, cc, rfl, q0, q1, hch⟩; (have HN_ := hide ((unhide HX).trans' hch)); clear HX; have HX := HN_; clear HN_; have HY := hide (Chg.refl (fun _ => False) w2); have HQ0 := hide (fun W (hW : Chg (fun _ => False) w2 W) => (hW.cell (World.block_lt_of_cell? w2 _ q0) id).trans q0); clear hch)
      | (go_at_call 132; (with_reducible refine (unhide HS1 _ (unhide HX)).mono ?_); rintro e w3 ⟨vs, rfl, hvs, hcp, hch⟩; have HZ2 := hide (unhide HX).size; (have HN_ := hide ((unhide HX).trans' hch)); clear HX; have HX := HN_; clear HN_; (have HN_ := hide ((unhide HY).trans' hch)); clear HY; have HY := HN_; clear HN_; have HVS := hide hvs; have HCP := hide hcp; clear hch hvs hcp)
      | (go_at_call 87; (with_reducible refine (unhide HIH _ _ _ (unhide HVS) (unhide HCP)).mono ?_); rintro e w4 ⟨va, vb, rfl, hva, hvb, hch⟩; have HZ3 := hide (unhide HX).size; (have HN_ := hide ((unhide HX).trans' hch)); clear HX; have HX := HN_; clear HN_; (have HN_ := hide ((unhide HY).trans' hch)); clear HY; have HY := HN_; clear HN_; have HVA := hide hva; have HVB := hide hvb; clear q0 q1 hch hva hvb; have q0 := unhide HQ0 _ (unhide HY)))
    clear HKI HS1 HIH
    generalize partsL (m.drop a) = PR at *
    obtain ⟨P1, P2⟩ := PR
    dsimp only at HPP HPL HVA HVB
    obtain ⟨A1, cA, ps, rfl, hps, hrd, hR, hl1⟩ := unhide HVA
    have hpl := unhide HPL
    have hlen : (ps.map Prod.snd).length = P1.length * 1 := by rw [List.length_map, ← hps, List.length_map, Nat.mul_one]
    have hone : ∀ y ∈ ps.map Prod.snd, y.oneCell' = true := fun y hy => by
      obtain ⟨p, hp, rfl⟩ := List.mem_map.1 hy
      obtain ⟨A', c', hv'⟩ := (hR p hp).val
      rw [hv']
      rfl
    rw [flat_sing Prod.snd] at hrd
    have hm1 : 1 + P1.length ≤ maxLen := by simp only [maxLen]; omega
    have hm2 : (1 + P1.length) * 24 ≤ 140737488355328 := by omega
    have HRD := hide (fun W (hW : Chg (fun _ => False) w4 W) => hrd.chg hW (fun _ _ _ => id))
    have HRP := hide (fun W (hW : Chg (fun _ => False) w4 W) p (hp : p ∈ ps) => (hR p hp).chg hW (fun _ _ _ => id))
    have HVB2 := hide (fun W (hW : Chg (fun _ => False) w4 W) => (unhide HVB).chg hW (fun _ _ _ => id))
    have HPS := hide hps
    have HLEN := hide hlen
    have HONE := hide hone
    have HW4 := hide (unhide HX)
    clear HVA HVB hps hrd hR hl1 hlen hone HY HQ0 hpl
    go_wp2_with (first
      | (go_at_call 132; (with_reducible refine (unhide HS2 _ (unhide HX)).mono ?_; rintro e w5 ⟨vx, rfl, hvx, hcpx, hch⟩); (obtain ⟨Ax, cx, rfl⟩ := hvx.val); (have HZ4 := hide (unhide HX).size; (have HN_ := hide ((unhide HX).trans' hch)); clear HX; have HX := HN_; clear HN_; have HVX := hide hvx; have HCH := hide hch; have HOW := hide (own_one (base := w.heap.size) (n := 1) (Blk.new w5 54 #[.slice Ax mt.length cx]) (unhide HX).size rfl); have hrx := unhide HRD _ ((hch).alloc (.cells #[.slice Ax mt.length cx] 54)); have hbs := ((unhide HX).alloc (.cells #[.slice Ax mt.length cx] 54)).size; clear hch hvx hcpx))
      | (at_builtin
         (refine wpList_append_rd _ rfl (.tmp 29) (.tmp 30) 62 rfl w.heap.size 54 i_ _ 1 24 Tryz.underlying62 hi hz hsz hb rfl (by decide) (.slice (some ⟨w5.heap.size, 0, none⟩) 1 1) 1 [.slice Ax mt.length cx] rfl (unhide HOW) _ A1 P1.length cA (ps.map Prod.snd) rfl (unhide HLEN) hrx (unhide HONE) hm1 hm2 hbs ?_)
         intro v6 w6 ho6 hc6 hat
         have HO6 := hide ho6
         have HC6 := hide (((unhide HX).alloc (.cells #[.slice Ax mt.length cx] 54)).trans hc6 (fun i hi e => by have := ((unhide HOW).lt i e).1; omega))
         have HC46 := hide (((unhide HCH).alloc (.cells #[.slice Ax mt.length cx] 54)).trans (S' := fun _ => False) (Chg.refl _ _) (fun _ _ h => h))
         have HCW := hide hc6
         clear ho6 hc6 hat))
    go_ret2
    have hO := unhide HO6
    have hz2 := unhide HZ2
    have hz3 := unhide HZ3
    have hz4 := unhide HZ4
    have h46 : Chg (fun _ => False) w4 w6 := (unhide HC46).trans (unhide HCW) (fun i hi e => by
      simp only [Value.ownBlock, Option.some.injEq] at e
      have := (unhide HCH).size
      omega)
    obtain ⟨A6, c6, rfl⟩ := own_val hO
    rw [unhide HPP]
    have hps := unhide HPS
    have e6 : [Value.slice Ax mt.length cx] ++ ps.map Prod.snd = ((mt, Value.slice Ax mt.length cx) :: ps).map Prod.snd := rfl
    have e7 : mt :: P1 = ((mt, Value.slice Ax mt.length cx) :: ps).map Prod.fst := by rw [← hps]; rfl
    have hpsl : ps.length = P1.length := by rw [← hps, List.length_map]
    have h56 : Chg (fun _ => False) w5 w6 := ((Chg.refl (fun _ => False) w5).alloc _).trans (unhide HCW) (fun i hi e => by
      simp only [Value.ownBlock, Option.some.injEq] at e
      omega)
    refine ⟨.slice A6 (1 + P1.length) c6, vb, rfl, ?_, (unhide HVB2 _ h46).mono (fun k hk => .inr (by rcases hk with hk | hk <;> omega)), unhide HC6⟩
    rw [e6] at hO
    have h8 := rows_mk (T := fun k => w.heap.size ≤ k) (A := A6) (c := c6) ((own_rd hO (by omega)).mono (fun k hk => (hO.lt k hk).1)) (fun p hp => by
      rcases List.mem_cons.1 hp with rfl | hp
      · exact ((unhide HVX).chg h56 (fun _ _ _ => id)).mono (fun k hk => Nat.le_trans hz4 hk)
      · exact (unhide HRP _ h46 p hp).mono (fun k hk => Nat.le_trans hz3 hk)) (by rw [List.length_cons, hpsl]; have := unhide HPL; omega)
    rw [List.length_cons, hpsl, Nat.add_comm] at h8
    rw [e7]
    exact h8
end Go.Proofs.YtinekmjengckdaaGreatDoor
