/-
  Layer 2, the document's side: where a tree ends; whether nodes are one tree. Layer 2, the document's side: making a tree, a node's tree, where kids begin. Layer 2, the document's side: where a node's kids begin. Layer 10, the document's side: the type of a function. Layer 10, the document's side: what a type takes, and what it comes to.
-/
import Derived.Test.YtinekmjengckdaaGreatDoorA05
import Derived.Test.YtinekmjengckdaaGreatDoorA04
import Derived.Test.YtinekmjengckdaaGreatDoorA13
namespace Go.Proofs.YtinekmjengckdaaGreatDoor
open Go.RowKit
set_option maxHeartbeats 2000000
set_option maxRecDepth 100000
theorem endV_none {l : List Nd} {p : Nat} (h : eat (l.drop p) 1 = none) : endV l p = -1 := by unfold endV endAt; rw [h]; rfl
theorem endV_some {l : List Nd} {p n : Nat} (h : eat (l.drop p) 1 = some n) : endV l p = ((p + n : Nat) : Int) := by unfold endV endAt; rw [h]; rfl
theorem eat_at {l : List Nd} {p : Nat} {x : Nd} (hx : l[p]? = some x) (hk : 0 ≤ x.kids) : eat (l.drop p) 1 = (eat (l.drop (p + 1)) x.kids.toNat).map (1 + ·) := by
  obtain ⟨hp, rfl⟩ := List.getElem?_eq_some_iff.1 hx
  rw [List.drop_eq_getElem_cons hp, eat, if_neg (by omega), if_neg (by omega), show 1 - 1 + l[p].kids.toNat = l[p].kids.toNat by omega]
  congr 1
  funext q
  omega
theorem eat_neg {l : List Nd} {p : Nat} {x : Nd} (hx : l[p]? = some x) (hk : x.kids < 0) : eat (l.drop p) 1 = none := by
  obtain ⟨hp, rfl⟩ := List.getElem?_eq_some_iff.1 hx
  rw [List.drop_eq_getElem_cons hp, eat, if_neg (by omega), if_pos hk]
theorem eat_many {l : List Nd} {k : Nat} (h : l.length < k) : eat l k = none := by
  cases e : eat l k with
  | none => rfl
  | some n => have := eat_le e; omega
theorem eat_stop {l : List Nd} {K i q : Nat} (hi : i < K) (hq : eat l i = some q) (h : eat (l.drop q) 1 = none) : eat l K = none := by
  have h1 : eat l (i + 1) = none := by rw [eat_add, hq, Option.bind_some, h]; rfl
  rw [show K = i + 1 + (K - (i + 1)) by omega, eat_add, h1]
  rfl
theorem eat_succ {l : List Nd} {i q n : Nat} (hq : eat l i = some q) (h : eat (l.drop q) 1 = some n) : eat l (i + 1) = some (q + n) := by
  rw [eat_add, hq, Option.bind_some, h]
  rfl
theorem refEnd_any (l : List Nd) (hl : l.length ≤ 4000) : ∀ (d p : Nat) (v : Value) (T : Nat → Prop) (w : World), l.length - p ≤ d → p ≤ l.length → RdN T w v l →
    Calls Tryz.prog 162 #[v, .int .i64 (p : Int)] w fun e w' => e = .returned (.int .i64 (endV l p)) ∧ Chg (fun _ => False) w w' := by
  intro d
  induction d with
  | zero =>
    intro p v T w hd hp hr
    obtain rfl : p = l.length := by omega
    have hE : endV l l.length = -1 := endV_none (by rw [List.drop_length]; rfl)
    rw [hE]
    obtain ⟨A, c, rfl⟩ := hr.val
    clear hr
    go_enter Tryz.func162, Tryz.ntmps162
    go_wp2_with fail
    go_ret
    exact ⟨rfl, Chg.refl _ _⟩
  | succ d ih =>
    intro p v T w hd hp hr
    rcases Nat.lt_or_ge p l.length with hlt | hge
    rotate_left
    · obtain rfl : p = l.length := by omega
      have hE : endV l l.length = -1 := endV_none (by rw [List.drop_length]; rfl)
      rw [hE]
      obtain ⟨A, c, rfl⟩ := hr.val
      clear hr ih
      go_enter Tryz.func162, Tryz.ntmps162
      go_wp2_with fail
      go_ret
      exact ⟨rfl, Chg.refl _ _⟩
    have hpl : (p : Int) < (l.length : Int) := by omega
    have hpd : decide ((l.length : Int) ≤ (p : Int)) = false := decide_eq_false (by omega)
    have hpe : decide (l.length ≤ p) = false := decide_eq_false (by omega)
    have hx : l[p]? = some l[p] := List.getElem?_eq_getElem hlt
    generalize l[p] = x at *
    obtain ⟨b, o, c, rfl, _, _, c0, c1, c2, c3⟩ := hr.at_ hx
    obtain ⟨xk, xt, xn, kd⟩ := x
    dsimp only at c3
    clear c0 c1 c2
    by_cases hneg : kd < 0
    · have hE : endV l p = -1 := endV_none (eat_neg hx hneg)
      have hnd : decide (kd < 0) = true := decide_eq_true hneg
      rw [hE]
      clear hr ih hx
      go_enter Tryz.func162, Tryz.ntmps162
      go_wp2_with fail
      go_ret
      exact ⟨rfl, Chg.refl _ _⟩
    obtain ⟨K, rfl⟩ : ∃ K : Nat, kd = (K : Int) := ⟨kd.toNat, by omega⟩
    have hea := eat_at hx (by dsimp only; omega)
    dsimp only at hea
    rw [Int.toNat_natCast] at hea
    have hnd : decide ((K : Int) < 0) = false := decide_eq_false hneg
    by_cases hbig : l.length < K
    · have hE : endV l p = -1 := endV_none (by rw [hea, eat_many (by rw [List.length_drop]; omega)]; rfl)
      have hbd : decide ((l.length : Int) < (K : Int)) = true := decide_eq_true (by omega)
      have hbi : (l.length : Int) < (K : Int) := by omega
      rw [hE]
      clear hr ih hx hea hneg
      go_enter Tryz.func162, Tryz.ntmps162
      go_wp2_with fail
      go_ret
      exact ⟨rfl, Chg.refl _ _⟩
    have hbd : decide ((l.length : Int) < (K : Int)) = false := decide_eq_false (by omega)
    have hbe : decide (l.length < K) = false := decide_eq_false hbig
    have hbi : ¬ (l.length : Int) < (K : Int) := by omega
    have HEA := hH hea
    have HIH := hH (fun q (W : World) (hW : Chg (fun _ => False) w W) (h1 : p + 1 ≤ q) (h2 : q ≤ l.length) => ih q _ T W (by omega) h2 (hr.chg hW (fun _ _ _ => id)))
    have HK := hH (fun W (hW : Chg (fun _ => False) w W) => (hW.cell (World.block_lt_of_cell? w _ c3) id).trans c3)
    clear hr ih hx hea hneg
    go_enter Tryz.func162, Tryz.ntmps162
    go_upto_region 5 with fail
    clear c3
    go_loopw [5, 6] (fun t n wr => ∃ i r : Nat, t = .int .i64 (r : Int) ∧ n = .int .i64 (i : Int) ∧ i ≤ K ∧ p + 1 ≤ r ∧ eat (l.drop (p + 1)) i = some (r - (p + 1)) ∧ Chg (fun _ => False) w wr) (fun _ n _ => K - (intOf n).toNat)
    case atStart => exact ⟨0, p + 1, by go_num, rfl, Nat.zero_le _, Nat.le_refl _, by rw [Nat.sub_self]; exact eat_zero _, Chg.refl _ _⟩
    case round =>
      obtain ⟨wq, rfl⟩ : ∃ wq : World, wq = wr := ⟨_, rfl⟩
      obtain ⟨i, r, rfl, rfl, hi, hpr, hq, hch⟩ := hrel
      have c3 := uH HK _ hch
      have hql := (eat_le hq).2
      rw [List.length_drop] at hql
      have hrl : r ≤ l.length := by omega
      have hdr : (l.drop (p + 1)).drop (r - (p + 1)) = l.drop r := by rw [List.drop_drop, show p + 1 + (r - (p + 1)) = r by omega]
      have HQ := hH hq
      have HDR := hH hdr
      have HCH := hH hch
      clear hq hdr hql
      by_cases hiK : i < K
      · have hik : (i : Int) < (K : Int) := by omega
        have HC := hH (uH HIH r wq hch hpr hrl)
        cases hn : eat (l.drop r) 1 with
        | none =>
          rw [endV_none hn] at HC
          have hE : endV l p = -1 := endV_none (by rw [uH HEA, eat_stop hiK (uH HQ) (by rw [uH HDR]; exact hn)]; rfl)
          have HE := hH hE
          clear hch hn hE
          go_wp2_with (go_at_call 162; with_reducible refine (uH HC).mono ?_; rintro e w2 ⟨rfl, hc2⟩; have HC2 := hH hc2; clear hc2)
          go_ret
          exact ⟨retv (intv (uH HE).symm), (uH HCH).trans' (uH HC2)⟩
        | some n =>
          obtain ⟨r2, hr2⟩ : ∃ r2, r2 = r + n := ⟨_, rfl⟩
          rw [endV_some hn, ← hr2] at HC
          have HN := hH (eat_succ (uH HQ) (show eat ((l.drop (p + 1)).drop (r - (p + 1))) 1 = some n by rw [uH HDR]; exact hn))
          have HR2 := hH hr2
          clear hch hn hr2
          go_wp2_with (go_at_call 162; with_reducible refine (uH HC).mono ?_; rintro e w2 ⟨rfl, hc2⟩; have HC2 := hH hc2; clear hc2)
          go_roundw
          case rel => exact ⟨i + 1, r2, rfl, by go_num, by omega, by have := uH HR2; omega, by rw [uH HN]; have := uH HR2; congr 1; omega, (uH HCH).trans' (uH HC2)⟩
          case measure => simp [intOf]; omega
      · obtain rfl : i = K := by omega
        have hik : ¬ (i : Int) < (i : Int) := by omega
        have hE : endV l p = (r : Int) := by
          have h2 : eat (l.drop p) 1 = some (1 + (r - (p + 1))) := by rw [uH HEA, uH HQ]; rfl
          rw [endV_some h2]
          omega
        have HE := hH hE
        clear hch hE
        go_wp2_with fail
        go_ret
        exact ⟨retv (intv (by rw [uH HE])), uH HCH⟩
theorem refWhole_any (l : List Nd) (v : Value) (T : Nat → Prop) (w : World) (hr : RdN T w v l) (hl : l.length ≤ 4000) :
    Calls Tryz.prog 130 #[v] w fun e w' => e = .returned (.bool (wholeB l)) ∧ Chg (fun _ => False) w w' := by
  have HC := hH (show Calls Tryz.prog 162 #[v, .int .i64 0] w fun e w' => e = .returned (.int .i64 (endV l 0)) ∧ Chg (fun _ => False) w w' from refEnd_any l hl l.length 0 v T w (by omega) (by omega) hr)
  obtain ⟨A, c, rfl⟩ := hr.val
  clear hr
  rcases Nat.eq_zero_or_pos l.length with h0 | h0
  · have hl0 : l = [] := List.eq_nil_of_length_eq_zero h0
    subst hl0
    go_enter Tryz.func130, Tryz.ntmps130
    go_wp2_with fail
    go_ret
    exact ⟨rfl, Chg.refl _ _⟩
  have hne : l.isEmpty = false := by
    cases l with
    | nil => simp at h0
    | cons x m => rfl
  have h0i : (0 : Int) < (l.length : Int) := by omega
  have h0d : decide ((0 : Int) < (l.length : Int)) = true := decide_eq_true h0i
  have h0e : decide (0 < l.length) = true := decide_eq_true h0
  cases he : eat l 1 with
  | none =>
    have hE : endV l 0 = -1 := endV_none (show eat (l.drop 0) 1 = none from he)
    have hW : wholeB l = false := by
      unfold wholeB
      rw [he, hne]
      rfl
    rw [hE] at HC
    rw [hW]
    have hq : ¬ (-1 : Int) = (l.length : Int) := by omega
    have hqd : ((-1 : Int) == (l.length : Int)) = false := by rw [beq_eq_false_iff_ne]; exact hq
    clear he hE hW hne
    go_enter Tryz.func130, Tryz.ntmps130
    go_wp2_with (go_at_call 162; with_reducible refine (uH HC).mono ?_; rintro e w2 ⟨rfl, hc2⟩; have HC2 := hH hc2; clear hc2)
    go_ret
    exact ⟨rfl, uH HC2⟩
  | some n =>
    have hE : endV l 0 = (n : Int) := by rw [endV_some (show eat (l.drop 0) 1 = some n from he), Nat.zero_add]
    rw [hE] at HC
    by_cases hn : n = l.length
    · have hW : wholeB l = true := by
        unfold wholeB
        rw [he, hne, hn]
        simp
      rw [hW]
      clear he hE hW hne
      subst hn
      go_enter Tryz.func130, Tryz.ntmps130
      go_wp2_with (go_at_call 162; with_reducible refine (uH HC).mono ?_; rintro e w2 ⟨rfl, hc2⟩; have HC2 := hH hc2; clear hc2)
      go_ret
      exact ⟨rfl, uH HC2⟩
    · have hW : wholeB l = false := by
        unfold wholeB
        rw [he, hne]
        simp [hn]
      rw [hW]
      have hqd : ((n : Int) == (l.length : Int)) = false := by rw [beq_eq_false_iff_ne]; omega
      have hqe : (n == l.length) = false := by rw [beq_eq_false_iff_ne]; exact hn
      clear he hE hW hne
      go_enter Tryz.func130, Tryz.ntmps130
      go_wp2_with (go_at_call 162; with_reducible refine (uH HC).mono ?_; rintro e w2 ⟨rfl, hc2⟩; have HC2 := hH hc2; clear hc2)
      go_ret
      exact ⟨by first | rfl | exact retv (boolv (by simp [hn])), uH HC2⟩
end Go.Proofs.YtinekmjengckdaaGreatDoor

namespace Go.Proofs.YtinekmjengckdaaGreatDoor
open Go.RowKit
set_option maxHeartbeats 2000000
set_option maxRecDepth 100000
theorem refSub_any (l : List Nd) (v : Value) (p n : Nat) (T : Nat → Prop) (w : World) (hr : RdN T w v l) (hcap : capOk v) (hl : l.length ≤ 4000) (hp : p ≤ l.length) (hn : eat (l.drop p) 1 = some n) :
    Calls Tryz.prog 132 #[v, .int .i64 (p : Int)] w fun e w' => ∃ v', e = .returned v' ∧ RdN (fun k => w.heap.size ≤ k) w' v' ((l.drop p).take n) ∧ capOk v' ∧ Chg (fun _ => False) w w' := by
  have hnl := eat_le hn
  rw [List.length_drop] at hnl
  obtain ⟨A, m, c, rfl, hcc, hcm⟩ := hcap
  obtain rfl := hr.rd.1
  have c0 : Chg (fun _ => False) w (w.alloc (.cells #[] 59)) := (Chg.refl _ w).alloc _
  have HE := hH (refEnd_any l hl l.length p _ T _ (by omega) hp (hr.chg c0 (fun _ _ _ => id)))
  rw [endV_some hn] at HE
  obtain ⟨i_, hi, hz, hs, hb⟩ := info_parts infoNd
  have hlen : ((l.drop p).take n).length = n := by rw [List.length_take, List.length_drop]; omega
  obtain ⟨q, hq⟩ : ∃ q, q = p + n := ⟨_, rfl⟩
  rw [← hq] at HE
  have hx1 := nd4_one ((l.drop p).take n)
  have hxl := nd4_len ((l.drop p).take n)
  rw [hlen] at hxl
  have hok : ∀ x ∈ (l.drop p).take n, ndOk x := fun x hx => hr.oks x (List.mem_of_mem_drop (List.mem_of_mem_take hx))
  have HO0 := hH (own_start (base := w.heap.size) (size := 4) (Blk.new w 59 #[]) (Nat.le_refl _))
  have HC0 := hH c0
  have h1 : (p : Int) ≤ (q : Int) := by omega
  have h2 : (q : Int) ≤ (c : Int) := by omega
  have h3 : p ≤ q := by omega
  have h4 : q ≤ c := by omega
  have hqn : q - p = n := by omega
  have hm3 : 0 + n ≤ maxLen := by simp only [maxLen]; omega
  have hm4 : (0 + n) * 40 ≤ 140737488355328 := by omega
  have HR := hH hr
  obtain ⟨b, o, rfl⟩ : ∃ b o, A = some ⟨b, o, none⟩ := by
    have hne : l ≠ [] := by
      rintro rfl
      simp [eat] at hn
    obtain ⟨x, l', hxl'⟩ := List.exists_cons_of_ne_nil hne
    obtain ⟨b, o, c', hv, _⟩ := hr.at_ (k := 0) (n := x) (by rw [hxl']; rfl)
    injection hv with hv _ _
    exact ⟨b, o, hv⟩
  have HSUB := hH (fun W (hW : Chg (fun _ => False) w W) => ((hr.chg hW (fun _ _ _ => id)).sub (c' := c - p) p n (by omega)).rd.2)
  clear hr c0 hn HR hq
  go_enter Tryz.func132, Tryz.ntmps132
  go_wp2_with (first
    | (go_at_call 162; with_reducible refine (uH HE).mono ?_; rintro e w2 ⟨rfl, hc2⟩; have HO2 := hH (own_chg (uH HO0) hc2 (fun _ _ h => h)); have HC2 := hH ((uH HC0).trans' hc2); have hbs := (uH HC2).size; have hrx := uH HSUB _ (uH HC2); clear hc2)
    | (at_builtin
       refine wpList_append_rd _ rfl (.tmp 5) (.tmp 11) 54 rfl w.heap.size 59 i_ _ 4 40 Tryz.underlying54 hi hz hs hb rfl (by decide) _ 0 [] rfl (uH HO2) T (some ⟨b, o + p * 4, none⟩) n (c - p) (((l.drop p).take n).flatMap nd4) rfl hxl hrx hx1 hm3 hm4 hbs ?_
       intro v6 w6 ho6 hc6 hat
       have HO6 := hH ho6
       have HC6 := hH ((uH HC2).trans hc6 (fun i hi e => by have := ((uH HO2).lt i e).1; omega))
       clear ho6 hc6 hat))
  go_ret
  have hO := uH HO6
  rw [Nat.zero_add, List.nil_append] at hO
  have hcp := own_cap hO
  obtain ⟨B6, c6, hv6⟩ := own_val hO
  refine ⟨_, rfl, ?_, hcp, uH HC6⟩
  have h7 := RdN.mk (c := c6) ((own_rd (hv6 ▸ hO) (by omega)).mono (fun k hk => (hO.lt k (by rw [hv6]; exact hk)).1)) hok (by omega)
  rw [hlen] at h7
  rw [hv6]
  exact h7
end Go.Proofs.YtinekmjengckdaaGreatDoor

namespace Go.Proofs.YtinekmjengckdaaGreatDoor
open Go.RowKit
set_option maxHeartbeats 4000000
set_option maxRecDepth 100000
theorem refKids_any (l : List Nd) (v : Value) (p : Nat) (T : Nat → Prop) (w : World) (hr : RdN T w v l) (hl : l.length ≤ 4000) (n : Nd) (hn : l[p]? = some n) (hk0 : 0 ≤ n.kids) (a : Nat) (he : eat (l.drop (p + 1)) n.kids.toNat = some a) :
    Calls Tryz.prog 131 #[v, .int .i64 (p : Int)] w fun e w' => ∃ A c, e = .returned (.slice A n.kids.toNat c) ∧ Rd (fun k => w.heap.size ≤ k) w' A ((kidsL l p n.kids.toNat).map intl) ∧ Chg (fun _ => False) w w' := by
  have hp : p < l.length := (List.getElem?_eq_some_iff.1 hn).1
  have hEnd : endV l p = ((p + 1 + a : Nat) : Int) := by
    have := eat_step hn (k := 1) (by omega)
    rw [if_neg (by omega), show 1 - 1 + n.kids.toNat = n.kids.toNat by omega, he] at this
    unfold endV endAt
    rw [this]
    rfl
  have HEND := hH (fun W (hW : Chg (fun _ => False) w W) => refEnd_any l hl l.length p v T W (by omega) (by omega) (hr.chg hW (fun _ _ _ => id)))
  rw [hEnd] at HEND
  have HE2 := hH (fun W (hW : Chg (fun _ => False) w W) (q : Nat) (hq : q ≤ l.length) => refEnd_any l hl l.length q v T W (by omega) hq (hr.chg hW (fun _ _ _ => id)))
  obtain ⟨b, o, c, rfl, hTb, _, _, _, _, c3⟩ := hr.at_ hn
  obtain ⟨K, hK⟩ : ∃ K : Nat, n.kids = (K : Int) := ⟨n.kids.toNat, by omega⟩
  rw [hK] at c3 he ⊢
  have hKn : ((K : Nat) : Int).toNat = K := by omega
  rw [hKn] at he ⊢
  have hal := eat_le he
  rw [List.length_drop] at hal
  obtain ⟨i3, hi3, hz3, hs3, hb3⟩ := info_parts info3
  have HA := hH he
  have hb3w : b < w.heap.size := hat_lt c3
  have HK3 := hH (fun W (hW : Chg (fun _ => False) w W) => (hW.cell (p := ⟨b, o + p * 4 + 3, none⟩) hb3w id).trans c3)
  have hneg : ¬ ((p + 1 + a : Nat) : Int) < 0 := by omega
  clear hr hEnd he hK hk0 hn c3
  go_enter Tryz.func131, Tryz.ntmps131
  have HO0 := hH (own_start (base := w.heap.size) (size := 1) (Blk.new w 3 #[]) (Nat.le_refl _))
  have HC0 := hH ((Chg.refl (fun _ => False) w).alloc (.cells #[] 3))
  go_upto_region 6 with (go_at_call 162; refine ((uH HEND) _ (uH HC0)).mono ?_; rintro e w2 ⟨rfl, hc2⟩; have HC2 := hH ((uH HC0).trans' hc2); have HO2 := hH (own_chg (uH HO0) hc2 (fun _ _ h => h)); clear hc2)
  go_loopw [5, 6, 7] (fun out at_ ii wr => ∃ (j q : Nat), ii = .int .i64 (j : Int) ∧ at_ = .int .i64 ((p + 1 + q : Nat) : Int) ∧ j ≤ K ∧ eat (l.drop (p + 1)) j = some q ∧ wr.ownsRow w.heap.size 3 1 out j ((kidsL l p j).map intl) ∧ Chg (fun _ => False) w wr) (fun _ _ ii _ => K - (intOf ii).toNat)
  case atStart => exact ⟨0, 0, rfl, by first | rfl | go_num, Nat.zero_le _, eat_zero _, uH HO2, uH HC2⟩
  case round =>
    obtain ⟨wq, rfl⟩ : ∃ wq : World, wq = wr := ⟨_, rfl⟩
    obtain ⟨j, q, rfl, rfl, hj, hq, hown, hch⟩ := hrel
    have k3 := (uH HK3) _ hch
    obtain ⟨A, c5, rfl⟩ := own_val hown
    have HOWN := hH hown
    have HCH := hH hch
    have hql := eat_le hq
    rw [List.length_drop] at hql
    by_cases hlt : j < K
    · have hji : (j : Int) < (K : Int) := by omega
      obtain ⟨d, hd, hd0, hnx⟩ := eat_next (uH HA) hlt hq
      have hdl := eat_le hnx
      rw [List.length_drop] at hdl
      have hev : endV l (p + 1 + q) = ((p + 1 + (q + d) : Nat) : Int) := by
        unfold endV endAt
        rw [show l.drop (p + 1 + q) = (l.drop (p + 1)).drop q by rw [List.drop_drop], hd]
        show ((p + 1 + q + d : Nat) : Int) = _
        omega
      have HN := hH (fun W (hW : Chg (fun _ => False) w W) => (uH HE2) W hW (p + 1 + q) (by omega))
      rw [hev] at HN
      have HNX := hH hnx
      have HKS := hH (kidsL_succ hq)
      have hm1 : j + 1 ≤ maxLen := by simp only [maxLen]; omega
      have hm2 : (j + 1) * 8 ≤ 140737488355328 := by omega
      have hsz := hch.size
      have hbs : w.heap.size ≤ (wq.alloc (.cells #[.int .i64 ((p + 1 + q : Nat) : Int)] 3)).heap.size := by rw [size_alloc]; omega
      have HW := hH (hown.alloc (.cells #[.int .i64 ((p + 1 + q : Nat) : Int)] 3))
      have HR := hH ((rd_new wq wq.heap.size 3 [intl ((p + 1 + q : Nat) : Int)] rfl).mono (T' := fun _ => True) (fun _ _ => trivial))
      have ho1 : ∀ u ∈ [intl ((p + 1 + q : Nat) : Int)], u.oneCell' = true := by intro u hu; simp at hu; subst hu; rfl
      have HLT := hH (fun k hk => hown.lt k hk)
      clear hown hch hq hd hnx hev
      generalize hs : p + 1 + q = s at *
      go_wp2_with (first
        | (at_builtin
           refine wpList_append_rd _ rfl (.tmp 25) (.tmp 27) 139 rfl w.heap.size 3 i3 (.int .i64 0) 1 8 Tryz.underlying139 hi3 hz3 hs3 hb3 rfl (Nat.succ_pos 0) _ j _ rfl (uH HW) (fun _ => True) (some ⟨wq.heap.size, 0, none⟩) 1 1 [intl (s : Int)] rfl rfl (uH HR) ho1 hm1 hm2 hbs ?_
           intro v3 w3 ho3 hc3 hat
           have HO3 := hH ho3
           have HC3 := hH ((uH HCH).trans (((Chg.refl (fun k => (Value.slice A j c5).ownBlock = some k) wq).alloc (.cells #[.int .i64 (s : Int)] 3)).trans hc3 (fun _ _ h => h)) (fun i hi e => by have := ((uH HLT) i e).1; omega))
           clear ho3 hc3 hat)
        | (go_at_call 162; refine ((uH HN) _ (uH HC3)).mono ?_; rintro e w4 ⟨rfl, hc4⟩; have HC4 := hH hc4; clear hc4))
      go_roundw
      case rel =>
        refine ⟨j + 1, q + d, by go_num, rfl, by omega, uH HNX, ?_, (uH HC3).trans' (uH HC4)⟩
        rw [uH HKS, List.map_append]
        exact own_chg (uH HO3) (uH HC4) (fun _ _ h => h)
      case measure => simp [intOf]; omega
    · obtain rfl : j = K := by omega
      have hji : ¬ (j : Int) < (j : Int) := by omega
      clear hown hch hq
      go_wp2_with fail
      go_ret
      exact ⟨A, ⟨c5, rfl⟩, (own_rd (uH HOWN) (by omega)).mono (fun k hk => ((uH HOWN).lt k hk).1), uH HCH⟩
end Go.Proofs.YtinekmjengckdaaGreatDoor

namespace Go.Proofs.YtinekmjengckdaaGreatDoor
open Go.RowKit
set_option maxHeartbeats 2000000
set_option maxRecDepth 100000
end Go.Proofs.YtinekmjengckdaaGreatDoor

namespace Go.Proofs.YtinekmjengckdaaGreatDoor
open Go.RowKit
set_option maxHeartbeats 2000000
set_option maxRecDepth 100000
theorem partsG_count : ∀ (f : Nat) (t : List Nd), (partsG f t).1.length ≤ f
  | 0, t => by simp [partsG]
  | f + 1, t => by
    unfold partsG
    cases t with
    | nil => simp
    | cons n l =>
      dsimp only
      split
      · cases eat l 1 with
        | none => simp
        | some k =>
          dsimp only
          have := partsG_count f (l.drop k)
          rw [List.length_cons]
          omega
      · simp
theorem parts_count (t : List Nd) (h : t.length ≤ 4000) : (partsL t).1.length ≤ 4000 := by
  have := partsG_count t.length t
  unfold partsL
  omega
theorem refParts_any : ∀ (n : Nat) (l : List Nd) (v : Value) (T : Nat → Prop) (w : World), l.length ≤ n → RdN T w v l → capOk v → l.length ≤ 4000 → eat l 1 = some l.length → l.all nodeB = true →
    Calls Tryz.prog 87 #[v] w fun e w' => ∃ v1 v2, e = .returned (.tuple #[v1, v2]) ∧ RdNs (fun k => w.heap.size ≤ k) w' v1 (partsL l).1 ∧ RdN (fun k => T k ∨ w.heap.size ≤ k) w' v2 (partsL l).2 ∧ Chg (fun _ => False) w w' := by
  intro n
  induction n with
  | zero =>
    intro l v T w hn _ _ _ he _
    obtain rfl : l = [] := List.eq_nil_of_length_eq_zero (by omega)
    simp [eat] at he
  | succ n ih =>
    intro l v T w hn hr hcap hl he hall
    obtain ⟨x, m, hxm⟩ : ∃ x m, l = x :: m := by
      cases l with
      | nil => simp [eat] at he
      | cons x m => exact ⟨x, m, rfl⟩
    have hx : l[0]? = some x := by rw [hxm]; rfl
    have hxb : nodeB x = true := List.all_eq_true.1 hall x (by rw [hxm]; exact List.mem_cons_self)
    obtain ⟨b, o, c, rfl, _, _, _, c1, _, _⟩ := hr.at_ hx
    rw [Nat.zero_mul, Nat.add_zero] at c1
    have hlm : l.length = m.length + 1 := by rw [hxm]; rfl
    have hlp : (0 : Int) < (l.length : Int) := by omega
    have hln : 0 < l.length := by omega
    have hne : ¬ l = [] := by rw [hxm]; simp
    have htx := text_eq x.text [45, 62]
    by_cases ht : x.text = ArrowT
    rotate_left
    · rw [decide_eq_false (show ¬ x.text = ⟨[45, 62].toArray⟩ from ht)] at htx
      have htx2 := htx.symm
      have hp : partsL l = ([], l) := by rw [hxm]; exact parts_end ht
      have HR := hH hr
      have HP := hH hp
      clear hr hcap ih he hall hx hxb htx ht hp hxm hlm
      go_enter Tryz.func87, Tryz.ntmps87
      go_wp2_with fail
      go_ret2
      rw [uH HP]
      exact ⟨_, _, rfl, RdR.nil_ _ _ _ _, (uH HR).mono (fun _ h => .inl h), Chg.refl _ _⟩
    rw [decide_eq_true (show x.text = ⟨[45, 62].toArray⟩ from ht)] at htx
    have htx2 := htx.symm
    obtain ⟨_, _, hk2⟩ := node_arrow hxb ht
    obtain ⟨a, ha, ha0, hal, hwt, hea⟩ := arrow_split (n := x) (l := m) (by rw [← hxm, ← hlm]; exact he) hk2
    have hd1 : l.drop 1 = m := by rw [hxm]; rfl
    have hek : eat (l.drop (0 + 1)) x.kids.toNat = some m.length := by
      rw [hk2, show l.drop (0 + 1) = m from hd1]
      have := (whole_kids (n := x) (l := m) (by rw [← hxm, ← hlm]; exact he)).2
      rw [hk2] at this
      exact this
    have hpp : partsL l = (m.take a :: (partsL (m.drop a)).1, (partsL (m.drop a)).2) := by rw [hxm]; exact parts_arrow_step ht ha
    obtain ⟨s, hs⟩ : ∃ s, s = 1 + a := ⟨_, rfl⟩
    have hds : l.drop s = m.drop a := by rw [hs, hxm, Nat.add_comm, List.drop_succ_cons]
    have hmd : (m.drop a).length = m.length - a := List.length_drop
    have HKI := hH (show Calls Tryz.prog 131 #[.slice (some ⟨b, o, none⟩) l.length c, .int .i64 0] w fun e w' => ∃ kb ko cc, e = .returned (.slice (some ⟨kb, ko, none⟩) 2 cc) ∧ w'.cell? ⟨kb, ko, none⟩ = some (.int .i64 1) ∧ w'.cell? ⟨kb, ko + 1, none⟩ = some (.int .i64 (s : Int)) ∧ Chg (fun _ => False) w w' from
      (refKids_any l _ 0 T w hr hl x hx (by omega) m.length hek).mono fun e w' h => by
        obtain ⟨A, cc, h1, h2, h3⟩ := h
        rw [hk2, show (2 : Int).toNat = 2 from rfl, kids_two (by rw [hd1]; exact ha), ← hs] at h2
        obtain ⟨kb, ko, rfl, _, hc⟩ := h2.flat (by simp)
        exact ⟨kb, ko, cc, by rw [h1, hk2]; rfl, hc 0 _ rfl, hc 1 _ rfl, h3⟩)
    have HS1 := hH (fun W (hW : Chg (fun _ => False) w W) => show Calls Tryz.prog 132 #[.slice (some ⟨b, o, none⟩) l.length c, .int .i64 (s : Int)] W fun e w' => ∃ v', e = .returned v' ∧ RdN (fun k => W.heap.size ≤ k) w' v' (m.drop a) ∧ capOk v' ∧ Chg (fun _ => False) W w' from by
      have := refSub_any l _ s (m.drop a).length T W (hr.chg hW (fun _ _ _ => id)) hcap hl (by omega) (by rw [hds]; exact hea)
      rw [hds, List.take_length] at this
      exact this)
    have HS2 := hH (fun W (hW : Chg (fun _ => False) w W) => show Calls Tryz.prog 132 #[.slice (some ⟨b, o, none⟩) l.length c, .int .i64 1] W fun e w' => ∃ v', e = .returned v' ∧ RdN (fun k => W.heap.size ≤ k) w' v' (m.take a) ∧ capOk v' ∧ Chg (fun _ => False) W w' from by
      have := refSub_any l _ 1 a T W (hr.chg hW (fun _ _ _ => id)) hcap hl (by omega) (by rw [hd1]; exact ha)
      rw [hd1] at this
      exact this)
    have HIH := hH (fun W v' T' (h : RdN T' W v' (m.drop a)) (hc : capOk v') => ih (m.drop a) v' T' W (by omega) h hc (by omega) hea (by
      rw [List.all_eq_true]
      intro y hy
      exact List.all_eq_true.1 hall y (by rw [hxm]; exact List.mem_cons_of_mem _ (List.mem_of_mem_drop hy))))
    obtain ⟨mt, hmt⟩ : ∃ mt, mt = m.take a := ⟨_, rfl⟩
    rw [← hmt] at hpp HS2
    have HPP := hH hpp
    have HPL := hH (show (partsL (m.drop a)).1.length ≤ 4000 from parts_count (m.drop a) (by omega))
    have HX := hH (Chg.refl (fun _ => False) w)
    obtain ⟨i_, hi, hz, hsz, hb⟩ := info_parts infoRow
    clear hmt hr hcap ih he hall hx hxb htx ht hpp hxm hlm hds hmd hek hd1 hea hwt ha hk2 hs hal ha0
    go_enter Tryz.func87, Tryz.ntmps87
    go_upto_region 5 with (first
      | (go_at_call 131; (with_reducible refine (uH HKI).mono ?_); rintro e w2 ⟨kb, ko, cc, rfl, q0, q1, hch⟩; (have HN_ := hH ((uH HX).trans' hch)); clear HX; have HX := HN_; clear HN_; have HY := hH (Chg.refl (fun _ => False) w2); have HQ0 := hH (fun W (hW : Chg (fun _ => False) w2 W) => (hW.cell (World.block_lt_of_cell? w2 _ q0) id).trans q0); clear hch)
      | (go_at_call 132; (with_reducible refine (uH HS1 _ (uH HX)).mono ?_); rintro e w3 ⟨vs, rfl, hvs, hcp, hch⟩; have HZ2 := hH (uH HX).size; (have HN_ := hH ((uH HX).trans' hch)); clear HX; have HX := HN_; clear HN_; (have HN_ := hH ((uH HY).trans' hch)); clear HY; have HY := HN_; clear HN_; have HVS := hH hvs; have HCP := hH hcp; clear hch hvs hcp)
      | (go_at_call 87; (with_reducible refine (uH HIH _ _ _ (uH HVS) (uH HCP)).mono ?_); rintro e w4 ⟨va, vb, rfl, hva, hvb, hch⟩; have HZ3 := hH (uH HX).size; (have HN_ := hH ((uH HX).trans' hch)); clear HX; have HX := HN_; clear HN_; (have HN_ := hH ((uH HY).trans' hch)); clear HY; have HY := HN_; clear HN_; have HVA := hH hva; have HVB := hH hvb; clear q0 q1 hch hva hvb; have q0 := uH HQ0 _ (uH HY)))
    clear HKI HS1 HIH
    generalize partsL (m.drop a) = PR at *
    obtain ⟨P1, P2⟩ := PR
    dsimp only at HPP HPL HVA HVB
    obtain ⟨A1, cA, ps, rfl, hps, hrd, hR, hl1⟩ := uH HVA
    have hpl := uH HPL
    have hlen : (ps.map Prod.snd).length = P1.length * 1 := by rw [List.length_map, ← hps, List.length_map, Nat.mul_one]
    have hone : ∀ y ∈ ps.map Prod.snd, y.oneCell' = true := fun y hy => by
      obtain ⟨p, hp, rfl⟩ := List.mem_map.1 hy
      obtain ⟨A', c', hv'⟩ := (hR p hp).val
      rw [hv']
      rfl
    rw [flat_sing Prod.snd] at hrd
    have hm1 : 1 + P1.length ≤ maxLen := by simp only [maxLen]; omega
    have hm2 : (1 + P1.length) * 24 ≤ 140737488355328 := by omega
    have HRD := hH (fun W (hW : Chg (fun _ => False) w4 W) => hrd.chg hW (fun _ _ _ => id))
    have HRP := hH (fun W (hW : Chg (fun _ => False) w4 W) p (hp : p ∈ ps) => (hR p hp).chg hW (fun _ _ _ => id))
    have HVB2 := hH (fun W (hW : Chg (fun _ => False) w4 W) => (uH HVB).chg hW (fun _ _ _ => id))
    have HPS := hH hps
    have HLEN := hH hlen
    have HONE := hH hone
    have HW4 := hH (uH HX)
    clear HVA HVB hps hrd hR hl1 hlen hone HY HQ0 hpl
    go_wp2_with (first
      | (go_at_call 132; (with_reducible refine (uH HS2 _ (uH HX)).mono ?_; rintro e w5 ⟨vx, rfl, hvx, hcpx, hch⟩); (obtain ⟨Ax, cx, rfl⟩ := hvx.val); (have HZ4 := hH (uH HX).size; (have HN_ := hH ((uH HX).trans' hch)); clear HX; have HX := HN_; clear HN_; have HVX := hH hvx; have HCH := hH hch; have HOW := hH (own_one (base := w.heap.size) (n := 1) (Blk.new w5 54 #[.slice Ax mt.length cx]) (uH HX).size rfl); have hrx := uH HRD _ ((hch).alloc (.cells #[.slice Ax mt.length cx] 54)); have hbs := ((uH HX).alloc (.cells #[.slice Ax mt.length cx] 54)).size; clear hch hvx hcpx))
      | (at_builtin
         (refine wpList_append_rd _ rfl (.tmp 29) (.tmp 30) 62 rfl w.heap.size 54 i_ _ 1 24 Tryz.underlying62 hi hz hsz hb rfl (by decide) (.slice (some ⟨w5.heap.size, 0, none⟩) 1 1) 1 [.slice Ax mt.length cx] rfl (uH HOW) _ A1 P1.length cA (ps.map Prod.snd) rfl (uH HLEN) hrx (uH HONE) hm1 hm2 hbs ?_)
         intro v6 w6 ho6 hc6 hat
         have HO6 := hH ho6
         have HC6 := hH (((uH HX).alloc (.cells #[.slice Ax mt.length cx] 54)).trans hc6 (fun i hi e => by have := ((uH HOW).lt i e).1; omega))
         have HC46 := hH (((uH HCH).alloc (.cells #[.slice Ax mt.length cx] 54)).trans (S' := fun _ => False) (Chg.refl _ _) (fun _ _ h => h))
         have HCW := hH hc6
         clear ho6 hc6 hat))
    go_ret2
    have hO := uH HO6
    have hz2 := uH HZ2
    have hz3 := uH HZ3
    have hz4 := uH HZ4
    have h46 : Chg (fun _ => False) w4 w6 := (uH HC46).trans (uH HCW) (fun i hi e => by
      simp only [Value.ownBlock, Option.some.injEq] at e
      have := (uH HCH).size
      omega)
    obtain ⟨A6, c6, rfl⟩ := own_val hO
    rw [uH HPP]
    have hps := uH HPS
    have e6 : [Value.slice Ax mt.length cx] ++ ps.map Prod.snd = ((mt, Value.slice Ax mt.length cx) :: ps).map Prod.snd := rfl
    have e7 : mt :: P1 = ((mt, Value.slice Ax mt.length cx) :: ps).map Prod.fst := by rw [← hps]; rfl
    have hpsl : ps.length = P1.length := by rw [← hps, List.length_map]
    have h56 : Chg (fun _ => False) w5 w6 := ((Chg.refl (fun _ => False) w5).alloc _).trans (uH HCW) (fun i hi e => by
      simp only [Value.ownBlock, Option.some.injEq] at e
      omega)
    refine ⟨.slice A6 (1 + P1.length) c6, vb, rfl, ?_, (uH HVB2 _ h46).mono (fun k hk => .inr (by rcases hk with hk | hk <;> omega)), uH HC6⟩
    rw [e6] at hO
    have h8 := rows_mk (T := fun k => w.heap.size ≤ k) (A := A6) (c := c6) ((own_rd hO (by omega)).mono (fun k hk => (hO.lt k hk).1)) (fun p hp => by
      rcases List.mem_cons.1 hp with rfl | hp
      · exact ((uH HVX).chg h56 (fun _ _ _ => id)).mono (fun k hk => Nat.le_trans hz4 hk)
      · exact (uH HRP _ h46 p hp).mono (fun k hk => Nat.le_trans hz3 hk)) (by rw [List.length_cons, hpsl]; have := uH HPL; omega)
    rw [List.length_cons, hpsl, Nat.add_comm] at h8
    rw [e7]
    exact h8
end Go.Proofs.YtinekmjengckdaaGreatDoor
