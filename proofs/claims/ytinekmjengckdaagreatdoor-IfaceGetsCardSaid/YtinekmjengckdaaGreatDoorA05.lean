/-
  Layer 2, the program's side: where a tree ends. Layer 2, the program's side: whole trees, and where kids begin. Layer 2, the program's side: where a node's kids begin.
-/
import Derived.Test.YtinekmjengckdaaGreatDoorA04
namespace Go.Proofs.YtinekmjengckdaaGreatDoor
open Go.RowKit
set_option maxHeartbeats 2000000
set_option maxRecDepth 100000
def endV (l : List Nd) (p : Nat) : Int := match endAt l p with
  | some n => (n : Int)
  | none => -1
theorem eat_step {n : Nd} {l : List Nd} {p k : Nat} (hn : l[p]? = some n) (hk : 1 ≤ k) : (eat (l.drop p) k).map (p + ·) = if n.kids < 0 then none else (eat (l.drop (p + 1)) (k - 1 + n.kids.toNat)).map (p + 1 + ·) := by
  obtain ⟨hp, rfl⟩ := List.getElem?_eq_some_iff.1 hn
  rw [List.drop_eq_getElem_cons hp, eat, if_neg (by omega)]
  split
  · rfl
  · rw [Option.map_map]
    congr 1
    funext q
    simp only [Function.comp]
    omega
theorem frame_map (t : Array Value) (n : Nat) (h : t.size = n) : t = ((List.range n).map fun i => t.getD i undef).toArray := by
  subst h
  apply Array.ext
  · simp
  · intro i h1 h2
    simp [h1]
theorem frame_end (t : Array Value) (h : t.size = 43) : ∃ u : Nat → Value, (∀ i, u i = t.getD i undef) ∧ t = #[u 0, u 1, u 2, u 3, u 4, u 5, u 6, u 7, u 8, u 9, u 10, u 11, u 12, u 13, u 14, u 15, u 16, u 17, u 18, u 19, u 20, u 21, u 22, u 23, u 24, u 25, u 26, u 27, u 28, u 29, u 30, u 31, u 32, u 33, u 34, u 35, u 36, u 37, u 38, u 39, u 40, u 41, u 42] :=
  ⟨fun i => t.getD i undef, fun _ => rfl, frame_map t 43 h⟩
def EndJ (W0 : World) (A : Option Addr) (c : Nat) (l : List Nd) (p0 : Nat) (a : Act) (w : World) : Prop :=
  ∃ p k : Nat, (a.defers = [] ∧ a.tmps.size = 43 ∧ a.tmps.getD 0 undef = .slice A l.length c ∧ a.tmps.getD 1 undef = .int .i64 (p : Int) ∧ a.tmps.getD 5 undef = .int .i64 (k : Int)) ∧
    p ≤ l.length ∧ 1 ≤ k ∧ k ≤ 1 + 4000 * p ∧ endAt l p0 = (eat (l.drop p) k).map (p + ·) ∧ Chg (fun _ => False) W0 w
theorem end_any (l : List Nd) (v : Value) (p0 : Nat) (T : Nat → Prop) (w : World) (hr : RdN T w v l) (hl : l.length ≤ 4000) (hp : p0 ≤ l.length) :
    Calls Tryz.prog 169 #[v, .int .i64 (p0 : Int)] w fun e w' => e = .returned (.int .i64 (endV l p0)) ∧ Chg (fun _ => False) w w' := by
  obtain ⟨A, c, rfl⟩ := hr.val
  have HR := hH hr
  have hE : endV l p0 = match endAt l p0 with
    | some n => (n : Int)
    | none => -1 := rfl
  generalize endV l p0 = E at *
  have HE := hH hE
  have h00 : ¬ (p0 : Int) < 0 := by omega
  clear hr hE
  go_enter Tryz.func169, Tryz.ntmps169
  go_wp2_with fail
  refine wp_scope_label 0 (EndJ w A c l p0) (fun a _ => l.length - (intOf (a.tmps.getD 1 undef)).toNat) rfl ?pass ?first
  case pass =>
    rintro ⟨t, dfr⟩ wp ⟨p, k, ⟨hdf, hts, t0, t1, t5⟩, hpl, hk, hkb, heq, hch⟩
    dsimp only at hdf hts t0 t1 t5
    subst hdf
    obtain ⟨u, hu, ht⟩ := frame_end t hts
    have e0 := (hu 0).trans t0
    have e1 := (hu 1).trans t1
    have e5 := (hu 5).trans t5
    clear hu t0 t1 t5 hts
    subst ht
    rw [e0, e1, e5]
    clear e0 e1 e5
    have HCH := hH hch
    by_cases hpn : p < l.length
    · have hx : l[p]? = some l[p] := List.getElem?_eq_getElem hpn
      have hst := eat_step hx hk
      generalize l[p] = x at *
      obtain ⟨b, o, c2, hv, _, _, c0, c1, c3, c4⟩ := ((uH HR).chg hch (fun _ _ _ => id)).at_ hx
      injection hv with hv1 hv2 hv3
      subst hv1 hv3
      have hd0 : decide ((l.length : Int) ≤ (p : Int)) = false := decide_eq_false (by omega)
      obtain ⟨xk, xt, xn, kd⟩ := x
      dsimp only at c0 c1 c3 c4 hst
      have HST := hH hst
      have HEQ := hH heq
      clear hst heq hx c0 c1 c3 hch
      by_cases hneg : kd < 0
      · have HF := hH (show E = -1 by rw [uH HE, uH HEQ, uH HST, if_pos hneg])
        have hd1 : decide (kd < 0) = true := decide_eq_true hneg
        go_wp2_with fail
        simp only [Exit.jump]
        go_ret
        exact ⟨retv (intv (uH HF).symm), uH HCH⟩
      · have hd1 : decide (kd < 0) = false := decide_eq_false hneg
        obtain ⟨q, rfl⟩ : ∃ q : Nat, kd = (q : Int) := ⟨kd.toNat, by omega⟩
        by_cases hbig : l.length < q
        · have HF := hH (show E = -1 by
            rw [uH HE, uH HEQ, uH HST, if_neg hneg, eat_short (by rw [List.length_drop]; omega)]; rfl)
          have hd2 : decide ((l.length : Int) < (q : Int)) = true := decide_eq_true (by omega)
          go_wp2_with fail
          simp only [Exit.jump]
          go_ret
          exact ⟨retv (intv (uH HF).symm), uH HCH⟩
        · have hd2 : decide ((l.length : Int) < (q : Int)) = false := decide_eq_false (by omega)
          by_cases hz : k + q = 1
          · have HF := hH (show E = ((p + 1 : Nat) : Int) by
              rw [uH HE, uH HEQ, uH HST, if_neg hneg, show k - 1 + (q : Int).toNat = 0 by omega, eat_zero]; rfl)
            have hd3 : ¬ (0 : Int) < (k : Int) + ((q : Int) - 1) := by omega
            go_wp2_with fail
            simp only [Exit.jump]
            go_ret
            exact ⟨retv (intv (by rw [uH HF]; omega)), uH HCH⟩
          · have hd3 : (0 : Int) < (k : Int) + ((q : Int) - 1) := by omega
            have HNG := hH hneg
            go_wp2_with fail
            go_step3
            refine ⟨rfl, ?_, ?_⟩
            · refine ⟨p + 1, k - 1 + q, ⟨rfl, rfl, rfl, ?_, ?_⟩, by omega, by omega, by omega, ?_, uH HCH⟩
              · exact intv (by omega)
              · exact intv (by omega)
              · rw [uH HEQ, uH HST, if_neg (show ¬ (q : Int) < 0 by omega)]; rfl
            · simp [intOf]; omega
    · have HF := hH (show E = -1 by
        rw [uH HE, heq, eat_short (by rw [List.length_drop]; omega)]; rfl)
      have hd0 : decide ((l.length : Int) ≤ (p : Int)) = true := decide_eq_true (by omega)
      clear heq hch
      go_wp2_with fail
      simp only [Exit.jump]
      go_ret
      exact ⟨retv (intv (uH HF).symm), uH HCH⟩
  case first =>
    intro hpass
    have Hpass := hH hpass
    clear hpass
    go_wp2_with fail
    go_step3
    go_step
    go_step
    refine uH Hpass _ _ ?_
    exact ⟨p0, 1, ⟨rfl, rfl, rfl, rfl, rfl⟩, hp, Nat.le_refl _, by omega, rfl, Chg.refl _ _⟩
end Go.Proofs.YtinekmjengckdaaGreatDoor

namespace Go.Proofs.YtinekmjengckdaaGreatDoor
open Go.RowKit
set_option maxHeartbeats 2000000
set_option maxRecDepth 100000
theorem endV_whole (l : List Nd) : wholeB l = (decide (0 < l.length) && (endV l 0 == (l.length : Int))) := by
  unfold wholeB endV endAt
  rw [List.drop_zero]
  cases l with
  | nil => simp
  | cons x l =>
    cases h : eat (x :: l) 1 with
    | none =>
      simp
      omega
    | some n =>
      rw [Bool.eq_iff_iff]
      simp
      omega
theorem whole_any (l : List Nd) (v : Value) (T : Nat → Prop) (w : World) (hr : RdN T w v l) (hl : l.length ≤ 4000) :
    Calls Tryz.prog 146 #[v] w fun e w' => e = .returned (.bool (wholeB l)) ∧ Chg (fun _ => False) w w' := by
  have HE := hH (fun W (hW : Chg (fun _ => False) w W) => end_any l v 0 T W (hr.chg hW (fun _ _ _ => id)) hl (Nat.zero_le _))
  obtain ⟨A, c, rfl⟩ := hr.val
  have hw := endV_whole l
  generalize wholeB l = B at *
  generalize endV l 0 = E at *
  have HB := hH hw
  have HE2 := hH (rq ((uH HE) w (Chg.refl _ _)))
  clear hw hr
  by_cases h0 : l.length = 0
  · have hd : decide (0 < l.length) = false := decide_eq_false (by omega)
    have hd2 : ¬ (0 : Int) < (l.length : Int) := by omega
    have HF := hH (show B = false by rw [uH HB, hd]; rfl)
    go_enter Tryz.func146, Tryz.ntmps146
    go_wp2_with fail
    go_ret
    exact ⟨retv (boolv (uH HF).symm), Chg.refl _ _⟩
  · have hd : decide (0 < l.length) = true := decide_eq_true (by omega)
    have hd2 : (0 : Int) < (l.length : Int) := by omega
    have HF := hH (show B = (E == (l.length : Int)) by rw [uH HB, hd]; rfl)
    go_enter Tryz.func146, Tryz.ntmps146
    go_wp2_with (go_at_call 169; refine ((uH HE) _ (Chg.refl _ _)).mono ?_; rintro e w2 ⟨rfl, hc2⟩; have HC2 := hH hc2; clear hc2)
    go_ret
    exact ⟨retv (boolv (uH HF).symm), uH HC2⟩
end Go.Proofs.YtinekmjengckdaaGreatDoor

namespace Go.Proofs.YtinekmjengckdaaGreatDoor
open Go.RowKit
set_option maxHeartbeats 4000000
set_option maxRecDepth 100000
theorem info3 : (Tryz.prog.info? 3).map (fun i => (i.zero, i.size, i.bytes)) = some (some (.int .i64 0), 1, 8) := by kernel_rfl
def kidsL (l : List Nd) (p n : Nat) : List Int := (List.range n).map fun j => ((p + 1 + (eat (l.drop (p + 1)) j).getD 0 : Nat) : Int)
theorem kidsL_succ {l : List Nd} {p j b : Nat} (h : eat (l.drop (p + 1)) j = some b) : kidsL l p (j + 1) = kidsL l p j ++ [((p + 1 + b : Nat) : Int)] := by
  unfold kidsL
  rw [List.range_succ, List.map_append, List.map_singleton, h]
  rfl
theorem eat_pre {l : List Nd} {K a : Nat} (h : eat l K = some a) (j : Nat) (hj : j ≤ K) : ∃ b, eat l j = some b := by
  rw [show K = j + (K - j) by omega, eat_add] at h
  cases e : eat l j with
  | none => rw [e] at h; cases h
  | some b => exact ⟨b, rfl⟩
theorem eat_next {l : List Nd} {K a : Nat} (h : eat l K = some a) {j b : Nat} (hj : j < K) (hb : eat l j = some b) : ∃ d, eat (l.drop b) 1 = some d ∧ 0 < d ∧ eat l (j + 1) = some (b + d) := by
  obtain ⟨b2, h2⟩ := eat_pre h (j + 1) (by omega)
  have h3 := h2
  rw [eat_add, hb, Option.bind_some, Option.map_eq_some_iff] at h3
  obtain ⟨d, hd, e⟩ := h3
  exact ⟨d, hd, by have := eat_le hd; omega, by rw [h2, e]⟩
theorem kids_any (l : List Nd) (v : Value) (p : Nat) (T : Nat → Prop) (w : World) (hr : RdN T w v l) (hl : l.length ≤ 4000) (n : Nd) (hn : l[p]? = some n) (hk0 : 0 ≤ n.kids) (a : Nat) (he : eat (l.drop (p + 1)) n.kids.toNat = some a) :
    Calls Tryz.prog 158 #[v, .int .i64 (p : Int)] w fun e w' => ∃ A c, e = .returned (.slice A n.kids.toNat c) ∧ Rd (fun k => w.heap.size ≤ k) w' A ((kidsL l p n.kids.toNat).map intl) ∧ Chg (fun _ => False) w w' := by
  have hp : p < l.length := (List.getElem?_eq_some_iff.1 hn).1
  have hEnd : endV l p = ((p + 1 + a : Nat) : Int) := by
    have := eat_step hn (k := 1) (by omega)
    rw [if_neg (by omega), show 1 - 1 + n.kids.toNat = n.kids.toNat by omega, he] at this
    unfold endV endAt
    rw [this]
    rfl
  have HEND := hH (fun W (hW : Chg (fun _ => False) w W) => end_any l v p T W (hr.chg hW (fun _ _ _ => id)) hl (by omega))
  rw [hEnd] at HEND
  have HE2 := hH (fun W (hW : Chg (fun _ => False) w W) (q : Nat) (hq : q ≤ l.length) => end_any l v q T W (hr.chg hW (fun _ _ _ => id)) hl hq)
  obtain ⟨b, o, c, rfl, hTb, _, _, _, _, c3⟩ := hr.at_ hn
  obtain ⟨K, hK⟩ : ∃ K : Nat, n.kids = (K : Int) := ⟨n.kids.toNat, by omega⟩
  rw [hK] at c3 he ⊢
  have hKn : ((K : Nat) : Int).toNat = K := by omega
  rw [hKn] at he ⊢
  have hal := eat_le he
  rw [List.length_drop] at hal
  obtain ⟨i3, hi3, hz3, hs3, hb3⟩ := info_parts info3
  have HA := hH he
  have hb3w : b < w.heap.size := hat_lt c3
  have HK3 := hH (fun W (hW : Chg (fun _ => False) w W) => (hW.cell (p := ⟨b, o + p * 4 + 3, none⟩) hb3w id).trans c3)
  have hneg : ¬ ((p + 1 + a : Nat) : Int) < 0 := by omega
  clear hr hEnd he hK hk0 hn c3
  go_enter Tryz.func158, Tryz.ntmps158
  go_wp2_with (go_at_call 169; refine ((uH HEND) _ (Chg.refl _ _)).mono ?_; rintro e w2 ⟨rfl, hc2⟩; have HC2 := hH hc2; have k3 := (uH HK3) _ hc2; clear hc2)
  go_loopw [1, 5] (fun at_ out wr => ∃ (j q : Nat), at_ = .int .i64 ((p + 1 + q : Nat) : Int) ∧ j ≤ K ∧ eat (l.drop (p + 1)) j = some q ∧ wr.ownsRow w.heap.size 3 1 out j ((kidsL l p j).map intl) ∧ Chg (fun _ => False) w wr) (fun at_ _ _ => l.length + 1 - (intOf at_).toNat)
  case atStart => exact ⟨0, 0, by first | rfl | go_num, Nat.zero_le _, eat_zero _, World.ownsRow_nil _ _ _ _, uH HC2⟩
  case round =>
    obtain ⟨wq, rfl⟩ : ∃ wq : World, wq = wr := ⟨_, rfl⟩
    obtain ⟨j, q, rfl, hj, hq, hown, hch⟩ := hrel
    obtain ⟨A, c5, rfl⟩ := own_val hown
    have HOWN := hH hown
    have HCH := hH hch
    have hql := eat_le hq
    rw [List.length_drop] at hql
    by_cases hlt : j < K
    · have hji : (j : Int) < (K : Int) := by omega
      obtain ⟨d, hd, hd0, hnx⟩ := eat_next (uH HA) hlt hq
      have hdl := eat_le hnx
      rw [List.length_drop] at hdl
      have hev : endV l (p + 1 + q) = ((p + 1 + (q + d) : Nat) : Int) := by
        unfold endV endAt
        rw [show l.drop (p + 1 + q) = (l.drop (p + 1)).drop q by rw [List.drop_drop], hd]
        show ((p + 1 + q + d : Nat) : Int) = _
        omega
      have HN := hH (fun W (hW : Chg (fun _ => False) w W) => (uH HE2) W hW (p + 1 + q) (by omega))
      rw [hev] at HN
      have HNX := hH hnx
      have HKS := hH (kidsL_succ hq)
      have hm1 : j + 1 ≤ maxLen := by simp only [maxLen]; omega
      have hm2 : (j + 1) * 8 ≤ 140737488355328 := by omega
      have hsz := hch.size
      have hbs : w.heap.size ≤ (wq.alloc (.cells #[.int .i64 ((p + 1 + q : Nat) : Int)] 3)).heap.size := by rw [size_alloc]; omega
      have HW := hH (hown.alloc (.cells #[.int .i64 ((p + 1 + q : Nat) : Int)] 3))
      have HR := hH ((rd_new wq wq.heap.size 3 [intl ((p + 1 + q : Nat) : Int)] rfl).mono (T' := fun _ => True) (fun _ _ => trivial))
      have ho1 : ∀ u ∈ [intl ((p + 1 + q : Nat) : Int)], u.oneCell' = true := by intro u hu; simp at hu; subst hu; rfl
      have HLT := hH (fun k hk => hown.lt k hk)
      clear hown hch hq hd hnx hev
      generalize hs : p + 1 + q = s at *
      go_wp2_with (first
        | (at_builtin
           refine wpList_append_rd _ rfl (.tmp 25) (.tmp 27) 139 rfl w.heap.size 3 i3 (.int .i64 0) 1 8 Tryz.underlying139 hi3 hz3 hs3 hb3 rfl (Nat.succ_pos 0) _ j _ rfl (uH HW) (fun _ => True) (some ⟨wq.heap.size, 0, none⟩) 1 1 [intl (s : Int)] rfl rfl (uH HR) ho1 hm1 hm2 hbs ?_
           intro v3 w3 ho3 hc3 hat
           have HO3 := hH ho3
           have HC3 := hH ((uH HCH).trans (((Chg.refl (fun k => (Value.slice A j c5).ownBlock = some k) wq).alloc (.cells #[.int .i64 (s : Int)] 3)).trans hc3 (fun _ _ h => h)) (fun i hi e => by have := ((uH HLT) i e).1; omega))
           clear ho3 hc3 hat)
        | (go_at_call 169; refine ((uH HN) _ (uH HC3)).mono ?_; rintro e w4 ⟨rfl, hc4⟩; have HC4 := hH hc4; clear hc4))
      go_roundw
      case rel =>
        refine ⟨j + 1, q + d, rfl, by omega, uH HNX, ?_, (uH HC3).trans' (uH HC4)⟩
        rw [uH HKS, List.map_append]
        exact own_chg (uH HO3) (uH HC4) (fun _ _ h => h)
      case measure => simp [intOf]; omega
    · obtain rfl : j = K := by omega
      have hji : ¬ (j : Int) < (j : Int) := by omega
      clear hown hch hq
      go_wp2_with fail
      go_ret
      exact ⟨A, ⟨c5, rfl⟩, (own_rd (uH HOWN) (by omega)).mono (fun k hk => ((uH HOWN).lt k hk).1), uH HCH⟩
end Go.Proofs.YtinekmjengckdaaGreatDoor
