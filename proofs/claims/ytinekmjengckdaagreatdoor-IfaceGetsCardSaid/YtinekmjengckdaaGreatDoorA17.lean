/-
  Layer 10, the document's side: whether rows of nodes are the same; whether they are few. Layer 23: types with their variables from 0 on; whether types are the same.
-/
import Derived.Test.YtinekmjengckdaaGreatDoorA13
import Derived.Deep.RegionHeld3
import Derived.Laws.StructEq
import Derived.Test.YtinekmjengckdaaGreatDoorA16
namespace Go.Proofs.YtinekmjengckdaaGreatDoor
open Go.RowKit
set_option maxHeartbeats 4000000
set_option maxRecDepth 100000
theorem sameN_len {l m : List Nd} (h : l.length ≠ m.length) : sameN l m = false := by
  rw [← Bool.not_eq_true, sameN_iff]
  rintro rfl
  exact h rfl
theorem sameN_diff {l m : List Nd} {k : Nat} {x y : Nd} (hx : l[k]? = some x) (hy : m[k]? = some y) (h : x.same y = false) : sameN l m = false := by
  rw [← Bool.not_eq_true, sameN_iff]
  rintro rfl
  have := hx.symm.trans hy
  injection this with this
  exact Nd.same_false.1 h this
theorem sameN_all {l m : List Nd} (hl : l.length = m.length) (h : ∀ j, j < l.length → l[j]? = m[j]?) : sameN l m = true := by
  rw [sameN_iff]
  apply List.ext_getElem? 
  intro j
  rcases Nat.lt_or_ge j l.length with hj | hj
  · exact h j hj
  · rw [List.getElem?_eq_none_iff.2 hj, List.getElem?_eq_none_iff.2 (by omega)]
theorem run_neq_nd (x y : Nd) (w : World) : (binOp .neq 59 (.agg #[.int .i64 x.kind, .string x.text, .int .i64 x.num, .int .i64 x.kids]) (.agg #[.int .i64 y.kind, .string y.text, .int .i64 y.num, .int .i64 y.kids])).run Tryz.prog w = .ok (.bool (!x.same y)) w := by
  have ht : decide (x.text = y.text) = (x.text.toList == y.text.toList) := by
    rw [Bool.eq_iff_iff, decide_eq_true_eq, beq_iff_eq]
    exact ⟨fun h => by rw [h], bytes_eq⟩
  unfold Nd.same
  rw [ht]
  cases h1 : x.kind == y.kind <;> cases h2 : x.text.toList == y.text.toList <;> cases h3 : x.num == y.num <;> cases h4 : x.kids == y.kids <;> go_simp
theorem same_any (l m : List Nd) (v1 v2 : Value) (T1 T2 : Nat → Prop) (w : World) (h1 : RdN T1 w v1 l) (h2 : RdN T2 w v2 m) (hn : l.length ≤ 1000000) (_hm : m.length ≤ 1000000) :
    Calls Tryz.prog 43 #[v1, v2] w fun e w' => e = .returned (.bool (sameN l m)) ∧ Chg (fun _ => False) w w' := by
  obtain ⟨A1, c1, rfl⟩ := h1.val
  obtain ⟨A2, c2, rfl⟩ := h2.val
  have H1 := hH h1
  have H2 := hH h2
  by_cases hl : l.length = m.length
  rotate_left
  · have HE := hH (sameN_len hl)
    have hle : ¬ (l.length : Int) = (m.length : Int) := by omega
    generalize sameN l m = E at *
    clear h1 h2 H1 H2
    go_enter Tryz.func43, Tryz.ntmps43
    go_wp2_with fail
    go_ret
    exact ⟨retv (boolv (uH HE).symm), Chg.refl _ _⟩
  · have HA := hH (sameN_all hl)
    have HD := hH (fun k x y => sameN_diff (l := l) (m := m) (k := k) (x := x) (y := y))
    generalize sameN l m = E at *
    have HL := hH hl
    have hle : (l.length : Int) = (m.length : Int) := by omega
    clear h1 h2 hl
    go_enter Tryz.func43, Tryz.ntmps43
    go_wp2_with fail
    go_loopw [5] (fun i wr => ∃ k : Nat, i = .int .i64 (k : Int) ∧ k ≤ l.length ∧ (∀ j, j < k → l[j]? = m[j]?) ∧ Chg (fun _ => False) w wr) (fun i _ => l.length - (intOf i).toNat)
    case atStart => exact ⟨0, rfl, Nat.zero_le _, fun j h => absurd h (Nat.not_lt_zero _), Chg.refl _ _⟩
    case round =>
      obtain ⟨wq, rfl⟩ : ∃ wq : World, wq = wr := ⟨_, rfl⟩
      obtain ⟨k, rfl, hk, hall, hch⟩ := hrel
      by_cases hlt : k < l.length
      · have hki : (k : Int) < (l.length : Int) := by omega
        have hkm : (k : Int) < (m.length : Int) := by omega
        have hx : l[k]? = some l[k] := List.getElem?_eq_getElem hlt
        have hlm : k < m.length := by omega
        have hy : m[k]? = some m[k] := List.getElem?_eq_getElem hlm
        generalize l[k] = x at *
        generalize m[k] = y at *
        obtain ⟨b, o, c3, hv, _, _, d0, d1, d2, d3⟩ := ((uH H1).chg hch (fun _ _ _ => id)).at_ hx
        obtain ⟨b', o', c3', hv', _, _, e0, e1, e2, e3⟩ := ((uH H2).chg hch (fun _ _ _ => id)).at_ hy
        injection hv with hv1 hv2 hv3
        injection hv' with hv1' hv2' hv3'
        subst hv1 hv3 hv1' hv3'
        have HALL := hH hall
        have HX := hH hx
        have HY := hH hy
        have HCH := hH hch
        clear hall hx hy hch hv2 hv2'
        have qn := fun w : World => run_neq_nd x y w
        cases hq : x.same y
        · have HE := hH (uH HD k x y (uH HX) (uH HY) hq)
          clear HALL HX HY
          rw [hq] at qn
          clear hq
          go_wp2_with fail
          go_quiet (fail)
          go_wp2_with fail
          go_ret
          exact ⟨retv (boolv (uH HE).symm), (uH HCH).drewN _⟩
        · have HE := hH (Nd.same_iff.1 hq)
          rw [hq] at qn
          clear hq
          go_wp2_with fail
          go_quiet (fail)
          go_wp2_with fail
          go_roundw
          case rel =>
            exact ⟨k + 1, by go_num, by omega, fun j hj => by
              rcases Nat.lt_or_ge j k with h | h
              · exact (uH HALL) j h
              · obtain rfl : j = k := by omega
                rw [uH HX, uH HY, uH HE], (uH HCH).drewN _⟩
          case measure => simp [intOf]; omega
      · obtain rfl : k = l.length := by omega
        have hki : ¬ (l.length : Int) < (l.length : Int) := by omega
        have HF := hH (uH HA hall)
        have HCH := hH hch
        clear hall hch
        go_wp2_with fail
        go_ret
        exact ⟨retv (boolv (uH HF).symm), uH HCH⟩
end Go.Proofs.YtinekmjengckdaaGreatDoor

namespace Go.Proofs.YtinekmjengckdaaGreatDoor
open Go.RowKit
set_option maxHeartbeats 4000000
set_option maxRecDepth 100000
theorem clone_o (l : List Nd) (v : Value) (T : Nat → Prop) (w : World) (hr : RdN T w v l) (hn : l.length ≤ 1000000) (hne : l ≠ []) :
    Calls Tryz.prog 99 #[v] w fun e w' => ∃ v', e = .returned v' ∧ w'.ownsRow w.heap.size 59 4 v' l.length (l.flatMap nd4) ∧ Chg (fun _ => False) w w' := by
  obtain ⟨A, c, rfl⟩ := hr.val
  have hrd := hr.rd.2
  rcases A with _ | ad
  · exfalso
    obtain ⟨ad, h, _⟩ := hrd (by
      cases l with
      | nil => exact absurd rfl hne
      | cons x l => simp [nd4])
    cases h
  · obtain ⟨i_, hi, hz, hs, hb⟩ := info_parts infoNd
    have hlen := nd4_len l
    have hone := nd4_one l
    have hrd2 := hrd.chg ((Chg.refl (fun _ => False) w).alloc (.cells #[] 59)) (fun _ _ _ => id)
    have hm1 : 0 + l.length ≤ maxLen := by simp only [maxLen]; omega
    have hm2 : (0 + l.length) * 40 ≤ 140737488355328 := by omega
    have ho := own_start (base := w.heap.size) (size := 4) (Blk.new w 59 #[]) (Nat.le_refl _)
    have hbs : w.heap.size ≤ (w.alloc (.cells #[] 59)).heap.size := by rw [size_alloc]; omega
    clear hr hrd
    have qe : ∀ (w : World) (a : Option Addr) (n c n' c' : Nat), (binOp .eql 54 (.slice a n c) (.slice none n' c')).run Tryz.prog w = .ok (.bool a.isNone) w := fun w a n c n' c' => Lib.run_eql_slice_nil w _ _ a n c n' c' Tryz.underlying54
    go_enter Tryz.func99, Tryz.ntmps99
    go_wp2_with (at_builtin
                 refine wpList_append_rd _ rfl (.tmp 5) (.tmp 6) 54 rfl w.heap.size 59 i_ _ 4 40 Tryz.underlying54 hi hz hs hb rfl (by decide) _ 0 [] rfl ho T (some ad) l.length c (l.flatMap nd4) rfl hlen hrd2 hone hm1 hm2 hbs ?_
                 intro v5 w5 ho5 hc5 hat
                 have HO5 := hH ho5
                 have HC5 := hH (((Chg.refl (fun _ => False) w).alloc (.cells #[] 59)).trans hc5 (fun i hi e => by have := (ho.lt i e).1; omega))
                 clear ho5 hc5 hat)
    go_ret
    have hO := uH HO5
    rw [Nat.zero_add, List.nil_append] at hO
    exact ⟨_, rfl, hO, uH HC5⟩
def canN (l : List Int) (n : Nd) : Nd := if n.kind = 31 then { n with num := idxP (fun y => n.num == y) l } else n
theorem idx_eq (l : List Int) (n : Int) : idxP (fun y => n == y) l = idxI l n := by
  unfold idxP idxI
  have : (fun y => n == y) = (fun y => decide (y = n)) := by
    funext y
    rw [Bool.eq_iff_iff, beq_iff_eq, decide_eq_true_eq]
    exact eq_comm
  rw [this]
  rfl
theorem canon_map (t : List Nd) : t.map (canN (varsL t)) = canonL t := by
  unfold canonL canN
  apply List.map_congr_left
  intro n _
  rw [idx_eq]
def canTo (t : List Nd) (k : Nat) : List Nd := (t.take k).map (canN (varsL t)) ++ t.drop k
theorem canTo_len (t : List Nd) (k : Nat) : (canTo t k).length = t.length := by unfold canTo; rw [List.length_append, List.length_map, List.length_take, List.length_drop]; omega
theorem canTo_zero (t : List Nd) : canTo t 0 = t := by simp [canTo]
theorem canTo_end (t : List Nd) : canTo t t.length = canonL t := by rw [canTo, List.take_length, List.drop_length, List.append_nil, canon_map]
theorem canTo_step {t : List Nd} {k : Nat} {x : Nd} (h : t[k]? = some x) : canTo t (k + 1) = (t.take k).map (canN (varsL t)) ++ canN (varsL t) x :: t.drop (k + 1) ∧ canTo t k = (t.take k).map (canN (varsL t)) ++ x :: t.drop (k + 1) := by
  have hk := (List.getElem?_eq_some_iff.1 h)
  obtain ⟨hk, hx⟩ := hk
  refine ⟨?_, ?_⟩
  · unfold canTo
    rw [List.take_add_one, h, List.map_append]
    simp
  · unfold canTo
    rw [List.drop_eq_getElem_cons hk, hx]
theorem set_nd4 : ∀ (a : List Nd) (x y : Nd) (b : List Nd) (u : Value), nd4 y = (nd4 x).set 2 u → ((a ++ x :: b).flatMap nd4).set (a.length * 4 + 2) u = (a ++ y :: b).flatMap nd4
  | [], x, y, b, u, h => by
    rw [List.nil_append, List.nil_append, List.flatMap_cons, List.flatMap_cons, h, List.length_nil, Nat.zero_mul, Nat.zero_add]
    rfl
  | z :: a, x, y, b, u, h => by
    have := set_nd4 a x y b u h
    rw [List.cons_append, List.cons_append, List.flatMap_cons, List.flatMap_cons, ← this, List.length_cons, show (a.length + 1) * 4 + 2 = (a.length * 4 + 2) + 1 + 1 + 1 + 1 by omega]
    rfl
theorem vars_len (t : List Nd) : (varsL t).length ≤ t.length := by
  have := nodup_le (varsL t) (t.map Nd.num) (vars_nodup t) (fun v hv => by
    obtain ⟨n, hn, _, e⟩ := vars_mem.1 hv
    exact List.mem_map.2 ⟨n, hn, e⟩)
  rw [List.length_map] at this
  exact this
def canR (t : List Nd) : List Nd := if typB t then canonL t else []
theorem canon_any (t : List Nd) (v : Value) (T : Nat → Prop) (w : World) (hr : RdN T w v t) (lay : Lay w) :
    Calls Tryz.prog 48 #[v] w fun e w' => ∃ v', e = .returned v' ∧ RdN (fun k => w.heap.size ≤ k) w' v' (canR t) ∧ Chg (fun _ => False) w w' := by
  have HVA := hH (vars_any t v T w hr lay)
  have HTY := hH (fun W (hW : Chg (fun _ => False) w W) => check_any t v T W (hr.chg hW (fun _ _ _ => id)) (lay.chg hW (fun _ _ => id)))
  have htE : typE t = if typB t then 0 else 90 := rfl
  cases hty : typB t
  · rw [htE, hty] at HTY
    have hc : canR t = [] := by unfold canR; rw [hty]; rfl
    rw [hc]
    obtain ⟨A, c, rfl⟩ := hr.val
    clear hr lay htE hty hc
    go_enter Tryz.func48, Tryz.ntmps48
    go_wp2_with (first
      | (go_at_call 97; (with_reducible refine (uH HVA).mono ?_); rintro e w2 ⟨A2, c2, rfl, _, hc2⟩; have HC := hH hc2; clear hc2)
      | (go_at_call 98; (with_reducible refine (uH HTY _ (uH HC)).mono ?_); rintro e w3 ⟨rfl, hc3⟩; have HC3 := hH ((uH HC).trans' hc3); clear hc3))
    go_ret
    exact ⟨_, rfl, RdR.nil_ _ _ _ _, uH HC3⟩
  · rw [htE, hty] at HTY
    have hc : canR t = canonL t := by unfold canR; rw [hty]; rfl
    have hvr : varsR t = varsL t := by unfold varsR; rw [hty]; rfl
    rw [hc]
    rw [hvr] at HVA
    obtain ⟨h4, hw, _⟩ := typ_ok hty
    have hne := (whole_iff.1 hw).1
    have HCL := hH (fun W (hW : Chg (fun _ => False) w W) => clone_o t v T W (hr.chg hW (fun _ _ _ => id)) (by omega) hne)
    have HRL := hH (fun W (hW : Chg (fun _ => False) w W) => hr.chg hW (fun _ _ _ => id))
    have hvl : (varsL t).length ≤ t.length := vars_len t
    obtain ⟨A, c, rfl⟩ := hr.val
    clear hr lay htE hty hc hvr hw
    go_enter Tryz.func48, Tryz.ntmps48
    go_wp2_with (first
      | (go_at_call 97; (with_reducible refine (uH HVA).mono ?_); rintro e w2 ⟨A2, c2, rfl, hv2, hc2⟩; have HV := hH hv2.low; have HC := hH hc2; have HC2 := hH hc2; clear hc2 hv2)
      | (go_at_call 98; (with_reducible refine (uH HTY _ (uH HC)).mono ?_); rintro e w3 ⟨rfl, hc3⟩; have HC3 := hH ((uH HC).trans' hc3); have HV3 := hH ((uH HV).chg hc3 (fun _ _ _ => id)); have HZ3 := hH hc3.size; clear hc3)
      | (go_at_call 99; (with_reducible refine (uH HCL _ (uH HC3)).mono ?_); rintro e w4 ⟨v4, rfl, ho4, hc4⟩; (obtain ⟨g, cap, cur, hvv, hbg, hbk, hnc, hcm, hcs, htk⟩ := ho4.2.resolve_left (fun h => hne (List.eq_nil_of_length_eq_zero h.2))); (obtain rfl := hvv); have HBK := hH (show Blk w4 g 59 cur ∧ cur.toList.take (t.length * 4) = (canTo t 0).flatMap nd4 from ⟨hbk, by rw [canTo_zero]; exact htk⟩); have HC4 := hH ((uH HC3).trans' hc4); have HV4 := hH ((uH HV3).chg hc4 (fun _ _ _ => id)); have HG := hH (show w.heap.size ≤ g ∧ w2.heap.size ≤ g from ⟨Nat.le_trans (uH HC3).size hbg, Nat.le_trans (uH HZ3) hbg⟩); clear hc4 ho4 hbk htk hnc hcm hcs))
    go_loopw [16] (fun i wr => ∃ k : Nat, i = .int .i64 (k : Int) ∧ k ≤ t.length ∧ (∃ cs, Blk wr g 59 cs ∧ cs.toList.take (t.length * 4) = (canTo t k).flatMap nd4) ∧ Chg (fun b => b = g) w4 wr) (fun i _ => t.length - (intOf i).toNat)
    case atStart => exact ⟨0, rfl, Nat.zero_le _, ⟨cur, (uH HBK).1, (uH HBK).2⟩, Chg.refl _ _⟩
    case round =>
      obtain ⟨wq, rfl⟩ : ∃ wq : World, wq = wr := ⟨_, rfl⟩
      obtain ⟨k, rfl, hk, ⟨cs, hbk, htk⟩, hch⟩ := hrel
      have hcw : Chg (fun _ => False) w wq := (uH HC4).trans hch (fun i hi e => by have := (uH HG).1; omega)
      by_cases hlt : k < t.length
      · have hki : (k : Int) < (t.length : Int) := by omega
        have hx : t[k]? = some t[k] := List.getElem?_eq_getElem hlt
        generalize t[k] = x at *
        obtain ⟨hs1, hs2⟩ := canTo_step hx
        obtain ⟨b, o, c3, hv, _, hok, d0, d1, d2, d3⟩ := (uH HRL _ hcw).at_ hx
        injection hv with hv1 hv2 hv3
        subst hv1 hv3
        have hcl : t.length * 4 ≤ cs.toList.length := by
          have := congrArg List.length htk
          rw [List.length_take, nd4_len, canTo_len] at this
          omega
        have HCH := hH hch
        have HCW := hH hcw
        have HX := hH hx
        by_cases hk31 : x.kind = 31
        · have hgx : (canTo t k)[k]? = some x := by
            rw [hs2, List.getElem?_append_right (by rw [List.length_map, List.length_take]; omega), List.length_map, List.length_take, Nat.min_eq_left (by omega), Nat.sub_self]
            rfl
          have hcx : cs[k * 4 + 2]? = some (.int .i64 x.num) := by
            have h1 := flat_at nd4 4 (fun _ => rfl) (canTo t k) k 2 x hgx (by omega)
            rw [← htk, List.getElem?_take_of_lt (by omega), Array.getElem?_toList] at h1
            exact h1
          have hcn : nd4 (canN (varsL t) x) = (nd4 x).set 2 (.int .i64 (idxP (fun y => x.num == y) (varsL t))) := by unfold canN; rw [if_pos hk31]; rfl
          have hset : (cs.setIfInBounds (k * 4 + 2) (.int .i64 (idxP (fun y => x.num == y) (varsL t)))).toList.take (t.length * 4) = (canTo t (k + 1)).flatMap nd4 := by
            rw [Array.toList_setIfInBounds, List.take_set, htk, hs1, hs2]
            have hl : ((t.take k).map (canN (varsL t))).length = k := by rw [List.length_map, List.length_take]; omega
            have := set_nd4 ((t.take k).map (canN (varsL t))) x (canN (varsL t) x) (t.drop (k + 1)) _ hcn
            rw [hl] at this
            exact this
          have HIX := hH (fun W (hW : Chg (fun _ => False) (wq.alloc (.cells #[.int .i64 31, .string x.text, .int .i64 x.num, .int .i64 x.kids] 59)) W) => index_int (varsL t) A2 c2 x.num _ W ((((uH HV4).chg hch (fun b hb _ e => by have := (uH HG).2; have := hb.2; omega)).chg ((Chg.refl (fun _ => False) wq).alloc _) (fun _ _ _ => id)).chg hW (fun _ _ _ => id)) (by omega))
          have HBK2 := hH (hbk.alloc (.cells #[.int .i64 31, .string x.text, .int .i64 x.num, .int .i64 x.kids] 59))
          have HSET := hH hset
          have HCX := hH hcx
          generalize idxP (fun y => x.num == y) (varsL t) = R9 at *
          clear hch hcw hx hv2 hs1 hs2 hcn hbk htk hset hgx hcx
          go_wp2_with (go_at_call 100; (with_reducible refine (uH HIX _ (Chg.refl _ _)).mono ?_); rintro e w5 ⟨rfl, hc5⟩; have hb5 := (uH HBK2).chg hc5 id; have f0 := hb5.frozen (k * 4 + 2); have q0 := (hb5.cell (k * 4 + 2)).trans (uH HCX); have HB5 := hH hb5; have HC5 := hH (((uH HCH).alloc (.cells #[.int .i64 31, .string x.text, .int .i64 x.num, .int .i64 x.kids] 59)).trans hc5 (fun _ _ e => e.elim)); clear hb5 hc5)
          go_roundw
          case rel => exact ⟨k + 1, by go_num, by omega, ⟨_, (uH HB5).set_ (k * 4 + 2) _, uH HSET⟩, (uH HC5).setCell (fun _ => rfl) _⟩
          case measure => simp [intOf]; omega
        · have hcn : canN (varsL t) x = x := by unfold canN; rw [if_neg hk31]
          have hse : canTo t (k + 1) = canTo t k := by rw [hs1, hs2, hcn]
          have HBK2 := hH hbk
          have HTK2 := hH (show cs.toList.take (t.length * 4) = (canTo t (k + 1)).flatMap nd4 from by rw [hse]; exact htk)
          clear hch hcw hx hv2 hs1 hs2 hcn hse hbk htk
          go_wp2_with fail
          go_roundw
          case rel => exact ⟨k + 1, by go_num, by omega, ⟨cs, (uH HBK2).alloc _, uH HTK2⟩, (uH HCH).alloc _⟩
          case measure => simp [intOf]; omega
      · obtain rfl : k = t.length := by omega
        have hki : ¬ (t.length : Int) < (t.length : Int) := by omega
        rw [canTo_end] at htk
        have HB := hH hbk
        have HTK := hH htk
        have HCW := hH hcw
        clear hch hcw hbk htk
        go_wp2_with fail
        go_ret
        have hcl2 : (canonL t).length = t.length := by unfold canonL; rw [List.length_map]
        have hrd : Rd (· = g) wq (some ⟨g, 0, none⟩) ((canonL t).flatMap nd4) := Rd.blk (uH HB) (fun j u hu => by
          rw [← uH HTK] at hu
          have hj := (List.getElem?_eq_some_iff.1 hu).1
          rw [List.length_take] at hj
          rw [List.getElem?_take_of_lt (by omega), Array.getElem?_toList] at hu
          exact hu)
        have hmk := RdN.mk (c := cap) hrd (fun n hn => by
          unfold canonL at hn
          obtain ⟨m, hm, rfl⟩ := List.mem_map.1 hn
          have hok := (uH HRL _ (Chg.refl _ _)).oks m hm
          show (if m.kind = 31 then _ else m).text.size ≤ _
          split <;> exact hok) (by omega)
        rw [hcl2] at hmk
        exact ⟨_, rfl, hmk.mono (fun b hb => by rw [hb]; exact (uH HG).1), uH HCW⟩
end Go.Proofs.YtinekmjengckdaaGreatDoor
