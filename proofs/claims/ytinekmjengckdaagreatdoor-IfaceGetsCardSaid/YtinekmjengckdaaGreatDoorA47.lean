/-
  Layers 9 and 10, the document's side: the variables of a type; whether a text may be a name. Layer 10, the document's side: may a declaration be, by itself? Layer 10, the document's side: all constructors' names; is a type declared? Layer 10, the document's side: what the check of declarations answers.
-/
import Derived.Test.YtinekmjengckdaaGreatDoorA08
import Derived.Test.YtinekmjengckdaaGreatDoorA06
import Derived.Test.YtinekmjengckdaaGreatDoorA13
import Derived.Test.YtinekmjengckdaaGreatDoorA11
import Derived.Test.YtinekmjengckdaaGreatDoorA46
import Derived.Test.YtinekmjengckdaaGreatDoorA14
import Derived.Test.YtinekmjengckdaaGreatDoorA28
namespace Go.Proofs.YtinekmjengckdaaGreatDoor
open Go.RowKit
set_option maxHeartbeats 4000000
set_option maxRecDepth 100000
theorem refNamed_any (s : ByteArray) (w : World) (hs : s.size ≤ 9223372036854775807) : Calls Tryz.prog 90 #[.string s] w fun e w' => e = .returned (.bool (nameB 2 s)) ∧ Chg (fun _ => False) w w' := by
  have HR := hH (refRight_con s w hs)
  go_enter Tryz.func90, Tryz.ntmps90
  go_wp2_with (go_at_call 92; (with_reducible refine (uH HR).mono ?_); rintro e w2 ⟨rfl, hc2⟩; have HC2 := hH hc2; clear hc2)
  go_ret
  exact ⟨rfl, uH HC2⟩
theorem place_any (l : List Int) (A : Option Addr) (c : Nat) (x : Int) (T : Nat → Prop) (w : World) (hr : Rd T w A (l.map intl)) (hn : l.length ≤ 1000000) :
    Calls Tryz.prog 94 #[.slice A l.length c, .int .i64 x] w fun e w' => ∃ r : Int, e = .returned (.int .i64 r) ∧ (r < 0 ↔ x ∉ l) ∧ Chg (fun _ => False) w w' := by
  have HR := hH hr
  clear hr
  go_enter Tryz.func94, Tryz.ntmps94
  go_wp2_with fail
  go_loopw [5] (fun t wr => ∃ k : Nat, t = .int .i64 (k : Int) ∧ k ≤ l.length ∧ (∀ (j : Nat) (y : Int), j < k → l[j]? = some y → y ≠ x) ∧ Chg (fun _ => False) w wr) (fun t _ => l.length - (intOf t).toNat)
  case atStart => exact ⟨0, rfl, Nat.zero_le _, fun j y h => absurd h (Nat.not_lt_zero _), Chg.refl _ _⟩
  case round =>
    obtain ⟨wq, rfl⟩ : ∃ wq : World, wq = wr := ⟨_, rfl⟩
    obtain ⟨k, rfl, hk, hall, hch⟩ := hrel
    have HALL := hH hall
    have HCH := hH hch
    by_cases hlt : k < l.length
    · have hki : (k : Int) < (l.length : Int) := by omega
      have hx : l[k]? = some l[k] := List.getElem?_eq_getElem hlt
      generalize l[k] = y at *
      have hne : l.map intl ≠ [] := by
        intro e
        have := congrArg List.length e
        simp at this
        rw [this] at hlt
        simp at hlt
      obtain ⟨b, o, rfl, _, hc⟩ := ((uH HR).chg hch (fun _ _ _ => id)).flat hne
      have c0 : wq.cell? ⟨b, o + k, none⟩ = some (.int .i64 y) := hc k _ (by rw [List.getElem?_map, hx]; rfl)
      have HX := hH hx
      clear hc hne hall hch hx
      by_cases hy : y = x
      · subst hy
        have HM := hH (show y ∈ l from List.mem_of_getElem? (uH HX))
        go_wp2_with fail
        go_ret
        exact ⟨(k : Int), rfl, ⟨fun h => absurd h (by omega), fun h => absurd (uH HM) h⟩, uH HCH⟩
      · have hyb : (y == x) = false := by rw [beq_eq_false_iff_ne]; exact hy
        have HY := hH hy
        clear hy
        go_wp2_with fail
        go_roundw
        case rel => exact ⟨k + 1, by go_num, by omega, fun j z hj hz => by
          rcases Nat.lt_or_ge j k with h | h
          · exact (uH HALL) j z h hz
          · obtain rfl : j = k := by omega
            have := (uH HX).symm.trans hz
            injection this with this
            subst this
            exact uH HY, uH HCH⟩
        case measure => simp [intOf]; omega
    · obtain rfl : k = l.length := by omega
      have hki : ¬ (l.length : Int) < (l.length : Int) := by omega
      clear hall hch
      go_wp2_with fail
      go_ret
      exact ⟨-1, rfl, ⟨fun _ hm => by
        obtain ⟨j, hj⟩ := List.mem_iff_getElem?.1 hm
        exact (uH HALL) j x (List.getElem?_eq_some_iff.1 hj).1 hj rfl, fun _ => by omega⟩, uH HCH⟩
theorem refVars_any (l : List Nd) (v : Value) (T : Nat → Prop) (w : World) (hr : RdN T w v l) (h4 : l.length ≤ 4000) :
    Calls Tryz.prog 93 #[v] w fun e w' => ∃ A c, e = .returned (.slice A (varsL l).length c) ∧ Rd (fun k => w.heap.size ≤ k) w' A ((varsL l).map intl) ∧ Chg (fun _ => False) w w' := by
  obtain ⟨A, c, rfl⟩ := hr.val
  obtain ⟨i3, hi3, hz3', hs3, hb3⟩ := info_parts info3
  have HR := hH hr
  have HV2 := hH (show varsL l = varsL l from rfl)
  generalize hRR : varsL l = R at *
  have HO0 := hH (own_start (base := w.heap.size) (size := 1) (Blk.new w 3 #[]) (Nat.le_refl _))
  have HC0 := hH ((Chg.refl (fun _ => False) w).alloc (.cells #[] 3))
  have HRR := hH hRR
  clear hr HV2 hRR
  go_enter Tryz.func93, Tryz.ntmps93
  go_upto_region 3 with fail
  go_loopw [3, 4] (fun out i wr => ∃ k : Nat, i = .int .i64 (k : Int) ∧ k ≤ l.length ∧ wr.ownsRow w.heap.size 3 1 out (varsL (l.take k)).length ((varsL (l.take k)).map intl) ∧ Chg (fun _ => False) w wr) (fun _ i _ => l.length - (intOf i).toNat)
  case atStart => exact ⟨0, rfl, Nat.zero_le _, uH HO0, uH HC0⟩
  case round =>
    clear HO0 HC0
    obtain ⟨wq, rfl⟩ : ∃ wq : World, wq = wr := ⟨_, rfl⟩
    obtain ⟨k, rfl, hk, hown, hch⟩ := hrel
    obtain ⟨B, c5, rfl⟩ := own_val hown
    by_cases hlt : k < l.length
    · have hki : (k : Int) < (l.length : Int) := by omega
      have hx : l[k]? = some l[k] := List.getElem?_eq_getElem hlt
      have hsn : varsL (l.take (k + 1)) = if l[k].kind = 31 ∧ l[k].num ∉ varsL (l.take k) then varsL (l.take k) ++ [l[k].num] else varsL (l.take k) := by
        rw [List.take_succ_eq_append_getElem hlt]
        exact varsG_snoc _ _ _
      have hvl : (varsL (l.take k)).length ≤ 4000 := by
        have := varsG_len (l.take k) []
        rw [List.length_take, List.length_nil] at this
        unfold varsL
        omega
      generalize l[k] = x at *
      obtain ⟨b, o, c2, hv, _, _, c0, c1, c3, c4⟩ := ((uH HR).chg hch (fun _ _ _ => id)).at_ hx
      injection hv with hv1 hv2 hv3
      subst hv1 hv3
      clear hv2
      have HOWN := hH hown
      have HCH := hH hch
      have HSN := hH hsn
      generalize hvv : varsL (l.take k) = V at *
      have HK := hH (fun W (hW : Chg (fun _ => False) wq W) => (hW.cell (World.block_lt_of_cell? wq _ c3) id).trans c3)
      have HD := hH (place_any V B c5 x.num _ wq (own_rd hown (by omega)) (by omega))
      clear hown hch hsn hx hvv c1 c4
      by_cases hkd : x.kind = 31
      · rw [hkd] at c0
        by_cases hm : x.num ∈ V
        · have HS2 := hH (show varsL (l.take (k + 1)) = V from by rw [uH HSN, if_neg (fun h => h.2 hm)])
          have HM := hH hm
          clear hm hkd
          go_wp2_with (go_at_call 94; (with_reducible refine (uH HD).mono ?_); rintro e w4 ⟨r, rfl, hr4, hc4⟩; have hrn : decide (r < 0) = false := (decide_eq_false (fun h => (hr4.1 h) (uH HM))); have hrm : ¬ r < 0 := (fun h => (hr4.1 h) (uH HM)); clear hr4; have HC4 := hH hc4; clear hc4)
          go_roundw
          case rel => exact ⟨k + 1, by go_num, by omega, by rw [uH HS2]; exact own_chg (uH HOWN) (uH HC4) (fun _ _ h => h), (uH HCH).trans' (uH HC4)⟩
          case measure => simp [intOf]; omega
        · have HS2 := hH (show varsL (l.take (k + 1)) = V ++ [x.num] from by rw [uH HSN, if_pos ⟨hkd, hm⟩])
          have HM := hH hm
          have hm1 : V.length + 1 ≤ maxLen := by simp only [maxLen]; omega
          have hm2 : (V.length + 1) * 8 ≤ 140737488355328 := by omega
          have ho1 : ∀ u ∈ [intl x.num], u.oneCell' = true := by intro u hu; simp at hu; subst hu; rfl
          have HRN := hH (fun W : World => (rd_new W W.heap.size 3 [intl x.num] rfl).mono (T' := fun _ => True) (fun _ _ => trivial))
          clear hm hkd
          go_wp2_with (first
            | (go_at_call 94; (with_reducible refine (uH HD).mono ?_); rintro e w4 ⟨r, rfl, hr4, hc4⟩; have hrn : decide (r < 0) = true := (decide_eq_true (hr4.2 (uH HM))); have hrm : r < 0 := hr4.2 (uH HM); have c6 := uH HK _ hc4; clear hr4; have HC4 := hH hc4; have HO4 := hH (own_chg (uH HOWN) hc4 (fun _ _ h => h)); (have hb4 : w.heap.size ≤ (w4.alloc (.cells #[.int .i64 x.num] 3)).heap.size := ((uH HCH).trans' (hc4.alloc (.cells #[.int .i64 x.num] 3))).size); clear hc4)
            | (at_builtin
               refine wpList_append_rd _ rfl (.tmp 28) (.tmp 34) 139 rfl w.heap.size 3 i3 (.int .i64 0) 1 8 Tryz.underlying139 hi3 hz3' hs3 hb3 rfl (Nat.succ_pos 0) _ V.length _ rfl ((uH HO4).alloc _) (fun _ => True) (some ⟨w4.heap.size, 0, none⟩) 1 1 [intl x.num] rfl rfl ((uH HRN) w4) ho1 hm1 hm2 hb4 ?_
               intro v5 w5 ho5 hc5 hat
               have HO5 := hH ho5
               have HC5 := hH (((uH HCH).trans' (uH HC4)).trans (((Chg.refl (fun k => (Value.slice B V.length c5).ownBlock = some k) w4).alloc (.cells #[.int .i64 x.num] 3)).trans hc5 (fun _ _ h => h)) (fun i hi e => by have := ((uH HO4).lt i e).1; omega))
               clear ho5 hc5 hat))
          go_roundw
          case rel =>
            refine ⟨k + 1, by go_num, by omega, ?_, uH HC5⟩
            rw [uH HS2, List.map_append, List.length_append]
            exact uH HO5
          case measure => simp [intOf]; omega
      · have HS2 := hH (show varsL (l.take (k + 1)) = V from by rw [uH HSN, if_neg (fun h => hkd h.1)])
        have hkf : (x.kind == 31) = false := beq_eq_false_iff_ne.2 hkd
        clear hkd
        go_wp2_with fail
        go_roundw
        case rel => exact ⟨k + 1, by go_num, by omega, by rw [uH HS2]; exact uH HOWN, uH HCH⟩
        case measure => simp [intOf]; omega
    · obtain rfl : k = l.length := by omega
      have hki : ¬ (l.length : Int) < (l.length : Int) := by omega
      have HOWN := hH hown
      have HCH := hH hch
      have ht : varsL (l.take l.length) = R := by rw [List.take_length]; exact uH HRR
      have HT := hH ht
      clear hown hch ht
      go_wp2_with fail
      go_ret
      have hT := uH HT
      have hO := uH HOWN
      rw [hT] at hO
      exact ⟨B, ⟨c5, by rw [← hT, List.take_length]; rfl⟩, (own_rd hO (by omega)).mono (fun k hk => (hO.lt k hk).1), uH HCH⟩
end Go.Proofs.YtinekmjengckdaaGreatDoor

namespace Go.Proofs.YtinekmjengckdaaGreatDoor
open Go.RowKit
set_option maxHeartbeats 4000000
set_option maxRecDepth 100000
theorem dtB_bad {d : Dt} {k : Nat} {x : Ct} (hx : d.cons[k]? = some x) (h : ctB d.params x = false) : dtB d = false := by
  unfold dtB
  have : d.cons.all (ctB d.params) = false := List.all_eq_false.2 ⟨x, List.mem_of_getElem? hx, by rw [h]; simp⟩
  rw [this, Bool.and_false]
theorem ctB_bad {p : Int} {c : Ct} {k : Nat} {t : List Nd} (hx : c.args[k]? = some t) (h : argB p t = false) : ctB p c = false := by
  unfold ctB
  have : c.args.all (argB p) = false := List.all_eq_false.2 ⟨t, List.mem_of_getElem? hx, by rw [h]; simp⟩
  rw [this, Bool.and_false]
theorem argB_bad {p : Int} {t : List Nd} {k : Nat} {v : Int} (hx : (varsL t)[k]? = some v) (h : p ≤ v) : argB p t = false := by
  unfold argB
  have : ((varsL t).all fun v => decide (v < p)) = false := List.all_eq_false.2 ⟨v, List.mem_of_getElem? hx, by simp; omega⟩
  rw [this, Bool.and_false]
theorem argB_typ {p : Int} {t : List Nd} (h : typB t = false) : argB p t = false := by unfold argB; rw [h]; rfl
theorem argB_good {p : Int} {t : List Nd} (h : typB t = true) (hv : ∀ (j : Nat) (v : Int), j < (varsL t).length → (varsL t)[j]? = some v → v < p) : argB p t = true := by
  unfold argB
  rw [h, Bool.true_and, List.all_eq_true]
  intro v hm
  obtain ⟨j, hj⟩ := List.mem_iff_getElem?.1 hm
  exact decide_eq_true (hv j v (List.getElem?_eq_some_iff.1 hj).1 hj)
theorem ctB_good {p : Int} {c : Ct} (hn : nameB 2 c.name = true) (h8 : c.args.length ≤ 8) (h : ∀ (j : Nat) (t : List Nd), j < c.args.length → c.args[j]? = some t → argB p t = true) : ctB p c = true := by
  unfold ctB
  rw [hn, decide_eq_true h8, Bool.true_and, Bool.true_and, List.all_eq_true]
  intro t ht
  obtain ⟨j, hj⟩ := List.mem_iff_getElem?.1 ht
  exact h j t (List.getElem?_eq_some_iff.1 hj).1 hj
theorem dtB_good {d : Dt} (hn : nameB 2 d.name = true) (h0 : 0 ≤ d.params) (h8 : d.params ≤ 8) (h1 : 1 ≤ d.cons.length) (h60 : d.cons.length ≤ 60) (h : ∀ (j : Nat) (c : Ct), j < d.cons.length → d.cons[j]? = some c → ctB d.params c = true) : dtB d = true := by
  unfold dtB
  rw [hn, decide_eq_true h0, decide_eq_true h8, decide_eq_true h1, decide_eq_true h60]
  simp only [Bool.true_and, List.all_eq_true]
  intro c hc
  obtain ⟨j, hj⟩ := List.mem_iff_getElem?.1 hc
  exact h j c (List.getElem?_eq_some_iff.1 hj).1 hj
theorem varsL_len (l : List Nd) : (varsL l).length ≤ l.length := by have := varsG_len l []; unfold varsL; simpa using this
theorem refDt_any (d : Dt) (u : Value) (T : Nat → Prop) (w : World) (hr : RdC T w u d.cons) (hs : d.name.size ≤ 9223372036854775807) :
    Calls Tryz.prog 88 #[.agg #[.string d.name, .int .i64 d.params, u]] w fun e w' => e = .returned (.bool (dtB d)) ∧ Chg (fun _ => False) w w' := by
  obtain ⟨B, cc, rfl⟩ := hr.val
  have b0 := Blk.new w 70 #[.string d.name, .int .i64 d.params, .slice B d.cons.length cc]
  have c0 : Chg (fun _ => False) w (w.alloc (.cells #[.string d.name, .int .i64 d.params, .slice B d.cons.length cc] 70)) := (Chg.refl _ w).alloc _
  have hr1 := hr.chg c0 (fun _ _ _ => id)
  have z0 := b0.cell 0
  have z1 := b0.cell 1
  have z2 := b0.cell 2
  simp only [List.getElem?_toArray, List.getElem?_cons_zero, List.getElem?_cons_succ] at z0 z1 z2
  have HC0 := hH c0
  clear hr c0
  go_enter Tryz.func88, Tryz.ntmps88
  go_upto_region 1 with fail
  generalize (w.alloc (.cells #[.string d.name, .int .i64 d.params, .slice B d.cons.length cc] 70)) = w1 at *
  generalize w.heap.size = nb at *
  have HN := hH (refNamed_any d.name w1 hs)
  have HR := hH hr1
  have HBK := hH b0
  clear hr1 b0
  have HDB := hH (fun k x => dtB_bad (d := d) (k := k) (x := x))
  have HDG := hH (dtB_good (d := d))
  have HKS := hH (fun W (hW : Chg (fun _ => False) w1 W) => show W.cell? ⟨nb, 0, none⟩ = some (.string d.name) ∧ W.cell? ⟨nb, 1, none⟩ = some (.int .i64 d.params) ∧ W.cell? ⟨nb, 2, none⟩ = some (.slice B d.cons.length cc) from by
    have h := (uH HBK).chg hW id
    exact ⟨h.cell 0, h.cell 1, h.cell 2⟩)
  cases hnm : nameB 2 d.name with
  | false =>
    rw [hnm] at HN
    have hE : dtB d = false := by unfold dtB; rw [hnm]; rfl
    have HE := hH hE
    clear hE
    clear HDG HDB
    go_wp2_with (go_at_call 90; (with_reducible refine (uH HN).mono ?_); rintro e w2 ⟨rfl, hch⟩; have HC := hH hch; obtain ⟨y0, y1, y2⟩ := uH HKS _ hch; clear hch)
    go_ret
    exact ⟨retv (boolv (uH HE).symm), (uH HC0).trans' (uH HC)⟩
  | true =>
  rw [hnm] at HN
  have HNM := hH hnm
  clear hnm
  by_cases hp0 : d.params < 0
  · have hpd : decide (d.params < 0) = true := decide_eq_true hp0
    have hE : dtB d = false := by
      unfold dtB
      have : ¬ 0 ≤ d.params := by omega
      simp [this]
    have HE := hH hE
    clear hE
    clear HDG HDB
    go_wp2_with (go_at_call 90; (with_reducible refine (uH HN).mono ?_); rintro e w2 ⟨rfl, hch⟩; have HC := hH hch; obtain ⟨y0, y1, y2⟩ := uH HKS _ hch; clear hch)
    go_ret
    exact ⟨retv (boolv (uH HE).symm), (uH HC0).trans' (uH HC)⟩
  have hpd : decide (d.params < 0) = false := decide_eq_false hp0
  by_cases hp8 : 8 < d.params
  · have hpe : decide (8 < d.params) = true := decide_eq_true hp8
    have hE : dtB d = false := by
      unfold dtB
      have : ¬ d.params ≤ 8 := by omega
      simp [this]
    have HE := hH hE
    clear hE
    clear HDG HDB
    go_wp2_with (go_at_call 90; (with_reducible refine (uH HN).mono ?_); rintro e w2 ⟨rfl, hch⟩; have HC := hH hch; obtain ⟨y0, y1, y2⟩ := uH HKS _ hch; clear hch)
    go_ret
    exact ⟨retv (boolv (uH HE).symm), (uH HC0).trans' (uH HC)⟩
  have hpe : decide (8 < d.params) = false := decide_eq_false hp8
  by_cases hc1 : d.cons.length < 1
  · have hci : decide ((d.cons.length : Int) < 1) = true := decide_eq_true (by omega)
    have hcj : (d.cons.length : Int) < 1 := by omega
    have hE : dtB d = false := by
      unfold dtB
      have : ¬ 1 ≤ d.cons.length := by omega
      simp [this]
    have HE := hH hE
    clear hE
    have hnil : d.cons = [] := List.eq_nil_of_length_eq_zero (by omega)
    clear HDG HDB
    go_wp2_with (go_at_call 90; (with_reducible refine (uH HN).mono ?_); rintro e w2 ⟨rfl, hch⟩; have HC := hH hch; obtain ⟨y0, y1, y2⟩ := uH HKS _ hch; clear hch)
    go_ret
    exact ⟨retv (boolv (uH HE).symm), (uH HC0).trans' (uH HC)⟩
  have hci : decide ((d.cons.length : Int) < 1) = false := decide_eq_false (by omega)
  have hcj : ¬ (d.cons.length : Int) < 1 := by omega
  have hck : ¬ d.cons = [] := by intro e; rw [e] at hc1; simp at hc1
  by_cases h60 : 60 < d.cons.length
  · have h60i : decide ((60 : Int) < (d.cons.length : Int)) = true := decide_eq_true (by omega)
    have h60j : (60 : Int) < (d.cons.length : Int) := by omega
    have hE : dtB d = false := by
      unfold dtB
      have : ¬ d.cons.length ≤ 60 := by omega
      simp [this]
    have HE := hH hE
    clear hE
    clear HDG HDB
    go_wp2_with (go_at_call 90; (with_reducible refine (uH HN).mono ?_); rintro e w2 ⟨rfl, hch⟩; have HC := hH hch; obtain ⟨y0, y1, y2⟩ := uH HKS _ hch; clear hch)
    go_ret
    exact ⟨retv (boolv (uH HE).symm), (uH HC0).trans' (uH HC)⟩
  have h60i : decide ((60 : Int) < (d.cons.length : Int)) = false := decide_eq_false (by omega)
  have h60j : ¬ (60 : Int) < (d.cons.length : Int) := by omega
  have HG2 := hH (fun h => (uH HDG) (uH HNM) (by omega) (by omega) (by omega) (by omega) h)
  clear HDG
  go_wp2_with (go_at_call 90; (with_reducible refine (uH HN).mono ?_); rintro e w2 ⟨rfl, hch⟩; have HC := hH hch; obtain ⟨y0, y1, y2⟩ := uH HKS _ hch; clear hch)
  go_loopw [3] (fun t wr => ∃ k : Nat, t = .int .i64 (k : Int) ∧ k ≤ d.cons.length ∧ (∀ j c, j < k → d.cons[j]? = some c → ctB d.params c = true) ∧ Chg (fun _ => False) w1 wr) (fun t _ => d.cons.length - (intOf t).toNat)
  case atStart => exact ⟨0, rfl, Nat.zero_le _, fun j _ h => absurd h (Nat.not_lt_zero _), uH HC⟩
  case round =>
    clear y0 y1 y2 HC z0 z1 z2 hpd hpe hci hcj h60i h60j HN
    obtain ⟨wq, rfl⟩ : ∃ wq : World, wq = wr := ⟨_, rfl⟩
    obtain ⟨k, rfl, hk, hall, hch⟩ := hrel
    obtain ⟨y0, y1, y2⟩ := uH HKS _ hch
    by_cases hlt : k < d.cons.length
    · have hki : (k : Int) < (d.cons.length : Int) := by omega
      have hx : d.cons[k]? = some d.cons[k] := List.getElem?_eq_getElem hlt
      generalize d.cons[k] = x at *
      obtain ⟨b, o, c2, u, hv, _, hru, hns, c0, c1⟩ := ((uH HR).chg hch (fun _ _ _ => id)).at_ hx
      injection hv with hv1 hv2 hv3
      subst hv1 hv3
      have hcb := hru.big
      obtain ⟨B2, c6, rfl⟩ := hru.val
      have HX := hH hx
      have HALL := hH hall
      have HCH := hH hch
      have HRU := hH hru
      clear hx hall hch hru hv2
      go_upto_region 7 with fail
      have bk := Blk.new wq 64 #[.string x.name, .slice B2 x.args.length c6]
      have hc3 : Chg (fun _ => False) wq (wq.alloc (.cells #[.string x.name, .slice B2 x.args.length c6] 64)) := (Chg.refl _ wq).alloc _
      generalize (wq.alloc (.cells #[.string x.name, .slice B2 x.args.length c6] 64)) = w3 at *
      generalize wq.heap.size = nb2 at *
      have u0 := bk.cell 0
      have u1 := bk.cell 1
      simp only [List.getElem?_toArray, List.getElem?_cons_zero, List.getElem?_cons_succ] at u0 u1
      have HRV := hH ((uH HRU).chg hc3 (fun _ _ _ => id))
      have HC13 := hH ((uH HCH).trans' hc3)
      have HKT := hH (fun W (hW : Chg (fun _ => False) w3 W) => show W.cell? ⟨nb2, 0, none⟩ = some (.string x.name) ∧ W.cell? ⟨nb2, 1, none⟩ = some (.slice B2 x.args.length c6) from by
        have h := bk.chg hW id
        exact ⟨h.cell 0, h.cell 1⟩)
      have HN3 := hH (refNamed_any x.name w3 hns)
      have HDX := hH (uH HDB k x (uH HX))
      clear bk hc3 HCH HRU y0 y1 y2 c0 c1
      cases hnm : nameB 2 x.name with
      | false =>
        rw [hnm] at HN3
        have HE := hH (uH HDX (by unfold ctB; rw [hnm]; rfl))
        clear HDX HDB HG2
        go_wp2_with (go_at_call 90; (with_reducible refine (uH HN3).mono ?_); rintro e w4 ⟨rfl, hc4⟩; have HC4 := hH hc4; obtain ⟨u0, u1⟩ := uH HKT _ hc4; clear hc4)
        go_ret
        exact ⟨retv (boolv (uH HE).symm), (uH HC0).trans' ((uH HC13).trans' (uH HC4))⟩
      | true =>
      rw [hnm] at HN3
      have HNX := hH hnm
      clear hnm
      by_cases ha8 : 8 < x.args.length
      · have ha8i : decide ((8 : Int) < (x.args.length : Int)) = true := decide_eq_true (by omega)
        have ha8j : (8 : Int) < (x.args.length : Int) := by omega
        have HE := hH (uH HDX (by
          unfold ctB
          have : ¬ x.args.length ≤ 8 := by omega
          simp [this]))
        clear HDX HDB HG2
        go_wp2_with (go_at_call 90; (with_reducible refine (uH HN3).mono ?_); rintro e w4 ⟨rfl, hc4⟩; have HC4 := hH hc4; obtain ⟨u0, u1⟩ := uH HKT _ hc4; clear hc4)
        go_ret
        exact ⟨retv (boolv (uH HE).symm), (uH HC0).trans' ((uH HC13).trans' (uH HC4))⟩
      have ha8i : decide ((8 : Int) < (x.args.length : Int)) = false := decide_eq_false (by omega)
      have ha8j : ¬ (8 : Int) < (x.args.length : Int) := by omega
      have HCG := hH (fun h => ctB_good (p := d.params) (uH HNX) (by omega) h)
      go_wp2_with (go_at_call 90; (with_reducible refine (uH HN3).mono ?_); rintro e w4 ⟨rfl, hc4⟩; have HC4 := hH hc4; obtain ⟨u0, u1⟩ := uH HKT _ hc4; clear hc4)
      go_loopw [5] (fun t wr => ∃ m : Nat, t = .int .i64 (m : Int) ∧ m ≤ x.args.length ∧ (∀ j t, j < m → x.args[j]? = some t → argB d.params t = true) ∧ Chg (fun _ => False) w3 wr) (fun t _ => x.args.length - (intOf t).toNat)
      case atStart => exact ⟨0, rfl, Nat.zero_le _, fun j _ h => absurd h (Nat.not_lt_zero _), uH HC4⟩
      case round =>
        clear u0 u1 HC4 HN3 ha8i ha8j
        obtain ⟨wz, rfl⟩ : ∃ wz : World, wz = wr := ⟨_, rfl⟩
        obtain ⟨m, rfl, hm, hall, hch⟩ := hrel
        obtain ⟨u0, u1⟩ := uH HKT _ hch
        by_cases hlm : m < x.args.length
        · have hmk : (m : Int) < (x.args.length : Int) := by omega
          have hw : x.args[m]? = some x.args[m] := List.getElem?_eq_getElem hlm
          generalize x.args[m] = t at *
          obtain ⟨b3, o3, c7, u3, hv, _, hrt, f0⟩ := ((uH HRV).chg hch (fun _ _ _ => id)).at_ hw
          injection hv with hv1 hv2 hv3
          subst hv1 hv3
          obtain ⟨B3, c9, rfl⟩ := hrt.val
          have HRG := hH (refRight_t t _ _ wz hrt)
          have HW := hH hw
          have HALL2 := hH hall
          have HCZ := hH hch
          have HDT := hH (fun (h : argB d.params t = false) => uH HDX (ctB_bad hw h))
          have HRT := hH hrt
          have hU1 := World.block_lt_of_cell? wz _ u1
          have hF0 := World.block_lt_of_cell? wz _ f0
          have HKM := hH (fun W (hW : Chg (fun _ => False) wz W) => show W.cell? ⟨nb2, 1, none⟩ = some (.slice (some ⟨b3, o3, none⟩) x.args.length c6) ∧ W.cell? ⟨b3, o3 + m, none⟩ = some (.slice B3 t.length c9) from ⟨(hW.cell hU1 id).trans u1, (hW.cell hF0 id).trans f0⟩)
          clear hw hall hch hrt hv2 hU1 hF0
          cases hty : typB t with
          | false =>
            rw [hty] at HRG
            have HE := hH (uH HDT (argB_typ hty))
            clear HDX HDB HG2 HDT HCG
            go_wp2_with (go_at_call 86; (with_reducible refine (uH HRG).mono ?_); rintro e w5 ⟨rfl, hc5⟩; have HC5 := hH hc5; obtain ⟨x1, x2⟩ := uH HKM _ hc5; clear hc5)
            go_ret
            exact ⟨retv (boolv (uH HE).symm), (uH HC0).trans' ((uH HC13).trans' ((uH HCZ).trans' (uH HC5)))⟩
          | true =>
          rw [hty] at HRG
          have h4 : t.length ≤ 4000 := by
            unfold typB at hty
            simp only [Bool.and_eq_true, decide_eq_true_eq] at hty
            exact hty.1.1
          have htl := varsL_len t
          obtain ⟨R, hR⟩ : ∃ R, R = varsL t := ⟨_, rfl⟩
          rw [← hR] at htl
          have hR4 : R.length ≤ 4000 := by omega
          have HVA := hH (fun W (hW : Chg (fun _ => False) wz W) => show Calls Tryz.prog 93 #[.slice B3 t.length c9] W fun e w' => ∃ A c, e = .returned (.slice A R.length c) ∧ Rd (fun k => W.heap.size ≤ k) w' A (R.map intl) ∧ Chg (fun _ => False) W w' from by
            rw [hR]
            exact refVars_any t _ _ W ((uH HRT).chg hW (fun _ _ _ => id)) h4)
          have HAB := hH (fun (j : Nat) (v : Int) (hx : R[j]? = some v) (hv : d.params ≤ v) => uH HDT (argB_bad (hR ▸ hx) hv))
          have HAG := hH (fun (hv : ∀ (j : Nat) (v : Int), j < R.length → R[j]? = some v → v < d.params) => argB_good (p := d.params) hty (by rw [← hR]; exact hv))
          clear htl hR hty h4 HRT HDT
          go_wp2_with (first | (go_at_call 86; (with_reducible refine (uH HRG).mono ?_); rintro e w5 ⟨rfl, hc5⟩; have HC5 := hH hc5; obtain ⟨x1, x2⟩ := uH HKM _ hc5; clear hc5) | (go_at_call 93; (with_reducible refine (uH HVA _ (uH HC5)).mono ?_); rintro e w6 ⟨A6, c6', rfl, hr6, hc6⟩; have HC6 := hH ((uH HC5).trans' hc6); have HR6 := hH hr6; clear hc6 hr6))
          go_loopw [7] (fun t wr => ∃ q : Nat, t = .int .i64 (q : Int) ∧ q ≤ R.length ∧ (∀ (j : Nat) (v : Int), j < q → R[j]? = some v → v < d.params) ∧ Chg (fun _ => False) w6 wr) (fun t _ => R.length - (intOf t).toNat)
          case atStart => exact ⟨0, rfl, Nat.zero_le _, fun j _ h => absurd h (Nat.not_lt_zero _), Chg.refl _ _⟩
          case round =>
            clear u0 u1 f0 x1 x2 HRG HVA HC5 HKM
            obtain ⟨wu, rfl⟩ : ∃ wu : World, wu = wr := ⟨_, rfl⟩
            obtain ⟨q, rfl, hq, hall, hch⟩ := hrel
            have HCU := hH ((uH HCZ).trans' ((uH HC6).trans' hch))
            obtain ⟨_, y1, _⟩ := uH HKS _ ((uH HC13).trans' (uH HCU))
            have HALL3 := hH hall
            have HC6U := hH hch
            by_cases hlq : q < R.length
            · have hqk : (q : Int) < (R.length : Int) := by omega
              have hx : R[q]? = some R[q] := List.getElem?_eq_getElem hlq
              generalize R[q] = y at *
              have hne : R.map intl ≠ [] := by
                intro e
                have := congrArg List.length e
                simp at this
                rw [this] at hlq
                simp at hlq
              obtain ⟨b6, o6, rfl, _, hc⟩ := ((uH HR6).chg hch (fun _ _ _ => id)).flat hne
              have g0 : wu.cell? ⟨b6, o6 + q, none⟩ = some (.int .i64 y) := hc q _ (by rw [List.getElem?_map, hx]; rfl)
              have HXQ := hH hx
              clear hc hne hall hch hx
              by_cases hy : d.params ≤ y
              · have hyd : decide (d.params ≤ y) = true := decide_eq_true hy
                have hye : decide (y < d.params) = false := decide_eq_false (by omega)
                have HE := hH (uH HAB q y (uH HXQ) hy)
                clear HDX HDB HG2 HCG HAB HAG
                go_wp2_with fail
                go_quiet (fail)
                go_wp2_with fail
                go_ret
                exact ⟨retv (boolv (uH HE).symm), (uH HC0).trans' ((uH HC13).trans' ((uH HCU).drewN _))⟩
              · have hyd : decide (d.params ≤ y) = false := decide_eq_false hy
                have hye : decide (y < d.params) = true := decide_eq_true (by omega)
                have HY := hH (show y < d.params by omega)
                go_wp2_with fail
                go_quiet (fail)
                go_wp2_with fail
                go_roundw
                case rel => exact ⟨q + 1, by go_num, by omega, upto_step (P := fun v => v < d.params) (uH HALL3) (uH HXQ) (uH HY), (uH HC6U).drewN _⟩
                case measure => simp [intOf]; omega
            · obtain rfl : q = R.length := by omega
              have hqk : ¬ (R.length : Int) < (R.length : Int) := by omega
              have HAGT := hH (uH HAG hall)
              clear hall hch
              go_wp2_with fail
              go_roundw
              case rel => exact ⟨m + 1, by go_num, by omega, upto_step (P := fun t => argB d.params t = true) (uH HALL2) (uH HW) (uH HAGT), uH HCU⟩
              case measure => simp [intOf]; omega
        · obtain rfl : m = x.args.length := by omega
          have hmk : ¬ (x.args.length : Int) < (x.args.length : Int) := by omega
          have HCT := hH (uH HCG hall)
          have HCZ := hH hch
          clear hall hch
          go_wp2_with fail
          go_roundw
          case rel => exact ⟨k + 1, by go_num, by omega, upto_step (P := fun c => ctB d.params c = true) (uH HALL) (uH HX) (uH HCT), (uH HC13).trans' (uH HCZ)⟩
          case measure => simp [intOf]; omega
    · obtain rfl : k = d.cons.length := by omega
      have hki : ¬ (d.cons.length : Int) < (d.cons.length : Int) := by omega
      have HE := hH (uH HG2 hall)
      have HCH := hH hch
      clear hall hch
      go_wp2_with fail
      go_ret
      exact ⟨retv (boolv (uH HE).symm), (uH HC0).trans' (uH HCH)⟩
end Go.Proofs.YtinekmjengckdaaGreatDoor

namespace Go.Proofs.YtinekmjengckdaaGreatDoor
open Go.RowKit
set_option maxHeartbeats 4000000
set_option maxRecDepth 100000
def strl (s : ByteArray) : Value := .string s
theorem infoSt : (Tryz.prog.info? 9).map (fun i => (i.zero, i.size, i.bytes)) = some (some (.string ⟨#[]⟩), 1, 16) := by kernel_rfl
theorem consNames_snoc {l : List Dt} {k : Nat} {d : Dt} (h : l[k]? = some d) : consNames (l.take (k + 1)) = consNames (l.take k) ++ d.cons.map Ct.name := by
  obtain ⟨hk, rfl⟩ := List.getElem?_eq_some_iff.1 h
  unfold consNames
  rw [List.take_succ_eq_append_getElem hk, List.flatMap_append]
  simp
theorem consNames_len {l : List Dt} (h : ∀ d ∈ l, d.cons.length ≤ 70) : (consNames l).length ≤ l.length * 70 := by
  unfold consNames
  induction l with
  | nil => simp
  | cons d r ih =>
    rw [List.flatMap_cons, List.length_append, List.length_map, List.length_cons]
    have h1 := h d (by simp)
    have h2 := ih (fun x hx => h x (by simp [hx]))
    omega
theorem take_snoc {α : Type} {l : List α} {k : Nat} {x : α} (h : l[k]? = some x) : l.take (k + 1) = l.take k ++ [x] := by
  obtain ⟨hk, rfl⟩ := List.getElem?_eq_some_iff.1 h
  exact List.take_succ_eq_append_getElem hk
theorem refNames_any (l : List Dt) (v : Value) (T : Nat → Prop) (w : World) (hr : RdD T w v l) (hl : l.length ≤ 70) (hc : ∀ d ∈ l, d.cons.length ≤ 70) :
    Calls Tryz.prog 89 #[v] w fun e w' => ∃ A c, e = .returned (.slice A (consNames l).length c) ∧ Rd (fun k => w.heap.size ≤ k) w' A ((consNames l).map strl) ∧ Chg (fun _ => False) w w' := by
  obtain ⟨A, c, rfl⟩ := hr.val
  obtain ⟨i3, hi3, hz3', hs3, hb3⟩ := info_parts infoSt
  have HR := hH hr
  have HC := hH hc
  have HO0 := hH (own_start (base := w.heap.size) (size := 1) (Blk.new w 9 #[]) (Nat.le_refl _))
  have HC0 := hH ((Chg.refl (fun _ => False) w).alloc (.cells #[] 9))
  clear hr hc
  go_enter Tryz.func89, Tryz.ntmps89
  go_wp2_with fail
  go_loopw [3, 4] (fun out i wr => ∃ k : Nat, i = .int .i64 (k : Int) ∧ k ≤ l.length ∧ wr.ownsRow w.heap.size 9 1 out (consNames (l.take k)).length ((consNames (l.take k)).map strl) ∧ Chg (fun _ => False) w wr) (fun _ i _ => l.length - (intOf i).toNat)
  case atStart => exact ⟨0, rfl, Nat.zero_le _, uH HO0, uH HC0⟩
  case round =>
    clear HO0 HC0
    obtain ⟨wq, rfl⟩ : ∃ wq : World, wq = wr := ⟨_, rfl⟩
    obtain ⟨i, rfl, hi, hown, hch⟩ := hrel
    obtain ⟨B, c5, rfl⟩ := own_val hown
    by_cases hlt : i < l.length
    · have hki : (i : Int) < (l.length : Int) := by omega
      have hx : l[i]? = some l[i] := List.getElem?_eq_getElem hlt
      generalize l[i] = d at *
      have hd70 := (uH HC) d (List.mem_of_getElem? hx)
      have hvl : (consNames (l.take i)).length ≤ 4900 := by
        have := consNames_len (l := l.take i) (fun d hd => (uH HC) d (List.mem_of_mem_take hd))
        rw [List.length_take] at this
        omega
      have HSN := hH (consNames_snoc hx)
      generalize consNames (l.take i) = V0 at *
      obtain ⟨b, o, c2, u, hv, _, hru, hns, c0, c1, c3⟩ := (uH HR).at_ hx
      injection hv with hv1 hv2 hv3
      subst hv1 hv3
      obtain ⟨B2, c6, rfl⟩ := hru.val
      have HRU := hH hru
      have HD := hH (fun W (hW : Chg (fun _ => False) w W) => (hW.cell (World.block_lt_of_cell? w _ c3) id).trans c3)
      have HOWN := hH hown
      have HCH := hH hch
      clear hown hch hx hru hv2 c0 c1 c3 hns
      go_wp2_with fail
      go_loopw [3, 5] (fun out t wr => ∃ k : Nat, t = .int .i64 (k : Int) ∧ k ≤ d.cons.length ∧ wr.ownsRow w.heap.size 9 1 out (V0 ++ (d.cons.take k).map Ct.name).length ((V0 ++ (d.cons.take k).map Ct.name).map strl) ∧ Chg (fun _ => False) w wr) (fun _ t _ => d.cons.length - (intOf t).toNat)
      case atStart => exact ⟨0, rfl, Nat.zero_le _, by rw [List.take_zero, List.map_nil, List.append_nil]; exact uH HOWN, uH HCH⟩
      case round =>
        clear HOWN HCH
        obtain ⟨wy, rfl⟩ : ∃ wy : World, wy = wr := ⟨_, rfl⟩
        obtain ⟨k, rfl, hk, hown, hch⟩ := hrel
        obtain ⟨B4, c7, rfl⟩ := own_val hown
        have d3 := uH HD _ hch
        by_cases hlk : k < d.cons.length
        · have hkk : (k : Int) < (d.cons.length : Int) := by omega
          have hy : d.cons[k]? = some d.cons[k] := List.getElem?_eq_getElem hlk
          generalize d.cons[k] = x at *
          have hsn2 : V0 ++ (d.cons.take (k + 1)).map Ct.name = (V0 ++ (d.cons.take k).map Ct.name) ++ [x.name] := by
            rw [take_snoc hy, List.map_append, List.append_assoc]
            rfl
          have HS2 := hH hsn2
          have hvl2 : (V0 ++ (d.cons.take k).map Ct.name).length ≤ 5000 := by
            rw [List.length_append, List.length_map, List.length_take]
            omega
          generalize V0 ++ (d.cons.take k).map Ct.name = V at *
          obtain ⟨b2, o2, c4, u2, hv, _, _, hxs, e0, _⟩ := ((uH HRU).chg hch (fun _ _ _ => id)).at_ hy
          injection hv with hv1 hv2 hv3
          subst hv1 hv3
          have HO4 := hH hown
          have HCH := hH hch
          have hm1 : V.length + 1 ≤ maxLen := by simp only [maxLen]; omega
          have hm2 : (V.length + 1) * 16 ≤ 140737488355328 := by omega
          have ho1 : ∀ u ∈ [strl x.name], u.oneCell' = true := by intro u hu; simp at hu; subst hu; rfl
          have HRN := hH (fun W : World => (rd_new W W.heap.size 9 [strl x.name] rfl).mono (T' := fun _ => True) (fun _ _ => trivial))
          have hb4 : w.heap.size ≤ (wy.alloc (.cells #[.string x.name] 9)).heap.size := (hch.alloc (.cells #[.string x.name] 9)).size
          clear hown hch hsn2 hy hv2 hvl hvl2
          go_wp2_with (first
            | (at_builtin
               refine wpList_append_rd _ rfl (.tmp 23) (.tmp 33) 132 rfl w.heap.size 9 i3 (.string ⟨#[]⟩) 1 16 Tryz.underlying132 hi3 hz3' hs3 hb3 rfl (Nat.succ_pos 0) _ V.length _ rfl ((uH HO4).alloc _) (fun _ => True) (some ⟨wy.heap.size, 0, none⟩) 1 1 [strl x.name] rfl rfl ((uH HRN) wy) ho1 hm1 hm2 hb4 ?_
               intro v5 w5 ho5 hc5 hat
               have HO5 := hH ho5
               have HC5 := hH ((uH HCH).trans (((Chg.refl (fun k => (Value.slice B4 V.length c7).ownBlock = some k) wy).alloc (.cells #[.string x.name] 9)).trans hc5 (fun _ _ h => h)) (fun i hi e => by have := ((uH HO4).lt i e).1; omega))
               clear ho5 hc5 hat))
          go_roundw
          case rel =>
            refine ⟨k + 1, by go_num, by omega, ?_, uH HC5⟩
            rw [uH HS2, List.map_append, List.length_append]
            exact uH HO5
          case measure => simp [intOf]; omega
        · obtain rfl : k = d.cons.length := by omega
          have hkk : ¬ (d.cons.length : Int) < (d.cons.length : Int) := by omega
          have HOWN := hH hown
          have HCH := hH hch
          clear hown hch
          go_wp2_with fail
          go_roundw
          case rel =>
            refine ⟨i + 1, by go_num, by omega, ?_, uH HCH⟩
            have h := uH HOWN
            rw [uH HSN]
            simp only [List.take_length] at h ⊢
            exact h
          case measure => simp [intOf]; omega
    · obtain rfl : i = l.length := by omega
      have hki : ¬ (l.length : Int) < (l.length : Int) := by omega
      have HOWN := hH hown
      have HCH := hH hch
      clear hown hch
      go_wp2_with fail
      go_ret
      have hO := uH HOWN
      rw [List.take_length] at hO
      exact ⟨B, ⟨c5, rfl⟩, (own_rd hO (by omega)).mono (fun k hk => (hO.lt k hk).1), uH HCH⟩
theorem same_not {a b : ByteArray} (h : a ≠ b) : (a.toList == b.toList) = false := by
  cases e : a.toList == b.toList with
  | false => rfl
  | true => exact absurd (name_same.1 e) h
theorem knownB_no {l : List Dt} {n : Nd} (h : ∀ (j : Nat) (d : Dt), j < l.length → l[j]? = some d → (decide (d.name = n.text) && d.params == n.kids) = false) : knownB l n = false := by
  unfold knownB
  rw [List.any_eq_false]
  intro d hd
  obtain ⟨j, hj⟩ := List.mem_iff_getElem?.1 hd
  rw [h j d (List.getElem?_eq_some_iff.1 hj).1 hj]
  simp
theorem knownB_yes {l : List Dt} {n : Nd} {k : Nat} {d : Dt} (hx : l[k]? = some d) (h1 : d.name = n.text) (h2 : d.params = n.kids) : knownB l n = true := by
  unfold knownB
  rw [List.any_eq_true]
  exact ⟨d, List.mem_of_getElem? hx, by simp [h1, h2]⟩
theorem refKnown_any (l : List Dt) (v : Value) (n : Nd) (T : Nat → Prop) (w : World) (hr : RdD T w v l) (hl : l.length ≤ 70) :
    Calls Tryz.prog 91 #[v, .agg #[.int .i64 n.kind, .string n.text, .int .i64 n.num, .int .i64 n.kids]] w fun e w' => e = .returned (.bool (knownB l n)) ∧ Chg (fun _ => False) w w' := by
  obtain ⟨A, c, rfl⟩ := hr.val
  have b0 := Blk.new w 59 #[.int .i64 n.kind, .string n.text, .int .i64 n.num, .int .i64 n.kids]
  have c0 : Chg (fun _ => False) w (w.alloc (.cells #[.int .i64 n.kind, .string n.text, .int .i64 n.num, .int .i64 n.kids] 59)) := (Chg.refl _ w).alloc _
  have hr1 := hr.chg c0 (fun _ _ _ => id)
  have HC0 := hH c0
  clear hr c0
  go_enter Tryz.func91, Tryz.ntmps91
  go_wp2_with fail
  generalize (w.alloc (.cells #[.int .i64 n.kind, .string n.text, .int .i64 n.num, .int .i64 n.kids] 59)) = w1 at *
  generalize w.heap.size = nb at *
  have HR := hH hr1
  have HKS := hH (fun W (hW : Chg (fun _ => False) w1 W) => show W.cell? ⟨nb, 1, none⟩ = some (.string n.text) ∧ W.cell? ⟨nb, 3, none⟩ = some (.int .i64 n.kids) from by
    have h := b0.chg hW id
    exact ⟨h.cell 1, h.cell 3⟩)
  clear hr1 b0
  go_loopw [5] (fun i wr => ∃ k : Nat, i = .int .i64 (k : Int) ∧ k ≤ l.length ∧ (∀ (j : Nat) (d : Dt), j < k → l[j]? = some d → (decide (d.name = n.text) && d.params == n.kids) = false) ∧ Chg (fun _ => False) w1 wr) (fun i _ => l.length - (intOf i).toNat)
  case atStart => exact ⟨0, rfl, Nat.zero_le _, fun j _ h => absurd h (Nat.not_lt_zero _), Chg.refl _ _⟩
  case round =>
    obtain ⟨wq, rfl⟩ : ∃ wq : World, wq = wr := ⟨_, rfl⟩
    obtain ⟨k, rfl, hk, hall, hch⟩ := hrel
    by_cases hlt : k < l.length
    · have hki : (k : Int) < (l.length : Int) := by omega
      have hx : l[k]? = some l[k] := List.getElem?_eq_getElem hlt
      generalize l[k] = d at *
      obtain ⟨b, o, c2, u, hv, _, _, hns, c0, c1, _⟩ := ((uH HR).chg hch (fun _ _ _ => id)).at_ hx
      injection hv with hv1 hv2 hv3
      subst hv1 hv3
      obtain ⟨x1, x2⟩ := uH HKS _ hch
      have HX := hH hx
      have HALL := hH hall
      have HCH := hH hch
      clear hx hall hch hv2
      by_cases hn : d.name = n.text
      · have hnb : (d.name.toList == n.text.toList) = true := name_same.2 hn
        have HN := hH hn
        clear hn
        by_cases hp : d.params = n.kids
        · have hpb : (d.params == n.kids) = true := by rw [hp]; simp
          have HP := hH hp
          clear hp
          go_wp2_with fail
          go_quiet (fail)
          go_wp2_with fail
          go_ret
          exact ⟨retv (boolv (knownB_yes (uH HX) (uH HN) (uH HP)).symm), (uH HC0).trans' ((uH HCH).drewN _)⟩
        · have hpb : (d.params == n.kids) = false := beq_eq_false_iff_ne.2 hp
          have HB := hH (show (decide (d.name = n.text) && d.params == n.kids) = false from by rw [hpb, Bool.and_false])
          clear hp
          go_wp2_with fail
          go_quiet (fail)
          go_wp2_with fail
          go_roundw
          case rel => exact ⟨k + 1, by go_num, by omega, upto_step (P := fun d => (decide (d.name = n.text) && d.params == n.kids) = false) (uH HALL) (uH HX) (uH HB), (uH HCH).drewN _⟩
          case measure => simp [intOf]; omega
      · have hnb : (d.name.toList == n.text.toList) = false := same_not hn
        have HB := hH (show (decide (d.name = n.text) && d.params == n.kids) = false from by rw [decide_eq_false hn, Bool.false_and])
        clear hn
        go_wp2_with fail
        go_quiet (fail)
        go_wp2_with fail
        go_roundw
        case rel => exact ⟨k + 1, by go_num, by omega, upto_step (P := fun d => (decide (d.name = n.text) && d.params == n.kids) = false) (uH HALL) (uH HX) (uH HB), (uH HCH).drewN _⟩
        case measure => simp [intOf]; omega
    · obtain rfl : k = l.length := by omega
      have hki : ¬ (l.length : Int) < (l.length : Int) := by omega
      have HE := hH (knownB_no hall)
      have HCH := hH hch
      clear hall hch
      go_wp2_with fail
      go_ret
      exact ⟨retv (boolv (uH HE).symm), (uH HC0).trans' (uH HCH)⟩
end Go.Proofs.YtinekmjengckdaaGreatDoor

namespace Go.Proofs.YtinekmjengckdaaGreatDoor
open Go.RowKit
set_option maxHeartbeats 4000000
set_option maxRecDepth 100000
theorem RdD.at2 {T : Nat → Prop} {w : World} {b o n c : Nat} {xs : List Dt} (h : RdD T w (.slice (some ⟨b, o, none⟩) n c) xs) {k : Nat} {x : Dt} (hk : xs[k]? = some x) : ∃ u, RdC T w u x.cons ∧ x.name.size ≤ 9223372036854775807 ∧ w.cell? ⟨b, o + k * 3, none⟩ = some (.string x.name) ∧ w.cell? ⟨b, o + k * 3 + 1, none⟩ = some (.int .i64 x.params) ∧ w.cell? ⟨b, o + k * 3 + 2, none⟩ = some u := by
  obtain ⟨b', o', c', u, hv, _, h1, h2, h3, h4, h5⟩ := h.at_ hk
  injection hv with e1 e2 e3
  injection e1 with e1
  injection e1 with e4 e5 e6
  subst e4 e5
  exact ⟨u, h1, h2, h3, h4, h5⟩
theorem dup_bad {xs : List ByteArray} {i k : Nat} {a b : ByteArray} (hk : k < i) (h1 : xs[k]? = some a) (h2 : xs[i]? = some b) (h : a = b) : ¬ xs.Nodup := fun hh => by
  subst h
  exact (nodup_iff_first xs).1 hh i a h2 k hk h1
def First (xs : List ByteArray) (i k : Nat) : Prop := ∀ (j : Nat) (a : ByteArray), j < k → xs[i]? = some a → xs[j]? ≠ some a
theorem First.step {xs : List ByteArray} {i k : Nat} {a b : ByteArray} (h : First xs i k) (h1 : xs[k]? = some a) (h2 : xs[i]? = some b) (hne : a ≠ b) : First xs i (k + 1) := fun j c hj hi hjc => by
  rcases Nat.lt_or_ge j k with h3 | h3
  · exact h j c h3 hi hjc
  · obtain rfl : j = k := by omega
    rw [h1] at hjc
    rw [h2] at hi
    injection hjc with e1
    injection hi with e2
    exact hne (e1.trans e2.symm)
theorem firsts {xs : List ByteArray} {n : Nat} (hn : xs.length ≤ n) (h : ∀ i, i < n → First xs i i) : xs.Nodup := by
  rw [nodup_iff_first]
  intro i a hi j hj hja
  have := (List.getElem?_eq_some_iff.1 hi).1
  exact h i (by omega) j a hj hi hja
theorem upto_nat {P : Nat → Prop} {k : Nat} (h : ∀ j, j < k → P j) (hp : P k) : ∀ j, j < k + 1 → P j := fun j hj => by
  rcases Nat.lt_or_ge j k with h1 | h1
  · exact h j h1
  · obtain rfl : j = k := by omega
    exact hp
theorem names_at {l : List Dt} {k : Nat} {d : Dt} (h : l[k]? = some d) : (l.map Dt.name)[k]? = some d.name := by rw [List.getElem?_map, h]; rfl
def NoT (l : List Dt) (t : List Nd) : Prop := ∀ n ∈ t, lackN l n = false
def NoC (l : List Dt) (c : Ct) : Prop := ∀ t ∈ c.args, NoT l t
def NoD (l : List Dt) (d : Dt) : Prop := ∀ c ∈ d.cons, NoC l c
theorem lackD_no {l : List Dt} (h : ∀ d ∈ l, NoD l d) : lackD l = false := by
  unfold lackD
  rw [List.any_eq_false]
  intro d hd hh
  rw [List.any_eq_true] at hh
  obtain ⟨c, hc, hh⟩ := hh
  rw [List.any_eq_true] at hh
  obtain ⟨t, ht, hh⟩ := hh
  rw [List.any_eq_true] at hh
  obtain ⟨n, hn, hh⟩ := hh
  rw [h d hd c hc t ht n hn] at hh
  cases hh
theorem lackD_yes {l : List Dt} {d : Dt} {c : Ct} {t : List Nd} {n : Nd} (hd : d ∈ l) (hc : c ∈ d.cons) (ht : t ∈ c.args) (hn : n ∈ t) (h : lackN l n = true) : lackD l = true := by
  unfold lackD
  rw [List.any_eq_true]
  refine ⟨d, hd, ?_⟩
  rw [List.any_eq_true]
  refine ⟨c, hc, ?_⟩
  rw [List.any_eq_true]
  refine ⟨t, ht, ?_⟩
  rw [List.any_eq_true]
  exact ⟨n, hn, h⟩
theorem i64v {a b : Int} (h : a = b) : Value.int .i64 a = .int .i64 b := by rw [h]
theorem refCheck_any (l : List Dt) (v : Value) (T : Nat → Prop) (w : World) (hr : RdD T w v l) :
    Calls Tryz.prog 41 #[v] w fun e w' => e = .returned (.int .i64 (datasE l)) ∧ Chg (fun _ => False) w w' := by
  obtain ⟨A, c, rfl⟩ := hr.val
  have HR := hH hr
  clear hr
  go_enter Tryz.func41, Tryz.ntmps41
  by_cases h60 : 60 < l.length
  · have h60i : decide ((60 : Int) < (l.length : Int)) = true := decide_eq_true (by omega)
    have h60j : (60 : Int) < (l.length : Int) := by omega
    have HE := hH (datasE_form (l := l) (.inl h60))
    clear h60
    go_wp2_with fail
    go_ret
    exact ⟨retv (i64v (uH HE).symm), Chg.refl _ _⟩
  have h60i : decide ((60 : Int) < (l.length : Int)) = false := decide_eq_false (by omega)
  have h60j : ¬ (60 : Int) < (l.length : Int) := by omega
  have hl7 : l.length ≤ 70 := by omega
  go_wp2_with fail
  go_loopw [3] (fun t wr => ∃ k : Nat, t = .int .i64 (k : Int) ∧ k ≤ l.length ∧ (∀ j d, j < k → l[j]? = some d → dtB d = true) ∧ Chg (fun _ => False) w wr) (fun t _ => l.length - (intOf t).toNat)
  case atStart => exact ⟨0, rfl, Nat.zero_le _, fun j _ h => absurd h (Nat.not_lt_zero _), Chg.refl _ _⟩
  case round =>
    clear h60i h60j
    obtain ⟨wq, rfl⟩ : ∃ wq : World, wq = wr := ⟨_, rfl⟩
    obtain ⟨k, rfl, hk, hall, hch⟩ := hrel
    by_cases hlt : k < l.length
    · have hki : (k : Int) < (l.length : Int) := by omega
      have hx : l[k]? = some l[k] := List.getElem?_eq_getElem hlt
      generalize l[k] = d at *
      obtain ⟨b, o, c2, u, hv, _, hru, hns, c0, c1, c3⟩ := ((uH HR).chg hch (fun _ _ _ => id)).at_ hx
      injection hv with hv1 hv2 hv3
      subst hv1 hv3
      have HRT := hH (refDt_any d u T wq hru hns)
      have HALL := hH hall
      have HCH := hH hch
      have HX := hH hx
      clear hall hch hx hv2 hru hns
      cases hd : dtB d with
      | false =>
        rw [hd] at HRT
        have HE := hH (datasE_form (l := l) (.inr (List.all_eq_false.2 ⟨d, List.mem_of_getElem? (uH HX), by rw [hd]; simp⟩)))
        go_wp2_with (go_at_call 88; (with_reducible refine (uH HRT).mono ?_); rintro e w5 ⟨rfl, hc5⟩; have HC5 := hH hc5; clear hc5)
        go_ret
        exact ⟨retv (i64v (uH HE).symm), (uH HCH).trans' (uH HC5)⟩
      | true =>
        rw [hd] at HRT
        have HD := hH hd
        clear hd
        go_wp2_with (go_at_call 88; (with_reducible refine (uH HRT).mono ?_); rintro e w5 ⟨rfl, hc5⟩; have HC5 := hH hc5; clear hc5)
        go_roundw
        case rel => exact ⟨k + 1, by go_num, by omega, upto_step (P := fun d => dtB d = true) (uH HALL) (uH HX) (uH HD), (uH HCH).trans' (uH HC5)⟩
        case measure => simp [intOf]; omega
    · obtain rfl : k = l.length := by omega
      have hki : ¬ (l.length : Int) < (l.length : Int) := by omega
      have hgood : l.all dtB = true := List.all_eq_true.2 (mem_all hall)
      have hc70 : ∀ d ∈ l, d.cons.length ≤ 70 := fun d hd => Nat.le_trans (dt_ok (List.all_eq_true.1 hgood d hd)).2.2.2.2.1 (by decide)
      have HTW := hH (datasE_twice h60 hgood)
      have HRE := hH (datasE_rest h60 hgood)
      have HN := hH (refNames_any l _ T wq ((uH HR).chg hch (fun _ _ _ => id)) hl7 hc70)
      have hcl := consNames_len hc70
      have HCH := hH hch
      clear hall hch h60 hgood hc70
      have hV : consNames l = consNames l := rfl
      generalize consNames l = V at *
      go_wp2_with (go_at_call 89; (with_reducible refine (uH HN).mono ?_); rintro e w4 ⟨A4, c4, rfl, hr4, hc4⟩; have HC4 := hH ((uH HCH).trans' hc4); have HRV := hH hr4; have HR4 := hH ((uH HR).chg ((uH HCH).trans' hc4) (fun _ _ _ => id)); clear hr4 hc4)
      clear HN HR HCH hki hk hV
      go_loopw [5] (fun t wr => ∃ i : Nat, t = .int .i64 (i : Int) ∧ i ≤ l.length ∧ (∀ j, j < i → First (l.map Dt.name) j j) ∧ Chg (fun _ => False) w4 wr) (fun t _ => l.length - (intOf t).toNat)
      case atStart => exact ⟨0, rfl, Nat.zero_le _, fun j h => absurd h (Nat.not_lt_zero _), Chg.refl _ _⟩
      case round =>
        obtain ⟨wq, rfl⟩ : ∃ wq : World, wq = wr := ⟨_, rfl⟩
        obtain ⟨i, rfl, hi, hall, hch⟩ := hrel
        by_cases hlt : i < l.length
        · have hki : (i : Int) < (l.length : Int) := by omega
          have hx : l[i]? = some l[i] := List.getElem?_eq_getElem hlt
          generalize l[i] = d at *
          obtain ⟨b, o, c2, u, hv, _, _, hns, c0, _, _⟩ := (uH HR4).at_ hx
          injection hv with hv1 hv2 hv3
          subst hv1 hv3
          have HX := hH hx
          have HALL := hH hall
          have HCH := hH hch
          have HD := hH (fun W (hW : Chg (fun _ => False) w4 W) => (hW.cell (World.block_lt_of_cell? w4 _ c0) id).trans c0)
          clear hall hch hv2 c0 hns hx
          go_wp2_with fail
          go_loopw [6] (fun t wr => ∃ k : Nat, t = .int .i64 (k : Int) ∧ k ≤ i ∧ First (l.map Dt.name) i k ∧ Chg (fun _ => False) w4 wr) (fun t _ => i - (intOf t).toNat)
          case atStart => exact ⟨0, rfl, Nat.zero_le _, fun j _ h => absurd h (Nat.not_lt_zero _), uH HCH⟩
          case round =>
            clear HCH
            obtain ⟨wy, rfl⟩ : ∃ wy : World, wy = wr := ⟨_, rfl⟩
            obtain ⟨k, rfl, hk, hfst, hch⟩ := hrel
            have d0 := uH HD _ hch
            by_cases hlk : k < i
            · have hkk : (k : Int) < (i : Int) := by omega
              have hkl : k < l.length := by omega
              have hkl2 : (k : Int) < (l.length : Int) := by omega
              have hy : l[k]? = some l[k] := List.getElem?_eq_getElem hkl
              generalize l[k] = y at *
              obtain ⟨u2, _, hys, e0, _, _⟩ := ((uH HR4).chg hch (fun _ _ _ => id)).at2 hy
              have HY := hH hy
              have HF := hH hfst
              have HCH := hH hch
              clear hy hfst hch
              by_cases hn : y.name = d.name
              · have hnb : (y.name.toList == d.name.toList) = true := name_same.2 hn
                have HE := hH (uH HTW (.inl (dup_bad hlk (names_at (uH HY)) (names_at (uH HX)) hn)))
                clear hn
                go_wp2_with fail
                go_quiet (fail)
                go_wp2_with fail
                go_ret
                exact ⟨retv (i64v (uH HE).symm), (uH HC4).trans' ((uH HCH).drewN _)⟩
              · have hnb : (y.name.toList == d.name.toList) = false := same_not hn
                have HF2 := hH ((uH HF).step (names_at (uH HY)) (names_at (uH HX)) hn)
                clear hn
                go_wp2_with fail
                go_quiet (fail)
                go_wp2_with fail
                go_roundw
                case rel => exact ⟨k + 1, by go_num, by omega, uH HF2, (uH HCH).drewN _⟩
                case measure => simp [intOf]; omega
            · obtain rfl : k = i := by omega
              have hkk : ¬ (k : Int) < (k : Int) := by omega
              have HF := hH hfst
              have HCH := hH hch
              clear hfst hch
              go_wp2_with fail
              go_roundw
              case rel => exact ⟨k + 1, by go_num, by omega, upto_nat (P := fun j => First (l.map Dt.name) j j) (uH HALL) (uH HF), uH HCH⟩
              case measure => simp [intOf]; omega
        · obtain rfl : i = l.length := by omega
          have hki : ¬ (l.length : Int) < (l.length : Int) := by omega
          have HND := hH (uH HRE (firsts (n := l.length) (by rw [List.length_map]; omega) hall))
          have HCH := hH hch
          clear hall hch HRE
          go_wp2_with fail
          go_loopw [7] (fun t wr => ∃ i : Nat, t = .int .i64 (i : Int) ∧ i ≤ V.length ∧ (∀ j, j < i → First V j j) ∧ Chg (fun _ => False) w4 wr) (fun t _ => V.length - (intOf t).toNat)
          case atStart => exact ⟨0, rfl, Nat.zero_le _, fun j h => absurd h (Nat.not_lt_zero _), uH HCH⟩
          case round =>
            clear HCH
            obtain ⟨wq, rfl⟩ : ∃ wq : World, wq = wr := ⟨_, rfl⟩
            obtain ⟨i, rfl, hi, hall, hch⟩ := hrel
            by_cases hlt : i < V.length
            · have hki : (i : Int) < (V.length : Int) := by omega
              have hx : V[i]? = some V[i] := List.getElem?_eq_getElem hlt
              generalize V[i] = s at *
              have HX := hH hx
              have HALL := hH hall
              have HCH := hH hch
              have hne : V.map strl ≠ [] := by
                intro e
                have := congrArg List.length e
                simp at this
                rw [this] at hlt
                simp at hlt
              obtain ⟨b6, o6, rfl, _, hc6⟩ := (uH HRV).flat hne
              have HD := hH (fun W (hW : Chg (fun _ => False) w4 W) j a (hj : V[j]? = some a) => show W.cell? ⟨b6, o6 + j, none⟩ = some (.string a) from by
                have h := hc6 j _ (show (V.map strl)[j]? = some (.string a) by rw [List.getElem?_map, hj]; rfl)
                exact (hW.cell (World.block_lt_of_cell? w4 _ h) id).trans h)
              clear hall hch hx hc6 hne
              go_wp2_with fail
              go_loopw [8] (fun t wr => ∃ k : Nat, t = .int .i64 (k : Int) ∧ k ≤ i ∧ First V i k ∧ Chg (fun _ => False) w4 wr) (fun t _ => i - (intOf t).toNat)
              case atStart => exact ⟨0, rfl, Nat.zero_le _, fun j _ h => absurd h (Nat.not_lt_zero _), uH HCH⟩
              case round =>
                clear HCH
                obtain ⟨wy, rfl⟩ : ∃ wy : World, wy = wr := ⟨_, rfl⟩
                obtain ⟨k, rfl, hk, hfst, hch⟩ := hrel
                have d0 := uH HD _ hch i s (uH HX)
                by_cases hlk : k < i
                · have hkk : (k : Int) < (i : Int) := by omega
                  have hkl : k < V.length := by omega
                  have hkl2 : (k : Int) < (V.length : Int) := by omega
                  have hy : V[k]? = some V[k] := List.getElem?_eq_getElem hkl
                  generalize V[k] = y at *
                  have e0 := uH HD _ hch k y hy
                  have HY := hH hy
                  have HF := hH hfst
                  have HCH := hH hch
                  clear hy hfst hch
                  by_cases hn : y = s
                  · have hnb : (y.toList == s.toList) = true := name_same.2 hn
                    have HE := hH (uH HTW (.inr (dup_bad hlk (uH HY) (uH HX) hn)))
                    clear hn
                    go_wp2_with fail
                    go_quiet (fail)
                    go_wp2_with fail
                    go_ret
                    exact ⟨retv (i64v (uH HE).symm), (uH HC4).trans' ((uH HCH).drewN _)⟩
                  · have hnb : (y.toList == s.toList) = false := same_not hn
                    have HF2 := hH ((uH HF).step (uH HY) (uH HX) hn)
                    clear hn
                    go_wp2_with fail
                    go_quiet (fail)
                    go_wp2_with fail
                    go_roundw
                    case rel => exact ⟨k + 1, by go_num, by omega, uH HF2, (uH HCH).drewN _⟩
                    case measure => simp [intOf]; omega
                · obtain rfl : k = i := by omega
                  have hkk : ¬ (k : Int) < (k : Int) := by omega
                  have HF := hH hfst
                  have HCH := hH hch
                  clear hfst hch
                  go_wp2_with fail
                  go_roundw
                  case rel => exact ⟨k + 1, by go_num, by omega, upto_nat (P := fun j => First V j j) (uH HALL) (uH HF), uH HCH⟩
                  case measure => simp [intOf]; omega
            · obtain rfl : i = V.length := by omega
              have hki : ¬ (V.length : Int) < (V.length : Int) := by omega
              have HLK := hH (uH HND (firsts (n := V.length) (Nat.le_refl _) hall))
              have HCH := hH hch
              clear hall hch HND HTW HRV hki hi hcl
              go_wp2_with fail
              go_loopw [9] (fun t wr => ∃ i : Nat, t = .int .i64 (i : Int) ∧ i ≤ l.length ∧ (∀ j d, j < i → l[j]? = some d → NoD l d) ∧ Chg (fun _ => False) w4 wr) (fun t _ => l.length - (intOf t).toNat)
              case atStart => exact ⟨0, rfl, Nat.zero_le _, fun j _ h => absurd h (Nat.not_lt_zero _), uH HCH⟩
              case round =>
                clear HCH
                obtain ⟨wq, rfl⟩ : ∃ wq : World, wq = wr := ⟨_, rfl⟩
                obtain ⟨i, rfl, hi, hall, hch⟩ := hrel
                by_cases hlt : i < l.length
                · have hki : (i : Int) < (l.length : Int) := by omega
                  have hx : l[i]? = some l[i] := List.getElem?_eq_getElem hlt
                  generalize l[i] = d at *
                  obtain ⟨b, o, c2, u, hv, _, hru, hns, _, _, c3⟩ := (uH HR4).at_ hx
                  injection hv with hv1 hv2 hv3
                  subst hv1 hv3
                  have hcb := hru.big
                  obtain ⟨B, c5, rfl⟩ := hru.val
                  have HX := hH hx
                  have HRU := hH hru
                  have HALL := hH hall
                  have HCH := hH hch
                  have HD := hH (fun W (hW : Chg (fun _ => False) w4 W) => (hW.cell (World.block_lt_of_cell? w4 _ c3) id).trans c3)
                  clear hall hch hv2 c3 hns hx hru
                  go_wp2_with fail
                  go_loopw [10] (fun t wr => ∃ k : Nat, t = .int .i64 (k : Int) ∧ k ≤ d.cons.length ∧ (∀ j c, j < k → d.cons[j]? = some c → NoC l c) ∧ Chg (fun _ => False) w4 wr) (fun t _ => d.cons.length - (intOf t).toNat)
                  case atStart => exact ⟨0, rfl, Nat.zero_le _, fun j _ h => absurd h (Nat.not_lt_zero _), uH HCH⟩
                  case round =>
                    clear HCH
                    obtain ⟨wy, rfl⟩ : ∃ wy : World, wy = wr := ⟨_, rfl⟩
                    obtain ⟨k, rfl, hk, hall, hch⟩ := hrel
                    have d3 := uH HD _ hch
                    by_cases hlk : k < d.cons.length
                    · have hkk : (k : Int) < (d.cons.length : Int) := by omega
                      have hy : d.cons[k]? = some d.cons[k] := List.getElem?_eq_getElem hlk
                      generalize d.cons[k] = x at *
                      obtain ⟨b2, o2, c6, u2, hv, _, hra, _, _, e1⟩ := (uH HRU).at_ hy
                      injection hv with hv1 hv2 hv3
                      subst hv1 hv3
                      have hab := hra.big
                      obtain ⟨B2, c7, rfl⟩ := hra.val
                      have HY := hH hy
                      have HRA := hH hra
                      have HALL2 := hH hall
                      have HCH := hH hch
                      have HE1 := hH (fun W (hW : Chg (fun _ => False) w4 W) => (hW.cell (World.block_lt_of_cell? w4 _ e1) id).trans e1)
                      clear hy hall hch hv2 hra e1
                      go_wp2_with fail
                      go_loopw [11] (fun t wr => ∃ m : Nat, t = .int .i64 (m : Int) ∧ m ≤ x.args.length ∧ (∀ j t, j < m → x.args[j]? = some t → NoT l t) ∧ Chg (fun _ => False) w4 wr) (fun t _ => x.args.length - (intOf t).toNat)
                      case atStart => exact ⟨0, rfl, Nat.zero_le _, fun j _ h => absurd h (Nat.not_lt_zero _), uH HCH⟩
                      case round =>
                        clear HCH d3
                        obtain ⟨wz, rfl⟩ : ∃ wz : World, wz = wr := ⟨_, rfl⟩
                        obtain ⟨m, rfl, hm, hall, hch⟩ := hrel
                        have d3 := uH HD _ hch
                        have e1 := uH HE1 _ hch
                        by_cases hlm : m < x.args.length
                        · have hmk : (m : Int) < (x.args.length : Int) := by omega
                          have hw : x.args[m]? = some x.args[m] := List.getElem?_eq_getElem hlm
                          generalize x.args[m] = t at *
                          obtain ⟨b3, o3, c8, u3, hv, _, hrt, f0⟩ := ((uH HRA).chg hch (fun _ _ _ => id)).at_ hw
                          injection hv with hv1 hv2 hv3
                          subst hv1 hv3
                          have htb := hrt.big
                          obtain ⟨B3, c9, rfl⟩ := hrt.val
                          have HW := hH hw
                          have HRTT := hH hrt
                          have HALL3 := hH hall
                          have HCH := hH hch
                          clear hw hall hch hv2 hrt
                          go_wp2_with fail
                          go_loopw [13] (fun j wr => ∃ h : Nat, j = .int .i64 (h : Int) ∧ h ≤ t.length ∧ (∀ j n, j < h → t[j]? = some n → lackN l n = false) ∧ Chg (fun _ => False) wz wr) (fun j _ => t.length - (intOf j).toNat)
                          case atStart => exact ⟨0, rfl, Nat.zero_le _, fun j _ h => absurd h (Nat.not_lt_zero _), Chg.refl _ _⟩
                          case round =>
                            clear f0 e1 d3
                            obtain ⟨wu, rfl⟩ : ∃ wu : World, wu = wr := ⟨_, rfl⟩
                            obtain ⟨h, rfl, hh, hall, hch⟩ := hrel
                            by_cases hlh : h < t.length
                            · have hhk : (h : Int) < (t.length : Int) := by omega
                              have hn : t[h]? = some t[h] := List.getElem?_eq_getElem hlh
                              generalize t[h] = n at *
                              obtain ⟨b4, o4, c10, hv, _, hns, g0, g1, g2, g3⟩ := ((uH HRTT).chg hch (fun _ _ _ => id)).at_ hn
                              injection hv with hv1 hv2 hv3
                              subst hv1 hv3
                              unfold ndOk at hns
                              have HN := hH hn
                              have HALL4 := hH hall
                              have HCH4 := hH ((uH HCH).trans' hch)
                              have HCHZ := hH hch
                              have k0 := World.block_lt_of_cell? wu _ g0
                              have k1 := World.block_lt_of_cell? wu _ g1
                              have k2 := World.block_lt_of_cell? wu _ g2
                              have k3 := World.block_lt_of_cell? wu _ g3
                              have HKN := hH (fun W (hW : Chg (fun _ => False) wu W) => show W.cell? ⟨b4, o4 + h * 4, none⟩ = some (.int .i64 n.kind) ∧ W.cell? ⟨b4, o4 + h * 4 + 1, none⟩ = some (.string n.text) ∧ W.cell? ⟨b4, o4 + h * 4 + 2, none⟩ = some (.int .i64 n.num) ∧ W.cell? ⟨b4, o4 + h * 4 + 3, none⟩ = some (.int .i64 n.kids) from ⟨(hW.cell k0 id).trans g0, (hW.cell k1 id).trans g1, (hW.cell k2 id).trans g2, (hW.cell k3 id).trans g3⟩)
                              have HNM := hH (refNamed_any n.text wu hns)
                              have HRL := hH ((uH HR4).chg (uH HCH4) (fun _ _ _ => id))
                              have HKW := hH (fun W (hW : Chg (fun _ => False) wu W) => refKnown_any l _ n _ W ((uH HRL).chg hW (fun _ _ _ => id)) hl7)
                              have HLN := hH (show lackN l n = (n.kind == 32 && nameB 2 n.text && !knownB l n) from rfl)
                              have HYES := hH (fun (hk : lackN l n = true) => (uH HLK).trans (if_pos (lackD_yes (List.mem_of_getElem? (uH HX)) (List.mem_of_getElem? (uH HY)) (List.mem_of_getElem? (uH HW)) (List.mem_of_getElem? (uH HN)) hk)))
                              clear hn hall hch hv2 k0 k1 k2 k3 hns HRL
                              by_cases hkd : n.kind = 32
                              · have hkb : (n.kind == 32) = true := by rw [hkd]; rfl
                                cases hnm : nameB 2 n.text with
                                | false =>
                                  have HNO := hH (show lackN l n = false by rw [uH HLN, hnm, Bool.and_false, Bool.false_and])
                                  rw [hnm] at HNM
                                  clear hnm hkd HYES HLN
                                  go_wp2_with (go_at_call 90; (with_reducible refine (uH HNM).mono ?_); rintro e w5 ⟨rfl, hc5⟩; have HC5 := hH hc5; (obtain ⟨g0, g1, g2, g3⟩ := uH HKN _ hc5); clear hc5)
                                  go_roundw
                                  case rel => exact ⟨h + 1, by go_num, by omega, upto_step (P := fun n => lackN l n = false) (uH HALL4) (uH HN) (uH HNO), (uH HCHZ).trans' (uH HC5)⟩
                                  case measure => simp [intOf]; omega
                                | true =>
                                  cases hkn : knownB l n with
                                  | true =>
                                    have HNO := hH (show lackN l n = false by rw [uH HLN, hkn, Bool.not_true, Bool.and_false])
                                    rw [hnm] at HNM
                                    rw [hkn] at HKW
                                    clear hnm hkd HYES HLN hkn
                                    go_wp2_with (first | (go_at_call 90; (with_reducible refine (uH HNM).mono ?_); rintro e w5 ⟨rfl, hc5⟩; have HC5 := hH hc5; (obtain ⟨g0, g1, g2, g3⟩ := uH HKN _ hc5); clear hc5) | (go_at_call 91; (with_reducible refine (uH HKW _ (uH HC5)).mono ?_); rintro e w6 ⟨rfl, hc6⟩; have HC6 := hH ((uH HC5).trans' hc6); clear hc6))
                                    go_roundw
                                    case rel => exact ⟨h + 1, by go_num, by omega, upto_step (P := fun n => lackN l n = false) (uH HALL4) (uH HN) (uH HNO), (uH HCHZ).trans' (uH HC6)⟩
                                    case measure => simp [intOf]; omega
                                  | false =>
                                    have HE := hH (uH HYES (by rw [uH HLN, hkn, hnm, hkb]; rfl))
                                    rw [hnm] at HNM
                                    rw [hkn] at HKW
                                    clear hnm hkd HYES HLN hkn
                                    go_wp2_with (first | (go_at_call 90; (with_reducible refine (uH HNM).mono ?_); rintro e w5 ⟨rfl, hc5⟩; have HC5 := hH hc5; (obtain ⟨g0, g1, g2, g3⟩ := uH HKN _ hc5); clear hc5) | (go_at_call 91; (with_reducible refine (uH HKW _ (uH HC5)).mono ?_); rintro e w6 ⟨rfl, hc6⟩; have HC6 := hH ((uH HC5).trans' hc6); clear hc6))
                                    go_ret
                                    exact ⟨retv (i64v (uH HE).symm), (uH HC4).trans' ((uH HCH4).trans' (uH HC6))⟩
                              · have hkb : (n.kind == 32) = false := beq_eq_false_iff_ne.2 hkd
                                have HNO := hH (show lackN l n = false by rw [uH HLN, hkb, Bool.false_and, Bool.false_and])
                                clear hkd HYES HLN HNM HKW HKN
                                go_wp2_with fail
                                go_roundw
                                case rel => exact ⟨h + 1, by go_num, by omega, upto_step (P := fun n => lackN l n = false) (uH HALL4) (uH HN) (uH HNO), uH HCHZ⟩
                                case measure => simp [intOf]; omega
                            · obtain rfl : h = t.length := by omega
                              have hhk : ¬ (t.length : Int) < (t.length : Int) := by omega
                              have HT := hH (show NoT l t from mem_all hall)
                              have HCH4 := hH ((uH HCH).trans' hch)
                              clear hall hch
                              go_wp2_with fail
                              go_roundw
                              case rel => exact ⟨m + 1, by go_num, by omega, upto_step (P := fun t => NoT l t) (uH HALL3) (uH HW) (uH HT), uH HCH4⟩
                              case measure => simp [intOf]; omega
                        · obtain rfl : m = x.args.length := by omega
                          have hmk : ¬ (x.args.length : Int) < (x.args.length : Int) := by omega
                          have HT := hH (show NoC l x from mem_all hall)
                          have HCH := hH hch
                          clear hall hch
                          go_wp2_with fail
                          go_roundw
                          case rel => exact ⟨k + 1, by go_num, by omega, upto_step (P := fun c => NoC l c) (uH HALL2) (uH HY) (uH HT), uH HCH⟩
                          case measure => simp [intOf]; omega
                    · obtain rfl : k = d.cons.length := by omega
                      have hkk : ¬ (d.cons.length : Int) < (d.cons.length : Int) := by omega
                      have HT := hH (show NoD l d from mem_all hall)
                      have HCH := hH hch
                      clear hall hch
                      go_wp2_with fail
                      go_roundw
                      case rel => exact ⟨i + 1, by go_num, by omega, upto_step (P := fun d => NoD l d) (uH HALL) (uH HX) (uH HT), uH HCH⟩
                      case measure => simp [intOf]; omega
                · obtain rfl : i = l.length := by omega
                  have hki : ¬ (l.length : Int) < (l.length : Int) := by omega
                  have HE := hH ((uH HLK).trans (if_neg (by rw [lackD_no (mem_all hall)]; simp)))
                  have HCH := hH hch
                  clear hall hch
                  go_wp2_with fail
                  go_ret
                  exact ⟨retv (i64v (uH HE).symm), (uH HC4).trans' (uH HCH)⟩
end Go.Proofs.YtinekmjengckdaaGreatDoor
