/-
  Layer 9, the document's side: a type with variables from 0 on.
-/
import Derived.Test.YtinekmjengckdaaGreatDoorA47
import Derived.Test.YtinekmjengckdaaGreatDoorA17
namespace Go.Proofs.YtinekmjengckdaaGreatDoor
open Go.RowKit
set_option maxHeartbeats 4000000
set_option maxRecDepth 100000
theorem idxI_at {l : List Int} {k : Nat} {x : Int} (hx : l[k]? = some x) (h : ∀ (j : Nat) (y : Int), j < k → l[j]? = some y → y ≠ x) : idxI l x = (k : Int) := by
  unfold idxI
  have hf : l.findIdx? (· = x) = some k := by
    rw [List.findIdx?_eq_some_iff_getElem]
    obtain ⟨hk, e⟩ := List.getElem?_eq_some_iff.1 hx
    refine ⟨hk, by simp [e], fun j hj => ?_⟩
    simp only [decide_eq_true_eq]
    exact h j _ hj (List.getElem?_eq_getElem (by omega))
  rw [hf]
theorem idxI_none {l : List Int} {x : Int} (h : x ∉ l) : idxI l x = -1 := by
  unfold idxI
  have hf : l.findIdx? (· = x) = none := by
    rw [List.findIdx?_eq_none_iff]
    intro y hy
    simp only [decide_eq_false_iff_not]
    rintro rfl
    exact h hy
  rw [hf]
theorem place_idx (l : List Int) (A : Option Addr) (c : Nat) (x : Int) (T : Nat → Prop) (w : World) (hr : Rd T w A (l.map intl)) (hn : l.length ≤ 1000000) :
    Calls Tryz.prog 94 #[.slice A l.length c, .int .i64 x] w fun e w' => e = .returned (.int .i64 (idxI l x)) ∧ Chg (fun _ => False) w w' := by
  have HR := hH hr
  clear hr
  go_enter Tryz.func94, Tryz.ntmps94
  go_wp2_with fail
  go_loopw [5] (fun t wr => ∃ k : Nat, t = .int .i64 (k : Int) ∧ k ≤ l.length ∧ (∀ (j : Nat) (y : Int), j < k → l[j]? = some y → y ≠ x) ∧ Chg (fun _ => False) w wr) (fun t _ => l.length - (intOf t).toNat)
  case atStart => exact ⟨0, rfl, Nat.zero_le _, fun j y h => absurd h (Nat.not_lt_zero _), Chg.refl _ _⟩
  case round =>
    obtain ⟨wq, rfl⟩ : ∃ wq : World, wq = wr := ⟨_, rfl⟩
    obtain ⟨k, rfl, hk, hall, hch⟩ := hrel
    have HALL := hH hall
    have HCH := hH hch
    by_cases hlt : k < l.length
    · have hki : (k : Int) < (l.length : Int) := by omega
      have hx : l[k]? = some l[k] := List.getElem?_eq_getElem hlt
      generalize l[k] = y at *
      have hne : l.map intl ≠ [] := by
        intro e
        have := congrArg List.length e
        simp at this
        rw [this] at hlt
        simp at hlt
      obtain ⟨b, o, rfl, _, hc⟩ := ((uH HR).chg hch (fun _ _ _ => id)).flat hne
      have c0 : wq.cell? ⟨b, o + k, none⟩ = some (.int .i64 y) := hc k _ (by rw [List.getElem?_map, hx]; rfl)
      have HX := hH hx
      clear hc hne hall hch hx
      by_cases hy : y = x
      · subst hy
        have HM := hH (idxI_at (uH HX) (uH HALL))
        go_wp2_with fail
        go_ret
        exact ⟨retv (intv (uH HM).symm), uH HCH⟩
      · have hyb : (y == x) = false := by rw [beq_eq_false_iff_ne]; exact hy
        have HY := hH hy
        clear hy
        go_wp2_with fail
        go_roundw
        case rel => exact ⟨k + 1, by go_num, by omega, fun j z hj hz => by
          rcases Nat.lt_or_ge j k with h | h
          · exact (uH HALL) j z h hz
          · obtain rfl : j = k := by omega
            have := (uH HX).symm.trans hz
            injection this with this
            subst this
            exact uH HY, uH HCH⟩
        case measure => simp [intOf]; omega
    · obtain rfl : k = l.length := by omega
      have hki : ¬ (l.length : Int) < (l.length : Int) := by omega
      have HM := hH (idxI_none (fun hm => by
        obtain ⟨j, hj⟩ := List.mem_iff_getElem?.1 hm
        exact hall j x (List.getElem?_eq_some_iff.1 hj).1 hj rfl))
      clear hall hch
      go_wp2_with fail
      go_ret
      exact ⟨retv (intv (uH HM).symm), uH HCH⟩
theorem canN_var {vs : List Int} {n : Nd} (h : n.kind = 31) : canN vs n = ⟨n.kind, n.text, idxI vs n.num, n.kids⟩ := by
  rw [canN, if_pos h, idx_eq]
theorem canN_con {vs : List Int} {n : Nd} (h : ¬ n.kind = 31) : canN vs n = n := by
  rw [canN, if_neg h]
theorem canN_next {vs : List Int} {t : List Nd} {k : Nat} {x : Nd} (hx : t[k]? = some x) : ((t.take (k + 1)).map (canN vs)).flatMap nd4 = ((t.take k).map (canN vs)).flatMap nd4 ++ nd4 (canN vs x) := by
  obtain ⟨hk, rfl⟩ := List.getElem?_eq_some_iff.1 hx
  rw [List.take_succ_eq_append_getElem hk, List.map_append, List.flatMap_append]
  simp
theorem can_ok {vs : List Int} {n : Nd} (h : ndOk n) : ndOk (canN vs n) := by
  unfold canN
  split
  · exact h
  · exact h
theorem refCanon_any (t : List Nd) (v : Value) (T : Nat → Prop) (w : World) (hr : RdN T w v t) (h4 : t.length ≤ 4000) :
    Calls Tryz.prog 44 #[v] w fun e w' => ∃ A c, e = .returned (.slice A t.length c) ∧ RdN (fun k => w.heap.size ≤ k) w' (.slice A t.length c) (canonL t) ∧ Chg (fun _ => False) w w' := by
  obtain ⟨A, c, rfl⟩ := hr.val
  obtain ⟨i_, hi, hz, hs, hb⟩ := info_parts infoNd
  have HV := hH (refVars_any t _ T w hr h4)
  have HR := hH hr
  have HVL := hH (vars_len t)
  have HCM := hH (canon_map t)
  generalize varsL t = vs at *
  clear hr
  go_enter Tryz.func44, Tryz.ntmps44
  go_wp2_with (go_at_call 93; (with_reducible refine (uH HV).mono ?_); rintro e w2 ⟨A2, c2, rfl, hrv, hc2⟩; have HRV := hH hrv; have HC2 := hH hc2; clear hrv hc2)
  have HO0 := hH (own_start (base := w2.heap.size) (size := 4) (Blk.new w2 59 #[]) (Nat.le_refl _))
  have HC0 := hH ((Chg.refl (fun _ => False) w2).alloc (.cells #[] 59))
  go_loopw [4, 5, 6] (fun out i _ wr => ∃ k : Nat, i = .int .i64 (k : Int) ∧ k ≤ t.length ∧ wr.ownsRow w2.heap.size 59 4 out k (((t.take k).map (canN vs)).flatMap nd4) ∧ Chg (fun _ => False) w2 wr) (fun _ i _ _ => t.length - (intOf i).toNat)
  case atStart => exact ⟨0, rfl, Nat.zero_le _, uH HO0, uH HC0⟩
  case round =>
    clear HO0 HC0
    obtain ⟨wq, rfl⟩ : ∃ wq : World, wq = wr := ⟨_, rfl⟩
    obtain ⟨k, rfl, hk, hown, hch⟩ := hrel
    by_cases hlt : k < t.length
    · have hki : (k : Int) < (t.length : Int) := by omega
      have hx : t[k]? = some t[k] := List.getElem?_eq_getElem hlt
      generalize t[k] = y at *
      obtain ⟨B6, c6, rfl⟩ := own_val hown
      obtain ⟨b, o, c3, hv, _, hok, d0, d1, d2, d3⟩ := RdN.at_ ((uH HR).chg ((uH HC2).trans' hch) (fun _ _ _ => id)) hx
      injection hv with hv1 hv2 hv3
      subst hv1 hv3
      clear hv2
      have HNX := hH (canN_next (vs := vs) hx)
      have hbx := Blk.new wq 59 #[.int .i64 y.kind, .string y.text, .int .i64 y.num, .int .i64 y.kids]
      have hcx : Chg (fun _ => False) wq (wq.alloc (.cells #[.int .i64 y.kind, .string y.text, .int .i64 y.num, .int .i64 y.kids] 59)) := (Chg.refl _ _).alloc _
      have hox := hown.alloc (.cells #[.int .i64 y.kind, .string y.text, .int .i64 y.num, .int .i64 y.kids] 59)
      generalize ((t.take k).map (canN vs)).flatMap nd4 = V at *
      have HSZ := hH (show wq.heap.size < (wq.alloc (.cells #[.int .i64 y.kind, .string y.text, .int .i64 y.num, .int .i64 y.kids] 59)).heap.size by rw [size_alloc]; omega)
      have HLO := hH hown.lt
      have hzq := (uH HC2).size
      have hm1 : k + 1 ≤ maxLen := by simp only [maxLen]; omega
      have hm2 : (k + 1) * 40 ≤ 140737488355328 := by omega
      by_cases hkd : y.kind = 31
      · have HNV := hH (canN_var (vs := vs) hkd)
        have hkb : (y.kind == 31) = true := by rw [hkd]; rfl
        have HKD := hH hkd
        clear hkd
        have HX0 := hH hx
        have HP := hH (fun W (hW : Chg (fun _ => False) w2 W) => place_idx vs A2 c2 y.num _ W ((uH HRV).chg hW (fun _ _ _ => id)) (by have := uH HVL; omega))
        have HOX := hH hox
        have HBX := hH hbx
        have HCX := hH (hch.trans' hcx)
        have HCQ := hH hch
        clear hown hch hbx hcx hox hx
        go_upto_region 6 with fail
        generalize hW1 : wq.alloc (.cells #[.int .i64 y.kind, .string y.text, .int .i64 y.num, .int .i64 y.kids] 59) = W1 at *
        have e0 := (uH HBX).cell 0
        have e1 := (uH HBX).cell 1
        have e2 := (uH HBX).cell 2
        have e3 := (uH HBX).cell 3
        simp only [List.getElem?_toArray, List.getElem?_cons_zero, List.getElem?_cons_succ] at e0 e1 e2 e3
        clear hW1 d0 d1 d2 d3
        go_upto_region 8 with (go_at_call 94; (with_reducible refine (uH HP _ (uH HCX)).mono ?_); rintro e w4 ⟨rfl, hc4⟩; have HC4 := hH hc4; have hb4 := (uH HBX).chg hc4 id; have f0 := hb4.cell 0; have f1 := hb4.cell 1; have f2 := hb4.cell 2; have f3 := hb4.cell 3; simp only [List.getElem?_toArray, List.getElem?_cons_zero, List.getElem?_cons_succ] at f0 f1 f2 f3; have hf2 := hb4.frozen 2; clear e0 e1 e2 e3; have HB4 := hH hb4; clear hc4 hb4)
        have HB5 := hH ((uH HB4).set_ 2 (.int .i64 (idxI vs y.num)))
        have HO5 := hH (own_chg (own_chg (uH HOX) (uH HC4) (fun _ _ h => h)) ((Chg.refl (· = wq.heap.size) w4).setCell (fun _ => rfl) (.int .i64 (idxI vs y.num)) (p := ⟨wq.heap.size, 2, none⟩)) (fun j hj e => by have := ((uH HLO) j hj).2; omega))
        have HC5 := hH (((uH HCX).trans' (uH HC4)).trans ((Chg.refl (· = wq.heap.size) w4).setCell (fun _ => rfl) (.int .i64 (idxI vs y.num)) (p := ⟨wq.heap.size, 2, none⟩)) (fun j hj e => by have := (uH HCQ).size; omega))
        generalize w4.setCell ⟨wq.heap.size, 2, none⟩ (.int .i64 (idxI vs y.num)) = W5 at *
        clear f0 f1 f2 f3 hf2 HB4
        have e0 := (uH HB5).cell 0
        have e1 := (uH HB5).cell 1
        have e2 := (uH HB5).cell 2
        have e3 := (uH HB5).cell 3
        simp only [List.setIfInBounds_toArray, List.set_cons_zero, List.set_cons_succ, List.getElem?_toArray, List.getElem?_cons_zero, List.getElem?_cons_succ] at e0 e1 e2 e3
        have HOW := hH ((uH HO5).alloc (.cells #[.int .i64 y.kind, .string y.text, .int .i64 (idxI vs y.num), .int .i64 y.kids] 59))
        have HRN := hH ((rd_new W5 W5.heap.size 59 [.int .i64 y.kind, .string y.text, .int .i64 (idxI vs y.num), .int .i64 y.kids] rfl).mono (T' := fun _ => True) (fun _ _ => trivial))
        have hbw : w2.heap.size ≤ (W5.alloc (.cells #[.int .i64 y.kind, .string y.text, .int .i64 (idxI vs y.num), .int .i64 y.kids] 59)).heap.size := by rw [size_alloc]; have := (uH HC5).size; omega
        go_wp2_with (at_builtin
                     refine wpList_append_rd _ rfl (.tmp 28) (.tmp 30) 54 rfl w2.heap.size 59 i_ (.agg #[.int .i64 0, .string ⟨#[]⟩, .int .i64 0, .int .i64 0]) 4 40 Tryz.underlying54 hi hz hs hb rfl (by decide) _ k _ rfl (uH HOW) (fun _ => True) (some ⟨W5.heap.size, 0, none⟩) 1 1 [.int .i64 y.kind, .string y.text, .int .i64 (idxI vs y.num), .int .i64 y.kids] rfl rfl (uH HRN) (by intro u hu; simp at hu; rcases hu with rfl | rfl | rfl | rfl <;> rfl) hm1 hm2 hbw ?_
                     intro v7 w7 ho7 hc7 hat
                     have HO7 := hH ho7
                     have HC7 := hH (((uH HC5).alloc (.cells #[.int .i64 y.kind, .string y.text, .int .i64 (idxI vs y.num), .int .i64 y.kids] 59)).trans hc7 (fun i hi e => by have := ((uH HLO) i e).1; omega))
                     clear ho7 hc7 hat)
        go_roundw
        case rel =>
          refine ⟨k + 1, by go_num, by omega, ?_, uH HC7⟩
          rw [uH HNX, uH HNV]
          exact uH HO7
        case measure => simp [intOf]; omega
      · have HNV := hH (canN_con (vs := vs) hkd)
        have hkb : (y.kind == 31) = false := beq_eq_false_iff_ne.2 hkd
        clear hkd
        have HX0 := hH hx
        have HBX := hH hbx
        have HC5 := hH (hch.trans' hcx)
        have HO5 := hH hox
        clear hown hch hbx hcx hox hx
        go_upto_region 6 with fail
        generalize hW1 : wq.alloc (.cells #[.int .i64 y.kind, .string y.text, .int .i64 y.num, .int .i64 y.kids] 59) = W1 at *
        have e0 := (uH HBX).cell 0
        have e1 := (uH HBX).cell 1
        have e2 := (uH HBX).cell 2
        have e3 := (uH HBX).cell 3
        simp only [List.getElem?_toArray, List.getElem?_cons_zero, List.getElem?_cons_succ] at e0 e1 e2 e3
        clear hW1 d0 d1 d2 d3
        have HOW := hH ((uH HO5).alloc (.cells #[.int .i64 y.kind, .string y.text, .int .i64 y.num, .int .i64 y.kids] 59))
        have HRN := hH ((rd_new W1 W1.heap.size 59 [.int .i64 y.kind, .string y.text, .int .i64 y.num, .int .i64 y.kids] rfl).mono (T' := fun _ => True) (fun _ _ => trivial))
        have hbw : w2.heap.size ≤ (W1.alloc (.cells #[.int .i64 y.kind, .string y.text, .int .i64 y.num, .int .i64 y.kids] 59)).heap.size := by rw [size_alloc]; have := (uH HC5).size; omega
        go_wp2_with (at_builtin
                     refine wpList_append_rd _ rfl (.tmp 28) (.tmp 30) 54 rfl w2.heap.size 59 i_ (.agg #[.int .i64 0, .string ⟨#[]⟩, .int .i64 0, .int .i64 0]) 4 40 Tryz.underlying54 hi hz hs hb rfl (by decide) _ k _ rfl (uH HOW) (fun _ => True) (some ⟨W1.heap.size, 0, none⟩) 1 1 [.int .i64 y.kind, .string y.text, .int .i64 y.num, .int .i64 y.kids] rfl rfl (uH HRN) (by intro u hu; simp at hu; rcases hu with rfl | rfl | rfl | rfl <;> rfl) hm1 hm2 hbw ?_
                     intro v7 w7 ho7 hc7 hat
                     have HO7 := hH ho7
                     have HC7 := hH (((uH HC5).alloc (.cells #[.int .i64 y.kind, .string y.text, .int .i64 y.num, .int .i64 y.kids] 59)).trans hc7 (fun i hi e => by have := ((uH HLO) i e).1; omega))
                     clear ho7 hc7 hat)
        go_roundw
        case rel =>
          refine ⟨k + 1, by go_num, by omega, ?_, uH HC7⟩
          rw [uH HNX, uH HNV]
          exact uH HO7
        case measure => simp [intOf]; omega
    · obtain rfl : k = t.length := by omega
      have hki : ¬ (t.length : Int) < (t.length : Int) := by omega
      obtain ⟨B6, c6, rfl⟩ := own_val hown
      have HCH := hH ((uH HC2).trans' hch)
      have hl : (canonL t).length = t.length := by rw [← uH HCM, List.length_map]
      have hrn : RdN (fun k => w.heap.size ≤ k) wq (.slice B6 (canonL t).length c6) (canonL t) := by
        refine RdN.mk ?_ (fun n hn => ?_) (by omega)
        · rw [← uH HCM]
          rw [List.take_length] at hown
          by_cases h0 : t.length = 0
          · obtain rfl := List.eq_nil_of_length_eq_zero h0
            exact Rd.nil_ _ _ _
          · exact (own_rd hown (by omega)).mono (fun k hk => by have := (hown.lt k hk).1; have := (uH HC2).size; omega)
        · rw [← uH HCM] at hn
          obtain ⟨x, hx, rfl⟩ := List.mem_map.1 hn
          obtain ⟨j, hj⟩ := List.mem_iff_getElem?.1 hx
          obtain ⟨_, _, _, _, _, hok, _⟩ := RdN.at_ (uH HR) hj
          exact can_ok hok
      rw [hl] at hrn
      have HRN := hH hrn
      clear hown hch hrn hl
      go_wp2_with fail
      go_ret
      exact ⟨B6, c6, rfl, uH HRN, uH HCH⟩
end Go.Proofs.YtinekmjengckdaaGreatDoor
