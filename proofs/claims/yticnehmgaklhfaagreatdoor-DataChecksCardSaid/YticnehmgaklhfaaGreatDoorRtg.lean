/-
  Layers 9 and 10, the document's side: the variables of a type; whether a text may be a name.
-/
import Derived.Test.YticnehmgaklhfaaGreatDoorVars
import Derived.Test.YticnehmgaklhfaaGreatDoorLexA
import Derived.Test.YticnehmgaklhfaaGreatDoorDtj
import Derived.Test.YticnehmgaklhfaaGreatDoorDth
namespace Go.Proofs.YticnehmgaklhfaaGreatDoor
open Go.RowKit
set_option maxHeartbeats 4000000
set_option maxRecDepth 100000
theorem refNamed_any (s : ByteArray) (w : World) (hs : s.size ≤ 9223372036854775807) : Calls Tryz.prog 26 #[.string s] w fun e w' => e = .returned (.bool (nameB 2 s)) ∧ Chg (fun _ => False) w w' := by
  have HR := hide (refRight_con s w hs)
  go_enter Tryz.func26, Tryz.ntmps26
  go_wp2_with (go_at_call 49; (with_reducible refine (unhide HR).mono ?_); rintro e w2 ⟨rfl, hc2⟩; have HC2 := hide hc2; clear hc2)
  go_ret
  exact ⟨rfl, unhide HC2⟩
theorem place_any (l : List Int) (A : Option Addr) (c : Nat) (x : Int) (T : Nat → Prop) (w : World) (hr : Rd T w A (l.map intl)) (hn : l.length ≤ 1000000) :
    Calls Tryz.prog 79 #[.slice A l.length c, .int .i64 x] w fun e w' => ∃ r : Int, e = .returned (.int .i64 r) ∧ (r < 0 ↔ x ∉ l) ∧ Chg (fun _ => False) w w' := by
  have HR := hide hr
  clear hr
  go_enter Tryz.func79, Tryz.ntmps79
  go_wp2_with fail
  go_loopw [5] (fun t wr => ∃ k : Nat, t = .int .i64 (k : Int) ∧ k ≤ l.length ∧ (∀ (j : Nat) (y : Int), j < k → l[j]? = some y → y ≠ x) ∧ Chg (fun _ => False) w wr) (fun t _ => l.length - (intOf t).toNat)
  case atStart => exact ⟨0, rfl, Nat.zero_le _, fun j y h => absurd h (Nat.not_lt_zero _), Chg.refl _ _⟩
  case round =>
    obtain ⟨wq, rfl⟩ : ∃ wq : World, wq = wr := ⟨_, rfl⟩
    obtain ⟨k, rfl, hk, hall, hch⟩ := hrel
    have HALL := hide hall
    have HCH := hide hch
    by_cases hlt : k < l.length
    · have hki : (k : Int) < (l.length : Int) := by omega
      have hx : l[k]? = some l[k] := List.getElem?_eq_getElem hlt
      generalize l[k] = y at *
      have hne : l.map intl ≠ [] := by
        intro e
        have := congrArg List.length e
        simp at this
        rw [this] at hlt
        simp at hlt
      obtain ⟨b, o, rfl, _, hc⟩ := ((unhide HR).chg hch (fun _ _ _ => id)).flat hne
      have c0 : wq.cell? ⟨b, o + k, none⟩ = some (.int .i64 y) := hc k _ (by rw [List.getElem?_map, hx]; rfl)
      have HX := hide hx
      clear hc hne hall hch hx
      by_cases hy : y = x
      · subst hy
        have HM := hide (show y ∈ l from List.mem_of_getElem? (unhide HX))
        go_wp2_with fail
        go_ret
        exact ⟨(k : Int), rfl, ⟨fun h => absurd h (by omega), fun h => absurd (unhide HM) h⟩, unhide HCH⟩
      · have hyb : (y == x) = false := by rw [beq_eq_false_iff_ne]; exact hy
        have HY := hide hy
        clear hy
        go_wp2_with fail
        go_roundw
        case rel => exact ⟨k + 1, by go_num, by omega, fun j z hj hz => by
          rcases Nat.lt_or_ge j k with h | h
          · exact (unhide HALL) j z h hz
          · obtain rfl : j = k := by omega
            have := (unhide HX).symm.trans hz
            injection this with this
            subst this
            exact unhide HY, unhide HCH⟩
        case measure => simp [intOf]; omega
    · obtain rfl : k = l.length := by omega
      have hki : ¬ (l.length : Int) < (l.length : Int) := by omega
      clear hall hch
      go_wp2_with fail
      go_ret
      exact ⟨-1, rfl, ⟨fun _ hm => by
        obtain ⟨j, hj⟩ := List.mem_iff_getElem?.1 hm
        exact (unhide HALL) j x (List.getElem?_eq_some_iff.1 hj).1 hj rfl, fun _ => by omega⟩, unhide HCH⟩
theorem refVars_any (l : List Nd) (v : Value) (T : Nat → Prop) (w : World) (hr : RdN T w v l) (h4 : l.length ≤ 4000) :
    Calls Tryz.prog 56 #[v] w fun e w' => ∃ A c, e = .returned (.slice A (varsL l).length c) ∧ Rd (fun k => w.heap.size ≤ k) w' A ((varsL l).map intl) ∧ Chg (fun _ => False) w w' := by
  obtain ⟨A, c, rfl⟩ := hr.val
  obtain ⟨i3, hi3, hz3', hs3, hb3⟩ := info_parts info3
  have HR := hide hr
  have HV2 := hide (show varsL l = varsL l from rfl)
  generalize hRR : varsL l = R at *
  have HO0 := hide (own_start (base := w.heap.size) (size := 1) (Blk.new w 3 #[]) (Nat.le_refl _))
  have HC0 := hide ((Chg.refl (fun _ => False) w).alloc (.cells #[] 3))
  have HRR := hide hRR
  clear hr HV2 hRR
  go_enter Tryz.func56, Tryz.ntmps56
  go_upto_region 3 with fail
  go_loopw [3, 4] (fun out i wr => ∃ k : Nat, i = .int .i64 (k : Int) ∧ k ≤ l.length ∧ wr.ownsRow w.heap.size 3 1 out (varsL (l.take k)).length ((varsL (l.take k)).map intl) ∧ Chg (fun _ => False) w wr) (fun _ i _ => l.length - (intOf i).toNat)
  case atStart => exact ⟨0, rfl, Nat.zero_le _, unhide HO0, unhide HC0⟩
  case round =>
    clear HO0 HC0
    obtain ⟨wq, rfl⟩ : ∃ wq : World, wq = wr := ⟨_, rfl⟩
    obtain ⟨k, rfl, hk, hown, hch⟩ := hrel
    obtain ⟨B, c5, rfl⟩ := own_val hown
    by_cases hlt : k < l.length
    · have hki : (k : Int) < (l.length : Int) := by omega
      have hx : l[k]? = some l[k] := List.getElem?_eq_getElem hlt
      have hsn : varsL (l.take (k + 1)) = if l[k].kind = 31 ∧ l[k].num ∉ varsL (l.take k) then varsL (l.take k) ++ [l[k].num] else varsL (l.take k) := by
        rw [List.take_succ_eq_append_getElem hlt]
        exact varsG_snoc _ _ _
      have hvl : (varsL (l.take k)).length ≤ 4000 := by
        have := varsG_len (l.take k) []
        rw [List.length_take, List.length_nil] at this
        unfold varsL
        omega
      generalize l[k] = x at *
      obtain ⟨b, o, c2, hv, _, _, c0, c1, c3, c4⟩ := ((unhide HR).chg hch (fun _ _ _ => id)).at_ hx
      injection hv with hv1 hv2 hv3
      subst hv1 hv3
      clear hv2
      have HOWN := hide hown
      have HCH := hide hch
      have HSN := hide hsn
      generalize hvv : varsL (l.take k) = V at *
      have HK := hide (fun W (hW : Chg (fun _ => False) wq W) => (hW.cell (World.block_lt_of_cell? wq _ c3) id).trans c3)
      have HD := hide (place_any V B c5 x.num _ wq (own_rd hown (by omega)) (by omega))
      clear hown hch hsn hx hvv c1 c4
      by_cases hkd : x.kind = 31
      · rw [hkd] at c0
        by_cases hm : x.num ∈ V
        · have HS2 := hide (show varsL (l.take (k + 1)) = V from by rw [unhide HSN, if_neg (fun h => h.2 hm)])
          have HM := hide hm
          clear hm hkd
          go_wp2_with (go_at_call 79; (with_reducible refine (unhide HD).mono ?_); rintro e w4 ⟨r, rfl, hr4, hc4⟩; have hrn : decide (r < 0) = false := (decide_eq_false (fun h => (hr4.1 h) (unhide HM))); have hrm : ¬ r < 0 := (fun h => (hr4.1 h) (unhide HM)); clear hr4; have HC4 := hide hc4; clear hc4)
          go_roundw
          case rel => exact ⟨k + 1, by go_num, by omega, by rw [unhide HS2]; exact own_chg (unhide HOWN) (unhide HC4) (fun _ _ h => h), (unhide HCH).trans' (unhide HC4)⟩
          case measure => simp [intOf]; omega
        · have HS2 := hide (show varsL (l.take (k + 1)) = V ++ [x.num] from by rw [unhide HSN, if_pos ⟨hkd, hm⟩])
          have HM := hide hm
          have hm1 : V.length + 1 ≤ maxLen := by simp only [maxLen]; omega
          have hm2 : (V.length + 1) * 8 ≤ 140737488355328 := by omega
          have ho1 : ∀ u ∈ [intl x.num], u.oneCell' = true := by intro u hu; simp at hu; subst hu; rfl
          have HRN := hide (fun W : World => (rd_new W W.heap.size 3 [intl x.num] rfl).mono (T' := fun _ => True) (fun _ _ => trivial))
          clear hm hkd
          go_wp2_with (first
            | (go_at_call 79; (with_reducible refine (unhide HD).mono ?_); rintro e w4 ⟨r, rfl, hr4, hc4⟩; have hrn : decide (r < 0) = true := (decide_eq_true (hr4.2 (unhide HM))); have hrm : r < 0 := hr4.2 (unhide HM); have c6 := unhide HK _ hc4; clear hr4; have HC4 := hide hc4; have HO4 := hide (own_chg (unhide HOWN) hc4 (fun _ _ h => h)); (have hb4 : w.heap.size ≤ (w4.alloc (.cells #[.int .i64 x.num] 3)).heap.size := ((unhide HCH).trans' (hc4.alloc (.cells #[.int .i64 x.num] 3))).size); clear hc4)
            | (at_builtin
               refine wpList_append_rd _ rfl (.tmp 28) (.tmp 34) 72 rfl w.heap.size 3 i3 (.int .i64 0) 1 8 Tryz.underlying72 hi3 hz3' hs3 hb3 rfl (Nat.succ_pos 0) _ V.length _ rfl ((unhide HO4).alloc _) (fun _ => True) (some ⟨w4.heap.size, 0, none⟩) 1 1 [intl x.num] rfl rfl ((unhide HRN) w4) ho1 hm1 hm2 hb4 ?_
               intro v5 w5 ho5 hc5 hat
               have HO5 := hide ho5
               have HC5 := hide (((unhide HCH).trans' (unhide HC4)).trans (((Chg.refl (fun k => (Value.slice B V.length c5).ownBlock = some k) w4).alloc (.cells #[.int .i64 x.num] 3)).trans hc5 (fun _ _ h => h)) (fun i hi e => by have := ((unhide HO4).lt i e).1; omega))
               clear ho5 hc5 hat))
          go_roundw
          case rel =>
            refine ⟨k + 1, by go_num, by omega, ?_, unhide HC5⟩
            rw [unhide HS2, List.map_append, List.length_append]
            exact unhide HO5
          case measure => simp [intOf]; omega
      · have HS2 := hide (show varsL (l.take (k + 1)) = V from by rw [unhide HSN, if_neg (fun h => hkd h.1)])
        have hkf : (x.kind == 31) = false := beq_eq_false_iff_ne.2 hkd
        clear hkd
        go_wp2_with fail
        go_roundw
        case rel => exact ⟨k + 1, by go_num, by omega, by rw [unhide HS2]; exact unhide HOWN, unhide HCH⟩
        case measure => simp [intOf]; omega
    · obtain rfl : k = l.length := by omega
      have hki : ¬ (l.length : Int) < (l.length : Int) := by omega
      have HOWN := hide hown
      have HCH := hide hch
      have ht : varsL (l.take l.length) = R := by rw [List.take_length]; exact unhide HRR
      have HT := hide ht
      clear hown hch ht
      go_wp2_with fail
      go_ret
      have hT := unhide HT
      have hO := unhide HOWN
      rw [hT] at hO
      exact ⟨B, ⟨c5, by rw [← hT, List.take_length]; rfl⟩, (own_rd hO (by omega)).mono (fun k hk => (hO.lt k hk).1), unhide HCH⟩
end Go.Proofs.YticnehmgaklhfaaGreatDoor
