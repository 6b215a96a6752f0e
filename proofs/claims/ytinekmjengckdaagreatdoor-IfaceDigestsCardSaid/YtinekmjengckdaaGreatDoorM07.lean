/-
  Layer 9, the program's side: the variables of a type.
-/
import Derived.Test.YtinekmjengckdaaGreatDoorM06
namespace Go.Proofs.YtinekmjengckdaaGreatDoor
open Go.RowKit
set_option maxHeartbeats 4000000
set_option maxRecDepth 100000
theorem index_int (l : List Int) (A : Option Addr) (c : Nat) (x : Int) (T : Nat → Prop) (w : World) (hr : Rd T w A (l.map intl)) (hn : l.length ≤ 1000000) :
    Calls Tryz.prog 100 #[.slice A l.length c, .int .i64 x] w fun e w' => e = .returned (.int .i64 (idxP (fun y => x == y) l)) ∧ Chg (fun _ => False) w w' := by
  have HR := hide hr
  have HNO := hide (idxP_none (p := fun y => x == y) (l := l))
  have HHE := hide (fun k z => idxP_here (p := fun y => x == y) (l := l) (k := k) (x := z))
  generalize idxP (fun y => x == y) l = R at *
  clear hr
  go_enter Tryz.func100, Tryz.ntmps100
  go_wp2_with fail
  go_loopw [8] (fun i wr => ∃ k : Nat, i = .int .i64 (k : Int) ∧ k ≤ l.length ∧ (∀ j y, j < k → l[j]? = some y → (x == y) = false) ∧ Chg (fun _ => False) w wr) (fun i _ => l.length - (intOf i).toNat)
  case atStart => exact ⟨0, rfl, Nat.zero_le _, fun j y h => absurd h (Nat.not_lt_zero _), Chg.refl _ _⟩
  case round =>
    obtain ⟨wq, rfl⟩ : ∃ wq : World, wq = wr := ⟨_, rfl⟩
    obtain ⟨k, rfl, hk, hall, hch⟩ := hrel
    by_cases hlt : k < l.length
    · have hki : (k : Int) < (l.length : Int) := by omega
      have hx : l[k]? = some l[k] := List.getElem?_eq_getElem hlt
      obtain ⟨b, o, rfl, _, hat⟩ := ((unhide HR).chg hch (fun _ _ _ => id)).flat (by intro e; have := congrArg List.length e; rw [List.length_map, List.length_nil] at this; omega)
      have c0 := hat k (intl l[k]) (by rw [List.getElem?_map, hx]; rfl)
      unfold intl at c0
      generalize l[k] = z at *
      have HALL := hide hall
      have HX := hide hx
      have HCH := hide hch
      cases hp : (x == z)
      · have HP := hide hp
        clear hall hx hch hat
        go_wp2_with fail
        go_roundw
        case rel =>
          exact ⟨k + 1, by go_num, by omega, fun j y hj hy => by
            rcases Nat.lt_or_ge j k with h | h
            · exact (unhide HALL) j y h hy
            · obtain rfl : j = k := by omega
              have := (unhide HX).symm.trans hy
              injection this with this
              rw [← this]
              exact unhide HP, unhide HCH⟩
        case measure => simp [intOf]; omega
      · have HF := hide ((unhide HHE) k z hx hp hall)
        clear hall hx hch hat
        go_wp2_with fail
        go_ret
        exact ⟨retv (intv (unhide HF).symm), unhide HCH⟩
    · obtain rfl : k = l.length := by omega
      have hki : ¬ (l.length : Int) < (l.length : Int) := by omega
      have HF := hide ((unhide HNO) (fun j y hy => hall j y (List.getElem?_eq_some_iff.1 hy).1 hy))
      have HCH := hide hch
      clear hall hch
      go_wp2_with fail
      go_ret
      exact ⟨retv (intv (unhide HF).symm), unhide HCH⟩
theorem contains_int (l : List Int) (A : Option Addr) (c : Nat) (x : Int) (T : Nat → Prop) (w : World) (hr : Rd T w A (l.map intl)) (hn : l.length ≤ 1000000) :
    Calls Tryz.prog 145 #[.slice A l.length c, .int .i64 x] w fun e w' => e = .returned (.bool (l.any fun y => x == y)) ∧ Chg (fun _ => False) w w' := by
  have HI := hide (index_int l A c x T w hr hn)
  have ha := idxP_any (fun y => x == y) l
  generalize idxP (fun y => x == y) l = R at *
  generalize l.any (fun y => x == y) = B at *
  clear hr
  have HA := hide ha
  clear ha
  go_enter Tryz.func145, Tryz.ntmps145
  go_wp2_with (go_at_call 100; refine (unhide HI).mono ?_; rintro e w2 ⟨rfl, hc2⟩; have HC2 := hide hc2; clear hc2)
  go_ret
  exact ⟨retv (boolv (unhide HA)), unhide HC2⟩
def varsR (l : List Nd) : List Int := if typB l then varsL l else []
theorem varsG_snoc (x : Nd) : ∀ (l : List Nd) (out : List Int), varsG out (l ++ [x]) = if x.kind = 31 ∧ x.num ∉ varsG out l then varsG out l ++ [x.num] else varsG out l
  | [], out => by
    rw [List.nil_append]
    unfold varsG varsG
    rfl
  | y :: l, out => by
    rw [List.cons_append, varsG, varsG]
    split
    · exact varsG_snoc x l _
    · exact varsG_snoc x l _
theorem varsG_len : ∀ (l : List Nd) (out : List Int), (varsG out l).length ≤ out.length + l.length
  | [], out => by simp [varsG]
  | y :: l, out => by
    unfold varsG
    split
    · have := varsG_len l (out ++ [y.num])
      rw [List.length_append, List.length_singleton] at this
      simp only [List.length_cons]
      omega
    · have := varsG_len l out
      simp only [List.length_cons]
      omega
theorem any_mem (l : List Int) (x : Int) : (l.any fun y => x == y) = decide (x ∈ l) := by
  rw [Bool.eq_iff_iff, List.any_eq_true, decide_eq_true_eq]
  constructor
  · rintro ⟨y, hy, h⟩
    rw [eq_of_beq h]
    exact hy
  · intro h
    exact ⟨x, h, beq_self_eq_true x⟩
theorem vars_any (l : List Nd) (v : Value) (T : Nat → Prop) (w : World) (hr : RdN T w v l) (hl : Lay w) :
    Calls Tryz.prog 97 #[v] w fun e w' => ∃ A c, e = .returned (.slice A (varsR l).length c) ∧ Rd (fun k => w.heap.size ≤ k) w' A ((varsR l).map intl) ∧ Chg (fun _ => False) w w' := by
  have HC := hide (check_any l v T w hr hl)
  have HV := hide (show varsR l = if typB l then varsL l else [] from rfl)
  cases ht : typB l
  · have hE : typE l = 90 := by unfold typE; rw [ht]; rfl
    rw [hE] at HC
    rw [ht] at HV
    obtain ⟨A, c, rfl⟩ := hr.val
    generalize varsR l = R at *
    obtain rfl : R = [] := unhide HV
    clear hr hl hE ht
    go_enter Tryz.func97, Tryz.ntmps97
    go_wp2_with (go_at_call 98; refine (unhide HC).mono ?_; rintro e w2 ⟨rfl, hc2⟩; have HC2 := hide hc2; clear hc2)
    go_ret
    exact ⟨none, 0, rfl, Rd.nil_ _ _ _, unhide HC2⟩
  · have hE : typE l = 0 := by unfold typE; rw [ht]; rfl
    rw [hE] at HC
    rw [ht] at HV
    have h4 : l.length ≤ 4000 := by
      unfold typB at ht
      simp only [Bool.and_eq_true, decide_eq_true_eq] at ht
      exact ht.1.1
    obtain ⟨A, c, rfl⟩ := hr.val
    obtain ⟨i3, hi3, hz3', hs3, hb3⟩ := info_parts info3
    have HR := hide hr
    have HV2 := hide (show varsR l = varsL l from unhide HV)
    generalize varsR l = R at *
    clear hr hl hE ht HV
    go_enter Tryz.func97, Tryz.ntmps97
    go_wp2_with (go_at_call 98; refine (unhide HC).mono ?_; rintro e w2 ⟨rfl, hc2⟩; have HC2 := hide hc2; clear hc2)
    go_loopw [3, 11] (fun out i wr => ∃ k : Nat, i = .int .i64 (k : Int) ∧ k ≤ l.length ∧ wr.ownsRow w.heap.size 3 1 out (varsL (l.take k)).length ((varsL (l.take k)).map intl) ∧ Chg (fun _ => False) w wr) (fun _ i _ => l.length - (intOf i).toNat)
    case atStart => exact ⟨0, rfl, Nat.zero_le _, World.ownsRow_nil _ _ _ _, unhide HC2⟩
    case round =>
      obtain ⟨wq, rfl⟩ : ∃ wq : World, wq = wr := ⟨_, rfl⟩
      obtain ⟨k, rfl, hk, hown, hch⟩ := hrel
      obtain ⟨B, c5, rfl⟩ := own_val hown
      by_cases hlt : k < l.length
      · have hki : (k : Int) < (l.length : Int) := by omega
        have hx : l[k]? = some l[k] := List.getElem?_eq_getElem hlt
        have hsn : varsL (l.take (k + 1)) = if l[k].kind = 31 ∧ l[k].num ∉ varsL (l.take k) then varsL (l.take k) ++ [l[k].num] else varsL (l.take k) := by
          rw [List.take_succ_eq_append_getElem hlt]
          exact varsG_snoc _ _ _
        have hvl : (varsL (l.take k)).length ≤ 4000 := by
          have := varsG_len (l.take k) []
          rw [List.length_take, List.length_nil] at this
          unfold varsL
          omega
        generalize l[k] = x at *
        obtain ⟨b, o, c2, hv, _, _, c0, c1, c3, c4⟩ := ((unhide HR).chg hch (fun _ _ _ => id)).at_ hx
        injection hv with hv1 hv2 hv3
        subst hv1 hv3
        have HOWN := hide hown
        have HCH := hide hch
        have HSN := hide hsn
        generalize hvv : varsL (l.take k) = V at *
        have HVV := hide hvv
        clear hown hch hsn hx hvv
        go_upto_region 7 with fail
        have bk := Blk.new wq 59 #[.int .i64 x.kind, .string x.text, .int .i64 x.num, .int .i64 x.kids]
        have hc3 : Chg (fun _ => False) wq (wq.alloc (.cells #[.int .i64 x.kind, .string x.text, .int .i64 x.num, .int .i64 x.kids] 59)) := (Chg.refl _ wq).alloc _
        have ho3 := (unhide HOWN).alloc (.cells #[.int .i64 x.kind, .string x.text, .int .i64 x.num, .int .i64 x.kids] 59)
        have hz3 := hc3.size
        generalize wq.alloc (.cells #[.int .i64 x.kind, .string x.text, .int .i64 x.num, .int .i64 x.kids] 59) = w3 at *
        generalize wq.heap.size = nb at *
        have x0 := bk.cell 0
        have x2 := bk.cell 2
        simp only [List.getElem?_toArray, List.getElem?_cons_zero, List.getElem?_cons_succ] at x0 x2
        have HBK := hide bk
        have HC3 := hide ((unhide HCH).trans' hc3)
        have HO3 := hide ho3
        have HD := hide (contains_int V B c5 x.num _ w3 (own_rd ho3 (by omega)) (by omega))
        rw [any_mem] at HD
        clear bk hc3 ho3 c0 c1 c3 c4
        by_cases hkd : x.kind = 31
        · rw [hkd] at x0
          by_cases hm : x.num ∈ V
          · have HS2 := hide (show varsL (l.take (k + 1)) = V from by rw [unhide HSN, if_neg (fun h => h.2 hm)])
            rw [decide_eq_true hm] at HD
            clear hm hkd
            go_wp2_with (go_at_call 145; refine (unhide HD).mono ?_; rintro e w4 ⟨rfl, hc4⟩; have HC4 := hide hc4; clear hc4)
            go_roundw
            case rel => exact ⟨k + 1, by go_num, by omega, by rw [unhide HS2]; exact own_chg (unhide HO3) (unhide HC4) (fun _ _ h => h), (unhide HC3).trans' (unhide HC4)⟩
            case measure => simp [intOf]; omega
          · have HS2 := hide (show varsL (l.take (k + 1)) = V ++ [x.num] from by rw [unhide HSN, if_pos ⟨hkd, hm⟩])
            rw [decide_eq_false hm] at HD
            have hm1 : V.length + 1 ≤ maxLen := by simp only [maxLen]; omega
            have hm2 : (V.length + 1) * 8 ≤ 140737488355328 := by omega
            have ho1 : ∀ u ∈ [intl x.num], u.oneCell' = true := by intro u hu; simp at hu; subst hu; rfl
            have HRN := hide (fun W : World => (rd_new W W.heap.size 3 [intl x.num] rfl).mono (T' := fun _ => True) (fun _ _ => trivial))
            clear hm hkd
            go_wp2_with (first
              | (go_at_call 145; refine (unhide HD).mono ?_; rintro e w4 ⟨rfl, hc4⟩; have HC4 := hide hc4; have y2 := ((unhide HBK).chg hc4 id).cell 2; simp only [List.getElem?_toArray, List.getElem?_cons_zero, List.getElem?_cons_succ] at y2; have HO4 := hide (own_chg (unhide HO3) hc4 (fun _ _ h => h)); (have hb4 : w.heap.size ≤ (w4.alloc (.cells #[.int .i64 x.num] 3)).heap.size := by (rw [size_alloc]; have h1 := (unhide HC3).size; have h2 := hc4.size; omega)); clear hc4)
              | (at_builtin
                 refine wpList_append_rd _ rfl (.tmp 25) (.tmp 28) 139 rfl w.heap.size 3 i3 (.int .i64 0) 1 8 Tryz.underlying139 hi3 hz3' hs3 hb3 rfl (Nat.succ_pos 0) _ V.length _ rfl ((unhide HO4).alloc _) (fun _ => True) (some ⟨w4.heap.size, 0, none⟩) 1 1 [intl x.num] rfl rfl ((unhide HRN) w4) ho1 hm1 hm2 hb4 ?_
                 intro v5 w5 ho5 hc5 hat
                 have HO5 := hide ho5
                 have HC5 := hide (((unhide HC3).trans' (unhide HC4)).trans (((Chg.refl (fun k => (Value.slice B V.length c5).ownBlock = some k) w4).alloc (.cells #[.int .i64 x.num] 3)).trans hc5 (fun _ _ h => h)) (fun i hi e => by have := ((unhide HO4).lt i e).1; omega))
                 clear ho5 hc5 hat))
            go_roundw
            case rel =>
              refine ⟨k + 1, by go_num, by omega, ?_, unhide HC5⟩
              rw [unhide HS2, List.map_append, List.length_append]
              exact unhide HO5
            case measure => simp [intOf]; omega
        · have HS2 := hide (show varsL (l.take (k + 1)) = V from by rw [unhide HSN, if_neg (fun h => hkd h.1)])
          have hkf : (x.kind == 31) = false := beq_eq_false_iff_ne.2 hkd
          clear hkd
          go_wp2_with fail
          go_roundw
          case rel => exact ⟨k + 1, by go_num, by omega, by rw [unhide HS2]; exact unhide HO3, unhide HC3⟩
          case measure => simp [intOf]; omega
      · obtain rfl : k = l.length := by omega
        have hki : ¬ (l.length : Int) < (l.length : Int) := by omega
        have HOWN := hide hown
        have HCH := hide hch
        have ht : varsL (l.take l.length) = R := by rw [List.take_length]; exact (unhide HV2).symm
        have HT := hide ht
        clear hown hch ht
        go_wp2_with fail
        go_ret
        have hT := unhide HT
        have hO := unhide HOWN
        rw [hT] at hO
        exact ⟨B, ⟨c5, by rw [← hT, List.take_length]; rfl⟩, (own_rd hO (by omega)).mono (fun k hk => (hO.lt k hk).1), unhide HCH⟩
end Go.Proofs.YtinekmjengckdaaGreatDoor
