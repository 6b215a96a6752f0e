/-
  Layers 10 and 23: what a byte is; the words of the language; which tokens may be: the document's side.
-/
import Derived.Test.YtinekmjengckdaaGreatDoorA04
namespace Go.Proofs.YtinekmjengckdaaGreatDoor
open Go.RowKit
set_option maxHeartbeats 2000000
set_option maxRecDepth 100000
theorem is_any (c : Nat) (w : World) (hc : c < 256) : Calls Tryz.prog 133 #[.int .u8 (c : Int)] w fun e w' => e = .returned (.int .i64 (isB c)) ∧ w = w' := by
  have HI := hH (isB_rest c)
  have H5 := hH (show c ∈ sgL → isB c = 5 from fun h => if_pos h)
  generalize isB c = I at *
  go_enter Tryz.func133, Tryz.ntmps133
  go_wp2_with fail
  go_loop [4] (fun i => ∃ k : Nat, i = .int .i64 k ∧ k ≤ 16 ∧ ∀ j, j < k → sgL.getD j 0 ≠ c) (fun i => 16 - (intOf i).toNat)
  case atStart => exact ⟨0, rfl, by omega, fun j h => absurd h (by omega)⟩
  case round =>
    obtain ⟨k, rfl, hk, hall⟩ := hrel
    have HALL := hH hall
    clear hall
    by_cases hlt : k < 16
    · have hsg := sg_at k hlt
      have hm2 : sgL.getD k 0 ∈ sgL := by
        rw [List.getD_eq_getElem?_getD, List.getElem?_eq_getElem (show k < sgL.length from hlt)]
        exact List.getElem_mem _
      by_cases hs : sgL.getD k 0 = c
      · have hb : (((((⟨#[33, 36, 37, 38, 42, 43, 45, 47, 58, 60, 61, 62, 63, 64, 94, 124]⟩ : ByteArray)[k]'hlt).toNat : Nat) : Int) == (c : Int)) = true := by rw [hsg, hs, beq_iff_eq]
        have HF := hH ((uH H5) (hs ▸ hm2))
        clear HI H5 HALL hsg hm2 hs
        go_wp2_with fail
        go_ret
        exact ⟨retv (intv (uH HF).symm), rfl⟩
      · have hb : (((((⟨#[33, 36, 37, 38, 42, 43, 45, 47, 58, 60, 61, 62, 63, 64, 94, 124]⟩ : ByteArray)[k]'hlt).toNat : Nat) : Int) == (c : Int)) = false := by rw [hsg, beq_eq_false_iff_ne]; omega
        have HS := hH hs
        clear hsg hm2 hs
        go_wp2_with fail
        go_round
        case rel => exact ⟨k + 1, by go_num, by omega, fun j hj => by
          rcases Nat.lt_or_ge j k with h | h
          · exact (uH HALL) j h
          · obtain rfl : j = k := by omega
            exact uH HS⟩
        case measure => simp [intOf]; omega
    · obtain rfl : k = 16 := by omega
      have hr := (uH HI) (sg_notin c (uH HALL))
      clear HI H5 HALL hk hlt
      by_cases g1 : 97 ≤ c ∧ c ≤ 122
      · have HF := hH (show I = 1 by rw [hr, if_pos g1])
        obtain ⟨a1, a2⟩ := g1
        clear hr
        go_wp2_with fail
        go_ret
        exact ⟨retv (intv (uH HF).symm), rfl⟩
      rw [if_neg g1] at hr
      have d1 : (97 ≤ c ∧ ¬ c ≤ 122) ∨ ¬ 97 ≤ c := by omega
      clear g1
      by_cases g2 : 65 ≤ c ∧ c ≤ 90
      · have HF := hH (show I = 2 by rw [hr, if_pos g2])
        obtain ⟨a1, a2⟩ := g2
        clear hr
        have d2 : ¬ 97 ≤ c := by omega
        clear d1
        go_wp2_with fail
        go_ret
        exact ⟨retv (intv (uH HF).symm), rfl⟩
      rw [if_neg g2] at hr
      by_cases g3 : 48 ≤ c ∧ c ≤ 57
      · have HF := hH (show I = 3 by rw [hr, if_pos g3])
        obtain ⟨a1, a2⟩ := g3
        clear hr d1 g2
        go_wp2_with fail
        go_ret
        exact ⟨retv (intv (uH HF).symm), rfl⟩
      rw [if_neg g3] at hr
      by_cases g4 : c = 95
      · have HF := hH (show I = 4 by rw [hr, if_pos (.inl g4)])
        subst g4
        clear hr d1 g2 g3
        go_wp2_with fail
        go_ret
        exact ⟨retv (intv (uH HF).symm), rfl⟩
      by_cases g5 : c = 39
      · have HF := hH (show I = 4 by rw [hr, if_pos (.inr g5)])
        subst g5
        clear hr d1 g2 g3
        go_wp2_with fail
        go_ret
        exact ⟨retv (intv (uH HF).symm), rfl⟩
      · have HF := hH (show I = 0 by rw [hr, if_neg (by omega)])
        have b1 : ((c : Int) == 95) = false := by rw [beq_eq_false_iff_ne]; omega
        have b2 : ((c : Int) == 39) = false := by rw [beq_eq_false_iff_ne]; omega
        have hreg : (97 ≤ c ∧ 122 < c) ∨ (c < 97 ∧ 65 ≤ c ∧ 90 < c) ∨ (c < 65 ∧ 48 ≤ c ∧ 57 < c) ∨ c < 48 := by omega
        clear hr d1 g2 g3 g4 g5
        rcases hreg with ⟨h1, h2⟩ | ⟨h1, h2, h3⟩ | ⟨h1, h2, h3⟩ | h1
        all_goals
          go_wp2_with fail
          go_ret
          exact ⟨retv (intv (uH HF).symm), rfl⟩
theorem refWords_any (w : World) : Calls Tryz.prog 163 #[] w fun e w' => e = .returned (.slice (some ⟨w.heap.size, 0, none⟩) 25 25) ∧ w' = w.alloc (.cells (wordsBA.map Value.string).toArray 9) := by
  go_enter Tryz.func163, Tryz.ntmps163
  go_wp2_with fail
  go_ret
  exact ⟨rfl, rfl⟩
theorem refKey_any (s : ByteArray) (w : World) : Calls Tryz.prog 135 #[.string s] w fun e w' => e = .returned (.bool (keyB s)) ∧ Chg (fun _ => False) w w' := by
  go_enter Tryz.func135, Tryz.ntmps135
  go_wp2_with fail
  refine (refWords_any _).mono ?_
  rintro e w1 ⟨rfl, hw1⟩
  have hb : Blk w1 w.heap.size 9 (wordsBA.map Value.string).toArray := by rw [hw1]; exact Blk.new _ _ _
  have hc : Chg (fun _ => False) w w1 := by rw [hw1]; exact (Chg.refl _ _).alloc _
  have HB := hH hb
  have HC := hH hc
  clear hw1 hb hc
  try dsimp only
  go_wp2_with fail
  go_loop [4] (fun i => ∃ k : Nat, i = .int .i64 k ∧ k ≤ 25 ∧ ∀ j, j < k → wordsBA.getD j ByteArray.empty ≠ s) (fun i => 25 - (intOf i).toNat)
  case atStart => exact ⟨0, rfl, by omega, fun j h => absurd h (by omega)⟩
  case round =>
    obtain ⟨k, rfl, hk, hall⟩ := hrel
    have HALL := hH hall
    clear hall
    by_cases hlt : k < 25
    · have hx := (uH HB).cell' (i := k) (v := .string (wordsBA.getD k ByteArray.empty)) (by
        rw [List.getElem?_toArray, List.getElem?_map, List.getD_eq_getElem?_getD, List.getElem?_eq_getElem (show k < wordsBA.length from hlt)]; rfl)
      have hmem : wordsBA.getD k ByteArray.empty ∈ wordsBA := by
        rw [List.getD_eq_getElem?_getD, List.getElem?_eq_getElem (show k < wordsBA.length from hlt)]
        exact List.getElem_mem _
      generalize hy : wordsBA.getD k ByteArray.empty = y at *
      have HY := hH hy
      have HM := hH hmem
      clear hy hmem
      by_cases he : y = s
      · subst he
        go_wp2_with fail
        go_ret
        exact ⟨retv (boolv ((Lib.containsS_iff wordsBA y).2 (uH HM)).symm), uH HC⟩
      · have hne : (y.toList == s.toList) = false := by
          rw [beq_eq_false_iff_ne]
          exact fun h => he (bytes_eq h)
        have HE := hH he
        clear he
        go_wp2_with fail
        go_round
        case rel => exact ⟨k + 1, by go_num, by omega, fun j hj => by
          rcases Nat.lt_or_ge j k with h | h
          · exact (uH HALL) j h
          · obtain rfl : j = k := by omega
            rw [uH HY]
            exact uH HE⟩
        case measure => simp [intOf]; omega
    · obtain rfl : k = 25 := by omega
      have hno : keyB s = false := by
        rcases Bool.eq_false_or_eq_true (keyB s) with h | h
        · exfalso
          have hm := (Lib.containsS_iff wordsBA s).1 h
          obtain ⟨k, hk, e⟩ := List.getElem_of_mem hm
          have h2 : k < 25 := hk
          apply (uH HALL) k h2
          rw [List.getD_eq_getElem?_getD, List.getElem?_eq_getElem hk, e]
          rfl
        · exact h
      have HN := hH hno
      clear hno HALL
      go_wp2_with fail
      go_ret
      exact ⟨retv (boolv (uH HN).symm), uH HC⟩
theorem while_any (lo hi : Int) (s : ByteArray) (w : World) (hs : s.size ≤ 9223372036854775807) : Calls Tryz.prog 134 #[.string s, .int .i64 0, .int .i64 lo, .int .i64 hi] w fun e w' => e = .returned (.int .i64 (spanN lo hi s : Nat)) ∧ w = w' := by
  have HS := hH (span_stop (fun b : UInt8 => decide (lo ≤ isB b.toNat ∧ isB b.toNat ≤ hi)) s.data.toList)
  have hn : spanN lo hi s = (s.data.toList.takeWhile (fun b => decide (lo ≤ isB b.toNat ∧ isB b.toNat ≤ hi))).length := rfl
  generalize spanN lo hi s = N at *
  have HN := hH hn
  clear hn
  go_enter Tryz.func134, Tryz.ntmps134
  go_wp2_with fail
  go_loop [1] (fun i => ∃ k : Nat, i = .int .i64 k ∧ k ≤ s.size ∧ ∀ j (h : j < s.data.toList.length), j < k → decide (lo ≤ isB (s.data.toList[j]).toNat ∧ isB (s.data.toList[j]).toNat ≤ hi) = true) (fun i => s.size - (intOf i).toNat)
  case atStart => exact ⟨0, rfl, Nat.zero_le _, fun j h h2 => absurd h2 (by omega)⟩
  case round =>
    obtain ⟨k, rfl, hk, hall⟩ := hrel
    have HALL := hH hall
    clear hall
    by_cases hlt : k < s.size
    · have hl : k < s.data.toList.length := by simpa using hlt
      have hc := is_any (s[k]).toNat w (by have := (s[k]).toNat_lt; omega)
      have hin : isB (s.data.toList[k]).toNat = isB (s[k]).toNat := rfl
      generalize hv : isB (s[k]).toNat = v at *
      have HV := hH hv
      have HC := hH hc
      have hcase : (lo ≤ v ∧ v ≤ hi) ∨ (lo ≤ v ∧ hi < v) ∨ v < lo := by omega
      have HIN := hH hin
      clear hc hin hv
      rcases hcase with ⟨h1, h2⟩ | ⟨h1, h2⟩ | h1
      · go_wp2_with (go_at_call 133; refine (uH HC).mono ?_; rintro e w' ⟨rfl, rfl⟩)
        go_round
        case rel => exact ⟨k + 1, by go_num, by omega, fun j h hj => by
          rcases Nat.lt_or_ge j k with h3 | h3
          · exact (uH HALL) j h h3
          · obtain rfl : j = k := by omega
            rw [uH HIN]
            exact decide_eq_true (by first | exact ⟨h1, h2⟩ | (rw [uH HV]; exact ⟨h1, h2⟩))⟩
        case measure => simp [intOf]; omega
      all_goals
        have HF := hH (show N = k from (uH HN).trans ((uH HS) k (by simp; omega) (uH HALL) (fun h => by
          show decide (lo ≤ isB (s.data.toList[k]).toNat ∧ isB (s.data.toList[k]).toNat ≤ hi) = false
          rw [uH HIN]
          try rw [uH HV]
          exact decide_eq_false (by omega))))
        go_wp2_with (go_at_call 133; refine (uH HC).mono ?_; rintro e w' ⟨rfl, rfl⟩)
        go_ret
        exact ⟨retv (intv (by rw [uH HF])), rfl⟩
    · obtain rfl : k = s.size := by omega
      have HF := hH (show N = s.size from (uH HN).trans ((uH HS) s.size (by simp) (uH HALL) (fun h => absurd h (by simp))))
      go_wp2_with fail
      go_ret
      exact ⟨retv (intv (by rw [uH HF])), rfl⟩
theorem refRight_name (s : ByteArray) (w : World) (hs : s.size ≤ 9223372036854775807) : Calls Tryz.prog 92 #[.agg #[.int .i64 1, .string s, .int .i64 0, .int .i64 0]] w fun e w' => e = .returned (.bool (nameB 1 s)) ∧ Chg (fun _ => False) w w' := by
  have hE : nameB 1 s = (headK 1 s && allInner s && !keyB s) := rfl
  have hem := empty_iff s
  have hw := fun W => while_any 1 4 s W hs
  have hk := fun W => refKey_any s W
  have ha : ((spanN 1 4 s : Int) == (s.size : Int)) = allInner s := by
    have := span_all (fun b : UInt8 => innerB b.toNat) s.data.toList
    simpa [spanN, allInner, innerB] using this
  have hb := Blk.new w 138 #[.int .i64 1, .string s, .int .i64 0, .int .i64 0]
  have HC0 := hH ((Chg.refl (fun _ => False) w).alloc (.cells #[.int .i64 1, .string s, .int .i64 0, .int .i64 0] 138))
  have x0 := hb.cell 0
  have x1 := hb.cell 1
  have x2 := hb.cell 2
  simp only [List.getElem?_toArray, List.getElem?_cons_zero, List.getElem?_cons_succ] at x0 x1 x2
  have r0 := fun d os => cell_regrown x0 d os
  have r1 := fun d os => cell_regrown x1 d os
  have r2 := fun d os => cell_regrown x2 d os
  generalize nameB 1 s = E at *
  have HW := hH hw
  have HK := hH hk
  by_cases h0 : s.size = 0
  · have e1 : s.toList.isEmpty = true := by rw [hem]; exact decide_eq_true h0
    have e2 : (!s.toList.isEmpty) = false := by rw [e1]; rfl
    have HE := hH (show E = false by rw [hE, headK_none 1 s h0]; rfl)
    clear hE hem hw hk ha hb x0 x1 x2
    go_enter Tryz.func92, Tryz.ntmps92
    go_upto_region 7 with fail
    refine wp_region_quiet_below (by kernel_rfl) (by kernel_rfl) ?_
    repeat (any_goals (first | go_big_quiet_step (fail) | quiet_step (fail)))
    refine wpQuiet_nil ?_
    intro _ hw'
    obtain ⟨⟨dq, osq⟩, hw''⟩ := hw'
    subst hw''
    have HQ := hH (chg_regrown (w.alloc (.cells #[.int .i64 1, .string s, .int .i64 0, .int .i64 0] 138)) dq osq)
    generalize Go.Sort.grow (redrawn (w.alloc (.cells #[.int .i64 1, .string s, .int .i64 0, .int .i64 0] 138)) dq) osq = w2 at *
    clear r0 r1 r2
    try dsimp only
    go_wp2_with fail
    go_ret
    exact ⟨retv (boolv (uH HE).symm), (uH HC0).trans' (uH HQ)⟩
  · have e1 : s.toList.isEmpty = false := by rw [hem]; exact decide_eq_false h0
    have e2 : (!s.toList.isEmpty) = true := by rw [e1]; rfl
    have hpos : 0 < s.size := by omega
    have hh := headK_some 1 s hpos
    have hi := fun W => is_any (s[0]).toNat W (by have := (s[0]).toNat_lt; omega)
    generalize isB (s[0]).toNat = v at *
    generalize spanN 1 4 s = N at *
    generalize allInner s = al at *
    generalize keyB s = kb at *
    rw [hh] at hE
    have HI := hH hi
    cases hv : (v == 1) <;> cases al <;> cases kb
    all_goals
      have HE := hH hE
      rw [hv] at HE
      clear hE hem hw hk hb x0 x1 x2 hh hi
      go_enter Tryz.func92, Tryz.ntmps92
      go_upto_region 7 with fail
      refine wp_region_quiet_below (by kernel_rfl) (by kernel_rfl) ?_
      repeat (any_goals (first
        | go_big_quiet_step ((first | exact Calls.regrown_of (rq ((uH HK) _)) | exact Calls.regrown_of (rq (((uH HI) _).mono (fun _ _ h => ⟨h.1, h.2 ▸ Chg.refl _ _⟩))) | exact Calls.regrown_of (rq (((uH HW) _).mono (fun _ _ h => ⟨h.1, h.2 ▸ Chg.refl _ _⟩)))))
        | quiet_step ((first | exact Calls.regrown_of (rq ((uH HK) _)) | exact Calls.regrown_of (rq (((uH HI) _).mono (fun _ _ h => ⟨h.1, h.2 ▸ Chg.refl _ _⟩))) | exact Calls.regrown_of (rq (((uH HW) _).mono (fun _ _ h => ⟨h.1, h.2 ▸ Chg.refl _ _⟩)))))))
      refine wpQuiet_nil ?_
      intro _ hw'
      obtain ⟨⟨dq, osq⟩, hw''⟩ := hw'
      subst hw''
      have HQ := hH (chg_regrown (w.alloc (.cells #[.int .i64 1, .string s, .int .i64 0, .int .i64 0] 138)) dq osq)
      generalize Go.Sort.grow (redrawn (w.alloc (.cells #[.int .i64 1, .string s, .int .i64 0, .int .i64 0] 138)) dq) osq = w2 at *
      clear r0 r1 r2
      try dsimp only
      go_wp2_with fail
      go_ret
      exact ⟨retv (boolv (by rw [uH HE]; rfl)), (uH HC0).trans' (uH HQ)⟩
theorem refRight_con (s : ByteArray) (w : World) (hs : s.size ≤ 9223372036854775807) : Calls Tryz.prog 92 #[.agg #[.int .i64 2, .string s, .int .i64 0, .int .i64 0]] w fun e w' => e = .returned (.bool (nameB 2 s)) ∧ Chg (fun _ => False) w w' := by
  have hE : nameB 2 s = (headK 2 s && allInner s && !keyB s) := rfl
  have hem := empty_iff s
  have hw := fun W => while_any 1 4 s W hs
  have hk := fun W => refKey_any s W
  have ha : ((spanN 1 4 s : Int) == (s.size : Int)) = allInner s := by
    have := span_all (fun b : UInt8 => innerB b.toNat) s.data.toList
    simpa [spanN, allInner, innerB] using this
  have hb := Blk.new w 138 #[.int .i64 2, .string s, .int .i64 0, .int .i64 0]
  have HC0 := hH ((Chg.refl (fun _ => False) w).alloc (.cells #[.int .i64 2, .string s, .int .i64 0, .int .i64 0] 138))
  have x0 := hb.cell 0
  have x1 := hb.cell 1
  have x2 := hb.cell 2
  simp only [List.getElem?_toArray, List.getElem?_cons_zero, List.getElem?_cons_succ] at x0 x1 x2
  have r0 := fun d os => cell_regrown x0 d os
  have r1 := fun d os => cell_regrown x1 d os
  have r2 := fun d os => cell_regrown x2 d os
  generalize nameB 2 s = E at *
  have HW := hH hw
  have HK := hH hk
  by_cases h0 : s.size = 0
  · have e1 : s.toList.isEmpty = true := by rw [hem]; exact decide_eq_true h0
    have e2 : (!s.toList.isEmpty) = false := by rw [e1]; rfl
    have HE := hH (show E = false by rw [hE, headK_none 2 s h0]; rfl)
    clear hE hem hw hk ha hb x0 x1 x2
    go_enter Tryz.func92, Tryz.ntmps92
    go_upto_region 7 with fail
    refine wp_region_quiet_below (by kernel_rfl) (by kernel_rfl) ?_
    repeat (any_goals (first | go_big_quiet_step (fail) | quiet_step (fail)))
    refine wpQuiet_nil ?_
    intro _ hw'
    obtain ⟨⟨dq, osq⟩, hw''⟩ := hw'
    subst hw''
    have HQ := hH (chg_regrown (w.alloc (.cells #[.int .i64 2, .string s, .int .i64 0, .int .i64 0] 138)) dq osq)
    generalize Go.Sort.grow (redrawn (w.alloc (.cells #[.int .i64 2, .string s, .int .i64 0, .int .i64 0] 138)) dq) osq = w2 at *
    clear r0 r1 r2
    try dsimp only
    go_wp2_with fail
    go_ret
    exact ⟨retv (boolv (uH HE).symm), (uH HC0).trans' (uH HQ)⟩
  · have e1 : s.toList.isEmpty = false := by rw [hem]; exact decide_eq_false h0
    have e2 : (!s.toList.isEmpty) = true := by rw [e1]; rfl
    have hpos : 0 < s.size := by omega
    have hh := headK_some 2 s hpos
    have hi := fun W => is_any (s[0]).toNat W (by have := (s[0]).toNat_lt; omega)
    generalize isB (s[0]).toNat = v at *
    generalize spanN 1 4 s = N at *
    generalize allInner s = al at *
    generalize keyB s = kb at *
    rw [hh] at hE
    have HI := hH hi
    cases hv : (v == 2) <;> cases al <;> cases kb
    all_goals
      have HE := hH hE
      rw [hv] at HE
      clear hE hem hw hk hb x0 x1 x2 hh hi
      go_enter Tryz.func92, Tryz.ntmps92
      go_upto_region 7 with fail
      refine wp_region_quiet_below (by kernel_rfl) (by kernel_rfl) ?_
      repeat (any_goals (first
        | go_big_quiet_step ((first | exact Calls.regrown_of (rq ((uH HK) _)) | exact Calls.regrown_of (rq (((uH HI) _).mono (fun _ _ h => ⟨h.1, h.2 ▸ Chg.refl _ _⟩))) | exact Calls.regrown_of (rq (((uH HW) _).mono (fun _ _ h => ⟨h.1, h.2 ▸ Chg.refl _ _⟩)))))
        | quiet_step ((first | exact Calls.regrown_of (rq ((uH HK) _)) | exact Calls.regrown_of (rq (((uH HI) _).mono (fun _ _ h => ⟨h.1, h.2 ▸ Chg.refl _ _⟩))) | exact Calls.regrown_of (rq (((uH HW) _).mono (fun _ _ h => ⟨h.1, h.2 ▸ Chg.refl _ _⟩)))))))
      refine wpQuiet_nil ?_
      intro _ hw'
      obtain ⟨⟨dq, osq⟩, hw''⟩ := hw'
      subst hw''
      have HQ := hH (chg_regrown (w.alloc (.cells #[.int .i64 2, .string s, .int .i64 0, .int .i64 0] 138)) dq osq)
      generalize Go.Sort.grow (redrawn (w.alloc (.cells #[.int .i64 2, .string s, .int .i64 0, .int .i64 0] 138)) dq) osq = w2 at *
      clear r0 r1 r2
      try dsimp only
      go_wp2_with fail
      go_ret
      exact ⟨retv (boolv (by rw [uH HE]; rfl)), (uH HC0).trans' (uH HQ)⟩
theorem refCon_any (s : ByteArray) (w : World) (hs : s.size ≤ 9223372036854775807) : Calls Tryz.prog 84 #[.string s] w fun e w' => e = .returned (.bool (nameB 2 s)) ∧ Chg (fun _ => False) w w' := by
  have HR := hH (refRight_con s w hs)
  go_enter Tryz.func84, Tryz.ntmps84
  go_wp2_with (go_at_call 92; refine (uH HR).mono ?_; rintro e w2 ⟨rfl, hc2⟩; have HC2 := hH hc2; clear hc2)
  go_ret
  exact ⟨rfl, uH HC2⟩
end Go.Proofs.YtinekmjengckdaaGreatDoor
