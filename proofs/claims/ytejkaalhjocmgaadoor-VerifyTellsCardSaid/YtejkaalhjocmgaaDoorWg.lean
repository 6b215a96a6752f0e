/-
  Layer 19: what a byte is; the words of the language; whether a text is a constructor's name: the document's side.
-/
import Derived.Test.YtejkaalhjocmgaaDoorWf
namespace Go.Proofs.YtejkaalhjocmgaaDoor
open Go.RowKit
set_option maxHeartbeats 1000000
set_option maxRecDepth 100000
def wordsBA : List ByteArray := [⟨#[108, 101, 116]⟩, ⟨#[114, 101, 99]⟩, ⟨#[105, 110]⟩, ⟨#[102, 117, 110]⟩, ⟨#[105, 102]⟩, ⟨#[116, 104, 101, 110]⟩, ⟨#[101, 108, 115, 101]⟩, ⟨#[109, 97, 116, 99, 104]⟩, ⟨#[119, 105, 116, 104]⟩, ⟨#[101, 110, 100]⟩, ⟨#[114, 97, 105, 115, 101]⟩, ⟨#[116, 114, 121]⟩, ⟨#[111, 112, 101, 110]⟩, ⟨#[116, 121, 112, 101]⟩, ⟨#[111, 102]⟩, ⟨#[105, 110, 102, 105, 120, 108]⟩, ⟨#[105, 110, 102, 105, 120, 114]⟩, ⟨#[105, 110, 102, 105, 120]⟩, ⟨#[45, 62]⟩, ⟨#[61]⟩, ⟨#[124]⟩, ⟨#[40]⟩, ⟨#[41]⟩, ⟨#[95]⟩, ⟨#[59, 59]⟩]
def sgL : List Nat := [33, 36, 37, 38, 42, 43, 45, 47, 58, 60, 61, 62, 63, 64, 94, 124]
/-- What a byte is. -/
def isB (c : Nat) : Int := if c ∈ sgL then 5 else if 97 ≤ c ∧ c ≤ 122 then 1 else if 65 ≤ c ∧ c ≤ 90 then 2 else if 48 ≤ c ∧ c ≤ 57 then 3 else if c = 95 ∨ c = 39 then 4 else 0
theorem sg_notin (c : Nat) (h : ∀ k, k < 16 → sgL.getD k 0 ≠ c) : c ∉ sgL := by
  intro hm
  obtain ⟨k, hk, e⟩ := List.getElem_of_mem hm
  have h2 : k < 16 := hk
  apply h k h2
  rw [List.getD_eq_getElem?_getD, List.getElem?_eq_getElem hk, e]
  rfl
theorem sg_at : ∀ (k : Nat) (h : k < 16), ((⟨#[33, 36, 37, 38, 42, 43, 45, 47, 58, 60, 61, 62, 63, 64, 94, 124]⟩ : ByteArray)[k]'h).toNat = sgL.getD k 0 := by decide
theorem isB_rest (c : Nat) (h : c ∉ sgL) : isB c = if 97 ≤ c ∧ c ≤ 122 then 1 else if 65 ≤ c ∧ c ≤ 90 then 2 else if 48 ≤ c ∧ c ≤ 57 then 3 else if c = 95 ∨ c = 39 then 4 else 0 := if_neg h
theorem is_any (c : Nat) (w : World) (hc : c < 256) : Calls Tryd.prog 61 #[.int .u8 (c : Int)] w fun e w' => e = .returned (.int .i64 (isB c)) ∧ w = w' := by
  have HI := hide (isB_rest c)
  have H5 := hide (show c ∈ sgL → isB c = 5 from fun h => if_pos h)
  generalize isB c = I at *
  go_enter Tryd.func61, Tryd.ntmps61
  go_wp2_with fail
  go_loop [4] (fun i => ∃ k : Nat, i = .int .i64 k ∧ k ≤ 16 ∧ ∀ j, j < k → sgL.getD j 0 ≠ c) (fun i => 16 - (intOf i).toNat)
  case atStart => exact ⟨0, rfl, by omega, fun j h => absurd h (by omega)⟩
  case round =>
    obtain ⟨k, rfl, hk, hall⟩ := hrel
    have HALL := hide hall
    clear hall
    by_cases hlt : k < 16
    · have hsg := sg_at k hlt
      have hm2 : sgL.getD k 0 ∈ sgL := by
        rw [List.getD_eq_getElem?_getD, List.getElem?_eq_getElem (show k < sgL.length from hlt)]
        exact List.getElem_mem _
      by_cases hs : sgL.getD k 0 = c
      · have hb : (((((⟨#[33, 36, 37, 38, 42, 43, 45, 47, 58, 60, 61, 62, 63, 64, 94, 124]⟩ : ByteArray)[k]'hlt).toNat : Nat) : Int) == (c : Int)) = true := by rw [hsg, hs, beq_iff_eq]
        have HF := hide ((unhide H5) (hs ▸ hm2))
        clear HI H5 HALL hsg hm2 hs
        go_wp2_with fail
        go_ret
        exact ⟨retv (intv (unhide HF).symm), rfl⟩
      · have hb : (((((⟨#[33, 36, 37, 38, 42, 43, 45, 47, 58, 60, 61, 62, 63, 64, 94, 124]⟩ : ByteArray)[k]'hlt).toNat : Nat) : Int) == (c : Int)) = false := by rw [hsg, beq_eq_false_iff_ne]; omega
        have HS := hide hs
        clear hsg hm2 hs
        go_wp2_with fail
        go_round
        case rel => exact ⟨k + 1, by go_num, by omega, fun j hj => by
          rcases Nat.lt_or_ge j k with h | h
          · exact (unhide HALL) j h
          · obtain rfl : j = k := by omega
            exact unhide HS⟩
        case measure => simp [intOf]; omega
    · obtain rfl : k = 16 := by omega
      have hr := (unhide HI) (sg_notin c (unhide HALL))
      clear HI H5 HALL hk hlt
      by_cases g1 : 97 ≤ c ∧ c ≤ 122
      · have HF := hide (show I = 1 by rw [hr, if_pos g1])
        obtain ⟨a1, a2⟩ := g1
        clear hr
        go_wp2_with fail
        go_ret
        exact ⟨retv (intv (unhide HF).symm), rfl⟩
      rw [if_neg g1] at hr
      have d1 : (97 ≤ c ∧ ¬ c ≤ 122) ∨ ¬ 97 ≤ c := by omega
      clear g1
      by_cases g2 : 65 ≤ c ∧ c ≤ 90
      · have HF := hide (show I = 2 by rw [hr, if_pos g2])
        obtain ⟨a1, a2⟩ := g2
        clear hr
        have d2 : ¬ 97 ≤ c := by omega
        clear d1
        go_wp2_with fail
        go_ret
        exact ⟨retv (intv (unhide HF).symm), rfl⟩
      rw [if_neg g2] at hr
      by_cases g3 : 48 ≤ c ∧ c ≤ 57
      · have HF := hide (show I = 3 by rw [hr, if_pos g3])
        obtain ⟨a1, a2⟩ := g3
        clear hr d1 g2
        go_wp2_with fail
        go_ret
        exact ⟨retv (intv (unhide HF).symm), rfl⟩
      rw [if_neg g3] at hr
      by_cases g4 : c = 95
      · have HF := hide (show I = 4 by rw [hr, if_pos (.inl g4)])
        subst g4
        clear hr d1 g2 g3
        go_wp2_with fail
        go_ret
        exact ⟨retv (intv (unhide HF).symm), rfl⟩
      by_cases g5 : c = 39
      · have HF := hide (show I = 4 by rw [hr, if_pos (.inr g5)])
        subst g5
        clear hr d1 g2 g3
        go_wp2_with fail
        go_ret
        exact ⟨retv (intv (unhide HF).symm), rfl⟩
      · have HF := hide (show I = 0 by rw [hr, if_neg (by omega)])
        have b1 : ((c : Int) == 95) = false := by rw [beq_eq_false_iff_ne]; omega
        have b2 : ((c : Int) == 39) = false := by rw [beq_eq_false_iff_ne]; omega
        have hreg : (97 ≤ c ∧ 122 < c) ∨ (c < 97 ∧ 65 ≤ c ∧ 90 < c) ∨ (c < 65 ∧ 48 ≤ c ∧ 57 < c) ∨ c < 48 := by omega
        clear hr d1 g2 g3 g4 g5
        rcases hreg with ⟨h1, h2⟩ | ⟨h1, h2, h3⟩ | ⟨h1, h2, h3⟩ | h1
        all_goals
          go_wp2_with fail
          go_ret
          exact ⟨retv (intv (unhide HF).symm), rfl⟩
theorem refWords_any (w : World) : Calls Tryd.prog 71 #[] w fun e w' => e = .returned (.slice (some ⟨w.heap.size, 0, none⟩) 25 25) ∧ w' = w.alloc (.cells (wordsBA.map Value.string).toArray 9) := by
  go_enter Tryd.func71, Tryd.ntmps71
  go_wp2_with fail
  go_ret
  exact ⟨rfl, rfl⟩
def keyB (s : ByteArray) : Bool := Lib.containsS wordsBA s
theorem bytes_eq {a b : ByteArray} (h : a.toList = b.toList) : a = b := by
  rw [ByteArray.toList_eq, ByteArray.toList_eq] at h
  obtain ⟨⟨a⟩⟩ := a
  obtain ⟨⟨b⟩⟩ := b
  obtain rfl : a = b := h
  rfl
theorem refKey_any (s : ByteArray) (w : World) : Calls Tryd.prog 63 #[.string s] w fun e w' => e = .returned (.bool (keyB s)) ∧ Chg (fun _ => False) w w' := by
  go_enter Tryd.func63, Tryd.ntmps63
  go_wp2_with fail
  refine (refWords_any _).mono ?_
  rintro e w1 ⟨rfl, hw1⟩
  have hb : Blk w1 w.heap.size 9 (wordsBA.map Value.string).toArray := by rw [hw1]; exact Blk.new _ _ _
  have hc : Chg (fun _ => False) w w1 := by rw [hw1]; exact (Chg.refl _ _).alloc _
  have HB := hide hb
  have HC := hide hc
  clear hw1 hb hc
  try dsimp only
  go_wp2_with fail
  go_loop [4] (fun i => ∃ k : Nat, i = .int .i64 k ∧ k ≤ 25 ∧ ∀ j, j < k → wordsBA.getD j ByteArray.empty ≠ s) (fun i => 25 - (intOf i).toNat)
  case atStart => exact ⟨0, rfl, by omega, fun j h => absurd h (by omega)⟩
  case round =>
    obtain ⟨k, rfl, hk, hall⟩ := hrel
    have HALL := hide hall
    clear hall
    by_cases hlt : k < 25
    · have hx := (unhide HB).cell' (i := k) (v := .string (wordsBA.getD k ByteArray.empty)) (by
        rw [List.getElem?_toArray, List.getElem?_map, List.getD_eq_getElem?_getD, List.getElem?_eq_getElem (show k < wordsBA.length from hlt)]; rfl)
      have hmem : wordsBA.getD k ByteArray.empty ∈ wordsBA := by
        rw [List.getD_eq_getElem?_getD, List.getElem?_eq_getElem (show k < wordsBA.length from hlt)]
        exact List.getElem_mem _
      generalize hy : wordsBA.getD k ByteArray.empty = y at *
      have HY := hide hy
      have HM := hide hmem
      clear hy hmem
      by_cases he : y = s
      · subst he
        go_wp2_with fail
        go_ret
        exact ⟨retv (boolv ((Lib.containsS_iff wordsBA y).2 (unhide HM)).symm), unhide HC⟩
      · have hne : (y.toList == s.toList) = false := by
          rw [beq_eq_false_iff_ne]
          exact fun h => he (bytes_eq h)
        have HE := hide he
        clear he
        go_wp2_with fail
        go_round
        case rel => exact ⟨k + 1, by go_num, by omega, fun j hj => by
          rcases Nat.lt_or_ge j k with h | h
          · exact (unhide HALL) j h
          · obtain rfl : j = k := by omega
            rw [unhide HY]
            exact unhide HE⟩
        case measure => simp [intOf]; omega
    · obtain rfl : k = 25 := by omega
      have hno : keyB s = false := by
        rcases Bool.eq_false_or_eq_true (keyB s) with h | h
        · exfalso
          have hm := (Lib.containsS_iff wordsBA s).1 h
          obtain ⟨k, hk, e⟩ := List.getElem_of_mem hm
          have h2 : k < 25 := hk
          apply (unhide HALL) k h2
          rw [List.getD_eq_getElem?_getD, List.getElem?_eq_getElem hk, e]
          rfl
        · exact h
      have HN := hide hno
      clear hno HALL
      go_wp2_with fail
      go_ret
      exact ⟨retv (boolv (unhide HN).symm), unhide HC⟩
end Go.Proofs.YtejkaalhjocmgaaDoor
