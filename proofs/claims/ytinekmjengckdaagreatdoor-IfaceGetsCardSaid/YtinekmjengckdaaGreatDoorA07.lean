/-
  Layers 10 and 23: which tokens may be: the program's side.
-/
import Derived.Test.YtinekmjengckdaaGreatDoorA06
import Derived.Laws.RangeAny
namespace Go.Proofs.YtinekmjengckdaaGreatDoor
open Go.RowKit
set_option maxHeartbeats 2000000
set_option maxRecDepth 100000
theorem small_any (c : Nat) (w : World) (hc : c < 256) : Calls Tryz.prog 141 #[.int .u8 (c : Int)] w fun e w' => e = .returned (.bool (smallB c)) ∧ w = w' := by
  by_cases h : 97 ≤ c
  · go_enter Tryz.func141, Tryz.ntmps141
    go_wp2_with fail
    go_ret
    exact ⟨retv (boolv (by unfold smallB; rw [Bool.eq_iff_iff]; simp <;> omega)), rfl⟩
  · have e2 : decide ((97 : Int) ≤ (c : Int)) = false := decide_eq_false (by omega)
    go_enter Tryz.func141, Tryz.ntmps141
    go_wp2_with fail
    go_ret
    exact ⟨retv (boolv (by unfold smallB; rw [Bool.eq_iff_iff]; simp <;> omega)), rfl⟩
theorem great_any (c : Nat) (w : World) (hc : c < 256) : Calls Tryz.prog 142 #[.int .u8 (c : Int)] w fun e w' => e = .returned (.bool (greatB c)) ∧ w = w' := by
  by_cases h : 65 ≤ c
  · go_enter Tryz.func142, Tryz.ntmps142
    go_wp2_with fail
    go_ret
    exact ⟨retv (boolv (by unfold greatB; rw [Bool.eq_iff_iff]; simp <;> omega)), rfl⟩
  · have e2 : decide ((65 : Int) ≤ (c : Int)) = false := decide_eq_false (by omega)
    go_enter Tryz.func142, Tryz.ntmps142
    go_wp2_with fail
    go_ret
    exact ⟨retv (boolv (by unfold greatB; rw [Bool.eq_iff_iff]; simp <;> omega)), rfl⟩
theorem digit_any (c : Nat) (w : World) (hc : c < 256) : Calls Tryz.prog 165 #[.int .u8 (c : Int)] w fun e w' => e = .returned (.bool (digitB c)) ∧ w = w' := by
  by_cases h : 48 ≤ c
  · go_enter Tryz.func165, Tryz.ntmps165
    go_wp2_with fail
    go_ret
    exact ⟨retv (boolv (by unfold digitB; rw [Bool.eq_iff_iff]; simp <;> omega)), rfl⟩
  · have e2 : decide ((48 : Int) ≤ (c : Int)) = false := decide_eq_false (by omega)
    go_enter Tryz.func165, Tryz.ntmps165
    go_wp2_with fail
    go_ret
    exact ⟨retv (boolv (by unfold digitB; rw [Bool.eq_iff_iff]; simp <;> omega)), rfl⟩
theorem inner_any (c : Nat) (w : World) (hc : c < 256) : Calls Tryz.prog 139 #[.int .u8 (c : Int)] w fun e w' => e = .returned (.bool (innerB c)) ∧ w = w' := by
  have hE := inner_eq c hc
  have hs := small_any c w hc
  have hg := great_any c w hc
  have hd := digit_any c w hc
  generalize innerB c = E at *
  have h1 : (c == 95) = ((c : Int) == 95) := by rw [Bool.eq_iff_iff, beq_iff_eq, beq_iff_eq]; omega
  have h2 : (c == 39) = ((c : Int) == 39) := by rw [Bool.eq_iff_iff, beq_iff_eq, beq_iff_eq]; omega
  rw [h1, h2] at hE
  clear h1 h2
  cases b1 : smallB c <;> cases b2 : greatB c <;> cases b3 : digitB c <;> cases b4 : ((c : Int) == 95) <;> cases b5 : ((c : Int) == 39)
  all_goals
    rw [b1, b2, b3, b4, b5] at hE
    rw [b1] at hs
    rw [b2] at hg
    rw [b3] at hd
    have HE := hH hE
    have HS := hH hs
    have HG := hH hg
    have HD := hH hd
    clear hE hs hg hd b1 b2 b3
    go_enter Tryz.func139, Tryz.ntmps139
    go_wp2_with (first
      | (go_at_call 141; refine (uH HS).mono ?_; rintro e w' ⟨rfl, rfl⟩)
      | (go_at_call 142; refine (uH HG).mono ?_; rintro e w' ⟨rfl, rfl⟩)
      | (go_at_call 165; refine (uH HD).mono ?_; rintro e w' ⟨rfl, rfl⟩))
    go_ret
    exact ⟨retv (boolv (by rw [uH HE]; rfl)), rfl⟩
theorem iter_chg (w : World) (s : ByteArray) (pos : Nat) : Chg (fun _ => False) w (w.iter s pos) := (Chg.refl _ w).alloc _
theorem all_any (s : ByteArray) (w : World) (_hs : s.size ≤ 9223372036854775807) : Calls Tryz.prog 138 #[.string s, .func (.func 139) #[] #[]] w fun e w' => e = .returned (.bool (!s.toList.isEmpty && allInner s)) ∧ Chg (fun _ => False) w w' := by
  have HA := hH (show ∀ k (h : k < s.size), innerB (s[k]).toNat = false → allInner s = false from fun k h hf => by
    rcases Bool.eq_false_or_eq_true (allInner s) with h2 | h2
    · have := List.all_eq_true.1 h2 (s[k]) (by show s.data[k] ∈ s.data.toList; exact Array.getElem_mem_toList _)
      rw [this] at hf
      cases hf
    · exact h2)
  have HB := hH (show (∀ k (h : k < s.size), innerB (s[k]).toNat = true) → allInner s = true from fun hall => by
    refine List.all_eq_true.2 (fun b hb => ?_)
    obtain ⟨k, hk, e⟩ := List.getElem_of_mem hb
    rw [← e]
    exact hall k (by simpa using hk))
  have hem := empty_iff s
  generalize allInner s = al at *
  have HEM := hH hem
  clear hem
  go_enter Tryz.func138, Tryz.ntmps138
  go_wp2_with fail
  go_loopw [6] (fun n w' => ∃ pos : Nat, w' = w.iter s pos ∧ pos ≤ s.size ∧ ∀ k (h : k < s.size), k < pos → innerB (s[k]).toNat = true) (fun _ w' => s.size - w'.iterPos w.heap.size)
  case atStart => exact ⟨0, rfl, Nat.zero_le _, fun k h h2 => absurd h2 (by omega)⟩
  case round =>
    obtain ⟨pos, rfl, hps, hall⟩ := hrel
    have HALL := hH hall
    clear hall
    by_cases hp : pos < s.size
    · by_cases ha : (s[pos]).toNat < 128
      · have hnx : ∀ ty, (Instr.next (.pointer (some ⟨w.heap.size, 0, none⟩)) true ty).run Tryz.prog (w.iter s pos) = _ := fun ty => run_next_ascii w s pos ty hp ha
        have hc := inner_any (s[pos]).toNat (w.iter s (pos + 1)) (by omega)
        have hv : (s[pos]).toNat < 128 := ha
        have hf := (uH HA) pos hp
        have hh : innerB (s[pos]).toNat = true → 126 < (s[pos]).toNat → False := fun h1 h2 => by
          rw [inner_high _ (by omega) h2] at h1
          cases h1
        have HFIN := hH (fun (h : innerB (s[pos]).toNat = true) => (show ∀ k (h2 : k < s.size), k < pos + 1 → innerB (s[k]).toNat = true from fun k h2 h3 => by
          rcases Nat.lt_or_ge k pos with h4 | h4
          · exact (uH HALL) k h2 h4
          · obtain rfl : k = pos := by omega
            exact h))
        have HIH := hH (fun (h2 : 126 < (s[pos]).toNat) => inner_high (s[pos]).toNat (by omega) h2)
        generalize (s[pos]).toNat = v at *
        have hu8 : IntKind.u8.wrap (v : Int) = (v : Int) := by simp [IntKind.wrap, IntKind.bits, IntKind.signed]; omega
        have HC := hH hc
        have HF := hH hf
        clear hc hf hh
        by_cases h126 : 126 < v
        · have HAL := hH ((uH HF) ((uH HIH) h126))
          have hd : decide ((126 : Int) < (v : Int)) = true := decide_eq_true (by omega)
          go_wp2_with fail
          go_ret
          exact ⟨retv (boolv (by rw [uH HAL, Bool.and_false])), iter_chg _ _ _⟩
        · have hd : decide ((126 : Int) < (v : Int)) = false := decide_eq_false (by omega)
          cases hi : innerB v
          · rw [hi] at HC
            have HAL := hH ((uH HF) hi)
            clear hi
            go_wp2_with (go_at_call 139; refine (uH HC).mono ?_; rintro e w' ⟨rfl, rfl⟩)
            go_ret
            exact ⟨retv (boolv (by rw [uH HAL, Bool.and_false])), iter_chg _ _ _⟩
          · rw [hi] at HC
            have HI := hH hi
            clear hi
            go_wp2_with (go_at_call 139; refine (uH HC).mono ?_; rintro e w' ⟨rfl, rfl⟩)
            go_roundw
            case rel => exact ⟨pos + 1, rfl, by omega, (uH HFIN) (uH HI)⟩
            case measure => simp; omega
      · have hnx : ∀ ty, (Instr.next (.pointer (some ⟨w.heap.size, 0, none⟩)) true ty).run Tryz.prog (w.iter s pos) = _ := fun ty => run_next_any w s pos ty hp
        have hdh := (decode_high s pos hp (by omega)).1
        have HAL := hH ((uH HA) pos hp (inner_high _ (by have := (s[pos]).toNat_lt; omega) (by omega)))
        generalize (Utf8.decode s pos).1 = r at *
        generalize (Utf8.decode s pos).2 = dd at *
        have hd : decide ((126 : Int) < (r : Int)) = true := decide_eq_true (by omega)
        clear ha
        go_wp2_with fail
        go_ret
        exact ⟨retv (boolv (by rw [uH HAL, Bool.and_false])), iter_chg _ _ _⟩
    · have hnx : ∀ ty, (Instr.next (.pointer (some ⟨w.heap.size, 0, none⟩)) true ty).run Tryz.prog (w.iter s pos) = _ := fun ty => run_next_end w s pos ty hp
      have HAL := hH ((uH HB) (fun k h => (uH HALL) k h (by omega)))
      go_wp2_with fail
      go_ret
      exact ⟨retv (boolv (by rw [uH HAL, Bool.and_true])), iter_chg _ _ _⟩
theorem sign_high2 (c : Nat) (_hc : c < 256) (h : 126 < c) : signB c = false := sign_high c h
theorem sign_idx : ∀ c : Nat, c < 256 → decide (0 ≤ Lib.indexByte [33, 36, 37, 38, 42, 43, 45, 47, 58, 60, 61, 62, 63, 64, 94, 124] c.toUInt8) = signB c := by decide +kernel
theorem sign_any (c : Nat) (w : World) (hc : c < 256) : Calls Tryz.prog 144 #[.int .u8 (c : Int)] w fun e w' => e = .returned (.bool (signB c)) ∧ w = w' := by
  have HS := hH (sign_idx c hc)
  go_enter Tryz.func144, Tryz.ntmps144
  go_wp2_with (go_at_call 168; refine (Tryz.strings_IndexByte _ _ _).mono ?_; rintro e w' ⟨rfl, rfl⟩)
  go_ret
  exact ⟨retv (boolv (uH HS)), rfl⟩
theorem allSign_any (s : ByteArray) (w : World) (_hs : s.size ≤ 9223372036854775807) : Calls Tryz.prog 138 #[.string s, .func (.func 144) #[] #[]] w fun e w' => e = .returned (.bool (!s.toList.isEmpty && allSign s)) ∧ Chg (fun _ => False) w w' := by
  have HA := hH (show ∀ k (h : k < s.size), signB (s[k]).toNat = false → allSign s = false from fun k h hf => by
    rcases Bool.eq_false_or_eq_true (allSign s) with h2 | h2
    · have := List.all_eq_true.1 h2 (s[k]) (by show s.data[k] ∈ s.data.toList; exact Array.getElem_mem_toList _)
      rw [this] at hf
      cases hf
    · exact h2)
  have HB := hH (show (∀ k (h : k < s.size), signB (s[k]).toNat = true) → allSign s = true from fun hall => by
    refine List.all_eq_true.2 (fun b hb => ?_)
    obtain ⟨k, hk, e⟩ := List.getElem_of_mem hb
    rw [← e]
    exact hall k (by simpa using hk))
  have hem := empty_iff s
  generalize allSign s = al at *
  have HEM := hH hem
  clear hem
  go_enter Tryz.func138, Tryz.ntmps138
  go_wp2_with fail
  go_loopw [6] (fun n w' => ∃ pos : Nat, w' = w.iter s pos ∧ pos ≤ s.size ∧ ∀ k (h : k < s.size), k < pos → signB (s[k]).toNat = true) (fun _ w' => s.size - w'.iterPos w.heap.size)
  case atStart => exact ⟨0, rfl, Nat.zero_le _, fun k h h2 => absurd h2 (by omega)⟩
  case round =>
    obtain ⟨pos, rfl, hps, hall⟩ := hrel
    have HALL := hH hall
    clear hall
    by_cases hp : pos < s.size
    · by_cases ha : (s[pos]).toNat < 128
      · have hnx : ∀ ty, (Instr.next (.pointer (some ⟨w.heap.size, 0, none⟩)) true ty).run Tryz.prog (w.iter s pos) = _ := fun ty => run_next_ascii w s pos ty hp ha
        have hc := sign_any (s[pos]).toNat (w.iter s (pos + 1)) (by omega)
        have hv : (s[pos]).toNat < 128 := ha
        have hf := (uH HA) pos hp
        have hh : signB (s[pos]).toNat = true → 126 < (s[pos]).toNat → False := fun h1 h2 => by
          rw [sign_high2 _ (by omega) h2] at h1
          cases h1
        have HFIN := hH (fun (h : signB (s[pos]).toNat = true) => (show ∀ k (h2 : k < s.size), k < pos + 1 → signB (s[k]).toNat = true from fun k h2 h3 => by
          rcases Nat.lt_or_ge k pos with h4 | h4
          · exact (uH HALL) k h2 h4
          · obtain rfl : k = pos := by omega
            exact h))
        have HIH := hH (fun (h2 : 126 < (s[pos]).toNat) => sign_high2 (s[pos]).toNat (by omega) h2)
        generalize (s[pos]).toNat = v at *
        have hu8 : IntKind.u8.wrap (v : Int) = (v : Int) := by simp [IntKind.wrap, IntKind.bits, IntKind.signed]; omega
        have HC := hH hc
        have HF := hH hf
        clear hc hf hh
        by_cases h126 : 126 < v
        · have HAL := hH ((uH HF) ((uH HIH) h126))
          have hd : decide ((126 : Int) < (v : Int)) = true := decide_eq_true (by omega)
          go_wp2_with fail
          go_ret
          exact ⟨retv (boolv (by rw [uH HAL, Bool.and_false])), iter_chg _ _ _⟩
        · have hd : decide ((126 : Int) < (v : Int)) = false := decide_eq_false (by omega)
          cases hi : signB v
          · rw [hi] at HC
            have HAL := hH ((uH HF) hi)
            clear hi
            go_wp2_with (go_at_call 144; refine (uH HC).mono ?_; rintro e w' ⟨rfl, rfl⟩)
            go_ret
            exact ⟨retv (boolv (by rw [uH HAL, Bool.and_false])), iter_chg _ _ _⟩
          · rw [hi] at HC
            have HI := hH hi
            clear hi
            go_wp2_with (go_at_call 144; refine (uH HC).mono ?_; rintro e w' ⟨rfl, rfl⟩)
            go_roundw
            case rel => exact ⟨pos + 1, rfl, by omega, (uH HFIN) (uH HI)⟩
            case measure => simp; omega
      · have hnx : ∀ ty, (Instr.next (.pointer (some ⟨w.heap.size, 0, none⟩)) true ty).run Tryz.prog (w.iter s pos) = _ := fun ty => run_next_any w s pos ty hp
        have hdh := (decode_high s pos hp (by omega)).1
        have HAL := hH ((uH HA) pos hp (sign_high2 _ (by have := (s[pos]).toNat_lt; omega) (by omega)))
        generalize (Utf8.decode s pos).1 = r at *
        generalize (Utf8.decode s pos).2 = dd at *
        have hd : decide ((126 : Int) < (r : Int)) = true := decide_eq_true (by omega)
        clear ha
        go_wp2_with fail
        go_ret
        exact ⟨retv (boolv (by rw [uH HAL, Bool.and_false])), iter_chg _ _ _⟩
    · have hnx : ∀ ty, (Instr.next (.pointer (some ⟨w.heap.size, 0, none⟩)) true ty).run Tryz.prog (w.iter s pos) = _ := fun ty => run_next_end w s pos ty hp
      have HAL := hH ((uH HB) (fun k h => (uH HALL) k h (by omega)))
      go_wp2_with fail
      go_ret
      exact ⟨retv (boolv (by rw [uH HAL, Bool.and_true])), iter_chg _ _ _⟩
def wordsS : ByteArray := ⟨#[108, 101, 116, 32, 114, 101, 99, 32, 105, 110, 32, 102, 117, 110, 32, 105, 102, 32, 116, 104, 101, 110, 32, 101, 108, 115, 101, 32, 109, 97, 116, 99, 104, 32, 119, 105, 116, 104, 32, 101, 110, 100, 32, 114, 97, 105, 115, 101, 32, 116, 114, 121, 32, 111, 112, 101, 110, 32, 116, 121, 112, 101, 32, 111, 102, 32, 105, 110, 102, 105, 120, 108, 32, 105, 110, 102, 105, 120, 114, 32, 105, 110, 102, 105, 120, 32, 45, 62, 32, 61, 32, 124, 32, 40, 32, 41, 32, 95, 32, 59, 59]⟩
theorem words_fields : Lib.fields wordsS.data.toList = wordsBA.map (fun b => b.data.toList) := by decide +kernel
theorem words_any (w : World) (hl : Lay w) : Calls Tryz.prog 167 #[] w fun e w' => e = .returned (.slice (some ⟨w.heap.size, 0, none⟩) 25 25) ∧ w' = w.alloc (.cells (wordsBA.map Value.string).toArray 9) := by
  have hF := Tryz.strings_Fields wordsS w (by decide) (fun j b hb => by
    have h : ∀ b ∈ wordsS.data.toList, b.toNat < 128 := by decide +kernel
    exact h b (List.mem_of_getElem? hb)) hl.spc
  rw [words_fields] at hF
  have HF := hH hF
  clear hF hl
  go_enter Tryz.func167, Tryz.ntmps167
  go_wp2_with fail
  refine (uH HF).mono ?_
  rintro e w' ⟨rfl, rfl⟩
  go_wp2_with fail
  go_ret
  exact ⟨rfl, rfl⟩
theorem key_any (s : ByteArray) (w : World) (hl : Lay w) : Calls Tryz.prog 140 #[.string s] w fun e w' => e = .returned (.bool (keyB s)) ∧ Chg (fun _ => False) w w' := by
  have HW := hH (words_any w hl)
  have hb := Blk.new w 9 (wordsBA.map Value.string).toArray
  have hc := Tryz.slices_Contains_string w.heap.size 0 25 25 wordsBA s (w.alloc (.cells (wordsBA.map Value.string).toArray 9)) (Nat.le_refl _) (by omega) (fun j hj => by
    rw [Nat.zero_add]
    refine hb.cell' ?_
    rw [List.getElem?_toArray, List.getElem?_map, List.getD_eq_getElem?_getD, List.getElem?_eq_getElem hj]
    rfl)
  have ht : wordsBA.take 25 = wordsBA := by decide +kernel
  rw [ht] at hc
  have hk : keyB s = Lib.containsS wordsBA s := rfl
  rw [← hk] at hc
  have HC := hH hc
  have HG := hH ((Chg.refl (fun _ => False) w).alloc (.cells (wordsBA.map Value.string).toArray 9))
  clear hb hc ht hk hl
  go_enter Tryz.func140, Tryz.ntmps140
  go_wp2_with fail
  refine (uH HW).mono ?_
  rintro e w1 ⟨rfl, hw1⟩
  have HG1 := hH (show Chg (fun _ => False) w w1 by rw [hw1]; exact uH HG)
  rw [← hw1] at HC
  clear hw1 HG
  go_wp2_with fail
  refine (uH HC).mono ?_
  rintro e w' ⟨rfl, rfl⟩
  go_wp2_with fail
  go_ret
  exact ⟨rfl, uH HG1⟩
theorem namedN_any (s : ByteArray) (g : Nat) (w : World) (hs : s.size ≤ 9223372036854775807) (hl : Lay w) (hg : Blk w g 138 #[.int .i64 1, .string s, .int .i64 0, .int .i64 0]) :
    Calls Tryz.prog 137 #[.func (.func 141) #[] #[], .pointer (some ⟨g, 0, none⟩)] w fun e w' => e = .returned (.bool (nameB 1 s)) ∧ Chg (fun _ => False) w w' := by
  have hE := name_split 1 s
  have x1 := hg.cell 1
  simp only [List.getElem?_toArray, List.getElem?_cons_zero, List.getElem?_cons_succ] at x1
  have hall := all_any s w hs
  have hkey := fun W (h : Chg (fun _ => False) w W) => key_any s W (hl.chg h (fun _ _ => id))
  have HX := hH (fun W (h : Chg (fun _ => False) w W) => (hg.chg h id).cell 1)
  have hsz : 0 < s.size → s.toList.isEmpty = false := fun h => by rw [empty_iff]; exact decide_eq_false (by omega)
  have hhd : ∀ h : 0 < s.size, headK 1 s = smallB (s[0]).toNat := fun h => by rw [headK_some 1 s h, small_eq _ (by have := (s[0]).toNat_lt; omega)]
  have hgr : ∀ h : 0 < s.size, ∀ W, Calls Tryz.prog 141 #[.int .u8 ((s[0]).toNat : Int)] W fun e w' => e = .returned (.bool (smallB (s[0]).toNat)) ∧ W = w' := fun h W => small_any _ W (by have := (s[0]).toNat_lt; omega)
  have hemp := empty_iff s
  generalize nameB 1 s = E at *
  generalize keyB s = kb at *
  have HKEY := hH hkey
  cases hb : (!s.toList.isEmpty && allInner s)
  · rw [hb] at hE hall
    have HE := hH (show E = false by rw [hE]; rfl)
    have HALL := hH hall
    clear hE hall hb hsz hhd hgr hemp hkey hl hg
    go_enter Tryz.func137, Tryz.ntmps137
    go_wp2_with (go_at_call 138; refine (uH HALL).mono ?_; rintro e w2 ⟨rfl, hc2⟩; have HC2 := hH hc2; clear hc2)
    go_ret
    exact ⟨retv (boolv (uH HE).symm), uH HC2⟩
  · have hpos : 0 < s.size := Nat.pos_of_ne_zero (fun h => by
      rw [hemp, decide_eq_true h] at hb
      exact absurd hb (by simp))
    have hh := hhd hpos
    have hg2 := hgr hpos
    rw [hb, hh] at hE
    rw [hb] at hall
    generalize hv : (s[0]).toNat = v at *
    have HV := hH hv
    have HALL := hH hall
    cases hgb : smallB v <;> cases kb
    all_goals
      have hE2 := hE
      have hg3 := hg2
      rw [hgb] at hE2 hg3
      have HE := hH hE2
      have HG := hH hg3
      clear hE hE2 hg2 hg3 hall hb hsz hhd hgr hemp hkey hl hg hgb hh hv
      go_enter Tryz.func137, Tryz.ntmps137
      go_wp2_with fail
      refine (uH HALL).mono ?_
      rintro e w2 ⟨rfl, hc2⟩
      have y1 := (uH HX) _ hc2
      simp only [List.getElem?_toArray, List.getElem?_cons_zero, List.getElem?_cons_succ] at y1
      have HK2 := hH ((uH HKEY) _ hc2)
      have HC2 := hH hc2
      have hv2 := uH HV
      clear hc2
      try dsimp only
      go_wp2_with (first
        | (go_at_call 141; refine ((uH HG) _).mono ?_; rintro e w' ⟨rfl, rfl⟩)
        | (go_at_call 140; refine (uH HK2).mono ?_; rintro e w3 ⟨rfl, hc3⟩; have HC3 := hH hc3; clear hc3))
      go_ret
      first
      | exact ⟨retv (boolv (by rw [uH HE]; rfl)), (uH HC2).trans' (uH HC3)⟩
      | exact ⟨retv (boolv (by rw [uH HE]; rfl)), uH HC2⟩
theorem namedC_any (s : ByteArray) (g : Nat) (w : World) (hs : s.size ≤ 9223372036854775807) (hl : Lay w) (hg : Blk w g 138 #[.int .i64 2, .string s, .int .i64 0, .int .i64 0]) :
    Calls Tryz.prog 137 #[.func (.func 142) #[] #[], .pointer (some ⟨g, 0, none⟩)] w fun e w' => e = .returned (.bool (nameB 2 s)) ∧ Chg (fun _ => False) w w' := by
  have hE := name_split 2 s
  have x1 := hg.cell 1
  simp only [List.getElem?_toArray, List.getElem?_cons_zero, List.getElem?_cons_succ] at x1
  have hall := all_any s w hs
  have hkey := fun W (h : Chg (fun _ => False) w W) => key_any s W (hl.chg h (fun _ _ => id))
  have HX := hH (fun W (h : Chg (fun _ => False) w W) => (hg.chg h id).cell 1)
  have hsz : 0 < s.size → s.toList.isEmpty = false := fun h => by rw [empty_iff]; exact decide_eq_false (by omega)
  have hhd : ∀ h : 0 < s.size, headK 2 s = greatB (s[0]).toNat := fun h => by rw [headK_some 2 s h, great_eq _ (by have := (s[0]).toNat_lt; omega)]
  have hgr : ∀ h : 0 < s.size, ∀ W, Calls Tryz.prog 142 #[.int .u8 ((s[0]).toNat : Int)] W fun e w' => e = .returned (.bool (greatB (s[0]).toNat)) ∧ W = w' := fun h W => great_any _ W (by have := (s[0]).toNat_lt; omega)
  have hemp := empty_iff s
  generalize nameB 2 s = E at *
  generalize keyB s = kb at *
  have HKEY := hH hkey
  cases hb : (!s.toList.isEmpty && allInner s)
  · rw [hb] at hE hall
    have HE := hH (show E = false by rw [hE]; rfl)
    have HALL := hH hall
    clear hE hall hb hsz hhd hgr hemp hkey hl hg
    go_enter Tryz.func137, Tryz.ntmps137
    go_wp2_with (go_at_call 138; refine (uH HALL).mono ?_; rintro e w2 ⟨rfl, hc2⟩; have HC2 := hH hc2; clear hc2)
    go_ret
    exact ⟨retv (boolv (uH HE).symm), uH HC2⟩
  · have hpos : 0 < s.size := Nat.pos_of_ne_zero (fun h => by
      rw [hemp, decide_eq_true h] at hb
      exact absurd hb (by simp))
    have hh := hhd hpos
    have hg2 := hgr hpos
    rw [hb, hh] at hE
    rw [hb] at hall
    generalize hv : (s[0]).toNat = v at *
    have HV := hH hv
    have HALL := hH hall
    cases hgb : greatB v <;> cases kb
    all_goals
      have hE2 := hE
      have hg3 := hg2
      rw [hgb] at hE2 hg3
      have HE := hH hE2
      have HG := hH hg3
      clear hE hE2 hg2 hg3 hall hb hsz hhd hgr hemp hkey hl hg hgb hh hv
      go_enter Tryz.func137, Tryz.ntmps137
      go_wp2_with fail
      refine (uH HALL).mono ?_
      rintro e w2 ⟨rfl, hc2⟩
      have y1 := (uH HX) _ hc2
      simp only [List.getElem?_toArray, List.getElem?_cons_zero, List.getElem?_cons_succ] at y1
      have HK2 := hH ((uH HKEY) _ hc2)
      have HC2 := hH hc2
      have hv2 := uH HV
      clear hc2
      try dsimp only
      go_wp2_with (first
        | (go_at_call 142; refine ((uH HG) _).mono ?_; rintro e w' ⟨rfl, rfl⟩)
        | (go_at_call 140; refine (uH HK2).mono ?_; rintro e w3 ⟨rfl, hc3⟩; have HC3 := hH hc3; clear hc3))
      go_ret
      first
      | exact ⟨retv (boolv (by rw [uH HE]; rfl)), (uH HC2).trans' (uH HC3)⟩
      | exact ⟨retv (boolv (by rw [uH HE]; rfl)), uH HC2⟩
theorem right_name (s : ByteArray) (w : World) (hs : s.size ≤ 9223372036854775807) (hl : Lay w) : Calls Tryz.prog 96 #[.agg #[.int .i64 1, .string s, .int .i64 0, .int .i64 0]] w fun e w' => e = .returned (.bool (nameB 1 s)) ∧ Chg (fun _ => False) w w' := by
  have h0 := (Chg.refl (fun _ => False) w).alloc (.cells #[.int .i64 1, .string s, .int .i64 0, .int .i64 0] 138)
  have HN := hH (namedN_any s w.heap.size _ hs (hl.chg h0 (fun _ _ => id)) (Blk.new w 138 _))
  have H0 := hH h0
  clear h0 hl
  go_enter Tryz.func96, Tryz.ntmps96
  go_wp2_with (go_at_call 137; refine (uH HN).mono ?_; rintro e w2 ⟨rfl, hc2⟩; have HC2 := hH hc2; clear hc2)
  go_ret
  exact ⟨rfl, (uH H0).trans' (uH HC2)⟩
theorem right_con (s : ByteArray) (w : World) (hs : s.size ≤ 9223372036854775807) (hl : Lay w) : Calls Tryz.prog 96 #[.agg #[.int .i64 2, .string s, .int .i64 0, .int .i64 0]] w fun e w' => e = .returned (.bool (nameB 2 s)) ∧ Chg (fun _ => False) w w' := by
  have h0 := (Chg.refl (fun _ => False) w).alloc (.cells #[.int .i64 2, .string s, .int .i64 0, .int .i64 0] 138)
  have HN := hH (namedC_any s w.heap.size _ hs (hl.chg h0 (fun _ _ => id)) (Blk.new w 138 _))
  have H0 := hH h0
  clear h0 hl
  go_enter Tryz.func96, Tryz.ntmps96
  go_wp2_with (go_at_call 137; refine (uH HN).mono ?_; rintro e w2 ⟨rfl, hc2⟩; have HC2 := hH hc2; clear hc2)
  go_ret
  exact ⟨rfl, (uH H0).trans' (uH HC2)⟩
theorem con_any (s : ByteArray) (w : World) (hs : s.size ≤ 9223372036854775807) (hl : Lay w) : Calls Tryz.prog 95 #[.string s] w fun e w' => e = .returned (.bool (nameB 2 s)) ∧ Chg (fun _ => False) w w' := by
  have HR := hH (right_con s w hs hl)
  clear hl
  go_enter Tryz.func95, Tryz.ntmps95
  go_wp2_with (go_at_call 96; refine (uH HR).mono ?_; rintro e w2 ⟨rfl, hc2⟩; have HC2 := hH hc2; clear hc2)
  go_ret
  exact ⟨rfl, uH HC2⟩
theorem named_any (s : ByteArray) (w : World) (hs : s.size ≤ 9223372036854775807) (hl : Lay w) : Calls Tryz.prog 110 #[.string s] w fun e w' => e = .returned (.bool (nameB 2 s)) ∧ Chg (fun _ => False) w w' := by
  have HR := hH (right_con s w hs hl)
  clear hl
  go_enter Tryz.func110, Tryz.ntmps110
  go_wp2_with (go_at_call 96; refine (uH HR).mono ?_; rintro e w2 ⟨rfl, hc2⟩; have HC2 := hH hc2; clear hc2)
  go_ret
  exact ⟨rfl, uH HC2⟩
theorem right_op (s : ByteArray) (w : World) (hs : s.size ≤ 9223372036854775807) (hl : Lay w) : Calls Tryz.prog 96 #[.agg #[.int .i64 5, .string s, .int .i64 0, .int .i64 0]] w fun e w' => e = .returned (.bool (opB s)) ∧ Chg (fun _ => False) w w' := by
  have h0 := (Chg.refl (fun _ => False) w).alloc (.cells #[.int .i64 5, .string s, .int .i64 0, .int .i64 0] 138)
  have b0 := Blk.new w 138 #[.int .i64 5, .string s, .int .i64 0, .int .i64 0]
  have HALL := hH (allSign_any s (w.alloc (.cells #[.int .i64 5, .string s, .int .i64 0, .int .i64 0] 138)) hs)
  have HKEY := hH (fun W (h : Chg (fun _ => False) w W) => key_any s W (hl.chg h (fun _ _ => id)))
  have HX := hH (fun W (h : Chg (fun _ => False) (w.alloc (.cells #[.int .i64 5, .string s, .int .i64 0, .int .i64 0] 138)) W) => (b0.chg h id).cell 1)
  have H0 := hH h0
  have hE : opB s = ((!s.toList.isEmpty && allSign s) && !keyB s) := rfl
  generalize opB s = E at *
  generalize keyB s = kb at *
  generalize (!s.toList.isEmpty && allSign s) = al at *
  clear h0 hl b0
  cases al
  · have HE := hH (show E = false by rw [hE]; rfl)
    clear hE
    go_enter Tryz.func96, Tryz.ntmps96
    go_wp2_with (go_at_call 138; refine (uH HALL).mono ?_; rintro e w2 ⟨rfl, hc2⟩; have y1 := (uH HX) _ hc2; simp only [List.getElem?_toArray, List.getElem?_cons_zero, List.getElem?_cons_succ] at y1; have HC2 := hH hc2; clear hc2)
    go_ret
    exact ⟨retv (boolv (uH HE).symm), (uH H0).trans' (uH HC2)⟩
  · have HE := hH (show E = !kb by rw [hE]; rfl)
    clear hE
    cases kb
    all_goals
      go_enter Tryz.func96, Tryz.ntmps96
      go_wp2_with (first
        | (go_at_call 138; refine (uH HALL).mono ?_; rintro e w2 ⟨rfl, hc2⟩; have y1 := (uH HX) _ hc2; simp only [List.getElem?_toArray, List.getElem?_cons_zero, List.getElem?_cons_succ] at y1; have HC2 := hH hc2; clear hc2)
        | (go_at_call 140; refine (uH HKEY _ ((uH H0).trans' (uH HC2))).mono ?_; rintro e w3 ⟨rfl, hc3⟩; have HC3 := hH hc3; clear hc3))
      go_ret
      exact ⟨retv (boolv (by rw [uH HE]; rfl)), ((uH H0).trans' (uH HC2)).trans' (uH HC3)⟩
theorem name_any (s : ByteArray) (w : World) (hs : s.size ≤ 9223372036854775807) (hl : Lay w) : Calls Tryz.prog 47 #[.string s] w fun e w' => e = .returned (.bool (nameB 1 s || opB s)) ∧ Chg (fun _ => False) w w' := by
  have HN := hH (right_name s w hs hl)
  have HO := hH (fun W (h : Chg (fun _ => False) w W) => right_op s W hs (hl.chg h (fun _ _ => id)))
  clear hl
  generalize nameB 1 s = a at *
  generalize opB s = b at *
  cases a <;> cases b
  all_goals
    go_enter Tryz.func47, Tryz.ntmps47
    go_wp2_with (first
      | (go_at_call 96; with_reducible refine (uH HN).mono ?_; rintro e w2 ⟨rfl, hc2⟩; have HC2 := hH hc2; clear hc2)
      | (go_at_call 96; with_reducible refine (uH HO _ (uH HC2)).mono ?_; rintro e w3 ⟨rfl, hc3⟩; have HC3 := hH hc3; clear hc3))
    go_ret
    first
    | exact ⟨rfl, (uH HC2).trans' (uH HC3)⟩
    | exact ⟨rfl, uH HC2⟩
end Go.Proofs.YtinekmjengckdaaGreatDoor
