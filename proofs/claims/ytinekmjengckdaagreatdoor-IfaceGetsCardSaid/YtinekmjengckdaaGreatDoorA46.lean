/-
  Layer 9, the document's side: whether nodes are a type.
-/
import Derived.Test.YtinekmjengckdaaGreatDoorA45
import Derived.Test.YtinekmjengckdaaGreatDoorA06
import Derived.Test.YtinekmjengckdaaGreatDoorA30
import Derived.Test.YtinekmjengckdaaGreatDoorA14
import Derived.Test.YtinekmjengckdaaGreatDoorA02
namespace Go.Proofs.YtinekmjengckdaaGreatDoor
open Go.RowKit
set_option maxHeartbeats 8000000
set_option maxRecDepth 100000
theorem typB_bad {l : List Nd} {k : Nat} {x : Nd} (hx : l[k]? = some x) (h : nodeB x = false) : typB l = false := by
  unfold typB
  have : l.all nodeB = false := List.all_eq_false.2 ⟨x, List.mem_of_getElem? hx, by rw [h]; simp⟩
  rw [this, Bool.and_false]
theorem typB_good {l : List Nd} (h4 : l.length ≤ 4000) (hw : wholeB l = true) (h : ∀ (j : Nat) (x : Nd), j < l.length → l[j]? = some x → nodeB x = true) : typB l = true := by
  unfold typB
  rw [hw, decide_eq_true h4, Bool.true_and, Bool.true_and, List.all_eq_true]
  intro x hx
  obtain ⟨j, hj⟩ := List.mem_iff_getElem?.1 hx
  exact h j x (List.getElem?_eq_some_iff.1 hj).1 hj
theorem name_arrow : nameB 2 ArrowT = false := by decide +kernel
theorem name_int : nameB 2 IntT = false := by decide +kernel
theorem name_text : nameB 2 TextT = false := by decide +kernel
theorem name_ref : nameB 2 RefT = false := by decide +kernel
theorem teq (s : ByteArray) (l : List UInt8) (b : Bool) (h : decide (s = ⟨l.toArray⟩) = b) : (s.toList == l) = b := (text_eq s l).symm.trans h
theorem refRight_t (l : List Nd) (v : Value) (T : Nat → Prop) (w : World) (hr : RdN T w v l) :
    Calls Tryz.prog 86 #[v] w fun e w' => e = .returned (.bool (typB l)) ∧ Chg (fun _ => False) w w' := by
  by_cases h4 : 4000 < l.length
  · have hE : typB l = false := by unfold typB; rw [decide_eq_false (by omega)]; rfl
    rw [hE]
    have h4i : (4000 : Int) < (l.length : Int) := by omega
    obtain ⟨A, c, rfl⟩ := hr.val
    clear hr
    go_enter Tryz.func86, Tryz.ntmps86
    go_wp2_with fail
    go_ret
    exact ⟨rfl, Chg.refl _ _⟩
  have h4i : ¬ (4000 : Int) < (l.length : Int) := by omega
  have h4d : decide ((4000 : Int) < (l.length : Int)) = false := decide_eq_false h4i
  have h4e : decide (4000 < l.length) = false := decide_eq_false h4
  have h4l : l.length ≤ 4000 := by omega
  have HW := hH (refWhole_any l v T w hr h4l)
  cases hw : wholeB l with
  | false =>
    have hE : typB l = false := by unfold typB; rw [hw, Bool.and_false]; rfl
    rw [hE]
    rw [hw] at HW
    obtain ⟨A, c, rfl⟩ := hr.val
    clear hr hw hE
    go_enter Tryz.func86, Tryz.ntmps86
    go_wp2_with (go_at_call 130; with_reducible refine (uH HW).mono ?_; rintro e w2 ⟨rfl, hch⟩; have HC := hH hch; clear hch)
    go_ret
    exact ⟨rfl, uH HC⟩
  | true =>
  rw [hw] at HW
  have HG := hH (typB_good h4l hw)
  have HBAD := hH (fun k x => typB_bad (l := l) (k := k) (x := x))
  have HR := hH (fun W (hW : Chg (fun _ => False) w W) => hr.chg hW (fun _ _ _ => id))
  have HOK := hH hr.oks
  obtain ⟨A, c, rfl⟩ := hr.val
  generalize typB l = E at *
  clear hr hw
  go_enter Tryz.func86, Tryz.ntmps86
  go_upto_region 4 with (go_at_call 130; with_reducible refine (uH HW).mono ?_; rintro e w2 ⟨rfl, hch⟩; have HC := hH hch; clear hch)
  go_loopw [3] (fun t wr => ∃ k : Nat, t = .int .i64 (k : Int) ∧ k ≤ l.length ∧ (∀ (j : Nat) (x : Nd), j < k → l[j]? = some x → nodeB x = true) ∧ Chg (fun _ => False) w wr) (fun t _ => l.length - (intOf t).toNat)
  case atStart => exact ⟨0, rfl, Nat.zero_le _, fun j x h => absurd h (Nat.not_lt_zero _), uH HC⟩
  case round =>
    clear HC HW
    obtain ⟨wq, rfl⟩ : ∃ wq : World, wq = wr := ⟨_, rfl⟩
    obtain ⟨k, rfl, hk, hall, hch⟩ := hrel
    by_cases hlt : k < l.length
    rotate_left
    · obtain rfl : k = l.length := by omega
      have hki : ¬ (l.length : Int) < (l.length : Int) := by omega
      have HE := hH (uH HG hall)
      have HCH := hH hch
      clear hall hch
      go_wp2_with fail
      go_ret
      exact ⟨retv (boolv (uH HE).symm), uH HCH⟩
    have hki : (k : Int) < (l.length : Int) := by omega
    have hx : l[k]? = some l[k] := List.getElem?_eq_getElem hlt
    have hxo := uH HOK l[k] (List.getElem_mem hlt)
    generalize l[k] = x at *
    obtain ⟨b, o, c2, hv, _, _, c0, c1, c3, c4⟩ := ((uH HR) _ hch).at_ hx
    injection hv with hv1 hv2 hv3
    subst hv1 hv3
    clear hv2
    have HALL := hH hall
    have HX := hH hx
    obtain ⟨xk, s, xn, kd⟩ := x
    dsimp only at c0 c1 c3 c4
    have hso : s.size ≤ 9223372036854775807 := hxo
    have bk := Blk.new wq 59 #[.int .i64 xk, .string s, .int .i64 xn, .int .i64 kd]
    have hc3 : Chg (fun _ => False) wq (wq.alloc (.cells #[.int .i64 xk, .string s, .int .i64 xn, .int .i64 kd] 59)) := (Chg.refl _ wq).alloc _
    have HCH := hH (hch.trans' hc3)
    have HBD := hH (fun h => uH HBAD k _ (uH HX) h)
    have HNX := hH (fun (h : nodeB ⟨xk, s, xn, kd⟩ = true) => (fun (j : Nat) (y : Nd) (hj : j < k + 1) (hy : l[j]? = some y) => show nodeB y = true from by
      rcases Nat.lt_or_ge j k with h1 | h1
      · exact (uH HALL) j y h1 hy
      · obtain rfl : j = k := by omega
        have := (uH HX).symm.trans hy
        injection this with this
        subst this
        exact h))
    clear hall hch hx hxo
    go_upto_region 7 with fail
    generalize wq.alloc (.cells #[.int .i64 xk, .string s, .int .i64 xn, .int .i64 kd] 59) = w3 at *
    generalize wq.heap.size = nb at *
    have z0 := bk.cell 0
    have z1 := bk.cell 1
    have z2 := bk.cell 2
    have z3 := bk.cell 3
    simp only [List.getElem?_toArray, List.getElem?_cons_zero, List.getElem?_cons_succ] at z0 z1 z2 z3
    have HBK := hH bk
    clear bk hc3 c0 c1 c3 c4
    by_cases h31 : xk = 31
    · subst h31
      by_cases hkd : kd = 0
      rotate_left
      · have hkb : (kd == 0) = false := by rw [beq_eq_false_iff_ne]; exact hkd
        have hn : nodeB ⟨31, s, xn, kd⟩ = false := by unfold nodeB; simp [hkd]
        have HN := hH (uH HBD (hn))
        go_wp2_with fail
        go_ret
        exact ⟨retv (boolv (uH HN).symm), uH HCH⟩
      subst hkd
      by_cases hs : s = ⟨#[]⟩
      rotate_left
      · have hsb := teq s [] false (decide_eq_false hs)
        have hn : nodeB ⟨31, s, xn, 0⟩ = false := by unfold nodeB; simp [hs]
        have HN := hH (uH HBD (hn))
        go_wp2_with fail
        go_ret
        exact ⟨retv (boolv (uH HN).symm), uH HCH⟩
      have hsb := teq s [] true (decide_eq_true hs)
      by_cases hx0 : xn < 0
      · have hn : nodeB ⟨31, s, xn, 0⟩ = false := by
          unfold nodeB
          have : ¬ 0 ≤ xn := by omega
          simp [this]
        have hxd : decide (xn < 0) = true := decide_eq_true hx0
        clear hs
        have HN := hH (uH HBD (hn))
        go_wp2_with fail
        go_ret
        exact ⟨retv (boolv (uH HN).symm), uH HCH⟩
      have hxd : decide (xn < 0) = false := decide_eq_false hx0
      by_cases hxb : 1048576 < xn
      · have hn : nodeB ⟨31, s, xn, 0⟩ = false := by
          unfold nodeB
          have : ¬ xn ≤ 1048576 := by omega
          simp [this]
        have hxe : decide (1048576 < xn) = true := decide_eq_true hxb
        clear hs
        have HN := hH (uH HBD (hn))
        go_wp2_with fail
        go_ret
        exact ⟨retv (boolv (uH HN).symm), uH HCH⟩
      have hxe : decide (1048576 < xn) = false := decide_eq_false hxb
      have hn : nodeB ⟨31, s, xn, 0⟩ = true := by
        unfold nodeB
        have h1 : 0 ≤ xn := by omega
        have h2 : xn ≤ 1048576 := by omega
        simp [hs, h1, h2]
      clear hs
      have HN := hH (uH HNX (hn))
      go_wp2_with fail
      go_roundw
      case rel => exact ⟨k + 1, by go_num, by omega, uH HN, uH HCH⟩
      case measure => simp [intOf]; omega
    have HRC := hH (refRight_con s w3 hso)
    by_cases ht0 : s = ArrowT
    · have hnm : nameB 2 s = false := by rw [ht0]; exact name_arrow
      rw [hnm] at HRC
      have f0 := teq s [45, 62] true (decide_eq_true ht0)
      have f1 := teq s [105, 110, 116] false (decide_eq_false (show ¬ s = IntT by rw [ht0]; decide))
      have f2 := teq s [116, 101, 120, 116] false (decide_eq_false (show ¬ s = TextT by rw [ht0]; decide))
      have f3 := teq s [114, 101, 102] false (decide_eq_false (show ¬ s = RefT by rw [ht0]; decide))
      have HT0 := hH ht0
      clear ht0
      by_cases hkd : kd = 2
      · subst hkd
        go_upto_region 12 with (go_at_call 92; with_reducible refine (uH HRC).mono ?_; rintro e w4 ⟨rfl, hch⟩; have HC4 := hH ((uH HCH).trans' hch); (have hk := (uH HBK).chg hch id); (have y0 := hk.cell 0); (have y1 := hk.cell 1); (have y2 := hk.cell 2); (have y3 := hk.cell 3); simp only [List.getElem?_toArray, List.getElem?_cons_zero, List.getElem?_cons_succ] at y0 y1 y2 y3; clear hch hk)
        by_cases h32 : xk = 32
        rotate_left
        · have h32b : (xk == 32) = false := by rw [beq_eq_false_iff_ne]; exact h32
          have hn : nodeB ⟨xk, s, xn, 2⟩ = false := by unfold nodeB; rw [if_neg h31, if_pos (.inl h32)]
          have HN := hH (uH HBD (hn))
          go_wp2_with fail
          go_ret
          exact ⟨retv (boolv (uH HN).symm), uH HC4⟩
        by_cases hn0 : xn = 0
        rotate_left
        · have hn0b : (xn == 0) = false := by rw [beq_eq_false_iff_ne]; exact hn0
          have hn : nodeB ⟨xk, s, xn, 2⟩ = false := by unfold nodeB; rw [if_neg h31, if_pos (.inr hn0)]
          subst h32
          have HN := hH (uH HBD (hn))
          go_wp2_with fail
          go_ret
          exact ⟨retv (boolv (uH HN).symm), uH HC4⟩
        have hn : nodeB ⟨xk, s, xn, 2⟩ = true := by
          unfold nodeB
          rw [if_neg h31, if_neg (show ¬ (xk ≠ 32 ∨ xn ≠ 0) from fun h => h.elim (fun h => h h32) (fun h => h hn0))]
          rw [if_pos (uH HT0)]; rfl
        subst h32 hn0
        have HN := hH (uH HNX (hn))
        go_wp2_with fail
        go_roundw
        case rel => exact ⟨k + 1, by go_num, by omega, uH HN, uH HC4⟩
        case measure => simp [intOf]; omega
      · have hkb : (kd == 2) = false := by rw [beq_eq_false_iff_ne]; exact hkd
        go_upto_region 12 with (go_at_call 92; with_reducible refine (uH HRC).mono ?_; rintro e w4 ⟨rfl, hch⟩; have HC4 := hH ((uH HCH).trans' hch); (have hk := (uH HBK).chg hch id); (have y0 := hk.cell 0); (have y1 := hk.cell 1); (have y2 := hk.cell 2); (have y3 := hk.cell 3); simp only [List.getElem?_toArray, List.getElem?_cons_zero, List.getElem?_cons_succ] at y0 y1 y2 y3; clear hch hk)
        by_cases h32 : xk = 32
        rotate_left
        · have h32b : (xk == 32) = false := by rw [beq_eq_false_iff_ne]; exact h32
          have hn : nodeB ⟨xk, s, xn, kd⟩ = false := by unfold nodeB; rw [if_neg h31, if_pos (.inl h32)]
          have HN := hH (uH HBD (hn))
          go_wp2_with fail
          go_ret
          exact ⟨retv (boolv (uH HN).symm), uH HC4⟩
        by_cases hn0 : xn = 0
        rotate_left
        · have hn0b : (xn == 0) = false := by rw [beq_eq_false_iff_ne]; exact hn0
          have hn : nodeB ⟨xk, s, xn, kd⟩ = false := by unfold nodeB; rw [if_neg h31, if_pos (.inr hn0)]
          subst h32
          have HN := hH (uH HBD (hn))
          go_wp2_with fail
          go_ret
          exact ⟨retv (boolv (uH HN).symm), uH HC4⟩
        have hn : nodeB ⟨xk, s, xn, kd⟩ = false := by
          unfold nodeB
          rw [if_neg h31, if_neg (show ¬ (xk ≠ 32 ∨ xn ≠ 0) from fun h => h.elim (fun h => h h32) (fun h => h hn0))]
          rw [if_pos (uH HT0)]; exact hkb
        subst h32 hn0
        have HN := hH (uH HBD (hn))
        go_wp2_with fail
        go_ret
        exact ⟨retv (boolv (uH HN).symm), uH HC4⟩
    by_cases ht1 : s = IntT
    · have hnm : nameB 2 s = false := by rw [ht1]; exact name_int
      rw [hnm] at HRC
      have f0 := teq s [45, 62] false (decide_eq_false (show ¬ s = ArrowT by rw [ht1]; decide))
      have f1 := teq s [105, 110, 116] true (decide_eq_true ht1)
      have f2 := teq s [116, 101, 120, 116] false (decide_eq_false (show ¬ s = TextT by rw [ht1]; decide))
      have f3 := teq s [114, 101, 102] false (decide_eq_false (show ¬ s = RefT by rw [ht1]; decide))
      have HT1 := hH ht1
      clear ht1
      by_cases hkd : kd = 0
      · subst hkd
        go_upto_region 12 with (go_at_call 92; with_reducible refine (uH HRC).mono ?_; rintro e w4 ⟨rfl, hch⟩; have HC4 := hH ((uH HCH).trans' hch); (have hk := (uH HBK).chg hch id); (have y0 := hk.cell 0); (have y1 := hk.cell 1); (have y2 := hk.cell 2); (have y3 := hk.cell 3); simp only [List.getElem?_toArray, List.getElem?_cons_zero, List.getElem?_cons_succ] at y0 y1 y2 y3; clear hch hk)
        by_cases h32 : xk = 32
        rotate_left
        · have h32b : (xk == 32) = false := by rw [beq_eq_false_iff_ne]; exact h32
          have hn : nodeB ⟨xk, s, xn, 0⟩ = false := by unfold nodeB; rw [if_neg h31, if_pos (.inl h32)]
          have HN := hH (uH HBD (hn))
          go_wp2_with fail
          go_ret
          exact ⟨retv (boolv (uH HN).symm), uH HC4⟩
        by_cases hn0 : xn = 0
        rotate_left
        · have hn0b : (xn == 0) = false := by rw [beq_eq_false_iff_ne]; exact hn0
          have hn : nodeB ⟨xk, s, xn, 0⟩ = false := by unfold nodeB; rw [if_neg h31, if_pos (.inr hn0)]
          subst h32
          have HN := hH (uH HBD (hn))
          go_wp2_with fail
          go_ret
          exact ⟨retv (boolv (uH HN).symm), uH HC4⟩
        have hn : nodeB ⟨xk, s, xn, 0⟩ = true := by
          unfold nodeB
          rw [if_neg h31, if_neg (show ¬ (xk ≠ 32 ∨ xn ≠ 0) from fun h => h.elim (fun h => h h32) (fun h => h hn0))]
          rw [if_neg (show ¬ s = ArrowT by rw [(uH HT1)]; decide), if_pos (.inl (uH HT1))]; rfl
        subst h32 hn0
        have HN := hH (uH HNX (hn))
        go_wp2_with fail
        go_roundw
        case rel => exact ⟨k + 1, by go_num, by omega, uH HN, uH HC4⟩
        case measure => simp [intOf]; omega
      · have hkb : (kd == 0) = false := by rw [beq_eq_false_iff_ne]; exact hkd
        go_upto_region 12 with (go_at_call 92; with_reducible refine (uH HRC).mono ?_; rintro e w4 ⟨rfl, hch⟩; have HC4 := hH ((uH HCH).trans' hch); (have hk := (uH HBK).chg hch id); (have y0 := hk.cell 0); (have y1 := hk.cell 1); (have y2 := hk.cell 2); (have y3 := hk.cell 3); simp only [List.getElem?_toArray, List.getElem?_cons_zero, List.getElem?_cons_succ] at y0 y1 y2 y3; clear hch hk)
        by_cases h32 : xk = 32
        rotate_left
        · have h32b : (xk == 32) = false := by rw [beq_eq_false_iff_ne]; exact h32
          have hn : nodeB ⟨xk, s, xn, kd⟩ = false := by unfold nodeB; rw [if_neg h31, if_pos (.inl h32)]
          have HN := hH (uH HBD (hn))
          go_wp2_with fail
          go_ret
          exact ⟨retv (boolv (uH HN).symm), uH HC4⟩
        by_cases hn0 : xn = 0
        rotate_left
        · have hn0b : (xn == 0) = false := by rw [beq_eq_false_iff_ne]; exact hn0
          have hn : nodeB ⟨xk, s, xn, kd⟩ = false := by unfold nodeB; rw [if_neg h31, if_pos (.inr hn0)]
          subst h32
          have HN := hH (uH HBD (hn))
          go_wp2_with fail
          go_ret
          exact ⟨retv (boolv (uH HN).symm), uH HC4⟩
        have hn : nodeB ⟨xk, s, xn, kd⟩ = false := by
          unfold nodeB
          rw [if_neg h31, if_neg (show ¬ (xk ≠ 32 ∨ xn ≠ 0) from fun h => h.elim (fun h => h h32) (fun h => h hn0))]
          rw [if_neg (show ¬ s = ArrowT by rw [(uH HT1)]; decide), if_pos (.inl (uH HT1))]; exact hkb
        subst h32 hn0
        have HN := hH (uH HBD (hn))
        go_wp2_with fail
        go_ret
        exact ⟨retv (boolv (uH HN).symm), uH HC4⟩
    by_cases ht2 : s = TextT
    · have hnm : nameB 2 s = false := by rw [ht2]; exact name_text
      rw [hnm] at HRC
      have f0 := teq s [45, 62] false (decide_eq_false (show ¬ s = ArrowT by rw [ht2]; decide))
      have f1 := teq s [105, 110, 116] false (decide_eq_false (show ¬ s = IntT by rw [ht2]; decide))
      have f2 := teq s [116, 101, 120, 116] true (decide_eq_true ht2)
      have f3 := teq s [114, 101, 102] false (decide_eq_false (show ¬ s = RefT by rw [ht2]; decide))
      have HT2 := hH ht2
      clear ht2
      by_cases hkd : kd = 0
      · subst hkd
        go_upto_region 12 with (go_at_call 92; with_reducible refine (uH HRC).mono ?_; rintro e w4 ⟨rfl, hch⟩; have HC4 := hH ((uH HCH).trans' hch); (have hk := (uH HBK).chg hch id); (have y0 := hk.cell 0); (have y1 := hk.cell 1); (have y2 := hk.cell 2); (have y3 := hk.cell 3); simp only [List.getElem?_toArray, List.getElem?_cons_zero, List.getElem?_cons_succ] at y0 y1 y2 y3; clear hch hk)
        by_cases h32 : xk = 32
        rotate_left
        · have h32b : (xk == 32) = false := by rw [beq_eq_false_iff_ne]; exact h32
          have hn : nodeB ⟨xk, s, xn, 0⟩ = false := by unfold nodeB; rw [if_neg h31, if_pos (.inl h32)]
          have HN := hH (uH HBD (hn))
          go_wp2_with fail
          go_ret
          exact ⟨retv (boolv (uH HN).symm), uH HC4⟩
        by_cases hn0 : xn = 0
        rotate_left
        · have hn0b : (xn == 0) = false := by rw [beq_eq_false_iff_ne]; exact hn0
          have hn : nodeB ⟨xk, s, xn, 0⟩ = false := by unfold nodeB; rw [if_neg h31, if_pos (.inr hn0)]
          subst h32
          have HN := hH (uH HBD (hn))
          go_wp2_with fail
          go_ret
          exact ⟨retv (boolv (uH HN).symm), uH HC4⟩
        have hn : nodeB ⟨xk, s, xn, 0⟩ = true := by
          unfold nodeB
          rw [if_neg h31, if_neg (show ¬ (xk ≠ 32 ∨ xn ≠ 0) from fun h => h.elim (fun h => h h32) (fun h => h hn0))]
          rw [if_neg (show ¬ s = ArrowT by rw [(uH HT2)]; decide), if_pos (.inr (uH HT2))]; rfl
        subst h32 hn0
        have HN := hH (uH HNX (hn))
        go_wp2_with fail
        go_roundw
        case rel => exact ⟨k + 1, by go_num, by omega, uH HN, uH HC4⟩
        case measure => simp [intOf]; omega
      · have hkb : (kd == 0) = false := by rw [beq_eq_false_iff_ne]; exact hkd
        go_upto_region 12 with (go_at_call 92; with_reducible refine (uH HRC).mono ?_; rintro e w4 ⟨rfl, hch⟩; have HC4 := hH ((uH HCH).trans' hch); (have hk := (uH HBK).chg hch id); (have y0 := hk.cell 0); (have y1 := hk.cell 1); (have y2 := hk.cell 2); (have y3 := hk.cell 3); simp only [List.getElem?_toArray, List.getElem?_cons_zero, List.getElem?_cons_succ] at y0 y1 y2 y3; clear hch hk)
        by_cases h32 : xk = 32
        rotate_left
        · have h32b : (xk == 32) = false := by rw [beq_eq_false_iff_ne]; exact h32
          have hn : nodeB ⟨xk, s, xn, kd⟩ = false := by unfold nodeB; rw [if_neg h31, if_pos (.inl h32)]
          have HN := hH (uH HBD (hn))
          go_wp2_with fail
          go_ret
          exact ⟨retv (boolv (uH HN).symm), uH HC4⟩
        by_cases hn0 : xn = 0
        rotate_left
        · have hn0b : (xn == 0) = false := by rw [beq_eq_false_iff_ne]; exact hn0
          have hn : nodeB ⟨xk, s, xn, kd⟩ = false := by unfold nodeB; rw [if_neg h31, if_pos (.inr hn0)]
          subst h32
          have HN := hH (uH HBD (hn))
          go_wp2_with fail
          go_ret
          exact ⟨retv (boolv (uH HN).symm), uH HC4⟩
        have hn : nodeB ⟨xk, s, xn, kd⟩ = false := by
          unfold nodeB
          rw [if_neg h31, if_neg (show ¬ (xk ≠ 32 ∨ xn ≠ 0) from fun h => h.elim (fun h => h h32) (fun h => h hn0))]
          rw [if_neg (show ¬ s = ArrowT by rw [(uH HT2)]; decide), if_pos (.inr (uH HT2))]; exact hkb
        subst h32 hn0
        have HN := hH (uH HBD (hn))
        go_wp2_with fail
        go_ret
        exact ⟨retv (boolv (uH HN).symm), uH HC4⟩
    by_cases ht3 : s = RefT
    · have hnm : nameB 2 s = false := by rw [ht3]; exact name_ref
      rw [hnm] at HRC
      have f0 := teq s [45, 62] false (decide_eq_false (show ¬ s = ArrowT by rw [ht3]; decide))
      have f1 := teq s [105, 110, 116] false (decide_eq_false (show ¬ s = IntT by rw [ht3]; decide))
      have f2 := teq s [116, 101, 120, 116] false (decide_eq_false (show ¬ s = TextT by rw [ht3]; decide))
      have f3 := teq s [114, 101, 102] true (decide_eq_true ht3)
      have HT3 := hH ht3
      clear ht3
      by_cases hkd : kd = 1
      · subst hkd
        go_upto_region 12 with (go_at_call 92; with_reducible refine (uH HRC).mono ?_; rintro e w4 ⟨rfl, hch⟩; have HC4 := hH ((uH HCH).trans' hch); (have hk := (uH HBK).chg hch id); (have y0 := hk.cell 0); (have y1 := hk.cell 1); (have y2 := hk.cell 2); (have y3 := hk.cell 3); simp only [List.getElem?_toArray, List.getElem?_cons_zero, List.getElem?_cons_succ] at y0 y1 y2 y3; clear hch hk)
        by_cases h32 : xk = 32
        rotate_left
        · have h32b : (xk == 32) = false := by rw [beq_eq_false_iff_ne]; exact h32
          have hn : nodeB ⟨xk, s, xn, 1⟩ = false := by unfold nodeB; rw [if_neg h31, if_pos (.inl h32)]
          have HN := hH (uH HBD (hn))
          go_wp2_with fail
          go_ret
          exact ⟨retv (boolv (uH HN).symm), uH HC4⟩
        by_cases hn0 : xn = 0
        rotate_left
        · have hn0b : (xn == 0) = false := by rw [beq_eq_false_iff_ne]; exact hn0
          have hn : nodeB ⟨xk, s, xn, 1⟩ = false := by unfold nodeB; rw [if_neg h31, if_pos (.inr hn0)]
          subst h32
          have HN := hH (uH HBD (hn))
          go_wp2_with fail
          go_ret
          exact ⟨retv (boolv (uH HN).symm), uH HC4⟩
        have hn : nodeB ⟨xk, s, xn, 1⟩ = true := by
          unfold nodeB
          rw [if_neg h31, if_neg (show ¬ (xk ≠ 32 ∨ xn ≠ 0) from fun h => h.elim (fun h => h h32) (fun h => h hn0))]
          rw [if_neg (show ¬ s = ArrowT by rw [(uH HT3)]; decide), if_neg (show ¬ (s = IntT ∨ s = TextT) by rw [(uH HT3)]; decide), if_pos (uH HT3)]; rfl
        subst h32 hn0
        have HN := hH (uH HNX (hn))
        go_wp2_with fail
        go_roundw
        case rel => exact ⟨k + 1, by go_num, by omega, uH HN, uH HC4⟩
        case measure => simp [intOf]; omega
      · have hkb : (kd == 1) = false := by rw [beq_eq_false_iff_ne]; exact hkd
        go_upto_region 12 with (go_at_call 92; with_reducible refine (uH HRC).mono ?_; rintro e w4 ⟨rfl, hch⟩; have HC4 := hH ((uH HCH).trans' hch); (have hk := (uH HBK).chg hch id); (have y0 := hk.cell 0); (have y1 := hk.cell 1); (have y2 := hk.cell 2); (have y3 := hk.cell 3); simp only [List.getElem?_toArray, List.getElem?_cons_zero, List.getElem?_cons_succ] at y0 y1 y2 y3; clear hch hk)
        by_cases h32 : xk = 32
        rotate_left
        · have h32b : (xk == 32) = false := by rw [beq_eq_false_iff_ne]; exact h32
          have hn : nodeB ⟨xk, s, xn, kd⟩ = false := by unfold nodeB; rw [if_neg h31, if_pos (.inl h32)]
          have HN := hH (uH HBD (hn))
          go_wp2_with fail
          go_ret
          exact ⟨retv (boolv (uH HN).symm), uH HC4⟩
        by_cases hn0 : xn = 0
        rotate_left
        · have hn0b : (xn == 0) = false := by rw [beq_eq_false_iff_ne]; exact hn0
          have hn : nodeB ⟨xk, s, xn, kd⟩ = false := by unfold nodeB; rw [if_neg h31, if_pos (.inr hn0)]
          subst h32
          have HN := hH (uH HBD (hn))
          go_wp2_with fail
          go_ret
          exact ⟨retv (boolv (uH HN).symm), uH HC4⟩
        have hn : nodeB ⟨xk, s, xn, kd⟩ = false := by
          unfold nodeB
          rw [if_neg h31, if_neg (show ¬ (xk ≠ 32 ∨ xn ≠ 0) from fun h => h.elim (fun h => h h32) (fun h => h hn0))]
          rw [if_neg (show ¬ s = ArrowT by rw [(uH HT3)]; decide), if_neg (show ¬ (s = IntT ∨ s = TextT) by rw [(uH HT3)]; decide), if_pos (uH HT3)]; exact hkb
        subst h32 hn0
        have HN := hH (uH HBD (hn))
        go_wp2_with fail
        go_ret
        exact ⟨retv (boolv (uH HN).symm), uH HC4⟩
    have f0 := teq s [45, 62] false (decide_eq_false ht0)
    have f1 := teq s [105, 110, 116] false (decide_eq_false ht1)
    have f2 := teq s [116, 101, 120, 116] false (decide_eq_false ht2)
    have f3 := teq s [114, 101, 102] false (decide_eq_false ht3)
    cases hnm : nameB 2 s with
    | false =>
      rw [hnm] at HRC
      go_upto_region 12 with (go_at_call 92; with_reducible refine (uH HRC).mono ?_; rintro e w4 ⟨rfl, hch⟩; have HC4 := hH ((uH HCH).trans' hch); (have hk := (uH HBK).chg hch id); (have y0 := hk.cell 0); (have y1 := hk.cell 1); (have y2 := hk.cell 2); (have y3 := hk.cell 3); simp only [List.getElem?_toArray, List.getElem?_cons_zero, List.getElem?_cons_succ] at y0 y1 y2 y3; clear hch hk)
      by_cases h32 : xk = 32
      rotate_left
      · have h32b : (xk == 32) = false := by rw [beq_eq_false_iff_ne]; exact h32
        have hn : nodeB ⟨xk, s, xn, kd⟩ = false := by unfold nodeB; rw [if_neg h31, if_pos (.inl h32)]
        have HN := hH (uH HBD (hn))
        go_wp2_with fail
        go_ret
        exact ⟨retv (boolv (uH HN).symm), uH HC4⟩
      by_cases hn0 : xn = 0
      rotate_left
      · have hn0b : (xn == 0) = false := by rw [beq_eq_false_iff_ne]; exact hn0
        have hn : nodeB ⟨xk, s, xn, kd⟩ = false := by unfold nodeB; rw [if_neg h31, if_pos (.inr hn0)]
        subst h32
        have HN := hH (uH HBD (hn))
        go_wp2_with fail
        go_ret
        exact ⟨retv (boolv (uH HN).symm), uH HC4⟩
      have hn : nodeB ⟨xk, s, xn, kd⟩ = false := by
        unfold nodeB
        rw [if_neg h31, if_neg (show ¬ (xk ≠ 32 ∨ xn ≠ 0) from fun h => h.elim (fun h => h h32) (fun h => h hn0))]
        rw [if_neg ht0, if_neg (fun h => h.elim ht1 ht2), if_neg ht3]; simp [hnm]
      subst h32 hn0
      have HN := hH (uH HBD (hn))
      go_wp2_with fail
      go_ret
      exact ⟨retv (boolv (uH HN).symm), uH HC4⟩
    | true =>
      rw [hnm] at HRC
      by_cases hk8 : kd ≤ 8
      · have hk8d : decide (kd ≤ 8) = true := decide_eq_true hk8
        go_upto_region 12 with (go_at_call 92; with_reducible refine (uH HRC).mono ?_; rintro e w4 ⟨rfl, hch⟩; have HC4 := hH ((uH HCH).trans' hch); (have hk := (uH HBK).chg hch id); (have y0 := hk.cell 0); (have y1 := hk.cell 1); (have y2 := hk.cell 2); (have y3 := hk.cell 3); simp only [List.getElem?_toArray, List.getElem?_cons_zero, List.getElem?_cons_succ] at y0 y1 y2 y3; clear hch hk)
        by_cases h32 : xk = 32
        rotate_left
        · have h32b : (xk == 32) = false := by rw [beq_eq_false_iff_ne]; exact h32
          have hn : nodeB ⟨xk, s, xn, kd⟩ = false := by unfold nodeB; rw [if_neg h31, if_pos (.inl h32)]
          have HN := hH (uH HBD (hn))
          go_wp2_with fail
          go_ret
          exact ⟨retv (boolv (uH HN).symm), uH HC4⟩
        by_cases hn0 : xn = 0
        rotate_left
        · have hn0b : (xn == 0) = false := by rw [beq_eq_false_iff_ne]; exact hn0
          have hn : nodeB ⟨xk, s, xn, kd⟩ = false := by unfold nodeB; rw [if_neg h31, if_pos (.inr hn0)]
          subst h32
          have HN := hH (uH HBD (hn))
          go_wp2_with fail
          go_ret
          exact ⟨retv (boolv (uH HN).symm), uH HC4⟩
        have hn : nodeB ⟨xk, s, xn, kd⟩ = true := by
          unfold nodeB
          rw [if_neg h31, if_neg (show ¬ (xk ≠ 32 ∨ xn ≠ 0) from fun h => h.elim (fun h => h h32) (fun h => h hn0))]
          rw [if_neg ht0, if_neg (fun h => h.elim ht1 ht2), if_neg ht3]; simp [hnm, hk8]
        subst h32 hn0
        have HN := hH (uH HNX (hn))
        go_wp2_with fail
        go_roundw
        case rel => exact ⟨k + 1, by go_num, by omega, uH HN, uH HC4⟩
        case measure => simp [intOf]; omega
      · have hk8d : decide (kd ≤ 8) = false := decide_eq_false hk8
        go_upto_region 12 with (go_at_call 92; with_reducible refine (uH HRC).mono ?_; rintro e w4 ⟨rfl, hch⟩; have HC4 := hH ((uH HCH).trans' hch); (have hk := (uH HBK).chg hch id); (have y0 := hk.cell 0); (have y1 := hk.cell 1); (have y2 := hk.cell 2); (have y3 := hk.cell 3); simp only [List.getElem?_toArray, List.getElem?_cons_zero, List.getElem?_cons_succ] at y0 y1 y2 y3; clear hch hk)
        by_cases h32 : xk = 32
        rotate_left
        · have h32b : (xk == 32) = false := by rw [beq_eq_false_iff_ne]; exact h32
          have hn : nodeB ⟨xk, s, xn, kd⟩ = false := by unfold nodeB; rw [if_neg h31, if_pos (.inl h32)]
          have HN := hH (uH HBD (hn))
          go_wp2_with fail
          go_ret
          exact ⟨retv (boolv (uH HN).symm), uH HC4⟩
        by_cases hn0 : xn = 0
        rotate_left
        · have hn0b : (xn == 0) = false := by rw [beq_eq_false_iff_ne]; exact hn0
          have hn : nodeB ⟨xk, s, xn, kd⟩ = false := by unfold nodeB; rw [if_neg h31, if_pos (.inr hn0)]
          subst h32
          have HN := hH (uH HBD (hn))
          go_wp2_with fail
          go_ret
          exact ⟨retv (boolv (uH HN).symm), uH HC4⟩
        have hn : nodeB ⟨xk, s, xn, kd⟩ = false := by
          unfold nodeB
          rw [if_neg h31, if_neg (show ¬ (xk ≠ 32 ∨ xn ≠ 0) from fun h => h.elim (fun h => h h32) (fun h => h hn0))]
          rw [if_neg ht0, if_neg (fun h => h.elim ht1 ht2), if_neg ht3]; simp [hnm, hk8]
        subst h32 hn0
        have HN := hH (uH HBD (hn))
        go_wp2_with fail
        go_ret
        exact ⟨retv (boolv (uH HN).symm), uH HC4⟩
end Go.Proofs.YtinekmjengckdaaGreatDoor
