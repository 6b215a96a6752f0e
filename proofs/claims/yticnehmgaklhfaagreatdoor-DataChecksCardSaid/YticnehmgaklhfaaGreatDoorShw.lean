/-
  Layer 10, the program's side: the text of a type, put together out of its parts' texts.
-/
import Derived.Test.YticnehmgaklhfaaGreatDoorTypC
import Derived.Test.YticnehmgaklhfaaGreatDoorLow
import Derived.Deep.RegionHeld3
namespace Go.Proofs.YticnehmgaklhfaaGreatDoor
open Go.RowKit
set_option maxHeartbeats 1000000
set_option maxRecDepth 100000
theorem small0 (w : World) : Calls Tryz.prog 98 #[.int .i64 0] w fun e w' => e = .returned (.string ⟨#[48]⟩) ∧ w' = w := by
  go_enter Tryz.func98, Tryz.ntmps98
  go_wp2_with fail
  go_ret
  exact ⟨rfl, rfl⟩
theorem fmtI0 (w : World) : Calls Tryz.prog 92 #[.int .i64 0, .int .i64 10] w fun e w' => e = .returned (.string ⟨#[48]⟩) ∧ w' = w := by
  go_enter Tryz.func92, Tryz.ntmps92
  go_wp2_with (go_at_call 98; refine (small0 _).mono ?_; rintro e w2 ⟨rfl, rfl⟩)
  go_ret
  exact ⟨rfl, rfl⟩
theorem fmt0 (w : World) : Calls Tryz.prog 74 #[.int .i64 0, .int .i64 10] w fun e w' => e = .returned (.string ⟨#[48]⟩) ∧ w' = w := by
  go_enter Tryz.func74, Tryz.ntmps74
  go_wp2_with (go_at_call 92; refine (fmtI0 _).mono ?_; rintro e w2 ⟨rfl, rfl⟩)
  go_ret
  exact ⟨rfl, rfl⟩
/-- The text of the type at a place, and where that ends. -/
def ShowsAt (l : List Nd) (a : Nat) (s : ByteArray) (en : Nat) : Prop := ∀ (v : Value) (T : Nat → Prop) (w : World), RdN T w v l → Calls Tryz.prog 54 #[v, .int .i64 (a : Int)] w fun e w' => e = .returned (.tuple #[.string s, .int .i64 (en : Int)]) ∧ Chg (fun _ => False) w w'
def BrkAt (n : Nat) (x : Nd) (b : Bool) : Prop := ∀ w : World, Calls Tryz.prog n #[.agg #[.int .i64 x.kind, .string x.text, .int .i64 x.num, .int .i64 x.kids]] w fun e w' => e = .returned (.bool b) ∧ Chg (fun _ => False) w w'
theorem brk2 (x : Nd) : BrkAt 76 x (decide (x.text = ArrowT)) := by
  intro w
  have hc := (Chg.refl (fun _ => False) w).alloc (.cells #[.int .i64 x.kind, .string x.text, .int .i64 x.num, .int .i64 x.kids] 56)
  have b1 := (Blk.new w 56 #[.int .i64 x.kind, .string x.text, .int .i64 x.num, .int .i64 x.kids]).cell 1
  simp only [List.getElem?_toArray, List.getElem?_cons_zero, List.getElem?_cons_succ] at b1
  go_enter Tryz.func76, Tryz.ntmps76
  go_wp2_with fail
  go_ret
  exact ⟨retv (boolv (text_eq x.text [45, 62]).symm), hc⟩
theorem brk3 (x : Nd) : BrkAt 77 x false := by
  intro w
  go_enter Tryz.func77, Tryz.ntmps77
  go_wp2_with fail
  go_ret
  exact ⟨rfl, by first | exact Chg.refl _ _ | exact (Chg.refl _ _).alloc _⟩
theorem brk4 (x : Nd) : BrkAt 78 x (decide (0 < x.kids)) := by
  intro w
  have hc := (Chg.refl (fun _ => False) w).alloc (.cells #[.int .i64 x.kind, .string x.text, .int .i64 x.num, .int .i64 x.kids] 56)
  have b1 := (Blk.new w 56 #[.int .i64 x.kind, .string x.text, .int .i64 x.num, .int .i64 x.kids]).cell 3
  simp only [List.getElem?_toArray, List.getElem?_cons_zero, List.getElem?_cons_succ] at b1
  go_enter Tryz.func78, Tryz.ntmps78
  go_wp2_with fail
  go_ret
  exact ⟨rfl, hc⟩
theorem shows_var (l : List Nd) (a : Nat) (x : Nd) (hx : l[a]? = some x) (hk : x.kind = 31) (hn : x.num = 0) (hl : l.length ≤ 1000000) : ShowsAt l a ⟨#[39, 48]⟩ (a + 1) := by
  intro v T w hr
  have ha : (a : Int) < (l.length : Int) := by have := (List.getElem?_eq_some_iff.1 hx).1; omega
  have hw1 : wrap64 ((a : Int) + 1) = (a : Int) + 1 := w64 _ (by omega)
  obtain ⟨b, o, c, rfl, hTb, hns, c0, c1, c2, c3⟩ := hr.at_ hx
  have hb := World.block_lt_of_cell? w _ c0
  rw [hk] at c0
  rw [hn] at c2
  have b0 := ((Blk.new w 33 #[.slice (some ⟨b, o, none⟩) l.length c]).alloc (.cells #[.int .i64 ((a : Int) + 1)] 3)).alloc (.cells #[.int .i64 31, .string x.text, .int .i64 0, .int .i64 x.kids] 56)
  have b1 := (Blk.new_at (w.alloc (.cells #[.slice (some ⟨b, o, none⟩) l.length c] 33)) (w.heap.size + 1) 3 #[.int .i64 ((a : Int) + 1)] (by simp)).alloc (.cells #[.int .i64 31, .string x.text, .int .i64 0, .int .i64 x.kids] 56)
  have b2 := Blk.new_at ((w.alloc (.cells #[.slice (some ⟨b, o, none⟩) l.length c] 33)).alloc (.cells #[.int .i64 ((a : Int) + 1)] 3)) (w.heap.size + 1 + 1) 56 #[.int .i64 31, .string x.text, .int .i64 0, .int .i64 x.kids] (by simp)
  have hc3 : Chg (fun _ => False) w (((w.alloc (.cells #[.slice (some ⟨b, o, none⟩) l.length c] 33)).alloc (.cells #[.int .i64 ((a : Int) + 1)] 3)).alloc (.cells #[.int .i64 31, .string x.text, .int .i64 0, .int .i64 x.kids] 56)) := (((Chg.refl _ w).alloc _).alloc _).alloc _
  have HF := hide (fun W => fmt0 W)
  have q1 := b1.cell 0
  have q2 := b2.cell 2
  have q0 := b2.cell 0
  simp only [List.getElem?_toArray, List.getElem?_cons_zero, List.getElem?_cons_succ] at q0 q1 q2
  have HC := hide hc3
  clear hr hx hk hn b0 b1 b2 hc3 hTb
  go_enter Tryz.func54, Tryz.ntmps54
  go_wp2_with fail
  go_quiet ((go_at_call 74; exact Calls.quiet_of_same (unhide HF _)))
  go_wp2_with fail
  go_ret2
  exact ⟨rfl, (unhide HC).drewN _⟩
/-- The part that stands next: with brackets, where they are wanted. -/
def partS (q : Bool) (s : ByteArray) : ByteArray := if q then (⟨#[40]⟩ : ByteArray) ++ s ++ ⟨#[41]⟩ else s
theorem part_any (fn : Nat) (q : Bool) (l : List Nd) (v : Value) (a en : Nat) (s : ByteArray) (x : Nd) (T : Nat → Prop) (w : World) (gt ga : Nat) (hf : fn = 76 ∨ fn = 77 ∨ fn = 78) (hq : BrkAt fn x q) (hs : ShowsAt l a s en) (hr : RdN T w v l) (hx : l[a]? = some x) (hgt : Blk w gt 33 #[v]) (ai : Int) (hai : ai = (a : Int)) (hga : Blk w ga 3 #[.int .i64 ai]) (_hl : l.length ≤ 1000000) (hsz : s.size ≤ 1000) :
    Calls Tryz.prog 75 #[.func (.func fn) #[] #[], .pointer (some ⟨gt, 0, none⟩), .pointer (some ⟨ga, 0, none⟩)] w fun e w' => e = .returned (.string (partS q s)) ∧ Blk w' ga 3 #[.int .i64 (en : Int)] ∧ Chg (fun b => b = ga) w w' := by
  subst hai
  have ha : (a : Int) < (l.length : Int) := by have := (List.getElem?_eq_some_iff.1 hx).1; omega
  have HS := hide (fun W (hW : Chg (fun _ => False) w W) => hs v T W (hr.chg hW (fun _ _ _ => id)))
  obtain ⟨b, o, c, rfl, hTb, hns, c0, c1, c2, c3⟩ := hr.at_ hx
  have hc1 := (Chg.refl (fun _ => False) w).alloc (.cells #[.int .i64 x.kind, .string x.text, .int .i64 x.num, .int .i64 x.kids] 56)
  have bn := Blk.new w 56 #[.int .i64 x.kind, .string x.text, .int .i64 x.num, .int .i64 x.kids]
  have HQ := hide hq
  have t0 := hgt.cell 0
  have a0 := hga.cell 0
  have t1 := (hgt.chg hc1 id).cell 0
  have a1 := (hga.chg hc1 id).cell 0
  simp only [List.getElem?_toArray, List.getElem?_cons_zero] at t0 a0 t1 a1
  have HGA := hide (hga.chg hc1 id)
  have HGT := hide (hgt.chg hc1 id)
  have HBN := hide bn
  have hgn : w.heap.size ≠ ga := by have := hga.lt; omega
  have HC1 := hide hc1
  clear hr hx hq hs hgt hga hTb bn hc1
  have hs1 : ¬ 9223372036854775807 < 1 + s.size := by omega
  have hs2 : ¬ 9223372036854775807 < 1 + s.size + 1 := by omega
  rcases hf with rfl | rfl | rfl
  · go_enter Tryz.func75, Tryz.ntmps75
    go_wp2_with (first
      | (go_at_call 54; (with_reducible refine (unhide HS _ (unhide HC1)).mono ?_); rintro e w2 ⟨rfl, hch⟩; have HC2 := hide hch; (have fz := ((unhide HGA).chg hch id).frozen 0); (have a2 := ((unhide HGA).chg hch id).cell 0); (have n0 := ((unhide HBN).chg hch id).cell 0); (have n1 := ((unhide HBN).chg hch id).cell 1); (have n2 := ((unhide HBN).chg hch id).cell 2); (have n3 := ((unhide HBN).chg hch id).cell 3); simp only [List.getElem?_toArray, List.getElem?_cons_zero, List.getElem?_cons_succ] at a2 n0 n1 n2 n3; clear hch)
      | (go_at_call 76; refine (unhide HQ _).mono ?_; rintro e w3 ⟨rfl, hch⟩; have HC3 := hide hch; clear hch))
    all_goals go_ret
    all_goals (refine ⟨retv (congrArg Value.string (by simp_all [partS])), (((unhide HGA).chg (unhide HC2) id).set_ 0 _).chg (unhide HC3) id, (((unhide HC1).trans' (unhide HC2)).mono (S' := fun b => b = ga) (fun _ _ h => h.elim)).setCell (p := ⟨ga, 0, none⟩) (fun _ => rfl) _ |>.trans (unhide HC3) (fun _ _ h => h.elim)⟩)
  · go_enter Tryz.func75, Tryz.ntmps75
    go_wp2_with (first
      | (go_at_call 54; (with_reducible refine (unhide HS _ (unhide HC1)).mono ?_); rintro e w2 ⟨rfl, hch⟩; have HC2 := hide hch; (have fz := ((unhide HGA).chg hch id).frozen 0); (have a2 := ((unhide HGA).chg hch id).cell 0); (have n0 := ((unhide HBN).chg hch id).cell 0); (have n1 := ((unhide HBN).chg hch id).cell 1); (have n2 := ((unhide HBN).chg hch id).cell 2); (have n3 := ((unhide HBN).chg hch id).cell 3); simp only [List.getElem?_toArray, List.getElem?_cons_zero, List.getElem?_cons_succ] at a2 n0 n1 n2 n3; clear hch)
      | (go_at_call 77; refine (unhide HQ _).mono ?_; rintro e w3 ⟨rfl, hch⟩; have HC3 := hide hch; clear hch))
    all_goals go_ret
    all_goals (refine ⟨retv (congrArg Value.string (by simp_all [partS])), (((unhide HGA).chg (unhide HC2) id).set_ 0 _).chg (unhide HC3) id, (((unhide HC1).trans' (unhide HC2)).mono (S' := fun b => b = ga) (fun _ _ h => h.elim)).setCell (p := ⟨ga, 0, none⟩) (fun _ => rfl) _ |>.trans (unhide HC3) (fun _ _ h => h.elim)⟩)
  · go_enter Tryz.func75, Tryz.ntmps75
    go_wp2_with (first
      | (go_at_call 54; (with_reducible refine (unhide HS _ (unhide HC1)).mono ?_); rintro e w2 ⟨rfl, hch⟩; have HC2 := hide hch; (have fz := ((unhide HGA).chg hch id).frozen 0); (have a2 := ((unhide HGA).chg hch id).cell 0); (have n0 := ((unhide HBN).chg hch id).cell 0); (have n1 := ((unhide HBN).chg hch id).cell 1); (have n2 := ((unhide HBN).chg hch id).cell 2); (have n3 := ((unhide HBN).chg hch id).cell 3); simp only [List.getElem?_toArray, List.getElem?_cons_zero, List.getElem?_cons_succ] at a2 n0 n1 n2 n3; clear hch)
      | (go_at_call 78; refine (unhide HQ _).mono ?_; rintro e w3 ⟨rfl, hch⟩; have HC3 := hide hch; clear hch))
    all_goals go_ret
    all_goals (refine ⟨retv (congrArg Value.string (by simp_all [partS])), (((unhide HGA).chg (unhide HC2) id).set_ 0 _).chg (unhide HC3) id, (((unhide HC1).trans' (unhide HC2)).mono (S' := fun b => b = ga) (fun _ _ h => h.elim)).setCell (p := ⟨ga, 0, none⟩) (fun _ => rfl) _ |>.trans (unhide HC3) (fun _ _ h => h.elim)⟩)
theorem shows_arrow (l : List Nd) (a e1 en : Nat) (x x1 x2 : Nd) (s1 s2 : ByteArray) (hx : l[a]? = some x) (hk : x.kind ≠ 31) (ht : x.text = ArrowT) (hx1 : l[a + 1]? = some x1) (h1 : ShowsAt l (a + 1) s1 e1) (hx2 : l[e1]? = some x2) (h2 : ShowsAt l e1 s2 en) (hl : l.length ≤ 1000000) (hz1 : s1.size ≤ 500) (hz2 : s2.size ≤ 500) :
    ShowsAt l a (partS (decide (x1.text = ArrowT)) s1 ++ ⟨#[32, 45, 62, 32]⟩ ++ s2) en := by
  intro v T w hr
  have ha : (a : Int) < (l.length : Int) := by have := (List.getElem?_eq_some_iff.1 hx).1; omega
  have hw1 : wrap64 ((a : Int) + 1) = (a : Int) + 1 := w64 _ (by omega)
  obtain ⟨b, o, c, rfl, hTb, hns, c0, c1, c2, c3⟩ := hr.at_ hx
  have hb := World.block_lt_of_cell? w _ c0
  have b0 := ((Blk.new w 33 #[.slice (some ⟨b, o, none⟩) l.length c]).alloc (.cells #[.int .i64 ((a : Int) + 1)] 3)).alloc (.cells #[.int .i64 x.kind, .string x.text, .int .i64 x.num, .int .i64 x.kids] 56)
  have b1 := (Blk.new_at (w.alloc (.cells #[.slice (some ⟨b, o, none⟩) l.length c] 33)) (w.heap.size + 1) 3 #[.int .i64 ((a : Int) + 1)] (by simp)).alloc (.cells #[.int .i64 x.kind, .string x.text, .int .i64 x.num, .int .i64 x.kids] 56)
  have b2 := Blk.new_at ((w.alloc (.cells #[.slice (some ⟨b, o, none⟩) l.length c] 33)).alloc (.cells #[.int .i64 ((a : Int) + 1)] 3)) (w.heap.size + 1 + 1) 56 #[.int .i64 x.kind, .string x.text, .int .i64 x.num, .int .i64 x.kids] (by simp)
  have hc3 : Chg (fun _ => False) w (((w.alloc (.cells #[.slice (some ⟨b, o, none⟩) l.length c] 33)).alloc (.cells #[.int .i64 ((a : Int) + 1)] 3)).alloc (.cells #[.int .i64 x.kind, .string x.text, .int .i64 x.num, .int .i64 x.kids] 56)) := (((Chg.refl _ w).alloc _).alloc _).alloc _
  have HRW := hide (fun W (hW : Chg (fun b => b = w.heap.size + 1) (((w.alloc (.cells #[.slice (some ⟨b, o, none⟩) l.length c] 33)).alloc (.cells #[.int .i64 ((a : Int) + 1)] 3)).alloc (.cells #[.int .i64 x.kind, .string x.text, .int .i64 x.num, .int .i64 x.kids] 56)) W) => (hr.low.chg hc3 (fun _ _ _ => id)).chg hW (fun b hb _ e => by have := hb.2; omega))
  have q0 := b2.cell 0
  have q1 := b2.cell 1
  have q3 := b2.cell 3
  simp only [List.getElem?_toArray, List.getElem?_cons_zero, List.getElem?_cons_succ] at q0 q1 q3
  have HC := hide hc3
  have HB0 := hide b0
  have HB1 := hide b1
  have HB2 := hide b2
  have hn0 : ¬ w.heap.size = w.heap.size + 1 := by omega
  have hn2 : ¬ w.heap.size + 1 + 1 = w.heap.size + 1 := by omega
  have hz3 : (partS (decide (x1.text = ArrowT)) s1).size ≤ 502 := by
    unfold partS
    split
    · rw [ByteArray.size_append, ByteArray.size_append]
      show 1 + s1.size + 1 ≤ 502
      omega
    · omega
  have HP1 := hide (fun W (hW : Chg (fun b => b = w.heap.size + 1) (((w.alloc (.cells #[.slice (some ⟨b, o, none⟩) l.length c] 33)).alloc (.cells #[.int .i64 ((a : Int) + 1)] 3)).alloc (.cells #[.int .i64 x.kind, .string x.text, .int .i64 x.num, .int .i64 x.kids] 56)) W) (ga : Blk W (w.heap.size + 1) 3 #[.int .i64 ((a : Int) + 1)]) => part_any 76 (decide (x1.text = ArrowT)) l _ (a + 1) e1 s1 x1 _ W w.heap.size (w.heap.size + 1) (.inl rfl) (brk2 x1) h1 (unhide HRW W hW) hx1 ((unhide HB0).chg hW hn0) _ (by omega) ga hl (by omega))
  have HP2 := hide (fun W (hW : Chg (fun b => b = w.heap.size + 1) (((w.alloc (.cells #[.slice (some ⟨b, o, none⟩) l.length c] 33)).alloc (.cells #[.int .i64 ((a : Int) + 1)] 3)).alloc (.cells #[.int .i64 x.kind, .string x.text, .int .i64 x.num, .int .i64 x.kids] 56)) W) (ga : Blk W (w.heap.size + 1) 3 #[.int .i64 (e1 : Int)]) => part_any 77 false l _ e1 en s2 x2 _ W w.heap.size (w.heap.size + 1) (.inr (.inl rfl)) (brk3 x2) h2 (unhide HRW W hW) hx2 ((unhide HB0).chg hW hn0) _ (by omega) ga hl (by omega))
  have hP2 : partS false s2 = s2 := rfl
  rw [hP2] at HP2
  have htx := text_eq x.text [45, 62]
  rw [decide_eq_true (show x.text = ⟨[45, 62].toArray⟩ from ht)] at htx
  have htx2 := htx.symm
  have HZ := hide (show ∀ p : ByteArray, p.size ≤ 502 → (¬ 9223372036854775807 < p.size + 4) ∧ ¬ 9223372036854775807 < p.size + 4 + s2.size from fun p hp => ⟨by omega, by omega⟩)
  obtain ⟨z1, z2⟩ := unhide HZ _ hz3
  generalize partS (decide (x1.text = ArrowT)) s1 = p1 at *
  clear hr hx hTb hx1 hx2 h1 h2 ht htx b0 b1 b2 hc3 hP2 hz1 hz2 hz3
  go_enter Tryz.func54, Tryz.ntmps54
  go_upto_region 7 with fail
  generalize ((w.alloc (.cells #[.slice (some ⟨b, o, none⟩) l.length c] 33)).alloc (.cells #[.int .i64 ((a : Int) + 1)] 3)).alloc (.cells #[.int .i64 x.kind, .string x.text, .int .i64 x.num, .int .i64 x.kids] 56) = W0 at *
  go_wp2_with (first
    | (go_at_call 75; with_reducible refine (unhide HP1 _ (Chg.refl _ _) (unhide HB1)).mono ?_; rintro e w3 ⟨rfl, hb3, hc3⟩; have HG3 := hide hb3; have HC3 := hide hc3; clear hb3 hc3)
    | (go_at_call 75; with_reducible refine (unhide HP2 _ (unhide HC3) (unhide HG3)).mono ?_; rintro e w4 ⟨rfl, hb4, hc4⟩; (have g4 := hb4.cell 0); simp only [List.getElem?_toArray, List.getElem?_cons_zero] at g4; have HC4 := hide hc4; clear hb4 hc4))
  go_quiet (fail)
  go_wp2_with fail
  go_ret2
  exact ⟨rfl, ((unhide HC).trans ((unhide HC3).trans' (unhide HC4)) (fun i hi e => by omega)).drewN _⟩
theorem shows_one (l : List Nd) (a en : Nat) (x x1 : Nd) (s1 : ByteArray) (hx : l[a]? = some x) (hk : x.kind ≠ 31) (ht : x.text ≠ ArrowT) (hkd : x.kids = 1) (hx1 : l[a + 1]? = some x1) (h1 : ShowsAt l (a + 1) s1 en) (hl : l.length ≤ 1000000) (hz : x.text.size ≤ 500) (hz1 : s1.size ≤ 500) :
    ShowsAt l a (x.text ++ (⟨#[32]⟩ ++ partS (decide (0 < x1.kids)) s1)) en := by
  intro v T w hr
  have ha : (a : Int) < (l.length : Int) := by have := (List.getElem?_eq_some_iff.1 hx).1; omega
  have hw1 : wrap64 ((a : Int) + 1) = (a : Int) + 1 := w64 _ (by omega)
  obtain ⟨b, o, c, rfl, hTb, hns, c0, c1, c2, c3⟩ := hr.at_ hx
  have hb := World.block_lt_of_cell? w _ c0
  rw [hkd] at c3
  have b0 := ((Blk.new w 33 #[.slice (some ⟨b, o, none⟩) l.length c]).alloc (.cells #[.int .i64 ((a : Int) + 1)] 3)).alloc (.cells #[.int .i64 x.kind, .string x.text, .int .i64 x.num, .int .i64 1] 56)
  have b1 := (Blk.new_at (w.alloc (.cells #[.slice (some ⟨b, o, none⟩) l.length c] 33)) (w.heap.size + 1) 3 #[.int .i64 ((a : Int) + 1)] (by simp)).alloc (.cells #[.int .i64 x.kind, .string x.text, .int .i64 x.num, .int .i64 1] 56)
  have b2 := Blk.new_at ((w.alloc (.cells #[.slice (some ⟨b, o, none⟩) l.length c] 33)).alloc (.cells #[.int .i64 ((a : Int) + 1)] 3)) (w.heap.size + 1 + 1) 56 #[.int .i64 x.kind, .string x.text, .int .i64 x.num, .int .i64 1] (by simp)
  have hc3 : Chg (fun _ => False) w (((w.alloc (.cells #[.slice (some ⟨b, o, none⟩) l.length c] 33)).alloc (.cells #[.int .i64 ((a : Int) + 1)] 3)).alloc (.cells #[.int .i64 x.kind, .string x.text, .int .i64 x.num, .int .i64 1] 56)) := (((Chg.refl _ w).alloc _).alloc _).alloc _
  have HRW := hide (fun W (hW : Chg (fun b => b = w.heap.size + 1) (((w.alloc (.cells #[.slice (some ⟨b, o, none⟩) l.length c] 33)).alloc (.cells #[.int .i64 ((a : Int) + 1)] 3)).alloc (.cells #[.int .i64 x.kind, .string x.text, .int .i64 x.num, .int .i64 1] 56)) W) => (hr.low.chg hc3 (fun _ _ _ => id)).chg hW (fun b hb _ e => by have := hb.2; omega))
  have q0 := b2.cell 0
  have q1 := b2.cell 1
  have q3 := b2.cell 3
  simp only [List.getElem?_toArray, List.getElem?_cons_zero, List.getElem?_cons_succ] at q0 q1 q3
  have HC := hide hc3
  have HB0 := hide b0
  have HB1 := hide b1
  have HB2 := hide b2
  have hn0 : ¬ w.heap.size = w.heap.size + 1 := by omega
  have hn2 : ¬ w.heap.size + 1 + 1 = w.heap.size + 1 := by omega
  have hz3 : (partS (decide (0 < x1.kids)) s1).size ≤ 502 := by
    unfold partS
    split
    · rw [ByteArray.size_append, ByteArray.size_append]
      show 1 + s1.size + 1 ≤ 502
      omega
    · omega
  have HP1 := hide (fun W (hW : Chg (fun b => b = w.heap.size + 1) (((w.alloc (.cells #[.slice (some ⟨b, o, none⟩) l.length c] 33)).alloc (.cells #[.int .i64 ((a : Int) + 1)] 3)).alloc (.cells #[.int .i64 x.kind, .string x.text, .int .i64 x.num, .int .i64 1] 56)) W) (ga : Blk W (w.heap.size + 1) 3 #[.int .i64 ((a : Int) + 1)]) => part_any 78 (decide (0 < x1.kids)) l _ (a + 1) en s1 x1 _ W w.heap.size (w.heap.size + 1) (.inr (.inr rfl)) (brk4 x1) h1 (unhide HRW W hW) hx1 ((unhide HB0).chg hW hn0) _ (by omega) ga hl (by omega))
  have htx := text_eq x.text [45, 62]
  rw [decide_eq_false (show ¬ x.text = ⟨[45, 62].toArray⟩ from ht)] at htx
  have htx2 := htx.symm
  have HZ := hide (show ∀ p : ByteArray, p.size ≤ 502 → (¬ 9223372036854775807 < 1 + p.size) ∧ ¬ 9223372036854775807 < x.text.size + (1 + p.size) from fun p hp => ⟨by omega, by omega⟩)
  obtain ⟨z1, z2⟩ := unhide HZ _ hz3
  generalize partS (decide (0 < x1.kids)) s1 = p1 at *
  clear hkd hr hx hTb hx1 h1 ht htx b0 b1 b2 hc3 hz1 hz3
  go_enter Tryz.func54, Tryz.ntmps54
  go_wp2_with fail
  generalize ((w.alloc (.cells #[.slice (some ⟨b, o, none⟩) l.length c] 33)).alloc (.cells #[.int .i64 ((a : Int) + 1)] 3)).alloc (.cells #[.int .i64 x.kind, .string x.text, .int .i64 x.num, .int .i64 1] 56) = W0 at *
  go_loopw [10, 42] (fun s k wr => Chg (fun b => b = w.heap.size + 1) W0 wr ∧ ((k = .int .i64 0 ∧ s = .string x.text ∧ Blk wr (w.heap.size + 1) 3 #[.int .i64 ((a : Int) + 1)]) ∨ (k = .int .i64 1 ∧ s = .string (x.text ++ (⟨#[32]⟩ ++ p1)) ∧ Blk wr (w.heap.size + 1) 3 #[.int .i64 (en : Int)]))) (fun _ k _ => 1 - (intOf k).toNat)
  case atStart => exact ⟨Chg.refl _ _, .inl ⟨rfl, rfl, unhide HB1⟩⟩
  case round =>
    obtain ⟨wq, rfl⟩ : ∃ wq : World, wq = wr := ⟨_, rfl⟩
    obtain ⟨hch, ⟨rfl, rfl, hb⟩ | ⟨rfl, rfl, hb⟩⟩ := hrel
    · have HW := hide hch
      have HBQ := hide hb
      have HP := hide (unhide HP1 _ hch hb)
      clear hch hb HP1
      go_wp2_with (go_at_call 75; with_reducible refine (unhide HP).mono ?_; rintro e w3 ⟨rfl, hb3, hc3⟩; have HG3 := hide hb3; have HC3 := hide hc3; clear hb3 hc3)
      go_roundw
      case rel => exact ⟨(unhide HW).trans' (unhide HC3), .inr ⟨rfl, rfl, unhide HG3⟩⟩
      case measure => simp [intOf]
    · have HW := hide hch
      have g0 := hb.cell 0
      simp only [List.getElem?_toArray, List.getElem?_cons_zero] at g0
      clear hch hb HP1
      go_wp2_with fail
      go_quiet (fail)
      go_wp2_with fail
      go_ret2
      exact ⟨rfl, ((unhide HC).trans (unhide HW) (fun i hi e => by omega)).drewN _⟩
end Go.Proofs.YticnehmgaklhfaaGreatDoor
